/-
  The plain law of PlanLeast: what is chosen reads no lost column, none of what is at hand but for parities, and no other way reads fewer.
-/
import Derived.Test.YtghefhmncpmflaaDoorPlan6
import Derived.Test.YtghefhmncpmflaaDoorPlan8
namespace Go.Proofs.YtghefhmncpmflaaDoor

theorem eq_zero_iff (n : Nat) : n = 0 ↔ ∀ i, n.testBit i = false :=
  ⟨fun h i => by rw [h, Nat.zero_testBit], fun h => Nat.eq_of_testBit_eq (fun i => by rw [h i, Nat.zero_testBit])⟩
theorem lessN_zero (x y : Nat) : lessN x y = 0 ↔ ∀ i, x.testBit i = true → y.testBit i = true := by
  rw [eq_zero_iff]
  refine forall_congr' fun i => ?_
  rw [testBit_lessN]
  cases x.testBit i <;> cases y.testBit i <;> simp
theorem andN_zero (x y : Nat) : andN x y = 0 ↔ ∀ i, x.testBit i = true → y.testBit i = false := by
  rw [eq_zero_iff]
  refine forall_congr' fun i => ?_
  show (x &&& y).testBit i = false ↔ _
  rw [Nat.testBit_and]
  cases x.testBit i <;> cases y.testBit i <;> simp
theorem testBit_all (d i : Nat) : (2 ^ d - 1).testBit i = decide (i < d) := Nat.testBit_two_pow_sub_one d i
theorem testBit_ends (d i : Nat) : (2 ^ d ||| 2 ^ (d + 1)).testBit i = (decide (i = d) || decide (i = d + 1)) := by
  rw [Nat.testBit_or, Nat.testBit_two_pow, Nat.testBit_two_pow]
  rw [Bool.eq_iff_iff]; simp; omega

theorem bestL_mem : ∀ (L : List (Nat × Nat)), L ≠ [] → bestL L ∈ L := by
  have key : ∀ (L : List (Nat × Nat)) (m : Nat × Nat), L.foldl bestF m = m ∨ L.foldl bestF m ∈ L := by
    intro L
    induction L with
    | nil => intro m; exact .inl rfl
    | cons q L ih =>
      intro m
      rw [List.foldl_cons]
      rcases ih (bestF m q) with h | h
      · rw [h]
        unfold bestF
        split
        · exact .inr (List.mem_cons_self ..)
        · exact .inl rfl
      · exact .inr (List.mem_cons_of_mem _ h)
  intro L hL
  cases L with
  | nil => exact absurd rfl hL
  | cons m L =>
    rcases key L m with h | h
    · show L.foldl bestF m ∈ _
      rw [h]; exact List.mem_cons_self ..
    · exact List.mem_cons_of_mem _ h

theorem bestL_min : ∀ (L : List (Nat × Nat)) (q : Nat × Nat), q ∈ L → pop 64 (bestL L).2 ≤ pop 64 q.2 := by
  have key : ∀ (L : List (Nat × Nat)) (m : Nat × Nat), pop 64 (L.foldl bestF m).2 ≤ pop 64 m.2 ∧ ∀ q ∈ L, pop 64 (L.foldl bestF m).2 ≤ pop 64 q.2 := by
    intro L
    induction L with
    | nil => intro m; exact ⟨Nat.le_refl _, fun q h => by cases h⟩
    | cons p L ih =>
      intro m
      rw [List.foldl_cons]
      obtain ⟨h1, h2⟩ := ih (bestF m p)
      have hb : pop 64 (bestF m p).2 ≤ pop 64 m.2 ∧ pop 64 (bestF m p).2 ≤ pop 64 p.2 := by
        unfold bestF; split <;> omega
      refine ⟨by omega, fun q hq => ?_⟩
      rcases List.mem_cons.1 hq with rfl | hq
      · omega
      · exact h2 q hq
  intro L q hq
  cases L with
  | nil => cases hq
  | cons m L =>
    obtain ⟨h1, h2⟩ := key L m
    rcases List.mem_cons.1 hq with rfl | hq
    · exact h1
    · exact h2 q hq

/-- A first one that reads nothing is chosen. -/
theorem bestL_first (k : Nat) (L : List (Nat × Nat)) : bestL ((k, 0) :: L) = (k, 0) := by
  show L.foldl bestF (k, 0) = (k, 0)
  induction L with
  | nil => rfl
  | cons p L ih =>
    rw [List.foldl_cons]
    have : bestF (k, 0) p = (k, 0) := by
      unfold bestF
      rw [show pop 64 ((k, 0) : Nat × Nat).2 = 0 from pop_zero 64, if_neg (by omega)]
    rw [this, ih]

theorem mem_waysL {D E x h k l : Nat} {q : Nat × Nat} (hq : q ∈ waysL D E x h k l) :
    (h = D ∧ q = (0, 0)) ∨ (andN (lessN D h) l = 0 ∧ q = (1, lessN D h)) ∨ (andN (lessN x k) l = 0 ∧ q = (2, orN (lessN x k) (lessN E l))) ∨ q = (3, lessN (orN D E) l) := by
  unfold waysL at hq
  simp only [List.mem_append, List.mem_ite_nil_right, List.mem_singleton, Bool.and_eq_true, beq_iff_eq] at hq
  rcases hq with ⟨h1, h2⟩ | ⟨⟨_, h1⟩, h2⟩ | ⟨⟨h1, _⟩, h2⟩ | h2
  · exact .inl ⟨h1, h2⟩
  · exact .inr (.inl ⟨h1, h2⟩)
  · exact .inr (.inr (.inl ⟨h1, h2⟩))
  · exact .inr (.inr (.inr h2))

theorem less_and (x y : Nat) : andN (lessN x y) y = 0 := by
  rw [andN_zero]
  intro i hi
  rw [testBit_lessN] at hi
  cases hy : y.testBit i with
  | false => rfl
  | true => rw [hy] at hi; simp at hi
theorem or_and (x y z : Nat) (h1 : andN x z = 0) (h2 : andN y z = 0) : andN (orN x y) z = 0 := by
  rw [andN_zero] at *
  intro i hi
  rw [show orN x y = x ||| y from rfl, Nat.testBit_or, Bool.or_eq_true] at hi
  exact hi.elim (h1 i) (h2 i)

theorem ways_lost {D E x h k l : Nat} {q : Nat × Nat} (hq : q ∈ waysL D E x h k l) : andN q.2 l = 0 := by
  rcases mem_waysL hq with ⟨_, rfl⟩ | ⟨h1, rfl⟩ | ⟨h1, rfl⟩ | rfl
  · exact Nat.zero_and _
  · exact h1
  · exact or_and _ _ _ h1 (less_and _ _)
  · exact less_and _ _
theorem ways_have {D E x h k l : Nat} {q : Nat × Nat} (hq : q ∈ waysL D E x h k l) (h1 : q.1 = 1) : andN q.2 h = 0 := by
  rcases mem_waysL hq with ⟨_, rfl⟩ | ⟨_, rfl⟩ | ⟨_, rfl⟩ | rfl
  · cases h1
  · exact less_and _ _
  · cases h1
  · cases h1
theorem ways_known {d x h k l : Nat} {q : Nat × Nat} (hk : lessN k (2 ^ d - 1) = 0) (hq : q ∈ waysL (2 ^ d - 1) (2 ^ d ||| 2 ^ (d + 1)) x h k l) (h1 : q.1 = 2) : andN q.2 k = 0 := by
  rcases mem_waysL hq with ⟨_, rfl⟩ | ⟨_, rfl⟩ | ⟨_, rfl⟩ | rfl
  · cases h1
  · cases h1
  · refine or_and _ _ _ (less_and _ _) ?_
    rw [andN_zero]
    rw [lessN_zero] at hk
    intro i hi
    rw [testBit_lessN, testBit_ends] at hi
    have hk2 := hk i
    rw [testBit_all] at hk2
    cases hb : k.testBit i with
    | false => rfl
    | true =>
      have := hk2 hb
      simp at this hi
      omega
  · cases h1
theorem ways_full {D E x h k l : Nat} : (bestL (waysL D E x h k l)).1 = 0 ↔ h = D := by
  constructor
  · intro h1
    have hne : waysL D E x h k l ≠ [] := by have := (waysL_ne D E x h k l).1; intro e; rw [e] at this; simp at this
    rcases mem_waysL (bestL_mem _ hne) with ⟨h2, _⟩ | ⟨_, h2⟩ | ⟨_, h2⟩ | h2
    · exact h2
    all_goals (rw [h2] at h1; cases h1)
  · intro h1
    unfold waysL
    rw [if_pos (by simpa using h1)]
    rw [List.singleton_append, bestL_first]
theorem ways_full0 {D E x h k l : Nat} (h1 : h = D) : (bestL (waysL D E x h k l)).2 = 0 := by
  unfold waysL
  rw [if_pos (by simpa using h1)]
  rw [List.singleton_append, bestL_first]

theorem pop_or (w s i : Nat) (hs : s < 2 ^ i) (hi : i < w) : pop w (s ||| 2 ^ i) = pop w s + 1 := by
  have e : s ||| 2 ^ i = 2 ^ i + s := by
    have := Nat.two_pow_add_eq_or_of_lt hs 1
    rw [Nat.mul_one] at this
    rw [Nat.or_comm, ← this]
  obtain ⟨j, rfl⟩ : ∃ j, w = i + (j + 1) := ⟨w - i - 1, by omega⟩
  rw [e, pop_add, pop_add i (j + 1) s, Nat.div_eq_of_lt hs, pop_zero, ← pop_mod i (2 ^ i + s), Nat.add_mod_left, pop_mod]
  have : (2 ^ i + s) / 2 ^ i = 1 := by
    rw [Nat.add_div_left _ (Nat.pow_pos (by decide)), Nat.div_eq_of_lt hs]
  rw [this]
  simp [pop, pop_zero]

theorem pop_lost (l m : Nat) (hm : m ≤ 64) : pop 64 (lostF l m).1 = (lostF l m).2 := by
  induction m with
  | zero => exact pop_zero 64
  | succ m ih =>
    rw [lostF_succ]
    unfold stepL
    split
    · rw [pop_or 64 _ _ (lostF_lt l m) (by omega), ih (by omega)]
    · exact ih (by omega)

theorem good_good (d : Int) (x h k l : Nat) : goodS (2 ^ gD d - 1) (2 ^ gD d ||| 2 ^ (gD d + 1)) (gX (2 ^ gD d - 1) x) (orN (andN h (2 ^ gD d - 1)) (gX (2 ^ gD d - 1) x)) (andN k (2 ^ gD d - 1)) (lostF l (gD d + 2)).1 = true := by
  have hD : 2 ≤ gD d ∧ gD d ≤ 7 := by unfold gD; omega
  generalize gD d = D at *
  have hA1 : ∀ i, (2 ^ D - 1).testBit i = decide (i < D) := testBit_all D
  have hE1 : ∀ i, (2 ^ D ||| 2 ^ (D + 1)).testBit i = (decide (i = D) || decide (i = D + 1)) := testBit_ends D
  have hx0 : gX (2 ^ D - 1) x ≠ 0 := by unfold gX; split <;> simp_all
  have hxA : ∀ i, (gX (2 ^ D - 1) x).testBit i = true → i < D := by
    intro i hi
    unfold gX at hi
    split at hi
    · rw [Nat.testBit_one_eq_true_iff_self_eq_zero] at hi; omega
    · rw [show andN x (2 ^ D - 1) = x &&& (2 ^ D - 1) from rfl, Nat.testBit_and, hA1] at hi
      simp at hi; exact hi.2
  unfold goodS
  have c1 : lessN (gX (2 ^ D - 1) x) (orN (andN h (2 ^ D - 1)) (gX (2 ^ D - 1) x)) = 0 := by
    rw [lessN_zero]
    intro i hi
    rw [show ∀ a b, orN a b = a ||| b from fun _ _ => rfl, Nat.testBit_or, hi, Bool.or_true]
  have c2 : lessN (orN (andN h (2 ^ D - 1)) (gX (2 ^ D - 1) x)) (2 ^ D - 1) = 0 := by
    rw [lessN_zero]
    intro i hi
    rw [show ∀ a b, orN a b = a ||| b from fun _ _ => rfl, Nat.testBit_or, show ∀ a b, andN a b = a &&& b from fun _ _ => rfl, Nat.testBit_and, hA1] at hi
    rw [hA1]
    have := hxA i
    simp at hi ⊢
    rcases hi with hi | hi
    · exact hi.2
    · exact this hi
  have c3 : lessN (andN k (2 ^ D - 1)) (2 ^ D - 1) = 0 := by
    rw [lessN_zero]
    intro i hi
    rw [show ∀ a b, andN a b = a &&& b from fun _ _ => rfl, Nat.testBit_and] at hi
    simp only [Bool.and_eq_true] at hi
    exact hi.2
  have c4 : lessN (lostF l (D + 2)).1 ((2 ^ D - 1) ||| (2 ^ D ||| 2 ^ (D + 1))) = 0 := by
    rw [lessN_zero]
    intro i hi
    have hlt : i < D + 2 := by
      rcases Nat.lt_or_ge i (D + 2) with h | h
      · exact h
      · have := Nat.testBit_lt_two_pow (Nat.lt_of_lt_of_le (lostF_lt l (D + 2)) (Nat.pow_le_pow_right (by decide) h))
        rw [this] at hi; cases hi
    rw [Nat.testBit_or, hA1, hE1]
    simp; omega
  rw [c1, c2, c3, c4, pop_lost l (D + 2) (by omega)]
  have := lostF_le l (D + 2)
  simp [hx0, this]
end Go.Proofs.YtghefhmncpmflaaDoor
