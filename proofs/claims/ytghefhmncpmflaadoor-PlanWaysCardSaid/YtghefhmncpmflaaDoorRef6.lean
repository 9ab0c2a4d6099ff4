/-
  Plain law: the document's Good, Way and Choose over flags say what the program's say over words.
-/
import Derived.Test.YtghefhmncpmflaaDoorRef5
import Derived.Test.YtghefhmncpmflaaDoorPlan12
namespace Go.Proofs.YtghefhmncpmflaaDoor
open Go.RowKit Go.Rg

/-- The document's list of ways: kinds, and what they read. -/
def kindsR (D : Nat) (A B C E : Nat → Bool) (n : Nat) : List Nat := (List.range n).filter fun k => wayOk k D A B C E
def wordR (D : Nat) (A B C E : Nat → Bool) (k : Nat) : Nat × Nat := (k, numF (upR k D A B C E (D + 2)) 32)

theorem cnt_shift (f : Nat → Bool) (n : Nat) : cntF f (n + 1) = (if f 0 then 1 else 0) + cntF (fun i => f (i + 1)) n := by
  induction n with
  | zero => simp [cntF]
  | succ n ih =>
    rw [show cntF f (n + 1 + 1) = cntF f (n + 1) + (if f (n + 1) then 1 else 0) from rfl, ih]
    simp only [cntF]; omega
theorem pop_cnt (w x : Nat) : pop w x = cntF x.testBit w := by
  induction w generalizing x with
  | zero => rfl
  | succ w ih =>
    rw [cnt_shift]
    simp only [pop]
    rw [ih (x / 2)]
    congr 1
    · have h := Nat.testBit_zero x
      rw [h]
      rcases Nat.mod_two_eq_zero_or_one x with e | e <;> simp [e]
    · congr 1
      funext i
      rw [Nat.testBit_succ]
theorem cnt_congr {f g : Nat → Bool} (n : Nat) (h : ∀ i, i < n → f i = g i) : cntF f n = cntF g n := by
  induction n with
  | zero => rfl
  | succ n ih => simp only [cntF]; rw [ih (fun i hi => h i (by omega)), h n (by omega)]
theorem cnt_zero {f : Nat → Bool} {n : Nat} : cntF f n = 0 ↔ ∀ i, i < n → f i = false := by
  induction n with
  | zero => simp [cntF]
  | succ n ih =>
    simp only [cntF]
    constructor
    · intro h i hi
      have h1 : cntF f n = 0 := by omega
      by_cases e : i = n
      · subst e
        cases hf : f i with
        | false => rfl
        | true => rw [hf] at h; simp at h
      · exact ih.1 h1 i (by omega)
    · intro h
      rw [ih.2 (fun i hi => h i (by omega)), h n (by omega)]; rfl
theorem cnt_more (f : Nat → Bool) (n m : Nat) (h : ∀ i, n ≤ i → f i = false) (hm : n ≤ m) : cntF f m = cntF f n := by
  induction m with
  | zero => rw [show n = 0 by omega]
  | succ m ih =>
    by_cases e : n = m + 1
    · rw [e]
    · simp only [cntF]
      rw [ih (by omega), h m (by omega)]; simp
theorem testBit_numF (f : Nat → Bool) (n i : Nat) : (numF f n).testBit i = (decide (i < n) && f i) := by
  induction n with
  | zero => simp [numF]
  | succ n ih =>
    simp only [numF]
    rw [Nat.testBit_or, ih]
    by_cases e : i = n
    · subst e
      cases h : f i <;> simp [Nat.one_shiftLeft]
    · have e2 : ¬ n = i := fun h => e h.symm
      have : (if f n = true then 1 <<< n else 0).testBit i = false := by
        split
        · rw [Nat.one_shiftLeft, Nat.testBit_two_pow]; simpa using e2
        · exact Nat.zero_testBit i
      rw [this, Bool.or_false]
      congr 1
      rw [Bool.eq_iff_iff, decide_eq_true_eq, decide_eq_true_eq]; omega
theorem numF_eq {f : Nat → Bool} {n x : Nat} (h : ∀ i, x.testBit i = (decide (i < n) && f i)) : numF f n = x :=
  Nat.eq_of_testBit_eq (fun i => by rw [testBit_numF, h])
theorem high_zero (n : Nat) : (n / 4294967296 != 0) = false ↔ ∀ i, 32 ≤ i → n.testBit i = false := by
  have e : n / 4294967296 = n >>> 32 := by rw [Nat.shiftRight_eq_div_pow]
  rw [e]
  constructor
  · intro h i hi
    have h0 : n >>> 32 = 0 := by simpa using h
    have := congrArg (fun m => m.testBit (i - 32)) h0
    simp only [Nat.testBit_shiftRight, Nat.zero_testBit] at this
    rwa [show 32 + (i - 32) = i by omega] at this
  · intro h
    have : n >>> 32 = 0 := by
      rw [eq_zero_iff]
      intro i
      rw [Nat.testBit_shiftRight]
      exact h _ (by omega)
    rw [this]; rfl

def oddR (x h k l : Nat) : Bool := (x / 4294967296 != 0) || ((h / 4294967296 != 0) || ((k / 4294967296 != 0) || (l / 4294967296 != 0)))

theorem goodR_eq (D x h k l : Nat) (h1 : 2 ≤ D) (h2 : D ≤ 30) :
    goodR D x.testBit h.testBit k.testBit l.testBit (oddR x h k l) = goodS (2 ^ D - 1) (2 ^ D ||| 2 ^ (D + 1)) x h k l := by
  have hall : ∀ i, ((2 ^ D - 1) ||| (2 ^ D ||| 2 ^ (D + 1))).testBit i = decide (i < D + 2) := by
    intro i
    rw [Nat.testBit_or, testBit_all, testBit_ends, Bool.eq_iff_iff]
    simp; omega
  have hp : pop 64 l = cntF l.testBit 64 := pop_cnt 64 l
  rw [Bool.eq_iff_iff]
  unfold goodR goodS oddR
  constructor
  · intro hg
    simp only [Bool.and_eq_true, Bool.not_eq_true', Bool.or_eq_false_iff, decide_eq_true_eq, List.all_eq_true, List.mem_range] at hg
    obtain ⟨⟨_, _, ox, oh, ok, ol⟩, hok, hA, hE⟩ := hg
    rw [high_zero] at ox oh ok ol
    have hok' : ∀ i, i < 32 → (D ≤ i → x.testBit i = false ∧ h.testBit i = false ∧ k.testBit i = false) ∧ (D + 2 ≤ i → l.testBit i = false) ∧ (x.testBit i = true → h.testBit i = true) := by
      intro i hi
      have := hok i hi
      unfold okAt at this
      simp only [Bool.and_eq_true, Bool.not_eq_true', Bool.and_eq_false_iff, decide_eq_false_iff_not, Bool.or_eq_false_iff, Bool.not_eq_false'] at this
      obtain ⟨a, b, c⟩ := this
      refine ⟨fun hd => ?_, fun hd => ?_, fun hx => ?_⟩
      · rcases a with a | a
        · omega
        · exact a
      · rcases b with b | b
        · omega
        · exact b
      · rcases c with c | c
        · rw [hx] at c; cases c
        · exact c
    have sub : ∀ i, x.testBit i = true → h.testBit i = true := fun i hi => by
      rcases Nat.lt_or_ge i 32 with hl | hl
      · exact (hok' i hl).2.2 hi
      · rw [ox i hl] at hi; cases hi
    have hD : ∀ (n : Nat) (_ : ∀ i, 32 ≤ i → n.testBit i = false) (_ : ∀ i, i < 32 → D ≤ i → n.testBit i = false), lessN n (2 ^ D - 1) = 0 := by
      intro n n1 n2
      rw [lessN_zero]
      intro i hi
      rw [testBit_all, decide_eq_true_eq]
      rcases Nat.lt_or_ge i D with hl | hl
      · exact hl
      · rcases Nat.lt_or_ge i 32 with hm | hm
        · rw [n2 i hm hl] at hi; cases hi
        · rw [n1 i hm] at hi; cases hi
    have hx0 : x ≠ 0 := by
      intro e
      rw [e, cnt_zero.2 (fun i _ => Nat.zero_testBit i)] at hA
      omega
    have hl32 : cntF l.testBit 64 = cntF l.testBit 32 := cnt_more _ 32 64 ol (by omega)
    simp only [Bool.and_eq_true, Bool.not_eq_true', beq_iff_eq, beq_eq_false_iff_ne, decide_eq_true_eq]
    refine ⟨hx0, (lessN_zero _ _).2 sub, hD h oh (fun i hi hd => ((hok' i hi).1 hd).2.1), hD k ok (fun i hi hd => ((hok' i hi).1 hd).2.2), ?_, by rw [hp, hl32]; exact hE⟩
    rw [lessN_zero]
    intro i hi
    rw [hall, decide_eq_true_eq]
    rcases Nat.lt_or_ge i (D + 2) with hl | hl
    · exact hl
    · rcases Nat.lt_or_ge i 32 with hm | hm
      · rw [(hok' i hm).2.1 hl] at hi; cases hi
      · rw [ol i hm] at hi; cases hi
  · intro hg
    simp only [Bool.and_eq_true, Bool.not_eq_true', beq_iff_eq, beq_eq_false_iff_ne, decide_eq_true_eq] at hg
    obtain ⟨hx0, g1, g2, g3, g4, g5⟩ := hg
    rw [lessN_zero] at g1 g2 g3 g4
    have lo : ∀ n : Nat, (∀ i, n.testBit i = true → (2 ^ D - 1).testBit i = true) → ∀ i, D ≤ i → n.testBit i = false := by
      intro n hn i hi
      cases e : n.testBit i with
      | false => rfl
      | true => have := hn i e; rw [testBit_all, decide_eq_true_eq] at this; omega
    have lh := lo h g2
    have lk := lo k g3
    have lx : ∀ i, D ≤ i → x.testBit i = false := fun i hi => by
      cases e : x.testBit i with
      | false => rfl
      | true => have := g1 i e; rw [lh i hi] at this; cases this
    have ll : ∀ i, D + 2 ≤ i → l.testBit i = false := fun i hi => by
      cases e : l.testBit i with
      | false => rfl
      | true => have := g4 i e; rw [hall, decide_eq_true_eq] at this; omega
    have hl32 : cntF l.testBit 64 = cntF l.testBit 32 := cnt_more _ 32 64 (fun i hi => ll i (by omega)) (by omega)
    have o := fun n => (high_zero n).2
    rw [o x (fun i hi => lx i (by omega)), o h (fun i hi => lh i (by omega)), o k (fun i hi => lk i (by omega)), o l (fun i hi => ll i (by omega))]
    simp only [Bool.and_eq_true, Bool.not_eq_true', Bool.or_eq_false_iff, decide_eq_true_eq, List.all_eq_true, List.mem_range]
    refine ⟨⟨by simp; omega, by simp; omega, by simp⟩, fun i hi => ?_, ?_, by rw [← hl32, ← hp]; exact g5⟩
    · unfold okAt
      have a1 := lx i
      have a2 := lh i
      have a3 := lk i
      have a4 := ll i
      have a5 := g1 i
      by_cases c1 : D ≤ i
      · rw [a1 c1, a2 c1, a3 c1]
        by_cases c2 : D + 2 ≤ i
        · rw [a4 c2]; simp
        · have : decide ((D : Int) + 2 ≤ i) = false := by simp; omega
          rw [this]; simp
      · have : decide ((D : Int) + 2 ≤ i) = false := by simp; omega
        have t2 : decide ((D : Int) ≤ i) = false := by simp; omega
        rw [this, t2]
        cases e : x.testBit i with
        | false => simp
        | true => rw [a5 e]; simp
    · rcases Nat.eq_zero_or_pos (cntF x.testBit 32) with e | e
      · exfalso
        rw [cnt_zero] at e
        apply hx0
        rw [eq_zero_iff]
        intro i
        rcases Nat.lt_or_ge i 32 with hl | hl
        · exact e i hl
        · exact lx i (by omega)
      · exact e

theorem all_range {n : Nat} {p : Nat → Bool} : (List.range n).all p = true ↔ ∀ i, i < n → p i = true := by
  rw [List.all_eq_true]
  exact ⟨fun h i hi => h i (List.mem_range.2 hi), fun h i hi => h i (List.mem_range.1 hi)⟩

theorem ways_eq (D x h k l : Nat) (h1 : 2 ≤ D) (h2 : D ≤ 30) (hg : goodS (2 ^ D - 1) (2 ^ D ||| 2 ^ (D + 1)) x h k l = true) :
    waysL (2 ^ D - 1) (2 ^ D ||| 2 ^ (D + 1)) x h k l = (kindsR D x.testBit h.testBit k.testBit l.testBit 4).map (wordR D x.testBit h.testBit k.testBit l.testBit) := by
  have hall : ∀ i, ((2 ^ D - 1) ||| (2 ^ D ||| 2 ^ (D + 1))).testBit i = decide (i < D + 2) := by
    intro i
    rw [Nat.testBit_or, testBit_all, testBit_ends, Bool.eq_iff_iff]
    simp; omega
  unfold goodS at hg
  simp only [Bool.and_eq_true, Bool.not_eq_true', beq_iff_eq, beq_eq_false_iff_ne, decide_eq_true_eq] at hg
  obtain ⟨hx0, g1, g2, g3, g4, g5⟩ := hg
  rw [lessN_zero] at g1 g2 g3 g4
  have lh : ∀ i, h.testBit i = true → i < D := fun i e => by have := g2 i e; rwa [testBit_all, decide_eq_true_eq] at this
  have lx : ∀ i, x.testBit i = true → i < D := fun i e => lh i (g1 i e)
  have n1 : ∀ i, (lessN (2 ^ D - 1) h).testBit i = (decide (i < D) && !h.testBit i) := fun i => by rw [testBit_lessN, testBit_all]
  have n2 : ∀ i, (lessN x k).testBit i = (x.testBit i && !k.testBit i) := fun i => testBit_lessN _ _ _
  have n3 : ∀ i, (lessN (2 ^ D ||| 2 ^ (D + 1)) l).testBit i = ((decide (i = D) || decide (i = D + 1)) && !l.testBit i) := fun i => by rw [testBit_lessN, testBit_ends]
  have n4 : ∀ i, (lessN (orN (2 ^ D - 1) (2 ^ D ||| 2 ^ (D + 1))) l).testBit i = (decide (i < D + 2) && !l.testBit i) := fun i => by rw [testBit_lessN, hall]
  -- kind 0
  have k0 : wayOk 0 D x.testBit h.testBit k.testBit l.testBit = (h == 2 ^ D - 1) := by
    rw [Bool.eq_iff_iff, beq_iff_eq]
    unfold wayOk
    simp only [Bool.and_eq_true, all_range, mayR, if_pos]
    constructor
    · intro hh
      refine Nat.eq_of_testBit_eq (fun i => ?_)
      rw [testBit_all]
      by_cases hi : i < D
      · have := hh.1 i (by omega)
        simp only [Bool.or_eq_true, decide_eq_true_eq] at this
        rcases this with a | a
        · omega
        · simp [a, hi]
      · have : h.testBit i = false := by
          cases e : h.testBit i with
          | false => rfl
          | true => exact absurd (lh i e) hi
        simp [this, hi]
    · intro e
      refine ⟨fun i _ => ?_, by simp, by simp⟩
      rw [e, testBit_all]
      by_cases hi : i < D <;> simp [hi]; omega
  have w0 : numF (upR 0 D x.testBit h.testBit k.testBit l.testBit (D + 2)) 32 = 0 := numF_eq (fun i => by simp [upR, readR])
  have k1 : wayOk 1 D x.testBit h.testBit k.testBit l.testBit = (!(lessN (2 ^ D - 1) h == 0) && (andN (lessN (2 ^ D - 1) h) l == 0)) := by
    rw [Bool.eq_iff_iff]
    unfold wayOk
    simp only [Bool.and_eq_true, all_range, mayR, readR, Bool.not_eq_true', beq_eq_false_iff_ne, beq_iff_eq, andN_zero, n1]
    simp only [show ((1 : Nat) = 0) = False by simp, if_false, if_true, decide_true, Bool.true_and, decide_eq_false_iff_not, Bool.not_eq_true', Bool.and_eq_false_iff, decide_eq_true_eq]
    constructor
    · rintro ⟨a, b, _⟩
      refine ⟨fun e => b (cnt_zero.2 (fun i hi => ?_)), fun i hi => ?_⟩
      · have := congrArg (fun m => m.testBit i) e
        simp only [n1, Nat.zero_testBit] at this
        rw [← this]
        simp only [readR, if_neg (show ¬ (1 : Nat) = 0 by omega), if_true]
        congr 1
        rw [Bool.eq_iff_iff]; simp
      · have := a i (by omega)
        rcases this with this | this
        · rw [hi.2] at this
          simp at this
          omega
        · exact this
    · rintro ⟨a, b⟩
      refine ⟨fun i hi => ?_, fun e => a ?_, by simp⟩
      · by_cases hd : D ≤ i
        · left; simp [hd]
        · cases e : h.testBit i with
          | true => left; simp
          | false => right; exact b i (by simp [e]; omega)
      · rw [eq_zero_iff]
        intro i
        rw [n1]
        by_cases hd : i < D
        · have := cnt_zero.1 e i (by omega)
          simp only [readR, if_neg (show ¬ (1 : Nat) = 0 by omega), if_true, Bool.and_eq_false_iff, Bool.not_eq_false'] at this
          rcases this with this | this
          · simp at this; omega
          · simp [this]
        · simp [hd]
  have w1 : numF (upR 1 D x.testBit h.testBit k.testBit l.testBit (D + 2)) 32 = lessN (2 ^ D - 1) h := numF_eq (fun i => by
    rw [n1]
    simp only [upR, readR, if_neg (show ¬ (1 : Nat) = 0 by omega), if_true]
    by_cases hd : i < D
    · have : ¬ D ≤ i := by omega
      have : i < D + 2 := by omega
      have : i < 32 := by omega
      simp [*]
    · have : D ≤ i := by omega
      simp [*])
  have k2 : wayOk 2 D x.testBit h.testBit k.testBit l.testBit = ((andN (lessN x k) l == 0) && !(lessN (2 ^ D ||| 2 ^ (D + 1)) l == 0)) := by
    rw [Bool.eq_iff_iff]
    unfold wayOk
    simp only [Bool.and_eq_true, all_range, mayR, readR, Bool.not_eq_true', beq_eq_false_iff_ne, beq_iff_eq, andN_zero, n2]
    simp only [show ((2 : Nat) = 0) = False by simp, show ((2 : Nat) = 1) = False by simp, if_false, if_true, decide_true, Bool.true_and, decide_eq_false_iff_not, Bool.not_eq_true', Bool.and_eq_false_iff, decide_eq_true_eq, decide_false, Bool.false_and]
    constructor
    · rintro ⟨a, _, b⟩
      refine ⟨fun i hi => ?_, fun e => ?_⟩
      · have := lx i hi.1
        have := a i (by omega)
        rcases this with this | this
        · rw [hi.1, hi.2] at this; simp at this
        · exact this
      · have e1 := congrArg (fun m => m.testBit D) e
        have e2 := congrArg (fun m => m.testBit (D + 1)) e
        simp only [n3, Nat.zero_testBit] at e1 e2
        simp at e1 e2
        rw [e1, e2] at b
        simp at b
    · rintro ⟨a, b⟩
      refine ⟨fun i hi => ?_, by simp, ?_⟩
      · cases e : l.testBit i with
        | false => right; rfl
        | true =>
          left
          cases e2 : (x.testBit i && !k.testBit i) with
          | false => simp
          | true => have := a i (by simpa using e2); rw [e] at this; cases this
      · cases e1 : l.testBit D with
        | false => left; rfl
        | true =>
          cases e2 : l.testBit (D + 1) with
          | false => right; rfl
          | true =>
            exfalso; apply b
            rw [eq_zero_iff]
            intro i
            rw [n3]
            by_cases c1 : i = D
            · rw [c1, e1]; simp
            · by_cases c2 : i = D + 1
              · rw [c2, e2]; simp
              · simp [c1, c2]
  have w2 : numF (upR 2 D x.testBit h.testBit k.testBit l.testBit (D + 2)) 32 = orN (lessN x k) (lessN (2 ^ D ||| 2 ^ (D + 1)) l) := numF_eq (fun i => by
    rw [show ∀ a b, orN a b = a ||| b from fun _ _ => rfl, Nat.testBit_or, n2, n3]
    simp only [upR, readR, if_neg (show ¬ (2 : Nat) = 0 by omega), if_neg (show ¬ (2 : Nat) = 1 by omega), if_true]
    by_cases hd : i < D
    · have a1 : ¬ D ≤ i := by omega
      have a2 : i < D + 2 := by omega
      have a3 : i < 32 := by omega
      have a4 : ¬ i = D := by omega
      have a5 : ¬ i = D + 1 := by omega
      simp [a1, a2, a3, a4, a5]
    · have hxf : x.testBit i = false := by
        cases e : x.testBit i with
        | false => rfl
        | true => exact absurd (lx i e) hd
      rw [hxf]
      by_cases he : i < D + 2
      · have a1 : D ≤ i := by omega
        have a3 : i < 32 := by omega
        have a4 : i = D ∨ i = D + 1 := by omega
        simp [a1, he, a3, a4]
      · have a4 : ¬ i = D := by omega
        have a5 : ¬ i = D + 1 := by omega
        simp [he, a4, a5])
  have k3 : wayOk 3 D x.testBit h.testBit k.testBit l.testBit = true := by
    unfold wayOk
    simp only [Bool.and_eq_true, all_range, mayR, readR]
    refine ⟨fun i _ => ?_, by simp, by simp⟩
    simp
  have w3 : numF (upR 3 D x.testBit h.testBit k.testBit l.testBit (D + 2)) 32 = lessN (orN (2 ^ D - 1) (2 ^ D ||| 2 ^ (D + 1))) l := numF_eq (fun i => by
    rw [n4]
    simp only [upR, readR, if_neg (show ¬ (3 : Nat) = 0 by omega), if_neg (show ¬ (3 : Nat) = 1 by omega), if_neg (show ¬ (3 : Nat) = 2 by omega)]
    by_cases he : i < D + 2
    · have a3 : i < 32 := by omega
      simp [he, a3]
    · simp [he])
  unfold kindsR waysL
  rw [show List.range 4 = [0, 1, 2, 3] from rfl]
  simp only [List.filter_cons, List.filter_nil, k0, k1, k2, k3]
  cases (h == 2 ^ D - 1) <;> cases (!(lessN (2 ^ D - 1) h == 0) && (andN (lessN (2 ^ D - 1) h) l == 0)) <;> cases ((andN (lessN x k) l == 0) && !(lessN (2 ^ D ||| 2 ^ (D + 1)) l == 0)) <;> simp [wordR, w0, w1, w2, w3]

/-- The document's choice among kinds. -/
def pickF (c : Nat → Nat) (m p : Nat) : Nat := if c p < c m then p else m
theorem best_pick (g : Nat → Nat × Nat) (c : Nat → Nat) (hc : ∀ k, pop 64 (g k).2 = c k) (m : Nat) (L : List Nat) : bestL ((m :: L).map g) = g (L.foldl (pickF c) m) := by
  show (L.map g).foldl bestF (g m) = _
  induction L generalizing m with
  | nil => rfl
  | cons p L ih =>
    simp only [List.map_cons, List.foldl_cons]
    rw [show bestF (g m) (g p) = g (pickF c m p) by unfold bestF pickF; rw [hc, hc]; split <;> rfl]
    exact ih _
theorem pop_numF (f : Nat → Bool) : pop 64 (numF f 32) = cntF f 32 := by
  rw [pop_cnt, cnt_more _ 32 64 (fun i hi => by rw [testBit_numF]; have : ¬ i < 32 := by omega
                                                simp [this]) (by omega)]
  exact cnt_congr 32 (fun i hi => by rw [testBit_numF]; simp [hi])
end Go.Proofs.YtghefhmncpmflaaDoor
