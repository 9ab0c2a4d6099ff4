/-
  Of every state: what Ways and Choose of the program and of the document answer, told by one list of kinds.
-/
import Derived.Test.YtghefhmncpmflaaDoorRef10
import Derived.Test.YtghefhmncpmflaaDoorPlan13
namespace Go.Proofs.YtghefhmncpmflaaDoor
open Go.RowKit Go.Rg

def rplsF (F : Nat → Nat → Bool) (K : List Nat) : List Value := K.flatMap fun (k : Nat) => (rpl (k : Int) (F k)).toList
def wordF (F : Nat → Nat → Bool) (k : Nat) : Nat × Nat := (k, numF (F k) 32)
theorem rplsF_get (F : Nat → Nat → Bool) (K : List Nat) : ∀ (i k : Nat), K[i]? = some k → ∀ j, j < 33 → (rplsF F K)[i * 33 + j]? = (rpl k (F k)).toList[j]? := by
  induction K with
  | nil => intro i k h; simp at h
  | cons q K ih =>
    intro i k h j hj
    have hq : (rpl (q : Int) (F q)).toList.length = 33 := by rw [Array.length_toList]; exact rpl_size _ _
    simp only [rplsF, List.flatMap_cons]
    cases i with
    | zero =>
      simp only [List.getElem?_cons_zero, Option.some.injEq] at h
      subst h
      rw [List.getElem?_append_left (by omega)]
      simp
    | succ i =>
      rw [List.getElem?_append_right (by omega)]
      have := ih i k (by simpa using h) j hj
      rw [show (i + 1) * 33 + j - (rpl (q : Int) (F q)).toList.length = i * 33 + j from by omega]
      exact this
/-- What is told of a slice of the document's plans. -/
theorem rowsF_at {w : World} {B : Nat} {v : Value} {F : Nat → Nat → Bool} {K : List Nat} (h : w.ownsRow B 49 33 v K.length (rplsF F K)) :
    ∃ base cap, v = .slice base K.length cap ∧ (∀ i, i < K.length → ∃ g, base = some ⟨g, 0, none⟩ ∧ ∀ (w' : World) (i k : Nat), Ext w w' → K[i]? = some k → w'.rangeAt g (i * 33) (rpl k (F k)).toList) := by
  rcases h.2 with ⟨hv, h0⟩ | ⟨g, cap, cur, hu, hB, hg, _⟩
  · exact ⟨none, 0, by rw [hv, h0], fun i hi => by omega⟩
  · subst hu
    have hlt : g < w.heap.size := (Array.getElem?_eq_some_iff.1 hg).1
    refine ⟨some ⟨g, 0, none⟩, cap, rfl, fun _ _ => ⟨g, rfl, fun w' i k he hk j v hv => ?_⟩⟩
    have hj : j < 33 := by
      have := (List.getElem?_eq_some_iff.1 hv).1
      rw [Array.length_toList, rpl_size] at this
      exact this
    have hi : i < K.length := (List.getElem?_eq_some_iff.1 hk).1
    rw [Below.cell he (p := ⟨g, i * 33 + j, none⟩) hlt, World.ownsRow.cellAt h _ (by omega), rplsF_get F K i k hk j hj]
    exact hv
/-- What is told of a slice of the program's plans. -/
theorem plans_at {w : World} {B : Nat} {v : Value} {F : Nat → Nat → Bool} {K : List Nat} (h : w.ownsRow B 45 5 v K.length (plansC (K.map (wordF F)))) :
    ∃ base cap, v = .slice base K.length cap ∧ (∀ i, i < K.length → ∃ g, base = some ⟨g, 0, none⟩ ∧ ∀ (w' : World) (i k : Nat), Ext w w' → K[i]? = some k → w'.cell? ⟨g, i * 5, none⟩ = some (.int .i64 k) ∧ w'.cell? ⟨g, i * 5 + 1, none⟩ = some (.int .u64 (numF (F k) 32 : Nat)) ∧
      w'.cell? ⟨g, i * 5 + 2, none⟩ = some (.int .u64 0) ∧ w'.cell? ⟨g, i * 5 + 3, none⟩ = some (.int .u64 0) ∧ w'.cell? ⟨g, i * 5 + 4, none⟩ = some (.int .u64 0)) := by
  rcases h.2 with ⟨hv, h0⟩ | ⟨g, cap, cur, hu, hB, hg, _⟩
  · exact ⟨none, 0, by rw [hv, h0], fun i hi => by omega⟩
  · subst hu
    have hlt : g < w.heap.size := (Array.getElem?_eq_some_iff.1 hg).1
    refine ⟨some ⟨g, 0, none⟩, cap, rfl, fun _ _ => ⟨g, rfl, fun w' i k he hk => ?_⟩⟩
    have hi : i < K.length := (List.getElem?_eq_some_iff.1 hk).1
    have key : ∀ c, c < 5 → w'.cell? ⟨g, i * 5 + c, none⟩ = (plcL k (numF (F k) 32))[c]? := by
      intro c hc
      rw [Below.cell he (p := ⟨g, i * 5 + c, none⟩) hlt, World.ownsRow.cellAt h _ (by omega), plansC_get _ i (wordF F k) (by simp [hk]) c hc]
      rfl
    exact ⟨key 0 (by decide), key 1 (by decide), key 2 (by decide), key 3 (by decide), key 4 (by decide)⟩

/-- What the four calls answer at a state. -/
structure Told (d : Int) (x h k l : Nat) (odd : Bool) (K : List Nat) (er : Int) (F : Nat → Nat → Bool) (kb : Nat) (fb : Nat → Bool) : Prop where
  len : K.length ≤ 4
  ways : ∀ w, Calls Tryd.prog 11 #[stv d x h k l] w fun e w' => ∃ v, e = .returned (.tuple #[v, .int .i64 er]) ∧ w'.ownsRow w.heap.size 45 5 v K.length (plansC (K.map (wordF F))) ∧ Ext w w'
  rways : ∀ w, Calls Tryd.prog 12 #[.agg (rsF d x.testBit h.testBit k.testBit l.testBit odd)] w fun e w' => ∃ v, e = .returned (.tuple #[v, .int .i64 er]) ∧ w'.ownsRow w.heap.size 49 33 v K.length (rplsF F K) ∧ Ext w w'
  choose : ∀ w, Calls Tryd.prog 13 #[stv d x h k l] w fun e w' => e = .returned (.tuple #[.agg (plc kb (numF fb 32)), .int .i64 er]) ∧ Ext w w'
  rchoose : ∀ w, Calls Tryd.prog 14 #[.agg (rsF d x.testBit h.testBit k.testBit l.testBit odd)] w fun e w' => e = .returned (.tuple #[.agg (rpl kb fb), .int .i64 er]) ∧ Ext w w'

theorem numF_false : numF (fun _ => false) 32 = 0 := by decide
theorem told_bad (d : Int) (x h k l : Nat) (odd : Bool) (hg : ∀ w, Calls Tryd.prog 43 #[stv d x h k l] w fun e w' => e = .returned (.bool false) ∧ Ext w w')
    (hr : goodR d x.testBit h.testBit k.testBit l.testBit odd = false) : Told d x h k l odd [] 4 (fun _ _ => false) 0 (fun _ => false) where
  len := by simp
  ways := fun w => (ways_bad d x h k l hg w).mono fun e w' ⟨he, hx⟩ => ⟨_, he, World.ownsRow_nil _ _ 45 5, hx⟩
  rways := fun w => (rways_bad d _ _ _ _ odd hr w).mono fun e w' ⟨he, hx⟩ => ⟨_, he, World.ownsRow_nil _ _ 49 33, hx⟩
  choose := fun w => by rw [numF_false]; exact choose_bad d x h k l (fun w => ways_bad d x h k l hg w) w
  rchoose := fun w => rchoose_bad d _ _ _ _ odd hr w

theorem told_any (d : Int) (x h k l : Nat) (hx : x < 18446744073709551616) (hh : h < 18446744073709551616) (hk : k < 18446744073709551616) (hl : l < 18446744073709551616) :
    ∃ K er F kb fb, Told d x h k l (oddR x h k l) K er F kb fb := by
  by_cases hd : d < 2 ∨ 30 < d
  · refine ⟨_, _, _, _, _, told_bad d x h k l _ (good_off d x h k l hd) ?_⟩
    unfold goodR
    rcases hd with hd | hd <;> simp [hd]
  obtain ⟨D, rfl⟩ : ∃ D : Nat, d = (D : Int) := ⟨d.toNat, by omega⟩
  have hD1 : 2 ≤ D := by omega
  have hD2 : D ≤ 30 := by omega
  have hA7 : 2 ^ D ≤ 2 ^ 30 := Nat.pow_le_pow_right (by decide) hD2
  have hAl : 2 ^ D - 1 < 18446744073709551616 := by omega
  have hEl : (2 ^ D ||| 2 ^ (D + 1)) < 18446744073709551616 := Nat.or_lt_two_pow (n := 64) (by omega) (by rw [Nat.pow_succ]; omega)
  have hgo := fun w => good_on D (2 ^ D - 1) (2 ^ D ||| 2 ^ (D + 1)) x h k l hD1 hD2 rfl rfl hAl hEl hx hh hk hl w
  have heq := goodR_eq D x h k l hD1 hD2
  cases hg : goodS (2 ^ D - 1) (2 ^ D ||| 2 ^ (D + 1)) x h k l
  · rw [hg] at hgo heq
    exact ⟨_, _, _, _, _, told_bad D x h k l _ hgo heq⟩
  · rw [hg] at hgo heq
    have hw := ways_good D (2 ^ D - 1) (2 ^ D ||| 2 ^ (D + 1)) x h k l hD1 hD2 rfl rfl hAl hEl hx hl hgo
    have hweq := ways_eq D x h k l hD1 hD2 hg
    have hne := waysL_ne (2 ^ D - 1) (2 ^ D ||| 2 ^ (D + 1)) x h k l
    have hlt := ways_lt (h := h) (k := k) (l := l) hAl hEl hx
    have hc := choose_good D x h k l _ hne.1 (by omega) hlt hw
    rw [hweq] at hw hne hc
    rw [List.length_map] at hne hw
    generalize hK : kindsR D x.testBit h.testBit k.testBit l.testBit 4 = K at *
    have hrw := rways_good D hD1 hD2 x.testBit h.testBit k.testBit l.testBit (oddR x h k l) heq
    have hrc := rchoose_good D hD1 hD2 x.testBit h.testBit k.testBit l.testBit (oddR x h k l) heq K hK hne.1 hne.2 _ rfl
    rw [hK] at hrw
    have hbest : bestL (K.map (wordR D x.testBit h.testBit k.testBit l.testBit)) = wordR D x.testBit h.testBit k.testBit l.testBit (pickL (fun k' => cntF (upR k' D x.testBit h.testBit k.testBit l.testBit (D + 2)) 32) K) := by
      cases K with
      | nil => simp at hne
      | cons m L => exact best_pick (wordR D x.testBit h.testBit k.testBit l.testBit) (fun k' => cntF (upR k' D x.testBit h.testBit k.testBit l.testBit (D + 2)) 32) (fun k' => pop_numF (upR k' D x.testBit h.testBit k.testBit l.testBit (D + 2))) m L
    rw [hbest] at hc
    exact ⟨K, 0, fun k' => upR k' D x.testBit h.testBit k.testBit l.testBit (D + 2), _, _, hne.2, hw, hrw, hc, hrc⟩
end Go.Proofs.YtghefhmncpmflaaDoor
