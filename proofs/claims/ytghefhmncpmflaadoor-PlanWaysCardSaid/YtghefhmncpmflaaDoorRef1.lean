/-
  The contracts of the document's small functions: how many columns a plan reads, and the kinds' names.
-/
import Derived.Test.YtghefhmncpmflaaDoorPlan13
namespace Go.Proofs.YtghefhmncpmflaaDoor
open Go.RowKit Go.Rg

/-- How many flags below n are set. -/
def cntF (f : Nat → Bool) : Nat → Nat
  | 0 => 0
  | n + 1 => cntF f n + (if f n then 1 else 0)
theorem cntF_le (f : Nat → Bool) (n : Nat) : cntF f n ≤ n := by
  induction n with
  | zero => exact Nat.le_refl _
  | succ n ih => simp only [cntF]; split <;> omega

/-- The cells of the document's plan. -/
def rpl (k : Int) (f : Nat → Bool) : Array Value := #[.int .i64 k] ++ b32 f
theorem rpl_size (k : Int) (f : Nat → Bool) : (rpl k f).size = 33 := by simp [rpl, b32_size]
theorem rpl_get (k : Int) (f : Nat → Bool) {j : Nat} (hj : j < 32) : (rpl k f)[1 + j]? = some (.bool (f j)) := by
  unfold rpl
  rw [Array.getElem?_append_right (by simp)]
  simpa using b32_get f hj

theorem count_any (k : Int) (f : Nat → Bool) (w : World) :
    Calls Tryd.prog 54 #[.agg (rpl k f)] w fun e w' => e = .returned (.int .i64 (cntF f 32)) ∧ Ext w w' := by
  have HG := Lib.hid (fun j (hj : j < 32) => rpl_get k f hj)
  generalize hc : rpl k f = cs at *
  clear hc
  go_enter Tryd.func54, Tryd.ntmps54
  go_wp2_with fail
  go_loopw [3, 4] (fun n i wr => ∃ j : Nat, j ≤ 32 ∧ i = .int .i64 j ∧ n = .int .i64 (cntF f j) ∧ Ext w wr ∧ Blk wr w.heap.size 49 cs)
    (fun _ i _ => 32 - (intOf i).toNat)
  case atStart => exact ⟨0, by omega, rfl, rfl, (Ext.refl w).alloc _, Blk.new w 49 _⟩
  case round =>
    obtain ⟨j, hj, rfl, rfl, hx, B1⟩ := hrel
    by_cases hlt : j < 32
    · have i0 : (0 : Int) ≤ (j : Int) := by omega
      have i4 : (j : Int) < 32 := by omega
      have c1 := B1.cells (1 + j)
      rw [HG.out j hlt] at c1
      have hs : cntF f (j + 1) = cntF f j + (if f j then 1 else 0) := rfl
      have hle := cntF_le f j
      generalize cntF f j = c at *
      cases hf : f j
      · rw [hf] at c1 hs
        go_wp2_with fail
        exact ⟨⟨j + 1, by omega, by go_num, by rw [hs]; rfl, hx, B1⟩, by simp [intOf]; omega⟩
      · rw [hf] at c1 hs
        go_wp2_with fail
        exact ⟨⟨j + 1, by omega, by go_num, by rw [hs]; go_num, hx, B1⟩, by simp [intOf]; omega⟩
    · have hk4 : j = 32 := by omega
      subst hk4
      go_wp2_with fail
      go_ret
      exact ⟨by simp, hx⟩

theorem rname_any (k : Int) (w : World) : Calls Tryd.prog 18 #[.int .i64 k] w fun e w' => e = .returned (.string (nameN k)) ∧ Ext w w' := by
  by_cases hk : k < 0
  · have e : nameN k = ⟨#[]⟩ := by unfold nameN; rw [if_neg (by omega), if_neg (by omega), if_neg (by omega), if_neg (by omega)]
    rw [e]
    go_enter Tryd.func18, Tryd.ntmps18
    go_wp2_with fail
    go_ret
    exact ⟨rfl, (Ext.refl w).alloc _⟩
  have hk1 : decide (k < 0) = false := by simpa using hk
  by_cases hk2 : 4 ≤ k
  · have e : nameN k = ⟨#[]⟩ := by unfold nameN; rw [if_neg (by omega), if_neg (by omega), if_neg (by omega), if_neg (by omega)]
    rw [e]
    go_enter Tryd.func18, Tryd.ntmps18
    go_wp2_with fail
    go_ret
    exact ⟨rfl, (Ext.refl w).alloc _⟩
  have hc : k = 0 ∨ k = 1 ∨ k = 2 ∨ k = 3 := by omega
  clear hk hk1 hk2
  rcases hc with rfl | rfl | rfl | rfl
  all_goals
    go_enter Tryd.func18, Tryd.ntmps18
    go_wp2_with fail
    go_ret
    exact ⟨rfl, (Ext.refl w).alloc _⟩

/-- The bits of n flags as a number. -/
def numF (f : Nat → Bool) : Nat → Nat
  | 0 => 0
  | n + 1 => numF f n ||| (if f n then 1 <<< n else 0)

end Go.Proofs.YtghefhmncpmflaaDoor
