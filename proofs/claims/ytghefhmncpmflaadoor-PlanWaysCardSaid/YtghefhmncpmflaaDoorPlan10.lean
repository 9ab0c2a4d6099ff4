/-
  The contract of a kind's name, and of Ways and Choose at the state that the law's wakes takes.
-/
import Derived.Test.YtghefhmncpmflaaDoorPlan9
namespace Go.Proofs.YtghefhmncpmflaaDoor
open Go.RowKit Go.Rg

def sFull : ByteArray := ⟨#[102, 117, 108, 108]⟩
def sGreat : ByteArray := ⟨#[103, 114, 101, 97, 116]⟩
def sSmall : ByteArray := ⟨#[115, 109, 97, 108, 108]⟩
def sWhole : ByteArray := ⟨#[119, 104, 111, 108, 101]⟩
/-- The names of the kinds, in memory. -/
def NamesAt (w : World) : Prop := w.cell? ⟨0, 0, none⟩ = some (.string sFull) ∧ w.cell? ⟨0, 1, none⟩ = some (.string sGreat) ∧ w.cell? ⟨0, 2, none⟩ = some (.string sSmall) ∧ w.cell? ⟨0, 3, none⟩ = some (.string sWhole)
theorem NamesAt.ext {w w' : World} (h : NamesAt w) (he : Ext w w') : NamesAt w' := by
  obtain ⟨h0, h1, h2, h3⟩ := h
  exact ⟨(he.cell _ (by rw [h0]; rfl)).trans h0, (he.cell _ (by rw [h1]; rfl)).trans h1, (he.cell _ (by rw [h2]; rfl)).trans h2, (he.cell _ (by rw [h3]; rfl)).trans h3⟩

def nameN (k : Int) : ByteArray := if k = 0 then sFull else if k = 1 then sGreat else if k = 2 then sSmall else if k = 3 then sWhole else ⟨#[]⟩

theorem name_any (k : Int) (w : World) (hn : NamesAt w) : Calls Tryd.prog 17 #[.int .i64 k] w fun e w' => e = .returned (.string (nameN k)) ∧ w = w' := by
  obtain ⟨h0, h1, h2, h3⟩ := hn
  by_cases hk : k < 0
  · have e : nameN k = ⟨#[]⟩ := by unfold nameN; rw [if_neg (by omega), if_neg (by omega), if_neg (by omega), if_neg (by omega)]
    rw [e]
    go_enter Tryd.func17, Tryd.ntmps17
    go_wp2
    go_ret
    exact ⟨rfl, rfl⟩
  have hk1 : decide (k < 0) = false := by simpa using hk
  by_cases hk2 : 4 ≤ k
  · have e : nameN k = ⟨#[]⟩ := by unfold nameN; rw [if_neg (by omega), if_neg (by omega), if_neg (by omega), if_neg (by omega)]
    rw [e]
    go_enter Tryd.func17, Tryd.ntmps17
    go_wp2
    go_ret
    exact ⟨rfl, rfl⟩
  have hc : k = 0 ∨ k = 1 ∨ k = 2 ∨ k = 3 := by omega
  clear hk hk1 hk2
  rcases hc with rfl | rfl | rfl | rfl
  all_goals
    go_enter Tryd.func17, Tryd.ntmps17
    go_wp2
    go_ret
    exact ⟨rfl, rfl⟩

/-- The state that wakes takes. -/
theorem good_wakes (w : World) : Calls Tryd.prog 43 #[stv 4 2 2 0 0] w fun e w' => e = .returned (.bool true) ∧ Ext w w' := by
  have h := good_on 4 15 48 2 2 0 0 (by decide) (by decide) (by decide) (by decide) (by decide) (by decide) (by decide) (by decide) (by decide) (by decide) w
  have e : goodS 15 48 2 2 0 0 = true := by decide
  rw [e] at h
  exact h
theorem waysL_wakes : waysL 15 48 2 2 0 0 = [(1, 13), (2, 50), (3, 63)] := by decide
theorem ways_wakes (w : World) : Calls Tryd.prog 11 #[stv 4 2 2 0 0] w fun e w' => ∃ v, e = .returned (.tuple #[v, .int .i64 0]) ∧ w'.ownsRow w.heap.size 45 5 v [(1, 13), (2, 50), (3, 63)].length (plansC [(1, 13), (2, 50), (3, 63)]) ∧ Ext w w' := by
  have h := ways_good 4 15 48 2 2 0 0 (by decide) (by decide) (by decide) (by decide) (by decide) (by decide) (by decide) (by decide) good_wakes w
  rw [waysL_wakes] at h
  exact h
theorem choose_wakes (w : World) : Calls Tryd.prog 13 #[stv 4 2 2 0 0] w fun e w' => e = .returned (.tuple #[.agg (plc 1 13), .int .i64 0]) ∧ Ext w w' := by
  have h := choose_good 4 2 2 0 0 [(1, 13), (2, 50), (3, 63)] (by decide) (by decide) (by decide) ways_wakes w
  have e : bestL [(1, 13), (2, 50), (3, 63)] = (1, 13) := by decide
  rw [e] at h
  exact h
end Go.Proofs.YtghefhmncpmflaaDoor
