/-
  The document's Way, as a plain law: which columns the plan of a kind reads, and may it be.
-/
import Derived.Test.YtghefhmncpmflaaDoorRef3
namespace Go.Proofs.YtghefhmncpmflaaDoor
open Go.RowKit Go.Rg

/-- Does the plan of a kind read column i? -/
def readR (kind D : Nat) (A B C E : Nat → Bool) (i : Nat) : Bool :=
  if kind = 0 then false
  else if kind = 1 then !decide (D ≤ i) && !B i
  else if kind = 2 then (decide (D ≤ i) && !E i) || (A i && !C i)
  else !E i
/-- Does column i allow it? -/
def mayR (kind D : Nat) (A B C E : Nat → Bool) (i : Nat) : Bool :=
  if kind = 0 then decide (D ≤ i) || B i else !(readR kind D A B C E i && E i)
/-- The flags after n rounds. -/
def upR (kind D : Nat) (A B C E : Nat → Bool) (n i : Nat) : Bool := decide (i < n) && readR kind D A B C E i
def wayOk (kind D : Nat) (A B C E : Nat → Bool) : Bool :=
  (List.range (D + 2)).all (mayR kind D A B C E) && (!(decide (kind = 1) && decide (cntF (readR kind D A B C E) (D + 2) = 0)) && !(decide (kind = 2) && (E D && E (D + 1))))
/-- The document's plan of a kind, and may it be. -/
def wayR (kind D : Nat) (A B C E : Nat → Bool) : Array Value × Bool :=
  if wayOk kind D A B C E then (rpl kind (upR kind D A B C E (D + 2)), true) else (rpl 0 (fun _ => false), false)

theorem wayOk_off (kind D : Nat) (A B C E : Nat → Bool) (j : Nat) (hj : j < D + 2) (h : mayR kind D A B C E j = false) : wayOk kind D A B C E = false := by
  have : (List.range (D + 2)).all (mayR kind D A B C E) = false := by
    rw [List.all_eq_false]
    exact ⟨j, List.mem_range.2 hj, by simp [h]⟩
  unfold wayOk
  rw [this]; simp
theorem rpl_set (k : Int) (f : Nat → Bool) {j : Nat} (hj : j < 32) (v : Bool) : (rpl k f).setIfInBounds (1 + j) (.bool v) = rpl k (fun i => if i = j then v else f i) := by
  unfold rpl
  rw [Array.setIfInBounds_append_right (by simp), ← b32_set f hj]
  simp
theorem upR_succ (kind D : Nat) (A B C E : Nat → Bool) (n : Nat) : (fun i => if i = n then readR kind D A B C E n else upR kind D A B C E n i) = upR kind D A B C E (n + 1) := by
  funext i
  unfold upR
  by_cases h : i = n
  · subst h; simp
  · rw [if_neg h]
    congr 1
    rw [Bool.eq_iff_iff, decide_eq_true_eq, decide_eq_true_eq]; omega
end Go.Proofs.YtghefhmncpmflaaDoor
