/-
  The contract of the document's Way.
-/
import Derived.Test.YtghefhmncpmflaaDoorRef4
namespace Go.Proofs.YtghefhmncpmflaaDoor
open Go.RowKit Go.Rg

theorem build49 (k : Int) (w : World) : (Instr.build 49 #[(0, .int .i64 k)]).run Tryd.prog w = .ok (.agg (rpl k fun _ => false)) w := by kernel_rfl
theorem build49z (w : World) : (Instr.build 49 #[]).run Tryd.prog w = .ok (.agg (rpl 0 fun _ => false)) w := by kernel_rfl
theorem alloc49 (w : World) : (Instr.alloc 49 true (.tuple #[])).run Tryd.prog w = .ok (.pointer (some ⟨w.heap.size, 0, none⟩)) (w.alloc (.cells (rpl 0 fun _ => false) 49)) := by kernel_rfl
theorem rpl_one (k : Int) (f : Nat → Bool) : (rpl k f).all (·.oneCell') = true := by
  unfold rpl
  rw [Array.all_append, b32_one]
  simp [Value.oneCell']
end Go.Proofs.YtghefhmncpmflaaDoor
