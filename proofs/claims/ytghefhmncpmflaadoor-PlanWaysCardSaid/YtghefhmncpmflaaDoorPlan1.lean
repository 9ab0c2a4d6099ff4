/-
  The contracts of package plan's small functions on a state: its data columns, its ends, and whether one set lies in another.
-/
import Derived.Test.YtghefhmncpmflaaDoorMarks2
import Derived.Test.YtghefhmncpmflaaDoorMarks3
import Derived.Test.YtghefhmncpmflaaDoorPop
namespace Go.Proofs.YtghefhmncpmflaaDoor
open Go.RowKit Go.Rg

/-- The cells of a state. -/
def stc (d : Int) (x h k l : Nat) : Array Value :=
  #[.int .i64 d, .int .u64 x, .int .u64 0, .int .u64 0, .int .u64 0, .int .u64 h, .int .u64 0, .int .u64 0, .int .u64 0, .int .u64 k, .int .u64 0, .int .u64 0, .int .u64 0, .int .u64 l, .int .u64 0, .int .u64 0, .int .u64 0]
def stv (d : Int) (x h k l : Nat) : Value := .agg (stc d x h k l)

theorem data_any (d x h k l : Nat) (h1 : 1 ≤ d) (h2 : d < 64) (w : World) :
    Calls Tryd.prog 44 #[stv d x h k l] w fun e w' => e = .returned (mset (2 ^ d - 1)) ∧ Ext w w' := by
  have HU := Lib.hid (upto_any d h1 h2)
  clear h1 h2
  generalize hz : 2 ^ d - 1 = z at *
  clear hz
  unfold stv stc mset at *
  go_enter Tryd.func44, Tryd.ntmps44
  go_wp2_with fail
  refine (HU.out _).mono ?_
  rintro e w1 ⟨rfl, h1⟩
  have hx : Ext w w1 := (((Ext.refl w).alloc _).alloc _).trans h1
  have b2 := (Blk.new' (b := w.heap.size + 1) (by simp) 28 (wcells (fun _ => 0))).ext h1
  have c2 := b2.cells
  have f2 := b2.free
  simp only [wcells] at c2
  clear h1
  go_wp2
  exact ret_blk rfl (w.heap.size + 1) 28 (wcells (one z)) _ rfl ((((b2.set 0 _).set 1 _).set 2 _).set 3 _) Tryd.underlying28 rfl (by kernel_rfl) rfl
    ⟨rfl, (((hx.setCell (by simp) _).setCell (by simp) _).setCell (by simp) _).setCell (by simp) _⟩

theorem ends_any (d x h k l : Nat) (h2 : d < 63) (w : World) :
    Calls Tryd.prog 48 #[stv d x h k l] w fun e w' => e = .returned (mset (2 ^ d ||| 2 ^ (d + 1))) ∧ Ext w w' := by
  have hz : ofN 0 [d, d + 1] = 2 ^ d ||| 2 ^ (d + 1) := by simp [ofN]
  have HU := Lib.hid (of_any [d, d + 1] (by simp; omega) (by simp))
  rw [hz] at HU
  generalize 2 ^ d ||| 2 ^ (d + 1) = z at *
  clear hz
  unfold stv stc mset at *
  go_enter Tryd.func48, Tryd.ntmps48
  go_wp2_with fail
  refine (HU.out _ _ _ ?_).mono ?_
  · intro j hj
    have hj2 : j < 2 := hj
    match j, hj2 with
    | 0, _ => exact ((Blk.new' (b := w.heap.size + 1 + 1) (by simp) 3 _).cells 0).trans (by simp)
    | 1, _ => exact ((Blk.new' (b := w.heap.size + 1 + 1) (by simp) 3 _).cells 1).trans (by simp)
  rintro e w1 ⟨rfl, h1⟩
  have hx : Ext w w1 := ((((Ext.refl w).alloc _).alloc _).alloc _).trans h1
  have b2 := ((Blk.new' (b := w.heap.size + 1) (by simp) 28 (wcells (fun _ => 0))).alloc _).ext h1
  have c2 := b2.cells
  have f2 := b2.free
  simp only [wcells] at c2
  clear h1
  go_wp2
  exact ret_blk rfl (w.heap.size + 1) 28 (wcells (one z)) _ rfl ((((b2.set 0 _).set 1 _).set 2 _).set 3 _) Tryd.underlying28 rfl (by kernel_rfl) rfl
    ⟨rfl, (((hx.setCell (by simp) _).setCell (by simp) _).setCell (by simp) _).setCell (by simp) _⟩

theorem within_any (n m : Nat) (hn : n < 18446744073709551616) (w : World) :
    Calls Tryd.prog 83 #[mset n, mset m] w fun e w' => e = .returned (.bool (lessN n m == 0)) ∧ Ext w w' := by
  have HL := Lib.hid (less_one n m hn)
  have HE := Lib.hid (empty_any (one (lessN n m)))
  clear hn
  unfold mset at *
  go_enter Tryd.func83, Tryd.ntmps83
  go_wp2_with fail
  refine (HL.out _).mono ?_
  rintro e w1 ⟨rfl, h1⟩
  go_wp2_with fail
  refine (HE.out _).mono ?_
  rintro e w2 ⟨rfl, h2⟩
  go_wp2
  go_ret
  exact ⟨by simp [one], ((((Ext.refl w).alloc _).alloc _).trans h1).trans h2⟩
end Go.Proofs.YtghefhmncpmflaaDoor
