/-
  The contracts of package marks' small functions over sets of one word.
-/
import Derived.Test.YtghefhmncpmflaaDoorRows
import Derived.Test.YtghefhmncpmflaaDoorMem
import Derived.RowKitTokens
import Derived.Outline
import Derived.BigQuiet
import Derived.Laws.Bits64b
import Derived.Laws.ShiftsVarLaws
import Derived.Laws.StructEq
import Derived.IntWalk
import Derived.Laws.Bits64b
import Derived.Laws.ShiftsVarLaws
import Derived.Laws.StructEq
import Derived.IntWalk
import Derived.Laws.Bits64b
import Derived.Laws.ShiftsVarLaws
import Derived.Laws.StructEq
import Derived.IntWalk
import Derived.Laws.Bits64b
import Derived.Laws.ShiftsVarLaws
import Derived.Laws.StructEq
import Derived.IntWalk
import Derived.Laws.Bits64b
import Derived.Laws.ShiftsVarLaws
import Derived.Laws.StructEq
import Derived.IntWalk
import Derived.Laws.Bits64b
import Derived.Laws.ShiftsVarLaws
import Derived.Laws.StructEq
import Derived.IntWalk
import Derived.Laws.Bits64b
import Derived.Laws.ShiftsVarLaws
import Derived.Laws.StructEq
import Derived.IntWalk
namespace Go.Proofs.YtghefhmncpmflaaDoor
open Go.RowKit Go.Rg

/-- A set, by its four words. -/
def cset (f : Nat → Nat) : Value := .agg #[.int .u64 (f 0), .int .u64 (f 1), .int .u64 (f 2), .int .u64 (f 3)]
def wcells (f : Nat → Nat) : Array Value := #[.int .u64 (f 0), .int .u64 (f 1), .int .u64 (f 2), .int .u64 (f 3)]
/-- The words of a set of one word. -/
def one (n : Nat) : Nat → Nat := fun j => if j = 0 then n else 0
/-- A set of numbers below 64. -/
def mset (n : Nat) : Value := .agg #[.int .u64 n, .int .u64 0, .int .u64 0, .int .u64 0]

theorem wcells_get (f : Nat → Nat) {j : Nat} (hj : j < 4) : (wcells f)[j]? = some (.int .u64 (f j)) := by
  match j, hj with
  | 0, _ => rfl
  | 1, _ => rfl
  | 2, _ => rfl
  | 3, _ => rfl
theorem wcells_set (f : Nat → Nat) {j : Nat} (hj : j < 4) (v : Nat) : (wcells f).setIfInBounds j (.int .u64 v) = wcells (fun i => if i = j then v else f i) := by
  match j, hj with
  | 0, _ => rfl
  | 1, _ => rfl
  | 2, _ => rfl
  | 3, _ => rfl








theorem may_any (i : Int) (w : World) : Calls Tryd.prog 88 #[.int .i64 i] w fun e w' => e = .returned (.bool (decide (0 ≤ i) && decide (i < 256))) ∧ w = w' := by
  by_cases h0 : 0 ≤ i
  · go_enter Tryd.func88, Tryd.ntmps88
    go_wp2
    go_ret
    exact ⟨by simp [h0], rfl⟩
  · have h0' : decide (0 ≤ i) = false := by simpa using h0
    go_enter Tryd.func88, Tryd.ntmps88
    go_wp2
    go_ret
    exact ⟨by simp, rfl⟩

/-- The bits of x that y has not. -/
def lessN (x y : Nat) : Nat := x ^^^ (x &&& y)
theorem lessN_lt {x y n : Nat} (hx : x < 2 ^ n) : lessN x y < 2 ^ n := Nat.xor_lt_two_pow hx (Nat.lt_of_le_of_lt Nat.and_le_left hx)
theorem testBit_lessN (x y i : Nat) : (lessN x y).testBit i = (x.testBit i && !y.testBit i) := by
  unfold lessN
  rw [Nat.testBit_xor, Nat.testBit_and]
  cases x.testBit i <;> cases y.testBit i <;> rfl

theorem bits_andNot_u64_nat (a b : Nat) (ha : a < 18446744073709551616) :
    bits .andNot .u64 (a : Int) (b : Int) = ((lessN a b : Nat) : Int) := by
  have hx : lessN a b < 2 ^ 64 := lessN_lt ha
  have h1 : (BitVec.ofInt 64 (a : Int)) = BitVec.ofNat 64 a := by rw [BitVec.ofInt_natCast]
  have h2 : (BitVec.ofInt 64 (b : Int)) = BitVec.ofNat 64 b := by rw [BitVec.ofInt_natCast]
  show IntKind.u64.wrap ((BitVec.ofInt 64 (a : Int) &&& ~~~ BitVec.ofInt 64 (b : Int)).toNat : Int) = _
  have hq : (BitVec.ofInt 64 (a : Int) &&& ~~~ BitVec.ofInt 64 (b : Int)).toNat = lessN a b := by
    rw [h1, h2]
    apply Nat.eq_of_testBit_eq
    intro i
    rw [testBit_lessN, BitVec.testBit_toNat, BitVec.getLsbD_and, BitVec.getLsbD_not, BitVec.getLsbD_ofNat, BitVec.getLsbD_ofNat]
    by_cases hi : i < 64
    · simp [hi]
    · have : a.testBit i = false := Nat.testBit_lt_two_pow (Nat.lt_of_lt_of_le (show a < 2 ^ 64 from ha) (Nat.pow_le_pow_right (by decide) (by omega)))
      simp [hi, this]
  rw [hq, IntKind.wrap_u64]
  omega

theorem ret_u64 {a b : Int} (h : a = b) (w : World) : Ending.returned (.int .u64 a) = .returned (.int .u64 b) ∧ w = w := ⟨by rw [h], rfl⟩

theorem or1 (x y : Nat) (hx : x < 18446744073709551616) (hy : y < 18446744073709551616) (w : World) : Calls Tryd.prog 84 #[.int .u64 x, .int .u64 y] w fun e w' => e = .returned (.int .u64 (x ||| y : Nat)) ∧ w = w' := by
  have H := Lib.hid (bits_or_u64_nat x y hx hy)
  clear hx hy
  go_enter Tryd.func84, Tryd.ntmps84
  go_wp2
  go_ret
  exact ret_u64 H.out _
theorem and1 (x y : Nat) (hx : x < 18446744073709551616) (hy : y < 18446744073709551616) (w : World) : Calls Tryd.prog 57 #[.int .u64 x, .int .u64 y] w fun e w' => e = .returned (.int .u64 (x &&& y : Nat)) ∧ w = w' := by
  have H := Lib.hid (bits_and_u64_nat x y hx hy)
  clear hx hy
  go_enter Tryd.func57, Tryd.ntmps57
  go_wp2
  go_ret
  exact ret_u64 H.out _
theorem less1 (x y : Nat) (hx : x < 18446744073709551616) (w : World) : Calls Tryd.prog 85 #[.int .u64 x, .int .u64 y] w fun e w' => e = .returned (.int .u64 (lessN x y : Nat)) ∧ w = w' := by
  have H := Lib.hid (bits_andNot_u64_nat x y hx)
  clear hx
  go_enter Tryd.func85, Tryd.ntmps85
  go_wp2
  go_ret
  exact ret_u64 H.out _

theorem bit_any' (i : Nat) (hi : i < 256) (w : World) : Calls Tryd.prog 89 #[.int .i64 i] w fun e w' => e = .returned (.tuple #[.int .i64 (i / 64 : Nat), .int .u64 (2 ^ (i % 64) : Nat)]) ∧ Ext w w' := by
  go_enter Tryd.func89, Tryd.ntmps89
  go_wp2
  go_quiet (fail)
  go_wp2
  go_ret2
  refine ⟨?_, (Ext.refl _).drewN _⟩
  have h : IntKind.u64.wrap (2 ^ (i % 64)) = ((2 ^ (i % 64) : Nat) : Int) := by
    rw [IntKind.wrap_u64]
    have : 2 ^ (i % 64) < 2 ^ 64 := Nat.pow_lt_pow_right (by decide) (Nat.mod_lt _ (by decide))
    rw [Int.natCast_pow]
    refine Int.emod_eq_of_lt (Int.pow_nonneg (by decide)) ?_
    have h2 : ((2 ^ (i % 64) : Nat) : Int) < ((2 ^ 64 : Nat) : Int) := Int.ofNat_lt.2 this
    rw [Int.natCast_pow, Int.natCast_pow] at h2
    exact h2
  simp [h]

/-- The bit of a number. -/
def bitN (i : Nat) : Nat := 2 ^ (i % 64)
theorem bitN_lt (i : Nat) : bitN i < 18446744073709551616 := Nat.pow_lt_pow_right (a := 2) (n := 64) (m := i % 64) (by decide) (Nat.mod_lt i (by decide))
theorem bit_any (i : Nat) (hi : i < 256) (w : World) : Calls Tryd.prog 89 #[.int .i64 i] w fun e w' => e = .returned (.tuple #[.int .i64 (i / 64 : Nat), .int .u64 (bitN i : Nat)]) ∧ Ext w w' := bit_any' i hi w

theorem may_yes (i : Nat) (hi : i < 256) (w : World) : Calls Tryd.prog 88 #[.int .i64 i] w fun e w' => e = .returned (.bool true) ∧ w = w' :=
  (may_any i w).mono fun e w' ⟨he, hw⟩ => ⟨by rw [he]; simp; omega, hw⟩

theorem with_any (f : Nat → Nat) (hf : ∀ j, f j < 18446744073709551616) (i : Nat) (hi : i < 256) (w : World) :
    Calls Tryd.prog 62 #[cset f, .int .i64 i] w fun e w' => e = .returned (cset fun j => if j = i / 64 then f (i / 64) ||| bitN i else f j) ∧ Ext w w' := by
  have hk : i / 64 < 4 := by omega
  have hor := bits_or_u64_nat (f (i / 64)) (bitN i) (hf _) (bitN_lt i)
  clear hf
  generalize hg : (fun j => if j = i / 64 then f (i / 64) ||| bitN i else f j) = g
  have HG := Lib.hid hg
  clear hg
  unfold cset
  go_enter Tryd.func62, Tryd.ntmps62
  go_wp2_with fail
  refine (may_yes _ hi _).mono ?_
  rintro e w1 ⟨rfl, rfl⟩
  go_wp2_with fail
  refine (bit_any i hi _).mono ?_
  rintro e w1 ⟨rfl, h1⟩
  have b1 := ((Blk.new w 28 (wcells f)).alloc (.cells (wcells (fun _ => 0)) 28)).ext h1
  have b2 := (Blk.new' (b := w.heap.size + 1) (w := w.alloc (.cells (wcells f) 28)) (by simp) 28 (wcells (fun _ => 0))).ext h1
  have hx : Ext w w1 := (((Ext.refl w).alloc _).alloc _).trans h1
  have c1 := b1.cells (i / 64)
  rw [wcells_get f hk] at c1
  have f1 := b1.free (i / 64)
  have k0 : (0 : Int) ≤ (i / 64 : Nat) := by omega
  have k4 : ((i / 64 : Nat) : Int) < 4 := by omega
  go_upto_region 4 with (fail)
  refine wp_forget (fun w2 => Ext w w2 ∧ Blk w2 w.heap.size 28 (wcells g) ∧ Blk w2 (w.heap.size + 1) 28 (wcells fun _ => 0)) ⟨hx.setCell (Nat.le_refl _) _, ?_, b2.far (by simp) _⟩ ?_
  · have := b1.set (i / 64) (.int .u64 (f (i / 64) ||| bitN i : Nat))
    rw [wcells_set f hk, HG.out] at this
    exact this
  clear b1 b2 hx c1 f1 h1
  rintro w2 ⟨hx, b1, b2⟩
  have c1 := b1.cells
  have c2 := b2.cells
  have f2 := b2.free
  simp only [wcells] at c1 c2
  go_wp2
  exact ret_blk rfl (w.heap.size + 1) 28 (wcells g) _ rfl ((((b2.set 0 _).set 1 _).set 2 _).set 3 _) Tryd.underlying28 rfl (by kernel_rfl) rfl
    ⟨rfl, (((hx.setCell (by simp) _).setCell (by simp) _).setCell (by simp) _).setCell (by simp) _⟩
end Go.Proofs.YtghefhmncpmflaaDoor
