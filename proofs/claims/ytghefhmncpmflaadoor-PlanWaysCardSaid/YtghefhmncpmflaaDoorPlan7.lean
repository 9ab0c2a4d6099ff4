/-
  The contracts of the law's set and bits: a set of one word, and the first 32 bits of a number as an array.
-/
import Derived.Test.YtghefhmncpmflaaDoorPlan6
namespace Go.Proofs.YtghefhmncpmflaaDoor
open Go.RowKit Go.Rg

theorem set_any (n : Nat) (w : World) : Calls Tryd.prog 41 #[.int .u64 n] w fun e w' => e = .returned (mset n) ∧ Ext w w' := by
  unfold mset
  go_enter Tryd.func41, Tryd.ntmps41
  go_wp2
  exact ret_blk rfl w.heap.size 28 (wcells (one n)) _ rfl (Blk.new w 28 _) Tryd.underlying28 rfl (by kernel_rfl) rfl ⟨rfl, (Ext.refl w).alloc _⟩

/-- 32 flags. -/
def b32 (f : Nat → Bool) : Array Value := ((List.range 32).map fun i => Value.bool (f i)).toArray
theorem b32_size (f : Nat → Bool) : (b32 f).size = 32 := by simp [b32]
theorem b32_get (f : Nat → Bool) {j : Nat} (hj : j < 32) : (b32 f)[j]? = some (.bool (f j)) := by simp [b32, hj]
theorem b32_set (f : Nat → Bool) {j : Nat} (hj : j < 32) (v : Bool) : (b32 f).setIfInBounds j (.bool v) = b32 (fun i => if i = j then v else f i) := by
  refine Array.ext_getElem? (fun i => ?_)
  rw [Array.getElem?_setIfInBounds, b32_size]
  by_cases hi : i < 32
  · rw [b32_get _ hi, b32_get _ hi]
    by_cases hji : j = i
    · subst hji; simp [hj]
    · simp [hji, show ¬ i = j from fun e => hji e.symm]
  · rw [if_neg (by omega), Array.getElem?_eq_none (by rw [b32_size]; omega), Array.getElem?_eq_none (by rw [b32_size]; omega)]
theorem b32_congr {f g : Nat → Bool} (h : ∀ i, i < 32 → f i = g i) : b32 f = b32 g := by
  unfold b32
  congr 1
  exact List.map_congr_left (fun i hi => by rw [h i (List.mem_range.1 hi)])

theorem and1_bit (n k : Nat) (hn : n < 18446744073709551616) : bits .and .u64 ((n : Int) / 2 ^ k) 1 = ((n / 2 ^ k % 2 : Nat) : Int) := by
  have h : ((n : Int) / 2 ^ k) = ((n / 2 ^ k : Nat) : Int) := by rw [Int.natCast_ediv, Int.natCast_pow]; rfl
  rw [h]
  have := bits_and_u64_nat (n / 2 ^ k) 1 (Nat.lt_of_le_of_lt (Nat.div_le_self _ _) hn) (by decide)
  rw [Nat.and_one_is_mod] at this
  exact this
theorem bit_eq (n k : Nat) : (((n / 2 ^ k % 2 : Nat) : Int) == 1) = n.testBit k := by
  rw [Nat.testBit_eq_decide_div_mod_eq, Bool.eq_iff_iff]
  generalize n / 2 ^ k % 2 = z
  rw [beq_iff_eq, decide_eq_true_eq]
  omega

theorem bit_eqI (n k : Nat) : ((n : Int) / 2 ^ k % 2 == 1) = n.testBit k := by
  rw [← bit_eq n k]
  congr 1
theorem b32_one (f : Nat → Bool) : (b32 f).all (·.oneCell') = true := by
  unfold b32
  rw [Array.all_eq_true_iff_forall_mem]
  intro v hv
  simp at hv
  obtain ⟨i, _, rfl⟩ := hv
  rfl
theorem high_eq (n : Nat) : ((n : Int) / 4294967296 != 0) = (n / 4294967296 != 0) := by
  have : ((n : Int) / 4294967296) = ((n / 4294967296 : Nat) : Int) := rfl
  rw [this, Bool.eq_iff_iff, bne_iff_ne, bne_iff_ne]
  omega

theorem bits_any (n : Nat) (hn : n < 18446744073709551616) (w : World) :
    Calls Tryd.prog 42 #[.int .u64 n] w fun e w' => e = .returned (.tuple #[.agg (b32 n.testBit), .bool (n / 4294967296 != 0)]) ∧ Ext w w' := by
  have HA := Lib.hid (fun k => and1_bit n k hn)
  have HB := Lib.hid (fun k => bit_eqI n k)
  generalize hf : n.testBit = f at *
  clear hf
  go_enter Tryd.func42, Tryd.ntmps42
  go_wp2_with fail
  go_loopw [5, 6] (fun _ i wr => ∃ k : Nat, k ≤ 32 ∧ i = .int .i64 k ∧ Ext w wr ∧ Blk wr w.heap.size 31 (b32 fun _ => false) ∧ Blk wr (w.heap.size + 1) 31 (b32 fun i => if i < k then f i else false))
    (fun _ i _ => 32 - (intOf i).toNat)
  case atStart => exact ⟨0, by omega, rfl, ((Ext.refl w).alloc _).alloc _, (Blk.new w 31 _).alloc _, Blk.new' (by simp) 31 _⟩
  case round =>
    obtain ⟨k, hk, rfl, hx, B1, B2⟩ := hrel
    by_cases hlt : k < 32
    · have i0 : (0 : Int) ≤ (k : Int) := by omega
      have i4 : (k : Int) < 32 := by omega
      have ha := HA.out k
      have hb := HB.out k
      have c2 := B2.cells k
      rw [b32_get _ hlt] at c2
      have f2 := B2.free k
      go_wp2_with fail
      refine ⟨⟨k + 1, by omega, by go_num, hx.setCell (by simp) _, B1.far (by simp) _, ?_⟩, by simp [intOf]; omega⟩
      have := B2.set k (.bool (f k))
      rw [b32_set _ hlt] at this
      refine Eq.mp (congrArg (fun q => Blk _ _ _ q) (b32_congr (fun i hi => ?_))) this
      by_cases hj : i = k
      · simp [hj]
      · by_cases hj2 : i < k
        · simp [hj, hj2, show i < k + 1 by omega]
        · simp [hj, hj2, show ¬ i < k + 1 by omega]
    · have hk4 : k = 32 := by omega
      subst hk4
      have e2 : Blk wr (w.heap.size + 1) 31 (b32 f) := by
        rw [b32_congr (fun i hi => if_pos hi)] at B2
        exact B2
      clear B2
      go_upto_region 7 with (fail)
      go_wp2_with (first
        | (refine wpList_load_row rfl _ _ rfl (w.heap.size + 1) rfl 31 (b32 f) (0, 0) _ e2 Tryd.underlying31 rfl (by rw [b32_size]; kernel_rfl) ?_)
        | (refine wpList_store_mid rfl _ _ _ rfl w.heap.size 0 (b32 f) rfl rfl (B1.there (by rw [b32_size, b32_size]; exact Nat.le_refl _)) (by rw [b32_size]; kernel_rfl) (b32_one f) ?_))
      exact ret_blk2 rfl w.heap.size 31 (b32 f) _ rfl (B1.setAll (by rw [b32_size, b32_size])) Tryd.underlying31 rfl (by rw [b32_size]; kernel_rfl) rfl
        ⟨by simp [high_eq], hx.setCells (Nat.le_refl _) _ _⟩
end Go.Proofs.YtghefhmncpmflaaDoor
