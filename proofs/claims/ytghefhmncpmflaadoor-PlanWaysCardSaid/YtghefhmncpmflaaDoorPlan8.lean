/-
  The contract of the law's good: a state that is good, of any numbers.
-/
import Derived.Test.YtghefhmncpmflaaDoorPlan7
import Derived.Deep.DeepCutAuto
namespace Go.Proofs.YtghefhmncpmflaaDoor
open Go.RowKit Go.Rg

def rawv (d : Int) (x h k l : Nat) : Value := .agg #[.int .i64 d, .int .u64 x, .int .u64 h, .int .u64 k, .int .u64 l]

/-- How many data columns. -/
def gD (d : Int) : Nat := 2 + (max 0 d).toNat % 6
def gX (A x : Nat) : Nat := if andN x A = 0 then 1 else andN x A
def stepL (l : Nat) (s : Nat × Nat) (i : Nat) : Nat × Nat := if l.testBit i && decide (s.2 < 2) then (s.1 ||| 2 ^ i, s.2 + 1) else s
/-- The first two of the lost ones. -/
def lostF (l m : Nat) : Nat × Nat := (List.range m).foldl (stepL l) (0, 0)
theorem lostF_succ (l m : Nat) : lostF l (m + 1) = stepL l (lostF l m) m := by
  unfold lostF; rw [List.range_succ, List.foldl_append]; rfl
theorem lostF_le (l m : Nat) : (lostF l m).2 ≤ 2 := by
  induction m with
  | zero => exact Nat.zero_le _
  | succ m ih => rw [lostF_succ]; unfold stepL; split <;> simp_all; omega
theorem lostF_lt (l m : Nat) : (lostF l m).1 < 2 ^ m := by
  induction m with
  | zero => exact Nat.one_pos
  | succ m ih =>
    rw [lostF_succ]; unfold stepL
    split
    · exact Nat.or_lt_two_pow (Nat.lt_of_lt_of_le ih (Nat.pow_le_pow_right (by decide) (by omega))) (Nat.pow_lt_pow_right (by decide) (by omega))
    · exact Nat.lt_of_lt_of_le ih (Nat.pow_le_pow_right (by decide) (by omega))

theorem shl_nat (i : Nat) (hi : i < 64) : IntKind.u64.wrap (2 ^ i) = ((2 ^ i : Nat) : Int) := by
  have h : ((2 : Int) ^ i) = ((2 ^ i : Nat) : Int) := by rw [Int.natCast_pow]; rfl
  rw [h, IntKind.wrap_u64]
  have : 2 ^ i < 2 ^ 64 := Nat.pow_lt_pow_right (by decide) hi
  generalize 2 ^ i = z at *
  omega
theorem or_shl (s i : Nat) (hi : i < 64) (hs : s < 18446744073709551616) : bits .or .u64 (s : Int) (IntKind.u64.wrap (2 ^ i)) = ((s ||| 2 ^ i : Nat) : Int) := by
  rw [shl_nat i hi]
  exact bits_or_u64_nat s (2 ^ i) hs (Nat.pow_lt_pow_right (n := 64) (by decide) hi)

set_option maxHeartbeats 1000000 in
theorem good_law (d : Int) (x h k l : Nat) (hx : x < 18446744073709551616) (hh : h < 18446744073709551616) (hk : k < 18446744073709551616) (hl : l < 18446744073709551616) (w : World) :
    Calls Tryd.prog 9 #[rawv d x h k l] w fun e w' =>
      e = .returned (rawv (gD d) (gX (2 ^ gD d - 1) x) (orN (andN h (2 ^ gD d - 1)) (gX (2 ^ gD d - 1) x)) (andN k (2 ^ gD d - 1)) (lostF l (gD d + 2)).1) ∧ Ext w w' := by
  obtain ⟨M, hM⟩ : ∃ M : Nat, (if 0 < d then d else 0) = (M : Int) := ⟨(if 0 < d then d else 0).toNat, by split <;> omega⟩
  have hDM : gD d = 2 + M % 6 := by unfold gD; split at hM <;> omega
  have hD2 : 2 + (M : Int) % 6 = ((gD d : Nat) : Int) := by rw [hDM]; omega
  have hDb : 2 ≤ gD d ∧ gD d ≤ 7 := by omega
  have hA : IntKind.u64.wrap (IntKind.u64.wrap (2 ^ gD d) - 1) = ((2 ^ gD d - 1 : Nat) : Int) := by
    rw [shl_nat _ (by omega), IntKind.wrap_u64]
    have hp : 2 ^ gD d ≤ 2 ^ 7 := Nat.pow_le_pow_right (by decide) hDb.2
    have hp0 : 0 < 2 ^ gD d := Nat.pow_pos (by decide)
    generalize 2 ^ gD d = z at *
    omega
  have hAl : 2 ^ gD d - 1 < 18446744073709551616 := by
    have hp : 2 ^ gD d ≤ 2 ^ 7 := Nat.pow_le_pow_right (by decide) hDb.2
    omega
  obtain ⟨D1, D2⟩ := hDb
  have HS := Lib.hid (fun i => lostF_succ l i)
  have HLe := Lib.hid (fun i => lostF_le l i)
  have HLl := Lib.hid (fun i => lostF_lt l i)
  generalize 2 ^ gD d - 1 = A at *
  generalize gD d = D at *
  clear hDM
  have a1 := bits_and_u64_nat x A hx hAl
  have a2 := bits_and_u64_nat h A hh hAl
  have a3 := bits_and_u64_nat k A hk hAl
  have hxA : x &&& A < 18446744073709551616 := Nat.lt_of_le_of_lt Nat.and_le_left hx
  have hX2 : gX A x < 18446744073709551616 := by unfold gX; split <;> omega
  have a4 := bits_or_u64_nat (h &&& A) (gX A x) (Nat.lt_of_le_of_lt Nat.and_le_left hh) hX2
  have HX := Lib.hid (show gX A x = if x &&& A = 0 then 1 else x &&& A from rfl)
  change bits .or .u64 ((h &&& A : Nat) : Int) ((gX A x : Nat) : Int) = ((orN (andN h A) (gX A x) : Nat) : Int) at a4
  generalize orN (andN h A) (gX A x) = h2 at *
  generalize gX A x = x2 at *
  change bits .and .u64 (k : Int) (A : Int) = ((andN k A : Nat) : Int) at a3
  generalize andN k A = k2 at *
  generalize hz1 : x &&& A = xa at *
  generalize hz2 : h &&& A = ha at *
  clear hz1 hz2 hx hh hk hX2 hxA hAl
  have d0 : (0 : Int) ≤ D := by omega
  have d7 : (D : Int) ≤ 7 := by omega
  unfold rawv
  go_enter Tryd.func9, Tryd.ntmps9
  go_upto_if 24 with (fail)
  go_cut [24] (fun _ wx => wx = (w.alloc (Obj.cells #[Value.int IntKind.i64 D, Value.int IntKind.u64 x2, Value.int IntKind.u64 h, Value.int IntKind.u64 k, Value.int IntKind.u64 l] 24)).alloc
    (Obj.cells #[Value.int IntKind.i64 0, Value.int IntKind.u64 0, Value.int IntKind.u64 0, Value.int IntKind.u64 0, Value.int IntKind.u64 0] 24))
  case first =>
    refine wp_cond_split rfl (fun hh => ?_) (fun hh => ?_)
    · have e : x2 = 1 := by rw [HX.out, if_pos (by simpa using hh)]
      subst e
      go_wp2_with fail
      go_meet
      rfl
    · have e : x2 = xa := by rw [HX.out, if_neg (by simpa using hh)]
      subst e
      go_wp2_with fail
      go_meet
      rfl
  case rest =>
    subst hcut
    clear a1 HX
    go_wp2_with fail
    go_loop [4, 5, 42] (fun s c i => ∃ j m : Nat, j ≤ D + 2 ∧ m ≤ 2 ∧ i = .int .i64 j ∧ s = .int .u64 ((lostF l j).1 : Nat) ∧ c = .int .i64 m ∧ m = (lostF l j).2) (fun _ _ i => D + 2 - (intOf i).toNat)
    case atStart => exact ⟨0, 0, by omega, by omega, rfl, rfl, rfl, rfl⟩
    case round =>
      obtain ⟨j, m, hj, hm, rfl, rfl, rfl, hmm⟩ := hrel
      have HMM := Lib.hid hmm
      clear hmm
      have HJ := Lib.hid (HS.out j)
      have hsl := HLl.out j
      by_cases hlt : j < D + 2
      · have i0 : (0 : Int) ≤ (j : Int) := by omega
        have i4 : (j : Int) < D + 2 := by omega
        have hsl2 : (lostF l j).1 < 18446744073709551616 := Nat.lt_of_lt_of_le hsl (show 2 ^ j ≤ 2 ^ 64 from Nat.pow_le_pow_right (by decide) (by omega))
        have ho := or_shl (lostF l j).1 j (by omega) hsl2
        have hb1 := and1_bit l j hl
        have hb2 := bit_eqI l j
        rw [Int.natCast_emod, Int.natCast_ediv, Int.natCast_pow] at hb1
        have HNX : Hid (stepL l (lostF l j) j = if l.testBit j && decide (m < 2) then ((lostF l j).1 ||| 2 ^ j, m + 1) else (lostF l j)) := Lib.hid (by unfold stepL; rw [HMM.out])
        clear hsl hsl2
        generalize (lostF l j).1 ||| 2 ^ j = s2 at *
        generalize hs1 : (lostF l j).1 = s1 at *
        have HS1 := Lib.hid hs1
        clear hs1
        generalize l.testBit j = tb at *
        cases tb
        case false =>
          go_wp2_with fail
          refine ⟨⟨j + 1, m, by omega, hm, by go_num, ?_, rfl, ?_⟩, by simp [intOf]; omega⟩
          · rw [HJ.out, HNX.out, ← HS1.out]; rfl
          · rw [HJ.out, HNX.out, HMM.out]; rfl
        case true =>
          by_cases hm2 : m < 2
          · have hm3 : (m : Int) < 2 := by omega
            go_wp2_with fail
            refine ⟨⟨j + 1, m + 1, by omega, by omega, by go_num, ?_, by go_num, ?_⟩, by simp [intOf]; omega⟩
            · rw [HJ.out, HNX.out]; simp [hm2]
            · rw [HJ.out, HNX.out]; simp [hm2]
          · have hm3 : ¬ (m : Int) < 2 := by omega
            have hm4 : decide ((m : Int) < 2) = false := by simpa using hm3
            go_wp2_with fail
            refine ⟨⟨j + 1, m, by omega, hm, by go_num, ?_, rfl, ?_⟩, by simp [intOf]; omega⟩
            · rw [HJ.out, HNX.out, ← HS1.out]; simp [hm2]
            · rw [HJ.out, HNX.out]; simp [hm2]; exact HMM.out
      · have hje : j = D + 2 := by omega
        subst hje
        go_wp2
        exact ret_blk rfl (w.heap.size + 1) 24 #[.int .i64 D, .int .u64 x2, .int .u64 h2, .int .u64 k2, .int .u64 (lostF l (D + 2)).1] _ rfl (Blk.new' (by simp) 24 _) Tryd.underlying24 rfl (by kernel_rfl) rfl
          ⟨rfl, ((Ext.refl w).alloc _).alloc _⟩
end Go.Proofs.YtghefhmncpmflaaDoor
