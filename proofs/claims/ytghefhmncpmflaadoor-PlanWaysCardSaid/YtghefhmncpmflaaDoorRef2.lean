/-
  The contract of the law's samePlan: is the plan the document's?
-/
import Derived.Test.YtghefhmncpmflaaDoorRef1
namespace Go.Proofs.YtghefhmncpmflaaDoor
open Go.RowKit Go.Rg

theorem numF_lt (f : Nat → Bool) (n : Nat) : numF f n < 2 ^ n := by
  induction n with
  | zero => simp [numF]
  | succ n ih =>
    simp only [numF]
    refine Nat.or_lt_two_pow (Nat.lt_of_lt_of_le ih (Nat.pow_le_pow_right (by decide) (by omega))) ?_
    split
    · rw [Nat.one_shiftLeft]; exact Nat.pow_lt_pow_right (by decide) (by omega)
    · exact Nat.pow_pos (by decide)

theorem run_index_flag (cs : Array Value) (j : Nat) (hj : j < 32) (v : Value) (h : cs[j]? = some v) (w : World) :
    (Instr.index 31 (.agg cs) (.int .i64 (j : Int))).run Tryd.prog w = .ok v w := by
  have hn : 0 ≤ (j : Int) ∧ (j : Int) < ((32 : Nat) : Int) := by omega
  have p := run_part_plain (P := Tryd.prog) w (e := 4) (xs := cs) (off := j) (by kernel_rfl) h
  have hc : Tryd.prog.cellsOf 4 = 1 := by kernel_rfl
  simp [Instr.index, run_underlying Tryd.underlying31, asIntOf, hn, hc, hj, h, p, go_sem]

set_option maxRecDepth 100000 in
set_option maxHeartbeats 2000000 in
theorem same_any (m n : Nat) (kk : Int) (f : Nat → Bool) (w : World) :
    Calls Tryd.prog 15 #[.agg (plc m n), .agg (rpl kk f)] w fun e w' => e = .returned (.bool (((m : Int) == kk) && (n == numF f 32))) ∧ Ext w w' := by
  have HG := Lib.hid (fun j (hj : j < 32) => b32_get f hj)
  have HZ := Lib.hid (b32_size f)
  have HN := Lib.hid (numF_lt f)
  have H0 := Lib.hid (rpl_size kk f)
  have HK := Lib.hid (show (rpl kk f)[0]? = some (.int .i64 kk) from by unfold rpl; rw [Array.getElem?_append_left (by simp)]; rfl)
  have HE := Lib.hid (show (rpl kk f).extract 1 (1 + 32) = b32 f from by
    refine Array.ext_getElem? (fun i => ?_)
    by_cases hi : i < 32
    · rw [Array.getElem?_extract, rpl_size, if_pos (by omega), rpl_get _ _ hi, b32_get _ hi]
    · rw [Array.getElem?_extract, if_neg (by rw [rpl_size]; omega), Array.getElem?_eq_none (by rw [b32_size]; omega)])
  have HC := Lib.hid set_any
  generalize hb : b32 f = fs at *
  generalize hc : rpl kk f = cs at *
  clear hb hc
  unfold plc mset at *
  go_enter Tryd.func15, Tryd.ntmps15
  go_upto_region 2 with (fail)
  have B1 : Blk ((w.alloc (.cells #[.int .i64 m, .int .u64 n, .int .u64 0, .int .u64 0, .int .u64 0] 45)).alloc (.cells cs 49)) w.heap.size 45 #[.int .i64 m, .int .u64 n, .int .u64 0, .int .u64 0, .int .u64 0] := (Blk.new w 45 _).alloc _
  have B2 : Blk ((w.alloc (.cells #[.int .i64 m, .int .u64 n, .int .u64 0, .int .u64 0, .int .u64 0] 45)).alloc (.cells cs 49)) (w.heap.size + 1) 49 cs := Blk.new' (by simp) 49 _
  have hx0 : Ext w ((w.alloc (.cells #[.int .i64 m, .int .u64 n, .int .u64 0, .int .u64 0, .int .u64 0] 45)).alloc (.cells cs 49)) := ((Ext.refl w).alloc _).alloc _
  have hr := Lib.hid (B2.range 1 32)
  rw [HE.out] at hr
  go_wp2_with (refine wpList_load_mid rfl _ _ rfl (w.heap.size + 1) 1 rfl fs.toList _ hr.out Tryd.underlying31 rfl (by rw [Array.length_toList, HZ.out]; kernel_rfl) ?_)
  go_loopw [5, 6, 7, 10] (fun s _ _ i wr => ∃ j : Nat, j ≤ 32 ∧ i = .int .i64 j ∧ s = .int .u64 (numF f j : Nat) ∧ wr = (w.alloc (.cells #[.int .i64 m, .int .u64 n, .int .u64 0, .int .u64 0, .int .u64 0] 45)).alloc (.cells cs 49))
    (fun _ _ _ i _ => 32 - (intOf i).toNat)
  case atStart => exact ⟨0, by omega, rfl, rfl, rfl⟩
  case round =>
    obtain ⟨j, hj, rfl, rfl, rfl⟩ := hrel
    by_cases hlt : j < 32
    · have i0 : (0 : Int) ≤ (j : Int) := by omega
      have i4 : (j : Int) < 32 := by omega
      have hg := HG.out j hlt
      have hix := fun w => run_index_flag fs j hlt _ hg w
      clear hg
      have hl : numF f j < 18446744073709551616 := Nat.lt_of_lt_of_le (HN.out j) (show 2 ^ j ≤ 2 ^ 64 from Nat.pow_le_pow_right (by decide) (by omega))
      have ho := or_shl (numF f j) j (by omega) hl
      have hs : numF f (j + 1) = numF f j ||| (if f j then 1 <<< j else 0) := rfl
      rw [Nat.one_shiftLeft] at hs
      generalize h2e : numF f j ||| 2 ^ j = s2 at ho
      generalize numF f j = s1 at *
      have H2 := Lib.hid h2e
      clear h2e
      cases hf : f j
      · rw [hf] at hix hs
        go_wp2_with fail
        exact ⟨⟨j + 1, by omega, by go_num, by rw [hs]; simp, trivial⟩, by simp [intOf]; omega⟩
      · rw [hf] at hix hs
        go_wp2_with fail
        exact ⟨⟨j + 1, by omega, by go_num, by rw [hs, if_pos rfl, H2.out], trivial⟩, by simp [intOf]; omega⟩
    · have hk4 : j = 32 := by omega
      subst hk4
      have hl : numF f 32 < 18446744073709551616 := Nat.lt_of_lt_of_le (HN.out 32) (by decide)
      have hx1 := hx0
      have HS := Lib.hid (fun w => set_any (numF f 32) w)
      unfold mset at HS
      clear HC hr
      generalize hzz : numF f 32 = z at *
      have HZZ := Lib.hid hzz
      clear hzz
      generalize ((w.alloc (.cells #[.int .i64 m, .int .u64 n, .int .u64 0, .int .u64 0, .int .u64 0] 45)).alloc (.cells cs 49)) = W at *
      go_upto_region 8 with (fail)
      have F := Lib.hid (fun (wx : World) (hr2 : Ext W.drew wx) => And.intro (B1.ext hr2.of_drew).cells ((B2.ext hr2.of_drew).cells 0))
      have HQ := Lib.hid (fun w => run_eql_set n 0 0 0 z 0 0 0 w)
      by_cases hmk : (m : Int) = kk
      · have hd : ((m : Int) == kk) = true := by simpa using hmk
        subst hmk
        refine Seq.drawn (k := 10) (R := Ext) (by kernel_rfl) (by decide) (by kernel_rfl) (fun _ _ _ => Ext.trans) (fun _ _ h => h.size) Ext.refl (At.start ?_)
        (refine At.det ?_ (fun val w1 hR _ K hK => ?_) ?_; rotate_left; (simp only [Act.put, List.setIfInBounds_toArray, List.set_cons_zero, List.set_cons_succ] at hK; go_simp; exact hK _ (Ext.refl _)); simp only [Act.put, List.setIfInBounds_toArray, List.set_cons_zero, List.set_cons_succ])
        (refine At.det ?_ (fun val w1 hR _ K hK => ?_) ?_; rotate_left; (have g1 := (F.out _ hR).1; have g2 := (F.out _ hR).2; rw [HK.out] at g2; simp only [Act.put, List.setIfInBounds_toArray, List.set_cons_zero, List.set_cons_succ] at hK; go_simp; exact hK _ (Ext.refl _)); simp only [Act.put, List.setIfInBounds_toArray, List.set_cons_zero, List.set_cons_succ])
        (refine At.det ?_ (fun val w1 hR _ K hK => ?_) ?_; rotate_left; (simp only [Act.put, List.setIfInBounds_toArray, List.set_cons_zero, List.set_cons_succ] at hK; go_simp; exact hK _ (Ext.refl _)); simp only [Act.put, List.setIfInBounds_toArray, List.set_cons_zero, List.set_cons_succ])
        (refine At.det ?_ (fun val w1 hR _ K hK => ?_) ?_; rotate_left; (have g1 := (F.out _ hR).1; have g2 := (F.out _ hR).2; rw [HK.out] at g2; simp only [Act.put, List.setIfInBounds_toArray, List.set_cons_zero, List.set_cons_succ] at hK; go_simp; exact hK _ (Ext.refl _)); simp only [Act.put, List.setIfInBounds_toArray, List.set_cons_zero, List.set_cons_succ])
        (refine At.det ?_ (fun val w1 hR _ K hK => ?_) ?_; rotate_left; (simp only [Act.put, List.setIfInBounds_toArray, List.set_cons_zero, List.set_cons_succ] at hK; go_simp; exact hK _ (Ext.refl _)); simp only [Act.put, List.setIfInBounds_toArray, List.set_cons_zero, List.set_cons_succ])
        (refine At.det ?_ (fun val w1 hR _ K hK => ?_) ?_; rotate_left; (simp only [Act.put, List.setIfInBounds_toArray, List.set_cons_zero, List.set_cons_succ] at hK; go_simp; exact hK _ (Ext.refl _)); simp only [Act.put, List.setIfInBounds_toArray, List.set_cons_zero, List.set_cons_succ])
        (refine At.det ?_ (fun val w1 hR _ K hK => ?_) ?_; rotate_left; (simp only [Act.put, List.setIfInBounds_toArray, List.set_cons_zero, List.set_cons_succ] at hK; go_simp; exact hK _ (Ext.refl _)); simp only [Act.put, List.setIfInBounds_toArray, List.set_cons_zero, List.set_cons_succ])
        (refine At.det ?_ (fun val w1 hR _ K hK => ?_) ?_; rotate_left; (have g1 := (F.out _ hR).1; have g2 := (F.out _ hR).2; rw [HK.out] at g2; simp only [Act.put, List.setIfInBounds_toArray, List.set_cons_zero, List.set_cons_succ] at hK; go_simp; exact hK _ (Ext.refl _)); simp only [Act.put, List.setIfInBounds_toArray, List.set_cons_zero, List.set_cons_succ])
        (refine At.det ?_ (fun val w1 hR _ K hK => ?_) ?_; rotate_left; (simp only [Act.put, List.setIfInBounds_toArray, List.set_cons_zero, List.set_cons_succ] at hK; go_simp; exact hK _ (Ext.refl _)); simp only [Act.put, List.setIfInBounds_toArray, List.set_cons_zero, List.set_cons_succ])
        (refine At.det ?_ (fun val w1 hR _ K hK => ?_) ?_; rotate_left; (simp only [Act.put, List.setIfInBounds_toArray, List.set_cons_zero, List.set_cons_succ] at hK; go_simp; (with_reducible refine (HS.out _).mono ?_); rintro e w2 ⟨rfl, h2⟩; exact hK _ (h2)); simp only [Act.put, List.setIfInBounds_toArray, List.set_cons_zero, List.set_cons_succ])
        refine At.last rfl (fun val w1 hR _ _ => ?_)
        have hx2 := hx1.trans hR.of_drew
        clear F hR B1 B2 hx0 hx1
        have hq := HQ.out
        go_wp2
        go_ret
        have c : ((n : Int) == (z : Int)) = (n == z) := by rw [Bool.eq_iff_iff, beq_iff_eq, beq_iff_eq]; omega
        exact ⟨by rw [HZZ.out]; simp [c], hx2⟩
      · have hd : ((m : Int) == kk) = false := by simpa using hmk
        refine Seq.drawn (k := 10) (R := Ext) (by kernel_rfl) (by decide) (by kernel_rfl) (fun _ _ _ => Ext.trans) (fun _ _ h => h.size) Ext.refl (At.start ?_)
        (refine At.det ?_ (fun val w1 hR _ K hK => ?_) ?_; rotate_left; (simp only [Act.put, List.setIfInBounds_toArray, List.set_cons_zero, List.set_cons_succ] at hK; go_simp; exact hK _ (Ext.refl _)); simp only [Act.put, List.setIfInBounds_toArray, List.set_cons_zero, List.set_cons_succ])
        (refine At.det ?_ (fun val w1 hR _ K hK => ?_) ?_; rotate_left; (have g1 := (F.out _ hR).1; have g2 := (F.out _ hR).2; rw [HK.out] at g2; simp only [Act.put, List.setIfInBounds_toArray, List.set_cons_zero, List.set_cons_succ] at hK; go_simp; exact hK _ (Ext.refl _)); simp only [Act.put, List.setIfInBounds_toArray, List.set_cons_zero, List.set_cons_succ])
        (refine At.det ?_ (fun val w1 hR _ K hK => ?_) ?_; rotate_left; (simp only [Act.put, List.setIfInBounds_toArray, List.set_cons_zero, List.set_cons_succ] at hK; go_simp; exact hK _ (Ext.refl _)); simp only [Act.put, List.setIfInBounds_toArray, List.set_cons_zero, List.set_cons_succ])
        (refine At.det ?_ (fun val w1 hR _ K hK => ?_) ?_; rotate_left; (have g1 := (F.out _ hR).1; have g2 := (F.out _ hR).2; rw [HK.out] at g2; simp only [Act.put, List.setIfInBounds_toArray, List.set_cons_zero, List.set_cons_succ] at hK; go_simp; exact hK _ (Ext.refl _)); simp only [Act.put, List.setIfInBounds_toArray, List.set_cons_zero, List.set_cons_succ])
        (refine At.det ?_ (fun val w1 hR _ K hK => ?_) ?_; rotate_left; (simp only [Act.put, List.setIfInBounds_toArray, List.set_cons_zero, List.set_cons_succ] at hK; go_simp; exact hK _ (Ext.refl _)); simp only [Act.put, List.setIfInBounds_toArray, List.set_cons_zero, List.set_cons_succ])
        (refine At.det ?_ (fun val w1 hR _ K hK => ?_) ?_; rotate_left; (simp only [Act.put, List.setIfInBounds_toArray, List.set_cons_zero, List.set_cons_succ] at hK; go_simp; exact hK _ (Ext.refl _)); simp only [Act.put, List.setIfInBounds_toArray, List.set_cons_zero, List.set_cons_succ])
        (refine At.det ?_ (fun val w1 hR _ K hK => ?_) ?_; rotate_left; (simp only [Act.put, List.setIfInBounds_toArray, List.set_cons_zero, List.set_cons_succ] at hK; go_simp; exact hK _ (Ext.refl _)); simp only [Act.put, List.setIfInBounds_toArray, List.set_cons_zero, List.set_cons_succ])
        (refine At.det ?_ (fun val w1 hR _ K hK => ?_) ?_; rotate_left; (simp only [Act.put, List.setIfInBounds_toArray, List.set_cons_zero, List.set_cons_succ] at hK; go_simp; exact hK _ (Ext.refl _)); simp only [Act.put, List.setIfInBounds_toArray, List.set_cons_zero, List.set_cons_succ])
        (refine At.det ?_ (fun val w1 hR _ K hK => ?_) ?_; rotate_left; (simp only [Act.put, List.setIfInBounds_toArray, List.set_cons_zero, List.set_cons_succ] at hK; go_simp; exact hK _ (Ext.refl _)); simp only [Act.put, List.setIfInBounds_toArray, List.set_cons_zero, List.set_cons_succ])
        (refine At.det ?_ (fun val w1 hR _ K hK => ?_) ?_; rotate_left; (simp only [Act.put, List.setIfInBounds_toArray, List.set_cons_zero, List.set_cons_succ] at hK; go_simp; exact hK _ (Ext.refl _)); simp only [Act.put, List.setIfInBounds_toArray, List.set_cons_zero, List.set_cons_succ])
        refine At.last rfl (fun val w1 hR _ _ => ?_)
        have hx2 := hx1.trans hR.of_drew
        clear F hR B1 B2 hx0 hx1
        go_wp2
        go_ret
        exact ⟨by simp [hd], hx2⟩

end Go.Proofs.YtghefhmncpmflaaDoor
