/-
  The walk of the law CacheKeeps.
-/
import Derived.Test.YtghefhmncpmflaaDoorCb14
import Derived.OwnWalk
import Derived.Test.YtghefhmncpmflaaDoorCa19
import Derived.Deep.DeepCutAuto
import Derived.Deep.CutBlock
namespace Go.Proofs.YtghefhmncpmflaaDoor
open Go.RowKit Go.Rg

set_option maxRecDepth 100000 in
set_option maxHeartbeats 4000000 in
theorem keeps_walk (x0 x1 x2 : Int) (hx0 : -9223372036854775808 ≤ x0 ∧ x0 ≤ 9223372036854775807) (hx1 : -9223372036854775808 ≤ x1 ∧ x1 ≤ 9223372036854775807) (hx2 : -9223372036854775808 ≤ x2 ∧ x2 ≤ 9223372036854775807) (sb : Option Addr) (n cap : Nat) (hn : n ≤ cap) (hcap : cap ≤ maxLen) (w : World) (hA : ActsAt w sb n) (hT : TabAt 1 Lib.deBruijn64tab w) :
    Calls Tryd.prog 6 #[.agg #[.int .i64 x0, .int .i64 x1, .int .i64 x2], .slice sb n cap] w fun e w' => e = .returned (.bool true) ∧ Ext w w' := by
  have HT := Lib.hid hT
  have HA := Lib.hid (hA.ext ((Ext.refl w).alloc (.cells #[.int .i64 x0, .int .i64 x1, .int .i64 x2] 74)))
  have HNC := Lib.hid (And.intro hn hcap)
  clear hT hA hn hcap
  have a0 := Int.tmod_nonneg 8 (show 0 ≤ max 0 x0 by omega)
  have a1 := Int.tmod_lt_of_pos (max 0 x0) (show (0 : Int) < 8 by decide)
  have b0 := Int.tmod_nonneg 5 (show 0 ≤ max 0 x2 by omega)
  have b1 := Int.tmod_lt_of_pos (max 0 x2) (show (0 : Int) < 5 by decide)
  go_enter Tryd.func6, Tryd.ntmps6
  go_upto_region 3 with (fail)
  obtain ⟨most, hmost, hm1, hm8⟩ : ∃ most : Nat, 1 + max 0 x0 % 8 = (most : Int) ∧ 1 ≤ most ∧ most ≤ 8 := ⟨(1 + max 0 x0 % 8).toNat, by omega, by omega, by omega⟩
  obtain ⟨data, hdata, hd1, hd6⟩ : ∃ data : Nat, 2 + max 0 x2 % 5 = (data : Int) ∧ 2 ≤ data ∧ data ≤ 6 := ⟨(2 + max 0 x2 % 5).toNat, by omega, by omega, by omega⟩
  rw [hmost, hdata]
  clear a0 a1 b0 b1 hmost hdata
  have hmp : (0 : Int) < (most : Int) := by omega
  have hml : (most : Int) ≤ 8 := by omega
  obtain ⟨dear, hdear, hdl⟩ : ∃ dear : Nat, max 0 x1 % (most : Int) = (dear : Int) ∧ dear < most := by
    have h1 := Int.emod_nonneg (max 0 x1) (show (most : Int) ≠ 0 by omega)
    have h2 := Int.emod_lt_of_pos (max 0 x1) hmp
    exact ⟨(max 0 x1 % (most : Int)).toNat, by omega, by omega⟩
  have HNew := Lib.hid (cacheNew_any most dear data hm1 (by omega) hdl hd1 (by omega))
  rw [← hdear] at HNew
  have HDear := Lib.hid hdear
  have HLI := Lib.hid (LI.start data most dear ⟨hm1, by omega⟩ (by omega))
  have HDD := Lib.hid (And.intro hd1 hd6)
  have hmm := @run_makeMap Tryd.prog
  clear hdear
  go_wp2_with fail
  refine (HNew.out _).mono ?_
  rintro e w1 ⟨bc, rfl, hc, hx⟩
  have HC := Lib.hid (show CacheI (w.alloc (.cells #[.int .i64 x0, .int .i64 x1, .int .i64 x2] 74)) w1 bc _ from ⟨hc.mono (fun k _ hk => hk.1), hx⟩)
  clear hc hx HNew
  replace HT := Lib.hid (TabAt.ext HT.out ((Ext.refl w).alloc (.cells #[.int .i64 x0, .int .i64 x1, .int .i64 x2] 74)))
  have HW := Lib.hid (cwakes_any _ (TabAt.ext HT.out HC.out.2))
  go_wp2_with fail
  refine HW.out.mono ?_
  rintro e w2 ⟨rfl, hx⟩
  replace HC := Lib.hid (HC.out.ext hx)
  clear hx HW
  go_upto_region 7 with (fail)
  have HS := Lib.hid (show KSt (w.alloc (.cells #[.int .i64 x0, .int .i64 x1, .int .i64 x2] 74)) w2.heap.size bc data 0 (w2.alloc (.map #[] 0)) from
    ⟨_, fun _ _ => none, HLI.out, rfl, CacheX.more (X := fun _ => False) ⟨HC.out.1.mono (fun k _ hk => ⟨hk, fun hh => hh⟩), HC.out.2, fun k hk => hk.elim⟩ ((Ext.refl w2).alloc _) (fun k hk => .inr ⟨by omega, by rw [hk]; simp⟩), MapP.made w2, fun _ _ _ h => (by cases h), HC.out.2.size⟩)
  clear HC HLI hmm
  have hw0 : Ext w (w.alloc (.cells #[.int .i64 x0, .int .i64 x1, .int .i64 x2] 74)) := (Ext.refl w).alloc _
  generalize w.alloc (.cells #[.int .i64 x0, .int .i64 x1, .int .i64 x2] 74) = w0 at *
  have HW0 := Lib.hid hw0
  clear hw0
  generalize w2.alloc (.map #[] 0) = w3 at *
  generalize w2.heap.size = bm at *
  have hm1 : (min n 80) ≤ n := Nat.min_le_left _ _
  have hm2 : (min n 80) ≤ 80 := Nat.min_le_right _ _
  have hm3 : min (n : Int) 80 = ((min n 80 : Nat) : Int) := by omega
  generalize min n 80 = m at *
  have HM := Lib.hid (And.intro hm1 hm2)
  go_cut [52, 53, 54] (fun a b c wx => a = .slice sb m cap ∧ b = .int .i64 m ∧ c = .int .i64 0 ∧ wx = w3)
  case first =>
    have hb0 : (0 : Int) ≤ (m : Int) := by omega
    have hb1 : (m : Int) ≤ (cap : Int) := by have := HNC.out.1; omega
    go_wp2_with fail
    go_meet
    exact ⟨rfl, rfl, rfl, rfl⟩
  case rest =>
    obtain ⟨rfl, rfl, rfl, rfl⟩ := hcut
    clear hm1 hm2 hm3
    go_wp2_with fail
    go_loopw [54] (fun i wr => ∃ j : Nat, j ≤ m ∧ i = .int .i64 j ∧ KSt w0 bm bc data j wr) (fun i _ => m - (intOf i).toNat)
    case atStart => exact ⟨0, by omega, rfl, HS.out⟩
    case round =>
      clear HS
      obtain ⟨j, hj, rfl, hs⟩ := hrel
      have HH := Lib.hid hs
      clear hs
      by_cases hlt : j < m
      · obtain ⟨g, o, d, s, c, b, od, rfl, hd, hr⟩ := HA.out j (by have := HM.out; omega)
        have hx0 := HH.out.ext0
        have hr2 : wr.rangeAt g (o + j * 5) (actv d s c b od) := fun i v hv => (hx0.cell _ (by rw [hr i v hv]; rfl)).trans (hr i v hv)
        have HR := Lib.hid (show wr.rangeAt g (o + j * 5) [.int .i64 d, .int .i64 s, .int .i64 c, .int .u8 (b.toNat : Int), .bool od] from hr2)
        have j0 : (0 : Int) ≤ (j : Int) := by omega
        have j1 : (j : Int) < (m : Int) := by omega
        have HSec := Lib.hid (fun w => sector_false b w)
        have HSz := Lib.hid (secB_size b 63)
        generalize secB b 63 = sv at *
        clear hr hr2 hx0
        go_upto_region 10 with ((with_reducible refine wpList_load_mid rfl 67 _ rfl g (o + j * 5) ?_ [.int .i64 d, .int .i64 s, .int .i64 c, .int .u8 (b.toNat : Int), .bool od] _ HR.out Tryd.underlying67 ?_ ?_ ?_); (exact rfl); (exact rfl); (kernel_rfl))
        have B1 := Blk.new wr 67 #[.int .i64 d, .int .i64 s, .int .i64 c, .int .u8 (b.toNat : Int), .bool od]
        have hx1 := (Ext.refl wr).alloc (.cells #[.int .i64 d, .int .i64 s, .int .i64 c, .int .u8 (b.toNat : Int), .bool od] 67)
        generalize wr.alloc (.cells #[.int .i64 d, .int .i64 s, .int .i64 c, .int .u8 (b.toNat : Int), .bool od] 67) = w4 at *
        have HLT := Lib.hid hlt
        have F := Lib.hid (fun (wx : World) (hr : Ext w4.drew wx) => And.intro ((B1.ext hr.of_drew).cells 1) (And.intro ((B1.ext hr.of_drew).cells 2) ((B1.ext hr.of_drew).cells 3)))
        simp at F
        have hdp : (0 : Int) < (data : Int) := by omega
        have hdu : (data : Int) ≤ 6 := by omega
        have hdn : ¬ (data = 0) := by omega
        refine Seq.drawn (k := 12) (R := Ext) (by kernel_rfl) (by decide) (by kernel_rfl) (fun _ _ _ => Ext.trans) (fun _ _ h => h.size) Ext.refl (At.start ?_)
        (refine At.det ?_ (fun val w1 hR _ K hK => ?_) ?_; rotate_left; (simp only [Act.put, List.setIfInBounds_toArray, List.set_cons_zero, List.set_cons_succ] at hK; go_simp; exact hK _ (Ext.refl _)); simp only [Act.put, List.setIfInBounds_toArray, List.set_cons_zero, List.set_cons_succ])
        (refine At.det ?_ (fun val w1 hR _ K hK => ?_) ?_; rotate_left; (have g1 := (F.out _ hR).1; have g2 := (F.out _ hR).2.1; have g3 := (F.out _ hR).2.2; simp only [Act.put, List.setIfInBounds_toArray, List.set_cons_zero, List.set_cons_succ] at hK; go_simp; exact hK _ (Ext.refl _)); simp only [Act.put, List.setIfInBounds_toArray, List.set_cons_zero, List.set_cons_succ])
        (refine At.det ?_ (fun val w1 hR _ K hK => ?_) ?_; rotate_left; (simp only [Act.put, List.setIfInBounds_toArray, List.set_cons_zero, List.set_cons_succ] at hK; go_simp; exact hK _ (Ext.refl _)); simp only [Act.put, List.setIfInBounds_toArray, List.set_cons_zero, List.set_cons_succ])
        (refine At.det ?_ (fun val w1 hR _ K hK => ?_) ?_; rotate_left; (simp only [Act.put, List.setIfInBounds_toArray, List.set_cons_zero, List.set_cons_succ] at hK; go_simp; exact hK _ (Ext.refl _)); simp only [Act.put, List.setIfInBounds_toArray, List.set_cons_zero, List.set_cons_succ])
        (refine At.det ?_ (fun val w1 hR _ K hK => ?_) ?_; rotate_left; (have g1 := (F.out _ hR).1; have g2 := (F.out _ hR).2.1; have g3 := (F.out _ hR).2.2; simp only [Act.put, List.setIfInBounds_toArray, List.set_cons_zero, List.set_cons_succ] at hK; go_simp; exact hK _ (Ext.refl _)); simp only [Act.put, List.setIfInBounds_toArray, List.set_cons_zero, List.set_cons_succ])
        (refine At.det ?_ (fun val w1 hR _ K hK => ?_) ?_; rotate_left; (simp only [Act.put, List.setIfInBounds_toArray, List.set_cons_zero, List.set_cons_succ] at hK; go_simp; exact hK _ (Ext.refl _)); simp only [Act.put, List.setIfInBounds_toArray, List.set_cons_zero, List.set_cons_succ])
        (refine At.det ?_ (fun val w1 hR _ K hK => ?_) ?_; rotate_left; (simp only [Act.put, List.setIfInBounds_toArray, List.set_cons_zero, List.set_cons_succ] at hK; go_simp; exact hK _ (Ext.refl _)); simp only [Act.put, List.setIfInBounds_toArray, List.set_cons_zero, List.set_cons_succ])
        (refine At.det ?_ (fun val w1 hR _ K hK => ?_) ?_; rotate_left; (simp only [Act.put, List.setIfInBounds_toArray, List.set_cons_zero, List.set_cons_succ] at hK; go_simp; exact hK _ (Ext.refl _)); simp only [Act.put, List.setIfInBounds_toArray, List.set_cons_zero, List.set_cons_succ])
        (refine At.det ?_ (fun val w1 hR _ K hK => ?_) ?_; rotate_left; (simp only [Act.put, List.setIfInBounds_toArray, List.set_cons_zero, List.set_cons_succ] at hK; go_simp; exact hK _ (Ext.refl _)); simp only [Act.put, List.setIfInBounds_toArray, List.set_cons_zero, List.set_cons_succ])
        (refine At.det ?_ (fun val w1 hR _ K hK => ?_) ?_; rotate_left; (have g1 := (F.out _ hR).1; have g2 := (F.out _ hR).2.1; have g3 := (F.out _ hR).2.2; simp only [Act.put, List.setIfInBounds_toArray, List.set_cons_zero, List.set_cons_succ] at hK; go_simp; exact hK _ (Ext.refl _)); simp only [Act.put, List.setIfInBounds_toArray, List.set_cons_zero, List.set_cons_succ])
        (refine At.det ?_ (fun val w1 hR _ K hK => ?_) ?_; rotate_left; (simp only [Act.put, List.setIfInBounds_toArray, List.set_cons_zero, List.set_cons_succ] at hK; go_simp; (with_reducible refine (HSec.out _).mono ?_); rintro e w2 ⟨rfl, h2⟩; exact hK _ (h2)); simp only [Act.put, List.setIfInBounds_toArray, List.set_cons_zero, List.set_cons_succ])
        (refine At.det ?_ (fun val w1 hR _ K hK => ?_) ?_; rotate_left; (simp only [Act.put, List.setIfInBounds_toArray, List.set_cons_zero, List.set_cons_succ] at hK; go_simp; exact hK _ (Ext.refl _)); simp only [Act.put, List.setIfInBounds_toArray, List.set_cons_zero, List.set_cons_succ])
        refine At.last rfl (fun val w5 hR hF hN => ?_)
        have hx5 := hR.of_drew
        have HC5 := Lib.hid (KSt.ext HH.out (hx1.trans hx5))
        have t01 := and_mask15 s
        have k0 := Int.tmod_nonneg (data : Int) (show 0 ≤ max 0 c by omega)
        have k1 := Int.tmod_lt_of_pos (max 0 c) hdp
        generalize bits BinOp.and IntKind.i64 s 15 = t at *
        generalize (max 0 c).tmod (data : Int) = k' at *
        obtain ⟨k, rfl⟩ := Int.eq_ofNat_of_zero_le k0
        have HTK := Lib.hid (show (0 ≤ t ∧ t < 64) ∧ k < data ∧ (Lit.int .i64 t).wf = true ∧ (Lit.int .i64 (k : Int)).wf = true from ⟨by omega, by omega, WalkArith.wf_i64 (by omega), WalkArith.wf_i64 (by omega)⟩)
        replace B1 := B1.ext hx5
        clear hR hF hN F hx1 hx5 t01 k0 k1 HH HR
        have c0 := B1.cells 0
        simp at c0
        go_upto_block 2 with (fail)
        generalize bits BinOp.and IntKind.i64 d 7 = q at *
        go_cut [9] (fun a wx => a = .map (some bm) ∧ KSt w0 bm bc data (j + 1) wx)
        case first =>
          by_cases q2 : q = 2
          · subst q2
            go_wp2_with fail
            refine (k_fill HC5.out (by have := HM.out; omega) HTK.out.1 HTK.out.2.1 HSz.out).mono ?_
            rintro e w6 ⟨⟨v, rfl⟩, hs⟩
            have HO := Lib.hid hs
            clear hs
            go_wp2_with fail
            go_meet
            exact ⟨rfl, HO.out⟩
          by_cases q3 : q = 3
          · subst q3
            go_wp2_with fail
            refine (k_fill HC5.out (by have := HM.out; omega) HTK.out.1 HTK.out.2.1 HSz.out).mono ?_
            rintro e w6 ⟨⟨v, rfl⟩, hs⟩
            have HO := Lib.hid hs
            clear hs
            go_wp2_with fail
            go_meet
            exact ⟨rfl, HO.out⟩
          have e2 : (q == 2) = false := by simpa using q2
          have e3 : (q == 3) = false := by simpa using q3
          by_cases q4 : q = 4
          · subst q4
            go_wp2_with fail
            refine (k_get HC5.out HTK.out.2.2.1 HTK.out.2.1).mono ?_
            rintro e w6 ⟨⟨v, v2, rfl⟩, hs⟩
            have HO := Lib.hid hs
            clear hs
            go_wp2_with fail
            go_meet
            exact ⟨rfl, HO.out⟩
          by_cases q7 : q = 7
          · subst q7
            go_wp2_with fail
            refine (k_get HC5.out HTK.out.2.2.1 HTK.out.2.1).mono ?_
            rintro e w6 ⟨⟨v, v2, rfl⟩, hs⟩
            have HO := Lib.hid hs
            clear hs
            go_wp2_with fail
            go_meet
            exact ⟨rfl, HO.out⟩
          have e4 : (q == 4) = false := by simpa using q4
          have e7 : (q == 7) = false := by simpa using q7
          by_cases q5 : q = 5
          · subst q5
            go_wp2_with fail
            refine (k_done HC5.out HTK.out.2.2.1 (TabAt.ext HT.out HC5.out.ext0)).mono ?_
            rintro e w6 ⟨⟨v, rfl⟩, hs⟩
            have HO := Lib.hid hs
            clear hs
            go_wp2_with fail
            go_loopw [104] (fun i wr2 => ∃ l : Nat, l ≤ data ∧ i = .int .i64 l ∧ DSt w0 bm bc data (j + 1) t l wr2) (fun i _ => data - (intOf i).toNat)
            case atStart => exact ⟨0, by omega, rfl, HO.out⟩
            case round =>
              clear HO
              obtain ⟨l, hl, rfl, hs⟩ := hrel
              have HO := Lib.hid hs
              clear hs
              by_cases hlt2 : l < data
              · obtain ⟨w7, hrun, hs7⟩ := HO.out.step HTK.out.2.2.1 (by omega)
                have HO7 := Lib.hid hs7
                have l0 : (0 : Int) ≤ (l : Int) := by omega
                have l1 : (l : Int) < (data : Int) := by omega
                clear hs7
                go_wp2_with fail
                exact ⟨⟨l + 1, by omega, by go_num, HO7.out⟩, by simp [intOf]; omega⟩
              · have hle : l = data := by omega
                subst hle
                go_wp2_with fail
                go_meet
                exact ⟨rfl, HO.out.all⟩
          have e5 : (q == 5) = false := by simpa using q5
          by_cases q6 : q = 6
          · subst q6
            go_wp2_with fail
            refine (k_drop HC5.out HTK.out.2.2.1).mono ?_
            rintro e w6 ⟨⟨v, rfl⟩, hs⟩
            have HO := Lib.hid hs
            clear hs
            go_wp2_with fail
            go_meet
            exact ⟨rfl, HO.out⟩
          have e6 : (q == 6) = false := by simpa using q6
          go_wp2_with fail
          refine (k_put HC5.out (by have := HM.out; omega) HTK.out.1 HTK.out.2.1 HSz.out).mono ?_
          rintro e w6 (⟨rfl, hs⟩ | ⟨rfl, hs⟩)
          · obtain ⟨w7, hrun, hs7⟩ := hs.step (by have := HM.out; omega) HTK.out.2.2.1 HTK.out.2.2.2
            have HO := Lib.hid hs7
            clear hs hs7
            go_wp2_with fail
            go_meet
            exact ⟨rfl, HO.out⟩
          · have HO := Lib.hid hs
            clear hs
            go_wp2_with fail
            go_meet
            exact ⟨rfl, HO.out⟩
        case rest =>
          obtain ⟨rfl, hs⟩ := hcut
          have HK := Lib.hid hs
          clear hs HC5 c0 B1
          obtain ⟨D0, f0, hown, hrs⟩ := HK.out.range
          have HRs := Lib.hid hrs
          clear hrs
          have HOwn := Lib.hid hown
          clear hown
          go_wp2_with (at_range; refine wpList_range_own _ rfl _ 75 rfl 61 9 K61 Tryd.underlying75 Rv bm (j + 1) D0 rfl HOwn.out ?_; intro wa hrg0 hg0 hs0; have HRa := Lib.hid (HRs.out wa hrg0 hg0 hs0); clear hrg0 hg0 hs0)
          clear HRs HOwn HK
          generalize Maps.has D0 = left0 at *
          generalize Maps.size D0 = cnt0 at *
          generalize HRX : wc.heap.size = r at *
          clear HRX
          go_frame
          go_loopw [16] (fun _ wr2 => ∃ left cnt, RSt w0 bm r bc data (j + 1) D0 f0 left cnt wr2) (fun _ wr2 => wr2.rangeLeft bm r)
          case atStart => exact ⟨_, _, HRa.out⟩
          case round =>
            clear HRa
            obtain ⟨left, cnt, hrs⟩ := hrel
            have HRr := Lib.hid hrs
            clear hrs
            go_wp2_with (at_next; refine wpList_next_ranges _ rfl _ rfl 61 K61 Rv (fun p : Int × Int => .agg #[.int .i64 p.1, .int .i64 p.2]) id (fun key kl hk => (keyOf61_inv hk).elim (fun p hp => ⟨p, hp.1⟩)) (fun v y _ => ⟨v, rfl⟩) bm r (j + 1) D0 left cnt rfl HRr.out.ranges ?_ ?_)
            · intro hc0 hl0
              clear hc0 hl0
              have hlt := HLT.out
              have j0 : (0 : Int) ≤ (j : Int) := by omega
              have j2 : (j : Int) < 80 := by have := HM.out; omega
              go_wp2_with fail
              exact ⟨⟨j + 1, by omega, by go_num, HRr.out.all⟩, by simp [intOf]; omega⟩
            · intro ka kb cv kl y1 y2 wn cnt' hkey hlk hv hat hrg hcl hg hs hen
              obtain ⟨kk, u, hb, hkk, rfl, hwx, hf⟩ := HRr.out.met (p := (ka, kb)) hkey hv hat
              simp only at hb hwx hf
              subst hb
              have HN := Lib.hid (HRr.out.next hrg hg)
              have HLE := Lib.hid (And.intro HRr.out.ranges.left_eq hcl)
              have HF := Lib.hid (And.intro hwx hf)
              clear hkey hlk hv hat hrg hcl hg hs hwx hf HRr
              go_wp2_with fail
              refine (r_get (HN.out.ext ((Ext.refl wn).alloc _)) HF.out.1 HF.out.2).mono ?_
              rintro e w8 ⟨rfl, hr8⟩
              have HO := Lib.hid hr8
              clear hr8 hen
              go_wp2_with fail
              exact ⟨⟨_, _, HO.out⟩, by rw [HO.out.ranges.left_eq, HLE.out.1]; exact HLE.out.2⟩
      · have hjm : j = m := by omega
        subst hjm
        have hx9 := HH.out.ext0
        go_wp2_with fail
        go_ret
        exact ⟨rfl, HW0.out.trans hx9⟩
end Go.Proofs.YtghefhmncpmflaaDoor
