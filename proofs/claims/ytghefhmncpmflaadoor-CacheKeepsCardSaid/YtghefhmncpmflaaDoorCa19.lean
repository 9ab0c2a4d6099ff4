/-
  The walks of the law CacheOld, and of its wakes: true.
-/
import Derived.Test.YtghefhmncpmflaaDoorCa18
import Derived.Deep.DeepCutAuto
import Derived.Deep.CutBlock
namespace Go.Proofs.YtghefhmncpmflaaDoor
open Go.RowKit Go.Rg

set_option maxHeartbeats 2000000 in
theorem cwakes_any (w : World) (hT : TabAt 1 Lib.deBruijn64tab w) : Calls Tryd.prog 24 #[] w fun e w' => e = .returned (.bool true) ∧ Ext w w' := by
  have HT := Lib.hid hT
  clear hT
  have HNew := Lib.hid (cacheNew_any 2 1 3 (by decide) (by decide) (by decide) (by decide) (by decide) w)
  have HS := Lib.hid (fun (d : UInt8) w => sector_false d w)
  have sa : (secB 97 63).size = 64 := secB_size 97 63
  have sb : (secB 98 63).size = 64 := secB_size 98 63
  have HSS := Lib.hid (And.intro sa sb)
  have HSa := Lib.hid (show ∀ w, Calls Tryd.prog 25 #[.int .u8 97, .bool false] w fun e w' => e = .returned (.string (secB 97 63)) ∧ Ext w w' from fun w => sector_false 97 w)
  have HSb := Lib.hid (show ∀ w, Calls Tryd.prog 25 #[.int .u8 98, .bool false] w fun e w' => e = .returned (.string (secB 98 63)) ∧ Ext w w' from fun w => sector_false 98 w)
  have HI0 := Lib.hid (OI.start (t := 0) (k := 1) 3 2 1 (by decide) (by decide))
  clear sa sb HS
  generalize secB 97 63 = a at *
  generalize secB 98 63 = b at *
  go_enter Tryd.func24, Tryd.ntmps24
  go_wp2_with fail
  refine HNew.out.mono ?_
  rintro e w1 ⟨bc, rfl, hc, hx⟩
  have HC := Lib.hid (show CacheI w w1 bc _ from ⟨hc.mono (fun k _ hk => hk.1), hx⟩)
  clear hc hx HNew
  go_wp2_with fail
  refine (HSa.out _).mono ?_
  rintro e w2 ⟨rfl, hx⟩
  replace HC := Lib.hid (HC.out.ext hx)
  clear hx
  go_wp2_with fail
  refine (o_fill (b := a) HC.out HI0.out (by decide) (by decide) HSS.out.1).mono ?_
  rintro e w3 ⟨rfl, hc⟩
  replace HI0 := Lib.hid (HI0.out.fill HSS.out.1)
  replace HC := Lib.hid hc
  clear hc
  go_wp2_with fail
  refine (HSb.out _).mono ?_
  rintro e w4 ⟨rfl, hx⟩
  replace HC := Lib.hid (HC.out.ext hx)
  clear hx
  go_wp2_with fail
  refine (o_put (b := b) HC.out HI0.out (by decide) (by decide) HSS.out.2).mono ?_
  rintro e w5 ⟨rfl, hc⟩
  replace HI0 := Lib.hid (HI0.out.put HSS.out.2)
  replace HC := Lib.hid hc
  clear hc
  go_wp2_with fail
  have ea : decide (a.size = 64) = true := by simpa using HSS.out.1
  have eb : decide (b.size = 64) = true := by simpa using HSS.out.2
  have HE := Lib.hid (And.intro ea eb)
  clear ea eb
  have g1 := o_get HC.out HI0.out (by decide)
  rw [HE.out.2] at g1
  refine g1.mono ?_
  rintro e w6 ⟨rfl, hc⟩
  replace HI0 := Lib.hid HI0.out.get
  replace HC := Lib.hid hc
  clear hc g1
  go_wp2_with fail
  have g1 := o_old HC.out HI0.out (by decide)
  rw [HE.out.1] at g1
  refine g1.mono ?_
  rintro e w7 ⟨rfl, hc⟩
  replace HC := Lib.hid hc
  clear hc g1
  go_wp2_with fail
  obtain ⟨E, hE⟩ : ∃ E, (getC (putC (fillC ⟨3, 2, 1, [], [], fun _ => none, 0, fun _ => none, 0⟩ 0 1 a) 0 1 b) 0 1).rows 0 = some E := by
    have := HI0.out.a4
    rw [HE.out.2] at this
    exact Option.isSome_iff_exists.1 this
  refine (o_done_some HC.out HI0.out (by decide) (TabAt.ext HT.out HC.out.2) hE).mono ?_
  rintro e w8 ⟨rfl, hc⟩
  replace HI0 := Lib.hid (HI0.out.done hE)
  replace HC := Lib.hid hc
  clear hc hE
  go_wp2_with fail
  have g1 := o_old HC.out HI0.out (by decide)
  rw [HE.out.2] at g1
  refine g1.mono ?_
  rintro e w9 ⟨rfl, hc⟩
  replace HC := Lib.hid hc
  clear hc g1 HI0
  have hxx := HC.out.2
  have HX := Lib.hid hxx
  clear hxx HC
  go_wp2_with fail
  refine (HSb.out _).mono ?_
  rintro e w10 ⟨rfl, hx⟩
  replace HX := Lib.hid (HX.out.trans hx)
  clear hx
  go_wp2_with fail
  refine (HSa.out _).mono ?_
  rintro e w11 ⟨rfl, hx⟩
  replace HX := Lib.hid (HX.out.trans hx)
  clear hx
  go_wp2_with fail
  go_ret
  exact ⟨by simp, HX.out⟩

def actv (d s c : Int) (b : UInt8) (o : Bool) : List Value := [.int .i64 d, .int .i64 s, .int .i64 c, .int .u8 (b.toNat : Int), .bool o]
theorem empty_of {b : ByteArray} (h : b = ⟨#[]⟩ ∨ b.size = 64) : decide (b.size = 64) = !b.toList.isEmpty := by
  rw [Lib.toList_data]
  rcases h with h | h
  · rw [h]; rfl
  · have hl : b.data.toList.length = 64 := by rw [Array.length_toList]; exact h
    cases hb : b.data.toList with
    | nil => rw [hb] at hl; cases hl
    | cons x l => rw [h]; rfl
/-- A slice's elements are five cells each. -/
def ActsAt (w : World) (sb : Option Addr) (n : Nat) : Prop :=
  ∀ i, i < n → ∃ (g o : Nat) (d s c : Int) (b : UInt8) (od : Bool), sb = some ⟨g, o, none⟩ ∧ (-9223372036854775808 ≤ d ∧ d ≤ 9223372036854775807) ∧ w.rangeAt g (o + i * 5) (actv d s c b od)
theorem ActsAt.ext {w w' : World} {sb : Option Addr} {n : Nat} (h : ActsAt w sb n) (hx : Ext w w') : ActsAt w' sb n := fun i hi => by
  obtain ⟨g, o, d, s, c, b, od, h1, h2, h3⟩ := h i hi
  exact ⟨g, o, d, s, c, b, od, h1, h2, fun j v hv => (hx.cell _ (by rw [h3 j v hv]; rfl)).trans (h3 j v hv)⟩
/-- The law's state at its loop's head: the cache, and the three values that the law carries. -/
def OSt (w0 : World) (bc : Nat) (t : Int) (k m : Nat) (a b c : Value) (w : World) : Prop :=
  ∃ (C : CSt) (old now : ByteArray) (dirty : Bool), OI C t k old now dirty m ∧ CacheI w0 w bc C ∧ a = .string old ∧ b = .string now ∧ c = .bool dirty

set_option maxRecDepth 100000 in
set_option maxHeartbeats 4000000 in
theorem cacheOld_walk (x0 x1 : Int) (hx0 : -9223372036854775808 ≤ x0 ∧ x0 ≤ 9223372036854775807) (hx1 : -9223372036854775808 ≤ x1 ∧ x1 ≤ 9223372036854775807) (sb : Option Addr) (n cap : Nat) (hn : n ≤ cap) (hcap : cap ≤ maxLen) (w : World) (hA : ActsAt w sb n) (hT : TabAt 1 Lib.deBruijn64tab w) :
    Calls Tryd.prog 5 #[.agg #[.int .i64 x0, .int .i64 x1], .slice sb n cap] w fun e w' => e = .returned (.bool true) ∧ Ext w w' := by
  have HT := Lib.hid hT
  have HA := Lib.hid (hA.ext ((Ext.refl w).alloc (.cells #[.int .i64 x0, .int .i64 x1] 61)))
  have HNC := Lib.hid (And.intro hn hcap)
  clear hT hA hn hcap
  have HNew := Lib.hid (fun w' => cacheNew_any 4 2 6 (by decide) (by decide) (by decide) (by decide) (by decide) w')
  go_enter Tryd.func5, Tryd.ntmps5
  go_wp2_with fail
  refine (HNew.out _).mono ?_
  rintro e w1 ⟨bc, rfl, hc, hx⟩
  have HC := Lib.hid (show CacheI (w.alloc (.cells #[.int .i64 x0, .int .i64 x1] 61)) w1 bc _ from ⟨hc.mono (fun k _ hk => hk.1), hx⟩)
  have B1 := (Blk.new w 61 #[.int .i64 x0, .int .i64 x1]).ext hx
  clear hc hx HNew
  go_upto_region 2 with (fail)
  have F := Lib.hid (fun (w2 : World) (hr : Ext w1.drew w2) => And.intro ((B1.ext hr.of_drew).cells 0) ((B1.ext hr.of_drew).cells 1))
  simp at F
  refine Seq.drawn (k := 9) (R := Ext) (by kernel_rfl) (by decide) (by kernel_rfl) (fun _ _ _ => Ext.trans) (fun _ _ h => h.size) Ext.refl (At.start ?_)
  (refine At.det ?_ (fun val w1 hR _ K hK => ?_) ?_; rotate_left; (simp only [Act.put, List.setIfInBounds_toArray, List.set_cons_zero, List.set_cons_succ] at hK; go_simp; exact hK _ (Ext.refl _)); simp only [Act.put, List.setIfInBounds_toArray, List.set_cons_zero, List.set_cons_succ])
  (refine At.det ?_ (fun val w1 hR _ K hK => ?_) ?_; rotate_left; (have g1 := (F.out _ hR).1; have g2 := (F.out _ hR).2; simp only [Act.put, List.setIfInBounds_toArray, List.set_cons_zero, List.set_cons_succ] at hK; go_simp; exact hK _ (Ext.refl _)); simp only [Act.put, List.setIfInBounds_toArray, List.set_cons_zero, List.set_cons_succ])
  (refine At.det ?_ (fun val w1 hR _ K hK => ?_) ?_; rotate_left; (simp only [Act.put, List.setIfInBounds_toArray, List.set_cons_zero, List.set_cons_succ] at hK; go_simp; exact hK _ (Ext.refl _)); simp only [Act.put, List.setIfInBounds_toArray, List.set_cons_zero, List.set_cons_succ])
  (refine At.det ?_ (fun val w1 hR _ K hK => ?_) ?_; rotate_left; (simp only [Act.put, List.setIfInBounds_toArray, List.set_cons_zero, List.set_cons_succ] at hK; go_simp; exact hK _ (Ext.refl _)); simp only [Act.put, List.setIfInBounds_toArray, List.set_cons_zero, List.set_cons_succ])
  (refine At.det ?_ (fun val w1 hR _ K hK => ?_) ?_; rotate_left; (simp only [Act.put, List.setIfInBounds_toArray, List.set_cons_zero, List.set_cons_succ] at hK; go_simp; exact hK _ (Ext.refl _)); simp only [Act.put, List.setIfInBounds_toArray, List.set_cons_zero, List.set_cons_succ])
  (refine At.det ?_ (fun val w1 hR _ K hK => ?_) ?_; rotate_left; (have g1 := (F.out _ hR).1; have g2 := (F.out _ hR).2; simp only [Act.put, List.setIfInBounds_toArray, List.set_cons_zero, List.set_cons_succ] at hK; go_simp; exact hK _ (Ext.refl _)); simp only [Act.put, List.setIfInBounds_toArray, List.set_cons_zero, List.set_cons_succ])
  (refine At.det ?_ (fun val w1 hR _ K hK => ?_) ?_; rotate_left; (simp only [Act.put, List.setIfInBounds_toArray, List.set_cons_zero, List.set_cons_succ] at hK; go_simp; exact hK _ (Ext.refl _)); simp only [Act.put, List.setIfInBounds_toArray, List.set_cons_zero, List.set_cons_succ])
  (refine At.det ?_ (fun val w1 hR _ K hK => ?_) ?_; rotate_left; (simp only [Act.put, List.setIfInBounds_toArray, List.set_cons_zero, List.set_cons_succ] at hK; go_simp; exact hK _ (Ext.refl _)); simp only [Act.put, List.setIfInBounds_toArray, List.set_cons_zero, List.set_cons_succ])
  (refine At.det ?_ (fun val w1 hR _ K hK => ?_) ?_; rotate_left; (simp only [Act.put, List.setIfInBounds_toArray, List.set_cons_zero, List.set_cons_succ] at hK; go_simp; exact hK _ (Ext.refl _)); simp only [Act.put, List.setIfInBounds_toArray, List.set_cons_zero, List.set_cons_succ])
  refine At.last rfl (fun val w2 hR hF hN => ?_)
  have hx2 := hR.of_drew
  replace HT := Lib.hid (TabAt.ext HT.out ((Ext.refl w).alloc (.cells #[.int .i64 x0, .int .i64 x1] 61)))
  replace HC := Lib.hid (HC.out.ext hx2)
  clear hR hF hN F B1
  have ht0 := Int.tmod_nonneg 64 (show 0 ≤ max 0 x0 by omega)
  have ht1 := Int.tmod_lt_of_pos (max 0 x0) (show (0 : Int) < 64 by decide)
  have hk0 := Int.tmod_nonneg 6 (show 0 ≤ max 0 x1 by omega)
  have hk1 := Int.tmod_lt_of_pos (max 0 x1) (show (0 : Int) < 6 by decide)
  generalize (max 0 x0).tmod 64 = t at *
  generalize (max 0 x1).tmod 6 = k' at *
  obtain ⟨k, rfl⟩ := Int.eq_ofNat_of_zero_le hk0
  have HI := Lib.hid (OI.start (t := t) (k := k) 6 4 2 (by omega) (by decide))
  have HB := Lib.hid (And.intro ht0 ht1)
  have HW := Lib.hid (cwakes_any _ (TabAt.ext HT.out HC.out.2))
  clear ht0 ht1 hk0 hk1 hx2
  go_wp2_with fail
  refine HW.out.mono ?_
  rintro e w3 ⟨rfl, hx⟩
  have HS := Lib.hid (show OSt (w.alloc (.cells #[.int .i64 x0, .int .i64 x1] 61)) bc t k 0 (.string ⟨#[]⟩) (.string ⟨#[]⟩) (.bool false) w3 from ⟨_, _, _, _, HI.out, HC.out.ext hx, rfl, rfl, rfl⟩)
  clear hx HI HC HW
  go_upto_region 6 with (fail)
  have hm1 : (min n 60) ≤ n := Nat.min_le_left _ _
  have hm2 : (min n 60) ≤ 60 := Nat.min_le_right _ _
  have hm3 : min (n : Int) 60 = ((min n 60 : Nat) : Int) := by omega
  generalize min n 60 = m at *
  have HM := Lib.hid (And.intro hm1 hm2)
  go_cut [41, 42, 43] (fun a b c wx => a = .slice sb m cap ∧ b = .int .i64 m ∧ c = .int .i64 0 ∧ wx = w3)
  case first =>
    have hb0 : (0 : Int) ≤ (m : Int) := by omega
    have hb1 : (m : Int) ≤ (cap : Int) := by have := HNC.out.1; omega
    go_wp2_with fail
    go_meet
    exact ⟨rfl, rfl, rfl, rfl⟩
  case rest =>
    obtain ⟨rfl, rfl, rfl, rfl⟩ := hcut
    clear hm1 hm2 hm3
    have hw0 : Ext w (w.alloc (.cells #[.int .i64 x0, .int .i64 x1] 61)) := (Ext.refl w).alloc _
    generalize w.alloc (.cells #[.int .i64 x0, .int .i64 x1] 61) = w0 at *
    have HW0 := Lib.hid hw0
    clear hw0
    go_wp2_with fail
    go_loopw [9, 10, 11, 43] (fun a b c i wr => ∃ j : Nat, j ≤ m ∧ i = .int .i64 j ∧ OSt w0 bc t k j a b c wr) (fun _ _ _ i _ => m - (intOf i).toNat)
    case atStart => exact ⟨0, by omega, rfl, HS.out⟩
    case round =>
      clear HS
      obtain ⟨j, hj, rfl, C, old, now, dirty, hi, hc, rfl, rfl, rfl⟩ := hrel
      have HH := Lib.hid (And.intro hi hc)
      clear hi hc
      by_cases hlt : j < m
      · obtain ⟨g, o, d, s, c, b, od, rfl, hd, hr⟩ := HA.out j (by have := HM.out; omega)
        have hr2 : wr.rangeAt g (o + j * 5) (actv d s c b od) := fun i v hv => (HH.out.2.2.cell _ (by rw [hr i v hv]; rfl)).trans (hr i v hv)
        have HR := Lib.hid (show wr.rangeAt g (o + j * 5) [.int .i64 d, .int .i64 s, .int .i64 c, .int .u8 (b.toNat : Int), .bool od] from hr2)
        have j0 : (0 : Int) ≤ (j : Int) := by omega
        have j1 : (j : Int) < (m : Int) := by omega
        have HSec := Lib.hid (fun w => sector_false b w)
        have HSz := Lib.hid (secB_size b 63)
        generalize secB b 63 = sb at *
        clear hr hr2
        go_upto_region 9 with ((with_reducible refine wpList_load_mid rfl 67 _ rfl g (o + j * 5) ?_ [.int .i64 d, .int .i64 s, .int .i64 c, .int .u8 (b.toNat : Int), .bool od] _ HR.out Tryd.underlying67 ?_ ?_ ?_); (exact rfl); (exact rfl); (kernel_rfl))
        have B1 := Blk.new wr 67 #[.int .i64 d, .int .i64 s, .int .i64 c, .int .u8 (b.toNat : Int), .bool od]
        have hx1 := (Ext.refl wr).alloc (.cells #[.int .i64 d, .int .i64 s, .int .i64 c, .int .u8 (b.toNat : Int), .bool od] 67)
        generalize wr.alloc (.cells #[.int .i64 d, .int .i64 s, .int .i64 c, .int .u8 (b.toNat : Int), .bool od] 67) = w4 at *
        have c3 := B1.cells 3
        simp at c3
        go_wp2_with fail
        refine (HSec.out _).mono ?_
        rintro e w5 ⟨rfl, hx5⟩
        replace B1 := B1.ext hx5
        have HC5 := Lib.hid (HH.out.2.ext (hx1.trans hx5))
        have HI5 := Lib.hid HH.out.1
        clear hx1 hx5 c3 HH HR
        have c0 := B1.cells 0
        simp at c0
        go_upto_block 2 with (fail)
        generalize bits BinOp.and IntKind.i64 d 3 = q at *
        have HLT := Lib.hid hlt
        go_cut [9, 10, 11] (fun a b c wx => OSt w0 bc t k (j + 1) a b c wx)
        case first =>
          by_cases q0 : q = 0
          · subst q0
            go_wp2_with fail
            refine (o_put HC5.out HI5.out (by have := HM.out; omega) HB.out HSz.out).mono ?_
            rintro e w6 ⟨rfl, hc⟩
            have HO := Lib.hid (show OSt w0 bc t k (j + 1) (.string old) (.string sb) (.bool true) w6 from ⟨_, _, _, _, HI5.out.put HSz.out, hc, rfl, rfl, rfl⟩)
            clear hc
            go_wp2_with fail
            go_meet
            exact HO.out
          by_cases q1 : q = 1
          · subst q1
            go_wp2_with fail
            refine (o_put HC5.out HI5.out (by have := HM.out; omega) HB.out HSz.out).mono ?_
            rintro e w6 ⟨rfl, hc⟩
            have HO := Lib.hid (show OSt w0 bc t k (j + 1) (.string old) (.string sb) (.bool true) w6 from ⟨_, _, _, _, HI5.out.put HSz.out, hc, rfl, rfl, rfl⟩)
            clear hc
            go_wp2_with fail
            go_meet
            exact HO.out
          have e0 : (q == 0) = false := by simpa using q0
          have e1 : (q == 1) = false := by simpa using q1
          by_cases q2 : q = 2
          · subst q2
            go_wp2_with fail
            refine (o_fill HC5.out HI5.out (by have := HM.out; omega) HB.out HSz.out).mono ?_
            rintro e w6 ⟨rfl, hc⟩
            have HO := Lib.hid (show OSt w0 bc t k (j + 1) (.string sb) (.string (if dirty then now else sb)) (.bool dirty) w6 from ⟨_, _, _, _, HI5.out.fill HSz.out, hc, rfl, rfl, rfl⟩)
            clear hc
            cases dirty
            · go_wp2_with fail
              go_meet
              exact HO.out
            · go_wp2_with fail
              go_meet
              exact HO.out
          have e2 : (q == 2) = false := by simpa using q2
          rcases hE : C.rows t with _ | E
          · have HE := Lib.hid hE
            clear hE
            go_wp2_with fail
            refine (o_done_none HC5.out HB.out HE.out).mono ?_
            rintro e w6 ⟨rfl, hc⟩
            have HO := Lib.hid (show OSt w0 bc t k (j + 1) (.string old) (.string now) (.bool dirty) w6 from ⟨_, _, _, _, HI5.out.le (Nat.le_succ _), hc, rfl, rfl, rfl⟩)
            clear hc
            go_wp2_with fail
            go_meet
            exact HO.out
          · have HE := Lib.hid hE
            clear hE
            go_wp2_with fail
            refine (o_done_some HC5.out HI5.out HB.out (TabAt.ext HT.out HC5.out.2) HE.out).mono ?_
            rintro e w6 ⟨rfl, hc⟩
            have HO := Lib.hid (show OSt w0 bc t k (j + 1) (.string now) (.string now) (.bool false) w6 from ⟨_, _, _, _, HI5.out.done HE.out, hc, rfl, rfl, rfl⟩)
            clear hc
            go_wp2_with fail
            go_meet
            exact HO.out
        case rest =>
          obtain ⟨C', old', now', dirty', hi, hc, rfl, rfl, rfl⟩ := hcut
          have HH := Lib.hid (And.intro hi hc)
          have HE := Lib.hid (And.intro hi.o3 hi.a3)
          clear hi hc HI5 HC5
          go_wp2_with fail
          refine (o_old HH.out.2 HH.out.1 HB.out).mono ?_
          rintro e w6 ⟨rfl, hc⟩
          replace HH := Lib.hid (And.intro HH.out.1 hc)
          clear hc
          have eo := empty_of HE.out.1
          have ea := empty_of HE.out.2
          have HEE := Lib.hid (And.intro eo ea)
          clear eo ea
          generalize decide (old'.size = 64) = bo at *
          generalize hbn : decide (now'.size = 64) = bn at *
          have HBN := Lib.hid hbn
          clear hbn
          go_wp2_with fail
          refine (o_get HH.out.2 HH.out.1 HB.out).mono ?_
          rintro e w7 ⟨rfl, hc⟩
          rw [HBN.out]
          have HO := Lib.hid (show OSt w0 bc t k (j + 1) (.string old') (.string now') (.bool dirty') w7 from ⟨_, _, _, _, HH.out.1.get, hc, rfl, rfl, rfl⟩)
          clear hc
          go_upto_region 26 with (fail)
          obtain ⟨ho, hn⟩ := HEE.out
          have ho2 : old'.toList.isEmpty = !bo := by rw [ho]; simp
          have hn2 : now'.toList.isEmpty = !bn := by rw [hn]; simp
          clear ho hn HEE HBN
          go_cut [112] (fun a wx => a = .bool false ∧ wx = w7)
          case first =>
            cases bo <;> cases bn
            all_goals
              simp only [Bool.not_true, Bool.not_false] at ho2 hn2
              go_wp2_with fail
              go_meet
              exact ⟨rfl, rfl⟩
          case rest =>
            obtain ⟨rfl, rfl⟩ := hcut
            clear ho2 hn2
            have hlt := HLT.out
            have j0 : (0 : Int) ≤ (j : Int) := by omega
            have j2 : (j : Int) < 60 := by have := HM.out; omega
            go_wp2_with fail
            exact ⟨⟨j + 1, by omega, by go_num, HO.out⟩, by simp [intOf]; omega⟩
      · have hjm : j = m := by omega
        subst hjm
        have hx9 := HH.out.2.2
        go_wp2_with fail
        go_ret
        exact ⟨rfl, HW0.out.trans hx9⟩
end Go.Proofs.YtghefhmncpmflaaDoor
