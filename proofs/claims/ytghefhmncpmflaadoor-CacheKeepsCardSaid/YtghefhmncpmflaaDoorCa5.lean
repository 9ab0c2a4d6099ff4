/-
  Contracts of the turn: one of too many dear keys falls; a key is used; a key is pinned.
-/
import Derived.Test.YtghefhmncpmflaaDoorCa4
namespace Go.Proofs.YtghefhmncpmflaaDoor
open Go.RowKit Go.Rg

set_option maxHeartbeats 1000000 in
theorem falls_no (bt : Nat) (most limit pn : Nat) (plain dear : List Int) (pins : Int → Option Value) (S : Nat → Prop) (w : World) (h : TurnAt w bt most limit plain dear pins pn S) (hl : dear.length ≤ limit) :
    Calls Tryd.prog 93 #[.pointer (some ⟨bt, 0, none⟩)] w fun e w' => e = .returned (.tuple #[]) ∧ Ext w w' := by
  obtain ⟨vp, vd, bp, B, hp, hd, -⟩ := h
  obtain ⟨b2, k2, rfl⟩ := Ints_slice hd
  clear hp hd
  have hdec : decide (limit < dear.length) = false := by simp; omega
  generalize dear.length = m at *
  go_enter Tryd.func93, Tryd.ntmps93
  go_upto_region 0 with (fail)
  have F := Lib.hid (fun (w1 : World) (hr : Ext w.drew w1) => And.intro ((B.ext hr.of_drew).cells 1) ((B.ext hr.of_drew).cells 3))
  simp at F
  refine Seq.drawn (k := 9) (R := Ext) (by kernel_rfl) (by decide) (by kernel_rfl) (fun _ _ _ => Ext.trans) (fun _ _ h => h.size) Ext.refl (At.start ?_)
  (refine At.det ?_ (fun val w1 hR _ K hK => ?_) ?_; rotate_left; (simp only [Act.put, List.setIfInBounds_toArray, List.set_cons_zero, List.set_cons_succ] at hK; go_simp; exact hK _ (Ext.refl _)); simp only [Act.put, List.setIfInBounds_toArray, List.set_cons_zero, List.set_cons_succ])
  (refine At.det ?_ (fun val w1 hR _ K hK => ?_) ?_; rotate_left; (simp only [Act.put, List.setIfInBounds_toArray, List.set_cons_zero, List.set_cons_succ] at hK; go_simp; exact hK _ (Ext.refl _)); simp only [Act.put, List.setIfInBounds_toArray, List.set_cons_zero, List.set_cons_succ])
  (refine At.det ?_ (fun val w1 hR _ K hK => ?_) ?_; rotate_left; (simp only [Act.put, List.setIfInBounds_toArray, List.set_cons_zero, List.set_cons_succ] at hK; go_simp; exact hK _ (Ext.refl _)); simp only [Act.put, List.setIfInBounds_toArray, List.set_cons_zero, List.set_cons_succ])
  (refine At.det ?_ (fun val w1 hR _ K hK => ?_) ?_; rotate_left; (have g1 := (F.out _ hR).1; have g2 := (F.out _ hR).2; simp only [Act.put, List.setIfInBounds_toArray, List.set_cons_zero, List.set_cons_succ] at hK; go_simp; exact hK _ (Ext.refl _)); simp only [Act.put, List.setIfInBounds_toArray, List.set_cons_zero, List.set_cons_succ])
  (refine At.det ?_ (fun val w1 hR _ K hK => ?_) ?_; rotate_left; (simp only [Act.put, List.setIfInBounds_toArray, List.set_cons_zero, List.set_cons_succ] at hK; go_simp; exact hK _ (Ext.refl _)); simp only [Act.put, List.setIfInBounds_toArray, List.set_cons_zero, List.set_cons_succ])
  (refine At.det ?_ (fun val w1 hR _ K hK => ?_) ?_; rotate_left; (simp only [Act.put, List.setIfInBounds_toArray, List.set_cons_zero, List.set_cons_succ] at hK; go_simp; exact hK _ (Ext.refl _)); simp only [Act.put, List.setIfInBounds_toArray, List.set_cons_zero, List.set_cons_succ])
  (refine At.det ?_ (fun val w1 hR _ K hK => ?_) ?_; rotate_left; (simp only [Act.put, List.setIfInBounds_toArray, List.set_cons_zero, List.set_cons_succ] at hK; go_simp; exact hK _ (Ext.refl _)); simp only [Act.put, List.setIfInBounds_toArray, List.set_cons_zero, List.set_cons_succ])
  (refine At.det ?_ (fun val w1 hR _ K hK => ?_) ?_; rotate_left; (simp only [Act.put, List.setIfInBounds_toArray, List.set_cons_zero, List.set_cons_succ] at hK; go_simp; exact hK _ (Ext.refl _)); simp only [Act.put, List.setIfInBounds_toArray, List.set_cons_zero, List.set_cons_succ])
  (refine At.det ?_ (fun val w1 hR _ K hK => ?_) ?_; rotate_left; (have g1 := (F.out _ hR).1; have g2 := (F.out _ hR).2; simp only [Act.put, List.setIfInBounds_toArray, List.set_cons_zero, List.set_cons_succ] at hK; go_simp; exact hK _ (Ext.refl _)); simp only [Act.put, List.setIfInBounds_toArray, List.set_cons_zero, List.set_cons_succ])
  refine At.last rfl (fun val w1 hR _ _ => ?_)
  have hx := hR.of_drew
  clear F hR
  go_wp2
  go_end0
  exact ⟨rfl, hx⟩

set_option maxHeartbeats 2000000 in
theorem falls_yes (bt : Nat) (most limit pn : Nat) (plain dear : List Int) (pins : Int → Option Value) (S : Nat → Prop) (w : World) (h : TurnAt w bt most limit plain dear pins pn S) (hl : limit < dear.length) (hbig : plain.length + dear.length ≤ 1000) :
    Calls Tryd.prog 93 #[.pointer (some ⟨bt, 0, none⟩)] w fun e w' => e = .returned (.tuple #[]) ∧ TurnAt w' bt most limit (plain ++ [dear.getD 0 0]) (dear.eraseIdx 0) pins pn (Grow S w w') ∧ Chg S w w' := by
  obtain ⟨vp, vd, bp, htp⟩ := h
  have HT := Lib.hid (show TP w bt most limit plain dear pins pn S vp vd bp from htp)
  have B := htp.1
  have hdec : decide (limit < dear.length) = true := by simp; omega
  rcases htp.2.2.1.form with ⟨_, h0⟩ | ⟨g2, k2, hvd, hg2, hc2, hm2, hcell, _⟩
  · rw [h0] at hl; simp at hl
  subst hvd
  have hpl : plain.length ≤ 1000000 := by omega
  have hdpos : (0 : Int) < (dear.length : Int) := by omega
  have hdpos2 : 0 < dear.length := by omega
  obtain ⟨i3, hi, hz0, hz1, hz2⟩ := info_parts info3
  have HI := Lib.hid (And.intro hi (And.intro hz0 (And.intro hz1 hz2)))
  have HDel := Lib.hid (delete_any g2 k2 0 dear)
  have HL := Lib.hid (And.intro hl hbig)
  clear hi hz0 hz1 hz2 htp hcell hm2 hc2 hl hbig
  generalize hd0 : dear.getD 0 0 = d0 at *
  have HD0 := Lib.hid hd0
  clear hd0
  generalize hm : dear.length = m at *
  have HM := Lib.hid hm
  clear hm
  go_enter Tryd.func93, Tryd.ntmps93
  go_upto_region 0 with (fail)
  have F := Lib.hid (fun (w1 : World) (hr : Ext w.drew w1) => And.intro ((B.ext hr.of_drew).cells 1) ((B.ext hr.of_drew).cells 3))
  simp at F
  refine Seq.drawn (k := 9) (R := Ext) (by kernel_rfl) (by decide) (by kernel_rfl) (fun _ _ _ => Ext.trans) (fun _ _ h => h.size) Ext.refl (At.start ?_)
  (refine At.det ?_ (fun val w1 hR _ K hK => ?_) ?_; rotate_left; (simp only [Act.put, List.setIfInBounds_toArray, List.set_cons_zero, List.set_cons_succ] at hK; go_simp; exact hK _ (Ext.refl _)); simp only [Act.put, List.setIfInBounds_toArray, List.set_cons_zero, List.set_cons_succ])
  (refine At.det ?_ (fun val w1 hR _ K hK => ?_) ?_; rotate_left; (simp only [Act.put, List.setIfInBounds_toArray, List.set_cons_zero, List.set_cons_succ] at hK; go_simp; exact hK _ (Ext.refl _)); simp only [Act.put, List.setIfInBounds_toArray, List.set_cons_zero, List.set_cons_succ])
  (refine At.det ?_ (fun val w1 hR _ K hK => ?_) ?_; rotate_left; (simp only [Act.put, List.setIfInBounds_toArray, List.set_cons_zero, List.set_cons_succ] at hK; go_simp; exact hK _ (Ext.refl _)); simp only [Act.put, List.setIfInBounds_toArray, List.set_cons_zero, List.set_cons_succ])
  (refine At.det ?_ (fun val w1 hR _ K hK => ?_) ?_; rotate_left; (have g1 := (F.out _ hR).1; have g2 := (F.out _ hR).2; simp only [Act.put, List.setIfInBounds_toArray, List.set_cons_zero, List.set_cons_succ] at hK; go_simp; exact hK _ (Ext.refl _)); simp only [Act.put, List.setIfInBounds_toArray, List.set_cons_zero, List.set_cons_succ])
  (refine At.det ?_ (fun val w1 hR _ K hK => ?_) ?_; rotate_left; (simp only [Act.put, List.setIfInBounds_toArray, List.set_cons_zero, List.set_cons_succ] at hK; go_simp; exact hK _ (Ext.refl _)); simp only [Act.put, List.setIfInBounds_toArray, List.set_cons_zero, List.set_cons_succ])
  (refine At.det ?_ (fun val w1 hR _ K hK => ?_) ?_; rotate_left; (simp only [Act.put, List.setIfInBounds_toArray, List.set_cons_zero, List.set_cons_succ] at hK; go_simp; exact hK _ (Ext.refl _)); simp only [Act.put, List.setIfInBounds_toArray, List.set_cons_zero, List.set_cons_succ])
  (refine At.det ?_ (fun val w1 hR _ K hK => ?_) ?_; rotate_left; (simp only [Act.put, List.setIfInBounds_toArray, List.set_cons_zero, List.set_cons_succ] at hK; go_simp; exact hK _ (Ext.refl _)); simp only [Act.put, List.setIfInBounds_toArray, List.set_cons_zero, List.set_cons_succ])
  (refine At.det ?_ (fun val w1 hR _ K hK => ?_) ?_; rotate_left; (simp only [Act.put, List.setIfInBounds_toArray, List.set_cons_zero, List.set_cons_succ] at hK; go_simp; exact hK _ (Ext.refl _)); simp only [Act.put, List.setIfInBounds_toArray, List.set_cons_zero, List.set_cons_succ])
  (refine At.det ?_ (fun val w1 hR _ K hK => ?_) ?_; rotate_left; (have g1 := (F.out _ hR).1; have g2 := (F.out _ hR).2; simp only [Act.put, List.setIfInBounds_toArray, List.set_cons_zero, List.set_cons_succ] at hK; go_simp; exact hK _ (Ext.refl _)); simp only [Act.put, List.setIfInBounds_toArray, List.set_cons_zero, List.set_cons_succ])
  refine At.last rfl (fun val w1 hR _ _ => ?_)
  have hx := hR.of_drew
  clear F hR
  go_upto_region 1 with (fail)
  have HV : ∀ g, vp.ownBlock = some g → g < w1.heap.size := fun g hg => Nat.lt_of_lt_of_le (HT.out.2.1.lt hg) hx.size
  have HVH := Lib.hid HV
  have hs1 := hx.size
  clear HV
  have F := Lib.hid (fun (w2 : World) (hr : AppR 3 vp plain d0 w1.drew w2) => And.intro ((hr.1.blk ((HT.out.1.ext hx).drew) (fun e => (HT.out.2.2.2.2.2.1 bt e).2.1 rfl)).cells 2) (And.intro ((hr.1.blk ((HT.out.1.ext hx).drew) (fun e => (HT.out.2.2.2.2.2.1 bt e).2.1 rfl)).cells 3)
    (And.intro (Ints.cell (((HT.out.2.2.1.ext hx).ext (Ext.refl w1).drew).chg hr.1 (fun g hg e => (HT.out.2.2.2.2.2.1 g e).2.2.2 hg)) (j := 0) (by rw [HM.out]; exact hdpos2)) (hr.2.1 ((HT.out.2.1.ext hx).ext (Ext.refl w1).drew)))))
  simp only [HD0.out] at F
  simp at F
  refine Seq.drawn (k := 13) (R := AppR 3 vp plain d0) (by kernel_rfl) (by decide) (by kernel_rfl) (fun _ _ _ => AppR.trans) (fun _ _ h => h.size) AppR.refl (At.start ?_)
  (refine At.det ?_ (fun val w1 hR _ K hK => ?_) ?_; rotate_left; (simp only [Act.put, List.setIfInBounds_toArray, List.set_cons_zero, List.set_cons_succ] at hK; go_simp; exact hK _ (AppR.refl _)); simp only [Act.put, List.setIfInBounds_toArray, List.set_cons_zero, List.set_cons_succ])
  (refine At.det ?_ (fun val w1 hR _ K hK => ?_) ?_; rotate_left; (simp only [Act.put, List.setIfInBounds_toArray, List.set_cons_zero, List.set_cons_succ] at hK; go_simp; exact hK _ (AppR.refl _)); simp only [Act.put, List.setIfInBounds_toArray, List.set_cons_zero, List.set_cons_succ])
  (refine At.det ?_ (fun val w1 hR _ K hK => ?_) ?_; rotate_left; (simp only [Act.put, List.setIfInBounds_toArray, List.set_cons_zero, List.set_cons_succ] at hK; go_simp; exact hK _ (AppR.refl _)); simp only [Act.put, List.setIfInBounds_toArray, List.set_cons_zero, List.set_cons_succ])
  (refine At.det ?_ (fun val w1 hR _ K hK => ?_) ?_; rotate_left; (simp only [Act.put, List.setIfInBounds_toArray, List.set_cons_zero, List.set_cons_succ] at hK; go_simp; exact hK _ (AppR.refl _)); simp only [Act.put, List.setIfInBounds_toArray, List.set_cons_zero, List.set_cons_succ])
  (refine At.det ?_ (fun val w1 hR _ K hK => ?_) ?_; rotate_left; (have g1 := (F.out _ hR).1; have g2 := (F.out _ hR).2.1; have g3 := (F.out _ hR).2.2.1; simp only [Act.put, List.setIfInBounds_toArray, List.set_cons_zero, List.set_cons_succ] at hK; go_simp; exact hK _ (AppR.refl _)); simp only [Act.put, List.setIfInBounds_toArray, List.set_cons_zero, List.set_cons_succ])
  (refine At.det ?_ (fun val w1 hR _ K hK => ?_) ?_; rotate_left; (simp only [Act.put, List.setIfInBounds_toArray, List.set_cons_zero, List.set_cons_succ] at hK; go_simp; exact hK _ (AppR.refl _)); simp only [Act.put, List.setIfInBounds_toArray, List.set_cons_zero, List.set_cons_succ])
  (refine At.det ?_ (fun val w1 hR _ K hK => ?_) ?_; rotate_left; (simp only [Act.put, List.setIfInBounds_toArray, List.set_cons_zero, List.set_cons_succ] at hK; go_simp; exact hK _ (AppR.refl _)); simp only [Act.put, List.setIfInBounds_toArray, List.set_cons_zero, List.set_cons_succ])
  (refine At.det ?_ (fun val w1 hR _ K hK => ?_) ?_; rotate_left; (simp only [Act.put, List.setIfInBounds_toArray, List.set_cons_zero, List.set_cons_succ] at hK; go_simp; exact hK _ (AppR.refl _)); simp only [Act.put, List.setIfInBounds_toArray, List.set_cons_zero, List.set_cons_succ])
  (refine At.det ?_ (fun val w1 hR _ K hK => ?_) ?_; rotate_left; (have g1 := (F.out _ hR).1; have g2 := (F.out _ hR).2.1; have g3 := (F.out _ hR).2.2.1; simp only [Act.put, List.setIfInBounds_toArray, List.set_cons_zero, List.set_cons_succ] at hK; go_simp; exact hK _ (AppR.refl _)); simp only [Act.put, List.setIfInBounds_toArray, List.set_cons_zero, List.set_cons_succ])
  (refine At.det ?_ (fun val w1 hR _ K hK => ?_) ?_; rotate_left; (simp only [Act.put, List.setIfInBounds_toArray, List.set_cons_zero, List.set_cons_succ] at hK; go_simp; exact hK _ (AppR.refl _)); simp only [Act.put, List.setIfInBounds_toArray, List.set_cons_zero, List.set_cons_succ])
  (refine At.det ?_ (fun val w1 hR _ K hK => ?_) ?_; rotate_left; (have g1 := (F.out _ hR).1; have g2 := (F.out _ hR).2.1; have g3 := (F.out _ hR).2.2.1; simp only [Act.put, List.setIfInBounds_toArray, List.set_cons_zero, List.set_cons_succ] at hK; go_simp; exact hK _ (AppR.refl _)); simp only [Act.put, List.setIfInBounds_toArray, List.set_cons_zero, List.set_cons_succ])
  (refine At.new (NewSl w1.heap.size 3 1 #[.int .i64 d0]) (fun v w w' hR ⟨b, h1, h2, h3⟩ => ⟨b, h1, h2, hR.1.blk h3 (fun e => by have := HVH.out b e; omega)⟩) (fun val w1 hR hF K hK => ?_) ?_; (simp only [Act.put, List.setIfInBounds_toArray, List.set_cons_zero, List.set_cons_succ] at hK; go_simp; exact hK _ _ (AppR.of ((Ext.refl _).alloc _)) ⟨_, rfl, Nat.le_refl _, by simp⟩ ⟨_, rfl, hR.size, Blk.new _ _ _⟩); simp only [Act.put, List.setIfInBounds_toArray, List.set_cons_zero, List.set_cons_succ])
  (refine At.free (fun v wz => Ints 3 wz v (plain ++ [d0]) ∧ (v.ownBlock = vp.ownBlock ∨ ∃ g, v.ownBlock = some g ∧ w1.heap.size ≤ g ∧ g < wz.heap.size)) (fun v x y hR ⟨a, b⟩ => ⟨hR.2.2 v a, b.imp id (fun ⟨g, e1, e2, e3⟩ => ⟨g, e1, e2, Nat.lt_of_lt_of_le e3 hR.size⟩)⟩) (fun val wz hR hF K hK => ?_) ?_; (simp only [Act.put, List.setIfInBounds_toArray, List.set_cons_zero, List.set_cons_succ] at hK; simp only [Nat.reduceAdd] at hK hF ⊢; have hF2 := hF.2 (by kernel_rfl); clear hF; obtain ⟨b3, hv, hb3, hB3⟩ := hF2; simp only [hv] at hK ⊢; rw [if_pos (by rfl)]; have hsz := hR.size; exact wp_appInt 153 _ _ rfl Tryd.underlying153 HI.out.1 HI.out.2.1 HI.out.2.2.1 HI.out.2.2.2 (v := vp) (xs := plain) rfl ((F.out _ hR).2.2.2) hpl (k := d0) rfl hB3 (fun v' w' h1 h2 h3 => hK v' w' h2 ⟨h1, h3.imp id (fun ⟨g, e1, e2, e3⟩ => ⟨g, e1, Nat.le_trans hsz e2, e3⟩)⟩)); simp only [Act.put, List.setIfInBounds_toArray, List.set_cons_zero, List.set_cons_succ])
  refine At.last rfl (fun val w2 hR hF hN => ?_)
  simp only [Nat.reduceAdd] at hF ⊢
  obtain ⟨hi4, hloc⟩ := hF.2 (by simp)
  have hcg : Chg (fun k => vp.ownBlock = some k) w w2 := ((Chg.of_ext hx).drew).trans hR.1
  have B4 := hcg.blk HT.out.1 (fun e => (HT.out.2.2.2.2.2.1 bt e).2.1 rfl)
  obtain ⟨vb, vc, hve⟩ := Ints_slice hi4
  rw [hve] at hi4 hloc ⊢
  have c2 := B4.cells 2
  have f2 := B4.free 2
  simp at c2
  obtain ⟨r1, r2⟩ := turn_set2 HT.out hcg hi4 (hloc.imp id (fun ⟨g, e1, e2, e3⟩ => ⟨g, e1, by omega, e3⟩))
  simp only [List.length_append, List.length_cons, List.length_nil, Nat.zero_add] at r1 r2 ⊢
  have HR := Lib.hid (And.intro r1 r2)
  clear r1 r2 hi4 hloc hcg B4 hF hN hR F hve HVH HDel
  go_upto_region 2 with (fail)
  refine wp_forget (fun wx => TurnAt wx bt most limit (plain ++ [d0]) dear pins pn (Grow S w wx) ∧ Chg S w wx) HR.out ?_
  clear HR c2 f2 HT B hx
  rintro w3 ⟨ht3, hc3⟩
  obtain ⟨vp3, vd3, bp3, htp3⟩ := ht3
  rcases htp3.2.2.1.form with ⟨_, h0⟩ | ⟨g3, k3, hvd3, _⟩
  · have := HM.out; rw [h0] at this; simp at this; omega
  rw [HM.out] at hvd3
  subst hvd3
  have HT3 := Lib.hid (show TP w3 bt most limit (plain ++ [d0]) dear pins pn (Grow S w w3) vp3 (.slice (some ⟨g3, 0, none⟩) m k3) bp3 from htp3)
  have c3 := htp3.1.cells 3
  simp at c3
  have HDel := Lib.hid (show Calls Tryd.prog 106 #[.slice (some ⟨g3, 0, none⟩) m k3, .int .i64 0, .int .i64 1] w3 fun e w' => e = .returned (.slice (some ⟨g3, 0, none⟩) (m - 1) k3) ∧
      Ints 3 w' (.slice (some ⟨g3, 0, none⟩) (m - 1) k3) (dear.eraseIdx 0) ∧ Chg (fun k => k = g3) w3 w' from by
    have := delete_any g3 k3 0 dear w3 (by rw [HM.out]; exact htp3.2.2.1) (by rw [HM.out]; exact hdpos2)
    rw [HM.out] at this
    exact this)
  have HC3 := Lib.hid hc3
  clear htp3 hc3
  go_wp2_with fail
  refine HDel.out.mono ?_
  rintro e w4 ⟨rfl, hi4, hch⟩
  have hch2 : Chg (fun k => (Value.slice (some ⟨g3, 0, none⟩) m k3).ownBlock = some k) w3 w4 := hch.mono (fun k _ hk => by rw [hk]; rfl)
  have B4 := hch2.blk HT3.out.1 (fun e => (HT3.out.2.2.2.2.2.2 bt e).2.1 rfl)
  have c4 := B4.cells 3
  have f4 := B4.free 3
  simp at c4
  obtain ⟨r1, r2⟩ := turn_set3 HT3.out hch2 hi4 (.inl rfl)
  have HR := Lib.hid (And.intro r1 r2)
  clear r1 r2 hi4 hch hch2 B4 HT3 c3
  go_wp2_with fail
  go_end0
  obtain ⟨t1, t2⟩ := Grow_trans HC3.out HR.out.2
  exact ⟨rfl, HR.out.1.mono t2, t1⟩
end Go.Proofs.YtghefhmncpmflaaDoor
