/-
  The contracts of a turn's Order and Victim.
-/
import Derived.Test.YtghefhmncpmflaaDoorCb2
namespace Go.Proofs.YtghefhmncpmflaaDoor
open Go.RowKit Go.Rg

set_option maxRecDepth 100000 in
set_option maxHeartbeats 2000000 in
theorem order_any (bt : Nat) (most limit pn : Nat) (plain dear : List Int) (pins : Int → Option Value) (S : Nat → Prop) (w : World) (h : TurnAt w bt most limit plain dear pins pn S) (hl : plain.length + dear.length ≤ 1000) :
    Calls Tryd.prog 111 #[.pointer (some ⟨bt, 0, none⟩)] w (OPost w.heap.size (plain ++ dear) w) := by
  obtain ⟨vp, vd, bp, h⟩ := h
  obtain ⟨ap, kp, rfl⟩ := Ints_slice h.2.1
  obtain ⟨ad, kd, rfl⟩ := Ints_slice h.2.2.1
  have HT := Lib.hid h
  have HL := Lib.hid hl
  have B := h.1
  clear h hl
  go_enter Tryd.func111, Tryd.ntmps111
  go_upto_region 3 with (fail)
  have F := Lib.hid (fun (w1 : World) (hr : Ext w.drew w1) => And.intro ((B.ext hr.of_drew).cells 2) ((B.ext hr.of_drew).cells 3))
  simp at F
  refine Seq.drawn (k := 8) (R := Ext) (by kernel_rfl) (by decide) (by kernel_rfl) (fun _ _ _ => Ext.trans) (fun _ _ h => h.size) Ext.refl (At.start ?_)
  (refine At.det ?_ (fun val w1 hR _ K hK => ?_) ?_; rotate_left; (simp only [Act.put, List.setIfInBounds_toArray, List.set_cons_zero, List.set_cons_succ] at hK; go_simp; exact hK _ (Ext.refl _)); simp only [Act.put, List.setIfInBounds_toArray, List.set_cons_zero, List.set_cons_succ])
  (refine At.det ?_ (fun val w1 hR _ K hK => ?_) ?_; rotate_left; (simp only [Act.put, List.setIfInBounds_toArray, List.set_cons_zero, List.set_cons_succ] at hK; go_simp; exact hK _ (Ext.refl _)); simp only [Act.put, List.setIfInBounds_toArray, List.set_cons_zero, List.set_cons_succ])
  (refine At.det ?_ (fun val w1 hR _ K hK => ?_) ?_; rotate_left; (simp only [Act.put, List.setIfInBounds_toArray, List.set_cons_zero, List.set_cons_succ] at hK; go_simp; exact hK _ (Ext.refl _)); simp only [Act.put, List.setIfInBounds_toArray, List.set_cons_zero, List.set_cons_succ])
  (refine At.det ?_ (fun val w1 hR _ K hK => ?_) ?_; rotate_left; (have g1 := (F.out _ hR).1; have g2 := (F.out _ hR).2; simp only [Act.put, List.setIfInBounds_toArray, List.set_cons_zero, List.set_cons_succ] at hK; go_simp; exact hK _ (Ext.refl _)); simp only [Act.put, List.setIfInBounds_toArray, List.set_cons_zero, List.set_cons_succ])
  (refine At.det ?_ (fun val w1 hR _ K hK => ?_) ?_; rotate_left; (simp only [Act.put, List.setIfInBounds_toArray, List.set_cons_zero, List.set_cons_succ] at hK; go_simp; exact hK _ (Ext.refl _)); simp only [Act.put, List.setIfInBounds_toArray, List.set_cons_zero, List.set_cons_succ])
  (refine At.det ?_ (fun val w1 hR _ K hK => ?_) ?_; rotate_left; (simp only [Act.put, List.setIfInBounds_toArray, List.set_cons_zero, List.set_cons_succ] at hK; go_simp; exact hK _ (Ext.refl _)); simp only [Act.put, List.setIfInBounds_toArray, List.set_cons_zero, List.set_cons_succ])
  (refine At.det ?_ (fun val w1 hR _ K hK => ?_) ?_; rotate_left; (simp only [Act.put, List.setIfInBounds_toArray, List.set_cons_zero, List.set_cons_succ] at hK; go_simp; exact hK _ (Ext.refl _)); simp only [Act.put, List.setIfInBounds_toArray, List.set_cons_zero, List.set_cons_succ])
  (refine At.det ?_ (fun val w1 hR _ K hK => ?_) ?_; rotate_left; (have g1 := (F.out _ hR).1; have g2 := (F.out _ hR).2; simp only [Act.put, List.setIfInBounds_toArray, List.set_cons_zero, List.set_cons_succ] at hK; go_simp; exact hK _ (Ext.refl _)); simp only [Act.put, List.setIfInBounds_toArray, List.set_cons_zero, List.set_cons_succ])
  refine At.last rfl (fun val w1 hR hF hN => ?_)
  have hx := hR.of_drew
  have HX := Lib.hid hx
  clear hR hF hN F hx
  go_wp2_with fail
  refine (concat_any plain dear w1.heap.size (.slice ap plain.length kp) (.slice ad dear.length kd) _ (Blk.new w1 153 #[.slice ap plain.length kp, .slice ad dear.length kd]) ((HT.out.2.1.ext HX.out).ext ((Ext.refl w1).alloc _)) ((HT.out.2.2.1.ext HX.out).ext ((Ext.refl w1).alloc _)) HL.out).mono ?_
  rintro e w2 ⟨v, rfl, ho, hx2⟩
  have HO := Lib.hid (And.intro ho hx2)
  clear ho hx2
  go_wp2_with fail
  go_ret
  have hw : Ext w w2 := (HX.out.trans ((Ext.refl w1).alloc _)).trans HO.out.2
  exact ⟨v, rfl, OwnI.of_ints HO.out.1.ints (fun g hg => Nat.le_trans (Nat.le_trans HX.out.size (by simp)) (HO.out.1.fresh hg)), hw⟩

/-- The key that goes: the first that isn't pinned. -/
def vict (pins : Int → Option Value) (l : List Int) : Option Int := l.find? (fun k => (pins k).isNone)
def victV : Option Int → Value | some k => .tuple #[.int .i64 k, .bool true] | none => .tuple #[.int .i64 0, .bool false]
theorem find_step {p : Int → Bool} {l : List Int} {j : Nat} (hj : j < l.length) (hn : ∀ x ∈ l.take j, p x = false) (hp : p (l.getD j 0) = true) : l.find? p = some (l.getD j 0) := by
  induction l generalizing j with
  | nil => simp at hj
  | cons x l ih =>
    cases j with
    | zero => simp at hp; simp [hp]
    | succ j =>
      simp only [List.take_succ_cons, List.mem_cons, forall_eq_or_imp] at hn
      rw [List.find?_cons, hn.1]
      simp at hj hp
      simpa using ih hj hn.2 (by simpa using hp)

set_option maxRecDepth 100000 in
set_option maxHeartbeats 2000000 in
theorem victim_any (bt : Nat) (most limit pn : Nat) (plain dear : List Int) (pins : Int → Option Value) (S : Nat → Prop) (w : World) (h : TurnAt w bt most limit plain dear pins pn S) (hl : plain.length + dear.length ≤ 1000)
    (hwf : ∀ k ∈ plain ++ dear, (Lit.int .i64 k).wf = true) (hpv : ∀ k v, pins k = some v → v = .bool true) :
    Calls Tryd.prog 103 #[.pointer (some ⟨bt, 0, none⟩)] w fun e w' => e = .returned (victV (vict pins (plain ++ dear))) ∧ Ext w w' := by
  have HO := Lib.hid (order_any bt most limit pn plain dear pins S w h hl)
  obtain ⟨vp, vd, bp, h⟩ := h
  have HT := Lib.hid h
  have HW := Lib.hid hwf
  have HP := Lib.hid hpv
  have hlen : (plain ++ dear).length ≤ 1000 := by simpa using hl
  clear h hl hwf hpv
  generalize plain ++ dear = l at *
  have HLen := Lib.hid hlen
  go_enter Tryd.func103, Tryd.ntmps103
  go_wp2_with fail
  refine HO.out.mono ?_
  rintro e w2 ⟨v, rfl, ho, hx⟩
  obtain ⟨vb, vc, rfl⟩ := Ints_slice ho.ints
  have HH := Lib.hid (And.intro ho.ints hx)
  generalize hnn : l.length = n at *
  have HNN := Lib.hid hnn
  clear ho hx hnn
  go_wp2_with fail
  go_loopw [9] (fun i wr => w2 = wr ∧ ∃ j : Nat, j ≤ n ∧ i = .int .i64 j ∧ ∀ x ∈ l.take j, (pins x).isNone = false) (fun i _ => n - (intOf i).toNat)
  case atStart => exact ⟨rfl, 0, by omega, rfl, by simp⟩
  case round =>
    obtain ⟨rfl, j, hj, rfl, hnone⟩ := hrel
    have HNo := Lib.hid hnone
    clear hnone
    by_cases hlt : j < n
    · have hjl : j < l.length := by have := HNN.out; omega
      obtain ⟨g, rfl⟩ : ∃ g, vb = some ⟨g, 0, none⟩ := by
        rcases HH.out.1.form with ⟨hv, h0⟩ | ⟨g, cap, hv, _⟩
        · rw [h0] at hjl; simp at hjl
        · simp only [Value.slice.injEq] at hv
          exact ⟨g, hv.1⟩
      have hcell := Ints.cell HH.out.1 hjl
      have hkm : l.getD j 0 ∈ l := by
        rw [List.getD_eq_getElem?_getD, List.getElem?_eq_getElem hjl]
        exact List.getElem_mem hjl
      have HF := Lib.hid (fun hp => find_step (p := fun k => (pins k).isNone) hjl HNo.out hp)
      have hstep : ∀ (hp : (pins (l.getD j 0)).isNone = false), ∀ x ∈ l.take (j + 1), (pins x).isNone = false := fun hp x hx => by
        rw [List.take_add_one, List.mem_append] at hx
        rcases hx with hx | hx
        · exact HNo.out x hx
        · rw [List.getElem?_eq_getElem hjl] at hx
          simp at hx
          rw [hx]
          rw [List.getD_eq_getElem?_getD, List.getElem?_eq_getElem hjl] at hp
          exact hp
      have HSt := Lib.hid hstep
      have hwk := HW.out _ hkm
      clear hstep hkm
      generalize l.getD j 0 = k at *
      have hrun := (HT.out.2.2.2.1.ext HH.out.2).lookup (t := 152) (e := 4) Tryd.underlying3 Tryd.underlying152 (z := .bool false) (by kernel_rfl) hwk
      have c4 := (HT.out.1.ext HH.out.2).cells 4
      simp at c4
      have j0 : (0 : Int) ≤ (j : Int) := by omega
      have j1 : (j : Int) < (n : Int) := by omega
      have j2 : (n : Int) ≤ 1000 := by have := HLen.out; omega
      clear hjl hwk
      rcases hpk : pins k with _ | u
      · rw [hpk] at hrun
        simp only [Option.getD_none] at hrun
        have HPK := Lib.hid hpk
        clear hpk
        go_wp2_with fail
        go_ret2
        refine ⟨?_, HH.out.2⟩
        have := HF.out (by rw [HPK.out]; rfl)
        unfold vict
        rw [this]
        rfl
      · obtain rfl := HP.out k u hpk
        rw [hpk] at hrun
        simp only [Option.getD_some] at hrun
        have HPK := Lib.hid hpk
        clear hpk
        go_wp2_with fail
        exact ⟨⟨trivial, j + 1, by omega, by go_num, HSt.out (by rw [HPK.out]; rfl)⟩, by simp [intOf]; omega⟩
    · have hjn : j = n := by omega
      subst hjn
      have HV := Lib.hid (show vict pins l = none from by
        unfold vict
        rw [List.find?_eq_none]
        intro x hx
        have h1 := HNo.out x (by rw [List.take_of_length_le (by rw [HNN.out]; exact Nat.le_refl _)]; exact hx)
        simp [h1])
      go_wp2_with fail
      go_ret2
      exact ⟨by rw [HV.out]; rfl, HH.out.2⟩
end Go.Proofs.YtghefhmncpmflaaDoor
