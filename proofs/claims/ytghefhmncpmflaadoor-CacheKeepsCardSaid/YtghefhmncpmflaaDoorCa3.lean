/-
  Contracts of the turn: which keys are there.
-/
import Derived.Test.YtghefhmncpmflaaDoorCa2
namespace Go.Proofs.YtghefhmncpmflaaDoor
open Go.RowKit Go.Rg

def Grow (S : Nat → Prop) (w w' : World) : Nat → Prop := fun k => S k ∨ (w.heap.size ≤ k ∧ k < w'.heap.size)
/-- A turn lies at block bt; S holds all its blocks. -/
def TurnAt (w : World) (bt : Nat) (most limit : Nat) (plain dear : List Int) (pins : Int → Option Value) (pn : Nat) (S : Nat → Prop) : Prop :=
  ∃ vp vd bp, Blk w bt 155 #[.int .i64 most, .int .i64 limit, vp, vd, .map (some bp)] ∧ Ints 3 w vp plain ∧ Ints 3 w vd dear ∧ MapI Tryd.prog 3 w bp pn pins ∧
    (S bt ∧ S bp ∧ bt ≠ bp) ∧ (∀ g, vp.ownBlock = some g → S g ∧ g ≠ bt ∧ g ≠ bp ∧ vd.ownBlock ≠ some g) ∧ (∀ g, vd.ownBlock = some g → S g ∧ g ≠ bt ∧ g ≠ bp)
section
variable {w w' : World} {bt most limit pn : Nat} {plain dear : List Int} {pins : Int → Option Value} {S T : Nat → Prop}
theorem TurnAt.mono (h : TurnAt w bt most limit plain dear pins pn S) (hST : ∀ k, k < w.heap.size → S k → T k) : TurnAt w bt most limit plain dear pins pn T := by
  obtain ⟨vp, vd, bp, h1, h2, h3, h4, ⟨h5, h6, h7⟩, h8, h9⟩ := h
  exact ⟨vp, vd, bp, h1, h2, h3, h4, ⟨hST _ h1.lt h5, hST _ h4.lt h6, h7⟩, fun g hg => ⟨hST g (h2.lt hg) (h8 g hg).1, (h8 g hg).2⟩, fun g hg => ⟨hST g (h3.lt hg) (h9 g hg).1, (h9 g hg).2⟩⟩
theorem TurnAt.chg (h : TurnAt w bt most limit plain dear pins pn S) {U : Nat → Prop} (hc : Chg U w w') (hU : ∀ k, S k → ¬ U k) : TurnAt w' bt most limit plain dear pins pn S := by
  obtain ⟨vp, vd, bp, h1, h2, h3, h4, ⟨h5, h6, h7⟩, h8, h9⟩ := h
  exact ⟨vp, vd, bp, hc.blk h1 (hU _ h5), h2.chg hc (fun g hg => hU _ (h8 g hg).1), h3.chg hc (fun g hg => hU _ (h9 g hg).1), h4.chg hc (hU _ h6), ⟨h5, h6, h7⟩, h8, h9⟩
theorem TurnAt.ext (h : TurnAt w bt most limit plain dear pins pn S) (he : Ext w w') : TurnAt w' bt most limit plain dear pins pn S :=
  h.chg (U := fun _ => False) (Chg.of_ext he) (fun _ _ hf => hf)
end

theorem turnNew_any (most dear : Nat) (h1 : 1 ≤ most) (h2 : most ≤ 64) (h3 : dear < most) (w : World) :
    Calls Tryd.prog 59 #[.int .i64 most, .int .i64 dear] w fun e w' => ∃ bt, e = .returned (.tuple #[.pointer (some ⟨bt, 0, none⟩), .int .i64 0]) ∧
      TurnAt w' bt most dear [] [] (fun _ => none) 0 (fun k => w.heap.size ≤ k ∧ k < w'.heap.size) ∧ Ext w w' := by
  have d1 : decide ((most : Int) < 1) = false := by simp; omega
  have d2 : decide (64 < (most : Int)) = false := by simp; omega
  have d3 : decide ((dear : Int) < 0) = false := by simp
  have d4 : decide (most ≤ dear) = false := by simp; omega
  have hmm := @run_makeMap Tryd.prog
  go_enter Tryd.func59, Tryd.ntmps59
  go_wp2
  exact bodyPost_ret (v := .tuple #[.pointer (some ⟨w.heap.size + 1, 0, none⟩), .int .i64 0]) (by simp [results, Tryd.results59, go_sem]) rfl ⟨w.heap.size + 1, rfl, ⟨.slice none 0 0, .slice none 0 0, w.heap.size, Blk.new' (by simp) 155 _, Ints.nil 3 _, Ints.nil 3 _, (MapI.made Tryd.prog 3 w).ext ((Ext.refl _).alloc _), ⟨by simp, by simp; omega, by omega⟩, (fun g hg => by cases hg), (fun g hg => by cases hg)⟩, ((Ext.refl w).alloc _).alloc _⟩

theorem has_any' (bt : Nat) (key : Int) (most limit pn : Nat) (plain dear : List Int) (pins : Int → Option Value) (S : Nat → Prop) (w : World) (h : TurnAt w bt most limit plain dear pins pn S) :
    Calls Tryd.prog 90 #[.pointer (some ⟨bt, 0, none⟩), .int .i64 key] w fun e w' => e = .returned (.tuple #[.bool (dear.contains key || plain.contains key), .bool (dear.contains key)]) ∧ w' = w := by
  obtain ⟨vp, vd, bp, B, hp, hd, -⟩ := h
  have HP := Lib.hid (contains_any vp plain key w hp)
  have HD := Lib.hid (contains_any vd dear key w hd)
  have c2 := B.cells 2
  have c3 := B.cells 3
  simp at c2 c3
  clear hp hd B
  generalize plain.contains key = p at *
  generalize dear.contains key = q at *
  cases q
  all_goals
    go_enter Tryd.func90, Tryd.ntmps90
    go_wp2_with fail
    refine HD.out.mono ?_
    rintro e w1 ⟨rfl, rfl⟩
    go_wp2_with fail
  · refine HP.out.mono ?_
    rintro e w1 ⟨rfl, rfl⟩
    go_wp2_with fail
    go_ret2
    exact ⟨by simp, rfl⟩
  · go_ret2
    exact ⟨by simp, rfl⟩

set_option maxHeartbeats 1000000 in
theorem tlen_any (bt : Nat) (most limit pn : Nat) (plain dear : List Int) (pins : Int → Option Value) (S : Nat → Prop) (w : World) (h : TurnAt w bt most limit plain dear pins pn S) (hl : plain.length + dear.length ≤ 1000) :
    Calls Tryd.prog 110 #[.pointer (some ⟨bt, 0, none⟩)] w fun e w' => e = .returned (.tuple #[.int .i64 (plain.length + dear.length : Nat), .int .i64 dear.length]) ∧ Ext w w' := by
  obtain ⟨vp, vd, bp, B, hp, hd, -⟩ := h
  have hvp : ∃ b c, vp = .slice b plain.length c := by rcases hp.form with ⟨rfl, h0⟩ | ⟨g, cap, rfl, _⟩; exact ⟨none, 0, by rw [h0]; rfl⟩; exact ⟨_, _, rfl⟩
  have hvd : ∃ b c, vd = .slice b dear.length c := by rcases hd.form with ⟨rfl, h0⟩ | ⟨g, cap, rfl, _⟩; exact ⟨none, 0, by rw [h0]; rfl⟩; exact ⟨_, _, rfl⟩
  clear hp hd
  obtain ⟨b1, k1, rfl⟩ := hvp
  obtain ⟨b2, k2, rfl⟩ := hvd
  generalize plain.length = n at *
  generalize dear.length = m at *
  have hw : IntKind.i64.wrap ((n : Int) + m) = ((n + m : Nat) : Int) := by rw [IntWalk.i64_in _ (by omega)]; simp
  go_enter Tryd.func110, Tryd.ntmps110
  go_upto_region 3 with (fail)
  have F := Lib.hid (fun (w1 : World) (hr : Ext w.drew w1) => And.intro ((B.ext hr.of_drew).cells 2) ((B.ext hr.of_drew).cells 3))
  simp at F
  refine Seq.drawn (k := 17) (R := Ext) (by kernel_rfl) (by decide) (by kernel_rfl) (fun _ _ _ => Ext.trans) (fun _ _ h => h.size) Ext.refl (At.start ?_)
  (refine At.det ?_ (fun val w1 hR _ K hK => ?_) ?_; rotate_left; (simp only [Act.put, List.setIfInBounds_toArray, List.set_cons_zero, List.set_cons_succ] at hK; go_simp; exact hK _ (Ext.refl _)); simp only [Act.put, List.setIfInBounds_toArray, List.set_cons_zero, List.set_cons_succ])
  (refine At.det ?_ (fun val w1 hR _ K hK => ?_) ?_; rotate_left; (simp only [Act.put, List.setIfInBounds_toArray, List.set_cons_zero, List.set_cons_succ] at hK; go_simp; exact hK _ (Ext.refl _)); simp only [Act.put, List.setIfInBounds_toArray, List.set_cons_zero, List.set_cons_succ])
  (refine At.det ?_ (fun val w1 hR _ K hK => ?_) ?_; rotate_left; (simp only [Act.put, List.setIfInBounds_toArray, List.set_cons_zero, List.set_cons_succ] at hK; go_simp; exact hK _ (Ext.refl _)); simp only [Act.put, List.setIfInBounds_toArray, List.set_cons_zero, List.set_cons_succ])
  (refine At.det ?_ (fun val w1 hR _ K hK => ?_) ?_; rotate_left; (have g1 := (F.out _ hR).1; have g2 := (F.out _ hR).2; simp only [Act.put, List.setIfInBounds_toArray, List.set_cons_zero, List.set_cons_succ] at hK; go_simp; exact hK _ (Ext.refl _)); simp only [Act.put, List.setIfInBounds_toArray, List.set_cons_zero, List.set_cons_succ])
  (refine At.det ?_ (fun val w1 hR _ K hK => ?_) ?_; rotate_left; (simp only [Act.put, List.setIfInBounds_toArray, List.set_cons_zero, List.set_cons_succ] at hK; go_simp; exact hK _ (Ext.refl _)); simp only [Act.put, List.setIfInBounds_toArray, List.set_cons_zero, List.set_cons_succ])
  (refine At.det ?_ (fun val w1 hR _ K hK => ?_) ?_; rotate_left; (simp only [Act.put, List.setIfInBounds_toArray, List.set_cons_zero, List.set_cons_succ] at hK; go_simp; exact hK _ (Ext.refl _)); simp only [Act.put, List.setIfInBounds_toArray, List.set_cons_zero, List.set_cons_succ])
  (refine At.det ?_ (fun val w1 hR _ K hK => ?_) ?_; rotate_left; (simp only [Act.put, List.setIfInBounds_toArray, List.set_cons_zero, List.set_cons_succ] at hK; go_simp; exact hK _ (Ext.refl _)); simp only [Act.put, List.setIfInBounds_toArray, List.set_cons_zero, List.set_cons_succ])
  (refine At.det ?_ (fun val w1 hR _ K hK => ?_) ?_; rotate_left; (simp only [Act.put, List.setIfInBounds_toArray, List.set_cons_zero, List.set_cons_succ] at hK; go_simp; exact hK _ (Ext.refl _)); simp only [Act.put, List.setIfInBounds_toArray, List.set_cons_zero, List.set_cons_succ])
  (refine At.det ?_ (fun val w1 hR _ K hK => ?_) ?_; rotate_left; (have g1 := (F.out _ hR).1; have g2 := (F.out _ hR).2; simp only [Act.put, List.setIfInBounds_toArray, List.set_cons_zero, List.set_cons_succ] at hK; go_simp; exact hK _ (Ext.refl _)); simp only [Act.put, List.setIfInBounds_toArray, List.set_cons_zero, List.set_cons_succ])
  (refine At.det ?_ (fun val w1 hR _ K hK => ?_) ?_; rotate_left; (simp only [Act.put, List.setIfInBounds_toArray, List.set_cons_zero, List.set_cons_succ] at hK; go_simp; exact hK _ (Ext.refl _)); simp only [Act.put, List.setIfInBounds_toArray, List.set_cons_zero, List.set_cons_succ])
  (refine At.det ?_ (fun val w1 hR _ K hK => ?_) ?_; rotate_left; (simp only [Act.put, List.setIfInBounds_toArray, List.set_cons_zero, List.set_cons_succ] at hK; go_simp; exact hK _ (Ext.refl _)); simp only [Act.put, List.setIfInBounds_toArray, List.set_cons_zero, List.set_cons_succ])
  (refine At.det ?_ (fun val w1 hR _ K hK => ?_) ?_; rotate_left; (simp only [Act.put, List.setIfInBounds_toArray, List.set_cons_zero, List.set_cons_succ] at hK; go_simp; exact hK _ (Ext.refl _)); simp only [Act.put, List.setIfInBounds_toArray, List.set_cons_zero, List.set_cons_succ])
  (refine At.det ?_ (fun val w1 hR _ K hK => ?_) ?_; rotate_left; (simp only [Act.put, List.setIfInBounds_toArray, List.set_cons_zero, List.set_cons_succ] at hK; go_simp; exact hK _ (Ext.refl _)); simp only [Act.put, List.setIfInBounds_toArray, List.set_cons_zero, List.set_cons_succ])
  (refine At.det ?_ (fun val w1 hR _ K hK => ?_) ?_; rotate_left; (simp only [Act.put, List.setIfInBounds_toArray, List.set_cons_zero, List.set_cons_succ] at hK; go_simp; exact hK _ (Ext.refl _)); simp only [Act.put, List.setIfInBounds_toArray, List.set_cons_zero, List.set_cons_succ])
  (refine At.det ?_ (fun val w1 hR _ K hK => ?_) ?_; rotate_left; (have g1 := (F.out _ hR).1; have g2 := (F.out _ hR).2; simp only [Act.put, List.setIfInBounds_toArray, List.set_cons_zero, List.set_cons_succ] at hK; go_simp; exact hK _ (Ext.refl _)); simp only [Act.put, List.setIfInBounds_toArray, List.set_cons_zero, List.set_cons_succ])
  (refine At.det ?_ (fun val w1 hR _ K hK => ?_) ?_; rotate_left; (simp only [Act.put, List.setIfInBounds_toArray, List.set_cons_zero, List.set_cons_succ] at hK; go_simp; exact hK _ (Ext.refl _)); simp only [Act.put, List.setIfInBounds_toArray, List.set_cons_zero, List.set_cons_succ])
  (refine At.det ?_ (fun val w1 hR _ K hK => ?_) ?_; rotate_left; (simp only [Act.put, List.setIfInBounds_toArray, List.set_cons_zero, List.set_cons_succ] at hK; go_simp; exact hK _ (Ext.refl _)); simp only [Act.put, List.setIfInBounds_toArray, List.set_cons_zero, List.set_cons_succ])
  refine At.last rfl (fun val w1 hR _ _ => ?_)
  have hx := hR.of_drew
  clear F hR
  go_wp2
  go_ret2
  exact ⟨rfl, hx⟩
end Go.Proofs.YtghefhmncpmflaaDoor
