/-
  The contract of the law's wakes: true.
-/
import Derived.Test.YtghefhmncpmflaaDoorPlan10
namespace Go.Proofs.YtghefhmncpmflaaDoor
open Go.RowKit Go.Rg

theorem of_1 (b cap : Nat) (w : World) (hb : Blk w b 3 #[.int .i64 1]) : Calls Tryd.prog 55 #[.slice (some ⟨b, 0, none⟩) 1 cap] w fun e w' => e = .returned (mset 2) ∧ Ext w w' := by
  have h := of_any [1] (by decide) (by decide) b cap w (fun j hj => by
    have hj2 : j < 1 := hj
    rw [hb.cells]
    match j, hj2 with
    | 0, _ => rfl)
  exact h
theorem of_145 (b cap : Nat) (w : World) (hb : Blk w b 3 #[.int .i64 1, .int .i64 4, .int .i64 5]) : Calls Tryd.prog 55 #[.slice (some ⟨b, 0, none⟩) 3 cap] w fun e w' => e = .returned (mset 50) ∧ Ext w w' := by
  have h := of_any [1, 4, 5] (by decide) (by decide) b cap w (fun j hj => by
    have hj2 : j < 3 := hj
    rw [hb.cells]
    match j, hj2 with
    | 0, _ => rfl
    | 1, _ => rfl
    | 2, _ => rfl)
  exact h
theorem of_023 (b cap : Nat) (w : World) (hb : Blk w b 3 #[.int .i64 0, .int .i64 2, .int .i64 3]) : Calls Tryd.prog 55 #[.slice (some ⟨b, 0, none⟩) 3 cap] w fun e w' => e = .returned (mset 13) ∧ Ext w w' := by
  have h := of_any [0, 2, 3] (by decide) (by decide) b cap w (fun j hj => by
    have hj2 : j < 3 := hj
    rw [hb.cells]
    match j, hj2 with
    | 0, _ => rfl
    | 1, _ => rfl
    | 2, _ => rfl)
  exact h

theorem eql_plan1 (w : World) : (binOp .eql 45 (.agg #[.int .i64 2, .int .u64 50, .int .u64 0, .int .u64 0, .int .u64 0]) (.agg #[.int .i64 2, .int .u64 50, .int .u64 0, .int .u64 0, .int .u64 0])).run Tryd.prog w = .ok (.bool true) w := by kernel_rfl
theorem eql_plan2 (w : World) : (binOp .eql 45 (.agg #[.int .i64 1, .int .u64 13, .int .u64 0, .int .u64 0, .int .u64 0]) (.agg #[.int .i64 1, .int .u64 13, .int .u64 0, .int .u64 0, .int .u64 0])).run Tryd.prog w = .ok (.bool true) w := by kernel_rfl

set_option maxHeartbeats 4000000 in
set_option maxRecDepth 100000 in
theorem wakes_any (w : World) (hn : NamesAt w) : Calls Tryd.prog 16 #[] w fun e w' => e = .returned (.bool true) ∧ Ext w w' := by
  have O1 := Lib.hid of_1
  have O2 := Lib.hid of_145
  have O3 := Lib.hid of_023
  have HW := Lib.hid ways_wakes
  have HC := Lib.hid choose_wakes
  have HN := Lib.hid hn
  clear hn
  unfold mset stv plc at *
  go_enter Tryd.func16, Tryd.ntmps16
  go_wp2_with fail
  refine (O1.out _ _ _ (Blk.new _ _ _)).mono ?_
  rintro e w1 ⟨rfl, h1⟩
  have hx : Ext w w1 := ((Ext.refl w).alloc _).trans h1
  clear h1
  go_wp2_with fail
  refine (O1.out _ _ _ (Blk.new _ _ _)).mono ?_
  rintro e w2 ⟨rfl, h2⟩
  replace hx := (hx.alloc _).trans h2
  clear h2
  go_upto_region 2 with ((with_reducible refine wpList_store_mid rfl 30 _ _ rfl w2.heap.size 0 (stc 4 2 2 0 0) ?_ ?_ ((Blk.new w2 30 #[.int .i64 0, .int .u64 0, .int .u64 0, .int .u64 0, .int .u64 0, .int .u64 0, .int .u64 0, .int .u64 0, .int .u64 0, .int .u64 0, .int .u64 0, .int .u64 0, .int .u64 0, .int .u64 0, .int .u64 0, .int .u64 0, .int .u64 0]).there (Nat.le_refl _)) ?_ ?_ ?_); (exact rfl); (exact rfl); (kernel_rfl); (kernel_rfl))
  refine wp_forget (fun wx => Ext w wx ∧ Blk wx w2.heap.size 30 (stc 4 2 2 0 0)) ⟨(hx.alloc _).setCells (by have := hx.size; omega) _ _, (Blk.new w2 30 #[.int .i64 0, .int .u64 0, .int .u64 0, .int .u64 0, .int .u64 0, .int .u64 0, .int .u64 0, .int .u64 0, .int .u64 0, .int .u64 0, .int .u64 0, .int .u64 0, .int .u64 0, .int .u64 0, .int .u64 0, .int .u64 0, .int .u64 0]).setAll rfl⟩ ?_
  have hb0 := hx.size
  clear hx
  generalize w2.heap.size = b at *
  rintro w3 ⟨hx, B1⟩
  have B1h : w3.heap[b]? = some (.cells (stc 4 2 2 0 0) 30 (0, 0)) := B1
  go_wp2_with ((with_reducible refine wpList_load_row rfl 30 _ rfl b ?_ 30 (stc 4 2 2 0 0) (0, 0) _ B1h Tryd.underlying30 ?_ ?_ ?_); (exact rfl); (exact rfl); (kernel_rfl))
  refine (HW.out _).mono ?_
  rintro e w4 ⟨u, rfl, hown, h4⟩
  replace hx := hx.trans h4
  have B1' := B1.ext h4
  clear h4 B1 B1h
  obtain ⟨g, cap, rfl, hg, hcell⟩ : ∃ g cap, u = .slice (some ⟨g, 0, none⟩) 3 cap ∧ g < w4.heap.size ∧ ∀ j, j < 15 → w4.cell? ⟨g, j, none⟩ = (plansC [(1, 13), (2, 50), (3, 63)])[j]? := by
    have h2 := hown.2
    rcases h2 with ⟨_, h0⟩ | ⟨g, cap, cur, hu, _, hg, _⟩
    · exact absurd h0 (by decide)
    · subst hu
      exact ⟨g, cap, rfl, (Array.getElem?_eq_some_iff.1 hg).1, fun j hj => World.ownsRow.cellAt hown j hj⟩
  have d0 : w4.cell? ⟨g, 5, none⟩ = some (.int .i64 2) := (hcell 5 (by decide)).trans rfl
  have d1 : w4.cell? ⟨g, 6, none⟩ = some (.int .u64 50) := (hcell 6 (by decide)).trans rfl
  have d2 : w4.cell? ⟨g, 7, none⟩ = some (.int .u64 0) := (hcell 7 (by decide)).trans rfl
  have d3 : w4.cell? ⟨g, 8, none⟩ = some (.int .u64 0) := (hcell 8 (by decide)).trans rfl
  have d4 : w4.cell? ⟨g, 9, none⟩ = some (.int .u64 0) := (hcell 9 (by decide)).trans rfl
  have HD := Lib.hid (fun (wx : World) (hr : Ext w4 wx) => And.intro ((hr.cell _ (by rw [d0]; rfl)).trans d0) (And.intro ((hr.cell _ (by rw [d1]; rfl)).trans d1) (And.intro ((hr.cell _ (by rw [d2]; rfl)).trans d2) (And.intro ((hr.cell _ (by rw [d3]; rfl)).trans d3) ((hr.cell _ (by rw [d4]; rfl)).trans d4)))))
  clear d0 d1 d2 d3 d4 hcell hown
  have B1h : w4.heap[b]? = some (.cells (stc 4 2 2 0 0) 30 (0, 0)) := B1'
  go_wp2_with ((with_reducible refine wpList_load_row rfl 30 _ rfl b ?_ 30 (stc 4 2 2 0 0) (0, 0) _ B1h Tryd.underlying30 ?_ ?_ ?_); (exact rfl); (exact rfl); (kernel_rfl))
  refine (HC.out _).mono ?_
  rintro e w5 ⟨rfl, h5⟩
  replace hx := hx.trans h5
  clear B1' B1h
  go_upto_region 4 with (fail)
  refine wp_forget (fun wx => Ext w wx ∧ Ext w4 wx ∧ Blk wx w5.heap.size 45 #[.int .i64 1, .int .u64 13, .int .u64 0, .int .u64 0, .int .u64 0]) ⟨hx.alloc _, h5.alloc _, Blk.new w5 45 _⟩ ?_
  clear hx h5
  generalize w5.heap.size = p at *
  rintro w6 ⟨hx, h6, B5⟩
  have F := Lib.hid (fun (wx : World) (hr : Ext w6.drew wx) => And.intro (B5.ext hr.of_drew).cells (HD.out wx (h6.trans hr.of_drew)))
  have FN := Lib.hid (fun (wx : World) (hr : Ext w6.drew wx) => HN.out.ext (hx.trans hr.of_drew))
  have q1 := eql_plan1
  have q2 := eql_plan2
  refine Seq.drawn (k := 34) (R := Ext) (by kernel_rfl) (by decide) (by kernel_rfl) (fun _ _ _ => Ext.trans) (fun _ _ h => h.size) Ext.refl (At.start ?_)
  (refine At.det ?_ (fun val w1 hR _ K hK => ?_) ?_; rotate_left; (simp only [Act.put, List.setIfInBounds_toArray, List.set_cons_zero, List.set_cons_succ] at hK; go_simp; exact hK _ (Ext.refl _)); simp only [Act.put, List.setIfInBounds_toArray, List.set_cons_zero, List.set_cons_succ])
  (refine At.det ?_ (fun val w1 hR _ K hK => ?_) ?_; rotate_left; (simp only [Act.put, List.setIfInBounds_toArray, List.set_cons_zero, List.set_cons_succ] at hK; go_simp; exact hK _ (Ext.refl _)); simp only [Act.put, List.setIfInBounds_toArray, List.set_cons_zero, List.set_cons_succ])
  (refine At.det ?_ (fun val w1 hR _ K hK => ?_) ?_; rotate_left; (simp only [Act.put, List.setIfInBounds_toArray, List.set_cons_zero, List.set_cons_succ] at hK; go_simp; exact hK _ (Ext.refl _)); simp only [Act.put, List.setIfInBounds_toArray, List.set_cons_zero, List.set_cons_succ])
  (refine At.det ?_ (fun val w1 hR _ K hK => ?_) ?_; rotate_left; (simp only [Act.put, List.setIfInBounds_toArray, List.set_cons_zero, List.set_cons_succ] at hK; go_simp; exact hK _ (Ext.refl _)); simp only [Act.put, List.setIfInBounds_toArray, List.set_cons_zero, List.set_cons_succ])
  (refine At.det ?_ (fun val w1 hR _ K hK => ?_) ?_; rotate_left; (simp only [Act.put, List.setIfInBounds_toArray, List.set_cons_zero, List.set_cons_succ] at hK; go_simp; exact hK _ (Ext.refl _)); simp only [Act.put, List.setIfInBounds_toArray, List.set_cons_zero, List.set_cons_succ])
  (refine At.det ?_ (fun val w1 hR _ K hK => ?_) ?_; rotate_left; (simp only [Act.put, List.setIfInBounds_toArray, List.set_cons_zero, List.set_cons_succ] at hK; go_simp; exact hK _ (Ext.refl _)); simp only [Act.put, List.setIfInBounds_toArray, List.set_cons_zero, List.set_cons_succ])
  (refine At.det ?_ (fun val w1 hR _ K hK => ?_) ?_; rotate_left; (simp only [Act.put, List.setIfInBounds_toArray, List.set_cons_zero, List.set_cons_succ] at hK; go_simp; exact hK _ (Ext.refl _)); simp only [Act.put, List.setIfInBounds_toArray, List.set_cons_zero, List.set_cons_succ])
  (refine At.det ?_ (fun val w1 hR _ K hK => ?_) ?_; rotate_left; (simp only [Act.put, List.setIfInBounds_toArray, List.set_cons_zero, List.set_cons_succ] at hK; go_simp; exact hK _ (Ext.refl _)); simp only [Act.put, List.setIfInBounds_toArray, List.set_cons_zero, List.set_cons_succ])
  (refine At.det ?_ (fun val w1 hR _ K hK => ?_) ?_; rotate_left; (simp only [Act.put, List.setIfInBounds_toArray, List.set_cons_zero, List.set_cons_succ] at hK; go_simp; exact hK _ (Ext.refl _)); simp only [Act.put, List.setIfInBounds_toArray, List.set_cons_zero, List.set_cons_succ])
  (refine At.det ?_ (fun val w1 hR _ K hK => ?_) ?_; rotate_left; (simp only [Act.put, List.setIfInBounds_toArray, List.set_cons_zero, List.set_cons_succ] at hK; go_simp; exact hK _ (Ext.refl _)); simp only [Act.put, List.setIfInBounds_toArray, List.set_cons_zero, List.set_cons_succ])
  (refine At.det ?_ (fun val w1 hR _ K hK => ?_) ?_; rotate_left; (simp only [Act.put, List.setIfInBounds_toArray, List.set_cons_zero, List.set_cons_succ] at hK; go_simp; exact hK _ (Ext.refl _)); simp only [Act.put, List.setIfInBounds_toArray, List.set_cons_zero, List.set_cons_succ])
  (refine At.det ?_ (fun val w1 hR _ K hK => ?_) ?_; rotate_left; (simp only [Act.put, List.setIfInBounds_toArray, List.set_cons_zero, List.set_cons_succ] at hK; go_simp; exact hK _ (Ext.refl _)); simp only [Act.put, List.setIfInBounds_toArray, List.set_cons_zero, List.set_cons_succ])
  (refine At.det ?_ (fun val w1 hR _ K hK => ?_) ?_; rotate_left; (simp only [Act.put, List.setIfInBounds_toArray, List.set_cons_zero, List.set_cons_succ] at hK; go_simp; exact hK _ (Ext.refl _)); simp only [Act.put, List.setIfInBounds_toArray, List.set_cons_zero, List.set_cons_succ])
  (refine At.det ?_ (fun val w1 hR _ K hK => ?_) ?_; rotate_left; (simp only [Act.put, List.setIfInBounds_toArray, List.set_cons_zero, List.set_cons_succ] at hK; go_simp; exact hK _ (Ext.refl _)); simp only [Act.put, List.setIfInBounds_toArray, List.set_cons_zero, List.set_cons_succ])
  (refine At.det ?_ (fun val w1 hR _ K hK => ?_) ?_; rotate_left; (have e0 := (F.out _ hR).2.1; have e1 := (F.out _ hR).2.2.1; have e2 := (F.out _ hR).2.2.2.1; have e3 := (F.out _ hR).2.2.2.2.1; have e4 := (F.out _ hR).2.2.2.2.2; simp only [Act.put, List.setIfInBounds_toArray, List.set_cons_zero, List.set_cons_succ] at hK; go_simp; exact hK _ (Ext.refl _)); simp only [Act.put, List.setIfInBounds_toArray, List.set_cons_zero, List.set_cons_succ])
  (refine At.new (NewSl 0 3 3 #[.int .i64 1, .int .i64 4, .int .i64 5]) NewSl.ext (fun val w1 hR hF K hK => ?_) ?_; (simp only [Act.put, List.setIfInBounds_toArray, List.set_cons_zero, List.set_cons_succ] at hK; go_simp; exact hK _ _ ((Ext.refl _).alloc _) ⟨_, rfl, Nat.le_refl _, by simp⟩ ⟨_, rfl, Nat.zero_le _, Blk.new _ _ _⟩); simp only [Act.put, List.setIfInBounds_toArray, List.set_cons_zero, List.set_cons_succ])
  (refine At.det ?_ (fun val w1 hR hF K hK => ?_) ?_; rotate_left; (simp only [Act.put, List.setIfInBounds_toArray, List.set_cons_zero, List.set_cons_succ] at hK; simp only [Nat.reduceAdd] at hK hF ⊢; have hF2 := hF.2 (by kernel_rfl); clear hF; refine Exists.elim hF2 (fun b3 hb => ?_); have hv := hb.1; have hb3 := hb.2.2; simp only [hv] at hK ⊢; go_simp; (with_reducible refine (O2.out b3 3 _ hb3).mono ?_); rintro e wz ⟨rfl, h2⟩; exact hK _ h2); simp only [Act.put, List.setIfInBounds_toArray, List.set_cons_zero, List.set_cons_succ])
  (refine At.det ?_ (fun val w1 hR _ K hK => ?_) ?_; rotate_left; (simp only [Act.put, List.setIfInBounds_toArray, List.set_cons_zero, List.set_cons_succ] at hK; go_simp; exact hK _ (Ext.refl _)); simp only [Act.put, List.setIfInBounds_toArray, List.set_cons_zero, List.set_cons_succ])
  (refine At.det ?_ (fun val w1 hR _ K hK => ?_) ?_; rotate_left; (simp only [Act.put, List.setIfInBounds_toArray, List.set_cons_zero, List.set_cons_succ] at hK; go_simp; exact hK _ (Ext.refl _)); simp only [Act.put, List.setIfInBounds_toArray, List.set_cons_zero, List.set_cons_succ])
  (refine At.det ?_ (fun val w1 hR _ K hK => ?_) ?_; rotate_left; (simp only [Act.put, List.setIfInBounds_toArray, List.set_cons_zero, List.set_cons_succ] at hK; go_simp; exact hK _ (Ext.refl _)); simp only [Act.put, List.setIfInBounds_toArray, List.set_cons_zero, List.set_cons_succ])
  (refine At.det ?_ (fun val w1 hR _ K hK => ?_) ?_; rotate_left; (simp only [Act.put, List.setIfInBounds_toArray, List.set_cons_zero, List.set_cons_succ] at hK; go_simp; exact hK _ (Ext.refl _)); simp only [Act.put, List.setIfInBounds_toArray, List.set_cons_zero, List.set_cons_succ])
  (refine At.det ?_ (fun val w1 hR _ K hK => ?_) ?_; rotate_left; (have g1 := (F.out _ hR).1; simp only [Act.put, List.setIfInBounds_toArray, List.set_cons_zero, List.set_cons_succ] at hK; go_simp; exact hK _ (Ext.refl _)); simp only [Act.put, List.setIfInBounds_toArray, List.set_cons_zero, List.set_cons_succ])
  (refine At.new (NewSl 0 3 3 #[.int .i64 0, .int .i64 2, .int .i64 3]) NewSl.ext (fun val w1 hR hF K hK => ?_) ?_; (simp only [Act.put, List.setIfInBounds_toArray, List.set_cons_zero, List.set_cons_succ] at hK; go_simp; exact hK _ _ ((Ext.refl _).alloc _) ⟨_, rfl, Nat.le_refl _, by simp⟩ ⟨_, rfl, Nat.zero_le _, Blk.new _ _ _⟩); simp only [Act.put, List.setIfInBounds_toArray, List.set_cons_zero, List.set_cons_succ])
  (refine At.det ?_ (fun val w1 hR hF K hK => ?_) ?_; rotate_left; (simp only [Act.put, List.setIfInBounds_toArray, List.set_cons_zero, List.set_cons_succ] at hK; simp only [Nat.reduceAdd] at hK hF ⊢; have hF2 := hF.2 (by kernel_rfl); clear hF; refine Exists.elim hF2 (fun b3 hb => ?_); have hv := hb.1; have hb3 := hb.2.2; simp only [hv] at hK ⊢; go_simp; (with_reducible refine (O3.out b3 3 _ hb3).mono ?_); rintro e wz ⟨rfl, h2⟩; exact hK _ h2); simp only [Act.put, List.setIfInBounds_toArray, List.set_cons_zero, List.set_cons_succ])
  (refine At.det ?_ (fun val w1 hR _ K hK => ?_) ?_; rotate_left; (simp only [Act.put, List.setIfInBounds_toArray, List.set_cons_zero, List.set_cons_succ] at hK; go_simp; exact hK _ (Ext.refl _)); simp only [Act.put, List.setIfInBounds_toArray, List.set_cons_zero, List.set_cons_succ])
  (refine At.det ?_ (fun val w1 hR _ K hK => ?_) ?_; rotate_left; (simp only [Act.put, List.setIfInBounds_toArray, List.set_cons_zero, List.set_cons_succ] at hK; go_simp; exact hK _ (Ext.refl _)); simp only [Act.put, List.setIfInBounds_toArray, List.set_cons_zero, List.set_cons_succ])
  (refine At.det ?_ (fun val w1 hR _ K hK => ?_) ?_; rotate_left; (simp only [Act.put, List.setIfInBounds_toArray, List.set_cons_zero, List.set_cons_succ] at hK; go_simp; exact hK _ (Ext.refl _)); simp only [Act.put, List.setIfInBounds_toArray, List.set_cons_zero, List.set_cons_succ])
  (refine At.det ?_ (fun val w1 hR _ K hK => ?_) ?_; rotate_left; (simp only [Act.put, List.setIfInBounds_toArray, List.set_cons_zero, List.set_cons_succ] at hK; go_simp; exact hK _ (Ext.refl _)); simp only [Act.put, List.setIfInBounds_toArray, List.set_cons_zero, List.set_cons_succ])
  (refine At.det ?_ (fun val w1 hR _ K hK => ?_) ?_; rotate_left; (simp only [Act.put, List.setIfInBounds_toArray, List.set_cons_zero, List.set_cons_succ] at hK; go_simp; exact hK _ (Ext.refl _)); simp only [Act.put, List.setIfInBounds_toArray, List.set_cons_zero, List.set_cons_succ])
  (refine At.det ?_ (fun val w1 hR _ K hK => ?_) ?_; rotate_left; (have g1 := (F.out _ hR).1; simp only [Act.put, List.setIfInBounds_toArray, List.set_cons_zero, List.set_cons_succ] at hK; go_simp; exact hK _ (Ext.refl _)); simp only [Act.put, List.setIfInBounds_toArray, List.set_cons_zero, List.set_cons_succ])
  (refine At.det ?_ (fun val w1 hR _ K hK => ?_) ?_; rotate_left; (simp only [Act.put, List.setIfInBounds_toArray, List.set_cons_zero, List.set_cons_succ] at hK; go_simp; (with_reducible refine (name_any 1 _ (FN.out _ hR)).mono ?_); rintro e wz ⟨rfl, rfl⟩; exact hK _ (Ext.refl _)); simp only [Act.put, List.setIfInBounds_toArray, List.set_cons_zero, List.set_cons_succ])
  (refine At.det ?_ (fun val w1 hR _ K hK => ?_) ?_; rotate_left; (simp only [Act.put, List.setIfInBounds_toArray, List.set_cons_zero, List.set_cons_succ] at hK; go_simp; exact hK _ (Ext.refl _)); simp only [Act.put, List.setIfInBounds_toArray, List.set_cons_zero, List.set_cons_succ])
  (refine At.det ?_ (fun val w1 hR _ K hK => ?_) ?_; rotate_left; (simp only [Act.put, List.setIfInBounds_toArray, List.set_cons_zero, List.set_cons_succ] at hK; go_simp; exact hK _ (Ext.refl _)); simp only [Act.put, List.setIfInBounds_toArray, List.set_cons_zero, List.set_cons_succ])
  (refine At.det ?_ (fun val w1 hR _ K hK => ?_) ?_; rotate_left; (simp only [Act.put, List.setIfInBounds_toArray, List.set_cons_zero, List.set_cons_succ] at hK; go_simp; exact hK _ (Ext.refl _)); simp only [Act.put, List.setIfInBounds_toArray, List.set_cons_zero, List.set_cons_succ])
  refine At.last rfl (fun val w7 hR hF hN => ?_)
  have hnm : ((nameN 1).toList == [103, 114, 101, 97, 116]) = true := by kernel_rfl
  go_wp2
  go_ret
  exact ⟨by simp, hx.trans hR.of_drew⟩
end Go.Proofs.YtghefhmncpmflaaDoor
