/-
  The contract of package plan's Choose.
-/
import Derived.Test.YtghefhmncpmflaaDoorPlan5
namespace Go.Proofs.YtghefhmncpmflaaDoor
open Go.RowKit Go.Rg

theorem choose_bad (d : Int) (x h k l : Nat) (hw : ∀ w, Calls Tryd.prog 11 #[stv d x h k l] w fun e w' => e = .returned (.tuple #[.slice none 0 0, .int .i64 4]) ∧ Ext w w') (w : World) :
    Calls Tryd.prog 13 #[stv d x h k l] w fun e w' => e = .returned (.tuple #[.agg (plc 0 0), .int .i64 4]) ∧ Ext w w' := by
  have HG := Lib.hid hw
  clear hw
  unfold stv plc at *
  go_enter Tryd.func13, Tryd.ntmps13
  go_upto_region 1 with (fail)
  have F := Lib.hid (fun (w1 : World) (hr : Ext _ w1) => ((Blk.new w 30 (stc d x h k l)).alloc (.cells #[.int .i64 0, .int .u64 0, .int .u64 0, .int .u64 0, .int .u64 0] 45)).ext hr)
  refine Seq.text (k := 7) (R := Ext) (by kernel_rfl) (by decide) (fun _ _ _ => Ext.trans) (fun _ _ h => h.size) Ext.refl (At.start ?_)
  (refine At.row (w.heap.size) 30 (stc d x h k l) _ Ext.refl (fun w1 hR => F.out _ hR) _ _ rfl (fun _ => by first | rfl | kernel_rfl) (fun _ => by first | rfl | kernel_rfl) Tryd.underlying30 rfl (by kernel_rfl) ?_; simp only [Act.put, List.setIfInBounds_toArray, List.set_cons_zero, List.set_cons_succ])
  (refine At.det ?_ (fun val w1 hR _ K hK => ?_) ?_; rotate_left; (simp only [Act.put, List.setIfInBounds_toArray, List.set_cons_zero, List.set_cons_succ] at hK; go_simp; (with_reducible refine (HG.out _).mono ?_); rintro e w2 ⟨rfl, h2⟩; exact hK _ (h2)); simp only [Act.put, List.setIfInBounds_toArray, List.set_cons_zero, List.set_cons_succ])
  (refine At.det ?_ (fun val w1 hR _ K hK => ?_) ?_; rotate_left; (simp only [Act.put, List.setIfInBounds_toArray, List.set_cons_zero, List.set_cons_succ] at hK; go_simp; exact hK _ (Ext.refl _)); simp only [Act.put, List.setIfInBounds_toArray, List.set_cons_zero, List.set_cons_succ])
  (refine At.det ?_ (fun val w1 hR _ K hK => ?_) ?_; rotate_left; (simp only [Act.put, List.setIfInBounds_toArray, List.set_cons_zero, List.set_cons_succ] at hK; go_simp; exact hK _ (Ext.refl _)); simp only [Act.put, List.setIfInBounds_toArray, List.set_cons_zero, List.set_cons_succ])
  (refine At.det ?_ (fun val w1 hR _ K hK => ?_) ?_; rotate_left; (simp only [Act.put, List.setIfInBounds_toArray, List.set_cons_zero, List.set_cons_succ] at hK; go_simp; exact hK _ (Ext.refl _)); simp only [Act.put, List.setIfInBounds_toArray, List.set_cons_zero, List.set_cons_succ])
  (refine At.det ?_ (fun val w1 hR _ K hK => ?_) ?_; rotate_left; (simp only [Act.put, List.setIfInBounds_toArray, List.set_cons_zero, List.set_cons_succ] at hK; go_simp; exact hK _ (Ext.refl _)); simp only [Act.put, List.setIfInBounds_toArray, List.set_cons_zero, List.set_cons_succ])
  (refine At.det ?_ (fun val w1 hR _ K hK => ?_) ?_; rotate_left; (simp only [Act.put, List.setIfInBounds_toArray, List.set_cons_zero, List.set_cons_succ] at hK; go_simp; exact hK _ (Ext.refl _)); simp only [Act.put, List.setIfInBounds_toArray, List.set_cons_zero, List.set_cons_succ])
  refine At.last rfl (fun val w1 hR _ _ => ?_)
  have hx : Ext w w1 := (((Ext.refl w).alloc _).alloc _).trans hR
  have B2 : Blk w1 (w.heap.size + 1) 45 #[.int .i64 0, .int .u64 0, .int .u64 0, .int .u64 0, .int .u64 0] := (Blk.new' (by simp) 45 _).ext hR
  clear F hR
  have c2 := B2.cells
  have f2 := B2.free
  go_wp2
  exact ret_blk2 rfl (w.heap.size + 1) 45 (plc 0 0) _ rfl (((((B2.set 0 _).set 1 _).set 2 _).set 3 _).set 4 _) Tryd.underlying45 rfl (by kernel_rfl) rfl
    ⟨rfl, ((((hx.setCell (by simp) _).setCell (by simp) _).setCell (by simp) _).setCell (by simp) _).setCell (by simp) _⟩

theorem waysL_ne (D E x h k l : Nat) : 1 ≤ (waysL D E x h k l).length ∧ (waysL D E x h k l).length ≤ 4 := by
  unfold waysL
  constructor
  · simp; omega
  · simp only [List.length_append, List.length_cons, List.length_nil]
    repeat' split
    all_goals simp

set_option maxHeartbeats 1000000 in
theorem choose_good (d : Int) (x h k l : Nat) (L : List (Nat × Nat)) (hL : 1 ≤ L.length) (hL2 : L.length ≤ 100) (hlt : ∀ p ∈ L, p.2 < 18446744073709551616)
    (hw : ∀ w, Calls Tryd.prog 11 #[stv d x h k l] w fun e w' => ∃ v, e = .returned (.tuple #[v, .int .i64 0]) ∧ w'.ownsRow w.heap.size 45 5 v L.length (plansC L) ∧ Ext w w') (w : World) :
    Calls Tryd.prog 13 #[stv d x h k l] w fun e w' => e = .returned (.tuple #[.agg (plc (bestL L).1 (bestL L).2), .int .i64 0]) ∧ Ext w w' := by
  have HG := Lib.hid hw
  have HM := Lib.hid (min_any L hL hL2 hlt)
  have HL := Lib.hid hL
  clear hw hL hL2 hlt
  generalize (bestL L).1 = m1 at *
  generalize (bestL L).2 = m2 at *
  unfold stv at *
  go_enter Tryd.func13, Tryd.ntmps13
  go_upto_region 1 with (fail)
  have B1 := (Blk.new w 30 (stc d x h k l)).alloc (.cells #[.int .i64 0, .int .u64 0, .int .u64 0, .int .u64 0, .int .u64 0] 45)
  go_wp2_with (refine wpList_load_row rfl _ _ rfl w.heap.size rfl 30 (stc d x h k l) (0, 0) _ B1 Tryd.underlying30 rfl (by kernel_rfl) ?_)
  refine (HG.out _).mono ?_
  rintro e w1 ⟨u, rfl, hown, h1⟩
  have hx : Ext w w1 := (((Ext.refl w).alloc _).alloc _).trans h1
  have B2 : Blk w1 (w.heap.size + 1) 45 #[.int .i64 0, .int .u64 0, .int .u64 0, .int .u64 0, .int .u64 0] := (Blk.new' (by simp) 45 _).ext h1
  obtain ⟨b, cap, rfl, hb, hcell⟩ : ∃ b cap, u = .slice (some ⟨b, 0, none⟩) L.length cap ∧ b < w1.heap.size ∧ ∀ j, j < L.length * 5 → w1.cell? ⟨b, j, none⟩ = (plansC L)[j]? := by
    have h2 := hown.2
    rcases h2 with ⟨_, h0⟩ | ⟨g, cap, cur, hu, _, hg, _⟩
    · have := HL.out; omega
    · subst hu
      exact ⟨g, cap, rfl, (Array.getElem?_eq_some_iff.1 hg).1, fun j hj => World.ownsRow.cellAt hown j hj⟩
  clear hown h1 B1
  have HC := Lib.hid hcell
  clear hcell
  go_wp2_with fail
  refine (HM.out b cap w1 hb HC.out).mono ?_
  rintro e w2 ⟨rfl, h2⟩
  replace hx := hx.trans h2
  replace B2 := B2.ext h2
  clear h2
  unfold plc at *
  have c2 := B2.cells
  have f2 := B2.free
  go_wp2
  exact ret_blk2 rfl (w.heap.size + 1) 45 (plc m1 m2) _ rfl (((((B2.set 0 _).set 1 _).set 2 _).set 3 _).set 4 _) Tryd.underlying45 rfl (by kernel_rfl) rfl
    ⟨rfl, ((((hx.setCell (by simp) _).setCell (by simp) _).setCell (by simp) _).setCell (by simp) _).setCell (by simp) _⟩
end Go.Proofs.YtghefhmncpmflaaDoor
