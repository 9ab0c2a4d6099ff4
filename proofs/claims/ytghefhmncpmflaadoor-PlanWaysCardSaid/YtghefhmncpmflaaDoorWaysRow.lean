/-
  Proved: whatever the state and the number, PlanWays returns true and its arguments read as before, where the listed variable (the kinds' names) starts as the program's text lays it. Conditions: the row's own (laid).
-/
import Derived.Test.YtghefhmncpmflaaDoorWays
import Derived.Test.YtghefhmncpmflaaDoorLeast
namespace Go.Proofs.YtghefhmncpmflaaDoor
open Go.ChangeShapes Go.WideShapes Go.ChangeAt Go.WideMaps Go.WideElems Go.RowKit Go.Rg

set_option maxRecDepth 100000 in
theorem ways_lifted (os : Os) (started : os.Started) (H : Type) (enc : TypeId × Value → H) :
    ReturnsInHanded {} Tryd.checked os 3 .any (fun w args => (Rows.planWaysSpec.pre enc Tryd.prog Tryd.f3 [] false w args ∧ laidMetH Tryd.prog [("trunnion/plan.names", Rows.laid_trunnion_plan_names)] w) ∧ sizedMet enc Tryd.prog Tryd.f3 (OpenSpec.ofChange Rows.planWaysSpec) false w args)
      (Rows.planWaysSpec.post enc Tryd.prog Tryd.f3 false true false false) := by
  refine returnsInHanded_of_change_and (C := Tryd.checked) (X := fun w _ => laidMetH Tryd.prog [("trunnion/plan.names", Rows.laid_trunnion_plan_names)] w) (fun _ _ _ hh h => h.of_heap hh) own started (by kernel_rfl) Tryd.func3
    (ChangeSpec.witness_shaped (enc := enc) (C := Tryd.checked) (os := os) (X := fun w _ => laidMetH Tryd.prog [("trunnion/plan.names", Rows.laid_trunnion_plan_names)] w) false (World.doorLaid Tryd.prog 400 os) #[rawZ, .int .i64 0] 8 rfl (World.shaped_of_RefB (by kernel_rfl) (by kernel_rfl)) (by kernel_rfl) (by kernel_rfl) (by kernel_rfl) (door_met os _)) ?_
  intro W base args ds gs before hval0 hW _ _ hL _
  have hval : ∀ (j : Nat) t v, Tryd.f3.params[j]? = some t → args[j]? = some v → Value.okWide Tryd.prog W .any base t v := hval0
  have hW' := hW
  obtain ⟨p, q, hA0, hV, rfl, hfz, hnd⟩ := hW
  have hA : DataW.TrodAll enc Tryd.prog W 0 (fun _ => true) true Tryd.f3.params.toList args.toList ds p := hA0
  rw [Tryd.params3] at hA hval
  obtain ⟨v0, vk, d0, dk, p0, pk, rfl, rfl, rfl, h0, hk0⟩ := trodAll_two hA
  obtain ⟨rfl, rfl⟩ := trodVars_none hV
  obtain ⟨kk, rfl, rfl, rfl, wfk⟩ := open_int Tryd.underlying3 (hval 1 3 vk rfl rfl) hk0
  have h0' := h0
  obtain ⟨c0, c1, c2, c3, c4, y0, y1, y2, y3, y4, n, rfl, rfl, rfl, t0, t1, t2, t3, t4⟩ := open_agg5 Tryd.underlying24 (by kernel_rfl) (by kernel_rfl) (hval 0 24 v0 rfl rfl) h0
  have hN := names_of_laid hL
  obtain ⟨d, e0, rfl, wf0⟩ := DataW.trod_int Tryd.underlying3 t0
  obtain ⟨x', e1, rfl, wf1⟩ := DataW.trod_int Tryd.underlying22 t1
  obtain ⟨h', e2, rfl, wf2⟩ := DataW.trod_int Tryd.underlying22 t2
  obtain ⟨k', e3, rfl, wf3⟩ := DataW.trod_int Tryd.underlying22 t3
  obtain ⟨l', e4, rfl, wf4⟩ := DataW.trod_int Tryd.underlying22 t4
  simp only [List.cons.injEq, and_true] at e0 e1 e2 e3 e4
  subst e0 e1 e2 e3 e4
  have b1 := bounds_u64 wf1
  have b2 := bounds_u64 wf2
  have b3 := bounds_u64 wf3
  have b4 := bounds_u64 wf4
  obtain ⟨x, rfl⟩ := Int.eq_ofNat_of_zero_le b1.1
  obtain ⟨h, rfl⟩ := Int.eq_ofNat_of_zero_le b2.1
  obtain ⟨k, rfl⟩ := Int.eq_ofNat_of_zero_le b3.1
  obtain ⟨l, rfl⟩ := Int.eq_ofNat_of_zero_le b4.1
  simp only [List.append_nil, List.nil_append] at hW'
  refine (ways_walk d x h k l kk (by omega) (by omega) (by omega) (by omega) W hN).mono fun e W' ⟨he, hx⟩ => ?_
  subst he
  refine ⟨_, rfl, ?_⟩
  refine post_of_below (pa := []) (pv := []) hW' (fun _ _ _ => trodAll_mk1 (shut_bool Tryd.underlying4 _)) (fun sp _ => ?_) (fun _ _ => rfl) rfl hx (ok_one (by kernel_rfl) rfl (okWide_bool_mk Tryd.underlying4 _))
  show DataW.TrodAll enc Tryd.prog W' 0 sp true [24, 3] [.agg #[.int .i64 d, .int .u64 x, .int .u64 h, .int .u64 k, .int .u64 l], .int .i64 kk] [.agg [.lit (.int .i64 d), .lit (.int .u64 x), .lit (.int .u64 h), .lit (.int .u64 k), .lit (.int .u64 l)], .lit (.int .i64 kk)] []
  clear h0 h0' hk0 hA hA0 hW' hval hval0 hL t0 t1 t2 t3 t4 hN hx
  exact trodAll_mk2 (raw_shut wf0 wf1 wf2 wf3 wf4) (shut_int Tryd.underlying3 wfk)

theorem planWays_holds : Rows.PlanWaysSaid :=
  OpenClaim.holds_of_wide 3 Tryd.f3 rfl rfl rfl rfl rfl rfl rfl ⟨rfl, rfl, rfl, rfl, rfl⟩ rfl rfl rfl rfl rfl (by kernel_rfl) Tryd.func3 (by kernel_rfl)
    (of_decide_eq_true (by kernel_rfl)) (by unfold Func.isWrapper; rw [if_neg (of_decide_eq_false (by kernel_rfl))]; exact ⟨rfl, rfl⟩)
    (fun os started H enc _ => ways_lifted os started H enc)

theorem planWays_card : Rows.PlanWaysCardSaid :=
  Claim7.holds_tied_plain_at .later [] [.data] true (true, "e2e1f74de582c212aac5caf02d1ee2ed50b5352eb1b6473a6e9583b83eb6700e") false
    planWays_holds (fun _ h => by cases h) (by kernel_rfl) (fun _ h => by cases h) planWays_row_tie rfl ⟨rfl, rfl⟩ (by kernel_rfl) rfl
    (fun f fn hf hfn => by
      obtain rfl : f = 3 := Option.some.inj ((show Tryd.prog.funcNamed "trunnion/trunnionlaw25.PlanWays" = some 3 by kernel_rfl).symm.trans hf) |>.symm
      obtain rfl : fn = Tryd.f3 := (Option.some.inj (Tryd.func3.symm.trans hfn)).symm
      exact ⟨by kernel_rfl, fun j t ht => by
        rw [Tryd.params3] at ht
        have hm : t ∈ [24, 3] := by simpa using Array.mem_of_getElem? ht
        have hall : ([24, 3].all fun u => !Tryd.prog.wantsStandIn u) = true := by kernel_rfl
        exact (show Tryd.prog.wantsStandIn t = false by simpa using List.all_eq_true.1 hall t hm)⟩)
    (by kernel_rfl)
#print axioms planWays_card
end Go.Proofs.YtghefhmncpmflaaDoor
