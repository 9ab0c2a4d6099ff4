/-
  Proved: whatever the state, PlanLeast returns true and its argument reads as before, where the listed variable (the kinds' names) starts as the program's text lays it. Conditions: the row's own (laid).
-/
import Derived.Test.YtghefhmncpmflaaDoorPlan13
import Derived.Test.YtghefhmncpmflaaDoorOpen
import Derived.Test.YtghefhmncpmflaaDoorTie
import Derived.Test.YtghefhmncpmflaaDoorCards
import Derived.ProofKit
import Derived.LaidMore
import Derived.OpenShut
import Derived.Stop.Joined
import Derived.SevenTiedAt
namespace Go.Proofs.YtghefhmncpmflaaDoor
open Go.ChangeShapes Go.WideShapes Go.ChangeAt Go.WideMaps Go.WideElems Go.RowKit Go.Rg

theorem own : ownKnob Tryd.prog.godebug = none := by kernel_rfl
theorem gNames : Tryd.prog.globalNamed "trunnion/plan.names" = some 0 := by kernel_rfl
theorem tNames : (Tryd.prog.globals[0]?).map (·.type) = some 103 := by kernel_rfl

theorem door_met (os : Os) (args : Array Value) : laidMetH Tryd.prog [("trunnion/plan.names", Rows.laid_trunnion_plan_names)] ((World.doorLaid Tryd.prog 400 os).forCall (fun _ _ => 0) ⟨#[], args, []⟩).memory :=
  laidMetH_of_parts3 (fuel := 8) (laidMet_of_run' 8 (by kernel_rfl) (by kernel_rfl)) (by kernel_rfl) (by kernel_rfl)

theorem names_of_laid {W : World} (h : laidMetH Tryd.prog [("trunnion/plan.names", Rows.laid_trunnion_plan_names)] W) : NamesAt W := by
  rw [MakeChecks.laidMetH_plain _ _ _ (by kernel_rfl)] at h
  obtain ⟨ps, ⟨g0, t0, cs0, f0, p0, q0, hg0, ht0, hv0, hd0, _, _⟩, _, _⟩ := h
  obtain rfl := Option.some.inj (gNames.symm.trans hg0)
  obtain rfl := Option.some.inj (tNames.symm.trans ht0)
  obtain ⟨xs, m1, rfl, hx1, hlen, hn4, hel⟩ := DataW.trod_array Tryd.underlying103 hd0
  have c9 : Tryd.prog.cellsOf 9 = 1 := by kernel_rfl
  have c103 : Tryd.prog.cellsOf 103 = 4 := by kernel_rfl
  have str : ∀ (i : Nat) (x : DataW Unit × List MemPlace) (bs : List UInt8), i < 4 → xs[i]? = some x → x.1 = .lit (.string bs) → W.cell? ⟨0, i, none⟩ = some (.string ⟨bs.toArray⟩) := by
    intro i x bs hi hx hb
    have h1 := hel i hi
    have hlt : i < cs0.toList.length := by rw [hlen, c103]; exact hi
    rw [c9, Nat.mul_one, List.drop_eq_getElem_cons hlt, List.take_succ_cons, List.take_zero, hx] at h1
    obtain ⟨s, e1, e2, _⟩ := DataW.trod_string Tryd.underlying9 h1
    have h2 := World.var?_cell hg0 hv0 i
    have h3 : cs0[i]? = some (.string s) := by
      have : cs0.toList[i]? = some (.string s) := by
        rw [List.getElem?_eq_getElem hlt]
        simpa using e1
      simpa using this
    have h4 : s = ⟨bs.toArray⟩ := by
      rw [e2] at hb
      simp only [DataW.lit.injEq, Lit.string.injEq] at hb
      rw [← hb]
    rw [← h4]
    simpa using h2.trans h3
  have hxx : xs.map (·.1) = [.lit (.string [102, 117, 108, 108]), .lit (.string [103, 114, 101, 97, 116]), .lit (.string [115, 109, 97, 108, 108]), .lit (.string [119, 104, 111, 108, 101])] := by
    have := congrArg Prod.fst hx1
    simp only [DataW.agg.injEq, Rows.laid_trunnion_plan_names] at this
    exact this.symm
  match xs, hn4, hxx with
  | [x0, x1, x2, x3], _, hxx =>
    simp only [List.map_cons, List.map_nil, List.cons.injEq, and_true] at hxx
    obtain ⟨a0, a1, a2, a3⟩ := hxx
    exact ⟨str 0 x0 _ (by decide) rfl a0, str 1 x1 _ (by decide) rfl a1, str 2 x2 _ (by decide) rfl a2, str 3 x3 _ (by decide) rfl a3⟩

theorem raw_shut {H : Type} {enc : TypeId × Value → H} {W : World} {sp : Nat → Bool} {b : Nat} {hd : Bool} {d x h k l : Int} (w0 : (Lit.int .i64 d).wf = true) (w1 : (Lit.int .u64 x).wf = true) (w2 : (Lit.int .u64 h).wf = true) (w3 : (Lit.int .u64 k).wf = true) (w4 : (Lit.int .u64 l).wf = true) :
   DataW.Trod enc Tryd.prog W b sp hd 24 (.agg #[.int .i64 d, .int .u64 x, .int .u64 h, .int .u64 k, .int .u64 l]) (.agg [.lit (.int .i64 d), .lit (.int .u64 x), .lit (.int .u64 h), .lit (.int .u64 k), .lit (.int .u64 l)]) [] := by
  refine ⟨2, ?_⟩
  have c3 : Tryd.prog.cellsOf 3 = 1 := by kernel_rfl
  have c22 : Tryd.prog.cellsOf 22 = 1 := by kernel_rfl
  have c24 : Tryd.prog.cellsOf 24 = 5 := by kernel_rfl
  simp [DataW.trod, Tryd.underlying24, Tryd.underlying3, Tryd.underlying22, Value.cells, c3, c22, c24, w0, w1, w2, w3, w4]

def rawZ : Value := .agg #[.int .i64 0, .int .u64 0, .int .u64 0, .int .u64 0, .int .u64 0]

set_option maxRecDepth 100000 in
theorem least_lifted (os : Os) (started : os.Started) (H : Type) (enc : TypeId × Value → H) :
    ReturnsInHanded {} Tryd.checked os 4 .any (fun w args => (Rows.planLeastSpec.pre enc Tryd.prog Tryd.f4 [] false w args ∧ laidMetH Tryd.prog [("trunnion/plan.names", Rows.laid_trunnion_plan_names)] w) ∧ sizedMet enc Tryd.prog Tryd.f4 (OpenSpec.ofChange Rows.planLeastSpec) false w args)
      (Rows.planLeastSpec.post enc Tryd.prog Tryd.f4 false true false false) := by
  refine returnsInHanded_of_change_and (C := Tryd.checked) (X := fun w _ => laidMetH Tryd.prog [("trunnion/plan.names", Rows.laid_trunnion_plan_names)] w) (fun _ _ _ hh h => h.of_heap hh) own started (by kernel_rfl) Tryd.func4
    (ChangeSpec.witness_shaped (enc := enc) (C := Tryd.checked) (os := os) (X := fun w _ => laidMetH Tryd.prog [("trunnion/plan.names", Rows.laid_trunnion_plan_names)] w) false (World.doorLaid Tryd.prog 400 os) #[rawZ] 8 rfl (World.shaped_of_RefB (by kernel_rfl) (by kernel_rfl)) (by kernel_rfl) (by kernel_rfl) (by kernel_rfl) (door_met os _)) ?_
  intro W base args ds gs before hval0 hW _ _ hL _
  have hval : ∀ (j : Nat) t v, Tryd.f4.params[j]? = some t → args[j]? = some v → Value.okWide Tryd.prog W .any base t v := hval0
  have hW' := hW
  obtain ⟨p, q, hA0, hV, rfl, hfz, hnd⟩ := hW
  have hA : DataW.TrodAll enc Tryd.prog W 0 (fun _ => true) true Tryd.f4.params.toList args.toList ds p := hA0
  rw [Tryd.params4] at hA hval
  obtain ⟨v0, d0, rfl, rfl, h0⟩ := trodAll_one hA
  obtain ⟨rfl, rfl⟩ := trodVars_none hV
  have h0' := h0
  obtain ⟨c0, c1, c2, c3, c4, y0, y1, y2, y3, y4, n, rfl, rfl, rfl, t0, t1, t2, t3, t4⟩ := open_agg5 Tryd.underlying24 (by kernel_rfl) (by kernel_rfl) (hval 0 24 v0 rfl rfl) h0
  have hN := names_of_laid hL
  obtain ⟨d, e0, rfl, wf0⟩ := DataW.trod_int Tryd.underlying3 t0
  obtain ⟨x', e1, rfl, wf1⟩ := DataW.trod_int Tryd.underlying22 t1
  obtain ⟨h', e2, rfl, wf2⟩ := DataW.trod_int Tryd.underlying22 t2
  obtain ⟨k', e3, rfl, wf3⟩ := DataW.trod_int Tryd.underlying22 t3
  obtain ⟨l', e4, rfl, wf4⟩ := DataW.trod_int Tryd.underlying22 t4
  simp only [List.cons.injEq, and_true] at e0 e1 e2 e3 e4
  subst e0 e1 e2 e3 e4
  have b1 := bounds_u64 wf1
  have b2 := bounds_u64 wf2
  have b3 := bounds_u64 wf3
  have b4 := bounds_u64 wf4
  obtain ⟨x, rfl⟩ := Int.eq_ofNat_of_zero_le b1.1
  obtain ⟨h, rfl⟩ := Int.eq_ofNat_of_zero_le b2.1
  obtain ⟨k, rfl⟩ := Int.eq_ofNat_of_zero_le b3.1
  obtain ⟨l, rfl⟩ := Int.eq_ofNat_of_zero_le b4.1
  simp only [List.append_nil, List.nil_append] at hW'
  refine (least_walk d x h k l (by omega) (by omega) (by omega) (by omega) W hN).mono fun e W' ⟨he, hx⟩ => ?_
  subst he
  refine ⟨_, rfl, ?_⟩
  refine post_of_below (pa := []) (pv := []) hW' (fun _ _ _ => trodAll_mk1 (shut_bool Tryd.underlying4 _)) (fun sp _ => ?_) (fun _ _ => rfl) rfl hx (ok_one (by kernel_rfl) rfl (okWide_bool_mk Tryd.underlying4 _))
  show DataW.TrodAll enc Tryd.prog W' 0 sp true [24] [.agg #[.int .i64 d, .int .u64 x, .int .u64 h, .int .u64 k, .int .u64 l]] [.agg [.lit (.int .i64 d), .lit (.int .u64 x), .lit (.int .u64 h), .lit (.int .u64 k), .lit (.int .u64 l)]] []
  clear h0 h0' hA hA0 hW' hval hval0 hL t0 t1 t2 t3 t4 hN hx
  exact trodAll_mk1 (raw_shut wf0 wf1 wf2 wf3 wf4)

theorem planLeast_holds : Rows.PlanLeastSaid :=
  OpenClaim.holds_of_wide 4 Tryd.f4 rfl rfl rfl rfl rfl rfl rfl ⟨rfl, rfl, rfl, rfl, rfl⟩ rfl rfl rfl rfl rfl (by kernel_rfl) Tryd.func4 (by kernel_rfl)
    (of_decide_eq_true (by kernel_rfl)) (by unfold Func.isWrapper; rw [if_neg (of_decide_eq_false (by kernel_rfl))]; exact ⟨rfl, rfl⟩)
    (fun os started H enc _ => least_lifted os started H enc)

theorem planLeast_card : Rows.PlanLeastCardSaid :=
  Claim7.holds_tied_plain_at .later [] [.data] true (true, "e2e1f74de582c212aac5caf02d1ee2ed50b5352eb1b6473a6e9583b83eb6700e") false
    planLeast_holds (fun _ h => by cases h) (by kernel_rfl) (fun _ h => by cases h) planLeast_row_tie rfl ⟨rfl, rfl⟩ (by kernel_rfl) rfl
    (fun f fn hf hfn => by
      obtain rfl : f = 4 := Option.some.inj ((show Tryd.prog.funcNamed "trunnion/trunnionlaw25.PlanLeast" = some 4 by kernel_rfl).symm.trans hf) |>.symm
      obtain rfl : fn = Tryd.f4 := (Option.some.inj (Tryd.func4.symm.trans hfn)).symm
      exact ⟨by kernel_rfl, fun j t ht => by
        rw [Tryd.params4] at ht
        have hm : t ∈ [24] := by simpa using Array.mem_of_getElem? ht
        have hall : ([24].all fun u => !Tryd.prog.wantsStandIn u) = true := by kernel_rfl
        exact (show Tryd.prog.wantsStandIn t = false by simpa using List.all_eq_true.1 hall t hm)⟩)
    (by kernel_rfl)
#print axioms planLeast_card
end Go.Proofs.YtghefhmncpmflaaDoor
