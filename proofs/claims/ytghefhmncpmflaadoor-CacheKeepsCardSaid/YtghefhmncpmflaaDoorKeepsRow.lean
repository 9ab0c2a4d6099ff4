/-
  Proved: whatever the three numbers and the script, CacheKeeps returns true and its arguments read as before, where the listed variable (math/bits' table) starts as the program's text lays it. Conditions: the row's own (laid).
-/
import Derived.Test.YtghefhmncpmflaaDoorCbOpen
import Derived.Test.YtghefhmncpmflaaDoorCb13
import Derived.Test.YtghefhmncpmflaaDoorCards
import Derived.ProofKit
import Derived.Stop.Joined
import Derived.SevenTiedAt
namespace Go.Proofs.YtghefhmncpmflaaDoor
open Go.ChangeShapes Go.WideShapes Go.ChangeAt Go.WideMaps Go.WideElems Go.RowKit Go.Rg
set_option maxRecDepth 100000

theorem cacheKeeps_own : ownKnob Tryd.prog.godebug = none := by kernel_rfl
theorem cacheKeeps_door (os : Os) (args : Array Value) : laidMetH Tryd.prog [("math/bits.deBruijn64tab", Rows.laid_math_bits_deBruijn64tab)] ((World.doorLaid Tryd.prog 400 os).forCall (fun _ _ => 0) ⟨#[], args, []⟩).memory :=
  laidMetH_of_parts3 (fuel := 8) (laidMet_of_run' 8 (by kernel_rfl) (by kernel_rfl)) (by kernel_rfl) (by kernel_rfl)

theorem cacheKeeps_lifted (os : Os) (started : os.Started) (H : Type) (enc : TypeId × Value → H) :
    ReturnsInHanded {} Tryd.checked os 6 .any (fun w args => (Rows.cacheKeepsSpec.pre enc Tryd.prog Tryd.f6 [] false w args ∧ laidMetH Tryd.prog [("math/bits.deBruijn64tab", Rows.laid_math_bits_deBruijn64tab)] w) ∧ sizedMet enc Tryd.prog Tryd.f6 (OpenSpec.ofChange Rows.cacheKeepsSpec) false w args)
      (Rows.cacheKeepsSpec.post enc Tryd.prog Tryd.f6 false true false false) := by
  refine returnsInHanded_of_change_and (C := Tryd.checked) (X := fun w _ => laidMetH Tryd.prog [("math/bits.deBruijn64tab", Rows.laid_math_bits_deBruijn64tab)] w) (fun _ _ _ hh h => h.of_heap hh) cacheKeeps_own started (by kernel_rfl) Tryd.func6
    (ChangeSpec.witness_shaped (enc := enc) (C := Tryd.checked) (os := os) (X := fun w _ => laidMetH Tryd.prog [("math/bits.deBruijn64tab", Rows.laid_math_bits_deBruijn64tab)] w) false (World.doorLaid Tryd.prog 400 os) #[.agg #[.int .i64 0, .int .i64 0, .int .i64 0], .slice none 0 0] 8 rfl (World.shaped_of_RefB (by kernel_rfl) (by kernel_rfl)) (by kernel_rfl) (by kernel_rfl) (by kernel_rfl) (cacheKeeps_door os _)) ?_
  intro W base args ds gs before hval0 hW _ _ hL _
  have hval : ∀ (j : Nat) t v, Tryd.f6.params[j]? = some t → args[j]? = some v → Value.okWide Tryd.prog W .any base t v := hval0
  have hW' := hW
  obtain ⟨p, q, hA0, hV, rfl, hfz, hnd⟩ := hW
  have hA : DataW.TrodAll enc Tryd.prog W 0 (fun _ => true) true Tryd.f6.params.toList args.toList ds p := hA0
  rw [Tryd.params6] at hA hval
  obtain ⟨v0, v1, d0, d1, p0, p1, rfl, rfl, rfl, h0, h1⟩ := trodAll_two hA
  obtain ⟨rfl, rfl⟩ := trodVars_none hV
  have hT := tab_of_laid hL
  obtain ⟨x, y, z, rfl, wx, wy, wz⟩ := open_triple Tryd.underlying74 Tryd.underlying3 (by kernel_rfl) (by kernel_rfl) (hval 0 74 v0 rfl rfl) h0
  obtain ⟨sb, n, cap, rfl, hn, hcap, hacts⟩ := acts_of (hval 1 62 v1 rfl rfl) h1
  have hlt : ∀ p ∈ p0 ++ p1, p.block < W.heap.size := fun p hp => hW'.lt p (by simpa using hp)
  refine (keeps_walk x y z (bounds_i64 wx) (bounds_i64 wy) (bounds_i64 wz) sb n cap hn hcap W hacts hT).mono fun e W' ⟨he, hx⟩ => ?_
  subst he
  refine ⟨_, rfl, ?_⟩
  refine post_of_below (pa := p0 ++ p1) (pv := []) hW' (fun _ _ _ => trodAll_mk1 (shut_bool Tryd.underlying4 _)) (fun sp hsp => ?_) (fun _ _ => rfl) rfl hx (ok_one (by kernel_rfl) rfl (okWide_bool_mk Tryd.underlying4 _))
  show DataW.TrodAll enc Tryd.prog W' 0 sp true [74, 62] [.agg #[.int .i64 x, .int .i64 y, .int .i64 z], .slice sb n cap] [d0, d1] (p0 ++ p1)
  have hs : ∀ p ∈ p0 ++ p1, sp p.block = true := fun p hp => hsp p (by simpa using hp)
  exact trodAll_mk2 (Trod_stays (by kernel_rfl) (by kernel_rfl) (of_decide_eq_true (by kernel_rfl)) h0 (fun p hp => hx.same (hlt p (List.mem_append_left _ hp))) (fun p hp => hs p (List.mem_append_left _ hp)))
    (Trod_stays (by kernel_rfl) (by kernel_rfl) (of_decide_eq_true (by kernel_rfl)) h1 (fun p hp => hx.same (hlt p (List.mem_append_right _ hp))) (fun p hp => hs p (List.mem_append_right _ hp)))

theorem cacheKeeps_holds : Rows.CacheKeepsSaid :=
  OpenClaim.holds_of_wide 6 Tryd.f6 rfl rfl rfl rfl rfl rfl rfl ⟨rfl, rfl, rfl, rfl, rfl⟩ rfl rfl rfl rfl rfl (by kernel_rfl) Tryd.func6 (by kernel_rfl)
    (of_decide_eq_true (by kernel_rfl)) (by unfold Func.isWrapper; rw [if_neg (of_decide_eq_false (by kernel_rfl))]; exact ⟨rfl, rfl⟩)
    (fun os started H enc _ => cacheKeeps_lifted os started H enc)

theorem cacheKeeps_card : Rows.CacheKeepsCardSaid :=
  Claim7.holds_tied_plain_at .later [] [.data] true (true, "e2e1f74de582c212aac5caf02d1ee2ed50b5352eb1b6473a6e9583b83eb6700e") false
    cacheKeeps_holds (fun _ h => by cases h) (by kernel_rfl) (fun _ h => by cases h) cacheKeeps_row_tie rfl ⟨rfl, rfl⟩ (by kernel_rfl) rfl
    (fun f fn hf hfn => by
      obtain rfl : f = 6 := Option.some.inj ((show Tryd.prog.funcNamed "trunnion/trunnionlaw24.CacheKeeps" = some 6 by kernel_rfl).symm.trans hf) |>.symm
      obtain rfl : fn = Tryd.f6 := (Option.some.inj (Tryd.func6.symm.trans hfn)).symm
      exact ⟨by kernel_rfl, fun j t ht => by
        rw [Tryd.params6] at ht
        have hm : t ∈ [74, 62] := by simpa using Array.mem_of_getElem? ht
        have hall : ([74, 62].all fun u => !Tryd.prog.wantsStandIn u) = true := by kernel_rfl
        exact (show Tryd.prog.wantsStandIn t = false by simpa using List.all_eq_true.1 hall t hm)⟩)
    (by kernel_rfl)
#print axioms cacheKeeps_card
end Go.Proofs.YtghefhmncpmflaaDoor
