/-
  Contracts of the turn: a key is pinned, or may go again.
-/
import Derived.Test.YtghefhmncpmflaaDoorCa6
namespace Go.Proofs.YtghefhmncpmflaaDoor
open Go.RowKit Go.Rg

theorem pin_on (key : Int) (bt : Nat) (most limit pn : Nat) (plain dear : List Int) (pins : Int → Option Value) (S : Nat → Prop) (w : World) (h : TurnAt w bt most limit plain dear pins pn S)
    (hw : (Lit.int .i64 key).wf = true) (hpn : pn < maxLen) (hin : (dear.contains key || plain.contains key) = true) :
    Calls Tryd.prog 63 #[.pointer (some ⟨bt, 0, none⟩), .int .i64 key, .bool true] w fun e w' => e = .returned (.bool true) ∧ TurnAt w' bt most limit plain dear (fun j => if j = key then some (.bool true) else pins j) (pn + 1) S ∧ Chg S w w' := by
  have HA := Lib.hid (has_any' bt key most limit pn plain dear pins S w h)
  rw [hin] at HA
  obtain ⟨vp, vd, bp, htp⟩ := h
  have HT := Lib.hid (show TP w bt most limit plain dear pins pn S vp vd bp from htp)
  have c4 := htp.1.cells 4
  simp at c4
  obtain ⟨w1, hrun, hm, hg⟩ := MapI.update (t := 152) (e := 4) htp.2.2.2.1 Tryd.underlying3 Tryd.underlying152 hpn hw (.bool true)
  have HM := Lib.hid (And.intro hm hg)
  clear htp hm hg hin hpn hw
  generalize dear.contains key = d1 at *
  go_enter Tryd.func63, Tryd.ntmps63
  go_wp2_with fail
  refine HA.out.mono ?_
  rintro e w2 ⟨rfl, rfl⟩
  go_wp2_with fail
  go_ret
  obtain ⟨r1, r2⟩ := turn_pins HT.out HM.out.2 HM.out.1
  exact ⟨rfl, r1, r2⟩

theorem pin_off (key : Int) (bt : Nat) (most limit pn : Nat) (plain dear : List Int) (pins : Int → Option Value) (S : Nat → Prop) (w : World) (h : TurnAt w bt most limit plain dear pins pn S)
    (hw : (Lit.int .i64 key).wf = true) (hin : (dear.contains key || plain.contains key) = true) :
    Calls Tryd.prog 63 #[.pointer (some ⟨bt, 0, none⟩), .int .i64 key, .bool false] w fun e w' => e = .returned (.bool true) ∧ TurnAt w' bt most limit plain dear (fun j => if j = key then none else pins j) pn S ∧ Chg S w w' := by
  have HA := Lib.hid (has_any' bt key most limit pn plain dear pins S w h)
  rw [hin] at HA
  obtain ⟨vp, vd, bp, htp⟩ := h
  have HT := Lib.hid (show TP w bt most limit plain dear pins pn S vp vd bp from htp)
  have c4 := htp.1.cells 4
  simp at c4
  obtain ⟨w1, hrun, hm, hg⟩ := MapI.delete (t := 152) (e := 4) htp.2.2.2.1 Tryd.underlying3 Tryd.underlying152 hw 0
  have HM := Lib.hid (And.intro hm hg)
  clear htp hm hg hin hw
  generalize dear.contains key = d1 at *
  go_enter Tryd.func63, Tryd.ntmps63
  go_wp2_with fail
  refine HA.out.mono ?_
  rintro e w2 ⟨rfl, rfl⟩
  go_wp2_with fail
  go_ret
  obtain ⟨r1, r2⟩ := turn_pins HT.out HM.out.2 HM.out.1
  exact ⟨rfl, r1, r2⟩
end Go.Proofs.YtghefhmncpmflaaDoor
