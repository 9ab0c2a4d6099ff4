/-
  The contract of a turn's Drop.
-/
import Derived.Test.YtghefhmncpmflaaDoorCb3
import Derived.Test.YtghefhmncpmflaaDoorCa7
namespace Go.Proofs.YtghefhmncpmflaaDoor
open Go.RowKit Go.Rg

set_option maxHeartbeats 2000000 in
theorem tdrop_any (key : Int) (bt : Nat) (most limit pn : Nat) (plain dear : List Int) (pins : Int → Option Value) (S : Nat → Prop) (w : World) (h : TurnAt w bt most limit plain dear pins pn S)
    (hw : (Lit.int .i64 key).wf = true) :
    Calls Tryd.prog 69 #[.pointer (some ⟨bt, 0, none⟩), .int .i64 key] w fun e w' => e = .returned (.bool (plain.contains key || dear.contains key)) ∧
      TurnAt w' bt most limit (plain.erase key) (dear.erase key) (fun j => if j = key then none else pins j) pn (Grow S w w') ∧ Chg S w w' := by
  obtain ⟨vp, vd, bp, htp⟩ := h
  have HT := Lib.hid (show TP w bt most limit plain dear pins pn S vp vd bp from htp)
  have HO := Lib.hid (out_any vp plain key w htp.2.1)
  have HO2 := Lib.hid (fun v w hh => out_any v dear key w hh)
  have c2 := htp.1.cells 2
  simp at c2
  clear htp
  have HK := Lib.hid hw
  clear hw
  generalize plain.contains key = c1 at *
  generalize dear.contains key = d1 at *
  go_enter Tryd.func69, Tryd.ntmps69
  go_wp2_with fail
  refine HO.out.mono ?_
  rintro e w1 ⟨v1, rfl, hi1, hb1, hch⟩
  have B4 := hch.blk HT.out.1 (fun e => (HT.out.2.2.2.2.2.1 bt e).2.1 rfl)
  have c4 := B4.cells 2
  have f4 := B4.free 2
  simp at c4
  obtain ⟨vb, vc, rfl⟩ := Ints_slice hi1
  obtain ⟨r1, r2⟩ := turn_set2 HT.out hch hi1 (.inl hb1)
  have HR := Lib.hid (And.intro r1 r2)
  clear r1 r2 hi1 hb1 hch B4 c2
  go_upto_region 5 with (fail)
  refine wp_forget (fun wx => TurnAt wx bt most limit (plain.erase key) dear pins pn (Grow S w wx) ∧ Chg S w wx) HR.out ?_
  clear HR c4 f4 HT HO
  rintro w3 ⟨ht3, hc3⟩
  have HC3 := Lib.hid hc3
  clear hc3
  obtain ⟨vp3, vd3, bp3, htp3⟩ := ht3
  have HT := Lib.hid (show TP w3 bt most limit (plain.erase key) dear pins pn (Grow S w w3) vp3 vd3 bp3 from htp3)
  have c2 := htp3.1.cells 3
  simp at c2
  clear htp3
  go_wp2_with fail
  refine (HO2.out vd3 w3 HT.out.2.2.1).mono ?_
  rintro e w4 ⟨v4, rfl, hi1, hb1, hch⟩
  have B4 := hch.blk HT.out.1 (fun e => (HT.out.2.2.2.2.2.2 bt e).2.1 rfl)
  have c4 := B4.cells 3
  have f4 := B4.free 3
  simp at c4
  obtain ⟨vb4, vc4, rfl⟩ := Ints_slice hi1
  obtain ⟨r1, r2⟩ := turn_set3 HT.out hch hi1 (.inl hb1)
  have HR := Lib.hid (And.intro r1 r2)
  clear r1 r2 hi1 hb1 hch B4 c2
  go_upto_region 6 with (fail)
  refine wp_forget (fun wx => TurnAt wx bt most limit (plain.erase key) (dear.erase key) pins pn (Grow S w wx) ∧ Chg S w wx) ⟨HR.out.1.mono (Grow_trans HC3.out HR.out.2).2, (Grow_trans HC3.out HR.out.2).1⟩ ?_
  clear HR c4 f4 HT HC3 HO2
  rintro w5 ⟨ht5, hc5⟩
  have HC := Lib.hid hc5
  clear hc5
  obtain ⟨vp5, vd5, bp5, htp5⟩ := ht5
  have HT := Lib.hid (show TP w5 bt most limit (plain.erase key) (dear.erase key) pins pn (Grow S w w5) vp5 vd5 bp5 from htp5)
  have c4 := htp5.1.cells 4
  simp at c4
  obtain ⟨w6, hrun, hm, hg⟩ := MapI.delete (t := 152) (e := 4) htp5.2.2.2.1 Tryd.underlying3 Tryd.underlying152 HK.out 0
  have HM := Lib.hid (And.intro hm hg)
  clear htp5 hm hg
  have fin : ∀ (e : Ending), e = .returned (.bool (c1 || d1)) → (e = .returned (.bool (c1 || d1)) ∧ TurnAt w6 bt most limit (plain.erase key) (dear.erase key) (fun j => if j = key then none else pins j) pn (Grow S w w6) ∧ Chg S w w6) := fun e he => by
    obtain ⟨r1, r2⟩ := turn_pins HT.out HM.out.2 HM.out.1
    have hs := HM.out.2.size
    exact ⟨he, r1.mono (fun k _ hk => hk.imp id (fun hh => ⟨hh.1, Nat.lt_of_lt_of_le hh.2 hs⟩)), (Grow_trans HC.out r2).1⟩
  have HF := Lib.hid fin
  clear fin
  cases c1
  all_goals
    go_wp2_with fail
    go_ret
    exact HF.out _ rfl
end Go.Proofs.YtghefhmncpmflaaDoor
