/-
  Contracts of the turn: a key is used; a key is pinned.
-/
import Derived.Test.YtghefhmncpmflaaDoorCa5
namespace Go.Proofs.YtghefhmncpmflaaDoor
open Go.RowKit Go.Rg

/-- The rows behind the use of a key. -/
def touchL (limit : Nat) (plain dear : List Int) (key : Int) : List Int × List Int :=
  if limit < (dear.erase key ++ [key]).length then (plain.erase key ++ [(dear.erase key ++ [key]).getD 0 0], (dear.erase key ++ [key]).eraseIdx 0) else (plain.erase key, dear.erase key ++ [key])

set_option maxHeartbeats 2000000 in
theorem touch_yes (key : Int) (bt : Nat) (most limit pn : Nat) (plain dear : List Int) (pins : Int → Option Value) (S : Nat → Prop) (w : World) (h : TurnAt w bt most limit plain dear pins pn S)
    (hbig : plain.length + dear.length ≤ 900) (hin : (plain.contains key || dear.contains key) = true) :
    Calls Tryd.prog 68 #[.pointer (some ⟨bt, 0, none⟩), .int .i64 key] w fun e w' => e = .returned (.bool true) ∧ TurnAt w' bt most limit (touchL limit plain dear key).1 (touchL limit plain dear key).2 pins pn (Grow S w w') ∧ Chg S w w' := by
  obtain ⟨vp, vd, bp, htp⟩ := h
  have HT := Lib.hid (show TP w bt most limit plain dear pins pn S vp vd bp from htp)
  have HO := Lib.hid (out_any vp plain key w htp.2.1)
  have HO2 := Lib.hid (fun v w hh => out_any v dear key w hh)
  have c2 := htp.1.cells 2
  simp at c2
  clear htp
  have hl1 : (plain.erase key).length ≤ plain.length := List.length_erase_le
  have hl2 : (dear.erase key).length ≤ dear.length := List.length_erase_le
  have HL := Lib.hid (And.intro hbig (And.intro hl1 hl2))
  have HLen := Lib.hid (show (dear.erase key ++ [key]).length ≤ 1000 ∧ (plain.erase key).length + (dear.erase key ++ [key]).length ≤ 1000 from by simp; omega)
  have HTo : Hid (touchL limit plain dear key = if limit < (dear.erase key ++ [key]).length then (plain.erase key ++ [(dear.erase key ++ [key]).getD 0 0], (dear.erase key ++ [key]).eraseIdx 0) else (plain.erase key, dear.erase key ++ [key])) := Lib.hid rfl
  clear hbig hl1 hl2
  obtain ⟨i3, hi, hz0, hz1, hz2⟩ := info_parts info3
  have HI := Lib.hid (And.intro hi (And.intro hz0 (And.intro hz1 hz2)))
  clear hi hz0 hz1 hz2
  generalize touchL limit plain dear key = tl at *
  generalize plain.contains key = c1 at *
  generalize dear.contains key = d1 at *
  go_enter Tryd.func68, Tryd.ntmps68
  go_wp2_with fail
  refine HO.out.mono ?_
  rintro e w1 ⟨v1, rfl, hi1, hb1, hch⟩
  have B4 := hch.blk HT.out.1 (fun e => (HT.out.2.2.2.2.2.1 bt e).2.1 rfl)
  have c4 := B4.cells 2
  have f4 := B4.free 2
  simp at c4
  obtain ⟨vb, vc, rfl⟩ := Ints_slice hi1
  obtain ⟨r1, r2⟩ := turn_set2 HT.out hch hi1 (.inl hb1)
  have HR := Lib.hid (And.intro r1 r2)
  clear r1 r2 hi1 hb1 hch B4 c2
  go_upto_region 5 with (fail)
  refine wp_forget (fun wx => TurnAt wx bt most limit (plain.erase key) dear pins pn (Grow S w wx) ∧ Chg S w wx) HR.out ?_
  clear HR c4 f4 HT HO
  rintro w3 ⟨ht3, hc3⟩
  have HC3 := Lib.hid hc3
  clear hc3
  obtain ⟨vp3, vd3, bp3, htp3⟩ := ht3
  have HT := Lib.hid (show TP w3 bt most limit (plain.erase key) dear pins pn (Grow S w w3) vp3 vd3 bp3 from htp3)
  have c2 := htp3.1.cells 3
  simp at c2
  clear htp3
  go_wp2_with fail
  refine (HO2.out vd3 w3 HT.out.2.2.1).mono ?_
  rintro e w4 ⟨v4, rfl, hi1, hb1, hch⟩
  have B4 := hch.blk HT.out.1 (fun e => (HT.out.2.2.2.2.2.2 bt e).2.1 rfl)
  have c4 := B4.cells 3
  have f4 := B4.free 3
  simp at c4
  obtain ⟨vb4, vc4, rfl⟩ := Ints_slice hi1
  obtain ⟨r1, r2⟩ := turn_set3 HT.out hch hi1 (.inl hb1)
  have HR := Lib.hid (And.intro r1 r2)
  clear r1 r2 hi1 hb1 hch B4 c2
  go_upto_region 6 with (fail)
  refine wp_forget (fun wx => TurnAt wx bt most limit (plain.erase key) (dear.erase key) pins pn (Grow S w wx) ∧ Chg S w wx) ⟨HR.out.1.mono (Grow_trans HC3.out HR.out.2).2, (Grow_trans HC3.out HR.out.2).1⟩ ?_
  clear HR c4 f4 HT HC3 HO2
  rintro w5 ⟨ht5, hc5⟩
  have HC := Lib.hid hc5
  clear hc5
  obtain ⟨vp5, vd5, bp5, htp5⟩ := ht5
  have HT := Lib.hid (show TP w5 bt most limit (plain.erase key) (dear.erase key) pins pn (Grow S w w5) vp5 vd5 bp5 from htp5)
  have c2 := htp5.1.cells 3
  simp at c2
  have hii := htp5.2.2.1
  have HII := Lib.hid hii
  clear htp5 hii
  generalize plain.erase key = p at *
  generalize dear.erase key = d at *
  have hdl : d.length ≤ 1000000 := by have := HLen.out.1; simp at this; omega
  have fin : ∀ (w6 : World), TurnAt w6 bt most limit p (d ++ [key]) pins pn (Grow S w w6) → Chg S w w6 → Calls Tryd.prog 93 #[.pointer (some ⟨bt, 0, none⟩)] w6 fun e w' => e = .returned (.tuple #[]) ∧ TurnAt w' bt most limit tl.1 tl.2 pins pn (Grow S w w') ∧ Chg S w w' := by
    intro w6 ht6 hc6
    by_cases hlim : limit < (d ++ [key]).length
    · rw [HTo.out, if_pos hlim]
      exact (falls_yes bt most limit pn p (d ++ [key]) pins _ w6 ht6 hlim HLen.out.2).mono fun e w7 ⟨h1, h2, h3⟩ => ⟨h1, h2.mono (Grow_trans hc6 h3).2, (Grow_trans hc6 h3).1⟩
    · rw [HTo.out, if_neg hlim]
      exact (falls_no bt most limit pn p (d ++ [key]) pins _ w6 ht6 (by omega)).mono fun e w7 ⟨h1, h2⟩ => ⟨h1, (ht6.ext h2).mono (fun k _ hk => hk.imp id (fun hh => ⟨hh.1, Nat.lt_of_lt_of_le hh.2 h2.size⟩)), hc6.ext h2⟩
  have HFin := Lib.hid fin
  clear fin HTo
  cases c1 <;> cases d1
  · cases hin
  all_goals
    go_wp2_with (at_builtin; refine wpList_appInt rfl 153 _ _ rfl Tryd.underlying153 HI.out.1 HI.out.2.1 HI.out.2.2.1 HI.out.2.2.2 (v := vd5) (xs := d) rfl (HII.out.ext ((Ext.refl _).alloc _)) hdl (k := key) rfl (Blk.new w5 3 #[.int .i64 key]) ?_; intro v' w4 hi4 hg4 hloc; have hcg : Chg (fun k => vd5.ownBlock = some k) w5 w4 := ((Chg.refl w5).alloc _).grown hg4 (fun k hk _ => hk); have B4 := hcg.blk HT.out.1 (fun e => (HT.out.2.2.2.2.2.2 bt e).2.1 rfl); have c4 := B4.cells 3; have f4 := B4.free 3; simp at c4; obtain ⟨vb, vc, rfl⟩ := Ints_slice hi4; have HI4 := Lib.hid (And.intro hi4 (And.intro hcg hloc)); clear hi4 hg4 hloc hcg B4)
    obtain ⟨r1, r2⟩ := turn_set3 HT.out HI4.out.2.1 HI4.out.1 (HI4.out.2.2.imp id (fun ⟨g, h1, h2, h3⟩ => ⟨g, h1, by simp at h2; omega, h3⟩))
    simp only [List.length_append, List.length_cons, List.length_nil, Nat.zero_add] at r1 r2
    refine (HFin.out _ (r1.mono (Grow_trans HC.out r2).2) (Grow_trans HC.out r2).1).mono ?_
    rintro e w9 ⟨rfl, q1, q2⟩
    clear r1 r2 HI4 c4 f4
    have HQ := Lib.hid (And.intro q1 q2)
    clear q1 q2
    go_wp2_with fail
    go_ret
    exact ⟨rfl, HQ.out.1, HQ.out.2⟩
end Go.Proofs.YtghefhmncpmflaaDoor
