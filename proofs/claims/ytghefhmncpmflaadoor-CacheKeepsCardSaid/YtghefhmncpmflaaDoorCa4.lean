/-
  Contracts of the turn: a key is added, used, pinned.
-/
import Derived.Test.YtghefhmncpmflaaDoorCa3
import Derived.Test.YtghefhmncpmflaaDoorCa1b
namespace Go.Proofs.YtghefhmncpmflaaDoor
open Go.RowKit Go.Rg

theorem info3 : (Tryd.prog.info? 3).map (fun i => (i.zero, i.size, i.bytes)) = some (some (.int .i64 0), 1, 8) := by kernel_rfl

def TP (w : World) (bt : Nat) (most limit : Nat) (plain dear : List Int) (pins : Int → Option Value) (pn : Nat) (S : Nat → Prop) (vp vd : Value) (bp : Nat) : Prop :=
  Blk w bt 155 #[.int .i64 most, .int .i64 limit, vp, vd, .map (some bp)] ∧ Ints 3 w vp plain ∧ Ints 3 w vd dear ∧ MapI Tryd.prog 3 w bp pn pins ∧
    (S bt ∧ S bp ∧ bt ≠ bp) ∧ (∀ g, vp.ownBlock = some g → S g ∧ g ≠ bt ∧ g ≠ bp ∧ vd.ownBlock ≠ some g) ∧ (∀ g, vd.ownBlock = some g → S g ∧ g ≠ bt ∧ g ≠ bp)
section
variable {w w2 : World} {bt most limit pn : Nat} {plain dear xs : List Int} {pins f : Int → Option Value} {S : Nat → Prop} {vp vd v' : Value} {bp pn' : Nat}
theorem turn_set2 (h : TP w bt most limit plain dear pins pn S vp vd bp) (hc : Chg (fun k => vp.ownBlock = some k) w w2) (hi : Ints 3 w2 v' xs)
    (loc : v'.ownBlock = vp.ownBlock ∨ ∃ g, v'.ownBlock = some g ∧ w.heap.size ≤ g ∧ g < w2.heap.size) :
    TurnAt (w2.setCell ⟨bt, 2, none⟩ v') bt most limit xs dear pins pn (Grow S w (w2.setCell ⟨bt, 2, none⟩ v')) ∧ Chg S w (w2.setCell ⟨bt, 2, none⟩ v') := by
  obtain ⟨h1, h2, h3, h4, ⟨h5, h6, h7⟩, h8, h9⟩ := h
  have b1 : Blk w2 bt 155 _ := hc.blk h1 (fun e => (h8 bt e).2.1 rfl)
  have ib : ∀ g, v'.ownBlock = some g → g ≠ bt := fun g hg => by
    rcases loc with e | ⟨g', e, hg1, _⟩
    · rw [e] at hg; exact (h8 g hg).2.1
    · rw [e] at hg; cases hg; have := h1.lt; omega
  refine ⟨⟨v', vd, bp, b1.set 2 v', hi.of_block (fun g hg => heap_setCell_other _ _ _ _ (ib g hg)), (h3.chg hc (fun g hg e => (h8 g e).2.2.2 hg)).of_block (fun g hg => heap_setCell_other _ _ _ _ (h9 g hg).2.1),
    (h4.chg hc (fun e => (h8 bp e).2.2.1 rfl)).of_block (heap_setCell_other _ _ _ _ (fun e => h7 e.symm)), ⟨.inl h5, .inl h6, h7⟩, fun g hg => ?_, fun g hg => ⟨.inl (h9 g hg).1, (h9 g hg).2⟩⟩, ?_⟩
  · rcases loc with e | ⟨g', e, hg1, hg2⟩
    · rw [e] at hg; exact ⟨.inl (h8 g hg).1, (h8 g hg).2⟩
    · rw [e] at hg; cases hg
      exact ⟨.inr ⟨hg1, by rw [size_setCell]; exact hg2⟩, by have := h1.lt; omega, by have := h4.lt; omega, fun e2 => by have := h3.lt e2; omega⟩
  · exact (hc.mono (fun k _ hk => (h8 k hk).1)).setCell (p := ⟨bt, 2, none⟩) (fun _ => h5) _
theorem turn_set3 (h : TP w bt most limit plain dear pins pn S vp vd bp) (hc : Chg (fun k => vd.ownBlock = some k) w w2) (hi : Ints 3 w2 v' xs)
    (loc : v'.ownBlock = vd.ownBlock ∨ ∃ g, v'.ownBlock = some g ∧ w.heap.size ≤ g ∧ g < w2.heap.size) :
    TurnAt (w2.setCell ⟨bt, 3, none⟩ v') bt most limit plain xs pins pn (Grow S w (w2.setCell ⟨bt, 3, none⟩ v')) ∧ Chg S w (w2.setCell ⟨bt, 3, none⟩ v') := by
  obtain ⟨h1, h2, h3, h4, ⟨h5, h6, h7⟩, h8, h9⟩ := h
  have b1 : Blk w2 bt 155 _ := hc.blk h1 (fun e => (h9 bt e).2.1 rfl)
  have ib : ∀ g, v'.ownBlock = some g → g ≠ bt := fun g hg => by
    rcases loc with e | ⟨g', e, hg1, _⟩
    · rw [e] at hg; exact (h9 g hg).2.1
    · rw [e] at hg; cases hg; have := h1.lt; omega
  refine ⟨⟨vp, v', bp, b1.set 3 v', (h2.chg hc (fun g hg e => (h8 g hg).2.2.2 e)).of_block (fun g hg => heap_setCell_other _ _ _ _ (h8 g hg).2.1), hi.of_block (fun g hg => heap_setCell_other _ _ _ _ (ib g hg)),
    (h4.chg hc (fun e => (h9 bp e).2.2 rfl)).of_block (heap_setCell_other _ _ _ _ (fun e => h7 e.symm)), ⟨.inl h5, .inl h6, h7⟩, fun g hg => ⟨.inl (h8 g hg).1, (h8 g hg).2.1, (h8 g hg).2.2.1, fun e2 => ?_⟩, fun g hg => ?_⟩, ?_⟩
  · rcases loc with e | ⟨g', e, hg1, hg2⟩
    · rw [e] at e2; exact (h8 g hg).2.2.2 e2
    · rw [e] at e2; cases e2; have := h2.lt hg; omega
  · rcases loc with e | ⟨g', e, hg1, hg2⟩
    · rw [e] at hg; exact ⟨.inl (h9 g hg).1, (h9 g hg).2⟩
    · rw [e] at hg; cases hg
      exact ⟨.inr ⟨hg1, by rw [size_setCell]; exact hg2⟩, by have := h1.lt; omega, by have := h4.lt; omega⟩
  · exact (hc.mono (fun k _ hk => (h9 k hk).1)).setCell (p := ⟨bt, 3, none⟩) (fun _ => h5) _
theorem turn_pins (h : TP w bt most limit plain dear pins pn S vp vd bp) (hc : w.grownBy w2 (some bp)) (hm : MapI Tryd.prog 3 w2 bp pn' f) :
    TurnAt w2 bt most limit plain dear f pn' S ∧ Chg S w w2 := by
  obtain ⟨h1, h2, h3, h4, ⟨h5, h6, h7⟩, h8, h9⟩ := h
  have c : Chg (fun k => k = bp) w w2 := (Chg.refl (S := fun k => k = bp) w).grown hc (fun k hk _ => by cases hk; rfl)
  exact ⟨⟨vp, vd, bp, c.blk h1 h7, h2.chg c (fun g hg => (h8 g hg).2.2.1), h3.chg c (fun g hg => (h9 g hg).2.2), hm, ⟨h5, h6, h7⟩, h8, h9⟩, c.mono (fun k _ hk => by rw [hk]; exact h6)⟩
/-- Two changes, one behind the other. -/
theorem Grow_trans {w1 w2 : World} (h : Chg S w w1) (h2 : Chg (Grow S w w1) w1 w2) : Chg S w w2 ∧ ∀ k, k < w2.heap.size → Grow (Grow S w w1) w1 w2 k → Grow S w w2 k := by
  refine ⟨h.trans' h2 (fun i hi hs => hs.resolve_right (fun hh => by omega)), fun k _ hk => ?_⟩
  have s1 := h.size
  have s2 := h2.size
  rcases hk with (hk | hk) | hk
  · exact .inl hk
  · exact .inr ⟨hk.1, by omega⟩
  · exact .inr ⟨by omega, hk.2⟩
end

theorem Ints_slice {w : World} {v : Value} {xs : List Int} (h : Ints 3 w v xs) : ∃ b c, v = .slice b xs.length c := by
  rcases h.form with ⟨rfl, rfl⟩ | ⟨g, cap, rfl, _⟩
  · exact ⟨none, 0, rfl⟩
  · exact ⟨_, _, rfl⟩

theorem full_any (bt : Nat) (most limit pn : Nat) (plain dear : List Int) (pins : Int → Option Value) (S : Nat → Prop) (w : World) (h : TurnAt w bt most limit plain dear pins pn S) (hl : plain.length + dear.length ≤ 1000) :
    Calls Tryd.prog 102 #[.pointer (some ⟨bt, 0, none⟩)] w fun e w' => e = .returned (.bool (decide (most ≤ plain.length + dear.length))) ∧ Ext w w' := by
  have HL := Lib.hid (tlen_any bt most limit pn plain dear pins S w h hl)
  obtain ⟨vp, vd, bp, B, -⟩ := h
  have HB := Lib.hid (fun (w1 : World) (he : Ext w w1) => (B.ext he).cells 0)
  simp at HB
  clear B
  generalize plain.length + dear.length = n at *
  generalize dear.length = m at *
  go_enter Tryd.func102, Tryd.ntmps102
  go_wp2_with fail
  refine HL.out.mono ?_
  rintro e w1 ⟨rfl, hx⟩
  have c0 := HB.out w1 hx
  go_wp2_with fail
  go_ret
  exact ⟨by simp, hx⟩

set_option maxHeartbeats 1000000 in
theorem add_any (bt : Nat) (key : Int) (most limit pn : Nat) (plain dear : List Int) (pins : Int → Option Value) (S : Nat → Prop) (w : World) (h : TurnAt w bt most limit plain dear pins pn S) (hl : plain.length + dear.length ≤ 1000)
    (hk1 : dear.contains key = false) (hk2 : plain.contains key = false) (hroom : plain.length + dear.length < most) :
    Calls Tryd.prog 87 #[.pointer (some ⟨bt, 0, none⟩), .int .i64 key] w fun e w' => e = .returned (.int .i64 0) ∧ TurnAt w' bt most limit (plain ++ [key]) dear pins pn (Grow S w w') ∧ Chg S w w' := by
  have HA := Lib.hid (has_any' bt key most limit pn plain dear pins S w h)
  have HF := Lib.hid (full_any bt most limit pn plain dear pins S w h hl)
  rw [hk1, hk2] at HA
  rw [show decide (most ≤ plain.length + dear.length) = false by simp; omega] at HF
  obtain ⟨vp, vd, bp, htp⟩ := h
  have HT := Lib.hid (show TP w bt most limit plain dear pins pn S vp vd bp from htp)
  clear htp hk1 hk2 hroom
  have hpl : plain.length ≤ 1000000 := by omega
  obtain ⟨i3, hi, hz0, hz1, hz2⟩ := info_parts info3
  have HI := Lib.hid (And.intro hi (And.intro hz0 (And.intro hz1 hz2)))
  clear hi hz0 hz1 hz2
  go_enter Tryd.func87, Tryd.ntmps87
  go_wp2_with fail
  refine HA.out.mono ?_
  rintro e w1 ⟨rfl, rfl⟩
  go_wp2_with fail
  refine HF.out.mono ?_
  rintro e w2 ⟨rfl, hx⟩
  have c2 := (HT.out.1.ext hx).cells 2
  simp at c2
  have B2 := (HT.out.1.ext hx).free 2
  go_wp2_with (at_builtin; refine wpList_appInt rfl 153 _ _ rfl Tryd.underlying153 HI.out.1 HI.out.2.1 HI.out.2.2.1 HI.out.2.2.2 (v := vp) (xs := plain) rfl ((HT.out.2.1.ext hx).ext ((Ext.refl _).alloc _)) hpl (k := key) rfl (Blk.new w2 3 #[.int .i64 key]) ?_; intro v' w4 hi4 hg4 hloc; have hcg : Chg (fun k => vp.ownBlock = some k) w1 w4 := ((Chg.of_ext hx).alloc _).grown hg4 (fun k hk _ => hk); have B4 := hcg.blk HT.out.1 (fun e => (HT.out.2.2.2.2.2.1 bt e).2.1 rfl); have c4 := B4.cells 2; have f4 := B4.free 2; simp at c4; obtain ⟨vb, vc, rfl⟩ := Ints_slice hi4; have HI4 := Lib.hid (And.intro hi4 (And.intro hcg hloc)); clear hi4 hg4 hloc hcg B4)
  go_ret
  have hs4 := hx.size
  obtain ⟨r1, r2⟩ := turn_set2 HT.out HI4.out.2.1 HI4.out.1 (HI4.out.2.2.imp id (fun ⟨g, h1, h2, h3⟩ => ⟨g, h1, by simp at h2; omega, h3⟩))
  simp only [List.length_append, List.length_cons, List.length_nil, Nat.zero_add] at r1 r2
  exact ⟨rfl, r1, r2⟩


end Go.Proofs.YtghefhmncpmflaaDoor
