/-
  A cache's calls in a law's cache, whatever room there is.
-/
import Derived.Test.YtghefhmncpmflaaDoorCb8
namespace Go.Proofs.YtghefhmncpmflaaDoor
open Go.RowKit Go.Rg

theorem open_gen (k : Int) (c : Nat) (s : ByteArray) (hk : 0 ≤ k ∧ k < 64) (hs : s.size = 64) (bc : Nat) (C C' : CSt) (m : Nat) (hm : m ≤ 10000) (S : Nat → Prop) (bt br : Nat) (ev g1v g2v : Int → Nat) (ST : Nat → Prop) (w : World) (h : CP w bc C S bt br ev g1v g2v ST)
    (hi : LI C m) (hc : c < C.data) (ha : atC C k = some C') :
    Calls Tryd.prog 60 #[.pointer (some ⟨bc, 0, none⟩), .int .i64 k, .int .i64 c, .string s] w (OpenPost k bc C' S bt br w) := by
  have hl := hi.len
  have hmo := hi.most
  have hrn : C.rn < maxLen := by have := hi.rn; unfold maxLen; omega
  obtain ⟨hi', hroom, hCC | ⟨v, rfl, hpv, hmem, hne⟩⟩ := atC_some hi ha
  · subst hCC
    exact open_any k c s hk.1 hk.2 hs bc C' S bt br ev g1v g2v ST w h hc hi.data hi.ci (by omega) hroom hrn
  · have hE : C.rows k = none := by
      unfold atC at ha
      split at ha
      · have e := congrArg CSt.rows (Option.some.inj ha)
        have e2 := congrFun e v
        have := (hi.ci.link v).2 hmem
        rw [e2] at this
        simp [dropC] at this
      · rename_i hr
        simpa using hr
    have hfull : ¬ (C.plain.length + C.dear.length < C.most) := fun hlt => by
      unfold atC placeC at ha
      rw [hE] at ha
      simp only [Option.isSome_none, Bool.false_eq_true, if_false, if_pos hlt] at ha
      have e := congrArg CSt.rows (Option.some.inj ha)
      have e2 := congrFun e v
      have := (hi.ci.link v).2 hmem
      rw [e2] at this
      simp [dropC] at this
    have hvict : vict C.pins (C.plain ++ C.dear) = some v := by
      unfold atC placeC at ha
      rw [hE] at ha
      simp only [Option.isSome_none, Bool.false_eq_true, if_false, if_neg hfull] at ha
      obtain ⟨v', hv', he⟩ := Option.map_eq_some_iff.1 ha
      have e := congrFun (congrArg CSt.rows he) v
      have e3 : C.rows v ≠ none := fun e3 => by have := (hi.ci.link v).2 hmem; rw [e3] at this; cases this
      simp only [dropC, if_true] at e
      by_cases e4 : v = v'
      · rw [e4]; exact hv'
      · rw [if_neg e4] at e; exact absurd e e3
    have hE' : (dropC C v).rows k = none := by simp [dropC, hE]
    have hout := hi'.ci.out hE'
    have hlen := dropC_len C v
    refine (open_new2 k c s hk.1 hk.2 hs bc C (dropC C v) S bt br ev g1v g2v ST w h rfl hc hi.data hE hE' (by omega) hout.1 hout.2 (hroom hE') hrn (place_vict v bc C S bt br ev g1v g2v ST w h (by omega) (by omega) hi.wf hi.pv hvict)).mono ?_
    rintro e w' ⟨ev', g1v', g2v', ST', he, hcp, hch⟩
    have : openC (dropC C v) k = { dropC C v with plain := (dropC C v).plain ++ [k], rows := fun j => if j = k then some E0 else (dropC C v).rows j, rn := (dropC C v).rn + 1 } := by
      simp only [openC, entOf, hE', Option.isSome_none, Bool.false_eq_true, if_false, Option.getD_none]
    exact ⟨ev', g1v', g2v', ST', he, by rw [this]; exact hcp, hch⟩

set_option maxHeartbeats 2000000 in
theorem open_full (k : Int) (c : Nat) (s : ByteArray) (hk : 0 ≤ k ∧ k < 64) (hs : s.size = 64) (bc : Nat) (C : CSt) (m : Nat) (S : Nat → Prop) (bt br : Nat) (ev g1v g2v : Int → Nat) (ST : Nat → Prop) (w : World) (h : CP w bc C S bt br ev g1v g2v ST)
    (hi : LI C m) (hc : c < C.data) (ha : atC C k = none) :
    Calls Tryd.prog 60 #[.pointer (some ⟨bc, 0, none⟩), .int .i64 k, .int .i64 c, .string s] w fun e w' => e = .returned (.tuple #[.pointer none, .int .i64 10]) ∧ Ext w w' := by
  obtain ⟨hE, hfull, hv⟩ := atC_none ha
  have hl := hi.len
  have hmo := hi.most
  have hwf : (Lit.int .i64 k).wf = true := WalkArith.wf_i64 (by omega)
  have HR := Lib.hid (row_any k hwf bc C S bt br ev g1v g2v ST w h)
  rw [hE] at HR
  have HP := Lib.hid (place_full bc C S bt br ev g1v g2v ST w h (by omega) hfull hi.wf hi.pv hv)
  have c0 := h.blk.cells 0
  have c1 := h.blk.cells 1
  simp at c0 c1
  have d1 : decide (k < 0) = false := by simp; omega
  have d2 : decide (64 ≤ k) = false := by simp; omega
  have d3 : decide ((c : Int) < 0) = false := by simp
  have d4 : decide (C.data ≤ c) = false := by simp; omega
  have d5 : ((s.size : Int) != 64) = false := by rw [hs]; rfl
  clear h hi hE hwf hs hk hc ha hfull hv hl hmo
  go_enter Tryd.func60, Tryd.ntmps60
  go_wp2_with fail
  refine HR.out.mono ?_
  rintro e w1 ⟨rfl, rfl⟩
  go_wp2_with fail
  refine HP.out.mono ?_
  rintro e w2 ⟨rfl, hx⟩
  have HX := Lib.hid hx
  clear hx
  go_wp2_with fail
  go_ret2
  exact ⟨rfl, HX.out⟩

theorem put_full (k : Int) (c : Nat) (s : ByteArray) (bc : Nat) (w : World) (hopen : Calls Tryd.prog 60 #[.pointer (some ⟨bc, 0, none⟩), .int .i64 k, .int .i64 c, .string s] w fun e w' => e = .returned (.tuple #[.pointer none, .int .i64 10]) ∧ Ext w w') :
    Calls Tryd.prog 26 #[.pointer (some ⟨bc, 0, none⟩), .int .i64 k, .int .i64 c, .string s] w fun e w' => e = .returned (.int .i64 10) ∧ Ext w w' := by
  have HO := Lib.hid hopen
  clear hopen
  go_enter Tryd.func26, Tryd.ntmps26
  go_wp2_with fail
  refine HO.out.mono ?_
  rintro e w1 ⟨rfl, hx⟩
  have HX := Lib.hid hx
  clear hx
  go_wp2_with fail
  go_ret
  exact ⟨rfl, HX.out⟩
theorem fill_full (k : Int) (c : Nat) (s : ByteArray) (bc : Nat) (w : World) (hopen : Calls Tryd.prog 60 #[.pointer (some ⟨bc, 0, none⟩), .int .i64 k, .int .i64 c, .string s] w fun e w' => e = .returned (.tuple #[.pointer none, .int .i64 10]) ∧ Ext w w') :
    Calls Tryd.prog 27 #[.pointer (some ⟨bc, 0, none⟩), .int .i64 k, .int .i64 c, .string s] w fun e w' => e = .returned (.int .i64 10) ∧ Ext w w' := by
  have HO := Lib.hid hopen
  clear hopen
  go_enter Tryd.func27, Tryd.ntmps27
  go_wp2_with fail
  refine HO.out.mono ?_
  rintro e w1 ⟨rfl, hx⟩
  have HX := Lib.hid hx
  clear hx
  go_wp2_with fail
  go_ret
  exact ⟨rfl, HX.out⟩

/-- A law's cache; the blocks in X are others'. -/
def CacheX (X : Nat → Prop) (w0 w : World) (bc : Nat) (C : CSt) : Prop := CacheAt w bc C (fun k => w0.heap.size ≤ k ∧ ¬ X k) ∧ Ext w0 w ∧ ∀ k, X k → k < w.heap.size
def XPost (v : Value) (X : Nat → Prop) (bc : Nat) (C : CSt) (w0 w : World) (e : Ending) (w' : World) : Prop := e = .returned v ∧ CacheX X w0 w' bc C ∧ ∀ k, X k → w'.heap[k]? = w.heap[k]?
theorem x_step {X : Nat → Prop} {w0 w w' : World} {bc : Nat} {C : CSt} (hX : ∀ k, X k → k < w.heap.size) (hx : Ext w0 w) (hc : CacheAt w' bc C (Grow (fun k => w0.heap.size ≤ k ∧ ¬ X k) w w')) (hch : Chg (fun k => w0.heap.size ≤ k ∧ ¬ X k) w w') :
    CacheX X w0 w' bc C ∧ ∀ k, X k → w'.heap[k]? = w.heap[k]? :=
  ⟨⟨hc.mono (fun k _ hk => hk.elim id (fun hh => ⟨Nat.le_trans hx.size hh.1, fun hxx => by have := hX k hxx; omega⟩)), Chg.none ((Chg.of_ext (S := fun _ => False) hx).trans' hch (fun i hi hh => by omega)), fun k hk => Nat.lt_of_lt_of_le (hX k hk) hch.size⟩,
   fun k hk => hch.block k (hX k hk) (fun hh => hh.2 hk)⟩
theorem x_ext {X : Nat → Prop} {w0 w w' : World} {bc : Nat} {C : CSt} (h : CacheX X w0 w bc C) (hx : Ext w w') : CacheX X w0 w' bc C ∧ ∀ k, X k → w'.heap[k]? = w.heap[k]? :=
  ⟨⟨h.1.ext hx, h.2.1.trans hx, fun k hk => Nat.lt_of_lt_of_le (h.2.2 k hk) hx.size⟩, fun k hk => hx.block (h.2.2 k hk)⟩
/-- Others' blocks are written. -/
theorem CacheX.other {X : Nat → Prop} {w0 w w' : World} {bc : Nat} {C : CSt} (h : CacheX X w0 w bc C) {r : Nat} (hr : X r) (hw0 : w0.heap.size ≤ r) (hg : w.grownBy w' (some r)) : CacheX X w0 w' bc C := by
  have c : Chg (fun k => k = r) w w' := (Chg.refl (S := fun k => k = r) w).grown hg (fun i hi _ => by cases hi; rfl)
  exact ⟨h.1.chg c (fun k hk e => hk.2 (e ▸ hr)), Chg.none ((Chg.of_ext (S := fun _ => False) h.2.1).trans' c (fun i hi hh => by omega)), fun k hk => Nat.lt_of_lt_of_le (h.2.2 k hk) c.size⟩
/-- A block more is another's, one that is new; one less. -/
theorem CacheX.more {X Y : Nat → Prop} {w0 w : World} {bc : Nat} {C : CSt} (h : CacheX X w0 w bc C) {w' : World} (hx : Ext w w') (hY : ∀ k, Y k → X k ∨ (w.heap.size ≤ k ∧ k < w'.heap.size)) : CacheX Y w0 w' bc C :=
  ⟨(h.1.mono (T := fun k => w0.heap.size ≤ k ∧ ¬ Y k) (fun k hk hh => ⟨hh.1, fun hy => (hY k hy).elim hh.2 (fun q => by omega)⟩)).ext hx, h.2.1.trans hx, fun k hk => (hY k hk).elim (fun q => Nat.lt_of_lt_of_le (h.2.2 k q) hx.size) (fun q => q.2)⟩
theorem CacheX.less {X Y : Nat → Prop} {w0 w : World} {bc : Nat} {C : CSt} (h : CacheX X w0 w bc C) (hY : ∀ k, Y k → X k) : CacheX Y w0 w bc C :=
  h.more (Ext.refl w) (fun k hk => .inl (hY k hk))

section
variable {C C' : CSt} {t : Int} {k : Nat} {b : ByteArray} {m bc : Nat} {w0 w : World} {X : Nat → Prop}
theorem g_put (h : CacheX X w0 w bc C) (hi : LI C m) (hm : m ≤ 10000) (ht : 0 ≤ t ∧ t < 64) (hk : k < C.data) (hb : b.size = 64) (ha : atC C t = some C') :
    Calls Tryd.prog 26 #[.pointer (some ⟨bc, 0, none⟩), .int .i64 t, .int .i64 k, .string b] w (XPost (.int .i64 0) X bc (putC C' t k b) w0 w) := by
  obtain ⟨⟨bt, br, ev, g1v, g2v, ST, hc⟩, hx, hX⟩ := h
  obtain ⟨hi', _, hcc⟩ := atC_some hi ha
  have hd : C'.data = C.data := by rcases hcc with rfl | ⟨v, rfl, _⟩ <;> rfl
  exact (put_open t k b ht.1 ht.2 bc C' _ bt br w (open_gen t k b ht hb bc C C' m hm _ bt br ev g1v g2v ST w hc hi hk ha) (by rw [hd]; exact hk) hi'.data hi'.ci (by have := hi'.pn; unfold maxLen; omega)).mono fun _ _ ⟨h1, h2, h3⟩ => ⟨h1, x_step hX hx h2 h3⟩
theorem g_fill (h : CacheX X w0 w bc C) (hi : LI C m) (hm : m ≤ 10000) (ht : 0 ≤ t ∧ t < 64) (hk : k < C.data) (hb : b.size = 64) (ha : atC C t = some C') :
    Calls Tryd.prog 27 #[.pointer (some ⟨bc, 0, none⟩), .int .i64 t, .int .i64 k, .string b] w (XPost (.int .i64 0) X bc (fillC C' t k b) w0 w) := by
  obtain ⟨⟨bt, br, ev, g1v, g2v, ST, hc⟩, hx, hX⟩ := h
  obtain ⟨hi', _, hcc⟩ := atC_some hi ha
  have hd : C'.data = C.data := by rcases hcc with rfl | ⟨v, rfl, _⟩ <;> rfl
  exact (fill_open t k b bc C' _ bt br w (open_gen t k b ht hb bc C C' m hm _ bt br ev g1v g2v ST w hc hi hk ha) (by rw [hd]; exact hk) hi'.data).mono fun _ _ ⟨h1, h2, h3⟩ => ⟨h1, x_step hX hx h2 h3⟩
theorem g_put_full (h : CacheX X w0 w bc C) (hi : LI C m) (ht : 0 ≤ t ∧ t < 64) (hk : k < C.data) (hb : b.size = 64) (ha : atC C t = none) :
    Calls Tryd.prog 26 #[.pointer (some ⟨bc, 0, none⟩), .int .i64 t, .int .i64 k, .string b] w (XPost (.int .i64 10) X bc C w0 w) := by
  obtain ⟨⟨bt, br, ev, g1v, g2v, ST, hc⟩, hx, hX⟩ := h
  exact (put_full t k b bc w (open_full t k b ht hb bc C m _ bt br ev g1v g2v ST w hc hi hk ha)).mono fun _ _ ⟨h1, h2⟩ => ⟨h1, x_ext ⟨⟨bt, br, ev, g1v, g2v, ST, hc⟩, hx, hX⟩ h2⟩
theorem g_fill_full (h : CacheX X w0 w bc C) (hi : LI C m) (ht : 0 ≤ t ∧ t < 64) (hk : k < C.data) (hb : b.size = 64) (ha : atC C t = none) :
    Calls Tryd.prog 27 #[.pointer (some ⟨bc, 0, none⟩), .int .i64 t, .int .i64 k, .string b] w (XPost (.int .i64 10) X bc C w0 w) := by
  obtain ⟨⟨bt, br, ev, g1v, g2v, ST, hc⟩, hx, hX⟩ := h
  exact (fill_full t k b bc w (open_full t k b ht hb bc C m _ bt br ev g1v g2v ST w hc hi hk ha)).mono fun _ _ ⟨h1, h2⟩ => ⟨h1, x_ext ⟨⟨bt, br, ev, g1v, g2v, ST, hc⟩, hx, hX⟩ h2⟩
theorem g_get (h : CacheX X w0 w bc C) (hi : LI C m) (ht : (Lit.int .i64 t).wf = true) (hk : k < C.data) :
    Calls Tryd.prog 30 #[.pointer (some ⟨bc, 0, none⟩), .int .i64 t, .int .i64 k] w (XPost (.tuple #[.string (gotS (entOf C t).n1 (entOf C t).f1 k), .bool ((entOf C t).n1.testBit k)]) X bc (getC C t k) w0 w) :=
  (get_any t k ht bc C _ w h.1 hk hi.data hi.ci (by have := hi.len; have := hi.most; omega)).mono fun _ _ ⟨h1, h2, h3⟩ => ⟨h1, x_step h.2.2 h.2.1 h2 h3⟩
theorem g_done (h : CacheX X w0 w bc C) (hi : LI C m) (ht : (Lit.int .i64 t).wf = true) (hT : TabAt 1 Lib.deBruijn64tab w) {E : Ent} (hr : C.rows t = some E) :
    Calls Tryd.prog 28 #[.pointer (some ⟨bc, 0, none⟩), .int .i64 t] w (XPost (.bool true) X bc (doneC C t) w0 w) :=
  (done_some t ht bc C _ w h.1 E hr hi.data hi.ci (hi.b1 t E hr) hT).mono fun _ _ ⟨h1, h2, h3⟩ => ⟨h1, x_step h.2.2 h.2.1 h2 h3⟩
theorem g_done_none (h : CacheX X w0 w bc C) (ht : (Lit.int .i64 t).wf = true) (hr : C.rows t = none) :
    Calls Tryd.prog 28 #[.pointer (some ⟨bc, 0, none⟩), .int .i64 t] w (XPost (.bool false) X bc C w0 w) :=
  (done_none t ht bc C _ w h.1 hr).mono fun _ _ ⟨h1, h2⟩ => ⟨h1, by rw [h2]; exact x_ext h (Ext.refl _)⟩
theorem g_drop (h : CacheX X w0 w bc C) (ht : (Lit.int .i64 t).wf = true) {E : Ent} (hr : C.rows t = some E) (hd : E.dt = 0) :
    Calls Tryd.prog 31 #[.pointer (some ⟨bc, 0, none⟩), .int .i64 t] w (XPost (.bool true) X bc (dropC C t) w0 w) :=
  (cdrop_yes t ht bc C _ w h.1 E hr hd).mono fun _ _ ⟨h1, h2, h3⟩ => ⟨h1, x_step h.2.2 h.2.1 h2 h3⟩
theorem g_drop_not (h : CacheX X w0 w bc C) (ht : (Lit.int .i64 t).wf = true) (hr : ∀ E, C.rows t = some E → E.dt ≠ 0) :
    Calls Tryd.prog 31 #[.pointer (some ⟨bc, 0, none⟩), .int .i64 t] w (XPost (.bool false) X bc C w0 w) := by
  cases hE : C.rows t with
  | none => exact (cdrop_none t ht bc C _ w h.1 hE).mono fun _ _ ⟨h1, h2⟩ => ⟨h1, x_ext h h2⟩
  | some E => exact (cdrop_dirty t ht bc C _ w h.1 E hE (hr E hE)).mono fun _ _ ⟨h1, h2⟩ => ⟨h1, x_ext h h2⟩
end
end Go.Proofs.YtghefhmncpmflaaDoor
