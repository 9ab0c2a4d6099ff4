/-
  Plain law: what stays true of a cache of one stripe, of one column of it, behind Put, Fill, Done, Get.
-/
import Derived.Test.YtghefhmncpmflaaDoorCa17
namespace Go.Proofs.YtghefhmncpmflaaDoor
open Go.RowKit Go.Rg

structure OI (C : CSt) (t : Int) (k : Nat) (old now : ByteArray) (dirty : Bool) (m : Nat) : Prop where
  ci : CI C
  data : k < C.data ∧ C.data ≤ 30
  most : 1 ≤ C.most
  only : ∀ j, j ≠ t → C.rows j = none
  o1 : gotS (entOf C t).n2 (entOf C t).f2 k = old
  o2 : (entOf C t).n2.testBit k = decide (old.size = 64)
  o3 : old = ⟨#[]⟩ ∨ old.size = 64
  a1 : gotS (entOf C t).n1 (entOf C t).f1 k = now
  a2 : (entOf C t).n1.testBit k = decide (now.size = 64)
  a3 : now = ⟨#[]⟩ ∨ now.size = 64
  a4 : (C.rows t).isSome = decide (now.size = 64)
  d1 : (entOf C t).dt.testBit k = dirty
  b1 : ∀ i, (entOf C t).n1.testBit i = true → i < C.data
  pn : C.pn ≤ m
  rn : C.rn ≤ m
section
variable {C : CSt} {t : Int} {k : Nat} {old now b : ByteArray} {dirty : Bool} {m : Nat}
theorem OI.len (h : OI C t k old now dirty m) : C.plain.length + C.dear.length ≤ 1 := by
  have hall : ∀ j ∈ C.plain ++ C.dear, j = t := fun j hj => by
    have h1 := (h.ci.link j).2 hj
    by_cases e : j = t
    · exact e
    · rw [h.only j e] at h1; cases h1
  have hnd := h.ci.nd
  rw [← List.length_append]
  generalize C.plain ++ C.dear = l at *
  match l, hnd, hall with
  | [], _, _ => simp
  | [_], _, _ => simp
  | x :: y :: r, hnd, hall =>
    have e1 := hall x (by simp)
    have e2 := hall y (by simp)
    rw [List.nodup_cons] at hnd
    exact absurd (by rw [e1, e2]; simp) hnd.1
theorem OI.room (h : OI C t k old now dirty m) : C.rows t = none → C.plain.length + C.dear.length < C.most := fun hr => by
  have hnil : C.plain ++ C.dear = [] := by
    rw [List.eq_nil_iff_forall_not_mem]
    intro j hj
    have h1 := (h.ci.link j).2 hj
    by_cases e : j = t
    · rw [e, hr] at h1; cases h1
    · rw [h.only j e] at h1; cases h1
  have hm := h.most
  rw [← List.length_append, hnil]
  exact hm
theorem OI.start (data most limit : Nat) (hd : k < data ∧ data ≤ 30) (hm : 1 ≤ most) : OI ⟨data, most, limit, [], [], fun _ => none, 0, fun _ => none, 0⟩ t k ⟨#[]⟩ ⟨#[]⟩ false 0 where
  ci := ⟨by simp, fun j => by simp⟩
  data := hd
  most := hm
  only := fun _ _ => rfl
  o1 := by simp [gotS, entOf, E0]
  o2 := by simp [entOf, E0]; decide
  o3 := .inl rfl
  a1 := by simp [gotS, entOf, E0]
  a2 := by simp [entOf, E0]; decide
  a3 := .inl rfl
  a4 := by simp; decide
  d1 := by simp [entOf, E0]
  b1 := fun i hi => by simp [entOf, E0] at hi
  pn := Nat.le_refl _
  rn := Nat.le_refl _
theorem OI.put (h : OI C t k old now dirty m) (hb : b.size = 64) : OI (putC C t k b) t k old b true (m + 1) := by
  have he : entOf (putC C t k b) t = putE (entOf C t) k b := by simp [entOf, putC]
  exact {
    ci := (putC_inv C t k b h.ci).1
    data := h.data
    most := h.most
    only := fun j hj => by simp [putC, hj, h.only j hj]
    o1 := by rw [he]; exact h.o1
    o2 := by rw [he]; exact h.o2
    o3 := h.o3
    a1 := by rw [he]; simp [gotS, putE, Nat.testBit_or, Nat.testBit_two_pow]
    a2 := by rw [he]; simp [putE, Nat.testBit_or, Nat.testBit_two_pow, hb]
    a3 := .inr hb
    a4 := by simp [putC, hb]
    d1 := by rw [he]; simp [putE, Nat.testBit_or, Nat.testBit_two_pow]
    b1 := fun i hi => by
      rw [he] at hi
      simp only [putE, Nat.testBit_or, Nat.testBit_two_pow, Bool.or_eq_true, decide_eq_true_eq] at hi
      rcases hi with hi | hi
      · exact h.b1 i hi
      · exact hi ▸ h.data.1
    pn := Nat.succ_le_succ h.pn
    rn := Nat.succ_le_succ h.rn }
theorem OI.fill (h : OI C t k old now dirty m) (hb : b.size = 64) : OI (fillC C t k b) t k b (if dirty then now else b) dirty (m + 1) := by
  have he : entOf (fillC C t k b) t = fillE (entOf C t) k b := by simp [entOf, fillC]
  have hdn : dirty = true → now.size = 64 := fun hd => by
    have h4 := h.a4
    cases hr : C.rows t with
    | none =>
      have : entOf C t = E0 := by simp [entOf, hr]
      have h1 := h.d1
      rw [this, hd] at h1
      simp [E0] at h1
    | some E => rw [hr] at h4; simpa using h4.symm
  have hd1 := h.d1
  exact {
    ci := (fillC_inv C t k b h.ci).1
    data := h.data
    most := h.most
    only := fun j hj => by simp [fillC, hj, h.only j hj]
    o1 := by rw [he]; unfold fillE; split <;> simp [gotS, Nat.testBit_or, Nat.testBit_two_pow]
    o2 := by rw [he]; unfold fillE; split <;> simp [Nat.testBit_or, Nat.testBit_two_pow, hb]
    o3 := .inr hb
    a1 := by
      rw [he]; unfold fillE; rw [hd1]
      cases dirty
      · simp [gotS, Nat.testBit_or, Nat.testBit_two_pow]
      · simpa using h.a1
    a2 := by
      rw [he]; unfold fillE; rw [hd1]
      cases dirty
      · simp [Nat.testBit_or, Nat.testBit_two_pow, hb]
      · simpa using h.a2
    a3 := by
      cases dirty
      · exact .inr (by simpa using hb)
      · simpa using h.a3
    a4 := by
      cases dirty
      · simp [fillC, hb]
      · simp [fillC, hdn rfl]
    d1 := by rw [he]; unfold fillE; split <;> exact hd1
    b1 := fun i hi => by
      rw [he] at hi
      unfold fillE at hi
      rw [hd1] at hi
      cases dirty
      · simp only [Bool.false_eq_true, if_false, Nat.testBit_or, Nat.testBit_two_pow, Bool.or_eq_true, decide_eq_true_eq] at hi
        rcases hi with hi | hi
        · exact h.b1 i hi
        · exact hi ▸ h.data.1
      · exact h.b1 i (by simpa using hi)
    pn := Nat.le_succ_of_le h.pn
    rn := Nat.succ_le_succ h.rn }
theorem OI.done (h : OI C t k old now dirty m) {E : Ent} (hE : C.rows t = some E) : OI (doneC C t) t k now now false (m + 1) := by
  have he : entOf (doneC C t) t = doneE (entOf C t) := by simp [entOf, doneC]
  have hn : now.size = 64 := by have := h.a4; rw [hE] at this; simpa using this.symm
  have hbit : (entOf C t).n1.testBit k = true := by rw [h.a2]; simpa using hn
  exact {
    ci := h.ci.rows (fun j => by by_cases e : j = t <;> simp [e, hE])
    data := h.data
    most := h.most
    only := fun j hj => by simp [doneC, hj, h.only j hj]
    o1 := by
      rw [he, ← h.a1]
      simp [gotS, doneE, Nat.testBit_or, hbit]
    o2 := by rw [he]; simp [doneE, Nat.testBit_or, hbit, hn]
    o3 := .inr hn
    a1 := by rw [he]; exact h.a1
    a2 := by rw [he]; exact h.a2
    a3 := h.a3
    a4 := by simp [doneC, hn]
    d1 := by rw [he]; simp [doneE]
    b1 := fun i hi => h.b1 i (by rw [he] at hi; exact hi)
    pn := Nat.le_succ_of_le h.pn
    rn := Nat.le_succ_of_le h.rn }
theorem OI.get (h : OI C t k old now dirty m) : OI (getC C t k) t k old now dirty m := by
  have hr : (getC C t k).rows = C.rows := by unfold getC; split <;> rfl
  have he : entOf (getC C t k) t = entOf C t := by simp [entOf, hr]
  have hx : (getC C t k).data = C.data ∧ (getC C t k).most = C.most ∧ (getC C t k).pn = C.pn ∧ (getC C t k).rn = C.rn := by unfold getC; split <;> exact ⟨rfl, rfl, rfl, rfl⟩
  exact { ci := (getC_inv C t k h.ci).1, data := by rw [hx.1]; exact h.data, most := by rw [hx.2.1]; exact h.most, only := fun j hj => by rw [hr]; exact h.only j hj, o1 := by rw [he]; exact h.o1, o2 := by rw [he]; exact h.o2, o3 := h.o3, a1 := by rw [he]; exact h.a1, a2 := by rw [he]; exact h.a2, a3 := h.a3,
          a4 := by rw [hr]; exact h.a4, d1 := by rw [he]; exact h.d1, b1 := by rw [he, hx.1]; exact h.b1, pn := by rw [hx.2.2.1]; exact h.pn, rn := by rw [hx.2.2.2]; exact h.rn }
theorem OI.le (h : OI C t k old now dirty m) {n : Nat} (hn : m ≤ n) : OI C t k old now dirty n := { h with pn := Nat.le_trans h.pn hn, rn := Nat.le_trans h.rn hn }
end

/-- A cache that a law has made, behind a step. -/
theorem cache_step {w0 w w' : World} {bc : Nat} {C : CSt} (hx : Ext w0 w) (hc : CacheAt w' bc C (Grow (fun k => w0.heap.size ≤ k) w w')) (hch : Chg (fun k => w0.heap.size ≤ k) w w') :
    CacheAt w' bc C (fun k => w0.heap.size ≤ k) ∧ Ext w0 w' :=
  ⟨hc.mono (fun k _ hk => hk.elim id (fun hh => Nat.le_trans hx.size hh.1)), Chg.none ((Chg.of_ext (S := fun _ => False) hx).trans' hch (fun i hi hh => by omega))⟩

def CacheI (w0 w : World) (bc : Nat) (C : CSt) : Prop := CacheAt w bc C (fun k => w0.heap.size ≤ k) ∧ Ext w0 w
theorem CacheI.ext {w0 w w' : World} {bc : Nat} {C : CSt} (h : CacheI w0 w bc C) (hx : Ext w w') : CacheI w0 w' bc C := ⟨h.1.ext hx, h.2.trans hx⟩
def KPost (v : Value) (bc : Nat) (C : CSt) (w0 : World) (e : Ending) (w' : World) : Prop := e = .returned v ∧ CacheI w0 w' bc C

section
variable {C : CSt} {t : Int} {k : Nat} {old now b : ByteArray} {dirty : Bool} {m bc : Nat} {w0 w : World}
theorem o_put (h : CacheI w0 w bc C) (hi : OI C t k old now dirty m) (hm : m ≤ 1000) (ht : 0 ≤ t ∧ t < 64) (hb : b.size = 64) :
    Calls Tryd.prog 26 #[.pointer (some ⟨bc, 0, none⟩), .int .i64 t, .int .i64 k, .string b] w (KPost (.int .i64 0) bc (putC C t k b) w0) :=
  (put_any t k b ht.1 ht.2 hb bc C _ w h.1 hi.data.1 hi.data.2 hi.ci (by have := hi.len; omega) hi.room (by have := hi.rn; unfold maxLen; omega) (by have := hi.pn; unfold maxLen; omega)).mono fun _ _ ⟨h1, h2, h3⟩ => ⟨h1, cache_step h.2 h2 h3⟩
theorem o_fill (h : CacheI w0 w bc C) (hi : OI C t k old now dirty m) (hm : m ≤ 1000) (ht : 0 ≤ t ∧ t < 64) (hb : b.size = 64) :
    Calls Tryd.prog 27 #[.pointer (some ⟨bc, 0, none⟩), .int .i64 t, .int .i64 k, .string b] w (KPost (.int .i64 0) bc (fillC C t k b) w0) :=
  (fill_any t k b ht.1 ht.2 hb bc C _ w h.1 hi.data.1 hi.data.2 hi.ci (by have := hi.len; omega) hi.room (by have := hi.rn; unfold maxLen; omega)).mono fun _ _ ⟨h1, h2, h3⟩ => ⟨h1, cache_step h.2 h2 h3⟩
theorem o_get (h : CacheI w0 w bc C) (hi : OI C t k old now dirty m) (ht : 0 ≤ t ∧ t < 64) :
    Calls Tryd.prog 30 #[.pointer (some ⟨bc, 0, none⟩), .int .i64 t, .int .i64 k] w (KPost (.tuple #[.string now, .bool (decide (now.size = 64))]) bc (getC C t k) w0) :=
  (get_any t k (WalkArith.wf_i64 (by omega)) bc C _ w h.1 hi.data.1 hi.data.2 hi.ci (by have := hi.len; omega)).mono fun _ _ ⟨h1, h2, h3⟩ => ⟨by rw [h1, hi.a1, hi.a2], cache_step h.2 h2 h3⟩
theorem o_old (h : CacheI w0 w bc C) (hi : OI C t k old now dirty m) (ht : 0 ≤ t ∧ t < 64) :
    Calls Tryd.prog 29 #[.pointer (some ⟨bc, 0, none⟩), .int .i64 t, .int .i64 k] w (KPost (.tuple #[.string old, .bool (decide (old.size = 64))]) bc C w0) :=
  (old_any t k (WalkArith.wf_i64 (by omega)) bc C _ w h.1 hi.data.1 hi.data.2).mono fun _ _ ⟨h1, h2⟩ => ⟨by rw [h1, hi.o1, hi.o2], h.ext h2⟩
theorem o_done_none (h : CacheI w0 w bc C) (ht : 0 ≤ t ∧ t < 64) (hr : C.rows t = none) :
    Calls Tryd.prog 28 #[.pointer (some ⟨bc, 0, none⟩), .int .i64 t] w (KPost (.bool false) bc C w0) :=
  (done_none t (WalkArith.wf_i64 (by omega)) bc C _ w h.1 hr).mono fun _ _ ⟨h1, h2⟩ => ⟨h1, by rw [h2]; exact h⟩
theorem o_done_some (h : CacheI w0 w bc C) (hi : OI C t k old now dirty m) (ht : 0 ≤ t ∧ t < 64) (hT : TabAt 1 Lib.deBruijn64tab w) {E : Ent} (hr : C.rows t = some E) :
    Calls Tryd.prog 28 #[.pointer (some ⟨bc, 0, none⟩), .int .i64 t] w (KPost (.bool true) bc (doneC C t) w0) :=
  (done_some t (WalkArith.wf_i64 (by omega)) bc C _ w h.1 E hr hi.data.2 hi.ci (by have := hi.b1; simp only [entOf, hr, Option.getD_some] at this; exact this) hT).mono fun _ _ ⟨h1, h2, h3⟩ => ⟨h1, cache_step h.2 h2 h3⟩
end
end Go.Proofs.YtghefhmncpmflaaDoor
