/-
  A cache's calls whatever room there is, and what stays true of it behind each.
-/
import Derived.Test.YtghefhmncpmflaaDoorCb7
import Derived.Test.YtghefhmncpmflaaDoorCa18
namespace Go.Proofs.YtghefhmncpmflaaDoor
open Go.RowKit Go.Rg

/-- The state in which a stripe is to come: with a place for it. -/
def placeC (C : CSt) : Option CSt := if C.plain.length + C.dear.length < C.most then some C else (vict C.pins (C.plain ++ C.dear)).map (dropC C)
def atC (C : CSt) (k : Int) : Option CSt := if (C.rows k).isSome then some C else placeC C

/-- What is true of every cache. -/
structure LI (C : CSt) (m : Nat) : Prop where
  ci : CI C
  keys : ∀ j ∈ C.plain ++ C.dear, 0 ≤ j ∧ j < 64
  pv : ∀ j v, C.pins j = some v → v = .bool true
  pd : ∀ j, (C.pins j).isSome = true ↔ ∃ E, C.rows j = some E ∧ E.dt ≠ 0
  len : C.plain.length + C.dear.length ≤ C.most
  most : 1 ≤ C.most ∧ C.most ≤ 64
  data : C.data ≤ 30
  b1 : ∀ j E, C.rows j = some E → ∀ i, E.n1.testBit i = true → i < C.data
  dn : ∀ j E, C.rows j = some E → ∀ i, E.dt.testBit i = true → E.n1.testBit i = true
  pn : C.pn ≤ m
  rn : C.rn ≤ m
theorem LI.le {C : CSt} {m n : Nat} (h : LI C m) (hn : m ≤ n) : LI C n := { h with pn := Nat.le_trans h.pn hn, rn := Nat.le_trans h.rn hn }
theorem LI.wf {C : CSt} {m : Nat} (h : LI C m) : ∀ k ∈ C.plain ++ C.dear, (Lit.int .i64 k).wf = true := fun k hk => WalkArith.wf_i64 (by have := h.keys k hk; omega)
theorem LI.start (data most limit : Nat) (hm : 1 ≤ most ∧ most ≤ 64) (hd : data ≤ 30) : LI ⟨data, most, limit, [], [], fun _ => none, 0, fun _ => none, 0⟩ 0 where
  ci := ⟨by simp, fun j => by simp⟩
  keys := fun j hj => by simp at hj
  pv := fun _ _ h => by cases h
  pd := fun j => by simp
  len := Nat.zero_le _
  most := hm
  data := hd
  b1 := fun _ _ h => by cases h
  dn := fun _ _ h => by cases h
  pn := Nat.le_refl _
  rn := Nat.le_refl _

theorem dropC_keys {C : CSt} {k j : Int} (h : j ∈ (dropC C k).plain ++ (dropC C k).dear) : j ∈ C.plain ++ C.dear := by
  simp only [dropC, List.mem_append] at h ⊢
  exact h.imp List.mem_of_mem_erase List.mem_of_mem_erase
/-- Behind the going of a stripe. -/
theorem LI.drop {C : CSt} {m : Nat} (h : LI C m) (k : Int) : LI (dropC C k) m where
  ci := dropC_inv C k h.ci
  keys := fun j hj => h.keys j (dropC_keys hj)
  pv := fun j v hv => by
    simp only [dropC] at hv
    split at hv
    · cases hv
    · exact h.pv j v hv
  pd := fun j => by
    simp only [dropC]
    by_cases e : j = k
    · simp [e]
    · simp only [e, if_false]; exact h.pd j
  len := Nat.le_trans (dropC_len C k) h.len
  most := h.most
  data := h.data
  b1 := fun j E hE => by
    simp only [dropC] at hE
    split at hE
    · cases hE
    · exact h.b1 j E hE
  dn := fun j E hE => by
    simp only [dropC] at hE
    split at hE
    · cases hE
    · exact h.dn j E hE
  pn := h.pn
  rn := h.rn

/-- What the coming of a stripe may take away: a stripe that isn't dirty. -/
theorem atC_some {C C' : CSt} {m : Nat} {k : Int} (h : LI C m) (ha : atC C k = some C') :
    LI C' m ∧ (C'.rows k = none → C'.plain.length + C'.dear.length < C'.most) ∧ (C' = C ∨ ∃ v, C' = dropC C v ∧ C.pins v = none ∧ v ∈ C.plain ++ C.dear ∧ v ≠ k) := by
  unfold atC placeC at ha
  split at ha
  · rename_i hr
    cases ha
    exact ⟨h, fun h0 => by rw [h0] at hr; simp at hr, .inl rfl⟩
  · rename_i hr
    split at ha
    · rename_i hl
      cases ha
      exact ⟨h, fun _ => hl, .inl rfl⟩
    · rename_i hl
      obtain ⟨v, hv, rfl⟩ := Option.map_eq_some_iff.1 ha
      have hmem := List.mem_of_find?_eq_some hv
      have hp := List.find?_some hv
      refine ⟨h.drop v, fun _ => ?_, .inr ⟨v, rfl, by simpa using hp, hmem, fun e => ?_⟩⟩
      · have h1 := dropC_less C v hmem
        have h2 := h.len
        have h3 : (dropC C v).most = C.most := rfl
        omega
      · have := (h.ci.link v).2 hmem
        rw [e] at this; exact hr this
/-- Where none is taken away there is none that isn't pinned. -/
theorem atC_none {C : CSt} {k : Int} (ha : atC C k = none) : C.rows k = none ∧ C.most ≤ C.plain.length + C.dear.length ∧ vict C.pins (C.plain ++ C.dear) = none := by
  unfold atC placeC at ha
  split at ha
  · cases ha
  · rename_i hr
    split at ha
    · cases ha
    · rename_i hl
      exact ⟨by simpa using hr, by omega, by simpa using ha⟩

theorem openC_mem {C : CSt} (h : CI C) (k : Int) {j : Int} (hj : j ∈ (openC C k).plain ++ (openC C k).dear) : j = k ∨ j ∈ C.plain ++ C.dear := by
  have := ((openC_inv C k h).1.link j).2 hj
  simp only [openC] at this
  by_cases e : j = k
  · exact .inl e
  · rw [if_neg e] at this
    exact .inr ((h.link j).1 this)
theorem openC_len {C : CSt} (h : CI C) (k : Int) (hroom : C.rows k = none → C.plain.length + C.dear.length < C.most) (hl : C.plain.length + C.dear.length ≤ C.most) : (openC C k).plain.length + (openC C k).dear.length ≤ C.most := by
  cases hk : C.rows k with
  | none => have := hroom hk; simp [openC, hk]; omega
  | some E =>
    have hp := (touch_perm C.limit C.plain C.dear k h.nd ((h.link k).1 (by rw [hk]; rfl))).length_eq
    simp only [List.length_append] at hp
    simp [openC, hk]; omega
theorem entOf_dn {C : CSt} {m : Nat} (h : LI C m) (k : Int) : ∀ i, (entOf C k).dt.testBit i = true → (entOf C k).n1.testBit i = true := fun i hi => by
  unfold entOf at hi ⊢
  cases hk : C.rows k with
  | none => rw [hk] at hi; simp [E0] at hi
  | some E => rw [hk] at hi; exact h.dn k E hk i (by simpa using hi)
theorem entOf_b1 {C : CSt} {m : Nat} (h : LI C m) (k : Int) : ∀ i, (entOf C k).n1.testBit i = true → i < C.data := fun i hi => by
  unfold entOf at hi
  cases hk : C.rows k with
  | none => rw [hk] at hi; simp [E0] at hi
  | some E => rw [hk] at hi; exact h.b1 k E hk i (by simpa using hi)
theorem or_pow_ne (n c : Nat) : n ||| 2 ^ c ≠ 0 := fun h => by
  have := congrArg (·.testBit c) h
  simp [Nat.testBit_or, Nat.testBit_two_pow] at this

theorem LI.put {C : CSt} {m : Nat} (h : LI C m) (k : Int) (hk : 0 ≤ k ∧ k < 64) (hroom : C.rows k = none → C.plain.length + C.dear.length < C.most) (c : Nat) (hc : c < C.data) (s : ByteArray) : LI (putC C k c s) (m + 1) where
  ci := (putC_inv C k c s h.ci).1
  keys := fun j hj => (openC_mem h.ci k hj).elim (fun e => e ▸ hk) (h.keys j)
  pv := fun j v hv => by
    simp only [putC] at hv
    split at hv
    · cases hv; rfl
    · exact h.pv j v hv
  pd := fun j => by
    simp only [putC]
    by_cases e : j = k
    · simp [e, putE, or_pow_ne]
    · simp only [e, if_false]; exact h.pd j
  len := openC_len h.ci k hroom h.len
  most := h.most
  data := h.data
  b1 := fun j E hE i hi => by
    simp only [putC] at hE
    split at hE
    · cases hE
      simp only [putE, Nat.testBit_or, Nat.testBit_two_pow, Bool.or_eq_true, decide_eq_true_eq] at hi
      rcases hi with hi | hi
      · exact entOf_b1 h k i hi
      · exact hi ▸ hc
    · exact h.b1 j E hE i hi
  dn := fun j E hE i hi => by
    simp only [putC] at hE
    split at hE
    · cases hE
      simp only [putE, Nat.testBit_or, Bool.or_eq_true] at hi ⊢
      exact hi.imp (entOf_dn h k i) id
    · exact h.dn j E hE i hi
  pn := Nat.succ_le_succ h.pn
  rn := Nat.succ_le_succ h.rn
theorem fillE_dt (E : Ent) (c : Nat) (s : ByteArray) : (fillE E c s).dt = E.dt := by unfold fillE; split <;> rfl
theorem LI.fill {C : CSt} {m : Nat} (h : LI C m) (k : Int) (hk : 0 ≤ k ∧ k < 64) (hroom : C.rows k = none → C.plain.length + C.dear.length < C.most) (c : Nat) (hc : c < C.data) (s : ByteArray) : LI (fillC C k c s) (m + 1) where
  ci := (fillC_inv C k c s h.ci).1
  keys := fun j hj => (openC_mem h.ci k hj).elim (fun e => e ▸ hk) (h.keys j)
  pv := h.pv
  pd := fun j => by
    simp only [fillC]
    by_cases e : j = k
    · subst e
      simp only [if_true, Option.some.injEq, exists_eq_left', fillE_dt]
      show (C.pins j).isSome = true ↔ _
      rw [h.pd j]
      unfold entOf
      cases hj : C.rows j with
      | none => simp [E0]
      | some E => simp
    · simp only [e, if_false]; exact h.pd j
  len := openC_len h.ci k hroom h.len
  most := h.most
  data := h.data
  b1 := fun j E hE i hi => by
    simp only [fillC] at hE
    split at hE
    · cases hE
      unfold fillE at hi
      split at hi
      · exact entOf_b1 h k i hi
      · simp only [Nat.testBit_or, Nat.testBit_two_pow, Bool.or_eq_true, decide_eq_true_eq] at hi
        rcases hi with hi | hi
        · exact entOf_b1 h k i hi
        · exact hi ▸ hc
    · exact h.b1 j E hE i hi
  dn := fun j E hE i hi => by
    simp only [fillC] at hE
    split at hE
    · cases hE
      rw [fillE_dt] at hi
      have := entOf_dn h k i hi
      unfold fillE
      split
      · exact this
      · simp [Nat.testBit_or, this]
    · exact h.dn j E hE i hi
  pn := Nat.le_succ_of_le h.pn
  rn := Nat.succ_le_succ h.rn
theorem LI.get {C : CSt} {m : Nat} (h : LI C m) (k : Int) (c : Nat) : LI (getC C k c) m := by
  have hi := getC_inv C k c h.ci
  have hr : (getC C k c).rows = C.rows := by unfold getC; split <;> rfl
  have hx : (getC C k c).data = C.data ∧ (getC C k c).most = C.most ∧ (getC C k c).pn = C.pn ∧ (getC C k c).rn = C.rn ∧ (getC C k c).pins = C.pins := by unfold getC; split <;> exact ⟨rfl, rfl, rfl, rfl, rfl⟩
  exact { ci := hi.1, keys := fun j hj => h.keys j ((h.ci.link j).1 (by rw [← hr]; exact (hi.1.link j).2 hj)), pv := by rw [hx.2.2.2.2]; exact h.pv, pd := by rw [hx.2.2.2.2, hr]; exact h.pd, len := by rw [hi.2, hx.2.1]; exact h.len, most := by rw [hx.2.1]; exact h.most, data := by rw [hx.1]; exact h.data,
          b1 := by rw [hr, hx.1]; exact h.b1, dn := by rw [hr]; exact h.dn, pn := by rw [hx.2.2.1]; exact h.pn, rn := by rw [hx.2.2.2.1]; exact h.rn }
theorem LI.done {C : CSt} {m : Nat} (h : LI C m) {k : Int} {E : Ent} (hE : C.rows k = some E) : LI (doneC C k) m where
  ci := h.ci.rows (fun j => by by_cases e : j = k <;> simp [e, hE])
  keys := h.keys
  pv := fun j v hv => by
    simp only [doneC] at hv
    split at hv
    · cases hv
    · exact h.pv j v hv
  pd := fun j => by
    simp only [doneC]
    by_cases e : j = k
    · simp [e, doneE]
    · simp only [e, if_false]; exact h.pd j
  len := h.len
  most := h.most
  data := h.data
  b1 := fun j F hF i hi => by
    simp only [doneC] at hF
    split at hF
    · cases hF; exact entOf_b1 h k i hi
    · exact h.b1 j F hF i hi
  dn := fun j F hF i hi => by
    simp only [doneC] at hF
    split at hF
    · cases hF; simp [doneE] at hi
    · exact h.dn j F hF i hi
  pn := h.pn
  rn := h.rn
end Go.Proofs.YtghefhmncpmflaaDoor
