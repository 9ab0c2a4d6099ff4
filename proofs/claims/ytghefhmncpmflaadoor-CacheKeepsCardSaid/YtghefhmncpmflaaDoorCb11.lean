/-
  Plain law: what was put is had till its stripe is done.
-/
import Derived.Test.YtghefhmncpmflaaDoorCb10
namespace Go.Proofs.YtghefhmncpmflaaDoor
open Go.RowKit Go.Rg

theorem and_mask15 (d : Int) : 0 ≤ bits BinOp.and IntKind.i64 d 15 ∧ bits BinOp.and IntKind.i64 d 15 < 16 := by
  show 0 ≤ IntKind.i64.wrap ((BitVec.ofInt 64 d &&& BitVec.ofInt 64 15).toNat : Int) ∧ IntKind.i64.wrap ((BitVec.ofInt 64 d &&& BitVec.ofInt 64 15).toNat : Int) < 16
  have hx : (BitVec.ofInt 64 d &&& BitVec.ofInt 64 15).toNat ≤ 15 := by
    rw [BitVec.toNat_and]
    exact Nat.le_trans Nat.and_le_right (by decide)
  generalize (BitVec.ofInt 64 d &&& BitVec.ofInt 64 15).toNat = n at *
  simp [IntKind.wrap, IntKind.signed, IntKind.bits]
  omega

def KeepP (C : CSt) (f : Int → Int → Option Value) : Prop :=
  ∀ x y v, f x y = some v → ∃ (c : Nat) (u : ByteArray) (E : Ent), y = c ∧ c < C.data ∧ v = .string u ∧ C.rows x = some E ∧ E.dt.testBit c = true ∧ E.f1 c = u
section
variable {C C' : CSt} {f g : Int → Int → Option Value} {m : Nat} {t : Int} {c : Nat} {s : ByteArray}
theorem KeepP.sub (h : KeepP C f) (hs : ∀ x y v, g x y = some v → f x y = some v) : KeepP C g := fun x y v hv => h x y v (hs x y v hv)
theorem KeepP.drop (h : KeepP C f) {k : Int} (hk : ∀ E, C.rows k = some E → E.dt = 0) : KeepP (dropC C k) f := fun x y v hv => by
  obtain ⟨c, u, E, h1, h2, h3, h4, h5, h6⟩ := h x y v hv
  refine ⟨c, u, E, h1, h2, h3, ?_, h5, h6⟩
  have hne : x ≠ k := fun e => by
    rw [e] at h4
    rw [hk E h4] at h5
    simp at h5
  simp only [dropC, if_neg hne]
  exact h4
theorem LI.clean (h : LI C m) {v : Int} (hp : C.pins v = none) : ∀ E, C.rows v = some E → E.dt = 0 := fun E hE => by
  by_cases e : E.dt = 0
  · exact e
  · have := (h.pd v).2 ⟨E, hE, e⟩
    rw [hp] at this; cases this
theorem KeepP.at (h : KeepP C f) (hi : LI C m) (ha : atC C t = some C') : KeepP C' f ∧ C'.data = C.data := by
  obtain ⟨_, _, rfl | ⟨v, rfl, hp, _⟩⟩ := atC_some hi ha
  · exact ⟨h, rfl⟩
  · exact ⟨h.drop (hi.clean hp), rfl⟩
theorem KeepP.put (h : KeepP C f) (hc : c < C.data) : KeepP (putC C t c s) (fun i j => if i = t ∧ j = (c : Int) then some (.string s) else f i j) := fun x y v hv => by
  by_cases e : x = t ∧ y = (c : Int)
  · obtain ⟨rfl, rfl⟩ := e
    simp only [and_self, if_true, Option.some.injEq] at hv
    subst hv
    exact ⟨c, s, putE (entOf C x) c s, rfl, hc, rfl, by simp [putC], by simp [putE, Nat.testBit_or, Nat.testBit_two_pow], by simp [putE]⟩
  · simp only [e, if_false] at hv
    obtain ⟨c', u, E, h1, h2, h3, h4, h5, h6⟩ := h x y v hv
    by_cases e2 : x = t
    · subst e2
      have hne : c' ≠ c := fun e3 => e ⟨rfl, by rw [h1, e3]⟩
      refine ⟨c', u, putE E c s, h1, h2, h3, by simp [putC, entOf, h4], by simp [putE, Nat.testBit_or, h5], by simp [putE, hne, h6]⟩
    · exact ⟨c', u, E, h1, h2, h3, by simp [putC, e2, h4], h5, h6⟩
theorem KeepP.fill (h : KeepP C f) : KeepP (fillC C t c s) f := fun x y v hv => by
  obtain ⟨c', u, E, h1, h2, h3, h4, h5, h6⟩ := h x y v hv
  by_cases e2 : x = t
  · subst e2
    refine ⟨c', u, fillE E c s, h1, h2, h3, by simp [fillC, entOf, h4], by rw [fillE_dt]; exact h5, ?_⟩
    unfold fillE
    split
    · exact h6
    · rename_i hd
      have hne : c' ≠ c := fun e3 => hd (by rw [← e3]; exact h5)
      simp [hne, h6]
  · exact ⟨c', u, E, h1, h2, h3, by simp [fillC, e2, h4], h5, h6⟩
theorem KeepP.get (h : KeepP C f) : KeepP (getC C t c) f := fun x y v hv => by
  have hr : (getC C t c).rows = C.rows := by unfold getC; split <;> rfl
  have hd : (getC C t c).data = C.data := by unfold getC; split <;> rfl
  obtain ⟨c', u, E, h1, h2, h3, h4, h5, h6⟩ := h x y v hv
  exact ⟨c', u, E, h1, by rw [hd]; exact h2, h3, by rw [hr]; exact h4, h5, h6⟩
/-- Behind Done the stripe's are kept no more. -/
def lessP (f : Int → Int → Option Value) (t : Int) (n : Nat) : Int → Int → Option Value := fun i j => if i = t ∧ 0 ≤ j ∧ j < (n : Int) then none else f i j
theorem lessP_zero (f : Int → Int → Option Value) (t : Int) : lessP f t 0 = f := by
  funext i j
  unfold lessP
  rw [if_neg (by omega)]
theorem lessP_step (f : Int → Int → Option Value) (t : Int) (n : Nat) : (fun i j => if i = t ∧ j = (n : Int) then none else lessP f t n i j) = lessP f t (n + 1) := by
  funext i j
  unfold lessP
  by_cases e : i = t
  · by_cases e1 : j = (n : Int)
    · rw [if_pos ⟨e, e1⟩, if_pos ⟨e, by omega, by omega⟩]
    · rw [if_neg (fun h => e1 h.2)]
      by_cases e2 : 0 ≤ j ∧ j < (n : Int)
      · rw [if_pos ⟨e, e2⟩, if_pos ⟨e, by omega, by omega⟩]
      · rw [if_neg (fun h => e2 h.2), if_neg (fun h => by omega)]
  · rw [if_neg (fun h => e h.1), if_neg (fun h => e h.1), if_neg (fun h => e h.1)]
theorem KeepP.done (h : KeepP C f) {E : Ent} (_hE : C.rows t = some E) : KeepP (doneC C t) (lessP f t C.data) := fun x y v hv => by
  unfold lessP at hv
  split at hv
  · cases hv
  · rename_i hn
    obtain ⟨c', u, F, h1, h2, h3, h4, h5, h6⟩ := h x y v hv
    have hne : x ≠ t := fun e => hn ⟨e, by omega, by omega⟩
    exact ⟨c', u, F, h1, h2, h3, by simp [doneC, hne, h4], h5, h6⟩
theorem KeepP.less (h : KeepP C f) (n : Nat) : KeepP C (lessP f t n) := h.sub (fun x y v hv => by
  unfold lessP at hv
  split at hv
  · cases hv
  · exact hv)
/-- What is kept is had. -/
theorem KeepP.had (h : KeepP C f) (hi : LI C m) {x y : Int} {v : Value} (hv : f x y = some v) :
    ∃ (k : Nat) (u : ByteArray), y = k ∧ k < C.data ∧ v = .string u ∧ gotS (entOf C x).n1 (entOf C x).f1 k = u ∧ (entOf C x).n1.testBit k = true := by
  obtain ⟨k, u, E, h1, h2, h3, h4, h5, h6⟩ := h x y v hv
  have hb := hi.dn x E h4 k h5
  have he : entOf C x = E := by simp [entOf, h4]
  rw [he]
  exact ⟨k, u, h1, h2, h3, by simp [gotS, hb, h6], hb⟩
end
end Go.Proofs.YtghefhmncpmflaaDoor
