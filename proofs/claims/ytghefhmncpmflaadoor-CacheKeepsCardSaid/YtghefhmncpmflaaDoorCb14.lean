/-
  The range over what is kept.
-/
import Derived.Test.YtghefhmncpmflaaDoorCb12
namespace Go.Proofs.YtghefhmncpmflaaDoor
open Go.RowKit Go.Rg

/-- The law's state within its range over what is kept. -/
def RSt (w0 : World) (bm r bc data m : Nat) (D : DataW Value) (f : Int → Int → Option Value) (left : Lit → Bool) (cnt : Nat) (w : World) : Prop :=
  ∃ C : CSt, LI C m ∧ C.data = data ∧ CacheX (fun k => k = bm ∨ k = r) w0 w bc C ∧ w.ranges Tryd.prog 61 Rv bm r m D left cnt ∧ KeepP C f ∧ w0.heap.size ≤ bm ∧ w0.heap.size ≤ r ∧ Maps.IsMap D ∧
    ∀ x y, (Lit.int .i64 x).wf = true → (Lit.int .i64 y).wf = true → ∀ z, D.atKey (kp x y) z = match f x y with | some v => .held v | none => z
section
variable {w0 w w' : World} {bm r bc data m : Nat} {D : DataW Value} {f : Int → Int → Option Value} {left left' : Lit → Bool} {cnt cnt' : Nat}
theorem KSt.range (h : KSt w0 bm bc data m w) : ∃ D f, w.ownsMap Tryd.prog 61 Rv bm m D ∧
    ∀ w', w'.ranges Tryd.prog 61 Rv bm w.heap.size m D (Maps.has D) (Maps.size D) → w.grownBy w' none → w'.heap.size = w.heap.size + 1 → RSt w0 bm w.heap.size bc data m D f (Maps.has D) (Maps.size D) w' := by
  obtain ⟨C, f, h1, h2, h3, ⟨D, h4, h7, h8⟩, h5, h6⟩ := h
  refine ⟨D, f, h4, fun w' hr hg hs => ?_⟩
  have hx : Ext w w' := ⟨hg.os, hg.tape, hg.output, hg.size, fun k hk => hg.block k hk (by simp)⟩
  exact ⟨C, h1, h2, h3.more hx (fun k hk => hk.imp id (fun e => by omega)), hr, h5, h6, h3.2.1.size, h7, h8⟩
theorem RSt.next (h : RSt w0 bm r bc data m D f left cnt w) (hr : w'.ranges Tryd.prog 61 Rv bm r m D left' cnt') (hg : w.grownBy w' (some r)) : RSt w0 bm r bc data m D f left' cnt' w' := by
  obtain ⟨C, h1, h2, h3, h4, h5, h6, h7, h8, h9⟩ := h
  exact ⟨C, h1, h2, h3.other (.inr rfl) h7 hg, hr, h5, h6, h7, h8, h9⟩
theorem RSt.ext (h : RSt w0 bm r bc data m D f left cnt w) (hx : Ext w w') : RSt w0 bm r bc data m D f left cnt w' := by
  obtain ⟨C, h1, h2, h3, h4, h5, h6, h7, h8, h9⟩ := h
  obtain ⟨g1, g2⟩ := x_ext h3 hx
  exact ⟨C, h1, h2, g1, ranges_of h4 (g2 bm (.inl rfl)) (g2 r (.inr rfl)), h5, h6, h7, h8, h9⟩
theorem RSt.ranges (h : RSt w0 bm r bc data m D f left cnt w) : w.ranges Tryd.prog 61 Rv bm r m D left cnt := by
  obtain ⟨C, h1, h2, h3, h4, h5, h6, h7, h8, h9⟩ := h
  exact h4
theorem RSt.all (h : RSt w0 bm r bc data m D f left cnt w) : KSt w0 bm bc data m w := by
  obtain ⟨C, h1, h2, h3, h4, h5, h6, h7, h8, h9⟩ := h
  exact ⟨C, f, h1, h2, h3.less (fun k hk => .inl hk), ⟨D, h4.owns, h8, h9⟩, h5, h6⟩
/-- What a step of the range meets is kept. -/
theorem RSt.met (h : RSt w0 bm r bc data m D f left cnt w) {p : Int × Int} {c : Value} {kl : Lit} {y : DataW Value × List MemPlace} (hkey : keyOf Tryd.prog 61 (.agg #[.int .i64 p.1, .int .i64 p.2]) = some kl) (hv : Rv c = some y) (hat : ∀ zd, D.atKey kl zd = y.1) :
    ∃ (k : Nat) (u : ByteArray), p.2 = k ∧ k < data ∧ c = .string u ∧ (Lit.int .i64 p.1).wf = true ∧ f p.1 k = some (.string u) := by
  obtain ⟨C, h1, h2, h3, h4, h5, h6, h7, h8, h9⟩ := h
  obtain ⟨q, hq, wx, wy, rfl⟩ := keyOf61_inv hkey
  simp only [pv, Value.agg.injEq, Array.mk.injEq, List.cons.injEq, Value.int.injEq, true_and, and_true] at hq
  obtain ⟨e1, e2⟩ := hq
  rw [← e1] at wx hat
  rw [← e2] at wy hat
  have hf : f p.1 p.2 = some c := MapD.met (b' := 0) (n' := 0) ⟨h4.owns, h8, h9⟩ wx wy hv hat
  obtain ⟨k, u, g1, g2, g3, _⟩ := h5.had h1 hf
  subst g3
  exact ⟨k, u, g1, by rw [← h2]; exact g2, rfl, wx, by rw [← g1]; exact hf⟩
def RPost (w0 : World) (bm r bc data m : Nat) (D : DataW Value) (f : Int → Int → Option Value) (left : Lit → Bool) (cnt : Nat) (u : ByteArray) (e : Ending) (w' : World) : Prop :=
  e = .returned (.tuple #[.string u, .bool true]) ∧ RSt w0 bm r bc data m D f left cnt w'
theorem r_get (h : RSt w0 bm r bc data m D f left cnt w) {x : Int} {k : Nat} {u : ByteArray} (hx : (Lit.int .i64 x).wf = true) (hf : f x k = some (.string u)) :
    Calls Tryd.prog 30 #[.pointer (some ⟨bc, 0, none⟩), .int .i64 x, .int .i64 k] w (RPost w0 bm r bc data m D f left cnt u) := by
  obtain ⟨C, h1, h2, h3, h4, h5, h6, h7, h8, h9⟩ := h
  obtain ⟨k', u', g1, g2, g3, g4, g5⟩ := h5.had h1 hf
  obtain rfl : k = k' := by omega
  simp only [Value.string.injEq] at g3
  subst g3
  have hd : (getC C x k).data = C.data := by unfold getC; split <;> rfl
  refine (g_get h3 h1 hx g2).mono fun e w' ⟨e1, e2, e3⟩ => ?_
  rw [g4, g5] at e1
  exact ⟨e1, getC C x k, h1.get x k, by rw [hd, h2], e2, ranges_of h4 (e3 bm (.inl rfl)) (e3 r (.inr rfl)), h5.get, h6, h7, h8, h9⟩
end
end Go.Proofs.YtghefhmncpmflaaDoor
