/-
  An argument that is an array of three integers, opened by value.
-/
import Derived.Test.YtghefhmncpmflaaDoorCaOpen
namespace Go.Rg
open Go Go.ChangeShapes Go.WideShapes Go.Deep
section
variable {H : Type} {enc : TypeId × Value → H} {P : Program} {w : World} {base : Nat} {spare : Nat → Bool} {held : Bool}
theorem open_triple {r : Reach} {b0 : Nat} {t e : TypeId} {v : Value} {d : DataW H} {p : List MemPlace} (ht : P.underlying t = some (.array 3 e)) (he : P.underlying e = some (.int .i64)) (hce : P.cellsOf e = 1) (hct : P.cellsOf t = 3)
    (hv : Value.okWide P w r b0 t v) (h : DataW.Trod enc P w base spare held t v d p) :
    ∃ x y z : Int, v = .agg #[.int .i64 x, .int .i64 y, .int .i64 z] ∧ (Lit.int .i64 x).wf = true ∧ (Lit.int .i64 y).wf = true ∧ (Lit.int .i64 z).wf = true := by
  simp only [Value.okWide, ht] at hv
  obtain ⟨cs, rfl, hsz, _⟩ := hv
  obtain ⟨l⟩ := cs
  match l, hsz.trans hct with
  | [c0, c1, c2], _ =>
    obtain ⟨fuel, hf⟩ := h
    obtain ⟨xs, m, _, _, _, hn, hg⟩ := DataW.trod_array ht hf
    match xs, hn with
    | [y0, y1, y2], _ =>
      have h0 := hg 0 (by decide)
      have h1 := hg 1 (by decide)
      have h2 := hg 2 (by decide)
      rw [hce] at h0 h1 h2
      simp only [Value.cells, Nat.zero_mul, List.drop_zero, List.take_succ_cons, List.take_zero, Nat.mul_one, List.drop_succ_cons] at h0 h1 h2
      obtain ⟨x, e0, _, w0⟩ := DataW.trod_int he h0
      obtain ⟨y, e1, _, w1⟩ := DataW.trod_int he h1
      obtain ⟨z, e2, _, w2⟩ := DataW.trod_int he h2
      simp only [List.cons.injEq, and_true] at e0 e1 e2
      subst e0 e1 e2
      exact ⟨x, y, z, rfl, w0, w1, w2⟩
end
end Go.Rg
