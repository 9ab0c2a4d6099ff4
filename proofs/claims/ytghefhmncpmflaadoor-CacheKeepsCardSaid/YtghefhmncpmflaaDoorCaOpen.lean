/-
  The arguments of the cache's laws opened: an array of two integers, a script of acts; the listed table.
-/
import Derived.Test.YtghefhmncpmflaaDoorCa19
import Derived.Test.YtghefhmncpmflaaDoorOpen
import Derived.Test.YtghefhmncpmflaaDoorTie
import Derived.Lib.LaidTab
import Derived.Lib.LaidU8
import Derived.Deep.Slices
import Derived.Deep.Fields
import Derived.ChangeSame
import Derived.OpenShut
import Derived.LaidMore
import Derived.WideKeyArgs
namespace Go.Rg
open Go Go.ChangeShapes Go.WideShapes Go.Deep
section
variable {H : Type} {enc : TypeId × Value → H} {P : Program} {w : World} {base : Nat} {spare : Nat → Bool} {held : Bool}
/-- A slice of structs of one-cell fields, read at every element and field (after the page of lemmas to copy). -/
theorem open_slice_fields {t e : TypeId} {fs : Array Field} {fuel : Nat} {cs : List Value} {x : DataW H × List MemPlace} (ht : P.underlying t = some (.slice e)) (he : P.underlying e = some (.struct fs))
    (hone : oneCellFields P fs = true) (hC : P.cellsOf e = fs.size) (h : DataW.trod enc P w base spare held fuel t cs = some x) :
    (cs = [.slice none 0 0] ∧ x = (.nil, [])) ∨
    ∃ (a : Addr) (len cap m : Nat) (D : Nat → DataW H) (Pl : Nat → List MemPlace), cs = [.slice (some a) len cap] ∧ base ≤ a.block ∧ len ≤ cap ∧ cap ≤ maxLen ∧ m = (if spare a.block then cap else len) ∧
      x = (.slice ((List.range len).map D) ((List.range (m - len)).map fun j => D (len + j)), MemPlace.row a (m * fs.size) ++ (List.range m).flatMap Pl) ∧
      ∀ i, i < m → ∃ (ys : List (DataW H × List MemPlace)) (n : Nat), D i = .agg (ys.map (·.1)) ∧ Pl i = ys.flatMap (·.2) ∧ ys.length = fs.size ∧
        ∀ (j : Nat) (f : Field), fs[j]? = some f → ∃ (v : Value) (y : DataW H × List MemPlace), w.cell? (a.add (i * fs.size + j)) = some v ∧ ys[j]? = some y ∧ DataW.trod enc P w base spare held n f.type [v] = some y := by
  rcases open_slice ht h with h0 | ⟨a, len, cap, m, n, D, Pl, hcs, hb, hl, hm, hmm, hx, hi⟩
  · exact .inl h0
  · refine .inr ⟨a, len, cap, m, D, Pl, hcs, hb, hl, hm, hmm, by rw [hC] at hx; exact hx, fun i him => ?_⟩
    obtain ⟨cs', hc, ht'⟩ := hi i him
    rw [hC] at hc
    obtain ⟨ys, n', hn', hy, hlen, hyl, hf⟩ := DataW.trod_struct he ht'
    obtain ⟨_, hcl, hat⟩ := World.cells?_some hc
    simp only [Prod.mk.injEq] at hy
    refine ⟨ys, n', hy.1, hy.2, hyl, fun j f hj => ?_⟩
    obtain ⟨ho, hk⟩ := hone_of hone j f hj
    have hjl : j < fs.size := (Array.getElem?_eq_some_iff.1 hj).1
    have hcell := hat j hjl
    have hv : cs'[j]? = some (cs'[j]'(by omega)) := List.getElem?_eq_getElem (by omega)
    have h1 := hf j f hj
    rw [ho, hk] at h1
    have hone' : (cs'.drop j).take 1 = [cs'[j]'(by omega)] := by
      rw [List.drop_eq_getElem_cons (by omega)]
      rfl
    rw [hone'] at h1
    have hys : ys[j]? = some (ys[j]'(by omega)) := List.getElem?_eq_getElem (by omega)
    refine ⟨_, _, ?_, hys, h1.trans hys⟩
    rw [← Go.Deep.add_add, hcell, hv]
/-- An array of two integers, by value. -/
theorem open_pair {r : Reach} {b0 : Nat} {t e : TypeId} {v : Value} {d : DataW H} {p : List MemPlace} (ht : P.underlying t = some (.array 2 e)) (he : P.underlying e = some (.int .i64)) (hce : P.cellsOf e = 1) (hct : P.cellsOf t = 2)
    (hv : Value.okWide P w r b0 t v) (h : DataW.Trod enc P w base spare held t v d p) :
    ∃ x y : Int, v = .agg #[.int .i64 x, .int .i64 y] ∧ (Lit.int .i64 x).wf = true ∧ (Lit.int .i64 y).wf = true := by
  simp only [Value.okWide, ht] at hv
  obtain ⟨cs, rfl, hsz, _⟩ := hv
  obtain ⟨l⟩ := cs
  match l, hsz.trans hct with
  | [c0, c1], _ =>
    obtain ⟨fuel, hf⟩ := h
    obtain ⟨xs, m, _, _, _, hn, hg⟩ := DataW.trod_array ht hf
    match xs, hn with
    | [y0, y1], _ =>
      have h0 := hg 0 (by decide)
      have h1 := hg 1 (by decide)
      rw [hce] at h0 h1
      simp only [Value.cells, Nat.zero_mul, List.drop_zero, List.take_succ_cons, List.take_zero, Nat.mul_one, List.drop_succ_cons] at h0 h1
      obtain ⟨x, e0, _, w0⟩ := DataW.trod_int he h0
      obtain ⟨y, e1, _, w1⟩ := DataW.trod_int he h1
      simp only [List.cons.injEq, and_true] at e0 e1
      subst e0 e1
      exact ⟨x, y, rfl, w0, w1⟩
end
end Go.Rg
namespace Go.Proofs.YtghefhmncpmflaaDoor
open Go Go.ChangeShapes Go.WideShapes Go.Deep Go.ChangeAt Go.RowKit Go.Rg
set_option maxRecDepth 100000
theorem tab_of_laid {W : World} (h : laidMetH Tryd.prog [("math/bits.deBruijn64tab", Rows.laid_math_bits_deBruijn64tab)] W) : TabAt 1 Lib.deBruijn64tab W := by
  rw [MakeChecks.laidMetH_plain _ _ _ (by kernel_rfl)] at h
  have hd : (Rows.laid_math_bits_deBruijn64tab : DataW Unit) = Lib.tabData .u8 (Lib.deBruijn64tab.map Int.ofNat) := by rfl
  rw [hd] at h
  have hT := Lib.tabIs_of_head (g := 1) (t := 174) (e := 5) (n := 64) (by kernel_rfl) (by kernel_rfl) Tryd.underlying174 Tryd.underlying5 (by kernel_rfl) (by kernel_rfl) h
  intro j hj
  have := hT.cell (g := 1) (by kernel_rfl) j (by rw [List.length_map]; exact hj)
  rw [this]
  simp [List.getD, hj]

theorem u67 : ∃ fs : Array Field, Tryd.prog.underlying 67 = some (.struct fs) ∧ fs.size = 5 ∧ oneCellFields Tryd.prog fs = true ∧ (fs[0]?.map (·.type), fs[1]?.map (·.type), fs[2]?.map (·.type), fs[3]?.map (·.type), fs[4]?.map (·.type)) = (some 3, some 3, some 3, some 5, some 4) :=
  ⟨_, Tryd.underlying67, rfl, by kernel_rfl, rfl⟩
theorem acts_of {H : Type} {enc : TypeId × Value → H} {W : World} {base b0 : Nat} {spare : Nat → Bool} {held : Bool} {r : Reach} {v : Value} {d : DataW H} {p : List MemPlace} (hv : Value.okWide Tryd.prog W r b0 62 v) (h : DataW.Trod enc Tryd.prog W base spare held 62 v d p) :
    ∃ (sb : Option Addr) (n cap : Nat), v = .slice sb n cap ∧ n ≤ cap ∧ cap ≤ maxLen ∧ ActsAt W sb n := by
  obtain ⟨a, len, cap, rfl⟩ := okWide_slice Tryd.underlying62 hv
  obtain ⟨fuel, hf⟩ := h
  obtain ⟨fs, hu, h5, hone, hty⟩ := u67
  have c67 : Tryd.prog.cellsOf 67 = 5 := by kernel_rfl
  rcases open_slice_fields Tryd.underlying62 hu hone (c67.trans h5.symm) hf with ⟨hc, _⟩ | ⟨a, len, cap, m, D, Pl, hc, _, hl, hm, hmm, _, hi⟩
  · simp only [Value.cells, List.cons.injEq, and_true, Value.slice.injEq] at hc
    obtain ⟨rfl, rfl, rfl⟩ := hc
    exact ⟨none, 0, 0, rfl, Nat.le_refl _, by unfold maxLen; omega, fun i hi => absurd hi (by omega)⟩
  · simp only [Value.cells, List.cons.injEq, and_true, Value.slice.injEq] at hc
    obtain ⟨rfl, rfl, rfl⟩ := hc
    obtain ⟨g, o, sp⟩ := a
    simp only [Prod.mk.injEq] at hty
    obtain ⟨t0, t1, t2, t3, t4⟩ := hty
    have fld : ∀ i, i < len → ∃ n, ∀ (j : Nat) (t : TypeId), fs[j]?.map (·.type) = some t → ∃ v y, W.cell? (Addr.add ⟨g, o, sp⟩ (i * 5 + j)) = some v ∧ DataW.trod enc Tryd.prog W base spare held n t [v] = some y := fun i hil => by
      obtain ⟨ys, n, _, _, _, hg⟩ := hi i (by rw [hmm]; split <;> omega)
      refine ⟨n, fun j t ht => ?_⟩
      obtain ⟨f, hfj, rfl⟩ := Option.map_eq_some_iff.1 ht
      obtain ⟨v, y, h1, _, h3⟩ := hg j f hfj
      rw [h5] at h1
      exact ⟨v, y, h1, h3⟩
    refine ⟨_, _, _, rfl, hl, hm, fun i hil => ?_⟩
    have hsp : sp = none := by
      obtain ⟨n, h0⟩ := fld 0 (by omega)
      obtain ⟨v, y, h1, _⟩ := h0 0 3 t0
      exact cell_spot (b := g) (o := o) (v := v) h1
    subst hsp
    obtain ⟨n, hf⟩ := fld i hil
    obtain ⟨v0, y0, e0, g0⟩ := hf 0 3 t0
    obtain ⟨v1, y1, e1, g1⟩ := hf 1 3 t1
    obtain ⟨v2, y2, e2, g2⟩ := hf 2 3 t2
    obtain ⟨v3, y3, e3, g3⟩ := hf 3 5 t3
    obtain ⟨v4, y4, e4, g4⟩ := hf 4 4 t4
    obtain ⟨x0, q0, _, w0⟩ := DataW.trod_int Tryd.underlying3 g0
    obtain ⟨x1, q1, _, _⟩ := DataW.trod_int Tryd.underlying3 g1
    obtain ⟨x2, q2, _, _⟩ := DataW.trod_int Tryd.underlying3 g2
    obtain ⟨x3, q3, _, w3⟩ := DataW.trod_int Tryd.underlying5 g3
    obtain ⟨x4, q4, _⟩ := DataW.trod_bool Tryd.underlying4 g4
    simp only [List.cons.injEq, and_true] at q0 q1 q2 q3 q4
    subst q0 q1 q2 q3 q4
    rw [Addr.add_mid] at e0 e1 e2 e3 e4
    have b3 := bounds_u8 w3
    have hb : ((UInt8.ofNat x3.toNat).toNat : Int) = x3 := by
      rw [UInt8.toNat_ofNat', Nat.mod_eq_of_lt (by omega)]; omega
    refine ⟨g, o, x0, x1, x2, UInt8.ofNat x3.toNat, x4, rfl, bounds_i64 w0, fun j v hj => ?_⟩
    rw [Nat.add_assoc]
    unfold actv at hj
    rw [hb] at hj
    match j with
    | 0 => cases hj; exact e0
    | 1 => cases hj; exact e1
    | 2 => cases hj; exact e2
    | 3 => cases hj; exact e3
    | 4 => cases hj; exact e4
    | j + 5 => simp at hj
end Go.Proofs.YtghefhmncpmflaaDoor
