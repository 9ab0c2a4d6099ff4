/-
  A law: a slice of one element is built of a whole struct.
-/
import Derived.Test.YtghefhmncpmflaaDoorApp
namespace Go.Rg
open Go Go.RowKit

theorem foldl_set_list (n : Nat) : ∀ (ps : List Value) (k : Nat) (cs : Array Value),
    ((ps.zipIdx k).foldl (fun (cs : Array Value) (x : Value × Nat) => cs.setIfInBounds (0 * n + x.2) x.1) cs).size = cs.size ∧
    ∀ j : Nat, ((ps.zipIdx k).foldl (fun (cs : Array Value) (x : Value × Nat) => cs.setIfInBounds (0 * n + x.2) x.1) cs)[j]? = if k ≤ j ∧ j < k + ps.length ∧ j < cs.size then ps[j - k]? else cs[j]?
  | [], k, cs => ⟨rfl, fun j => by rw [if_neg (by simp; omega)]; rfl⟩
  | p :: ps, k, cs => by
    obtain ⟨h1, h2⟩ := foldl_set_list n ps (k + 1) (cs.setIfInBounds (0 * n + k) p)
    rw [List.zipIdx_cons, List.foldl_cons]
    refine ⟨by rw [h1, Array.size_setIfInBounds], fun j => ?_⟩
    rw [h2 j, Array.size_setIfInBounds, Nat.zero_mul, Nat.zero_add, Array.getElem?_setIfInBounds]
    by_cases hj : k = j
    · subst hj
      rw [if_neg (by omega), if_pos rfl]
      by_cases hs : k < cs.size
      · rw [if_pos hs, if_pos ⟨Nat.le_refl _, by simp, hs⟩]; simp
      · rw [if_neg hs, if_neg (by omega), Array.getElem?_eq_none (by omega)]
    · rw [if_neg hj]
      by_cases hc : k + 1 ≤ j ∧ j < k + 1 + ps.length ∧ j < cs.size
      · rw [if_pos hc, if_pos ⟨by omega, by simp; omega, hc.2.2⟩, show j - k = (j - (k + 1)) + 1 from by omega, List.getElem?_cons_succ]
      · rw [if_neg hc, if_neg (by simp; omega)]

theorem fill_one (cells ps : Array Value) (h : cells.size = ps.size) : Instr.fill (fun i => some (i * ps.size, ps.size)) cells [(0, .agg ps)] = some ps := by
  have hc : (Value.agg ps).cells = ps := rfl
  simp only [Instr.fill, hc]
  rw [if_neg (by simp; omega)]
  obtain ⟨h1, h2⟩ := foldl_set_list ps.size ps.toList 0 cells
  rw [← Array.foldl_toList, Array.toList_zipIdx]
  congr 1
  refine Array.ext_getElem? (fun j => ?_)
  rw [h2 j]
  by_cases hj : j < ps.size
  · rw [if_pos ⟨Nat.zero_le _, by simp; omega, by omega⟩]; simp
  · rw [if_neg (by omega), Array.getElem?_eq_none (by omega), Array.getElem?_eq_none (by omega)]

theorem run_buildSlice_one {P : Program} {t e : TypeId} {z : Value} (ps : Array Value) (hu : P.underlying t = some (.slice e)) {i : TypeInfo} (hi : P.info? e = some i) (hz : i.zero = some z) (hs : i.size = ps.size)
    (h0 : 0 < ps.size) (h1 : ps.size ≤ 1000) (w : World) :
    (Instr.buildSlice t 1 #[(0, .agg ps)]).run P w = .ok (.slice (some ⟨w.heap.size, 0, none⟩) 1 1) (w.alloc (.cells ps e)) := by
  have hf := fill_one ((Array.range (1 * ps.size)).map fun x => z.cells[x % z.cells.size]!) ps (by simp)
  have hsz : (sizeOf e).run P w = .ok ps.size w := by simp [sizeOf, typeInfo, hi, hs]
  have hzz : (zeroValue e).run P w = .ok z w := by simp [zeroValue, typeInfo, hi, hz]
  have c1 : ¬ 1 * ps.size > 2 ^ 24 := by have : (2 : Nat) ^ 24 = 16777216 := by decide
                                         omega
  have c2 : ¬ 1 * ps.size = 0 := by omega
  simp only [Instr.buildSlice, Sem.run_bind, run_underlying hu, Result.andThen_ok, hsz]
  simp only [c1, c2, if_false, Sem.run_bind, Sem.run_pure, Result.andThen_ok, hzz, hf]
  rfl

theorem wpList_bsl1 {P : Program} {ops : Array Oper} {rest : List Oper} {o : Oper} {a : Act} {w : World} {Q : Exit → Act → World → Prop} (hgd : o.guard = none) (t : TypeId) (x : Operand) (ho : o.op = .buildSlice t 1 #[(0, x)])
    (ps : Array Value) (hx : a.eval x = .agg ps) {e : TypeId} {z : Value} (hu : P.underlying t = some (.slice e)) {i : TypeInfo} (hi : P.info? e = some i) (hz : i.zero = some z) (hs : i.size = ps.size)
    (h0 : 0 < ps.size) (h1 : ps.size ≤ 1000) (h : wpList P ops Q rest (a.put o.dst (.slice (some ⟨w.heap.size, 0, none⟩) 1 1)) (w.alloc (.cells ps e))) : wpList P ops Q (o :: rest) a w :=
  wpList_plain hgd fun _ hK => by
    unfold Oper.wp execOp
    have hm : (#[(0, x)] : Array (Nat × Operand)).map (fun p => (p.1, a.eval p.2)) = #[(0, .agg ps)] := by simp [hx]
    simp only [ho, hm, Sem.run_bind, run_buildSlice_one ps hu hi hz hs h0 h1 w, Result.andThen_ok, Sem.run_pure]
    exact hK _ _ h
end Go.Rg
