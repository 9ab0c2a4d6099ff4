/-
  More small laws on blocks: a piece in the midst of a block is stored; functions of two results that both lie in memory.
-/
import Derived.Test.YtghefhmncpmflaaDoorMem2
namespace Go.Rg
open Go Go.RowKit

theorem Blk.splice {w : World} {b : Nat} {T : TypeId} {pre mid post : Array Value} (h : Blk w b T (pre ++ mid ++ post)) (new : Array Value) (hs : new.size = mid.size) (o : Nat) (ho : o = pre.size) :
    Blk (w.setCells b o new.toList) b T (pre ++ new ++ post) := by
  obtain ⟨cs', h1, h2, h3⟩ := Blk.setCells new.toList o w _ h
  have : cs' = pre ++ new ++ post := by
    refine Array.ext_getElem? (fun j => ?_)
    rw [h3 j]
    subst ho
    simp only [Array.length_toList, Array.size_append, Array.getElem?_append, Array.getElem?_toList]
    by_cases h1 : j < pre.size
    · rw [if_neg (by omega), if_pos (by omega), if_pos h1, if_pos (by omega), if_pos h1]
    · by_cases h2 : j < pre.size + new.size
      · rw [if_pos (by omega), if_pos (by omega), if_neg h1]
      · rw [if_neg (by omega), if_neg (by omega), if_neg (by omega)]
        congr 1; omega
  rwa [this] at h1

theorem Blk.thereMid {w : World} {b : Nat} {T : TypeId} {cs : Array Value} (h : Blk w b T cs) {o n : Nat} (hn : o + n ≤ cs.size) : w.there b o n := fun j hj => by
  refine ⟨?_, h.free _⟩
  rw [h.cells, Array.getElem?_eq_getElem (by omega)]
  rfl

/-- The end of a function whose two results lie in memory. -/
theorem ret_blk22 {P : Program} {fn : Func} {p q : Tmp} {ty uy : TypeId} (h : fn.results = #[.cell p ty, .cell q uy]) {R : Ending → World → Prop} {a : Act} {w : World} (g g' : Nat) (T T' : TypeId) (cs cs' : Array Value) (d d' : TypeDesc)
    (hp : a.tmps.getD p undef = .pointer (some ⟨g, 0, none⟩)) (hg : Blk w g T cs) (hq : a.tmps.getD q undef = .pointer (some ⟨g', 0, none⟩)) (hg' : Blk w g' T' cs')
    (hu : P.underlying ty = some d) (hd : (match d with | .struct _ | .array _ _ => true | _ => false) = true) (hi : (P.info? ty).map (·.size) = some cs.size)
    (hu' : P.underlying uy = some d') (hd' : (match d' with | .struct _ | .array _ _ => true | _ => false) = true) (hi' : (P.info? uy).map (·.size) = some cs'.size)
    (hdf : a.defers = []) (hR : R (.returned (.tuple #[.agg cs, .agg cs'])) w) : bodyPost P fn R .ret a w := by
  have hp' : a.tmps[p]?.getD undef = .pointer (some ⟨g, 0, none⟩) := by simpa using hp
  have hq' : a.tmps[q]?.getD undef = .pointer (some ⟨g', 0, none⟩) := by simpa using hq
  refine bodyPost_ret (v := .tuple #[.agg cs, .agg cs']) ?_ hdf hR
  simp [results, h, hp', hq', asAddr, run_loadVar_row w g T ty cs (0, 0) d hg hu hd hi, run_loadVar_row w g' T' uy cs' (0, 0) d' hg' hu' hd' hi']
end Go.Rg
