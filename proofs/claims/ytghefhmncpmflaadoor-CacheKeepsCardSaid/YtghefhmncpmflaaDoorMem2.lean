/-
  More small laws on blocks of memory: new blocks that a region draws, and functions of two results of which the first lies in memory.
-/
import Derived.Test.YtghefhmncpmflaaDoorMem
import Derived.Laws.ResultCell
namespace Go.Rg
open Go Go.RowKit

/-- A pointer to a new block, from number B on. -/
def New (B : Nat) (T : TypeId) (cs : Array Value) (v : Value) (w : World) : Prop := ∃ b, v = .pointer (some ⟨b, 0, none⟩) ∧ B ≤ b ∧ Blk w b T cs
theorem New.ext {B : Nat} {T : TypeId} {cs : Array Value} : ∀ v w w', Ext w w' → New B T cs v w → New B T cs v w' := fun _ _ _ he ⟨b, h1, h2, h3⟩ => ⟨b, h1, h2, h3.ext he⟩
/-- A slice over the whole of a new block. -/
def NewSl (B : Nat) (T : TypeId) (n : Nat) (cs : Array Value) (v : Value) (w : World) : Prop := ∃ b, v = .slice (some ⟨b, 0, none⟩) n n ∧ B ≤ b ∧ Blk w b T cs
theorem NewSl.ext {B : Nat} {T : TypeId} {n : Nat} {cs : Array Value} : ∀ v w w', Ext w w' → NewSl B T n cs v w → NewSl B T n cs v w' := fun _ _ _ he ⟨b, h1, h2, h3⟩ => ⟨b, h1, h2, h3.ext he⟩

/-- The end of a function whose first result is a struct in memory, the second one in a slot. -/
theorem ret_blk2 {P : Program} {fn : Func} {p u : Tmp} {ty : TypeId} (h : fn.results = #[.cell p ty, .tmp u]) {R : Ending → World → Prop} {a : Act} {w : World} (g : Nat) (T : TypeId) (cs : Array Value) (d : TypeDesc)
    (hp : a.tmps.getD p undef = .pointer (some ⟨g, 0, none⟩)) (hg : Blk w g T cs)
    (hu : P.underlying ty = some d) (hd : (match d with | .struct _ | .array _ _ => true | _ => false) = true) (hi : (P.info? ty).map (·.size) = some cs.size)
    (hdf : a.defers = []) (hR : R (.returned (.tuple #[.agg cs, a.tmps.getD u undef])) w) : bodyPost P fn R .ret a w := by
  have hp' : a.tmps[p]?.getD undef = .pointer (some ⟨g, 0, none⟩) := by simpa using hp
  refine bodyPost_ret (v := .tuple #[.agg cs, a.tmps.getD u undef]) ?_ hdf hR
  simp [results, h, hp', asAddr, run_loadVar_row w g T ty cs (0, 0) d hg hu hd hi]


/-! ### A row of cells that is stored whole -/
theorem Blk.setCells {b : Nat} {T : TypeId} : ∀ (vs : List Value) (o : Nat) (w : World) (cs : Array Value), Blk w b T cs →
    ∃ cs', Blk (w.setCells b o vs) b T cs' ∧ cs'.size = cs.size ∧ ∀ j, cs'[j]? = if o ≤ j ∧ j < o + vs.length ∧ j < cs.size then vs[j - o]? else cs[j]?
  | [], o, w, cs, h => ⟨cs, h, rfl, fun j => by rw [if_neg (by simp; omega)]⟩
  | v :: vs, o, w, cs, h => by
    obtain ⟨cs', h1, h2, h3⟩ := Blk.setCells vs (o + 1) (w.setCell ⟨b, o, none⟩ v) _ (h.set o v)
    refine ⟨cs', h1, by simpa using h2, fun j => ?_⟩
    rw [h3 j, Array.size_setIfInBounds, Array.getElem?_setIfInBounds]
    by_cases hj : o = j
    · subst hj
      rw [if_neg (by omega), if_pos rfl]
      by_cases hs : o < cs.size
      · rw [if_pos hs, if_pos ⟨Nat.le_refl _, by simp, hs⟩]; simp
      · rw [if_neg hs, if_neg (by omega), Array.getElem?_eq_none (by omega)]
    · rw [if_neg hj]
      by_cases hc : o + 1 ≤ j ∧ j < o + 1 + vs.length ∧ j < cs.size
      · rw [if_pos hc, if_pos ⟨by omega, by simp; omega, hc.2.2⟩, show j - o = (j - (o + 1)) + 1 from by omega, List.getElem?_cons_succ]
      · rw [if_neg hc, if_neg (by simp; omega)]

theorem Blk.setAll {w : World} {b : Nat} {T : TypeId} {cs fin : Array Value} (h : Blk w b T cs) (hs : cs.size = fin.size) : Blk (w.setCells b 0 fin.toList) b T fin := by
  obtain ⟨cs', h1, h2, h3⟩ := Blk.setCells fin.toList 0 w cs h
  have : cs' = fin := by
    refine Array.ext_getElem? (fun j => ?_)
    rw [h3 j]
    by_cases hj : j < cs.size
    · rw [if_pos ⟨Nat.zero_le _, by simp; omega, hj⟩]; simp
    · rw [if_neg (by omega), Array.getElem?_eq_none (by omega), Array.getElem?_eq_none (by omega)]
  rwa [this] at h1

theorem heap_setCells {b : Nat} : ∀ (vs : List Value) (o : Nat) (w : World) (k : Nat), k ≠ b → (w.setCells b o vs).heap[k]? = w.heap[k]?
  | [], _, _, _, _ => rfl
  | v :: vs, o, w, k, h => (heap_setCells vs (o + 1) _ k h).trans (heap_setCell_other w ⟨b, o, none⟩ k v h)
theorem size_setCells {b : Nat} : ∀ (vs : List Value) (o : Nat) (w : World), (w.setCells b o vs).heap.size = w.heap.size
  | [], _, _ => rfl
  | v :: vs, o, w => (size_setCells vs (o + 1) _).trans (size_setCell w _ v)
theorem os_setCells {b : Nat} : ∀ (vs : List Value) (o : Nat) (w : World), (w.setCells b o vs).os = w.os ∧ (w.setCells b o vs).tape = w.tape ∧ (w.setCells b o vs).output = w.output
  | [], _, _ => ⟨rfl, rfl, rfl⟩
  | v :: vs, o, w => os_setCells vs (o + 1) (w.setCell ⟨b, o, none⟩ v)
theorem Blk.farAll {w : World} {b b' : Nat} {T : TypeId} {cs : Array Value} (h : Blk w b T cs) (hne : b ≠ b') (o : Nat) (vs : List Value) : Blk (w.setCells b' o vs) b T cs := by
  unfold Blk; rw [heap_setCells vs o w b hne]; exact h
theorem Below.setCells {B : Nat} {a w : World} (h : Below B a w) {b : Nat} (hb : B ≤ b) (o : Nat) (vs : List Value) : Below B a (w.setCells b o vs) :=
  h.trans ⟨(os_setCells vs o w).1, (os_setCells vs o w).2.1, (os_setCells vs o w).2.2, Nat.le_of_eq (size_setCells vs o w).symm, fun k hk => heap_setCells vs o w k (by omega)⟩
theorem Ext.setCells {a w : World} (h : Ext a w) {b : Nat} (hb : a.heap.size ≤ b) (o : Nat) (vs : List Value) : Ext a (w.setCells b o vs) := Below.setCells h hb o vs
theorem Blk.there {w : World} {b : Nat} {T : TypeId} {cs : Array Value} (h : Blk w b T cs) {n : Nat} (hn : n ≤ cs.size) : w.there b 0 n := fun j hj => by
  rw [Nat.zero_add]
  refine ⟨?_, h.free j⟩
  rw [h.cells j, Array.getElem?_eq_getElem (by omega)]
  rfl

/-! ### A region in which one block of the call's own is written, once -/
/-- All but block b stays as it is; what block b will hold in the end it keeps. -/
structure RS (b : Nat) (T : TypeId) (fin : Array Value) (w w' : World) : Prop where
  os : w'.os = w.os
  tape : w'.tape = w.tape
  output : w'.output = w.output
  size : w.heap.size ≤ w'.heap.size
  block : ∀ k, k < w.heap.size → k ≠ b → w'.heap[k]? = w.heap[k]?
  row : ∀ cs, Blk w b T cs → cs.size = fin.size → ∃ cs', Blk w' b T cs' ∧ cs'.size = fin.size ∧ (cs = fin → cs' = fin)
theorem RS.refl {b : Nat} {T : TypeId} {fin : Array Value} (w : World) : RS b T fin w w := ⟨rfl, rfl, rfl, Nat.le_refl _, fun _ _ _ => rfl, fun cs h hs => ⟨cs, h, hs, id⟩⟩
theorem RS.trans {b : Nat} {T : TypeId} {fin : Array Value} {x y z : World} (h : RS b T fin x y) (k : RS b T fin y z) : RS b T fin x z :=
  ⟨k.os.trans h.os, k.tape.trans h.tape, k.output.trans h.output, Nat.le_trans h.size k.size, fun _ hi hne => (k.block _ (Nat.lt_of_lt_of_le hi h.size) hne).trans (h.block _ hi hne),
   fun cs hb hs => by
    obtain ⟨c1, h1, h2, h3⟩ := h.row cs hb hs
    obtain ⟨c2, k1, k2, k3⟩ := k.row c1 h1 h2
    exact ⟨c2, k1, k2, fun e => k3 (h3 e)⟩⟩
theorem RS.of {b : Nat} {T : TypeId} {fin : Array Value} {x y : World} (h : Ext x y) : RS b T fin x y :=
  ⟨h.os, h.tape, h.output, h.size, fun _ hi _ => h.block hi, fun cs hb hs => ⟨cs, hb.ext h, hs, id⟩⟩
theorem RS.blk {b : Nat} {T : TypeId} {fin : Array Value} {x y : World} (h : RS b T fin x y) {b' : Nat} {T' : TypeId} {cs : Array Value} (hb : Blk x b' T' cs) (hne : b' ≠ b) : Blk y b' T' cs := by
  unfold Blk; rw [h.block b' hb.lt hne]; exact hb
theorem RS.below {b : Nat} {T : TypeId} {fin : Array Value} {a x y : World} (h : RS b T fin x y) {B : Nat} (ha : Below B a x) (hB : B ≤ x.heap.size) (hb : B ≤ b) : Below B a y :=
  ha.trans ⟨h.os, h.tape, h.output, h.size, fun k hk => h.block k (by omega) (by omega)⟩
theorem RS.ext {b : Nat} {T : TypeId} {fin : Array Value} {a x y : World} (h : RS b T fin x y) (ha : Ext a x) (hb : a.heap.size ≤ b) : Ext a y := RS.below h ha ha.size hb

/-- The store itself. -/
theorem At.store {P : Program} {ops : Array Oper} {k : Nat} {Q : Exit → Act → World → Prop} {w0 : World} {i : Nat} {o : Oper} {rest : List Oper} {T : (Nat → Value) → Act} {F : (Nat → Bool) → (Nat → Value) → World → Prop} {N : List Nat}
    {b : Nat} {t : TypeId} {fin : Array Value} (cs : Array Value) (h0 : Blk w0 b t cs) (hcs : cs.size = fin.size) (ty : TypeId) (x y : Operand) (ho : o.op = .store ty x y) (hg : o.guard = none)
    (hx : ∀ val, (T val).eval x = .pointer (some ⟨b, 0, none⟩)) (hy : ∀ val, (T val).eval y = .agg fin) (hi : (P.info? ty).map (·.size) = some fin.size) (h1 : fin.all (·.oneCell') = true)
    (h : At P ops k (RS b t fin) Q w0 (i + 1) rest (fun val => (T val).put o.dst (val i)) (fun Bf val w => F Bf val w ∧ (Bf i = true → Blk w b t fin)) N) : At P ops k (RS b t fin) Q w0 i (o :: rest) T F N :=
  At.free (fun _ w => Blk w b t fin) (fun v w w' hR hb => by
      obtain ⟨c', h1, _, h3⟩ := hR.row fin hb rfl
      rwa [h3 rfl] at h1)
    (fun val w hR _ K hK => by
      obtain ⟨c1, hb1, hs1, _⟩ := hR.row cs h0 hcs
      rw [if_pos (by simp [Region.wanted, hg])]
      have hb2 := hb1.setAll hs1
      refine wp_store_mid ty x y ho b 0 fin (hx val) (hy val) (hb1.there (by omega)) hi h1 (hK undef _ ⟨(os_setCells _ _ _).1, (os_setCells _ _ _).2.1, (os_setCells _ _ _).2.2, Nat.le_of_eq (size_setCells _ _ _).symm, fun k _ hne => heap_setCells _ _ _ _ hne, fun c hc hcs => ⟨fin, hb2, rfl, fun _ => rfl⟩⟩ hb2)) h
end Go.Rg
