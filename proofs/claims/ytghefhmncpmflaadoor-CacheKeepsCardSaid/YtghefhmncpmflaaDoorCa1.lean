/-
  Small laws on memory that is written: which blocks a call may change; maps of integers' keys, slices of integers.
-/
import Derived.Test.YtghefhmncpmflaaDoorApp
import Derived.Test.YtghefhmncpmflaaDoorMem3
import Derived.Maps.OwnSet
namespace Go.Rg
open Go Go.RowKit

/-- Nothing that was there is changed but the blocks of S. -/
structure Chg (S : Nat → Prop) (w w' : World) : Prop where
  os : w'.os = w.os
  tape : w'.tape = w.tape
  output : w'.output = w.output
  size : w.heap.size ≤ w'.heap.size
  block : ∀ k, k < w.heap.size → ¬ S k → w'.heap[k]? = w.heap[k]?
theorem Chg.refl {S : Nat → Prop} (w : World) : Chg S w w := ⟨rfl, rfl, rfl, Nat.le_refl _, fun _ _ _ => rfl⟩
theorem Chg.of_ext {S : Nat → Prop} {w w' : World} (h : Ext w w') : Chg S w w' := ⟨h.os, h.tape, h.output, h.size, fun _ hk _ => h.block hk⟩
theorem Chg.trans {S : Nat → Prop} {a b c : World} (h : Chg S a b) (k : Chg S b c) : Chg S a c :=
  ⟨k.os.trans h.os, k.tape.trans h.tape, k.output.trans h.output, Nat.le_trans h.size k.size, fun i hi hs => (k.block i (Nat.lt_of_lt_of_le hi h.size) hs).trans (h.block i hi hs)⟩
/-- Behind it blocks may be changed that were not there, too. -/
theorem Chg.trans' {S T : Nat → Prop} {a b c : World} (h : Chg S a b) (k : Chg T b c) (hT : ∀ i, i < a.heap.size → T i → S i) : Chg S a c :=
  ⟨k.os.trans h.os, k.tape.trans h.tape, k.output.trans h.output, Nat.le_trans h.size k.size, fun i hi hs => (k.block i (Nat.lt_of_lt_of_le hi h.size) (fun ht => hs (hT i hi ht))).trans (h.block i hi hs)⟩
theorem Chg.mono {S T : Nat → Prop} {w w' : World} (h : Chg S w w') (hST : ∀ k, k < w.heap.size → S k → T k) : Chg T w w' :=
  ⟨h.os, h.tape, h.output, h.size, fun k hk hn => h.block k hk (fun hs => hn (hST k hk hs))⟩
theorem Chg.alloc {S : Nat → Prop} {a b : World} (h : Chg S a b) (o : Obj) : Chg S a (b.alloc o) := h.trans (Chg.of_ext ((Ext.refl b).alloc o))
theorem Chg.drew {S : Nat → Prop} {a b : World} (h : Chg S a b) : Chg S a b.drew := h.trans (Chg.of_ext (Ext.refl b).drew)
theorem Chg.of_drew {S : Nat → Prop} {a b : World} (h : Chg S a.drew b) : Chg S a b := (Chg.of_ext (Ext.refl a).drew).trans h
theorem Chg.ext {S : Nat → Prop} {a b c : World} (h : Chg S a b) (k : Ext b c) : Chg S a c := h.trans (Chg.of_ext k)
theorem Chg.setCell {S : Nat → Prop} {a b : World} (h : Chg S a b) {p : Addr} (hp : p.block < a.heap.size → S p.block) (v : Value) : Chg S a (b.setCell p v) :=
  ⟨h.os, h.tape, h.output, by rw [size_setCell]; exact h.size, fun k hk hs => by
    by_cases e : k = p.block
    · exact absurd (hp (e ▸ hk)) (e ▸ hs)
    · rw [heap_setCell_other _ _ _ _ e]; exact h.block k hk hs⟩
theorem Chg.setCells {S : Nat → Prop} {a b : World} (h : Chg S a b) {p : Nat} (hp : p < a.heap.size → S p) (o : Nat) (vs : List Value) : Chg S a (b.setCells p o vs) :=
  ⟨(os_setCells vs o b).1.trans h.os, (os_setCells vs o b).2.1.trans h.tape, (os_setCells vs o b).2.2.trans h.output, by rw [size_setCells]; exact h.size, fun k hk hs => by
    by_cases e : k = p
    · exact absurd (hp (e ▸ hk)) (e ▸ hs)
    · rw [heap_setCells _ _ _ _ e]; exact h.block k hk hs⟩
theorem Chg.grown {S : Nat → Prop} {a b c : World} (h : Chg S a b) {row : Option Nat} (hg : b.grownBy c row) (hr : ∀ k, row = some k → k < a.heap.size → S k) : Chg S a c :=
  ⟨hg.os.trans h.os, hg.tape.trans h.tape, hg.output.trans h.output, Nat.le_trans h.size hg.size, fun k hk hs => by
    rw [hg.block k (Nat.lt_of_lt_of_le hk h.size) (fun e => hs (hr k e.symm hk))]; exact h.block k hk hs⟩
theorem Chg.blk {S : Nat → Prop} {w w' : World} (h : Chg S w w') {b : Nat} {T : TypeId} {cs : Array Value} (hb : Blk w b T cs) (hn : ¬ S b) : Blk w' b T cs := by
  unfold Blk; rw [h.block b hb.lt hn]; exact hb
theorem Chg.below {S : Nat → Prop} {w0 w w' : World} {B : Nat} (h : Chg S w w') (h0 : Below B w0 w) (hB : B ≤ w.heap.size) (hS : ∀ k, S k → B ≤ k) : Below B w0 w' :=
  h0.trans ⟨h.os, h.tape, h.output, h.size, fun k hk => h.block k (by omega) (fun hs => by have := hS k hs; omega)⟩
theorem Chg.none {w w' : World} (h : Chg (fun _ => False) w w') : Ext w w' := ⟨h.os, h.tape, h.output, h.size, fun k hk => h.block k hk (fun hf => hf)⟩

/-! ### maps whose keys are integers -/
section
variable {P : Program} {tk : TypeId}
def Rv (v : Value) : Option (DataW Value × List MemPlace) := some (.held v, [])
/-- Block b is a map that holds f. -/
def MapI (P : Program) (tk : TypeId) (w : World) (b n : Nat) (f : Int → Option Value) : Prop :=
  ∃ D : DataW Value, w.ownsMap P tk Rv b n D ∧ Maps.IsMap D ∧ ∀ k z, D.atKey (.int .i64 k) z = match f k with | some v => .held v | none => z
theorem MapI.made (P : Program) (tk : TypeId) (w : World) : MapI P tk (w.alloc (.map #[] 0)) w.heap.size 0 (fun _ => none) :=
  ⟨_, World.ownsMap_made _ _ _ _, Maps.isMap_empty, fun k z => rfl⟩
theorem MapI.lt {w : World} {b n : Nat} {f : Int → Option Value} (h : MapI P tk w b n f) : b < w.heap.size := let ⟨_, h, _⟩ := h; h.lt
theorem MapI.of_block {w w' : World} {b n : Nat} {f : Int → Option Value} (h : MapI P tk w b n f) (he : w'.heap[b]? = w.heap[b]?) : MapI P tk w' b n f := by
  obtain ⟨D, ⟨es, c, h1, h2⟩, h3⟩ := h
  exact ⟨D, ⟨es, c, he.trans h1, h2⟩, h3⟩
theorem MapI.chg {S : Nat → Prop} {w w' : World} {b n : Nat} {f : Int → Option Value} (h : MapI P tk w b n f) (hc : Chg S w w') (hn : ¬ S b) : MapI P tk w' b n f := h.of_block (hc.block b h.lt hn)
theorem MapI.ext {w w' : World} {b n : Nat} {f : Int → Option Value} (h : MapI P tk w b n f) (he : Ext w w') : MapI P tk w' b n f := h.of_block (he.block h.lt)
theorem MapI.congr {w : World} {b n : Nat} {f g : Int → Option Value} (h : MapI P tk w b n f) (hfg : ∀ k, f k = g k) : MapI P tk w b n g := by rw [← funext hfg]; exact h

variable {t e : TypeId} {w : World} {b n : Nat} {f : Int → Option Value}
theorem MapI.lookup (h : MapI P tk w b n f) (hk : P.underlying tk = some (.int .i64)) (ht : P.underlying t = some (.map tk e)) {z : Value} (hz : (zeroValue e).run P w = .ok z w) {k : Int} (hw : (Lit.int .i64 k).wf = true) :
    (Instr.lookup t (.map (some b)) (.int .i64 k) false).run P w = .ok ((f k).getD z) w := by
  obtain ⟨D, hown, hm, hD⟩ := h
  obtain ⟨v, ps, hrun, hv⟩ := hown.lookup (Maps.int_keyed hk) ht hz (zd := .held z) (zp := []) rfl (Maps.keyOf_int_mk hk hw)
  rw [hD k] at hv
  rw [hrun]
  unfold Rv at hv
  cases hf : f k with
  | none => rw [hf] at hv; simp at hv; simp [hv]
  | some u => rw [hf] at hv; simp at hv; simp [hv]
theorem MapI.update (h : MapI P tk w b n f) (hk : P.underlying tk = some (.int .i64)) (ht : P.underlying t = some (.map tk e)) (hn : n < maxLen) {k : Int} (hw : (Lit.int .i64 k).wf = true) (v : Value) :
    ∃ w', (Instr.mapUpdate t (.map (some b)) (.int .i64 k) v).run P w = .ok () w' ∧ MapI P tk w' b (n + 1) (fun j => if j = k then some v else f j) ∧ w.grownBy w' (some b) := by
  obtain ⟨D, hown, hm, hD⟩ := h
  obtain ⟨w', hrun, hown', hg⟩ := hown.update (Maps.int_keyed hk) ht hn (Maps.keyOf_int_mk hk hw) (show Rv v = some (.held v, []) from rfl)
  refine ⟨w', hrun, ⟨_, hown', hm.put _ _, fun j z => ?_⟩, hg⟩
  by_cases hj : j = k
  · subst hj
    dsimp only
    rw [if_pos rfl, Maps.atKey_put_same hm ((Maps.int_keyed hk).key (Maps.keyOf_int_mk hk hw))]
  · dsimp only
    rw [if_neg hj, Maps.atKey_put_other (by simpa using hj), hD]
theorem MapI.delete (h : MapI P tk w b n f) (hk : P.underlying tk = some (.int .i64)) (ht : P.underlying t = some (.map tk e)) {k : Int} (hw : (Lit.int .i64 k).wf = true) (ty : TypeId) :
    ∃ w', (Builtin.delete_ #[t, tk] ty #[.map (some b), .int .i64 k]).run P w = .ok (.tuple #[]) w' ∧ MapI P tk w' b n (fun j => if j = k then none else f j) ∧ w.grownBy w' (some b) := by
  obtain ⟨D, hown, hm, hD⟩ := h
  obtain ⟨w', hrun, hown', ht'⟩ := hown.drop (Maps.int_keyed hk) ht (Maps.keyOf_int_mk hk hw) ty
  refine ⟨w', hrun, ⟨_, hown', hm.del _, fun j z => ?_⟩, ht'.grown⟩
  by_cases hj : j = k
  · subst hj
    dsimp only
    rw [if_pos rfl, Maps.atKey_del_same]
  · dsimp only
    rw [if_neg hj, Maps.atKey_del_other (by simpa using hj), hD]
end

/-! ### slices of integers -/
/-- v is a slice that holds the integers xs, from the head of a block. -/
def Ints (te : TypeId) (w : World) (v : Value) (xs : List Int) : Prop := w.ownsRow 0 te 1 v xs.length (xs.map (Value.int .i64))
theorem Ints.nil (te : TypeId) (w : World) : Ints te w (.slice none 0 0) [] := World.ownsRow_nil _ _ te 1
theorem Ints.of_block {te : TypeId} {w w' : World} {v : Value} {xs : List Int} (h : Ints te w v xs) (he : ∀ g, v.ownBlock = some g → w'.heap[g]? = w.heap[g]?) : Ints te w' v xs := by
  obtain ⟨h1, h2⟩ := h
  refine ⟨h1, ?_⟩
  rcases h2 with h2 | ⟨g, cap, cur, hv, hg, hh, r⟩
  · exact .inl h2
  · exact .inr ⟨g, cap, cur, hv, hg, (he g (by rw [hv]; rfl)).trans hh, r⟩
theorem Ints.lt {te : TypeId} {w : World} {v : Value} {xs : List Int} (h : Ints te w v xs) {g : Nat} (hg : v.ownBlock = some g) : g < w.heap.size := (World.ownsRow.lt h g hg).2
theorem Ints.chg {te : TypeId} {S : Nat → Prop} {w w' : World} {v : Value} {xs : List Int} (h : Ints te w v xs) (hc : Chg S w w') (hn : ∀ g, v.ownBlock = some g → ¬ S g) : Ints te w' v xs :=
  h.of_block (fun g hg => hc.block g (h.lt hg) (hn g hg))
theorem Ints.ext {te : TypeId} {w w' : World} {v : Value} {xs : List Int} (h : Ints te w v xs) (he : Ext w w') : Ints te w' v xs := h.of_block (fun _ hg => he.block (h.lt hg))
/-- Its form. -/
theorem Ints.form {te : TypeId} {w : World} {v : Value} {xs : List Int} (h : Ints te w v xs) :
    (v = .slice none 0 0 ∧ xs = []) ∨ ∃ g cap, v = .slice (some ⟨g, 0, none⟩) xs.length cap ∧ g < w.heap.size ∧ xs.length ≤ cap ∧ cap ≤ maxLen ∧ (∀ j, j < xs.length → w.cell? ⟨g, j, none⟩ = some (.int .i64 (xs.getD j 0))) ∧ ∀ j, w.frozen? ⟨g, j, none⟩ = false := by
  have h' := h
  obtain ⟨h1, h2⟩ := h
  rcases h2 with ⟨hv, h0⟩ | ⟨g, cap, cur, hv, _, hh, hc, hm, _, hx⟩
  · exact .inl ⟨hv, List.length_eq_zero_iff.1 h0⟩
  · refine .inr ⟨g, cap, hv, (Array.getElem?_eq_some_iff.1 hh).1, hc, hm, fun j hj => ?_, fun j => frozen_of_row w g j _ _ hh⟩
    subst hv
    rw [World.ownsRow.cellAt h' j (by omega)]
    simp [hj]
end Go.Rg
