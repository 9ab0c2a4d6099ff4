/-
  Small laws on blocks of memory: a block that is known whole, what a cell of it reads, and what is left of it behind allocations, stores and calls that only make memory.
-/
import Derived.Test.YtghefhmncpmflaaDoorRg
import Derived.Laws.Rows
import Derived.Lib.Hide
import Derived.WalkSmall
import Derived.Deep.MidRow
import Derived.Deep.CutRange
import Derived.Deep.CutBlock
import Derived.Outline
import Derived.BigQuiet
import Derived.Deep.QuietTactic
import Derived.RowKitTokens
namespace Go.Rg
open Go Go.RowKit

/-- Block b is a row of cells of type T, no part of it frozen. -/
def Blk (w : World) (b : Nat) (T : TypeId) (cs : Array Value) : Prop := w.heap[b]? = some (.cells cs T (0, 0))

theorem Blk.lt {w : World} {b : Nat} {T : TypeId} {cs : Array Value} (h : Blk w b T cs) : b < w.heap.size := (Array.getElem?_eq_some_iff.1 h).1
theorem Blk.cells {w : World} {b : Nat} {T : TypeId} {cs : Array Value} (h : Blk w b T cs) (j : Nat) : w.cell? ⟨b, j, none⟩ = cs[j]? := cell_of_row w b j _ _ _ h
theorem Blk.free {w : World} {b : Nat} {T : TypeId} {cs : Array Value} (h : Blk w b T cs) (j : Nat) : w.frozen? ⟨b, j, none⟩ = false := frozen_of_row w b j _ _ h
theorem Blk.ext {w w' : World} {b : Nat} {T : TypeId} {cs : Array Value} (h : Blk w b T cs) (he : Ext w w') : Blk w' b T cs := he.obj h
theorem Blk.below {w w' : World} {b B : Nat} {T : TypeId} {cs : Array Value} (h : Blk w b T cs) (hb : b < B) (he : Below B w w') : Blk w' b T cs := by
  unfold Blk; rw [he.block b hb]; exact h
theorem Blk.drew {w : World} {b : Nat} {T : TypeId} {cs : Array Value} (h : Blk w b T cs) : Blk w.drew b T cs := h
theorem Blk.alloc {w : World} {b : Nat} {T : TypeId} {cs : Array Value} (h : Blk w b T cs) (o : Obj) : Blk (w.alloc o) b T cs := by
  unfold Blk; rw [RowKit.Below.heap_alloc w o b h.lt]; exact h
theorem Blk.new (w : World) (T : TypeId) (cs : Array Value) : Blk (w.alloc (.cells cs T)) w.heap.size T cs := heap_alloc_new w _
theorem Blk.new' {w : World} {b : Nat} (hb : b = w.heap.size) (T : TypeId) (cs : Array Value) : Blk (w.alloc (.cells cs T)) b T cs := by subst hb; exact Blk.new w T cs
theorem Blk.set {w : World} {b : Nat} {T : TypeId} {cs : Array Value} (h : Blk w b T cs) (j : Nat) (v : Value) : Blk (w.setCell ⟨b, j, none⟩ v) b T (cs.setIfInBounds j v) :=
  heap_setCell_same w b j cs T v h
theorem Blk.far {w : World} {b : Nat} {T : TypeId} {cs : Array Value} (h : Blk w b T cs) {a : Addr} (ha : b ≠ a.block) (v : Value) : Blk (w.setCell a v) b T cs := by
  unfold Blk; rw [heap_setCell_other w a b v ha]; exact h

/-- The number of blocks, through the ways in which memory is made. -/
theorem size_setCell (w : World) (a : Addr) (v : Value) : (w.setCell a v).heap.size = w.heap.size := by simp [World.setCell]
theorem size_alloc (w : World) (o : Obj) : (w.alloc o).heap.size = w.heap.size + 1 := by simp
theorem size_drew (w : World) : w.drew.heap.size = w.heap.size := rfl

/-- From a draw on. -/
theorem below_of_ext {B : Nat} {a w w' : World} (h : Below B a w) (hB : B ≤ w.heap.size) (he : Ext w w') : Below B a w' := h.trans (he.mono hB)
theorem Ext.below {B : Nat} {w w' : World} (he : Ext w w') (hB : B ≤ w.heap.size) : Below B w w' := Below.mono he hB
theorem Ext.drewN {a b : World} (h : Ext a b) (n : Nat) : Ext a (b.drewN n) := h.trans ⟨rfl, rfl, rfl, Nat.le_refl _, fun _ _ => rfl⟩
theorem Blk.drewN {w : World} {b : Nat} {T : TypeId} {cs : Array Value} (h : Blk w b T cs) (n : Nat) : Blk (w.drewN n) b T cs := h

/-- The end of a function whose one result is a struct or an array in memory. -/
theorem ret_blk {P : Program} {fn : Func} {p : Tmp} {ty : TypeId} (h : fn.results = #[.cell p ty]) {R : Ending → World → Prop} {a : Act} {w : World} (g : Nat) (T : TypeId) (cs : Array Value) (d : TypeDesc)
    (hp : a.tmps.getD p undef = .pointer (some ⟨g, 0, none⟩)) (hg : Blk w g T cs)
    (hu : P.underlying ty = some d) (hd : (match d with | .struct _ | .array _ _ => true | _ => false) = true) (hi : (P.info? ty).map (·.size) = some cs.size)
    (hdf : a.defers = []) (hR : R (.returned (.agg cs)) w) : bodyPost P fn R .ret a w :=
  bodyPost_ret (results_cell_row h a.tmps w g T cs (0, 0) d hp hg hu hd hi) hdf hR

/-- In a region: a whole block is loaded. -/
theorem At.row {P : Program} {ops : Array Oper} {k : Nat} {R : World → World → Prop} {Q : Exit → Act → World → Prop} {w0 : World} {i : Nat} {o : Oper} {rest : List Oper} {T : (Nat → Value) → Act} {F : (Nat → Bool) → (Nat → Value) → World → Prop} {N : List Nat}
    (b : Nat) (t : TypeId) (cs : Array Value) (d : TypeDesc) (hrr : ∀ w, R w w) (hb : ∀ w, R w0 w → Blk w b t cs) (ty : TypeId) (x : Operand) (ho : o.op = .load ty x)
    (hw : ∀ val, Region.wanted o (yielded ops (T val).tmps) = true) (hx : ∀ val, (T val).eval x = .pointer (some ⟨b, 0, none⟩))
    (hu : P.underlying ty = some d) (hd : (match d with | .struct _ | .array _ _ => true | _ => false) = true) (hi : (P.info? ty).map (·.size) = some cs.size)
    (h : At P ops k R Q w0 (i + 1) rest (fun val => (T val).put o.dst (.agg cs)) F N) : At P ops k R Q w0 i (o :: rest) T F N :=
  At.det (.agg cs) (fun val w hR _ K hK => by
    rw [if_pos (hw val)]
    exact wp_load_row ty x ho b (hx val) t cs (0, 0) d (hb w hR) hu hd hi (hK w (hrr w))) h
theorem At.mid {P : Program} {ops : Array Oper} {k : Nat} {R : World → World → Prop} {Q : Exit → Act → World → Prop} {w0 : World} {i : Nat} {o : Oper} {rest : List Oper} {T : (Nat → Value) → Act} {F : (Nat → Bool) → (Nat → Value) → World → Prop} {N : List Nat}
    (b off : Nat) (cs : List Value) (d : TypeDesc) (hrr : ∀ w, R w w) (hb : ∀ w, R w0 w → w.rangeAt b off cs) (ty : TypeId) (x : Operand) (ho : o.op = .load ty x)
    (hw : ∀ val, Region.wanted o (yielded ops (T val).tmps) = true) (hx : ∀ val, (T val).eval x = .pointer (some ⟨b, off, none⟩))
    (hu : P.underlying ty = some d) (hd : d.isRow = true) (hi : (P.info? ty).map (·.size) = some cs.length)
    (h : At P ops k R Q w0 (i + 1) rest (fun val => (T val).put o.dst (.agg cs.toArray)) F N) : At P ops k R Q w0 i (o :: rest) T F N :=
  At.det (.agg cs.toArray) (fun val w hR _ K hK => by
    rw [if_pos (hw val)]
    exact wp_load_mid ty x ho b off (hx val) cs d (hb w hR) hu hd hi (hK w (hrr w))) h
theorem Blk.range {w : World} {b : Nat} {T : TypeId} {cs : Array Value} (h : Blk w b T cs) (o n : Nat) : w.rangeAt b o (cs.extract o (o + n)).toList := World.rangeAt_of_block h o n

/-- Of the world what is wanted further on. -/
theorem wp_forget {P : Program} {c : Code} {Q : Exit → Act → World → Prop} {a : Act} {W : World} (X : World → Prop) (hX : X W) (h : ∀ w2, X w2 → c.wp P Q a w2) : c.wp P Q a W := h W hX
theorem wpList_forget {P : Program} {ops : Array Oper} {l : List Oper} {Q : Exit → Act → World → Prop} {a : Act} {W : World} (X : World → Prop) (hX : X W) (h : ∀ w2, X w2 → wpList P ops Q l a w2) : wpList P ops Q l a W := h W hX
end Go.Rg
