/-
  A law: one element is appended to a slice of the call's own, out of a new block.
-/
import Derived.Test.YtghefhmncpmflaaDoorMem2
import Derived.OwnWalk
namespace Go.Rg
open Go Go.RowKit

theorem ownsRow_ext {w w' : World} {B : Nat} {e : TypeId} {size : Nat} {v : Value} {n : Nat} {xs : List Value} (h : w.ownsRow B e size v n xs) (he : Ext w w') : w'.ownsRow B e size v n xs :=
  h.kept (row := none) ⟨he.os, he.tape, he.output, he.size, fun _ hk _ => he.block hk⟩ (by cases v.ownBlock <;> simp)
theorem ownsRow_base {w : World} {B B' : Nat} {e : TypeId} {size : Nat} {v : Value} {n : Nat} {xs : List Value} (h : w.ownsRow B e size v n xs) (hB : B' ≤ B) : w.ownsRow B' e size v n xs := by
  obtain ⟨h1, h2⟩ := h
  refine ⟨h1, ?_⟩
  rcases h2 with h2 | ⟨g, cap, cur, hv, hg, r⟩
  · exact .inl h2
  · exact .inr ⟨g, cap, cur, hv, Nat.le_trans hB hg, r⟩
theorem ext_grown {a w w' : World} (h : Ext a w) {B : Nat} {e : TypeId} {size : Nat} {v : Value} {n : Nat} {xs : List Value} (hown : w.ownsRow B e size v n xs) (hg : w.grownBy w' v.ownBlock) (hB : a.heap.size ≤ B) : Ext a w' :=
  RowKit.Below.grown h hg h.size (fun k hk => Nat.le_trans hB (hown.lt k hk).1)
theorem blk_grown {w w' : World} {b : Nat} {T : TypeId} {cs : Array Value} (hb : Blk w b T cs) {B : Nat} {e : TypeId} {size : Nat} {v : Value} {n : Nat} {xs : List Value} (hown : w.ownsRow B e size v n xs) (hg : w.grownBy w' v.ownBlock) (hB : b < B) : Blk w' b T cs := by
  unfold Blk
  rw [hg.block b hb.lt (fun e => by have := (hown.lt b e.symm).1; omega)]
  exact hb

theorem wpList_app1 {P : Program} {ops : Array Oper} {rest : List Oper} {o : Oper} {a : Act} {w : World} {Q : Exit → Act → World → Prop} (t : TypeId) (base : Nat) (e : TypeId) (i : TypeInfo) (z : Value) (size bytes : Nat)
    (ht : P.underlying t = some (.slice e)) (hi : P.info? e = some i) (hz : i.zero = some z)
    (hsize : i.size = size) (hby : i.bytes = bytes) (hzs : z.cells.size = size) (hsz : 0 < size) (hb1 : bytes ≤ 10000)
    (hgd : o.guard = none) (s x : Operand) (ho : o.op = .call { callee := .builtin .append, args := #[s, x], argTypes := #[t, t] })
    (v : Value) (n : Nat) (xs : List Value) (hs : a.eval s = v) (hown : w.ownsRow base e size v n xs) (hn : n ≤ 1000000000) (hbase : base ≤ w.heap.size)
    (b : Nat) (T : TypeId) (news : List Value) (hx : a.eval x = .slice (some ⟨b, 0, none⟩) 1 1) (hblk : Blk w b T news.toArray) (hl : news.length = size) (h1 : news.all (·.oneCell') = true)
    (h : ∀ v' w', w'.ownsRow base e size v' (n + 1) (xs ++ news) → w.grownBy w' v.ownBlock → wpList P ops Q rest (a.put o.dst v') w') : wpList P ops Q (o :: rest) a w := by
  refine wpList_append_own w hgd s x t ho base e i z size bytes ht hi hz hsize hby hzs hsz v n xs hs hown ⟨b, 0, none⟩ 1 1 news hx (by omega) ?_ (fun u hu => List.all_eq_true.1 h1 u hu) (by unfold maxLen; omega) ?_ hbase (fun v' w' g1 g2 _ => h v' w' g1 g2)
  · intro j u hj
    rw [Addr.add_mid, Nat.zero_add, hblk.cells j]
    simpa using hj
  · have : (n + 1) * bytes ≤ (1000000000 + 1) * 10000 := Nat.mul_le_mul (by omega) hb1
    exact Nat.le_trans this (by decide)
end Go.Rg
