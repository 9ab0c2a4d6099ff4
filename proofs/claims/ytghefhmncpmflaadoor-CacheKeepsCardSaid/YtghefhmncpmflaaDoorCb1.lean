/-
  Laws: a row that is the call's own, and the append of one int slice to it; slices.Grow at nil.
-/
import Derived.Test.YtghefhmncpmflaaDoorCa4
import Derived.Test.YtghefhmncpmflaaDoorShelf2
namespace Go.Rg
open Go Go.RowKit

/-- A slice of numbers in blocks from B on. -/
def OwnI (B : Nat) (te : TypeId) (w : World) (v : Value) (xs : List Int) : Prop := w.ownsRow B te 1 v xs.length (xs.map (Value.int .i64))
theorem OwnI.ints {B : Nat} {te : TypeId} {w : World} {v : Value} {xs : List Int} (h : OwnI B te w v xs) : Ints te w v xs := by
  obtain ⟨h1, h2⟩ := h
  refine ⟨h1, ?_⟩
  rcases h2 with h2 | ⟨g, cap, cur, e, _, r⟩
  · exact .inl h2
  · exact .inr ⟨g, cap, cur, e, Nat.zero_le _, r⟩
theorem OwnI.fresh {B : Nat} {te : TypeId} {w : World} {v : Value} {xs : List Int} (h : OwnI B te w v xs) {g : Nat} (hg : v.ownBlock = some g) : B ≤ g := by
  rcases h.2 with ⟨rfl, _⟩ | ⟨g', cap, cur, rfl, hb, _⟩
  · cases hg
  · cases hg; exact hb
theorem OwnI.of_ints {B : Nat} {te : TypeId} {w : World} {v : Value} {xs : List Int} (h : Ints te w v xs) (hf : ∀ g, v.ownBlock = some g → B ≤ g) : OwnI B te w v xs := by
  obtain ⟨h1, h2⟩ := h
  refine ⟨h1, ?_⟩
  rcases h2 with h2 | ⟨g, cap, cur, e, _, r⟩
  · exact .inl h2
  · exact .inr ⟨g, cap, cur, e, hf g (by rw [e]; rfl), r⟩
theorem OwnI.ext {B : Nat} {te : TypeId} {w w' : World} {v : Value} {xs : List Int} (h : OwnI B te w v xs) (he : Ext w w') : OwnI B te w' v xs := .of_ints (h.ints.ext he) (fun _ hg => h.fresh hg)

theorem run_append_none {P : Program} {t te ty : TypeId} {w : World} {i : TypeInfo} (ht : P.underlying t = some (.slice te)) (hi : P.info? te = some i) (b : Option Addr) (n c : Nat) (hb : b = none → n = 0) (hc : n ≤ c) :
    (Builtin.append_ #[t, t] ty #[.slice b n c, .slice none 0 0]).run P w = .ok (.slice b n c) w := by
  cases b with
  | none =>
    obtain rfl := hb rfl
    simp [Builtin.append_, run_underlying ht, sizeOf, typeInfo, hi, Builtin.lenOf, run_firstCells_none]
  | some a =>
    simp [Builtin.append_, run_underlying ht, sizeOf, typeInfo, hi, Builtin.lenOf, run_firstCells_none, hc, storeCells]

theorem run_appInts {P : Program} {t te ty : TypeId} {w : World} {i : TypeInfo} (ht : P.underlying t = some (.slice te)) (hi : P.info? te = some i) (hz : i.zero = some (.int .i64 0)) (hs : i.size = 1) (hb : i.bytes = 8)
    {B : Nat} {v u : Value} {xs ys : List Int} (h : OwnI B te w v xs) (hu : Ints te w u ys) (hl : xs.length + ys.length ≤ 1000000) (hB : B ≤ w.heap.size) :
    ∃ v' w', (Builtin.append_ #[t, t] ty #[v, u]).run P w = .ok v' w' ∧ OwnI B te w' v' (xs ++ ys) ∧ w.grownBy w' v.ownBlock := by
  rcases hu.form with ⟨rfl, rfl⟩ | ⟨g, cap, rfl, h2⟩
  · rcases h.ints.form with ⟨rfl, rfl⟩ | ⟨g, cap, rfl, h3⟩
    · exact ⟨_, w, run_append_none ht hi none 0 0 (fun _ => rfl) (Nat.le_refl _), by simpa using h, ⟨rfl, rfl, rfl, Nat.le_refl _, fun _ _ _ => rfl⟩⟩
    · exact ⟨_, w, run_append_none ht hi _ _ _ (fun e => by cases e) h3.2.1, by simpa using h, ⟨rfl, rfl, rfl, Nat.le_refl _, fun _ _ _ => rfl⟩⟩
  · have hn : ∀ (j : Nat) (u : Value), (ys.map (Value.int .i64))[j]? = some u → w.cell? ((⟨g, 0, none⟩ : Addr).add j) = some u := by
      intro j u hj
      have hjl : j < ys.length := by simpa using (List.getElem?_eq_some_iff.1 hj).1
      rw [Addr.add_mid, Nat.zero_add, h2.2.2.2.1 j hjl, ← hj]
      simp [List.getD, hjl]
    have h1 : ∀ u ∈ ys.map (Value.int .i64), u.oneCell' = true := by
      intro u hu
      obtain ⟨k, _, rfl⟩ := List.mem_map.1 hu
      rfl
    obtain ⟨v', w', hr, ho, hg, -⟩ := run_append_own (P := P) w B t ty te i (.int .i64 0) 1 8 ht hi hz hs hb rfl (by decide) v xs.length _ h ⟨g, 0, none⟩ ys.length cap (ys.map (Value.int .i64)) (by simp) hn h1 (by unfold maxLen; omega) (by omega) hB
    exact ⟨v', w', hr, by unfold OwnI; rw [List.length_append, List.map_append]; exact ho, hg⟩

theorem wpList_appInts {P : Program} {ops : Array Oper} {rest : List Oper} {o : Oper} {a : Act} {w : World} {Q : Exit → Act → World → Prop} (hgd : o.guard = none) (t : TypeId) (s x : Operand)
    (ho : o.op = .call { callee := .builtin .append, args := #[s, x], argTypes := #[t, t] }) {te : TypeId} {i : TypeInfo} (ht : P.underlying t = some (.slice te)) (hi : P.info? te = some i) (hz : i.zero = some (.int .i64 0)) (hs : i.size = 1) (hb : i.bytes = 8)
    {B : Nat} {v u : Value} {xs ys : List Int} (hv : a.eval s = v) (hu : a.eval x = u) (h : OwnI B te w v xs) (h2 : Ints te w u ys) (hl : xs.length + ys.length ≤ 1000000) (hB : B ≤ w.heap.size)
    (hK : ∀ v' w', OwnI B te w' v' (xs ++ ys) → w.grownBy w' v.ownBlock → wpList P ops Q rest (a.put o.dst v') w') : wpList P ops Q (o :: rest) a w :=
  wpList_plain hgd fun _ hK' => by
    obtain ⟨v', w', hr, h3, h4⟩ := run_appInts (ty := o.type) ht hi hz hs hb h h2 hl hB
    unfold Oper.wp execOp
    simp only [ho, resolve, invoke, builtin, Sem.run_bind, Sem.run_pure, Result.andThen_ok, List.map_toArray, List.map_cons, List.map_nil, hv, hu, hr]
    exact hK' _ _ (hK v' w' h3 h4)
end Go.Rg
namespace Go.Proofs.YtghefhmncpmflaaDoor
open Go.RowKit Go.Rg

def OPost (B : Nat) (xs : List Int) (w : World) (e : Ending) (w' : World) : Prop := ∃ v, e = .returned v ∧ OwnI B 3 w' v xs ∧ Ext w w'
theorem grow_any (n : Nat) (hn : n ≤ 1000000) (w : World) : Calls Tryd.prog 130 #[.slice none 0 0, .int .i64 n] w (OPost w.heap.size [] w) := by
  obtain ⟨i, h1, h2, h3, h4⟩ := info_parts info3
  cases n with
  | zero =>
    refine (Any8.slices_Grow_room Tryd.lays8n4 none 0 0 0 w (by omega) (by omega) (by omega) (by omega)).mono ?_
    rintro e w' ⟨rfl, rfl⟩
    exact ⟨_, rfl, ⟨rfl, .inl ⟨rfl, rfl⟩⟩, Ext.refl _⟩
  | succ n =>
    refine (Any8.slices_Grow_grow Tryd.lays8n4 i (.int .i64 0) h1 h2 (by omega) none 0 0 (n + 1) [] w (by omega) (by omega) (by rw [h4]; omega) (by omega) (by simp) (fun _ => rfl) (fun a ha => by cases ha)).mono ?_
    rintro e w' ⟨rfl, rfl⟩
    have hge := grownCap_ge w (0 + (n + 1)) 0 3
    have hle := grownCap_le_maxLen w (0 + (n + 1)) 0 3 (by unfold maxLen; omega)
    have e25 : Tryd.lays8n4_ren.t 25 = 3 := rfl
    rw [e25]
    generalize grownCap w (0 + (n + 1)) 0 3 = cap at *
    have hh := (MapKept.heap_alloc w.drew (.cells (([] : List Value).toArray ++ Builtin.zeroCells (Value.int .i64 0).cells (0 + (n + 1) - 0) ++ Builtin.zeroCells (Value.int .i64 0).cells (cap - (0 + (n + 1)))) 3)).1
    exact ⟨_, rfl, ⟨rfl, .inr ⟨w.heap.size, cap, _, rfl, Nat.le_refl _, hh, Nat.zero_le _, hle, by simp [size_zeroCells, Value.cells]; omega, by simp⟩⟩, (Ext.refl w).drew.alloc _⟩
end Go.Proofs.YtghefhmncpmflaaDoor
