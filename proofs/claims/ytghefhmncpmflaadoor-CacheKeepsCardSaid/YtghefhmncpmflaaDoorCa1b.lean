/-
  A law: a number is appended to a slice of numbers; where the slice lies then.
-/
import Derived.Test.YtghefhmncpmflaaDoorCa1
namespace Go.Rg
open Go Go.RowKit

theorem run_appInt {P : Program} {t te ty : TypeId} {w : World} {i : TypeInfo} (ht : P.underlying t = some (.slice te)) (hi : P.info? te = some i) (hz : i.zero = some (.int .i64 0)) (hs : i.size = 1) (hb : i.bytes = 8)
    {v : Value} {xs : List Int} (h : Ints te w v xs) (hl : xs.length ≤ 1000000) {b c : Nat} {T : TypeId} {k : Int} (hk : Blk w b T #[.int .i64 k]) :
    ∃ v' w', (Builtin.append_ #[t, t] ty #[v, .slice (some ⟨b, 0, none⟩) 1 c]).run P w = .ok v' w' ∧ Ints te w' v' (xs ++ [k]) ∧ w.grownBy w' v.ownBlock ∧
      (v'.ownBlock = v.ownBlock ∨ ∃ g, v'.ownBlock = some g ∧ w.heap.size ≤ g ∧ g < w'.heap.size) ∧ Ints te w' v xs ∧ ∀ v2, Ints te w v2 (xs ++ [k]) → Ints te w' v2 (xs ++ [k]) := by
  have hn : ∀ (j : Nat) (u : Value), [Value.int .i64 k][j]? = some u → w.cell? ((⟨b, 0, none⟩ : Addr).add j) = some u := by
    intro j u hj
    rw [Addr.add_mid, Nat.zero_add, hk.cells j]
    simpa using hj
  have h1 : ∀ u ∈ [Value.int .i64 k], u.oneCell' = true := by intro u hu; simp at hu; subst hu; rfl
  have hml : xs.length + 1 ≤ maxLen := by unfold maxLen; omega
  have hby : (xs.length + 1) * 8 ≤ 140737488355328 := by omega
  obtain ⟨v', w', hr, ho, hg, -⟩ := run_append_own (P := P) w 0 t ty te i (.int .i64 0) 1 8 ht hi hz hs hb rfl (by decide) v xs.length _ h ⟨b, 0, none⟩ 1 c [.int .i64 k] rfl hn h1 hml hby (Nat.zero_le _)
  refine ⟨v', w', hr, by unfold Ints; rw [List.length_append, List.map_append]; exact ho, hg, ?_⟩
  have fin : ∀ (w' : World), Ext w w' → Ints te w' v xs ∧ ∀ v2, Ints te w v2 (xs ++ [k]) → Ints te w' v2 (xs ++ [k]) := fun w' he => ⟨h.ext he, fun v2 h2 => h2.ext he⟩
  rcases h.2 with ⟨rfl, h0⟩ | ⟨g, cap, cur, rfl, _, hh, hc, _, hsz, hx⟩
  · have hx0 : xs = [] := List.length_eq_zero_iff.1 h0
    subst hx0
    obtain ⟨v2, w2, hr2, ho2, -, hne⟩ := run_append_own (P := P) w w.heap.size t ty te i (.int .i64 0) 1 8 ht hi hz hs hb rfl (by decide) (.slice none 0 0) 0 [] (World.ownsRow_nil w _ te 1) ⟨b, 0, none⟩ 1 c [.int .i64 k] rfl hn h1 (by unfold maxLen; omega) (by decide) (Nat.le_refl _)
    rw [hr] at hr2
    simp only [Result.ok.injEq] at hr2
    obtain ⟨rfl, rfl⟩ := hr2
    rcases ho2.2 with ⟨hv, _⟩ | ⟨g, cap, cur, rfl, hg2, hh, _⟩
    · exact absurd (hne.1 hv).2 (by decide)
    · exact ⟨.inr ⟨g, rfl, hg2, (Array.getElem?_eq_some_iff.1 hh).1⟩, fin _ ⟨hg.os, hg.tape, hg.output, hg.size, fun i hi => hg.block i hi (by simp [Value.ownBlock])⟩⟩
  · by_cases hroom : xs.length + 1 ≤ cap
    · have hr2 := run_append_room (P := P) (w := w) t ty te i ht hi g xs.length cap cur hh ⟨b, 0, none⟩ 1 c [.int .i64 k] (by rw [hs]; rfl) hn h1 hroom (by rw [hs]; simp; omega)
      rw [hr] at hr2
      simp only [Result.ok.injEq] at hr2
      obtain ⟨rfl, rfl⟩ := hr2
      refine ⟨.inl rfl, ?_⟩
      have hget := setRow_heap w g cur (cur.toList.take (xs.length * i.size) ++ [Value.int .i64 k] ++ cur.toList.drop (xs.length * i.size + [Value.int .i64 k].length)).toArray te (0, 0) hh
      have key : ∀ (m : Nat) (ys : List Value), m ≤ xs.length + 1 → ((cur.toList.take xs.length ++ [Value.int .i64 k]).take m = ys) → (cur.toList.take (xs.length * i.size) ++ [Value.int .i64 k] ++ cur.toList.drop (xs.length * i.size + [Value.int .i64 k].length)).toArray.toList.take (m * 1) = ys := by
        intro m ys hm he
        rw [hs, Nat.mul_one, Nat.mul_one, List.take_append_of_le_length (by simp; omega)]
        exact he
      have hsz2 : (cur.toList.take (xs.length * i.size) ++ [Value.int .i64 k] ++ cur.toList.drop (xs.length * i.size + [Value.int .i64 k].length)).toArray.size = cur.size := by
        simp [hs]; omega
      rw [Nat.mul_one] at hx hsz
      refine ⟨⟨by simp, .inr ⟨g, cap, _, rfl, Nat.zero_le _, hget, hc, by assumption, by rw [hsz2, Nat.mul_one]; exact hsz, key _ _ (by omega) (by rw [List.take_append_of_le_length (by simp; omega), List.take_of_length_le (by simp; omega)]; exact hx)⟩⟩, fun v2 h2 => ?_⟩
      obtain ⟨e1, e2⟩ := h2
      rcases e2 with ⟨ev, e0⟩ | ⟨g2, cap2, cur2, rfl, _, hh2, hc2, hm2, hsz3, hx2⟩
      · exact ⟨e1, .inl ⟨ev, e0⟩⟩
      · by_cases hgg : g2 = g
        · subst hgg
          rw [hh] at hh2
          simp only [Option.some.injEq, Obj.cells.injEq, and_true] at hh2
          subst hh2
          refine ⟨e1, .inr ⟨g2, cap2, _, rfl, Nat.zero_le _, hget, hc2, hm2, by rw [hsz2]; exact hsz3, key _ _ (by simp) ?_⟩⟩
          rw [hx, List.take_of_length_le (by simp), List.map_append]; rfl
        · exact ⟨e1, .inr ⟨g2, cap2, cur2, rfl, Nat.zero_le _, by rw [setRow_other w g g2 _ hgg]; exact hh2, hc2, hm2, hsz3, hx2⟩⟩
    · have hr2 := run_append_grow (P := P) (w := w) t ty te i (.int .i64 0) ht hi hz ⟨g, 0, none⟩ xs.length cap (xs.map (Value.int .i64)) (by rw [hs]; simp) (World.ownsRow.cells h (g := g) rfl) ⟨b, 0, none⟩ 1 c [.int .i64 k] (by rw [hs]; rfl) hn (by omega) (by omega) (growslice_fits (by omega) (by rw [hb]; exact hby))
      rw [hr] at hr2
      simp only [Result.ok.injEq] at hr2
      obtain ⟨rfl, rfl⟩ := hr2
      exact ⟨.inr ⟨w.heap.size, rfl, Nat.le_refl _, by simp⟩, fin _ ((Ext.refl w).drew.alloc _)⟩

theorem wpList_appInt {P : Program} {ops : Array Oper} {rest : List Oper} {o : Oper} {a : Act} {w : World} {Q : Exit → Act → World → Prop} (hgd : o.guard = none) (t : TypeId) (s x : Operand)
    (ho : o.op = .call { callee := .builtin .append, args := #[s, x], argTypes := #[t, t] }) {te : TypeId} {i : TypeInfo} (ht : P.underlying t = some (.slice te)) (hi : P.info? te = some i) (hz : i.zero = some (.int .i64 0)) (hs : i.size = 1) (hb : i.bytes = 8)
    {v : Value} {xs : List Int} (hv : a.eval s = v) (h : Ints te w v xs) (hl : xs.length ≤ 1000000) {b : Nat} {T : TypeId} {k : Int} (hx : a.eval x = .slice (some ⟨b, 0, none⟩) 1 1) (hk : Blk w b T #[.int .i64 k])
    (hK : ∀ v' w', Ints te w' v' (xs ++ [k]) → w.grownBy w' v.ownBlock → (v'.ownBlock = v.ownBlock ∨ ∃ g, v'.ownBlock = some g ∧ w.heap.size ≤ g ∧ g < w'.heap.size) → wpList P ops Q rest (a.put o.dst v') w') : wpList P ops Q (o :: rest) a w :=
  wpList_plain hgd fun _ hK' => by
    obtain ⟨v', w', hr, h1, h2, h3, -⟩ := run_appInt (ty := o.type) (c := 1) ht hi hz hs hb h hl hk
    unfold Oper.wp execOp
    simp only [ho, resolve, invoke, builtin, Sem.run_bind, Sem.run_pure, Result.andThen_ok, List.map_toArray, List.map_cons, List.map_nil, hv, hx, hr]
    exact hK' _ _ (hK v' w' h1 h2 h3)

/-- What an append to the row v may change, in a region that draws its order. -/
def AppR (te : TypeId) (v : Value) (xs : List Int) (k : Int) (w w' : World) : Prop :=
  Chg (fun b => v.ownBlock = some b) w w' ∧ (Ints te w v xs → Ints te w' v xs) ∧ ∀ v2, Ints te w v2 (xs ++ [k]) → Ints te w' v2 (xs ++ [k])
theorem AppR.refl {te : TypeId} {v : Value} {xs : List Int} {k : Int} (w : World) : AppR te v xs k w w := ⟨Chg.refl w, id, fun _ => id⟩
theorem AppR.trans {te : TypeId} {v : Value} {xs : List Int} {k : Int} {x y z : World} (h : AppR te v xs k x y) (g : AppR te v xs k y z) : AppR te v xs k x z :=
  ⟨h.1.trans g.1, fun a => g.2.1 (h.2.1 a), fun v2 a => g.2.2 v2 (h.2.2 v2 a)⟩
theorem AppR.of {te : TypeId} {v : Value} {xs : List Int} {k : Int} {x y : World} (h : Ext x y) : AppR te v xs k x y := ⟨Chg.of_ext h, fun a => a.ext h, fun _ a => a.ext h⟩
theorem AppR.size {te : TypeId} {v : Value} {xs : List Int} {k : Int} {x y : World} (h : AppR te v xs k x y) : x.heap.size ≤ y.heap.size := h.1.size
theorem Ints.cell {te : TypeId} {w : World} {g n c : Nat} {xs : List Int} (h : Ints te w (.slice (some ⟨g, 0, none⟩) n c) xs) {j : Nat} (hj : j < xs.length) : w.cell? ⟨g, j, none⟩ = some (.int .i64 (xs.getD j 0)) := by
  rcases h.form with ⟨hv, _⟩ | ⟨g', cap, hv, _, _, _, hcell, _⟩
  · cases hv
  · simp only [Value.slice.injEq, Option.some.injEq, Addr.mk.injEq, and_true] at hv
    obtain ⟨rfl, -, rfl⟩ := hv
    exact hcell j hj
theorem wp_appInt {P : Program} {o : Oper} {a : Act} {w : World} {K : Act → World → Prop} {Q : Exit → Act → World → Prop} (t : TypeId) (s x : Operand)
    (ho : o.op = .call { callee := .builtin .append, args := #[s, x], argTypes := #[t, t] }) {te : TypeId} {i : TypeInfo} (ht : P.underlying t = some (.slice te)) (hi : P.info? te = some i) (hz : i.zero = some (.int .i64 0)) (hs : i.size = 1) (hb : i.bytes = 8)
    {v : Value} {xs : List Int} (hv : a.eval s = v) (h : Ints te w v xs) (hl : xs.length ≤ 1000000) {b : Nat} {T : TypeId} {k : Int} (hx : a.eval x = .slice (some ⟨b, 0, none⟩) 1 1) (hk : Blk w b T #[.int .i64 k])
    (hK : ∀ v' w', Ints te w' v' (xs ++ [k]) → AppR te v xs k w w' → (v'.ownBlock = v.ownBlock ∨ ∃ g, v'.ownBlock = some g ∧ w.heap.size ≤ g ∧ g < w'.heap.size) → K (a.put o.dst v') w') : o.wp P a w K Q := by
  obtain ⟨v', w', hr, h1, h2, h3, h4, h5⟩ := run_appInt (ty := o.type) (c := 1) ht hi hz hs hb h hl hk
  unfold Oper.wp execOp
  simp only [ho, resolve, invoke, builtin, Sem.run_bind, Sem.run_pure, Result.andThen_ok, List.map_toArray, List.map_cons, List.map_nil, hv, hx, hr]
  exact hK v' w' h1 ⟨(Chg.refl w).grown h2 (fun k hk _ => hk), fun _ => h4, h5⟩ h3
end Go.Rg
