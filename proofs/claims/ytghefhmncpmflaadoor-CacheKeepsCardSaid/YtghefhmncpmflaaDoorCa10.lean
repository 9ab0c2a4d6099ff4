/-
  A cache in memory, and what is kept of it where one of its parts is changed.
-/
import Derived.Test.YtghefhmncpmflaaDoorCa9
namespace Go.Proofs.YtghefhmncpmflaaDoor
open Go.RowKit Go.Rg

structure CSt where
  data : Nat
  most : Nat
  limit : Nat
  plain : List Int
  dear : List Int
  pins : Int → Option Value
  pn : Nat
  rows : Int → Option Ent
  rn : Nat

structure CP (w : World) (bc : Nat) (C : CSt) (S : Nat → Prop) (bt br : Nat) (ev g1v g2v : Int → Nat) (ST : Nat → Prop) : Prop where
  blk : Blk w bc 113 #[.pointer (some ⟨bt, 0, none⟩), .int .i64 C.data, .map (some br)]
  turn : TurnAt w bt C.most C.limit C.plain C.dear C.pins C.pn ST
  map : MapI Tryd.prog 3 w br C.rn (fun k => (C.rows k).map fun _ => .pointer (some ⟨ev k, 0, none⟩))
  ents : ∀ k E, C.rows k = some E → EntAt w (ev k) (g1v k) (g2v k) E C.data
  ne : bc ≠ br
  sc : S bc
  sr : S br
  tc : ¬ ST bc
  tr : ¬ ST br
  st : ∀ i, ST i → S i ∧ i < w.heap.size
  es : ∀ k E, C.rows k = some E → ∀ i, (i = ev k ∨ i = g1v k ∨ i = g2v k) → S i ∧ i ≠ bc ∧ i ≠ br ∧ ¬ ST i
  ee : ∀ k E j F, C.rows k = some E → C.rows j = some F → j ≠ k → ∀ i, (i = ev k ∨ i = g1v k ∨ i = g2v k) → ¬ (i = ev j ∨ i = g1v j ∨ i = g2v j)
def CacheAt (w : World) (bc : Nat) (C : CSt) (S : Nat → Prop) : Prop := ∃ bt br ev g1v g2v ST, CP w bc C S bt br ev g1v g2v ST

section
variable {w w' : World} {bc : Nat} {C : CSt} {S : Nat → Prop} {bt br : Nat} {ev g1v g2v : Int → Nat} {ST : Nat → Prop}
theorem EntAt.lt {e g1 g2 d : Nat} {E : Ent} (h : EntAt w e g1 g2 E d) {i : Nat} (hi : i = e ∨ i = g1 ∨ i = g2) : i < w.heap.size := by
  rcases hi with rfl | rfl | rfl
  · exact h.ent.lt
  · exact h.now.lt
  · exact h.old.lt
theorem CP.mono (h : CP w bc C S bt br ev g1v g2v ST) {T : Nat → Prop} (hT : ∀ k, k < w.heap.size → S k → T k) : CP w bc C T bt br ev g1v g2v ST :=
  { h with sc := hT _ h.blk.lt h.sc, sr := hT _ h.map.lt h.sr, st := fun i hi => ⟨hT _ (h.st i hi).2 (h.st i hi).1, (h.st i hi).2⟩,
           es := fun k E hk i hi => ⟨hT _ ((h.ents k E hk).lt hi) (h.es k E hk i hi).1, (h.es k E hk i hi).2⟩ }
theorem CacheAt.mono (h : CacheAt w bc C S) {T : Nat → Prop} (hT : ∀ k, k < w.heap.size → S k → T k) : CacheAt w bc C T := by
  obtain ⟨bt, br, ev, g1v, g2v, ST, h⟩ := h
  exact ⟨bt, br, ev, g1v, g2v, ST, h.mono hT⟩
theorem CP.chg (h : CP w bc C S bt br ev g1v g2v ST) {U : Nat → Prop} (hc : Chg U w w') (hU : ∀ k, S k → ¬ U k) : CP w' bc C S bt br ev g1v g2v ST :=
  { h with blk := hc.blk h.blk (hU _ h.sc), turn := h.turn.chg hc (fun k hk => hU _ (h.st k hk).1), map := h.map.chg hc (hU _ h.sr),
           ents := fun k E hk => (h.ents k E hk).chg hc (hU _ (h.es k E hk _ (.inl rfl)).1) (hU _ (h.es k E hk _ (.inr (.inl rfl))).1) (hU _ (h.es k E hk _ (.inr (.inr rfl))).1),
           st := fun i hi => ⟨(h.st i hi).1, Nat.lt_of_lt_of_le (h.st i hi).2 hc.size⟩ }
theorem CP.ext (h : CP w bc C S bt br ev g1v g2v ST) (he : Ext w w') : CP w' bc C S bt br ev g1v g2v ST := h.chg (U := fun _ => False) (Chg.of_ext he) (fun _ _ hf => hf)
theorem CacheAt.chg (h : CacheAt w bc C S) {U : Nat → Prop} (hc : Chg U w w') (hU : ∀ k, S k → ¬ U k) : CacheAt w' bc C S := by
  obtain ⟨bt, br, ev, g1v, g2v, ST, h⟩ := h
  exact ⟨bt, br, ev, g1v, g2v, ST, h.chg hc hU⟩
theorem CacheAt.ext (h : CacheAt w bc C S) (he : Ext w w') : CacheAt w' bc C S := h.chg (U := fun _ => False) (Chg.of_ext he) (fun _ _ hf => hf)

/-- The turn is changed. -/
theorem CP.setTurn (h : CP w bc C S bt br ev g1v g2v ST) {p d : List Int} {pins : Int → Option Value} {pn : Nat} (hc : Chg ST w w') (ht : TurnAt w' bt C.most C.limit p d pins pn (Grow ST w w')) :
    CP w' bc { C with plain := p, dear := d, pins := pins, pn := pn } (Grow S w w') bt br ev g1v g2v (Grow ST w w') ∧ Chg S w w' := by
  have ng : ∀ i, i < w.heap.size → ¬ ST i → ¬ Grow ST w w' i := fun i hi hn hg => hg.elim hn (fun hh => by omega)
  refine ⟨{ blk := hc.blk h.blk h.tc, turn := ht, map := h.map.chg hc h.tr, ents := fun k E hk => ?_, ne := h.ne, sc := .inl h.sc, sr := .inl h.sr, tc := ng _ h.blk.lt h.tc, tr := ng _ h.map.lt h.tr, st := fun i hi => ?_, es := fun k E hk i hi => ?_, ee := h.ee }, hc.mono (fun k _ hk => (h.st k hk).1)⟩
  · exact (h.ents k E hk).chg hc (h.es k E hk _ (.inl rfl)).2.2.2 (h.es k E hk _ (.inr (.inl rfl))).2.2.2 (h.es k E hk _ (.inr (.inr rfl))).2.2.2
  · rcases hi with hi | hi
    · exact ⟨.inl (h.st i hi).1, Nat.lt_of_lt_of_le (h.st i hi).2 hc.size⟩
    · exact ⟨.inr hi, hi.2⟩
  · obtain ⟨a, b, c, d⟩ := h.es k E hk i hi
    exact ⟨.inl a, b, c, ng i ((h.ents k E hk).lt hi) d⟩
theorem CP.setTurn' (h : CP w bc C S bt br ev g1v g2v ST) {p d : List Int} {pins : Int → Option Value} {pn : Nat} (hc : Chg ST w w') (ht : TurnAt w' bt C.most C.limit p d pins pn ST) :
    CP w' bc { C with plain := p, dear := d, pins := pins, pn := pn } S bt br ev g1v g2v ST ∧ Chg S w w' := by
  refine ⟨{ blk := hc.blk h.blk h.tc, turn := ht, map := h.map.chg hc h.tr, ents := fun k E hk => ?_, ne := h.ne, sc := h.sc, sr := h.sr, tc := h.tc, tr := h.tr, st := fun i hi => ⟨(h.st i hi).1, Nat.lt_of_lt_of_le (h.st i hi).2 hc.size⟩, es := h.es, ee := h.ee }, hc.mono (fun k _ hk => (h.st k hk).1)⟩
  exact (h.ents k E hk).chg hc (h.es k E hk _ (.inl rfl)).2.2.2 (h.es k E hk _ (.inr (.inl rfl))).2.2.2 (h.es k E hk _ (.inr (.inr rfl))).2.2.2

/-- One stripe is changed. -/
theorem CP.setEnt (h : CP w bc C S bt br ev g1v g2v ST) {k : Int} {E E' : Ent} (hk : C.rows k = some E) {U : Nat → Prop} (hc : Chg U w w') (hU : ∀ i, U i → i = ev k ∨ i = g1v k ∨ i = g2v k) (he : EntAt w' (ev k) (g1v k) (g2v k) E' C.data) :
    CP w' bc { C with rows := fun j => if j = k then some E' else C.rows j } S bt br ev g1v g2v ST ∧ Chg S w w' := by
  have hsome : ∀ j F, (if j = k then some E' else C.rows j) = some F → ∃ F', C.rows j = some F' := by
    intro j F hj
    by_cases e : j = k
    · exact ⟨E, by rw [e]; exact hk⟩
    · rw [if_neg e] at hj; exact ⟨F, hj⟩
  have hs := h.es k E hk
  refine ⟨{ blk := hc.blk h.blk (fun hu => (hs _ (hU _ hu)).2.1 rfl), turn := h.turn.chg hc (fun i hi hu => (hs i (hU i hu)).2.2.2 hi),
            map := (h.map.chg hc (fun hu => (hs _ (hU _ hu)).2.2.1 rfl)).congr (fun j => ?_), ents := fun j F hj => ?_, ne := h.ne, sc := h.sc, sr := h.sr, tc := h.tc, tr := h.tr, st := fun i hi => ⟨(h.st i hi).1, Nat.lt_of_lt_of_le (h.st i hi).2 hc.size⟩,
            es := fun j F hj i hi => ?_, ee := fun j F l G hj hl hne i hi => ?_ }, hc.mono (fun i _ hu => (hs i (hU i hu)).1)⟩
  · by_cases e : j = k
    · subst e; simp [hk]
    · simp [e]
  · by_cases e : j = k
    · subst e
      have : F = E' := by simpa using hj.symm
      rw [this]; exact he
    · have hj' : C.rows j = some F := by simpa [e] using hj
      have ed := h.ee j F k E hj' hk (fun e2 => e e2.symm)
      exact (h.ents j F hj').chg hc (fun hu => ed _ (.inl rfl) (hU _ hu)) (fun hu => ed _ (.inr (.inl rfl)) (hU _ hu)) (fun hu => ed _ (.inr (.inr rfl)) (hU _ hu))
  · obtain ⟨F', hF⟩ := hsome j F hj
    exact h.es j F' hF i hi
  · obtain ⟨F', hF⟩ := hsome j F hj
    obtain ⟨G', hG⟩ := hsome l G hl
    exact h.ee j F' l G' hF hG hne i hi
end

theorem cacheNew_any (most dear data : Nat) (h1 : 1 ≤ most) (h2 : most ≤ 64) (h3 : dear < most) (h4 : 2 ≤ data) (h5 : data ≤ 30) (w : World) :
    Calls Tryd.prog 23 #[.int .i64 most, .int .i64 dear, .int .i64 data] w fun e w' => ∃ bc, e = .returned (.tuple #[.pointer (some ⟨bc, 0, none⟩), .int .i64 0]) ∧
      CacheAt w' bc ⟨data, most, dear, [], [], fun _ => none, 0, fun _ => none, 0⟩ (fun k => w.heap.size ≤ k ∧ k < w'.heap.size) ∧ Ext w w' := by
  have HT := Lib.hid (turnNew_any most dear h1 h2 h3)
  have d1 : decide ((data : Int) < 2) = false := by simp; omega
  have d2 : decide (30 < (data : Int)) = false := by simp; omega
  have hmm := @run_makeMap Tryd.prog
  go_enter Tryd.func23, Tryd.ntmps23
  go_wp2_with fail
  refine (HT.out _).mono ?_
  rintro e w1 ⟨bt, rfl, ht, hx⟩
  have HX := Lib.hid (And.intro ht hx)
  clear ht hx
  go_wp2_with fail
  have s1 := HX.out.2.size
  refine bodyPost_ret (v := .tuple #[.pointer (some ⟨w1.heap.size + 1, 0, none⟩), .int .i64 0]) (by simp [results, Tryd.results23, go_sem]) rfl ⟨w1.heap.size + 1, rfl, ⟨bt, w1.heap.size, fun _ => 0, fun _ => 0, fun _ => 0, fun k => w.heap.size ≤ k ∧ k < w1.heap.size, ?_⟩, (HX.out.2.alloc _).alloc _⟩
  exact { blk := Blk.new' (by simp) 113 _, turn := HX.out.1.ext (((Ext.refl w1).alloc _).alloc _), map := (MapI.made Tryd.prog 3 w1).ext ((Ext.refl _).alloc _), ents := (fun k E hk => by cases hk), ne := by omega, sc := ⟨by omega, by simp⟩, sr := ⟨by omega, by simp; omega⟩,
          tc := fun hh => by have := hh.2; omega, tr := fun hh => by have := hh.2; omega, st := fun i hi => ⟨⟨hi.1, by simp; omega⟩, by simp; omega⟩, es := (fun k E hk => by cases hk), ee := (fun k E j F hk => by cases hk) }

/-- The stripe's entry, or nil. -/
theorem row_any (k : Int) (hw : (Lit.int .i64 k).wf = true) (bc : Nat) (C : CSt) (S : Nat → Prop) (bt br : Nat) (ev g1v g2v : Int → Nat) (ST : Nat → Prop) (w : World) (h : CP w bc C S bt br ev g1v g2v ST) :
    Calls Tryd.prog 65 #[.pointer (some ⟨bc, 0, none⟩), .int .i64 k] w fun e w' => e = .returned (.pointer (match C.rows k with | none => none | some _ => some ⟨ev k, 0, none⟩)) ∧ w' = w := by
  have hz : (zeroValue 115).run Tryd.prog w = .ok (.pointer none) w := by kernel_rfl
  have hrun := h.map.lookup (t := 111) (e := 115) Tryd.underlying3 Tryd.underlying111 hz hw
  have c2 := h.blk.cells 2
  simp at c2
  have he : (((C.rows k).map fun _ => Value.pointer (some ⟨ev k, 0, none⟩)).getD (.pointer none)) = .pointer (match C.rows k with | none => none | some _ => some ⟨ev k, 0, none⟩) := by
    cases C.rows k <;> rfl
  rw [he] at hrun
  generalize (match C.rows k with | none => none | some _ => some (⟨ev k, 0, none⟩ : Addr)) = p at *
  clear h hz he
  go_enter Tryd.func65, Tryd.ntmps65
  go_wp2
  go_ret
  exact ⟨rfl, rfl⟩
end Go.Proofs.YtghefhmncpmflaaDoor
