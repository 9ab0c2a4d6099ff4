/-
  Contracts of a cache: place (with the key that goes), Drop.
-/
import Derived.Test.YtghefhmncpmflaaDoorCb4
import Derived.Test.YtghefhmncpmflaaDoorCa14
namespace Go.Proofs.YtghefhmncpmflaaDoor
open Go.RowKit Go.Rg

/-- A cache behind the going of a stripe. -/
def dropC (C : CSt) (k : Int) : CSt :=
  { C with plain := C.plain.erase k, dear := C.dear.erase k, pins := fun j => if j = k then none else C.pins j, rows := fun j => if j = k then none else C.rows j }
theorem dropC_inv (C : CSt) (k : Int) (h : CI C) : CI (dropC C k) := by
  have hnd := h.nd
  rw [List.nodup_append] at hnd
  obtain ⟨n1, n2, n3⟩ := hnd
  refine ⟨?_, fun j => ?_⟩
  · rw [List.nodup_append]
    exact ⟨n1.sublist List.erase_sublist, n2.sublist List.erase_sublist, fun a ha b hb => n3 a (List.mem_of_mem_erase ha) b (List.mem_of_mem_erase hb)⟩
  · simp only [dropC, List.mem_append, n1.mem_erase_iff, n2.mem_erase_iff]
    by_cases e : j = k
    · simp [e]
    · rw [if_neg e, h.link j, List.mem_append]; simp [e]
theorem dropC_len (C : CSt) (k : Int) : (dropC C k).plain.length + (dropC C k).dear.length ≤ C.plain.length + C.dear.length :=
  Nat.add_le_add List.length_erase_le List.length_erase_le
theorem dropC_less (C : CSt) (k : Int) (hk : k ∈ C.plain ++ C.dear) : (dropC C k).plain.length + (dropC C k).dear.length < C.plain.length + C.dear.length := by
  rcases List.mem_append.1 hk with h | h
  · have h1 := List.length_erase_of_mem h
    have h2 := List.length_pos_of_mem h
    have h3 : (C.dear.erase k).length ≤ C.dear.length := List.length_erase_le
    simp only [dropC]; omega
  · have h1 := List.length_erase_of_mem h
    have h2 := List.length_pos_of_mem h
    have h3 : (C.plain.erase k).length ≤ C.plain.length := List.length_erase_le
    simp only [dropC]; omega

/-- A stripe goes from the map. -/
theorem CP.dropRow {w w' : World} {bc : Nat} {C : CSt} {S : Nat → Prop} {bt br : Nat} {ev g1v g2v : Int → Nat} {ST : Nat → Prop} (h : CP w bc C S bt br ev g1v g2v ST) {k : Int} (hg : w.grownBy w' (some br))
    (hm : MapI Tryd.prog 3 w' br C.rn (fun j => if j = k then none else (C.rows j).map fun _ => .pointer (some ⟨ev j, 0, none⟩))) :
    CP w' bc { C with rows := fun j => if j = k then none else C.rows j } S bt br ev g1v g2v ST ∧ Chg S w w' := by
  have c1 : Chg (fun i => i = br) w w' := (Chg.refl (S := fun i => i = br) w).grown hg (fun i hi _ => by cases hi; rfl)
  have hsome : ∀ j F, (if j = k then none else C.rows j) = some F → C.rows j = some F := by
    intro j F hj
    by_cases e : j = k
    · rw [if_pos e] at hj; cases hj
    · rw [if_neg e] at hj; exact hj
  refine ⟨{ blk := c1.blk h.blk h.ne, turn := h.turn.chg c1 (fun i hi e2 => h.tr (e2 ▸ hi)), map := hm.congr (fun j => ?_), ents := fun j F hj => ?_, ne := h.ne, sc := h.sc, sr := h.sr, tc := h.tc, tr := h.tr,
            st := fun i hi => ⟨(h.st i hi).1, Nat.lt_of_lt_of_le (h.st i hi).2 c1.size⟩, es := fun j F hj => h.es j F (hsome j F hj), ee := fun j F l G hj hl => h.ee j F l G (hsome j F hj) (hsome l G hl) },
    c1.mono (fun i _ hi => by rw [hi]; exact h.sr)⟩
  · by_cases e : j = k <;> simp [e]
  · have hs := h.es j F (hsome j F hj)
    exact (h.ents j F (hsome j F hj)).chg c1 (hs _ (.inl rfl)).2.2.1 (hs _ (.inr (.inl rfl))).2.2.1 (hs _ (.inr (.inr rfl))).2.2.1

def PlOk (bc : Nat) (C : CSt) (S : Nat → Prop) (bt br : Nat) (ev g1v g2v : Int → Nat) (w : World) (e : Ending) (w' : World) : Prop :=
  ∃ ST, e = .returned (.int .i64 0) ∧ CP w' bc C (Grow S w w') bt br ev g1v g2v ST ∧ Chg S w w'
theorem CP.grow {w w' : World} {bc : Nat} {C : CSt} {S : Nat → Prop} {bt br : Nat} {ev g1v g2v : Int → Nat} {ST : Nat → Prop} (h : CP w bc C S bt br ev g1v g2v ST) (hx : Ext w w') : CP w' bc C (Grow S w w') bt br ev g1v g2v ST :=
  (h.ext hx).mono (fun _ _ hk => .inl hk)

set_option maxHeartbeats 2000000 in
theorem place_full (bc : Nat) (C : CSt) (S : Nat → Prop) (bt br : Nat) (ev g1v g2v : Int → Nat) (ST : Nat → Prop) (w : World) (h : CP w bc C S bt br ev g1v g2v ST) (hbig : C.plain.length + C.dear.length ≤ 900)
    (hroom : C.most ≤ C.plain.length + C.dear.length) (hwf : ∀ k ∈ C.plain ++ C.dear, (Lit.int .i64 k).wf = true) (hpv : ∀ k v, C.pins k = some v → v = .bool true) (hv : vict C.pins (C.plain ++ C.dear) = none) :
    Calls Tryd.prog 86 #[.pointer (some ⟨bc, 0, none⟩)] w fun e w' => e = .returned (.int .i64 10) ∧ Ext w w' := by
  have HF := Lib.hid (full_any bt _ _ _ _ _ _ _ w h.turn (by omega))
  rw [show decide (C.most ≤ C.plain.length + C.dear.length) = true by simp; omega] at HF
  have HV := Lib.hid (fun w' (he : Ext w w') => victim_any bt _ _ _ _ _ _ _ w' (h.turn.ext he) (by omega) hwf hpv)
  rw [hv] at HV
  unfold victV at HV
  have c0 := fun w' (he : Ext w w') => (h.blk.ext he).cells 0
  simp at c0
  have C0 := Lib.hid c0
  have c0 := C0.out w (Ext.refl w)
  clear h hroom hbig hwf hpv hv
  go_enter Tryd.func86, Tryd.ntmps86
  go_wp2_with fail
  refine HF.out.mono ?_
  rintro e w1 ⟨rfl, hx⟩
  have HX := Lib.hid hx
  clear c0
  have c0 := C0.out w1 hx
  clear hx
  go_wp2_with fail
  refine (HV.out w1 HX.out).mono ?_
  rintro e w2 ⟨rfl, hx2⟩
  have HX2 := Lib.hid (HX.out.trans hx2)
  clear hx2
  go_wp2_with fail
  go_ret
  exact ⟨rfl, HX2.out⟩

set_option maxHeartbeats 2000000 in
theorem place_vict (v : Int) (bc : Nat) (C : CSt) (S : Nat → Prop) (bt br : Nat) (ev g1v g2v : Int → Nat) (ST : Nat → Prop) (w : World) (h : CP w bc C S bt br ev g1v g2v ST) (hbig : C.plain.length + C.dear.length ≤ 900)
    (hroom : C.most ≤ C.plain.length + C.dear.length) (hwf : ∀ k ∈ C.plain ++ C.dear, (Lit.int .i64 k).wf = true) (hpv : ∀ k v, C.pins k = some v → v = .bool true) (hv : vict C.pins (C.plain ++ C.dear) = some v) :
    Calls Tryd.prog 86 #[.pointer (some ⟨bc, 0, none⟩)] w (PlOk bc (dropC C v) S bt br ev g1v g2v w) := by
  have HF := Lib.hid (full_any bt _ _ _ _ _ _ _ w h.turn (by omega))
  rw [show decide (C.most ≤ C.plain.length + C.dear.length) = true by simp; omega] at HF
  have HV := Lib.hid (fun w' (he : Ext w w') => victim_any bt _ _ _ _ _ _ _ w' (h.turn.ext he) (by omega) hwf hpv)
  have hvw : (Lit.int .i64 v).wf = true := hwf v (List.mem_of_find?_eq_some hv)
  rw [hv] at HV
  unfold victV at HV
  have HW := Lib.hid hvw
  have HH := Lib.hid h
  have c0 := h.blk.cells 0
  simp at c0
  clear h hroom hbig hwf hpv hv hvw
  go_enter Tryd.func86, Tryd.ntmps86
  go_wp2_with fail
  refine HF.out.mono ?_
  rintro e w1 ⟨rfl, hx⟩
  have HX := Lib.hid hx
  clear c0
  have c0 := (HH.out.ext hx).blk.cells 0
  simp at c0
  clear hx
  go_wp2_with fail
  refine (HV.out w1 HX.out).mono ?_
  rintro e w2 ⟨rfl, hx2⟩
  have HX2 := Lib.hid (HX.out.trans hx2)
  clear hx2 c0
  have hcp2 := HH.out.ext HX2.out
  have c0 := hcp2.blk.cells 0
  simp at c0
  have HD := Lib.hid (tdrop_any v bt _ _ _ _ _ _ _ w2 hcp2.turn HW.out)
  have H2 := Lib.hid hcp2
  clear hcp2
  go_wp2_with fail
  refine HD.out.mono ?_
  rintro e w3 ⟨rfl, ht3, hc3⟩
  obtain ⟨q1, q2⟩ := H2.out.setTurn hc3 ht3
  have c2 := q1.blk.cells 2
  simp at c2
  obtain ⟨w4, hrun, hm, hg⟩ := MapI.delete (t := 111) (e := 115) q1.map Tryd.underlying3 Tryd.underlying111 HW.out 0
  obtain ⟨r1, r2⟩ := q1.dropRow hg hm
  have HQ := Lib.hid (And.intro q2 (And.intro r1 r2))
  clear q1 q2 r1 r2 hm hg ht3 hc3 c0
  go_wp2_with fail
  go_ret
  obtain ⟨q2, r1, r2⟩ := HQ.out
  have hg := Grow_trans q2 r2
  have s2 := HX2.out.size
  refine ⟨_, rfl, r1.mono (fun k hk hh => ?_), (Chg.of_ext HX2.out).trans hg.1⟩
  have s3 := r2.size
  rcases hh with hh | hh
  · exact .inl hh
  · exact .inr ⟨by omega, by omega⟩
end Go.Proofs.YtghefhmncpmflaaDoor
