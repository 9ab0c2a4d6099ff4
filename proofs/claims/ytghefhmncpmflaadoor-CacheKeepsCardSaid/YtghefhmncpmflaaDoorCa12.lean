/-
  The contract of a cache's open, for a stripe that comes, where there is room.
-/
import Derived.Test.YtghefhmncpmflaaDoorCa11
import Derived.RegionTactic
import Derived.BigRegion
namespace Go.Proofs.YtghefhmncpmflaaDoor
open Go.RowKit Go.Rg

theorem info9 : (Tryd.prog.info? 9).map (fun i => (i.zero, i.size, i.bytes)) = some (some (.string ⟨#[]⟩), 1, 16) := by kernel_rfl
theorem made_strs (d : Nat) : madeCells (Value.string ⟨#[]⟩).cells (d * 1) = strsC (fun _ => ⟨#[]⟩) d := by
  refine Array.ext_getElem? (fun j => ?_)
  by_cases hj : j < d
  · rw [strsC_get _ _ hj]; simp [madeCells, hj, Value.cells, Nat.mod_one]
  · rw [Array.getElem?_eq_none (by rw [size_madeCells]; omega), Array.getElem?_eq_none (by rw [strsC_size]; omega)]
theorem run_make104 (d : Nat) (hd : d ≤ 30) (w : World) : (Instr.makeSlice 104 (.int .i64 d) (.int .i64 d)).run Tryd.prog w = .ok (.slice (some ⟨w.heap.size, 0, none⟩) d d) (w.alloc (.cells (strsC (fun _ => ⟨#[]⟩) d) 9)) := by
  obtain ⟨i, h1, h2, h3, h4⟩ := info_parts info9
  have := run_makeSlice (P := Tryd.prog) (w := w) 104 9 i _ Tryd.underlying104 h1 h2 .i64 .i64 d d (by omega) (by omega) (by rw [h3]; simp; omega) (by rw [h4]; omega) (by omega)
  rw [h3] at this
  simp only [Int.toNat_natCast] at this
  rw [made_strs] at this
  exact this

def E0 : Ent := ⟨0, fun _ => ⟨#[]⟩, 0, fun _ => ⟨#[]⟩, 0⟩
/-- A stripe comes. -/
theorem CP.newEnt {w w1 w' : World} {bc : Nat} {C : CSt} {S : Nat → Prop} {bt br : Nat} {ev g1v g2v : Int → Nat} {ST : Nat → Prop} (h : CP w bc C S bt br ev g1v g2v ST) {k : Int} (hk : C.rows k = none) (hx : Ext w w1)
    {e ga gb : Nat} {E : Ent} (he : EntAt w1 e ga gb E C.data) (hn : w.heap.size ≤ e ∧ w.heap.size ≤ ga ∧ w.heap.size ≤ gb) (hg : w1.grownBy w' (some br))
    (hm : MapI Tryd.prog 3 w' br (C.rn + 1) (fun j => if j = k then some (.pointer (some ⟨e, 0, none⟩)) else (C.rows j).map fun _ => .pointer (some ⟨ev j, 0, none⟩))) :
    CP w' bc { C with rows := fun j => if j = k then some E else C.rows j, rn := C.rn + 1 } (Grow S w w') bt br (fun j => if j = k then e else ev j) (fun j => if j = k then ga else g1v j) (fun j => if j = k then gb else g2v j) ST ∧ Chg S w w' := by
  have c1 : Chg (fun i => i = br) w1 w' := (Chg.refl (S := fun i => i = br) w1).grown hg (fun i hi _ => by cases hi; rfl)
  have hbr := h.map.lt
  have hs := hx.size
  have hs1 := c1.size
  have old : ∀ j F, C.rows j = some F → ∀ i, (i = ev j ∨ i = g1v j ∨ i = g2v j) → i < w.heap.size := fun j F hj i hi => (h.ents j F hj).lt hi
  have new : ∀ i, (i = e ∨ i = ga ∨ i = gb) → w.heap.size ≤ i ∧ i < w'.heap.size := fun i hi => ⟨by rcases hi with rfl | rfl | rfl; exact hn.1; exact hn.2.1; exact hn.2.2, Nat.lt_of_lt_of_le (he.lt hi) hs1⟩
  refine ⟨{ blk := c1.blk (h.blk.ext hx) h.ne, turn := (h.turn.ext hx).chg c1 (fun i hi e2 => h.tr (e2 ▸ hi)), map := hm.congr (fun j => ?_), ents := fun j F hj => ?_, ne := h.ne, sc := .inl h.sc, sr := .inl h.sr, tc := h.tc, tr := h.tr,
            st := fun i hi => ⟨.inl (h.st i hi).1, Nat.lt_of_lt_of_le (h.st i hi).2 (Nat.le_trans hs hs1)⟩, es := fun j F hj i hi => ?_, ee := fun j F l G hj hl hne i hi hi2 => ?_ },
    (Chg.of_ext hx).trans (c1.mono (fun i _ hi => by rw [hi]; exact h.sr))⟩
  · by_cases e2 : j = k
    · subst e2; simp
    · simp [e2]
  · by_cases e2 : j = k
    · subst e2
      have hF : F = E := by simpa using hj.symm
      subst hF
      simp only [if_true]
      exact he.chg c1 (fun e3 => by have := hn.1; omega) (fun e3 => by have := hn.2.1; omega) (fun e3 => by have := hn.2.2; omega)
    · have hj' : C.rows j = some F := by simpa [e2] using hj
      simp only [e2, if_false]
      obtain ⟨_, _, a3, _⟩ := h.es j F hj' _ (.inl rfl)
      obtain ⟨_, _, b3, _⟩ := h.es j F hj' _ (.inr (.inl rfl))
      obtain ⟨_, _, d3, _⟩ := h.es j F hj' _ (.inr (.inr rfl))
      exact ((h.ents j F hj').ext hx).chg c1 a3 b3 d3
  · by_cases e2 : j = k
    · subst e2
      simp only [if_true] at hi
      have := new i hi
      refine ⟨.inr this, fun e3 => ?_, fun e3 => ?_, fun hst => ?_⟩
      · have := h.blk.lt; omega
      · omega
      · have := (h.st i hst).2; omega
    · have hj' : C.rows j = some F := by simpa [e2] using hj
      simp only [e2, if_false] at hi
      obtain ⟨a, b, c, d⟩ := h.es j F hj' i hi
      exact ⟨.inl a, b, c, d⟩
  · by_cases e2 : j = k
    · subst e2
      have e3 : ¬ l = j := hne
      have hl' : C.rows l = some G := by simpa [e3] using hl
      simp only [if_true] at hi
      simp only [e3, if_false] at hi2
      have := new i hi
      have := old l G hl' i hi2
      omega
    · have hj' : C.rows j = some F := by simpa [e2] using hj
      simp only [e2, if_false] at hi
      by_cases e3 : l = k
      · subst e3
        simp only [if_true] at hi2
        have := new i hi2
        have := old j F hj' i hi
        omega
      · have hl' : C.rows l = some G := by simpa [e3] using hl
        simp only [e3, if_false] at hi2
        exact h.ee j F l G hj' hl' hne i hi hi2

def OpenNew (k : Int) (bc : Nat) (C : CSt) (S : Nat → Prop) (bt br : Nat) (w : World) (e : Ending) (w' : World) : Prop :=
  ∃ ev' g1v' g2v' ST', e = .returned (.tuple #[.pointer (some ⟨ev' k, 0, none⟩), .int .i64 0]) ∧
    CP w' bc { C with plain := C.plain ++ [k], rows := fun j => if j = k then some E0 else C.rows j, rn := C.rn + 1 } (Grow S w w') bt br ev' g1v' g2v' ST' ∧ Chg S w w'

set_option maxHeartbeats 2000000 in
theorem open_new (k : Int) (c : Nat) (s : ByteArray) (hk0 : 0 ≤ k) (hk1 : k < 64) (hs : s.size = 64) (bc : Nat) (C : CSt) (S : Nat → Prop) (bt br : Nat) (ev g1v g2v : Int → Nat) (ST : Nat → Prop) (w : World) (h : CP w bc C S bt br ev g1v g2v ST)
    (hc : c < C.data) (hd : C.data ≤ 30) (hbig : C.plain.length + C.dear.length ≤ 900) (hE : C.rows k = none) (hin : C.plain.contains k = false) (hin2 : C.dear.contains k = false) (hroom : C.plain.length + C.dear.length < C.most) (hrn : C.rn < maxLen) :
    Calls Tryd.prog 60 #[.pointer (some ⟨bc, 0, none⟩), .int .i64 k, .int .i64 c, .string s] w (OpenNew k bc C S bt br w) := by
  have hwf : (Lit.int .i64 k).wf = true := WalkArith.wf_i64 (by omega)
  have HR := Lib.hid (row_any k hwf bc C S bt br ev g1v g2v ST w h)
  rw [hE] at HR
  have HP := Lib.hid (place_room bc C S bt br ev g1v g2v ST w h hbig hroom)
  have HA := Lib.hid (fun w' (he : Ext w w') => add_any bt k _ _ _ _ _ _ _ w' (h.turn.ext he) (by omega) hin2 hin hroom)
  have HH := Lib.hid h
  have c0 := h.blk.cells 0
  have c1 := h.blk.cells 1
  simp at c0 c1
  have d1 : decide (k < 0) = false := by simp; omega
  have d2 : decide (64 ≤ k) = false := by simp; omega
  have d3 : decide ((c : Int) < 0) = false := by simp
  have d4 : decide (C.data ≤ c) = false := by simp; omega
  have d5 : ((s.size : Int) != 64) = false := by rw [hs]; rfl
  have HD := Lib.hid hd
  have HRN := Lib.hid (And.intro hrn hE)
  have hz9 : True := trivial
  have HW := Lib.hid hwf
  clear h hin hin2 hrn hE hwf hbig hd hs hk0 hk1 hc hroom
  go_enter Tryd.func60, Tryd.ntmps60
  go_wp2_with fail
  refine HR.out.mono ?_
  rintro e w1 ⟨rfl, rfl⟩
  go_wp2_with fail
  refine HP.out.mono ?_
  rintro e w2 ⟨rfl, hx⟩
  have HX := Lib.hid hx
  have c0' := (HH.out.blk.ext hx).cells 0
  simp at c0'
  clear hx
  go_wp2_with fail
  refine (HA.out _ HX.out).mono ?_
  rintro e w3 ⟨rfl, ht, hch⟩
  obtain ⟨q1, q2⟩ := (HH.out.ext HX.out).setTurn hch ht
  have HQ := Lib.hid (And.intro q1 q2)
  clear q1 q2 ht hch c0' c0 c1
  go_upto_region 15 with (fail)
  have c1 := HQ.out.1.blk.cells 1
  have c1a := fun o => (HQ.out.1.blk.alloc o).cells 1
  have c1b := fun o1 o2 => ((HQ.out.1.blk.alloc o1).alloc o2).cells 1
  simp at c1 c1a c1b
  have hmk := run_make104 C.data HD.out
  have HDt := Lib.hid (Eq.refl C.data)
  generalize hdt : C.data = dt at c1 c1a c1b hmk d4
  have HDT := Lib.hid hdt
  clear hdt
  go_region
  all_goals
    go_upto_region 16 with (fail)
    refine wp_forget (fun wx => Ext w3 wx ∧ ∃ ga gb, EntAt wx (w3.heap.size + 1 + 1) ga gb E0 dt ∧ w3.heap.size ≤ ga ∧ w3.heap.size ≤ gb) ?_ ?_
  · refine ⟨((((Ext.refl w3).alloc _).alloc _).alloc _).drew, w3.heap.size, w3.heap.size + 1, ?_, by omega, by omega⟩
    exact { ent := Blk.new' (by simp) 121 _, now := ((Blk.new w3 9 _).alloc _).alloc _, old := (Blk.new' (by simp) 9 _ : Blk ((w3.alloc (.cells (strsC (fun _ => ⟨#[]⟩) dt) 9)).alloc (.cells (strsC (fun _ => ⟨#[]⟩) dt) 9)) (w3.heap.size + 1) 9 (strsC (fun _ => ⟨#[]⟩) dt)).alloc _, ne1 := by omega, ne2 := by omega, ne3 := by omega, lt1 := by decide, lt2 := by decide, lt3 := by decide }
  rotate_left
  · refine ⟨((((Ext.refl w3).alloc _).alloc _).alloc _).drew, w3.heap.size + 1, w3.heap.size, ?_, by omega, by omega⟩
    exact { ent := Blk.new' (by simp) 121 _, old := ((Blk.new w3 9 _).alloc _).alloc _, now := (Blk.new' (by simp) 9 _ : Blk ((w3.alloc (.cells (strsC (fun _ => ⟨#[]⟩) dt) 9)).alloc (.cells (strsC (fun _ => ⟨#[]⟩) dt) 9)) (w3.heap.size + 1) 9 (strsC (fun _ => ⟨#[]⟩) dt)).alloc _, ne1 := by omega, ne2 := by omega, ne3 := by omega, lt1 := by decide, lt2 := by decide, lt3 := by decide }
  all_goals
    rintro w4 ⟨hx4, ga, gb, he4, hga, hgb⟩
    have hcp4 := HQ.out.1.ext hx4
    have c2 := hcp4.blk.cells 2
    simp at c2
    obtain ⟨w5, hrun, hm5, hg5⟩ := MapI.update (t := 111) (e := 115) hcp4.map Tryd.underlying3 Tryd.underlying111 HRN.out.1 HW.out (.pointer (some ⟨w3.heap.size + 1 + 1, 0, none⟩))
    rw [← HDT.out] at he4
    obtain ⟨n1, n2⟩ := CP.newEnt HQ.out.1 HRN.out.2 hx4 he4 ⟨by omega, hga, hgb⟩ hg5 hm5
    have HN := Lib.hid (And.intro n1 n2)
    clear n1 n2 hm5 hg5 he4 hx4 hcp4 c1 c1a c1b hmk
    go_wp2_with fail
    have a1 := (Chg.of_ext HX.out).trans HQ.out.2
    have hmono : ∀ i, i < w5.heap.size → Grow (Grow S w2 w3) w3 w5 i → Grow S w1 w5 i := fun i hi hh => by
      have s2 := HX.out.size
      have s3 := HQ.out.2.size
      rcases hh with (hh | hh) | hh
      · exact .inl hh
      · exact .inr ⟨by omega, hi⟩
      · exact .inr ⟨by omega, hi⟩
    refine bodyPost_ret (v := .tuple #[.pointer (some ⟨w3.heap.size + 1 + 1, 0, none⟩), .int .i64 0]) (by simp [results, Tryd.results60, go_sem]) rfl ⟨_, _, _, _, ?_, HN.out.1.mono hmono, ?_⟩
    · simp
    · exact a1.trans' HN.out.2 (fun i hi hh => hh.resolve_right (fun q => by have := HX.out.size; omega))
end Go.Proofs.YtghefhmncpmflaaDoor
