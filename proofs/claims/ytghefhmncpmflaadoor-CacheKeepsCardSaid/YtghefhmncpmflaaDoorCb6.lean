/-
  The contract of a cache's Drop.
-/
import Derived.Test.YtghefhmncpmflaaDoorCb5
namespace Go.Proofs.YtghefhmncpmflaaDoor
open Go.RowKit Go.Rg

theorem empty_one2 (n : Nat) (w : World) : Calls Tryd.prog 20 #[mset n] w fun e w' => e = .returned (.bool (n == 0)) ∧ Ext w w' :=
  (empty_any (one n) w).mono fun e w' ⟨he, hx⟩ => ⟨by rw [he]; simp [one], hx⟩
theorem cdrop_none (k : Int) (hk : (Lit.int .i64 k).wf = true) (bc : Nat) (C : CSt) (S : Nat → Prop) (w : World) (h : CacheAt w bc C S) (hE : C.rows k = none) :
    Calls Tryd.prog 31 #[.pointer (some ⟨bc, 0, none⟩), .int .i64 k] w fun e w' => e = .returned (.bool false) ∧ Ext w w' := by
  obtain ⟨bt, br, ev, g1v, g2v, ST, h⟩ := h
  have HR := Lib.hid (row_any k hk bc C S bt br ev g1v g2v ST w h)
  rw [hE] at HR
  clear h hE
  go_enter Tryd.func31, Tryd.ntmps31
  go_wp2_with fail
  refine HR.out.mono ?_
  rintro e w1 ⟨rfl, rfl⟩
  go_wp2_with fail
  go_ret
  exact ⟨rfl, Ext.refl _⟩

theorem cdrop_dirty (k : Int) (hk : (Lit.int .i64 k).wf = true) (bc : Nat) (C : CSt) (S : Nat → Prop) (w : World) (h : CacheAt w bc C S) (E : Ent) (hE : C.rows k = some E) (hd : E.dt ≠ 0) :
    Calls Tryd.prog 31 #[.pointer (some ⟨bc, 0, none⟩), .int .i64 k] w fun e w' => e = .returned (.bool false) ∧ Ext w w' := by
  obtain ⟨bt, br, ev, g1v, g2v, ST, h⟩ := h
  have HR := Lib.hid (row_any k hk bc C S bt br ev g1v g2v ST w h)
  rw [hE] at HR
  have he := h.ents k E hE
  have HE := Lib.hid (empty_one2 E.dt)
  unfold mset at HE
  rw [show (E.dt == 0) = false by simpa using hd] at HE
  have k0 := he.ent.cells 10
  have k1 := he.ent.cells 11
  have k2 := he.ent.cells 12
  have k3 := he.ent.cells 13
  simp [entC] at k0 k1 k2 k3
  clear h he hE hd
  go_enter Tryd.func31, Tryd.ntmps31
  go_wp2_with fail
  refine HR.out.mono ?_
  rintro e w1 ⟨rfl, rfl⟩
  go_wp2_with fail
  refine (HE.out _).mono ?_
  rintro e w2 ⟨rfl, hx⟩
  have HX := Lib.hid hx
  clear hx
  go_wp2_with fail
  go_ret
  exact ⟨rfl, HX.out⟩

set_option maxHeartbeats 2000000 in
theorem cdrop_yes (k : Int) (hk : (Lit.int .i64 k).wf = true) (bc : Nat) (C : CSt) (S : Nat → Prop) (w : World) (h : CacheAt w bc C S) (E : Ent) (hE : C.rows k = some E) (hd : E.dt = 0) :
    Calls Tryd.prog 31 #[.pointer (some ⟨bc, 0, none⟩), .int .i64 k] w (CPost (.bool true) bc (dropC C k) S w) := by
  obtain ⟨bt, br, ev, g1v, g2v, ST, h⟩ := h
  have HR := Lib.hid (row_any k hk bc C S bt br ev g1v g2v ST w h)
  rw [hE] at HR
  have he := h.ents k E hE
  have HE := Lib.hid (empty_one2 E.dt)
  unfold mset at HE
  rw [show (E.dt == 0) = true by simpa using hd] at HE
  have k0 := he.ent.cells 10
  have k1 := he.ent.cells 11
  have k2 := he.ent.cells 12
  have k3 := he.ent.cells 13
  simp [entC] at k0 k1 k2 k3
  have HH := Lib.hid h
  have HW := Lib.hid hk
  clear h he hE hd hk
  go_enter Tryd.func31, Tryd.ntmps31
  go_wp2_with fail
  refine HR.out.mono ?_
  rintro e w1 ⟨rfl, rfl⟩
  go_wp2_with fail
  refine (HE.out _).mono ?_
  rintro e w2 ⟨rfl, hx⟩
  have HX2 := Lib.hid hx
  have hcp2 := HH.out.ext hx
  have c0 := hcp2.blk.cells 0
  simp at c0
  have HD := Lib.hid (tdrop_any k bt _ _ _ _ _ _ _ w2 hcp2.turn HW.out)
  have H2 := Lib.hid hcp2
  clear hcp2 hx k0 k1 k2 k3
  go_wp2_with fail
  refine HD.out.mono ?_
  rintro e w3 ⟨rfl, ht3, hc3⟩
  obtain ⟨q1, q2⟩ := H2.out.setTurn hc3 ht3
  have c2 := q1.blk.cells 2
  simp at c2
  obtain ⟨w4, hrun, hm, hg⟩ := MapI.delete (t := 111) (e := 115) q1.map Tryd.underlying3 Tryd.underlying111 HW.out 0
  obtain ⟨r1, r2⟩ := q1.dropRow hg hm
  have HQ := Lib.hid (And.intro q2 (And.intro r1 r2))
  clear q1 q2 r1 r2 hm hg ht3 hc3 c0
  go_wp2_with fail
  go_ret
  obtain ⟨q2, r1, r2⟩ := HQ.out
  have hg := Grow_trans q2 r2
  have s2 := HX2.out.size
  refine ⟨rfl, ⟨_, _, _, _, _, _, r1.mono (fun k hk hh => ?_)⟩, (Chg.of_ext HX2.out).trans hg.1⟩
  have s3 := r2.size
  rcases hh with hh | hh
  · exact .inl hh
  · exact .inr ⟨by omega, by omega⟩
end Go.Proofs.YtghefhmncpmflaaDoor
