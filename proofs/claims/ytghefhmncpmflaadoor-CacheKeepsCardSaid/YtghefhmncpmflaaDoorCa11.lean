/-
  The contract of a cache's open, for a stripe that is there, and for one that comes.
-/
import Derived.Test.YtghefhmncpmflaaDoorCa10
namespace Go.Proofs.YtghefhmncpmflaaDoor
open Go.RowKit Go.Rg

theorem place_room (bc : Nat) (C : CSt) (S : Nat → Prop) (bt br : Nat) (ev g1v g2v : Int → Nat) (ST : Nat → Prop) (w : World) (h : CP w bc C S bt br ev g1v g2v ST) (hbig : C.plain.length + C.dear.length ≤ 900)
    (hroom : C.plain.length + C.dear.length < C.most) :
    Calls Tryd.prog 86 #[.pointer (some ⟨bc, 0, none⟩)] w fun e w' => e = .returned (.int .i64 0) ∧ Ext w w' := by
  have HF := Lib.hid (full_any bt _ _ _ _ _ _ _ w h.turn (by omega))
  rw [show decide (C.most ≤ C.plain.length + C.dear.length) = false by simp; omega] at HF
  have c0 := h.blk.cells 0
  simp at c0
  clear h hroom hbig
  go_enter Tryd.func86, Tryd.ntmps86
  go_wp2_with fail
  refine HF.out.mono ?_
  rintro e w1 ⟨rfl, hx⟩
  go_wp2_with fail
  go_ret
  exact ⟨rfl, hx⟩

set_option maxHeartbeats 2000000 in
theorem open_there (k : Int) (c : Nat) (s : ByteArray) (hk0 : 0 ≤ k) (hk1 : k < 64) (hs : s.size = 64) (bc : Nat) (C : CSt) (S : Nat → Prop) (bt br : Nat) (ev g1v g2v : Int → Nat) (ST : Nat → Prop) (w : World) (h : CP w bc C S bt br ev g1v g2v ST)
    (hc : c < C.data) (hd : C.data ≤ 30) (hbig : C.plain.length + C.dear.length ≤ 900) (E : Ent) (hE : C.rows k = some E) (hin : (C.plain.contains k || C.dear.contains k) = true) :
    Calls Tryd.prog 60 #[.pointer (some ⟨bc, 0, none⟩), .int .i64 k, .int .i64 c, .string s] w fun e w' => e = .returned (.tuple #[.pointer (some ⟨ev k, 0, none⟩), .int .i64 0]) ∧
      CP w' bc { C with plain := (touchL C.limit C.plain C.dear k).1, dear := (touchL C.limit C.plain C.dear k).2 } (Grow S w w') bt br ev g1v g2v (Grow ST w w') ∧ Chg S w w' := by
  have hwf : (Lit.int .i64 k).wf = true := WalkArith.wf_i64 (by omega)
  have HR := Lib.hid (row_any k hwf bc C S bt br ev g1v g2v ST w h)
  rw [hE] at HR
  have HT := Lib.hid (touch_yes k bt _ _ _ _ _ _ _ w h.turn hbig hin)
  have HH := Lib.hid h
  have c0 := h.blk.cells 0
  have c1 := h.blk.cells 1
  simp at c0 c1
  have d1 : decide (k < 0) = false := by simp; omega
  have d2 : decide (64 ≤ k) = false := by simp; omega
  have d3 : decide ((c : Int) < 0) = false := by simp
  have d4 : decide (C.data ≤ c) = false := by simp; omega
  have d5 : ((s.size : Int) != 64) = false := by rw [hs]; rfl
  clear h hin hE hwf hbig hd hs hk0 hk1 hc
  generalize touchL C.limit C.plain C.dear k = tl at *
  go_enter Tryd.func60, Tryd.ntmps60
  go_wp2_with fail
  refine HR.out.mono ?_
  rintro e w1 ⟨rfl, rfl⟩
  go_wp2_with fail
  refine HT.out.mono ?_
  rintro e w2 ⟨rfl, ht, hch⟩
  obtain ⟨q1, q2⟩ := HH.out.setTurn hch ht
  have HQ := Lib.hid (And.intro q1 q2)
  clear q1 q2 ht hch
  go_wp2_with fail
  go_ret2
  exact ⟨rfl, HQ.out.1, HQ.out.2⟩
end Go.Proofs.YtghefhmncpmflaaDoor
