/-
  The contracts of package plan's two ways that may be.
-/
import Derived.Test.YtghefhmncpmflaaDoorPlan2
import Derived.Test.YtghefhmncpmflaaDoorMem2
namespace Go.Proofs.YtghefhmncpmflaaDoor
open Go.RowKit Go.Rg

/-- The cells of a plan. -/
def plc (k r : Nat) : Array Value := #[.int .i64 k, .int .u64 r, .int .u64 0, .int .u64 0, .int .u64 0]

theorem empty_one (n : Nat) (w : World) : Calls Tryd.prog 20 #[mset n] w fun e w' => e = .returned (.bool (n == 0)) ∧ Ext w w' :=
  (empty_any (one n) w).mono fun e w' ⟨he, hx⟩ => ⟨by rw [he]; simp [one], hx⟩

set_option maxHeartbeats 4000000 in
theorem great_any (d D x h k l : Nat) (hd1 : 2 ≤ d) (hd2 : d ≤ 30) (hD : D = 2 ^ d - 1) (hDl : D < 18446744073709551616) (hl : l < 18446744073709551616) (w : World) :
    Calls Tryd.prog 45 #[stv d x h k l] w fun e w' => e = .returned (.tuple #[.agg (plc 1 (lessN D h)), .bool (!(lessN D h == 0) && (andN (lessN D h) l == 0))]) ∧ Ext w w' := by
  have HD := Lib.hid (data_D d D x h k l (by omega) (by omega) hD)
  have HL := Lib.hid (less_one D h hDl)
  have hr : lessN D h < 18446744073709551616 := lessN_lt (n := 64) hDl
  have HE := Lib.hid (empty_one (lessN D h))
  have HE2 := Lib.hid (empty_one (andN (lessN D h) l))
  have HA := Lib.hid (and_one (lessN D h) l hr hl)
  obtain ⟨q0, q1, q2, q3, q4, q5, q6, q7, q8, q9, q10, q11, q12, q13, q14, q15, q16⟩ := stc_get d x h k l
  have HZ := Lib.hid (show (2 : Nat) = 2 from rfl)
  clear hD hDl hr hl
  unfold stv mset at *
  generalize andN (lessN D h) l = z at *
  generalize lessN D h = r at *
  generalize (r == 0) = e1 at *
  generalize (z == 0) = e2 at *
  go_enter Tryd.func45, Tryd.ntmps45
  go_upto_region 1 with (fail)
  have F := Lib.hid (fun (w1 : World) (hr : Ext _ w1) => (((Blk.new w 30 (stc d x h k l)).alloc (.cells #[.int .i64 0, .int .u64 0, .int .u64 0, .int .u64 0, .int .u64 0] 45)).ext (hr.of_drew)))
  refine Seq.drawn (k := 6) (R := Ext) (by kernel_rfl) (by decide) (by kernel_rfl) (fun _ _ _ => Ext.trans) (fun _ _ h => h.size) Ext.refl (At.start ?_)
  (refine At.row (w.heap.size) 30 (stc d x h k l) _ Ext.refl (fun w1 hR => F.out _ hR) _ _ rfl (fun _ => by first | rfl | kernel_rfl) (fun _ => by first | rfl | kernel_rfl) Tryd.underlying30 rfl (by kernel_rfl) ?_; simp only [Act.put, List.setIfInBounds_toArray, List.set_cons_zero, List.set_cons_succ])
  (refine At.det ?_ (fun val w1 hR _ K hK => ?_) ?_; rotate_left; (simp only [Act.put, List.setIfInBounds_toArray, List.set_cons_zero, List.set_cons_succ] at hK; go_simp; (with_reducible refine (HD.out _).mono ?_); rintro e w2 ⟨rfl, h2⟩; exact hK _ (h2)); simp only [Act.put, List.setIfInBounds_toArray, List.set_cons_zero, List.set_cons_succ])
  (refine At.det ?_ (fun val w1 hR _ K hK => ?_) ?_; rotate_left; (simp only [Act.put, List.setIfInBounds_toArray, List.set_cons_zero, List.set_cons_succ] at hK; go_simp; exact hK _ (Ext.refl _)); simp only [Act.put, List.setIfInBounds_toArray, List.set_cons_zero, List.set_cons_succ])
  (refine At.det ?_ (fun val w1 hR _ K hK => ?_) ?_; rotate_left; (have g1 := (F.out _ hR).cells; simp only [Act.put, List.setIfInBounds_toArray, List.set_cons_zero, List.set_cons_succ] at hK; go_simp; exact hK _ (Ext.refl _)); simp only [Act.put, List.setIfInBounds_toArray, List.set_cons_zero, List.set_cons_succ])
  (refine At.det ?_ (fun val w1 hR _ K hK => ?_) ?_; rotate_left; (simp only [Act.put, List.setIfInBounds_toArray, List.set_cons_zero, List.set_cons_succ] at hK; go_simp; (with_reducible refine (HL.out _).mono ?_); rintro e w2 ⟨rfl, h2⟩; exact hK _ (h2)); simp only [Act.put, List.setIfInBounds_toArray, List.set_cons_zero, List.set_cons_succ])
  (refine At.new (New (w.heap.size + 1 + 1) 28 #[.int .u64 0, .int .u64 0, .int .u64 0, .int .u64 0]) New.ext (fun val w1 hR hF K hK => ?_) ?_; (simp only [Act.put, List.setIfInBounds_toArray, List.set_cons_zero, List.set_cons_succ] at hK; go_simp; exact hK _ _ ((Ext.refl _).alloc _) ⟨_, rfl, Nat.le_refl _, by simp⟩ ⟨_, rfl, Nat.le_trans (by simp) hR.size, Blk.new _ _ _⟩); simp only [Act.put, List.setIfInBounds_toArray, List.set_cons_zero, List.set_cons_succ])
  refine At.last rfl (fun val w1 hR hF hN => ?_)
  obtain ⟨_, hn⟩ := hF
  obtain ⟨b, hv, hb, B3⟩ := hn rfl
  rw [hv]
  have hx : Ext w w1 := (((Ext.refl w).alloc _).alloc _).trans hR.of_drew
  have B1 := F.out _ hR
  have B2 : Blk w1 (w.heap.size + 1) 45 #[.int .i64 0, .int .u64 0, .int .u64 0, .int .u64 0, .int .u64 0] := (Blk.new' (by simp) 45 _).ext hR.of_drew
  clear hR F hn hv
  have c3 := B3.cells
  have f3 := B3.free
  go_upto_region 2 with (fail)
  refine wp_forget (fun w2 => Ext w w2 ∧ Blk w2 w.heap.size 30 (stc d x h k l) ∧ Blk w2 (w.heap.size + 1) 45 #[.int .i64 0, .int .u64 0, .int .u64 0, .int .u64 0, .int .u64 0] ∧ Blk w2 b 28 #[.int .u64 r, .int .u64 0, .int .u64 0, .int .u64 0])
    ⟨(((hx.setCell (by simp; omega) _).setCell (by simp; omega) _).setCell (by simp; omega) _).setCell (by simp; omega) _,
     (((B1.far (by simp; omega) _).far (by simp; omega) _).far (by simp; omega) _).far (by simp; omega) _,
     (((B2.far (by simp; omega) _).far (by simp; omega) _).far (by simp; omega) _).far (by simp; omega) _,
     (((B3.set 0 _).set 1 _).set 2 _).set 3 _⟩ ?_
  clear c3 f3 B1 B2 B3 hx
  rintro w2 ⟨hx, B1, B2, B3⟩
  have F := Lib.hid (fun (w3 : World) (hr : RS (w.heap.size + 1) 45 (plc 1 r) w2.drew w3) => And.intro (hr.blk B1.drew (by omega)).cells (hr.blk B3.drew (by omega)).cells)
  simp only [stc] at F
  cases e1
  case false =>
    refine Seq.drawn (k := 13) (R := RS (w.heap.size + 1) 45 (plc 1 r)) (by kernel_rfl) (by decide) (by kernel_rfl) (fun _ _ _ => RS.trans) (fun _ _ h => h.size) RS.refl (At.start ?_)
    (refine At.det ?_ (fun val w1 hR _ K hK => ?_) ?_; rotate_left; (have g1 := (F.out _ hR).1; have g2 := (F.out _ hR).2; simp only [Act.put, List.setIfInBounds_toArray, List.set_cons_zero, List.set_cons_succ] at hK; go_simp; exact hK _ (RS.refl _)); simp only [Act.put, List.setIfInBounds_toArray, List.set_cons_zero, List.set_cons_succ])
    (refine At.det ?_ (fun val w1 hR _ K hK => ?_) ?_; rotate_left; (simp only [Act.put, List.setIfInBounds_toArray, List.set_cons_zero, List.set_cons_succ] at hK; go_simp; exact hK _ (RS.refl _)); simp only [Act.put, List.setIfInBounds_toArray, List.set_cons_zero, List.set_cons_succ])
    (refine At.det ?_ (fun val w1 hR _ K hK => ?_) ?_; rotate_left; (have g1 := (F.out _ hR).1; have g2 := (F.out _ hR).2; simp only [Act.put, List.setIfInBounds_toArray, List.set_cons_zero, List.set_cons_succ] at hK; go_simp; exact hK _ (RS.refl _)); simp only [Act.put, List.setIfInBounds_toArray, List.set_cons_zero, List.set_cons_succ])
    (refine At.det ?_ (fun val w1 hR _ K hK => ?_) ?_; rotate_left; (simp only [Act.put, List.setIfInBounds_toArray, List.set_cons_zero, List.set_cons_succ] at hK; go_simp; (with_reducible refine (HE.out _).mono ?_); rintro e w2 ⟨rfl, h2⟩; exact hK _ (RS.of h2)); simp only [Act.put, List.setIfInBounds_toArray, List.set_cons_zero, List.set_cons_succ])
    (refine At.det ?_ (fun val w1 hR _ K hK => ?_) ?_; rotate_left; (simp only [Act.put, List.setIfInBounds_toArray, List.set_cons_zero, List.set_cons_succ] at hK; go_simp; exact hK _ (RS.refl _)); simp only [Act.put, List.setIfInBounds_toArray, List.set_cons_zero, List.set_cons_succ])
    (refine At.det ?_ (fun val w1 hR _ K hK => ?_) ?_; rotate_left; (simp only [Act.put, List.setIfInBounds_toArray, List.set_cons_zero, List.set_cons_succ] at hK; go_simp; exact hK _ (RS.refl _)); simp only [Act.put, List.setIfInBounds_toArray, List.set_cons_zero, List.set_cons_succ])
    (refine At.det ?_ (fun val w1 hR _ K hK => ?_) ?_; rotate_left; (have g1 := (F.out _ hR).1; have g2 := (F.out _ hR).2; simp only [Act.put, List.setIfInBounds_toArray, List.set_cons_zero, List.set_cons_succ] at hK; go_simp; exact hK _ (RS.refl _)); simp only [Act.put, List.setIfInBounds_toArray, List.set_cons_zero, List.set_cons_succ])
    (refine At.det ?_ (fun val w1 hR _ K hK => ?_) ?_; rotate_left; (simp only [Act.put, List.setIfInBounds_toArray, List.set_cons_zero, List.set_cons_succ] at hK; go_simp; exact hK _ (RS.refl _)); simp only [Act.put, List.setIfInBounds_toArray, List.set_cons_zero, List.set_cons_succ])
    (refine At.det ?_ (fun val w1 hR _ K hK => ?_) ?_; rotate_left; (have g1 := (F.out _ hR).1; have g2 := (F.out _ hR).2; simp only [Act.put, List.setIfInBounds_toArray, List.set_cons_zero, List.set_cons_succ] at hK; go_simp; exact hK _ (RS.refl _)); simp only [Act.put, List.setIfInBounds_toArray, List.set_cons_zero, List.set_cons_succ])
    (refine At.det ?_ (fun val w1 hR _ K hK => ?_) ?_; rotate_left; (simp only [Act.put, List.setIfInBounds_toArray, List.set_cons_zero, List.set_cons_succ] at hK; go_simp; (with_reducible refine (HA.out _).mono ?_); rintro e w2 ⟨rfl, h2⟩; exact hK _ (RS.of h2)); simp only [Act.put, List.setIfInBounds_toArray, List.set_cons_zero, List.set_cons_succ])
    (refine At.det ?_ (fun val w1 hR _ K hK => ?_) ?_; rotate_left; (simp only [Act.put, List.setIfInBounds_toArray, List.set_cons_zero, List.set_cons_succ] at hK; go_simp; (with_reducible refine (HE2.out _).mono ?_); rintro e w2 ⟨rfl, h2⟩; exact hK _ (RS.of h2)); simp only [Act.put, List.setIfInBounds_toArray, List.set_cons_zero, List.set_cons_succ])
    (refine At.det ?_ (fun val w1 hR _ K hK => ?_) ?_; rotate_left; (simp only [Act.put, List.setIfInBounds_toArray, List.set_cons_zero, List.set_cons_succ] at hK; go_simp; exact hK _ (RS.refl _)); simp only [Act.put, List.setIfInBounds_toArray, List.set_cons_zero, List.set_cons_succ])
    (refine At.store (#[.int .i64 0, .int .u64 0, .int .u64 0, .int .u64 0, .int .u64 0]) (B2.drew) rfl _ _ _ rfl rfl (fun _ => by first | rfl | kernel_rfl) (fun _ => by first | rfl | kernel_rfl) (by kernel_rfl) (by kernel_rfl) ?_; simp only [Act.put])
    refine At.last rfl (fun val w3 hR hF hN => ?_)
    have C2 : Blk w3 (w.heap.size + 1) 45 (plc 1 r) := hF.2 rfl
    have hx2 : Ext w w3 := hR.ext hx.drew (by simp)
    clear F hR hx B1 B2 B3 hF
    go_wp2
    exact ret_blk2 rfl (w.heap.size + 1) 45 (plc 1 r) _ rfl C2 Tryd.underlying45 rfl (by kernel_rfl) rfl ⟨by simp, hx2⟩
  case true =>
    refine Seq.drawn (k := 13) (R := RS (w.heap.size + 1) 45 (plc 1 r)) (by kernel_rfl) (by decide) (by kernel_rfl) (fun _ _ _ => RS.trans) (fun _ _ h => h.size) RS.refl (At.start ?_)
    (refine At.det ?_ (fun val w1 hR _ K hK => ?_) ?_; rotate_left; (have g1 := (F.out _ hR).1; have g2 := (F.out _ hR).2; simp only [Act.put, List.setIfInBounds_toArray, List.set_cons_zero, List.set_cons_succ] at hK; go_simp; exact hK _ (RS.refl _)); simp only [Act.put, List.setIfInBounds_toArray, List.set_cons_zero, List.set_cons_succ])
    (refine At.det ?_ (fun val w1 hR _ K hK => ?_) ?_; rotate_left; (simp only [Act.put, List.setIfInBounds_toArray, List.set_cons_zero, List.set_cons_succ] at hK; go_simp; exact hK _ (RS.refl _)); simp only [Act.put, List.setIfInBounds_toArray, List.set_cons_zero, List.set_cons_succ])
    (refine At.det ?_ (fun val w1 hR _ K hK => ?_) ?_; rotate_left; (have g1 := (F.out _ hR).1; have g2 := (F.out _ hR).2; simp only [Act.put, List.setIfInBounds_toArray, List.set_cons_zero, List.set_cons_succ] at hK; go_simp; exact hK _ (RS.refl _)); simp only [Act.put, List.setIfInBounds_toArray, List.set_cons_zero, List.set_cons_succ])
    (refine At.det ?_ (fun val w1 hR _ K hK => ?_) ?_; rotate_left; (simp only [Act.put, List.setIfInBounds_toArray, List.set_cons_zero, List.set_cons_succ] at hK; go_simp; (with_reducible refine (HE.out _).mono ?_); rintro e w2 ⟨rfl, h2⟩; exact hK _ (RS.of h2)); simp only [Act.put, List.setIfInBounds_toArray, List.set_cons_zero, List.set_cons_succ])
    (refine At.det ?_ (fun val w1 hR _ K hK => ?_) ?_; rotate_left; (simp only [Act.put, List.setIfInBounds_toArray, List.set_cons_zero, List.set_cons_succ] at hK; go_simp; exact hK _ (RS.refl _)); simp only [Act.put, List.setIfInBounds_toArray, List.set_cons_zero, List.set_cons_succ])
    (refine At.det ?_ (fun val w1 hR _ K hK => ?_) ?_; rotate_left; (simp only [Act.put, List.setIfInBounds_toArray, List.set_cons_zero, List.set_cons_succ] at hK; go_simp; exact hK _ (RS.refl _)); simp only [Act.put, List.setIfInBounds_toArray, List.set_cons_zero, List.set_cons_succ])
    (refine At.det ?_ (fun val w1 hR _ K hK => ?_) ?_; rotate_left; (simp only [Act.put, List.setIfInBounds_toArray, List.set_cons_zero, List.set_cons_succ] at hK; go_simp; exact hK _ (RS.refl _)); simp only [Act.put, List.setIfInBounds_toArray, List.set_cons_zero, List.set_cons_succ])
    (refine At.det ?_ (fun val w1 hR _ K hK => ?_) ?_; rotate_left; (simp only [Act.put, List.setIfInBounds_toArray, List.set_cons_zero, List.set_cons_succ] at hK; go_simp; exact hK _ (RS.refl _)); simp only [Act.put, List.setIfInBounds_toArray, List.set_cons_zero, List.set_cons_succ])
    (refine At.det ?_ (fun val w1 hR _ K hK => ?_) ?_; rotate_left; (simp only [Act.put, List.setIfInBounds_toArray, List.set_cons_zero, List.set_cons_succ] at hK; go_simp; exact hK _ (RS.refl _)); simp only [Act.put, List.setIfInBounds_toArray, List.set_cons_zero, List.set_cons_succ])
    (refine At.det ?_ (fun val w1 hR _ K hK => ?_) ?_; rotate_left; (simp only [Act.put, List.setIfInBounds_toArray, List.set_cons_zero, List.set_cons_succ] at hK; go_simp; exact hK _ (RS.refl _)); simp only [Act.put, List.setIfInBounds_toArray, List.set_cons_zero, List.set_cons_succ])
    (refine At.det ?_ (fun val w1 hR _ K hK => ?_) ?_; rotate_left; (simp only [Act.put, List.setIfInBounds_toArray, List.set_cons_zero, List.set_cons_succ] at hK; go_simp; exact hK _ (RS.refl _)); simp only [Act.put, List.setIfInBounds_toArray, List.set_cons_zero, List.set_cons_succ])
    (refine At.det ?_ (fun val w1 hR _ K hK => ?_) ?_; rotate_left; (simp only [Act.put, List.setIfInBounds_toArray, List.set_cons_zero, List.set_cons_succ] at hK; go_simp; exact hK _ (RS.refl _)); simp only [Act.put, List.setIfInBounds_toArray, List.set_cons_zero, List.set_cons_succ])
    (refine At.store (#[.int .i64 0, .int .u64 0, .int .u64 0, .int .u64 0, .int .u64 0]) (B2.drew) rfl _ _ _ rfl rfl (fun _ => by first | rfl | kernel_rfl) (fun _ => by first | rfl | kernel_rfl) (by kernel_rfl) (by kernel_rfl) ?_; simp only [Act.put])
    refine At.last rfl (fun val w3 hR hF hN => ?_)
    have C2 : Blk w3 (w.heap.size + 1) 45 (plc 1 r) := hF.2 rfl
    have hx2 : Ext w w3 := hR.ext hx.drew (by simp)
    clear F hR hx B1 B2 B3 hF
    go_wp2
    exact ret_blk2 rfl (w.heap.size + 1) 45 (plc 1 r) _ rfl C2 Tryd.underlying45 rfl (by kernel_rfl) rfl ⟨by simp, hx2⟩

set_option maxHeartbeats 4000000 in
theorem small_any (d E x h k l : Nat) (hd2 : d ≤ 30) (hE : E = 2 ^ d ||| 2 ^ (d + 1)) (hEl : E < 18446744073709551616) (hxl : x < 18446744073709551616) (hl : l < 18446744073709551616) (w : World) :
    Calls Tryd.prog 46 #[stv d x h k l] w fun e w' => e = .returned (.tuple #[.agg (plc 2 (orN (lessN x k) (lessN E l))), .bool ((andN (lessN x k) l == 0) && !(lessN E l == 0))]) ∧ Ext w w' := by
  have HE := Lib.hid (ends_E d E x h k l (by omega) hE)
  have HL := Lib.hid (less_one x k hxl)
  have HM := Lib.hid (less_one E l hEl)
  have hr : lessN x k < 18446744073709551616 := lessN_lt (n := 64) hxl
  have hs : lessN E l < 18446744073709551616 := lessN_lt (n := 64) hEl
  have HO := Lib.hid (or_one (lessN x k) (lessN E l) hr hs)
  have HA := Lib.hid (and_one (lessN x k) l hr hl)
  have HX := Lib.hid (empty_one (andN (lessN x k) l))
  have HY := Lib.hid (empty_one (lessN E l))
  obtain ⟨q0, q1, q2, q3, q4, q5, q6, q7, q8, q9, q10, q11, q12, q13, q14, q15, q16⟩ := stc_get d x h k l
  clear hE hEl hxl hl hr hs
  unfold stv mset at *
  generalize andN (lessN x k) l = z at *
  generalize orN (lessN x k) (lessN E l) = u at *
  generalize lessN x k = r at *
  generalize lessN E l = s at *
  generalize (z == 0) = e1 at *
  generalize (s == 0) = e2 at *
  go_enter Tryd.func46, Tryd.ntmps46
  go_upto_region 1 with (fail)
  have F := Lib.hid (fun (w1 : World) (hr : Ext _ w1) => (((Blk.new w 30 (stc d x h k l)).alloc (.cells #[.int .i64 0, .int .u64 0, .int .u64 0, .int .u64 0, .int .u64 0] 45)).ext (hr.of_drew)))
  refine Seq.drawn (k := 12) (R := Ext) (by kernel_rfl) (by decide) (by kernel_rfl) (fun _ _ _ => Ext.trans) (fun _ _ h => h.size) Ext.refl (At.start ?_)
  (refine At.det ?_ (fun val w1 hR _ K hK => ?_) ?_; rotate_left; (simp only [Act.put, List.setIfInBounds_toArray, List.set_cons_zero, List.set_cons_succ] at hK; go_simp; exact hK _ (Ext.refl _)); simp only [Act.put, List.setIfInBounds_toArray, List.set_cons_zero, List.set_cons_succ])
  (refine At.det ?_ (fun val w1 hR _ K hK => ?_) ?_; rotate_left; (have g1 := (F.out _ hR).cells; simp only [Act.put, List.setIfInBounds_toArray, List.set_cons_zero, List.set_cons_succ] at hK; go_simp; exact hK _ (Ext.refl _)); simp only [Act.put, List.setIfInBounds_toArray, List.set_cons_zero, List.set_cons_succ])
  (refine At.det ?_ (fun val w1 hR _ K hK => ?_) ?_; rotate_left; (simp only [Act.put, List.setIfInBounds_toArray, List.set_cons_zero, List.set_cons_succ] at hK; go_simp; exact hK _ (Ext.refl _)); simp only [Act.put, List.setIfInBounds_toArray, List.set_cons_zero, List.set_cons_succ])
  (refine At.det ?_ (fun val w1 hR _ K hK => ?_) ?_; rotate_left; (have g1 := (F.out _ hR).cells; simp only [Act.put, List.setIfInBounds_toArray, List.set_cons_zero, List.set_cons_succ] at hK; go_simp; exact hK _ (Ext.refl _)); simp only [Act.put, List.setIfInBounds_toArray, List.set_cons_zero, List.set_cons_succ])
  (refine At.det ?_ (fun val w1 hR _ K hK => ?_) ?_; rotate_left; (simp only [Act.put, List.setIfInBounds_toArray, List.set_cons_zero, List.set_cons_succ] at hK; go_simp; (with_reducible refine (HL.out _).mono ?_); rintro e w2 ⟨rfl, h2⟩; exact hK _ (h2)); simp only [Act.put, List.setIfInBounds_toArray, List.set_cons_zero, List.set_cons_succ])
  (refine At.row (w.heap.size) 30 (stc d x h k l) _ Ext.refl (fun w1 hR => F.out _ hR) _ _ rfl (fun _ => by first | rfl | kernel_rfl) (fun _ => by first | rfl | kernel_rfl) Tryd.underlying30 rfl (by kernel_rfl) ?_; simp only [Act.put, List.setIfInBounds_toArray, List.set_cons_zero, List.set_cons_succ])
  (refine At.det ?_ (fun val w1 hR _ K hK => ?_) ?_; rotate_left; (simp only [Act.put, List.setIfInBounds_toArray, List.set_cons_zero, List.set_cons_succ] at hK; go_simp; (with_reducible refine (HE.out _).mono ?_); rintro e w2 ⟨rfl, h2⟩; exact hK _ (h2)); simp only [Act.put, List.setIfInBounds_toArray, List.set_cons_zero, List.set_cons_succ])
  (refine At.det ?_ (fun val w1 hR _ K hK => ?_) ?_; rotate_left; (simp only [Act.put, List.setIfInBounds_toArray, List.set_cons_zero, List.set_cons_succ] at hK; go_simp; exact hK _ (Ext.refl _)); simp only [Act.put, List.setIfInBounds_toArray, List.set_cons_zero, List.set_cons_succ])
  (refine At.det ?_ (fun val w1 hR _ K hK => ?_) ?_; rotate_left; (have g1 := (F.out _ hR).cells; simp only [Act.put, List.setIfInBounds_toArray, List.set_cons_zero, List.set_cons_succ] at hK; go_simp; exact hK _ (Ext.refl _)); simp only [Act.put, List.setIfInBounds_toArray, List.set_cons_zero, List.set_cons_succ])
  (refine At.det ?_ (fun val w1 hR _ K hK => ?_) ?_; rotate_left; (simp only [Act.put, List.setIfInBounds_toArray, List.set_cons_zero, List.set_cons_succ] at hK; go_simp; (with_reducible refine (HM.out _).mono ?_); rintro e w2 ⟨rfl, h2⟩; exact hK _ (h2)); simp only [Act.put, List.setIfInBounds_toArray, List.set_cons_zero, List.set_cons_succ])
  (refine At.new (New (w.heap.size + 1 + 1) 28 #[.int .u64 0, .int .u64 0, .int .u64 0, .int .u64 0]) New.ext (fun val w1 hR hF K hK => ?_) ?_; (simp only [Act.put, List.setIfInBounds_toArray, List.set_cons_zero, List.set_cons_succ] at hK; go_simp; exact hK _ _ ((Ext.refl _).alloc _) ⟨_, rfl, Nat.le_refl _, by simp⟩ ⟨_, rfl, Nat.le_trans (by simp) hR.size, Blk.new _ _ _⟩); simp only [Act.put, List.setIfInBounds_toArray, List.set_cons_zero, List.set_cons_succ])
  (refine At.new (New (w.heap.size + 1 + 1) 28 #[.int .u64 0, .int .u64 0, .int .u64 0, .int .u64 0]) New.ext (fun val w1 hR hF K hK => ?_) ?_; (simp only [Act.put, List.setIfInBounds_toArray, List.set_cons_zero, List.set_cons_succ] at hK; go_simp; exact hK _ _ ((Ext.refl _).alloc _) ⟨_, rfl, Nat.le_refl _, by simp⟩ ⟨_, rfl, Nat.le_trans (by simp) hR.size, Blk.new _ _ _⟩); simp only [Act.put, List.setIfInBounds_toArray, List.set_cons_zero, List.set_cons_succ])
  refine At.last rfl (fun val w1 hR hF hN => ?_)
  simp only [Nat.reduceAdd] at hF hN ⊢
  obtain ⟨⟨_, n1⟩, n2⟩ := hF
  obtain ⟨b, hv, hb, B3⟩ := n1 (by simp)
  obtain ⟨c, hv2, hc, B4⟩ := n2 (by simp)
  have hbc : b ≠ c := fun e => hN 10 (by simp) 11 (by simp) (by decide) (by rw [hv, hv2, e])
  rw [hv, hv2]
  have hx : Ext w w1 := (((Ext.refl w).alloc _).alloc _).trans hR.of_drew
  have B1 := F.out _ hR
  have B2 : Blk w1 (w.heap.size + 1) 45 #[.int .i64 0, .int .u64 0, .int .u64 0, .int .u64 0, .int .u64 0] := (Blk.new' (by simp) 45 _).ext hR.of_drew
  clear hR F n1 n2 hv hv2 hN
  have c3 := B3.cells
  have f3 := B3.free
  have c4 := B4.cells
  have f4 := B4.free
  have hcb : c ≠ b := fun e => hbc e.symm
  go_upto_region 2 with (fail)
  refine wp_forget (fun w2 => Ext w w2 ∧ Blk w2 w.heap.size 30 (stc d x h k l) ∧ Blk w2 (w.heap.size + 1) 45 #[.int .i64 0, .int .u64 0, .int .u64 0, .int .u64 0, .int .u64 0] ∧ Blk w2 b 28 #[.int .u64 r, .int .u64 0, .int .u64 0, .int .u64 0] ∧ Blk w2 c 28 #[.int .u64 s, .int .u64 0, .int .u64 0, .int .u64 0])
    ⟨(by (repeat refine Ext.setCell ?_ (by simp; omega) _); exact hx),
     (by (repeat refine Blk.far ?_ (by simp; omega) _); exact B1),
     (by (repeat refine Blk.far ?_ (by simp; omega) _); exact B2),
     (by (iterate 4 refine Blk.far ?_ (by simp; omega) _); exact (((B3.set 0 _).set 1 _).set 2 _).set 3 _),
     (((((((B4.far (by simp; omega) _).far (by simp; omega) _).far (by simp; omega) _).far (by simp; omega) _).set 0 _).set 1 _).set 2 _).set 3 _⟩ ?_
  clear c3 f3 c4 f4 B1 B2 B3 B4 hx
  rintro w2 ⟨hx, B1, B2, B3, B4⟩
  have F := Lib.hid (fun (w3 : World) (hr : RS (w.heap.size + 1) 45 (plc 2 u) w2.drew w3) => And.intro (hr.blk B1.drew (by omega)).cells (And.intro (hr.blk B3.drew (by omega)).cells (hr.blk B4.drew (by omega)).cells))
  simp only [stc] at F
  cases e1
  case false =>
    refine Seq.drawn (k := 15) (R := RS (w.heap.size + 1) 45 (plc 2 u)) (by kernel_rfl) (by decide) (by kernel_rfl) (fun _ _ _ => RS.trans) (fun _ _ h => h.size) RS.refl (At.start ?_)
    (refine At.det ?_ (fun val w1 hR _ K hK => ?_) ?_; rotate_left; (have g1 := (F.out _ hR).1; have g2 := (F.out _ hR).2.1; have g3 := (F.out _ hR).2.2; simp only [Act.put, List.setIfInBounds_toArray, List.set_cons_zero, List.set_cons_succ] at hK; go_simp; exact hK _ (RS.refl _)); simp only [Act.put, List.setIfInBounds_toArray, List.set_cons_zero, List.set_cons_succ])
    (refine At.det ?_ (fun val w1 hR _ K hK => ?_) ?_; rotate_left; (have g1 := (F.out _ hR).1; have g2 := (F.out _ hR).2.1; have g3 := (F.out _ hR).2.2; simp only [Act.put, List.setIfInBounds_toArray, List.set_cons_zero, List.set_cons_succ] at hK; go_simp; exact hK _ (RS.refl _)); simp only [Act.put, List.setIfInBounds_toArray, List.set_cons_zero, List.set_cons_succ])
    (refine At.det ?_ (fun val w1 hR _ K hK => ?_) ?_; rotate_left; (simp only [Act.put, List.setIfInBounds_toArray, List.set_cons_zero, List.set_cons_succ] at hK; go_simp; (with_reducible refine (HO.out _).mono ?_); rintro e w2 ⟨rfl, h2⟩; exact hK _ (RS.of h2)); simp only [Act.put, List.setIfInBounds_toArray, List.set_cons_zero, List.set_cons_succ])
    (refine At.det ?_ (fun val w1 hR _ K hK => ?_) ?_; rotate_left; (simp only [Act.put, List.setIfInBounds_toArray, List.set_cons_zero, List.set_cons_succ] at hK; go_simp; exact hK _ (RS.refl _)); simp only [Act.put, List.setIfInBounds_toArray, List.set_cons_zero, List.set_cons_succ])
    (refine At.det ?_ (fun val w1 hR _ K hK => ?_) ?_; rotate_left; (have g1 := (F.out _ hR).1; have g2 := (F.out _ hR).2.1; have g3 := (F.out _ hR).2.2; simp only [Act.put, List.setIfInBounds_toArray, List.set_cons_zero, List.set_cons_succ] at hK; go_simp; exact hK _ (RS.refl _)); simp only [Act.put, List.setIfInBounds_toArray, List.set_cons_zero, List.set_cons_succ])
    (refine At.det ?_ (fun val w1 hR _ K hK => ?_) ?_; rotate_left; (simp only [Act.put, List.setIfInBounds_toArray, List.set_cons_zero, List.set_cons_succ] at hK; go_simp; exact hK _ (RS.refl _)); simp only [Act.put, List.setIfInBounds_toArray, List.set_cons_zero, List.set_cons_succ])
    (refine At.det ?_ (fun val w1 hR _ K hK => ?_) ?_; rotate_left; (have g1 := (F.out _ hR).1; have g2 := (F.out _ hR).2.1; have g3 := (F.out _ hR).2.2; simp only [Act.put, List.setIfInBounds_toArray, List.set_cons_zero, List.set_cons_succ] at hK; go_simp; exact hK _ (RS.refl _)); simp only [Act.put, List.setIfInBounds_toArray, List.set_cons_zero, List.set_cons_succ])
    (refine At.det ?_ (fun val w1 hR _ K hK => ?_) ?_; rotate_left; (simp only [Act.put, List.setIfInBounds_toArray, List.set_cons_zero, List.set_cons_succ] at hK; go_simp; (with_reducible refine (HA.out _).mono ?_); rintro e w2 ⟨rfl, h2⟩; exact hK _ (RS.of h2)); simp only [Act.put, List.setIfInBounds_toArray, List.set_cons_zero, List.set_cons_succ])
    (refine At.det ?_ (fun val w1 hR _ K hK => ?_) ?_; rotate_left; (simp only [Act.put, List.setIfInBounds_toArray, List.set_cons_zero, List.set_cons_succ] at hK; go_simp; (with_reducible refine (HX.out _).mono ?_); rintro e w2 ⟨rfl, h2⟩; exact hK _ (RS.of h2)); simp only [Act.put, List.setIfInBounds_toArray, List.set_cons_zero, List.set_cons_succ])
    (refine At.det ?_ (fun val w1 hR _ K hK => ?_) ?_; rotate_left; (simp only [Act.put, List.setIfInBounds_toArray, List.set_cons_zero, List.set_cons_succ] at hK; go_simp; exact hK _ (RS.refl _)); simp only [Act.put, List.setIfInBounds_toArray, List.set_cons_zero, List.set_cons_succ])
    (refine At.det ?_ (fun val w1 hR _ K hK => ?_) ?_; rotate_left; (simp only [Act.put, List.setIfInBounds_toArray, List.set_cons_zero, List.set_cons_succ] at hK; go_simp; exact hK _ (RS.refl _)); simp only [Act.put, List.setIfInBounds_toArray, List.set_cons_zero, List.set_cons_succ])
    (refine At.det ?_ (fun val w1 hR _ K hK => ?_) ?_; rotate_left; (simp only [Act.put, List.setIfInBounds_toArray, List.set_cons_zero, List.set_cons_succ] at hK; go_simp; exact hK _ (RS.refl _)); simp only [Act.put, List.setIfInBounds_toArray, List.set_cons_zero, List.set_cons_succ])
    (refine At.det ?_ (fun val w1 hR _ K hK => ?_) ?_; rotate_left; (simp only [Act.put, List.setIfInBounds_toArray, List.set_cons_zero, List.set_cons_succ] at hK; go_simp; exact hK _ (RS.refl _)); simp only [Act.put, List.setIfInBounds_toArray, List.set_cons_zero, List.set_cons_succ])
    (refine At.det ?_ (fun val w1 hR _ K hK => ?_) ?_; rotate_left; (simp only [Act.put, List.setIfInBounds_toArray, List.set_cons_zero, List.set_cons_succ] at hK; go_simp; exact hK _ (RS.refl _)); simp only [Act.put, List.setIfInBounds_toArray, List.set_cons_zero, List.set_cons_succ])
    (refine At.store (#[.int .i64 0, .int .u64 0, .int .u64 0, .int .u64 0, .int .u64 0]) (B2.drew) rfl _ _ _ rfl rfl (fun _ => by first | rfl | kernel_rfl) (fun _ => by first | rfl | kernel_rfl) (by kernel_rfl) (by kernel_rfl) ?_; simp only [Act.put])
    refine At.last rfl (fun val w3 hR hF hN => ?_)
    have C2 : Blk w3 (w.heap.size + 1) 45 (plc 2 u) := hF.2 rfl
    have hx2 : Ext w w3 := hR.ext hx.drew (by simp)
    clear F hR hx B1 B2 B3 B4 hF
    go_wp2
    exact ret_blk2 rfl (w.heap.size + 1) 45 (plc 2 u) _ rfl C2 Tryd.underlying45 rfl (by kernel_rfl) rfl ⟨by simp, hx2⟩
  case true =>
    refine Seq.drawn (k := 15) (R := RS (w.heap.size + 1) 45 (plc 2 u)) (by kernel_rfl) (by decide) (by kernel_rfl) (fun _ _ _ => RS.trans) (fun _ _ h => h.size) RS.refl (At.start ?_)
    (refine At.det ?_ (fun val w1 hR _ K hK => ?_) ?_; rotate_left; (have g1 := (F.out _ hR).1; have g2 := (F.out _ hR).2.1; have g3 := (F.out _ hR).2.2; simp only [Act.put, List.setIfInBounds_toArray, List.set_cons_zero, List.set_cons_succ] at hK; go_simp; exact hK _ (RS.refl _)); simp only [Act.put, List.setIfInBounds_toArray, List.set_cons_zero, List.set_cons_succ])
    (refine At.det ?_ (fun val w1 hR _ K hK => ?_) ?_; rotate_left; (have g1 := (F.out _ hR).1; have g2 := (F.out _ hR).2.1; have g3 := (F.out _ hR).2.2; simp only [Act.put, List.setIfInBounds_toArray, List.set_cons_zero, List.set_cons_succ] at hK; go_simp; exact hK _ (RS.refl _)); simp only [Act.put, List.setIfInBounds_toArray, List.set_cons_zero, List.set_cons_succ])
    (refine At.det ?_ (fun val w1 hR _ K hK => ?_) ?_; rotate_left; (simp only [Act.put, List.setIfInBounds_toArray, List.set_cons_zero, List.set_cons_succ] at hK; go_simp; (with_reducible refine (HO.out _).mono ?_); rintro e w2 ⟨rfl, h2⟩; exact hK _ (RS.of h2)); simp only [Act.put, List.setIfInBounds_toArray, List.set_cons_zero, List.set_cons_succ])
    (refine At.det ?_ (fun val w1 hR _ K hK => ?_) ?_; rotate_left; (simp only [Act.put, List.setIfInBounds_toArray, List.set_cons_zero, List.set_cons_succ] at hK; go_simp; exact hK _ (RS.refl _)); simp only [Act.put, List.setIfInBounds_toArray, List.set_cons_zero, List.set_cons_succ])
    (refine At.det ?_ (fun val w1 hR _ K hK => ?_) ?_; rotate_left; (have g1 := (F.out _ hR).1; have g2 := (F.out _ hR).2.1; have g3 := (F.out _ hR).2.2; simp only [Act.put, List.setIfInBounds_toArray, List.set_cons_zero, List.set_cons_succ] at hK; go_simp; exact hK _ (RS.refl _)); simp only [Act.put, List.setIfInBounds_toArray, List.set_cons_zero, List.set_cons_succ])
    (refine At.det ?_ (fun val w1 hR _ K hK => ?_) ?_; rotate_left; (simp only [Act.put, List.setIfInBounds_toArray, List.set_cons_zero, List.set_cons_succ] at hK; go_simp; exact hK _ (RS.refl _)); simp only [Act.put, List.setIfInBounds_toArray, List.set_cons_zero, List.set_cons_succ])
    (refine At.det ?_ (fun val w1 hR _ K hK => ?_) ?_; rotate_left; (have g1 := (F.out _ hR).1; have g2 := (F.out _ hR).2.1; have g3 := (F.out _ hR).2.2; simp only [Act.put, List.setIfInBounds_toArray, List.set_cons_zero, List.set_cons_succ] at hK; go_simp; exact hK _ (RS.refl _)); simp only [Act.put, List.setIfInBounds_toArray, List.set_cons_zero, List.set_cons_succ])
    (refine At.det ?_ (fun val w1 hR _ K hK => ?_) ?_; rotate_left; (simp only [Act.put, List.setIfInBounds_toArray, List.set_cons_zero, List.set_cons_succ] at hK; go_simp; (with_reducible refine (HA.out _).mono ?_); rintro e w2 ⟨rfl, h2⟩; exact hK _ (RS.of h2)); simp only [Act.put, List.setIfInBounds_toArray, List.set_cons_zero, List.set_cons_succ])
    (refine At.det ?_ (fun val w1 hR _ K hK => ?_) ?_; rotate_left; (simp only [Act.put, List.setIfInBounds_toArray, List.set_cons_zero, List.set_cons_succ] at hK; go_simp; (with_reducible refine (HX.out _).mono ?_); rintro e w2 ⟨rfl, h2⟩; exact hK _ (RS.of h2)); simp only [Act.put, List.setIfInBounds_toArray, List.set_cons_zero, List.set_cons_succ])
    (refine At.det ?_ (fun val w1 hR _ K hK => ?_) ?_; rotate_left; (simp only [Act.put, List.setIfInBounds_toArray, List.set_cons_zero, List.set_cons_succ] at hK; go_simp; exact hK _ (RS.refl _)); simp only [Act.put, List.setIfInBounds_toArray, List.set_cons_zero, List.set_cons_succ])
    (refine At.det ?_ (fun val w1 hR _ K hK => ?_) ?_; rotate_left; (have g1 := (F.out _ hR).1; have g2 := (F.out _ hR).2.1; have g3 := (F.out _ hR).2.2; simp only [Act.put, List.setIfInBounds_toArray, List.set_cons_zero, List.set_cons_succ] at hK; go_simp; exact hK _ (RS.refl _)); simp only [Act.put, List.setIfInBounds_toArray, List.set_cons_zero, List.set_cons_succ])
    (refine At.det ?_ (fun val w1 hR _ K hK => ?_) ?_; rotate_left; (simp only [Act.put, List.setIfInBounds_toArray, List.set_cons_zero, List.set_cons_succ] at hK; go_simp; (with_reducible refine (HY.out _).mono ?_); rintro e w2 ⟨rfl, h2⟩; exact hK _ (RS.of h2)); simp only [Act.put, List.setIfInBounds_toArray, List.set_cons_zero, List.set_cons_succ])
    (refine At.det ?_ (fun val w1 hR _ K hK => ?_) ?_; rotate_left; (simp only [Act.put, List.setIfInBounds_toArray, List.set_cons_zero, List.set_cons_succ] at hK; go_simp; exact hK _ (RS.refl _)); simp only [Act.put, List.setIfInBounds_toArray, List.set_cons_zero, List.set_cons_succ])
    (refine At.det ?_ (fun val w1 hR _ K hK => ?_) ?_; rotate_left; (simp only [Act.put, List.setIfInBounds_toArray, List.set_cons_zero, List.set_cons_succ] at hK; go_simp; exact hK _ (RS.refl _)); simp only [Act.put, List.setIfInBounds_toArray, List.set_cons_zero, List.set_cons_succ])
    (refine At.store (#[.int .i64 0, .int .u64 0, .int .u64 0, .int .u64 0, .int .u64 0]) (B2.drew) rfl _ _ _ rfl rfl (fun _ => by first | rfl | kernel_rfl) (fun _ => by first | rfl | kernel_rfl) (by kernel_rfl) (by kernel_rfl) ?_; simp only [Act.put])
    refine At.last rfl (fun val w3 hR hF hN => ?_)
    have C2 : Blk w3 (w.heap.size + 1) 45 (plc 2 u) := hF.2 rfl
    have hx2 : Ext w w3 := hR.ext hx.drew (by simp)
    clear F hR hx B1 B2 B3 B4 hF
    go_wp2
    exact ret_blk2 rfl (w.heap.size + 1) 45 (plc 2 u) _ rfl C2 Tryd.underlying45 rfl (by kernel_rfl) rfl ⟨by simp, hx2⟩
end Go.Proofs.YtghefhmncpmflaaDoor
