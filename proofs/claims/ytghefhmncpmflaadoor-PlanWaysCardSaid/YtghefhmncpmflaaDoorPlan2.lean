/-
  The contract of package plan's good: which states may be.
-/
import Derived.Test.YtghefhmncpmflaaDoorPlan1
namespace Go.Proofs.YtghefhmncpmflaaDoor
open Go.RowKit Go.Rg

theorem stc_get (d : Int) (x h k l : Nat) : (stc d x h k l)[0]? = some (.int .i64 d) ∧ (stc d x h k l)[1]? = some (.int .u64 x) ∧ (stc d x h k l)[2]? = some (.int .u64 0) ∧ (stc d x h k l)[3]? = some (.int .u64 0) ∧ (stc d x h k l)[4]? = some (.int .u64 0) ∧ (stc d x h k l)[5]? = some (.int .u64 h) ∧ (stc d x h k l)[6]? = some (.int .u64 0) ∧ (stc d x h k l)[7]? = some (.int .u64 0) ∧ (stc d x h k l)[8]? = some (.int .u64 0) ∧ (stc d x h k l)[9]? = some (.int .u64 k) ∧ (stc d x h k l)[10]? = some (.int .u64 0) ∧ (stc d x h k l)[11]? = some (.int .u64 0) ∧ (stc d x h k l)[12]? = some (.int .u64 0) ∧ (stc d x h k l)[13]? = some (.int .u64 l) ∧ (stc d x h k l)[14]? = some (.int .u64 0) ∧ (stc d x h k l)[15]? = some (.int .u64 0) ∧ (stc d x h k l)[16]? = some (.int .u64 0) := by
  refine ⟨rfl, rfl, rfl, rfl, rfl, rfl, rfl, rfl, rfl, rfl, rfl, rfl, rfl, rfl, rfl, rfl, rfl⟩
theorem data_D (d D x h k l : Nat) (h1 : 1 ≤ d) (h2 : d < 64) (hD : D = 2 ^ d - 1) (w : World) :
    Calls Tryd.prog 44 #[stv d x h k l] w fun e w' => e = .returned (mset D) ∧ Ext w w' := by subst hD; exact data_any d x h k l h1 h2 w
theorem ends_E (d E x h k l : Nat) (h2 : d < 63) (hE : E = 2 ^ d ||| 2 ^ (d + 1)) (w : World) :
    Calls Tryd.prog 48 #[stv d x h k l] w fun e w' => e = .returned (mset E) ∧ Ext w w' := by subst hE; exact ends_any d x h k l h2 w

theorem good_off (d : Int) (x h k l : Nat) (hd : d < 2 ∨ 30 < d) (w : World) :
    Calls Tryd.prog 43 #[stv d x h k l] w fun e w' => e = .returned (.bool false) ∧ Ext w w' := by
  obtain ⟨q0, q1, q2, q3, q4, q5, q6, q7, q8, q9, q10, q11, q12, q13, q14, q15, q16⟩ := stc_get d x h k l
  unfold stv
  rcases hd with hd | hd
  · go_enter Tryd.func43, Tryd.ntmps43
    go_wp2
    go_ret
    exact ⟨rfl, (Ext.refl w).alloc _⟩
  · have hd2 : decide (d < 2) = false := by simp; omega
    go_enter Tryd.func43, Tryd.ntmps43
    go_wp2
    go_ret
    exact ⟨rfl, (Ext.refl w).alloc _⟩

/-- What is asked of the sets of a state whose data columns are D, and its ends E. -/
def goodS (D E x h k l : Nat) : Bool := !(x == 0) && ((lessN x h == 0) && ((lessN h D == 0) && ((lessN k D == 0) && ((lessN l (D ||| E) == 0) && decide (pop 64 l ≤ 2)))))

set_option maxHeartbeats 4000000 in
theorem good_on (d D E x h k l : Nat) (hd1 : 2 ≤ d) (hd2 : d ≤ 30) (hD : D = 2 ^ d - 1) (hE : E = 2 ^ d ||| 2 ^ (d + 1)) (hDl : D < 18446744073709551616) (hEl : E < 18446744073709551616)
    (hx : x < 18446744073709551616) (hh : h < 18446744073709551616) (hk : k < 18446744073709551616) (hl : l < 18446744073709551616) (w : World) :
    Calls Tryd.prog 43 #[stv d x h k l] w fun e w' => e = .returned (.bool (goodS D E x h k l)) ∧ Ext w w' := by
  have HD := Lib.hid (data_D d D x h k l (by omega) (by omega) hD)
  have HE := Lib.hid (ends_E d E x h k l (by omega) hE)
  have HO := Lib.hid (or_one D E hDl hEl)
  have HW1 := Lib.hid (within_any x h hx)
  have HW2 := Lib.hid (within_any h D hh)
  have HW3 := Lib.hid (within_any k D hk)
  have hU : orN D E < 18446744073709551616 := Nat.or_lt_two_pow (n := 64) hDl hEl
  have HW4 := Lib.hid (within_any l (orN D E) hl)
  have HC := Lib.hid (count_one l hl)
  have HX := Lib.hid (empty_any (one x))
  have HP := Lib.hid (show goodS D E x h k l = (!(x == 0) && ((lessN x h == 0) && ((lessN h D == 0) && ((lessN k D == 0) && ((lessN l (orN D E) == 0) && decide (pop 64 l ≤ 2)))))) from rfl)
  clear hD hE hDl hEl hx hh hk hl hU
  unfold stv mset at *
  simp only [one, if_true, if_false, Nat.reduceEqDiff, beq_self_eq_true, Bool.and_true] at HX
  generalize goodS D E x h k l = r at *
  generalize orN D E = U at *
  generalize pop 64 l = p at *
  generalize (x == 0) = q1 at *
  generalize (lessN x h == 0) = q2 at *
  generalize (lessN h D == 0) = q3 at *
  generalize (lessN k D == 0) = q4 at *
  generalize (lessN l U == 0) = q5 at *
  obtain ⟨q0', q1', q2', q3', q4', q5', q6', q7', q8', q9', q10', q11', q12', q13', q14', q15', q16'⟩ := stc_get d x h k l
  have b1 : (2 : Int) ≤ d := by omega
  have b2 : (d : Int) ≤ 30 := by omega
  go_enter Tryd.func43, Tryd.ntmps43
  go_wp2_with fail
  refine (HX.out _).mono ?_
  rintro e w1 ⟨rfl, h1⟩
  have hX : Ext w w1 := ((Ext.refl w).alloc _).trans h1
  have B1 := (Blk.new w 30 (stc d x h k l)).ext h1
  clear h1
  cases q1
  case true =>
    go_wp2
    go_ret
    exact ⟨by rw [HP.out]; rfl, hX⟩
  have c1 := B1.cells
  simp only [stc] at c1
  go_wp2_with fail
  refine (HW1.out _).mono ?_
  rintro e w2 ⟨rfl, h2⟩
  replace hX := hX.trans h2
  replace B1 := B1.ext h2
  clear h2 c1
  cases q2
  case false =>
    go_wp2
    go_ret
    exact ⟨by rw [HP.out]; rfl, hX⟩
  go_upto_region 5 with (fail)
  have F := Lib.hid (fun w1 (hr : Ext w2.drew w1) => (B1.ext hr.of_drew).cells)
  simp only [stc] at F
  cases q3
  case false =>
    refine Seq.drawn (k := 14) (R := Ext) (by kernel_rfl) (by decide) (by kernel_rfl) (fun _ _ _ => Ext.trans) (fun _ _ h => h.size) Ext.refl (At.start ?_)
    (refine At.det ?_ (fun val w1 hR _ K hK => ?_) ?_; rotate_left; (simp only [Act.put, List.setIfInBounds_toArray, List.set_cons_zero, List.set_cons_succ] at hK; go_simp; exact hK _ (Ext.refl _)); simp only [Act.put, List.setIfInBounds_toArray, List.set_cons_zero, List.set_cons_succ])
    (refine At.det ?_ (fun val w1 hR _ K hK => ?_) ?_; rotate_left; (have g1 := F.out _ hR; simp only [Act.put, List.setIfInBounds_toArray, List.set_cons_zero, List.set_cons_succ] at hK; go_simp; exact hK _ (Ext.refl _)); simp only [Act.put, List.setIfInBounds_toArray, List.set_cons_zero, List.set_cons_succ])
    (refine At.row (w.heap.size) 30 (stc d x h k l) _ Ext.refl (fun w1 hR => B1.ext hR.of_drew) _ _ rfl (fun _ => by first | rfl | kernel_rfl) (fun _ => by first | rfl | kernel_rfl) Tryd.underlying30 rfl (by kernel_rfl) ?_; simp only [Act.put, List.setIfInBounds_toArray, List.set_cons_zero, List.set_cons_succ])
    (refine At.det ?_ (fun val w1 hR _ K hK => ?_) ?_; rotate_left; (simp only [Act.put, List.setIfInBounds_toArray, List.set_cons_zero, List.set_cons_succ] at hK; go_simp; (with_reducible refine (HD.out _).mono ?_); rintro e w2 ⟨rfl, h2⟩; exact hK _ (h2)); simp only [Act.put, List.setIfInBounds_toArray, List.set_cons_zero, List.set_cons_succ])
    (refine At.det ?_ (fun val w1 hR _ K hK => ?_) ?_; rotate_left; (simp only [Act.put, List.setIfInBounds_toArray, List.set_cons_zero, List.set_cons_succ] at hK; go_simp; (with_reducible refine (HW2.out _).mono ?_); rintro e w2 ⟨rfl, h2⟩; exact hK _ (h2)); simp only [Act.put, List.setIfInBounds_toArray, List.set_cons_zero, List.set_cons_succ])
    (refine At.det ?_ (fun val w1 hR _ K hK => ?_) ?_; rotate_left; (simp only [Act.put, List.setIfInBounds_toArray, List.set_cons_zero, List.set_cons_succ] at hK; go_simp; exact hK _ (Ext.refl _)); simp only [Act.put, List.setIfInBounds_toArray, List.set_cons_zero, List.set_cons_succ])
    (refine At.det ?_ (fun val w1 hR _ K hK => ?_) ?_; rotate_left; (simp only [Act.put, List.setIfInBounds_toArray, List.set_cons_zero, List.set_cons_succ] at hK; go_simp; exact hK _ (Ext.refl _)); simp only [Act.put, List.setIfInBounds_toArray, List.set_cons_zero, List.set_cons_succ])
    (refine At.det ?_ (fun val w1 hR _ K hK => ?_) ?_; rotate_left; (simp only [Act.put, List.setIfInBounds_toArray, List.set_cons_zero, List.set_cons_succ] at hK; go_simp; exact hK _ (Ext.refl _)); simp only [Act.put, List.setIfInBounds_toArray, List.set_cons_zero, List.set_cons_succ])
    (refine At.det ?_ (fun val w1 hR _ K hK => ?_) ?_; rotate_left; (simp only [Act.put, List.setIfInBounds_toArray, List.set_cons_zero, List.set_cons_succ] at hK; go_simp; exact hK _ (Ext.refl _)); simp only [Act.put, List.setIfInBounds_toArray, List.set_cons_zero, List.set_cons_succ])
    (refine At.det ?_ (fun val w1 hR _ K hK => ?_) ?_; rotate_left; (simp only [Act.put, List.setIfInBounds_toArray, List.set_cons_zero, List.set_cons_succ] at hK; go_simp; exact hK _ (Ext.refl _)); simp only [Act.put, List.setIfInBounds_toArray, List.set_cons_zero, List.set_cons_succ])
    (refine At.det ?_ (fun val w1 hR _ K hK => ?_) ?_; rotate_left; (simp only [Act.put, List.setIfInBounds_toArray, List.set_cons_zero, List.set_cons_succ] at hK; go_simp; exact hK _ (Ext.refl _)); simp only [Act.put, List.setIfInBounds_toArray, List.set_cons_zero, List.set_cons_succ])
    (refine At.det ?_ (fun val w1 hR _ K hK => ?_) ?_; rotate_left; (simp only [Act.put, List.setIfInBounds_toArray, List.set_cons_zero, List.set_cons_succ] at hK; go_simp; exact hK _ (Ext.refl _)); simp only [Act.put, List.setIfInBounds_toArray, List.set_cons_zero, List.set_cons_succ])
    (refine At.det ?_ (fun val w1 hR _ K hK => ?_) ?_; rotate_left; (simp only [Act.put, List.setIfInBounds_toArray, List.set_cons_zero, List.set_cons_succ] at hK; go_simp; exact hK _ (Ext.refl _)); simp only [Act.put, List.setIfInBounds_toArray, List.set_cons_zero, List.set_cons_succ])
    (refine At.det ?_ (fun val w1 hR _ K hK => ?_) ?_; rotate_left; (simp only [Act.put, List.setIfInBounds_toArray, List.set_cons_zero, List.set_cons_succ] at hK; go_simp; exact hK _ (Ext.refl _)); simp only [Act.put, List.setIfInBounds_toArray, List.set_cons_zero, List.set_cons_succ])
    refine At.last rfl (fun val w1 hR _ _ => ?_)
    go_wp2
    go_ret
    exact ⟨by rw [HP.out]; rfl, hX.trans hR.of_drew⟩
  refine Seq.drawn (k := 14) (R := Ext) (by kernel_rfl) (by decide) (by kernel_rfl) (fun _ _ _ => Ext.trans) (fun _ _ h => h.size) Ext.refl (At.start ?_)
  (refine At.det ?_ (fun val w1 hR _ K hK => ?_) ?_; rotate_left; (simp only [Act.put, List.setIfInBounds_toArray, List.set_cons_zero, List.set_cons_succ] at hK; go_simp; exact hK _ (Ext.refl _)); simp only [Act.put, List.setIfInBounds_toArray, List.set_cons_zero, List.set_cons_succ])
  (refine At.det ?_ (fun val w1 hR _ K hK => ?_) ?_; rotate_left; (have g1 := F.out _ hR; simp only [Act.put, List.setIfInBounds_toArray, List.set_cons_zero, List.set_cons_succ] at hK; go_simp; exact hK _ (Ext.refl _)); simp only [Act.put, List.setIfInBounds_toArray, List.set_cons_zero, List.set_cons_succ])
  (refine At.row (w.heap.size) 30 (stc d x h k l) _ Ext.refl (fun w1 hR => B1.ext hR.of_drew) _ _ rfl (fun _ => by first | rfl | kernel_rfl) (fun _ => by first | rfl | kernel_rfl) Tryd.underlying30 rfl (by kernel_rfl) ?_; simp only [Act.put, List.setIfInBounds_toArray, List.set_cons_zero, List.set_cons_succ])
  (refine At.det ?_ (fun val w1 hR _ K hK => ?_) ?_; rotate_left; (simp only [Act.put, List.setIfInBounds_toArray, List.set_cons_zero, List.set_cons_succ] at hK; go_simp; (with_reducible refine (HD.out _).mono ?_); rintro e w2 ⟨rfl, h2⟩; exact hK _ (h2)); simp only [Act.put, List.setIfInBounds_toArray, List.set_cons_zero, List.set_cons_succ])
  (refine At.det ?_ (fun val w1 hR _ K hK => ?_) ?_; rotate_left; (simp only [Act.put, List.setIfInBounds_toArray, List.set_cons_zero, List.set_cons_succ] at hK; go_simp; (with_reducible refine (HW2.out _).mono ?_); rintro e w2 ⟨rfl, h2⟩; exact hK _ (h2)); simp only [Act.put, List.setIfInBounds_toArray, List.set_cons_zero, List.set_cons_succ])
  (refine At.det ?_ (fun val w1 hR _ K hK => ?_) ?_; rotate_left; (simp only [Act.put, List.setIfInBounds_toArray, List.set_cons_zero, List.set_cons_succ] at hK; go_simp; exact hK _ (Ext.refl _)); simp only [Act.put, List.setIfInBounds_toArray, List.set_cons_zero, List.set_cons_succ])
  (refine At.det ?_ (fun val w1 hR _ K hK => ?_) ?_; rotate_left; (simp only [Act.put, List.setIfInBounds_toArray, List.set_cons_zero, List.set_cons_succ] at hK; go_simp; exact hK _ (Ext.refl _)); simp only [Act.put, List.setIfInBounds_toArray, List.set_cons_zero, List.set_cons_succ])
  (refine At.det ?_ (fun val w1 hR _ K hK => ?_) ?_; rotate_left; (simp only [Act.put, List.setIfInBounds_toArray, List.set_cons_zero, List.set_cons_succ] at hK; go_simp; exact hK _ (Ext.refl _)); simp only [Act.put, List.setIfInBounds_toArray, List.set_cons_zero, List.set_cons_succ])
  (refine At.det ?_ (fun val w1 hR _ K hK => ?_) ?_; rotate_left; (have g1 := F.out _ hR; simp only [Act.put, List.setIfInBounds_toArray, List.set_cons_zero, List.set_cons_succ] at hK; go_simp; exact hK _ (Ext.refl _)); simp only [Act.put, List.setIfInBounds_toArray, List.set_cons_zero, List.set_cons_succ])
  (refine At.row (w.heap.size) 30 (stc d x h k l) _ Ext.refl (fun w1 hR => B1.ext hR.of_drew) _ _ rfl (fun _ => by first | rfl | kernel_rfl) (fun _ => by first | rfl | kernel_rfl) Tryd.underlying30 rfl (by kernel_rfl) ?_; simp only [Act.put, List.setIfInBounds_toArray, List.set_cons_zero, List.set_cons_succ])
  (refine At.det ?_ (fun val w1 hR _ K hK => ?_) ?_; rotate_left; (simp only [Act.put, List.setIfInBounds_toArray, List.set_cons_zero, List.set_cons_succ] at hK; go_simp; (with_reducible refine (HD.out _).mono ?_); rintro e w2 ⟨rfl, h2⟩; exact hK _ (h2)); simp only [Act.put, List.setIfInBounds_toArray, List.set_cons_zero, List.set_cons_succ])
  (refine At.det ?_ (fun val w1 hR _ K hK => ?_) ?_; rotate_left; (simp only [Act.put, List.setIfInBounds_toArray, List.set_cons_zero, List.set_cons_succ] at hK; go_simp; (with_reducible refine (HW3.out _).mono ?_); rintro e w2 ⟨rfl, h2⟩; exact hK _ (h2)); simp only [Act.put, List.setIfInBounds_toArray, List.set_cons_zero, List.set_cons_succ])
  (refine At.det ?_ (fun val w1 hR _ K hK => ?_) ?_; rotate_left; (simp only [Act.put, List.setIfInBounds_toArray, List.set_cons_zero, List.set_cons_succ] at hK; go_simp; exact hK _ (Ext.refl _)); simp only [Act.put, List.setIfInBounds_toArray, List.set_cons_zero, List.set_cons_succ])
  (refine At.det ?_ (fun val w1 hR _ K hK => ?_) ?_; rotate_left; (simp only [Act.put, List.setIfInBounds_toArray, List.set_cons_zero, List.set_cons_succ] at hK; go_simp; exact hK _ (Ext.refl _)); simp only [Act.put, List.setIfInBounds_toArray, List.set_cons_zero, List.set_cons_succ])
  refine At.last rfl (fun val w1 hR _ _ => ?_)
  replace hX := hX.trans hR.of_drew
  replace B1 := B1.ext hR.of_drew
  clear F hR
  cases q4
  case false =>
    go_wp2
    go_ret
    exact ⟨by rw [HP.out]; rfl, hX⟩
  go_upto_region 7 with (fail)
  have F := Lib.hid (fun w2 (hr : Ext w1.drew w2) => (B1.ext hr.of_drew).cells)
  simp only [stc] at F
  cases q5
  case false =>
    refine Seq.drawn (k := 14) (R := Ext) (by kernel_rfl) (by decide) (by kernel_rfl) (fun _ _ _ => Ext.trans) (fun _ _ h => h.size) Ext.refl (At.start ?_)
    (refine At.det ?_ (fun val w1 hR _ K hK => ?_) ?_; rotate_left; (simp only [Act.put, List.setIfInBounds_toArray, List.set_cons_zero, List.set_cons_succ] at hK; go_simp; exact hK _ (Ext.refl _)); simp only [Act.put, List.setIfInBounds_toArray, List.set_cons_zero, List.set_cons_succ])
    (refine At.det ?_ (fun val w1 hR _ K hK => ?_) ?_; rotate_left; (have g1 := F.out _ hR; simp only [Act.put, List.setIfInBounds_toArray, List.set_cons_zero, List.set_cons_succ] at hK; go_simp; exact hK _ (Ext.refl _)); simp only [Act.put, List.setIfInBounds_toArray, List.set_cons_zero, List.set_cons_succ])
    (refine At.row (w.heap.size) 30 (stc d x h k l) _ Ext.refl (fun w1 hR => B1.ext hR.of_drew) _ _ rfl (fun _ => by first | rfl | kernel_rfl) (fun _ => by first | rfl | kernel_rfl) Tryd.underlying30 rfl (by kernel_rfl) ?_; simp only [Act.put, List.setIfInBounds_toArray, List.set_cons_zero, List.set_cons_succ])
    (refine At.det ?_ (fun val w1 hR _ K hK => ?_) ?_; rotate_left; (simp only [Act.put, List.setIfInBounds_toArray, List.set_cons_zero, List.set_cons_succ] at hK; go_simp; (with_reducible refine (HD.out _).mono ?_); rintro e w2 ⟨rfl, h2⟩; exact hK _ (h2)); simp only [Act.put, List.setIfInBounds_toArray, List.set_cons_zero, List.set_cons_succ])
    (refine At.row (w.heap.size) 30 (stc d x h k l) _ Ext.refl (fun w1 hR => B1.ext hR.of_drew) _ _ rfl (fun _ => by first | rfl | kernel_rfl) (fun _ => by first | rfl | kernel_rfl) Tryd.underlying30 rfl (by kernel_rfl) ?_; simp only [Act.put, List.setIfInBounds_toArray, List.set_cons_zero, List.set_cons_succ])
    (refine At.det ?_ (fun val w1 hR _ K hK => ?_) ?_; rotate_left; (simp only [Act.put, List.setIfInBounds_toArray, List.set_cons_zero, List.set_cons_succ] at hK; go_simp; (with_reducible refine (HE.out _).mono ?_); rintro e w2 ⟨rfl, h2⟩; exact hK _ (h2)); simp only [Act.put, List.setIfInBounds_toArray, List.set_cons_zero, List.set_cons_succ])
    (refine At.det ?_ (fun val w1 hR _ K hK => ?_) ?_; rotate_left; (simp only [Act.put, List.setIfInBounds_toArray, List.set_cons_zero, List.set_cons_succ] at hK; go_simp; (with_reducible refine (HO.out _).mono ?_); rintro e w2 ⟨rfl, h2⟩; exact hK _ (h2)); simp only [Act.put, List.setIfInBounds_toArray, List.set_cons_zero, List.set_cons_succ])
    (refine At.det ?_ (fun val w1 hR _ K hK => ?_) ?_; rotate_left; (simp only [Act.put, List.setIfInBounds_toArray, List.set_cons_zero, List.set_cons_succ] at hK; go_simp; (with_reducible refine (HW4.out _).mono ?_); rintro e w2 ⟨rfl, h2⟩; exact hK _ (h2)); simp only [Act.put, List.setIfInBounds_toArray, List.set_cons_zero, List.set_cons_succ])
    (refine At.det ?_ (fun val w1 hR _ K hK => ?_) ?_; rotate_left; (simp only [Act.put, List.setIfInBounds_toArray, List.set_cons_zero, List.set_cons_succ] at hK; go_simp; exact hK _ (Ext.refl _)); simp only [Act.put, List.setIfInBounds_toArray, List.set_cons_zero, List.set_cons_succ])
    (refine At.det ?_ (fun val w1 hR _ K hK => ?_) ?_; rotate_left; (simp only [Act.put, List.setIfInBounds_toArray, List.set_cons_zero, List.set_cons_succ] at hK; go_simp; exact hK _ (Ext.refl _)); simp only [Act.put, List.setIfInBounds_toArray, List.set_cons_zero, List.set_cons_succ])
    (refine At.det ?_ (fun val w1 hR _ K hK => ?_) ?_; rotate_left; (simp only [Act.put, List.setIfInBounds_toArray, List.set_cons_zero, List.set_cons_succ] at hK; go_simp; exact hK _ (Ext.refl _)); simp only [Act.put, List.setIfInBounds_toArray, List.set_cons_zero, List.set_cons_succ])
    (refine At.det ?_ (fun val w1 hR _ K hK => ?_) ?_; rotate_left; (simp only [Act.put, List.setIfInBounds_toArray, List.set_cons_zero, List.set_cons_succ] at hK; go_simp; exact hK _ (Ext.refl _)); simp only [Act.put, List.setIfInBounds_toArray, List.set_cons_zero, List.set_cons_succ])
    (refine At.det ?_ (fun val w1 hR _ K hK => ?_) ?_; rotate_left; (simp only [Act.put, List.setIfInBounds_toArray, List.set_cons_zero, List.set_cons_succ] at hK; go_simp; exact hK _ (Ext.refl _)); simp only [Act.put, List.setIfInBounds_toArray, List.set_cons_zero, List.set_cons_succ])
    (refine At.det ?_ (fun val w1 hR _ K hK => ?_) ?_; rotate_left; (simp only [Act.put, List.setIfInBounds_toArray, List.set_cons_zero, List.set_cons_succ] at hK; go_simp; exact hK _ (Ext.refl _)); simp only [Act.put, List.setIfInBounds_toArray, List.set_cons_zero, List.set_cons_succ])
    refine At.last rfl (fun val w1 hR _ _ => ?_)
    go_wp2
    go_ret
    exact ⟨by rw [HP.out]; rfl, hX.trans hR.of_drew⟩
  refine Seq.drawn (k := 14) (R := Ext) (by kernel_rfl) (by decide) (by kernel_rfl) (fun _ _ _ => Ext.trans) (fun _ _ h => h.size) Ext.refl (At.start ?_)
  (refine At.det ?_ (fun val w1 hR _ K hK => ?_) ?_; rotate_left; (simp only [Act.put, List.setIfInBounds_toArray, List.set_cons_zero, List.set_cons_succ] at hK; go_simp; exact hK _ (Ext.refl _)); simp only [Act.put, List.setIfInBounds_toArray, List.set_cons_zero, List.set_cons_succ])
  (refine At.det ?_ (fun val w1 hR _ K hK => ?_) ?_; rotate_left; (have g1 := F.out _ hR; simp only [Act.put, List.setIfInBounds_toArray, List.set_cons_zero, List.set_cons_succ] at hK; go_simp; exact hK _ (Ext.refl _)); simp only [Act.put, List.setIfInBounds_toArray, List.set_cons_zero, List.set_cons_succ])
  (refine At.row (w.heap.size) 30 (stc d x h k l) _ Ext.refl (fun w1 hR => B1.ext hR.of_drew) _ _ rfl (fun _ => by first | rfl | kernel_rfl) (fun _ => by first | rfl | kernel_rfl) Tryd.underlying30 rfl (by kernel_rfl) ?_; simp only [Act.put, List.setIfInBounds_toArray, List.set_cons_zero, List.set_cons_succ])
  (refine At.det ?_ (fun val w1 hR _ K hK => ?_) ?_; rotate_left; (simp only [Act.put, List.setIfInBounds_toArray, List.set_cons_zero, List.set_cons_succ] at hK; go_simp; (with_reducible refine (HD.out _).mono ?_); rintro e w2 ⟨rfl, h2⟩; exact hK _ (h2)); simp only [Act.put, List.setIfInBounds_toArray, List.set_cons_zero, List.set_cons_succ])
  (refine At.row (w.heap.size) 30 (stc d x h k l) _ Ext.refl (fun w1 hR => B1.ext hR.of_drew) _ _ rfl (fun _ => by first | rfl | kernel_rfl) (fun _ => by first | rfl | kernel_rfl) Tryd.underlying30 rfl (by kernel_rfl) ?_; simp only [Act.put, List.setIfInBounds_toArray, List.set_cons_zero, List.set_cons_succ])
  (refine At.det ?_ (fun val w1 hR _ K hK => ?_) ?_; rotate_left; (simp only [Act.put, List.setIfInBounds_toArray, List.set_cons_zero, List.set_cons_succ] at hK; go_simp; (with_reducible refine (HE.out _).mono ?_); rintro e w2 ⟨rfl, h2⟩; exact hK _ (h2)); simp only [Act.put, List.setIfInBounds_toArray, List.set_cons_zero, List.set_cons_succ])
  (refine At.det ?_ (fun val w1 hR _ K hK => ?_) ?_; rotate_left; (simp only [Act.put, List.setIfInBounds_toArray, List.set_cons_zero, List.set_cons_succ] at hK; go_simp; (with_reducible refine (HO.out _).mono ?_); rintro e w2 ⟨rfl, h2⟩; exact hK _ (h2)); simp only [Act.put, List.setIfInBounds_toArray, List.set_cons_zero, List.set_cons_succ])
  (refine At.det ?_ (fun val w1 hR _ K hK => ?_) ?_; rotate_left; (simp only [Act.put, List.setIfInBounds_toArray, List.set_cons_zero, List.set_cons_succ] at hK; go_simp; (with_reducible refine (HW4.out _).mono ?_); rintro e w2 ⟨rfl, h2⟩; exact hK _ (h2)); simp only [Act.put, List.setIfInBounds_toArray, List.set_cons_zero, List.set_cons_succ])
  (refine At.det ?_ (fun val w1 hR _ K hK => ?_) ?_; rotate_left; (simp only [Act.put, List.setIfInBounds_toArray, List.set_cons_zero, List.set_cons_succ] at hK; go_simp; exact hK _ (Ext.refl _)); simp only [Act.put, List.setIfInBounds_toArray, List.set_cons_zero, List.set_cons_succ])
  (refine At.det ?_ (fun val w1 hR _ K hK => ?_) ?_; rotate_left; (simp only [Act.put, List.setIfInBounds_toArray, List.set_cons_zero, List.set_cons_succ] at hK; go_simp; exact hK _ (Ext.refl _)); simp only [Act.put, List.setIfInBounds_toArray, List.set_cons_zero, List.set_cons_succ])
  (refine At.det ?_ (fun val w1 hR _ K hK => ?_) ?_; rotate_left; (have g1 := F.out _ hR; simp only [Act.put, List.setIfInBounds_toArray, List.set_cons_zero, List.set_cons_succ] at hK; go_simp; exact hK _ (Ext.refl _)); simp only [Act.put, List.setIfInBounds_toArray, List.set_cons_zero, List.set_cons_succ])
  (refine At.det ?_ (fun val w1 hR _ K hK => ?_) ?_; rotate_left; (simp only [Act.put, List.setIfInBounds_toArray, List.set_cons_zero, List.set_cons_succ] at hK; go_simp; (with_reducible refine (HC.out _).mono ?_); rintro e w2 ⟨rfl, h2⟩; exact hK _ (h2)); simp only [Act.put, List.setIfInBounds_toArray, List.set_cons_zero, List.set_cons_succ])
  (refine At.det ?_ (fun val w1 hR _ K hK => ?_) ?_; rotate_left; (simp only [Act.put, List.setIfInBounds_toArray, List.set_cons_zero, List.set_cons_succ] at hK; go_simp; exact hK _ (Ext.refl _)); simp only [Act.put, List.setIfInBounds_toArray, List.set_cons_zero, List.set_cons_succ])
  (refine At.det ?_ (fun val w1 hR _ K hK => ?_) ?_; rotate_left; (simp only [Act.put, List.setIfInBounds_toArray, List.set_cons_zero, List.set_cons_succ] at hK; go_simp; exact hK _ (Ext.refl _)); simp only [Act.put, List.setIfInBounds_toArray, List.set_cons_zero, List.set_cons_succ])
  refine At.last rfl (fun val w1 hR _ _ => ?_)
  go_wp2
  go_ret
  exact ⟨by rw [HP.out]; simp; omega, hX.trans hR.of_drew⟩
end Go.Proofs.YtghefhmncpmflaaDoor
