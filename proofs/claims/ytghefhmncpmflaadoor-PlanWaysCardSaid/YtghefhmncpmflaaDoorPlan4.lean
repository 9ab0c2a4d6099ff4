/-
  The contract of package plan's Ways: all ways that a state has.
-/
import Derived.Test.YtghefhmncpmflaaDoorPlan3
import Derived.Deep.DeepCutAuto
import Derived.Deep.LoopGhost
import Derived.Test.YtghefhmncpmflaaDoorApp
namespace Go.Proofs.YtghefhmncpmflaaDoor
open Go.RowKit Go.Rg

/-- The ways of a state that is good: kinds, and what they read. -/
def waysL (D E x h k l : Nat) : List (Nat × Nat) :=
  (if h == D then [(0, 0)] else []) ++ ((if !(lessN D h == 0) && (andN (lessN D h) l == 0) then [(1, lessN D h)] else []) ++
    ((if (andN (lessN x k) l == 0) && !(lessN E l == 0) then [(2, orN (lessN x k) (lessN E l))] else []) ++ [(3, lessN (orN D E) l)]))
def plcL (k r : Nat) : List Value := [.int .i64 k, .int .u64 r, .int .u64 0, .int .u64 0, .int .u64 0]
def plansC (L : List (Nat × Nat)) : List Value := L.flatMap fun p => plcL p.1 p.2

theorem info45 : (Tryd.prog.info? 45).map (fun i => (i.zero, i.size, i.bytes)) = some (some (.agg #[.int .i64 0, .int .u64 0, .int .u64 0, .int .u64 0, .int .u64 0]), 5, 40) := by kernel_rfl

theorem ways_bad (d : Int) (x h k l : Nat) (hgood : ∀ w, Calls Tryd.prog 43 #[stv d x h k l] w fun e w' => e = .returned (.bool false) ∧ Ext w w') (w : World) :
    Calls Tryd.prog 11 #[stv d x h k l] w fun e w' => e = .returned (.tuple #[.slice none 0 0, .int .i64 4]) ∧ Ext w w' := by
  have HG := Lib.hid hgood
  clear hgood
  unfold stv at *
  go_enter Tryd.func11, Tryd.ntmps11
  go_upto_region 1 with (fail)
  have F := Lib.hid (fun (w1 : World) (hr : Ext _ w1) => (Blk.new w 30 (stc d x h k l)).ext hr)
  refine Seq.text (k := 3) (R := Ext) (by kernel_rfl) (by decide) (fun _ _ _ => Ext.trans) (fun _ _ h => h.size) Ext.refl (At.start ?_)
  (refine At.row (w.heap.size) 30 (stc d x h k l) _ Ext.refl (fun w1 hR => F.out _ hR) _ _ rfl (fun _ => by first | rfl | kernel_rfl) (fun _ => by first | rfl | kernel_rfl) Tryd.underlying30 rfl (by kernel_rfl) ?_; simp only [Act.put, List.setIfInBounds_toArray, List.set_cons_zero, List.set_cons_succ])
  (refine At.det ?_ (fun val w1 hR _ K hK => ?_) ?_; rotate_left; (simp only [Act.put, List.setIfInBounds_toArray, List.set_cons_zero, List.set_cons_succ] at hK; go_simp; (with_reducible refine (HG.out _).mono ?_); rintro e w2 ⟨rfl, h2⟩; exact hK _ (h2)); simp only [Act.put, List.setIfInBounds_toArray, List.set_cons_zero, List.set_cons_succ])
  (refine At.det ?_ (fun val w1 hR _ K hK => ?_) ?_; rotate_left; (simp only [Act.put, List.setIfInBounds_toArray, List.set_cons_zero, List.set_cons_succ] at hK; go_simp; exact hK _ (Ext.refl _)); simp only [Act.put, List.setIfInBounds_toArray, List.set_cons_zero, List.set_cons_succ])
  refine At.last rfl (fun val w1 hR _ _ => ?_)
  have hx : Ext w w1 := ((Ext.refl w).alloc _).trans hR
  clear F hR
  go_wp2
  go_ret2
  exact ⟨rfl, hx⟩

theorem plansC_len (L : List (Nat × Nat)) : (plansC L).length = L.length * 5 := by
  induction L with
  | nil => rfl
  | cons p L ih => simp only [plansC, List.flatMap_cons, List.length_append] at ih ⊢; rw [ih]; simp [plcL]; omega

theorem plansC_snoc (L : List (Nat × Nat)) (k r : Nat) : plansC (L ++ [(k, r)]) = plansC L ++ [.int .i64 k, .int .u64 r, .int .u64 0, .int .u64 0, .int .u64 0] := by
  simp [plansC, plcL]

set_option maxHeartbeats 4000000 in
theorem ways_good (d D E x h k l : Nat) (hd1 : 2 ≤ d) (hd2 : d ≤ 30) (hD : D = 2 ^ d - 1) (hE : E = 2 ^ d ||| 2 ^ (d + 1)) (hDl : D < 18446744073709551616) (hEl : E < 18446744073709551616)
    (hxl : x < 18446744073709551616) (hl : l < 18446744073709551616) (hgood : ∀ w, Calls Tryd.prog 43 #[stv d x h k l] w fun e w' => e = .returned (.bool true) ∧ Ext w w') (w : World) :
    Calls Tryd.prog 11 #[stv d x h k l] w fun e w' => ∃ v, e = .returned (.tuple #[v, .int .i64 0]) ∧ w'.ownsRow w.heap.size 45 5 v (waysL D E x h k l).length (plansC (waysL D E x h k l)) ∧ Ext w w' := by
  have HG := Lib.hid hgood
  have HD := Lib.hid (data_D d D x h k l (by omega) (by omega) hD)
  have HE := Lib.hid (ends_E d E x h k l (by omega) hE)
  have HO := Lib.hid (or_one D E hDl hEl)
  have hU : orN D E < 18446744073709551616 := Nat.or_lt_two_pow (n := 64) hDl hEl
  have HL := Lib.hid (less_one (orN D E) l hU)
  have HA := Lib.hid (great_any d D x h k l hd1 hd2 hD hDl hl)
  have HB := Lib.hid (small_any d E x h k l hd2 hE hEl hxl hl)
  have HW := Lib.hid (show waysL D E x h k l = (if (h == D) = true then [(0, 0)] else []) ++ ((if (!(lessN D h == 0) && (andN (lessN D h) l == 0)) = true then [(1, lessN D h)] else []) ++
    ((if ((andN (lessN x k) l == 0) && !(lessN E l == 0)) = true then [(2, orN (lessN x k) (lessN E l))] else []) ++ [(3, lessN (orN D E) l)])) from rfl)
  have HQ := Lib.hid (fun w => run_eql_set h 0 0 0 D 0 0 0 w)
  clear hgood hD hE hDl hEl hxl hl hU
  generalize hL : waysL D E x h k l = L at *
  clear hL
  unfold stv mset at *
  have hbe : ((h : Int) == (D : Int)) = (h == D) := by rw [Bool.eq_iff_iff]; simp; omega
  simp only [hbe, beq_self_eq_true, Bool.and_true] at HQ
  clear hbe
  generalize (h == D) = e0 at *
  generalize (!(lessN D h == 0) && (andN (lessN D h) l == 0)) = e1 at *
  generalize ((andN (lessN x k) l == 0) && !(lessN E l == 0)) = e2 at *
  generalize lessN D h = r1 at *
  generalize orN (lessN x k) (lessN E l) = r2 at *
  generalize lessN (orN D E) l = r3 at *
  generalize orN D E = U at *
  obtain ⟨i0, hi, hz0, hz1, hz2⟩ := info_parts info45
  obtain ⟨q0, q1, q2, q3, q4, q5, q6, q7, q8, q9, q10, q11, q12, q13, q14, q15, q16⟩ := stc_get d x h k l
  go_enter Tryd.func11, Tryd.ntmps11
  go_upto_region 1 with (fail)
  have F := Lib.hid (fun (w1 : World) (hr : Ext _ w1) => (Blk.new w 30 (stc d x h k l)).ext hr)
  refine Seq.text (k := 3) (R := Ext) (by kernel_rfl) (by decide) (fun _ _ _ => Ext.trans) (fun _ _ h => h.size) Ext.refl (At.start ?_)
  (refine At.row (w.heap.size) 30 (stc d x h k l) _ Ext.refl (fun w1 hR => F.out _ hR) _ _ rfl (fun _ => by first | rfl | kernel_rfl) (fun _ => by first | rfl | kernel_rfl) Tryd.underlying30 rfl (by kernel_rfl) ?_; simp only [Act.put, List.setIfInBounds_toArray, List.set_cons_zero, List.set_cons_succ])
  (refine At.det ?_ (fun val w1 hR _ K hK => ?_) ?_; rotate_left; (simp only [Act.put, List.setIfInBounds_toArray, List.set_cons_zero, List.set_cons_succ] at hK; go_simp; (with_reducible refine (HG.out _).mono ?_); rintro e w2 ⟨rfl, h2⟩; exact hK _ (h2)); simp only [Act.put, List.setIfInBounds_toArray, List.set_cons_zero, List.set_cons_succ])
  (refine At.det ?_ (fun val w1 hR _ K hK => ?_) ?_; rotate_left; (simp only [Act.put, List.setIfInBounds_toArray, List.set_cons_zero, List.set_cons_succ] at hK; go_simp; exact hK _ (Ext.refl _)); simp only [Act.put, List.setIfInBounds_toArray, List.set_cons_zero, List.set_cons_succ])
  refine At.last rfl (fun val w1 hR _ _ => ?_)
  have hx : Ext w w1 := ((Ext.refl w).alloc _).trans hR
  have B1 := F.out _ hR
  clear F hR
  go_upto_region 4 with (fail)
  have F := Lib.hid (fun (w2 : World) (hr : Ext w1.drew w2) => B1.ext hr.of_drew)
  refine Seq.drawn (k := 5) (R := Ext) (by kernel_rfl) (by decide) (by kernel_rfl) (fun _ _ _ => Ext.trans) (fun _ _ h => h.size) Ext.refl (At.start ?_)
  (refine At.det ?_ (fun val w1 hR _ K hK => ?_) ?_; rotate_left; (simp only [Act.put, List.setIfInBounds_toArray, List.set_cons_zero, List.set_cons_succ] at hK; go_simp; exact hK _ (Ext.refl _)); simp only [Act.put, List.setIfInBounds_toArray, List.set_cons_zero, List.set_cons_succ])
  (refine At.det ?_ (fun val w1 hR _ K hK => ?_) ?_; rotate_left; (have g1 := (F.out _ hR).cells; simp only [Act.put, List.setIfInBounds_toArray, List.set_cons_zero, List.set_cons_succ] at hK; go_simp; exact hK _ (Ext.refl _)); simp only [Act.put, List.setIfInBounds_toArray, List.set_cons_zero, List.set_cons_succ])
  (refine At.row (w.heap.size) 30 (stc d x h k l) _ Ext.refl (fun w1 hR => F.out _ hR) _ _ rfl (fun _ => by first | rfl | kernel_rfl) (fun _ => by first | rfl | kernel_rfl) Tryd.underlying30 rfl (by kernel_rfl) ?_; simp only [Act.put, List.setIfInBounds_toArray, List.set_cons_zero, List.set_cons_succ])
  (refine At.det ?_ (fun val w1 hR _ K hK => ?_) ?_; rotate_left; (simp only [Act.put, List.setIfInBounds_toArray, List.set_cons_zero, List.set_cons_succ] at hK; go_simp; (with_reducible refine (HD.out _).mono ?_); rintro e w2 ⟨rfl, h2⟩; exact hK _ (h2)); simp only [Act.put, List.setIfInBounds_toArray, List.set_cons_zero, List.set_cons_succ])
  (refine At.det ?_ (fun val w1 hR _ K hK => ?_) ?_; rotate_left; (have hq := HQ.out; simp only [Act.put, List.setIfInBounds_toArray, List.set_cons_zero, List.set_cons_succ] at hK; go_simp; exact hK _ (Ext.refl _)); simp only [Act.put, List.setIfInBounds_toArray, List.set_cons_zero, List.set_cons_succ])
  refine At.last rfl (fun val w2 hR _ _ => ?_)
  replace hx := hx.trans hR.of_drew
  replace B1 := B1.ext hR.of_drew
  clear F hR
  go_upto_if 16 with (fail)
  go_cut [4] (fun v wx => wx.ownsRow (w.heap.size + 1) 45 5 v (if e0 = true then [(0, 0)] else [] : List (Nat × Nat)).length (plansC (if e0 = true then [(0, 0)] else [])) ∧ Ext w wx ∧ Blk wx w.heap.size 30 (stc d x h k l))
  case first =>
    cases e0
    case false =>
      go_wp2_with fail
      go_meet
      exact ⟨World.ownsRow_nil _ _ _ _, hx, B1⟩
    case true =>
      go_wp2_with (at_builtin; refine wpList_app1 36 (w.heap.size + 1) 45 i0 _ 5 40 Tryd.underlying36 hi hz0 hz1 hz2 rfl (by decide) (by decide) rfl _ _ rfl (.slice none 0 0) 0 [] rfl (World.ownsRow_nil _ _ 45 5) (by simp) (by have := B1.lt; simp; omega) _ 45 _ rfl (Blk.new' (by simp) 45 _) rfl rfl ?_; intro v' w' hown hg)
      go_meet
      exact ⟨hown, ext_grown (hx.alloc _) (World.ownsRow_nil _ (w.heap.size + 1) 45 5) hg (by omega), blk_grown (B := w.heap.size + 1) (B1.alloc _) (World.ownsRow_nil _ _ 45 5) hg (by omega)⟩
  case rest =>
    obtain ⟨hown, hx, B1⟩ := hcut
    clear HQ
    have HN : Hid ((if e0 = true then [(0, 0)] else [] : List (Nat × Nat)).length ≤ 1) := Lib.hid (by cases e0 <;> decide)
    generalize (if e0 = true then [(0, 0)] else [] : List (Nat × Nat)) = L0 at *
    go_upto_region 6 with (fail)
    have F := Lib.hid (fun (w2 : World) (hr : Ext wc w2) => B1.ext hr)
    refine Seq.text (k := 6) (R := Ext) (by kernel_rfl) (by decide) (fun _ _ _ => Ext.trans) (fun _ _ h => h.size) Ext.refl (At.start ?_)
    (refine At.row (w.heap.size) 30 (stc d x h k l) _ Ext.refl (fun w1 hR => F.out _ hR) _ _ rfl (fun _ => by first | rfl | kernel_rfl) (fun _ => by first | rfl | kernel_rfl) Tryd.underlying30 rfl (by kernel_rfl) ?_; simp only [Act.put, List.setIfInBounds_toArray, List.set_cons_zero, List.set_cons_succ])
    (refine At.det ?_ (fun val w1 hR _ K hK => ?_) ?_; rotate_left; (simp only [Act.put, List.setIfInBounds_toArray, List.set_cons_zero, List.set_cons_succ] at hK; go_simp; exact hK _ (Ext.refl _)); simp only [Act.put, List.setIfInBounds_toArray, List.set_cons_zero, List.set_cons_succ])
    (refine At.row (w.heap.size) 30 (stc d x h k l) _ Ext.refl (fun w1 hR => F.out _ hR) _ _ rfl (fun _ => by first | rfl | kernel_rfl) (fun _ => by first | rfl | kernel_rfl) Tryd.underlying30 rfl (by kernel_rfl) ?_; simp only [Act.put, List.setIfInBounds_toArray, List.set_cons_zero, List.set_cons_succ])
    (refine At.det ?_ (fun val w1 hR _ K hK => ?_) ?_; rotate_left; (simp only [Act.put, List.setIfInBounds_toArray, List.set_cons_zero, List.set_cons_succ] at hK; go_simp; exact hK _ (Ext.refl _)); simp only [Act.put, List.setIfInBounds_toArray, List.set_cons_zero, List.set_cons_succ])
    (refine At.det ?_ (fun val w1 hR _ K hK => ?_) ?_; rotate_left; (simp only [Act.put, List.setIfInBounds_toArray, List.set_cons_zero, List.set_cons_succ] at hK; go_simp; exact hK _ (Ext.refl _)); simp only [Act.put, List.setIfInBounds_toArray, List.set_cons_zero, List.set_cons_succ])
    (refine At.det ?_ (fun val w1 hR _ K hK => ?_) ?_; rotate_left; (simp only [Act.put, List.setIfInBounds_toArray, List.set_cons_zero, List.set_cons_succ] at hK; go_simp; exact hK _ (Ext.refl _)); simp only [Act.put, List.setIfInBounds_toArray, List.set_cons_zero, List.set_cons_succ])
    refine At.last rfl (fun val w1 hR _ _ => ?_)
    replace hx := hx.trans hR
    replace B1 := B1.ext hR
    replace hown := ownsRow_ext hown hR
    clear F hR
    go_wp2_with fail
    have ix0 : ∀ w, (Instr.index 94 (.agg #[.func (.func 45) #[.agg (stc d x h k l)] #[], .func (.func 46) #[.agg (stc d x h k l)] #[]]) (.int .i64 0)).run Tryd.prog w = .ok (.func (.func 45) #[.agg (stc d x h k l)] #[]) w := fun _ => by kernel_rfl
    have ix1 : ∀ w, (Instr.index 94 (.agg #[.func (.func 45) #[.agg (stc d x h k l)] #[], .func (.func 46) #[.agg (stc d x h k l)] #[]]) (.int .i64 1)).run Tryd.prog w = .ok (.func (.func 46) #[.agg (stc d x h k l)] #[]) w := fun _ => by kernel_rfl
    have HG1 : Hid ((if e1 = true then [(1, r1)] else [] : List (Nat × Nat)).length ≤ 1) := Lib.hid (by cases e1 <;> simp)
    have HG2 : Hid ((if e2 = true then [(2, r2)] else [] : List (Nat × Nat)).length ≤ 1) := Lib.hid (by cases e2 <;> simp)
    go_loopw [4, 26] (fun v i wr => ∃ (j : Nat) (Lj : List (Nat × Nat)), j ≤ 2 ∧ i = .int .i64 j ∧ Lj.length ≤ 1 + j ∧ wr.ownsRow (w.heap.size + 1) 45 5 v Lj.length (plansC Lj) ∧ Ext w wr ∧ Blk wr w.heap.size 30 (stc d x h k l) ∧
        Lj = L0 ++ ((if 1 ≤ j then (if e1 = true then [(1, r1)] else []) else []) ++ (if 2 ≤ j then (if e2 = true then [(2, r2)] else []) else [])))
      (fun _ i _ => 2 - (intOf i).toNat)
    case atStart => exact ⟨0, L0, by omega, rfl, HN.out, hown, hx, B1, by simp⟩
    case round =>
      obtain ⟨j, Lj, hj, rfl, hlen, hown, hx, B1, hLj⟩ := hrel
      have HJ := Lib.hid hLj
      clear hLj
      have h4 : j = 0 ∨ j = 1 ∨ j = 2 := by omega
      rcases h4 with rfl | rfl | rfl
      · go_wp2_with fail
        refine (HA.out _).mono ?_
        rintro e w2 ⟨rfl, h2⟩
        replace hx := hx.trans h2
        replace B1 := B1.ext h2
        replace hown := ownsRow_ext hown h2
        unfold plc
        clear h2 ix0 ix1
        cases e1
        case false =>
          go_wp2_with fail
          refine ⟨⟨1, Lj, by omega, rfl, by omega, hown.alloc _, hx.alloc _, B1.alloc _, ?_⟩, by simp [intOf]⟩
          rw [HJ.out]; simp
        case true =>
          go_wp2_with (at_builtin; refine wpList_app1 36 (w.heap.size + 1) 45 i0 _ 5 40 Tryd.underlying36 hi hz0 hz1 hz2 rfl (by decide) (by decide) rfl _ _ rfl _ Lj.length (plansC Lj) rfl (hown.alloc _ |>.alloc _) (by omega) (by have := B1.lt; simp; omega) _ 45 _ rfl (Blk.new' (by simp) 45 _) rfl rfl ?_; intro v' w' hown2 hg)
          refine ⟨⟨1, Lj ++ [(1, r1)], by omega, rfl, by simp; omega, ?_, ext_grown ((hx.alloc _).alloc _) (hown.alloc _ |>.alloc _) hg (by omega), blk_grown ((B1.alloc _).alloc _) (hown.alloc _ |>.alloc _) hg (by omega), ?_⟩, by simp [intOf]⟩
          · rw [plansC_snoc, List.length_append]; exact hown2
          · rw [HJ.out]; simp
      · go_wp2_with fail
        refine (HB.out _).mono ?_
        rintro e w2 ⟨rfl, h2⟩
        replace hx := hx.trans h2
        replace B1 := B1.ext h2
        replace hown := ownsRow_ext hown h2
        unfold plc
        clear h2 ix0 ix1
        cases e2
        case false =>
          go_wp2_with fail
          refine ⟨⟨2, Lj, by omega, rfl, by omega, hown.alloc _, hx.alloc _, B1.alloc _, ?_⟩, by simp [intOf]⟩
          rw [HJ.out]; simp
        case true =>
          go_wp2_with (at_builtin; refine wpList_app1 36 (w.heap.size + 1) 45 i0 _ 5 40 Tryd.underlying36 hi hz0 hz1 hz2 rfl (by decide) (by decide) rfl _ _ rfl _ Lj.length (plansC Lj) rfl (hown.alloc _ |>.alloc _) (by omega) (by have := B1.lt; simp; omega) _ 45 _ rfl (Blk.new' (by simp) 45 _) rfl rfl ?_; intro v' w' hown2 hg)
          refine ⟨⟨2, Lj ++ [(2, r2)], by omega, rfl, by simp; omega, ?_, ext_grown ((hx.alloc _).alloc _) (hown.alloc _ |>.alloc _) hg (by omega), blk_grown ((B1.alloc _).alloc _) (hown.alloc _ |>.alloc _) hg (by omega), ?_⟩, by simp [intOf]⟩
          · rw [plansC_snoc, List.length_append]; exact hown2
          · rw [HJ.out]; simp
      · go_upto_region 13 with (fail)
        have F := Lib.hid (fun (w2 : World) (hr : Ext wr.drew w2) => B1.ext hr.of_drew)
        refine Seq.drawn (k := 11) (R := Ext) (by kernel_rfl) (by decide) (by kernel_rfl) (fun _ _ _ => Ext.trans) (fun _ _ h => h.size) Ext.refl (At.start ?_)
        (refine At.det ?_ (fun val w1 hR _ K hK => ?_) ?_; rotate_left; (simp only [Act.put, List.setIfInBounds_toArray, List.set_cons_zero, List.set_cons_succ] at hK; go_simp; exact hK _ (Ext.refl _)); simp only [Act.put, List.setIfInBounds_toArray, List.set_cons_zero, List.set_cons_succ])
        (refine At.row (w.heap.size) 30 (stc d x h k l) _ Ext.refl (fun w1 hR => F.out _ hR) _ _ rfl (fun _ => by first | rfl | kernel_rfl) (fun _ => by first | rfl | kernel_rfl) Tryd.underlying30 rfl (by kernel_rfl) ?_; simp only [Act.put, List.setIfInBounds_toArray, List.set_cons_zero, List.set_cons_succ])
        (refine At.det ?_ (fun val w1 hR _ K hK => ?_) ?_; rotate_left; (simp only [Act.put, List.setIfInBounds_toArray, List.set_cons_zero, List.set_cons_succ] at hK; go_simp; (with_reducible refine (HD.out _).mono ?_); rintro e w2 ⟨rfl, h2⟩; exact hK _ (h2)); simp only [Act.put, List.setIfInBounds_toArray, List.set_cons_zero, List.set_cons_succ])
        (refine At.row (w.heap.size) 30 (stc d x h k l) _ Ext.refl (fun w1 hR => F.out _ hR) _ _ rfl (fun _ => by first | rfl | kernel_rfl) (fun _ => by first | rfl | kernel_rfl) Tryd.underlying30 rfl (by kernel_rfl) ?_; simp only [Act.put, List.setIfInBounds_toArray, List.set_cons_zero, List.set_cons_succ])
        (refine At.det ?_ (fun val w1 hR _ K hK => ?_) ?_; rotate_left; (simp only [Act.put, List.setIfInBounds_toArray, List.set_cons_zero, List.set_cons_succ] at hK; go_simp; (with_reducible refine (HE.out _).mono ?_); rintro e w2 ⟨rfl, h2⟩; exact hK _ (h2)); simp only [Act.put, List.setIfInBounds_toArray, List.set_cons_zero, List.set_cons_succ])
        (refine At.det ?_ (fun val w1 hR _ K hK => ?_) ?_; rotate_left; (simp only [Act.put, List.setIfInBounds_toArray, List.set_cons_zero, List.set_cons_succ] at hK; go_simp; (with_reducible refine (HO.out _).mono ?_); rintro e w2 ⟨rfl, h2⟩; exact hK _ (h2)); simp only [Act.put, List.setIfInBounds_toArray, List.set_cons_zero, List.set_cons_succ])
        (refine At.det ?_ (fun val w1 hR _ K hK => ?_) ?_; rotate_left; (simp only [Act.put, List.setIfInBounds_toArray, List.set_cons_zero, List.set_cons_succ] at hK; go_simp; exact hK _ (Ext.refl _)); simp only [Act.put, List.setIfInBounds_toArray, List.set_cons_zero, List.set_cons_succ])
        (refine At.det ?_ (fun val w1 hR _ K hK => ?_) ?_; rotate_left; (have g1 := (F.out _ hR).cells; simp only [Act.put, List.setIfInBounds_toArray, List.set_cons_zero, List.set_cons_succ] at hK; go_simp; exact hK _ (Ext.refl _)); simp only [Act.put, List.setIfInBounds_toArray, List.set_cons_zero, List.set_cons_succ])
        (refine At.det ?_ (fun val w1 hR _ K hK => ?_) ?_; rotate_left; (simp only [Act.put, List.setIfInBounds_toArray, List.set_cons_zero, List.set_cons_succ] at hK; go_simp; (with_reducible refine (HL.out _).mono ?_); rintro e w2 ⟨rfl, h2⟩; exact hK _ (h2)); simp only [Act.put, List.setIfInBounds_toArray, List.set_cons_zero, List.set_cons_succ])
        (refine At.det ?_ (fun val w1 hR _ K hK => ?_) ?_; rotate_left; (simp only [Act.put, List.setIfInBounds_toArray, List.set_cons_zero, List.set_cons_succ] at hK; go_simp; exact hK _ (Ext.refl _)); simp only [Act.put, List.setIfInBounds_toArray, List.set_cons_zero, List.set_cons_succ])
        (refine At.new (NewSl (w.heap.size + 1) 45 1 #[.int .i64 3, .int .u64 r3, .int .u64 0, .int .u64 0, .int .u64 0]) NewSl.ext (fun val w1 hR hF K hK => ?_) ?_; (simp only [Act.put, List.setIfInBounds_toArray, List.set_cons_zero, List.set_cons_succ] at hK; go_simp; exact hK _ _ ((Ext.refl _).alloc _) ⟨_, rfl, Nat.le_refl _, by simp⟩ ⟨_, rfl, Nat.le_trans B1.lt hR.size, Blk.new _ _ _⟩); simp only [Act.put, List.setIfInBounds_toArray, List.set_cons_zero, List.set_cons_succ])
        refine At.last rfl (fun val w2 hR hF hN => ?_)
        simp only [Nat.reduceAdd] at hF hN ⊢
        obtain ⟨_, n1⟩ := hF
        obtain ⟨b, hv, hb, B3⟩ := n1 (by simp)
        rw [hv]
        replace hx := hx.trans hR.of_drew
        replace B1 := B1.ext hR.of_drew
        replace hown := ownsRow_ext hown hR.of_drew
        have hfin : Hid (L = Lj ++ [(3, r3)]) := by
          show L = Lj ++ [(3, r3)]
          have h1 := HW.out
          have h2 := HJ.out
          rw [h1, h2]; simp
        clear F hR hN n1 ix0 ix1 hv HW HJ
        go_wp2_with (at_builtin; refine wpList_app1 36 (w.heap.size + 1) 45 i0 _ 5 40 Tryd.underlying36 hi hz0 hz1 hz2 rfl (by decide) (by decide) rfl _ _ rfl _ Lj.length (plansC Lj) rfl hown (by omega) (by have := B1.lt; omega) b 45 [.int .i64 3, .int .u64 r3, .int .u64 0, .int .u64 0, .int .u64 0] rfl B3 rfl rfl ?_; intro v' w' hown2 hg)
        go_ret2
        refine ⟨v', rfl, ?_, ext_grown hx hown hg (by omega)⟩
        rw [hfin.out, plansC_snoc, List.length_append]
        exact ownsRow_base hown2 (by omega)
end Go.Proofs.YtghefhmncpmflaaDoor
