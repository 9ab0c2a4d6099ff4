/-
  The contract of the document's Way.
-/
import Derived.Test.YtghefhmncpmflaaDoorRef5
namespace Go.Proofs.YtghefhmncpmflaaDoor
open Go.RowKit Go.Rg

theorem upR_zero (kind D : Nat) (A B C E : Nat → Bool) : upR kind D A B C E 0 = fun _ => false := by funext i; simp [upR]
theorem upR_self (kind D : Nat) (A B C E : Nat → Bool) (j : Nat) : upR kind D A B C E j j = false := by simp [upR]

set_option maxRecDepth 100000 in
set_option maxHeartbeats 4000000 in
theorem way0 (D : Nat) (hD1 : 2 ≤ D) (hD2 : D ≤ 30) (A B C E : Nat → Bool) (odd : Bool) (w : World) :
    Calls Tryd.prog 51 #[.agg (rsF D A B C E odd), .int .i64 0] w fun e w' => e = .returned (.tuple #[.agg (wayR 0 D A B C E).1, .bool (wayR 0 D A B C E).2]) ∧ Ext w w' := by
  have HG := Lib.hid (rsF_get D A B C E odd)
  have HW1 := Lib.hid (show wayOk 0 D A B C E = true → wayR 0 D A B C E = (rpl 0 (upR 0 D A B C E (D + 2)), true) from fun h => by unfold wayR; rw [if_pos h]; rfl)
  have HW2 := Lib.hid (show wayOk 0 D A B C E = false → wayR 0 D A B C E = (rpl 0 (fun _ => false), false) from fun h => by unfold wayR; rw [if_neg (by rw [h]; decide)])
  have HOff := Lib.hid (wayOk_off 0 D A B C E)
  have HOk := Lib.hid (show wayOk 0 D A B C E = ((List.range (D + 2)).all (mayR 0 D A B C E) && (!(decide (0 = 1) && decide (cntF (readR 0 D A B C E) (D + 2) = 0)) && !(decide (0 = 2) && (E D && E (D + 1))))) from rfl)
  generalize wayR 0 D A B C E = W at *
  generalize wayOk 0 D A B C E = ok at *
  generalize rsF D A B C E odd = cs at *
  have HO := Lib.hid (And.intro (rpl_one 0 (fun _ => false)) (rpl_size 0 (fun _ => false)))
  have bu := build49 0
  have al := alloc49
  go_enter Tryd.func51, Tryd.ntmps51
  go_upto_region 1 with (fail)
  refine wp_forget (fun w2 => Ext w w2 ∧ Blk w2 w.heap.size 33 cs ∧ Blk w2 (w.heap.size + 1) 49 (rpl 0 fun _ => false) ∧ w2.heap.size = w.heap.size + 2) ⟨((Ext.refl w).alloc _).alloc _, (Blk.new w 33 cs).alloc _, Blk.new' (by simp) 49 _, by simp⟩ ?_
  rintro w2 ⟨hx, B1, B2, hsz⟩
  have F := Lib.hid (fun (wx : World) (hr : Ext w2 wx) => And.intro (B1.ext hr) (B2.ext hr))
  refine Seq.text (k := 3) (R := Ext) (by kernel_rfl) (by decide) (fun _ _ _ => Ext.trans) (fun _ _ h => h.size) Ext.refl (At.start ?_)
  (refine At.det ?_ (fun val w1 hR _ K hK => ?_) ?_; rotate_left; (simp only [Act.put, List.setIfInBounds_toArray, List.set_cons_zero, List.set_cons_succ] at hK; go_simp; exact hK _ (Ext.refl _)); simp only [Act.put, List.setIfInBounds_toArray, List.set_cons_zero, List.set_cons_succ])
  (refine At.det ?_ (fun val w1 hR _ K hK => ?_) ?_; rotate_left; (simp only [Act.put, List.setIfInBounds_toArray, List.set_cons_zero, List.set_cons_succ] at hK; go_simp; exact hK _ (Ext.refl _)); simp only [Act.put, List.setIfInBounds_toArray, List.set_cons_zero, List.set_cons_succ])
  (refine At.new (New (w2.heap.size) 49 (rpl 0 fun _ => false)) New.ext (fun val w1 hR hF K hK => ?_) ?_; (simp only [Act.put, List.setIfInBounds_toArray, List.set_cons_zero, List.set_cons_succ] at hK; go_simp; exact hK _ _ ((Ext.refl _).alloc _) ⟨_, rfl, Nat.le_refl _, by simp⟩ ⟨_, rfl, Nat.le_trans (by simp) hR.size, Blk.new _ _ _⟩); simp only [Act.put, List.setIfInBounds_toArray, List.set_cons_zero, List.set_cons_succ])
  refine At.last rfl (fun val w1 hR hF hN => ?_)
  simp only [Nat.reduceAdd] at hF ⊢
  obtain ⟨_, n1⟩ := hF
  obtain ⟨b, hv, hb, B3⟩ := n1 (by simp)
  rw [hv]
  have hx1 := hx.trans hR
  have C1 := (F.out _ hR).1
  have C2 := (F.out _ hR).2
  have hbb : w.heap.size + 2 ≤ b := by rw [← hsz]; exact hb
  clear F hR n1 hv hN hsz hb bu al
  with_reducible refine wpList_store_mid rfl 49 _ _ rfl b 0 (rpl 0 fun _ => false) ?_ ?_ (B3.there ?_) ?_ ?_ ?_
  · kernel_rfl
  · kernel_rfl
  · simp only [rpl_size]; exact Nat.le_refl _
  · rw [rpl_size]; kernel_rfl
  · exact rpl_one _ _
  simp only [Act.put]
  go_upto_region 2 with (fail)
  refine wp_forget (fun wx => Ext w wx ∧ Blk wx w.heap.size 33 cs ∧ Blk wx (w.heap.size + 1) 49 (rpl 0 fun _ => false) ∧ Blk wx b 49 (rpl 0 (upR 0 D A B C E 0)))
    ⟨hx1.setCells (by omega) _ _, C1.farAll (by omega) _ _, C2.farAll (by omega) _ _, (by rw [upR_zero]; exact B3.setAll (by simp only [rpl_size]))⟩ ?_
  clear hx1 C1 C2 B1 B2 B3 hx w1 w2 val
  rintro w2 ⟨hx, B1, B2, B3⟩
  have c0 := HG.out.1
  go_upto_region 3 with (fail)
  go_wp2_with fail
  go_loopw [7, 8] (fun n i wr => ∃ j : Nat, j ≤ D + 2 ∧ i = .int .i64 j ∧ n = .int .i64 (cntF (readR 0 D A B C E) j) ∧ (∀ i, i < j → mayR 0 D A B C E i = true) ∧ Ext w wr ∧ Blk wr w.heap.size 33 cs ∧ Blk wr (w.heap.size + 1) 49 (rpl 0 fun _ => false) ∧ Blk wr b 49 (rpl 0 (upR 0 D A B C E j)))
    (fun _ i _ => (D + 2) - (intOf i).toNat)
  case atStart => exact ⟨0, by omega, rfl, rfl, fun i hi => absurd hi (Nat.not_lt_zero _), hx, B1, B2, B3⟩
  case round =>
    clear hx B1 B2 B3
    obtain ⟨j, hj, rfl, rfl, hok, hx, B1, B2, B3⟩ := hrel
    have HM := Lib.hid hok
    clear hok
    have HR := Lib.hid (show readR 0 D A B C E j = false from by simp [readR])
    have HMj := Lib.hid (show mayR 0 D A B C E j = (decide (D ≤ j) || B j) from by simp [mayR])
    by_cases hlt : j < D + 2
    · have i0 : (0 : Int) ≤ (j : Int) := by omega
      have i1 : (j : Int) < (D : Int) + 2 := by omega
      have i4 : (j : Int) < 32 := by omega
      obtain ⟨r1, r2, r3, r4⟩ := HG.out.2.2 j (by omega)
      have m0 := B1.cells 0
      have m1 := B1.cells (1 + j)
      have m2 := B1.cells (33 + j)
      have m3 := B1.cells (65 + j)
      have m4 := B1.cells (97 + j)
      rw [c0] at m0
      rw [r1] at m1
      rw [r2] at m2
      rw [r3] at m3
      rw [r4] at m4
      clear r1 r2 r3 r4
      have p1 := B3.cells (1 + j)
      rw [rpl_get _ _ (show j < 32 by omega), upR_self] at p1
      have p2 := B3.free (1 + j)
      have l1 := cntF_le (readR 0 D A B C E) j
      have HS := Lib.hid (show cntF (readR 0 D A B C E) (j + 1) = cntF (readR 0 D A B C E) j + (if readR 0 D A B C E j then 1 else 0) from rfl)
      have th0 : wr.there (w.heap.size + 1) 0 (rpl 0 fun _ => false).size := B2.there (Nat.le_refl _)
      have th1 : ∀ v : Bool, (wr.setCell ⟨b, 1 + j, none⟩ (.bool v)).there (w.heap.size + 1) 0 (rpl 0 fun _ => false).size := fun v => (B2.far (by simp; omega) _).there (Nat.le_refl _)
      have HB := Lib.hid (show (∀ v : Bool, Blk (wr.setCell ⟨b, 1 + j, none⟩ (.bool v)) w.heap.size 33 cs ∧ Blk (wr.setCell ⟨b, 1 + j, none⟩ (.bool v)) (w.heap.size + 1) 49 (rpl 0 fun _ => false) ∧ Ext w (wr.setCell ⟨b, 1 + j, none⟩ (.bool v))) from fun v => ⟨B1.far (by simp; omega) _, B2.far (by simp; omega) _, hx.setCell (by simp; omega) _⟩)
      have HB3 := Lib.hid (show Blk (wr.setCell ⟨b, 1 + j, none⟩ (.bool (readR 0 D A B C E j))) b 49 (rpl 0 (upR 0 D A B C E (j + 1))) from by rw [← upR_succ, ← rpl_set _ _ (show j < 32 by omega)]; exact B3.set _ _)
      have HN := Lib.hid (show readR 0 D A B C E j = false → rpl 0 (upR 0 D A B C E (j + 1)) = rpl 0 (upR 0 D A B C E j) from fun h => by
        rw [← upR_succ, h]; unfold rpl; congr 1; exact b32_congr (fun i hi => by
          by_cases e : i = j
          · rw [if_pos e, e, upR_self]
          · rw [if_neg e]))
      have HX := Lib.hid (And.intro B1 (And.intro B2 (And.intro B3 hx)))
      clear B1 B2 B3 hx
      generalize cntF (readR 0 D A B C E) j = cn at *
      generalize hRj : readR 0 D A B C E j = rj at *
      have HRj := Lib.hid hRj
      clear hRj
      generalize A j = aj at *
      generalize B j = bj at *
      generalize C j = cj at *
      generalize E j = ej at *
      by_cases q1 : D ≤ j
      all_goals
        first
          | (have q2 : decide ((D : Int) ≤ j) = true := by simpa using q1)
          | (have q2 : decide ((D : Int) ≤ j) = false := by simpa using q1)
        first
          | (have q3 : decide (D ≤ j) = true := by simpa using q1)
          | (have q3 : decide (D ≤ j) = false := by simpa using q1)
        try rw [q3] at HR
        try rw [q3] at HMj
        cases bj
        all_goals
          (obtain rfl := HR.out)
          go_wp2_with ((with_reducible refine wpList_store_mid rfl 49 _ _ rfl (w.heap.size + 1) 0 (rpl 0 fun _ => false) ?_ ?_ th0 ?_ HO.out.1 ?_); (kernel_rfl); (kernel_rfl); (rw [HO.out.2]; kernel_rfl))
        all_goals
          first
            | (refine ⟨⟨j + 1, by omega, by go_num, by rw [HS.out]; first | rfl | simp | go_num, fun i hi => ?_, HX.out.2.2.2, HX.out.1, HX.out.2.1, by rw [HN.out rfl]; exact HX.out.2.2.1⟩, by simp [intOf]; omega⟩
               by_cases e : i = j
               · subst e; rw [HMj.out]; rfl
               · exact HM.out i (by omega))
            | (have hok : ok = false := HOff.out j hlt (by rw [HMj.out]; rfl)
               exact ret_blk2 rfl (w.heap.size + 1) 49 (rpl 0 fun _ => false) _ rfl (HX.out.2.1.setAll rfl) Tryd.underlying49 rfl (by rw [HO.out.2]; kernel_rfl) rfl ⟨by rw [HW2.out hok]; rfl, HX.out.2.2.2.setCells (by omega) _ _⟩)
    · have hj2 : j = D + 2 := by omega
      subst hj2
      have i1 : decide (((D + 2 : Nat) : Int) < (D : Int) + 2) = false := by simp
      have m0 := B1.cells 0
      rw [c0] at m0
      have hall : (List.range (D + 2)).all (mayR 0 D A B C E) = true := by
        rw [List.all_eq_true]
        intro i hi
        exact HM.out i (List.mem_range.1 hi)
      rw [hall] at HOk
      clear hall HM HR HMj
      have th0 : wr.there (w.heap.size + 1) 0 (rpl 0 fun _ => false).size := B2.there (Nat.le_refl _)
      have HB := Lib.hid (show Blk (wr.setCells (w.heap.size + 1) 0 (rpl 0 fun _ => false).toList) (w.heap.size + 1) 49 (rpl 0 fun _ => false) ∧ Ext w (wr.setCells (w.heap.size + 1) 0 (rpl 0 fun _ => false).toList) from ⟨B2.setAll rfl, hx.setCells (by omega) _ _⟩)
      have HP := Lib.hid (And.intro (rpl_one 0 (upR 0 D A B C E (D + 2))) (rpl_size 0 (upR 0 D A B C E (D + 2))))
      have hcn := cntF_le (readR 0 D A B C E) (D + 2)
      generalize cntF (readR 0 D A B C E) (D + 2) = cn at *
      generalize hps : rpl 0 (upR 0 D A B C E (D + 2)) = ps at *
      have th1 : wr.there (w.heap.size + 1) 0 ps.size := by rw [HP.out.2]; exact B2.there (by rw [HO.out.2]; exact Nat.le_refl _)
      have HB1 := Lib.hid (show Blk (wr.setCells (w.heap.size + 1) 0 ps.toList) (w.heap.size + 1) 49 ps ∧ Ext w (wr.setCells (w.heap.size + 1) 0 ps.toList) from ⟨B2.setAll (by rw [HP.out.2, HO.out.2]), hx.setCells (by omega) _ _⟩)
      have B3h : wr.heap[b]? = some (.cells ps 49 (0, 0)) := B3
      have HPS := Lib.hid hps
      clear hps
      have hok : ok = true := by rw [HOk.out]; simp
      go_wp2_with (first | ((with_reducible refine wpList_load_row rfl 49 _ rfl b ?_ 49 ps (0, 0) _ B3h Tryd.underlying49 ?_ ?_ ?_); (exact rfl); (exact rfl); (rw [HP.out.2]; kernel_rfl)) | ((with_reducible refine wpList_store_mid rfl 49 _ _ rfl (w.heap.size + 1) 0 ps ?_ ?_ th1 ?_ HP.out.1 ?_); (exact rfl); (exact rfl); (rw [HP.out.2]; kernel_rfl)))
      exact ret_blk2 rfl (w.heap.size + 1) 49 ps _ rfl HB1.out.1 Tryd.underlying49 rfl (by rw [HP.out.2]; kernel_rfl) rfl ⟨by rw [HW1.out hok]; rfl, HB1.out.2⟩
set_option maxRecDepth 100000 in
set_option maxHeartbeats 4000000 in
theorem way1 (D : Nat) (hD1 : 2 ≤ D) (hD2 : D ≤ 30) (A B C E : Nat → Bool) (odd : Bool) (w : World) :
    Calls Tryd.prog 51 #[.agg (rsF D A B C E odd), .int .i64 1] w fun e w' => e = .returned (.tuple #[.agg (wayR 1 D A B C E).1, .bool (wayR 1 D A B C E).2]) ∧ Ext w w' := by
  have HG := Lib.hid (rsF_get D A B C E odd)
  have HW1 := Lib.hid (show wayOk 1 D A B C E = true → wayR 1 D A B C E = (rpl 1 (upR 1 D A B C E (D + 2)), true) from fun h => by unfold wayR; rw [if_pos h]; rfl)
  have HW2 := Lib.hid (show wayOk 1 D A B C E = false → wayR 1 D A B C E = (rpl 0 (fun _ => false), false) from fun h => by unfold wayR; rw [if_neg (by rw [h]; decide)])
  have HOff := Lib.hid (wayOk_off 1 D A B C E)
  have HOk := Lib.hid (show wayOk 1 D A B C E = ((List.range (D + 2)).all (mayR 1 D A B C E) && (!(decide (1 = 1) && decide (cntF (readR 1 D A B C E) (D + 2) = 0)) && !(decide (1 = 2) && (E D && E (D + 1))))) from rfl)
  generalize wayR 1 D A B C E = W at *
  generalize wayOk 1 D A B C E = ok at *
  generalize rsF D A B C E odd = cs at *
  have HO := Lib.hid (And.intro (rpl_one 0 (fun _ => false)) (rpl_size 0 (fun _ => false)))
  have bu := build49 1
  have al := alloc49
  go_enter Tryd.func51, Tryd.ntmps51
  go_upto_region 1 with (fail)
  refine wp_forget (fun w2 => Ext w w2 ∧ Blk w2 w.heap.size 33 cs ∧ Blk w2 (w.heap.size + 1) 49 (rpl 0 fun _ => false) ∧ w2.heap.size = w.heap.size + 2) ⟨((Ext.refl w).alloc _).alloc _, (Blk.new w 33 cs).alloc _, Blk.new' (by simp) 49 _, by simp⟩ ?_
  rintro w2 ⟨hx, B1, B2, hsz⟩
  have F := Lib.hid (fun (wx : World) (hr : Ext w2 wx) => And.intro (B1.ext hr) (B2.ext hr))
  refine Seq.text (k := 3) (R := Ext) (by kernel_rfl) (by decide) (fun _ _ _ => Ext.trans) (fun _ _ h => h.size) Ext.refl (At.start ?_)
  (refine At.det ?_ (fun val w1 hR _ K hK => ?_) ?_; rotate_left; (simp only [Act.put, List.setIfInBounds_toArray, List.set_cons_zero, List.set_cons_succ] at hK; go_simp; exact hK _ (Ext.refl _)); simp only [Act.put, List.setIfInBounds_toArray, List.set_cons_zero, List.set_cons_succ])
  (refine At.det ?_ (fun val w1 hR _ K hK => ?_) ?_; rotate_left; (simp only [Act.put, List.setIfInBounds_toArray, List.set_cons_zero, List.set_cons_succ] at hK; go_simp; exact hK _ (Ext.refl _)); simp only [Act.put, List.setIfInBounds_toArray, List.set_cons_zero, List.set_cons_succ])
  (refine At.new (New (w2.heap.size) 49 (rpl 0 fun _ => false)) New.ext (fun val w1 hR hF K hK => ?_) ?_; (simp only [Act.put, List.setIfInBounds_toArray, List.set_cons_zero, List.set_cons_succ] at hK; go_simp; exact hK _ _ ((Ext.refl _).alloc _) ⟨_, rfl, Nat.le_refl _, by simp⟩ ⟨_, rfl, Nat.le_trans (by simp) hR.size, Blk.new _ _ _⟩); simp only [Act.put, List.setIfInBounds_toArray, List.set_cons_zero, List.set_cons_succ])
  refine At.last rfl (fun val w1 hR hF hN => ?_)
  simp only [Nat.reduceAdd] at hF ⊢
  obtain ⟨_, n1⟩ := hF
  obtain ⟨b, hv, hb, B3⟩ := n1 (by simp)
  rw [hv]
  have hx1 := hx.trans hR
  have C1 := (F.out _ hR).1
  have C2 := (F.out _ hR).2
  have hbb : w.heap.size + 2 ≤ b := by rw [← hsz]; exact hb
  clear F hR n1 hv hN hsz hb bu al
  with_reducible refine wpList_store_mid rfl 49 _ _ rfl b 0 (rpl 1 fun _ => false) ?_ ?_ (B3.there ?_) ?_ ?_ ?_
  · kernel_rfl
  · kernel_rfl
  · simp only [rpl_size]; exact Nat.le_refl _
  · rw [rpl_size]; kernel_rfl
  · exact rpl_one _ _
  simp only [Act.put]
  go_upto_region 2 with (fail)
  refine wp_forget (fun wx => Ext w wx ∧ Blk wx w.heap.size 33 cs ∧ Blk wx (w.heap.size + 1) 49 (rpl 0 fun _ => false) ∧ Blk wx b 49 (rpl 1 (upR 1 D A B C E 0)))
    ⟨hx1.setCells (by omega) _ _, C1.farAll (by omega) _ _, C2.farAll (by omega) _ _, (by rw [upR_zero]; exact B3.setAll (by simp only [rpl_size]))⟩ ?_
  clear hx1 C1 C2 B1 B2 B3 hx w1 w2 val
  rintro w2 ⟨hx, B1, B2, B3⟩
  have c0 := HG.out.1
  go_upto_region 3 with (fail)
  go_wp2_with fail
  go_loopw [7, 8] (fun n i wr => ∃ j : Nat, j ≤ D + 2 ∧ i = .int .i64 j ∧ n = .int .i64 (cntF (readR 1 D A B C E) j) ∧ (∀ i, i < j → mayR 1 D A B C E i = true) ∧ Ext w wr ∧ Blk wr w.heap.size 33 cs ∧ Blk wr (w.heap.size + 1) 49 (rpl 0 fun _ => false) ∧ Blk wr b 49 (rpl 1 (upR 1 D A B C E j)))
    (fun _ i _ => (D + 2) - (intOf i).toNat)
  case atStart => exact ⟨0, by omega, rfl, rfl, fun i hi => absurd hi (Nat.not_lt_zero _), hx, B1, B2, B3⟩
  case round =>
    clear hx B1 B2 B3
    obtain ⟨j, hj, rfl, rfl, hok, hx, B1, B2, B3⟩ := hrel
    have HM := Lib.hid hok
    clear hok
    have HR := Lib.hid (show readR 1 D A B C E j = (!decide (D ≤ j) && !B j) from by simp [readR])
    have HMj := Lib.hid (show mayR 1 D A B C E j = (!(readR 1 D A B C E j && E j)) from by simp [mayR])
    by_cases hlt : j < D + 2
    · have i0 : (0 : Int) ≤ (j : Int) := by omega
      have i1 : (j : Int) < (D : Int) + 2 := by omega
      have i4 : (j : Int) < 32 := by omega
      obtain ⟨r1, r2, r3, r4⟩ := HG.out.2.2 j (by omega)
      have m0 := B1.cells 0
      have m1 := B1.cells (1 + j)
      have m2 := B1.cells (33 + j)
      have m3 := B1.cells (65 + j)
      have m4 := B1.cells (97 + j)
      rw [c0] at m0
      rw [r1] at m1
      rw [r2] at m2
      rw [r3] at m3
      rw [r4] at m4
      clear r1 r2 r3 r4
      have p1 := B3.cells (1 + j)
      rw [rpl_get _ _ (show j < 32 by omega), upR_self] at p1
      have p2 := B3.free (1 + j)
      have l1 := cntF_le (readR 1 D A B C E) j
      have HS := Lib.hid (show cntF (readR 1 D A B C E) (j + 1) = cntF (readR 1 D A B C E) j + (if readR 1 D A B C E j then 1 else 0) from rfl)
      have th0 : wr.there (w.heap.size + 1) 0 (rpl 0 fun _ => false).size := B2.there (Nat.le_refl _)
      have th1 : ∀ v : Bool, (wr.setCell ⟨b, 1 + j, none⟩ (.bool v)).there (w.heap.size + 1) 0 (rpl 0 fun _ => false).size := fun v => (B2.far (by simp; omega) _).there (Nat.le_refl _)
      have HB := Lib.hid (show (∀ v : Bool, Blk (wr.setCell ⟨b, 1 + j, none⟩ (.bool v)) w.heap.size 33 cs ∧ Blk (wr.setCell ⟨b, 1 + j, none⟩ (.bool v)) (w.heap.size + 1) 49 (rpl 0 fun _ => false) ∧ Ext w (wr.setCell ⟨b, 1 + j, none⟩ (.bool v))) from fun v => ⟨B1.far (by simp; omega) _, B2.far (by simp; omega) _, hx.setCell (by simp; omega) _⟩)
      have HB3 := Lib.hid (show Blk (wr.setCell ⟨b, 1 + j, none⟩ (.bool (readR 1 D A B C E j))) b 49 (rpl 1 (upR 1 D A B C E (j + 1))) from by rw [← upR_succ, ← rpl_set _ _ (show j < 32 by omega)]; exact B3.set _ _)
      have HN := Lib.hid (show readR 1 D A B C E j = false → rpl 1 (upR 1 D A B C E (j + 1)) = rpl 1 (upR 1 D A B C E j) from fun h => by
        rw [← upR_succ, h]; unfold rpl; congr 1; exact b32_congr (fun i hi => by
          by_cases e : i = j
          · rw [if_pos e, e, upR_self]
          · rw [if_neg e]))
      have HX := Lib.hid (And.intro B1 (And.intro B2 (And.intro B3 hx)))
      clear B1 B2 B3 hx
      generalize cntF (readR 1 D A B C E) j = cn at *
      generalize hRj : readR 1 D A B C E j = rj at *
      have HRj := Lib.hid hRj
      clear hRj
      generalize A j = aj at *
      generalize B j = bj at *
      generalize C j = cj at *
      generalize E j = ej at *
      by_cases q1 : D ≤ j
      all_goals
        first
          | (have q2 : decide ((D : Int) ≤ j) = true := by simpa using q1)
          | (have q2 : decide ((D : Int) ≤ j) = false := by simpa using q1)
        first
          | (have q3 : decide (D ≤ j) = true := by simpa using q1)
          | (have q3 : decide (D ≤ j) = false := by simpa using q1)
        try rw [q3] at HR
        try rw [q3] at HMj
        cases bj <;> cases ej
        all_goals
          (obtain rfl := HR.out)
          go_wp2_with ((with_reducible refine wpList_store_mid rfl 49 _ _ rfl (w.heap.size + 1) 0 (rpl 0 fun _ => false) ?_ ?_ (th1 _) ?_ HO.out.1 ?_); (kernel_rfl); (kernel_rfl); (rw [HO.out.2]; kernel_rfl))
        all_goals
          first
            | (refine ⟨⟨j + 1, by omega, by go_num, by rw [HS.out]; first | rfl | simp | go_num, fun i hi => ?_, (HB.out _).2.2, (HB.out _).1, (HB.out _).2.1, HB3.out⟩, by simp [intOf]; omega⟩
               by_cases e : i = j
               · subst e; rw [HMj.out]; rfl
               · exact HM.out i (by omega))
            | (have hok : ok = false := HOff.out j hlt (by rw [HMj.out]; rfl)
               exact ret_blk2 rfl (w.heap.size + 1) 49 (rpl 0 fun _ => false) _ rfl ((HB.out _).2.1.setAll rfl) Tryd.underlying49 rfl (by rw [HO.out.2]; kernel_rfl) rfl ⟨by rw [HW2.out hok]; rfl, (HB.out _).2.2.setCells (by omega) _ _⟩)
    · have hj2 : j = D + 2 := by omega
      subst hj2
      have i1 : decide (((D + 2 : Nat) : Int) < (D : Int) + 2) = false := by simp
      have m0 := B1.cells 0
      rw [c0] at m0
      have hall : (List.range (D + 2)).all (mayR 1 D A B C E) = true := by
        rw [List.all_eq_true]
        intro i hi
        exact HM.out i (List.mem_range.1 hi)
      rw [hall] at HOk
      clear hall HM HR HMj
      have th0 : wr.there (w.heap.size + 1) 0 (rpl 0 fun _ => false).size := B2.there (Nat.le_refl _)
      have HB := Lib.hid (show Blk (wr.setCells (w.heap.size + 1) 0 (rpl 0 fun _ => false).toList) (w.heap.size + 1) 49 (rpl 0 fun _ => false) ∧ Ext w (wr.setCells (w.heap.size + 1) 0 (rpl 0 fun _ => false).toList) from ⟨B2.setAll rfl, hx.setCells (by omega) _ _⟩)
      have HP := Lib.hid (And.intro (rpl_one 1 (upR 1 D A B C E (D + 2))) (rpl_size 1 (upR 1 D A B C E (D + 2))))
      have hcn := cntF_le (readR 1 D A B C E) (D + 2)
      generalize cntF (readR 1 D A B C E) (D + 2) = cn at *
      generalize hps : rpl 1 (upR 1 D A B C E (D + 2)) = ps at *
      have th1 : wr.there (w.heap.size + 1) 0 ps.size := by rw [HP.out.2]; exact B2.there (by rw [HO.out.2]; exact Nat.le_refl _)
      have HB1 := Lib.hid (show Blk (wr.setCells (w.heap.size + 1) 0 ps.toList) (w.heap.size + 1) 49 ps ∧ Ext w (wr.setCells (w.heap.size + 1) 0 ps.toList) from ⟨B2.setAll (by rw [HP.out.2, HO.out.2]), hx.setCells (by omega) _ _⟩)
      have B3h : wr.heap[b]? = some (.cells ps 49 (0, 0)) := B3
      have HPS := Lib.hid hps
      clear hps
      by_cases hc : cn = 0
      · subst hc
        have hok : ok = false := by rw [HOk.out]; simp
        go_wp2_with ((with_reducible refine wpList_store_mid rfl 49 _ _ rfl (w.heap.size + 1) 0 (rpl 0 fun _ => false) ?_ ?_ th0 ?_ HO.out.1 ?_); (kernel_rfl); (kernel_rfl); (rw [HO.out.2]; kernel_rfl))
        exact ret_blk2 rfl (w.heap.size + 1) 49 (rpl 0 fun _ => false) _ rfl HB.out.1 Tryd.underlying49 rfl (by rw [HO.out.2]; kernel_rfl) rfl ⟨by rw [HW2.out hok]; rfl, HB.out.2⟩
      · have hc1 : ((cn : Int) == 0) = false := by simp; omega
        have hok : ok = true := by rw [HOk.out]; simp [hc]
        go_wp2_with (first | ((with_reducible refine wpList_load_row rfl 49 _ rfl b ?_ 49 ps (0, 0) _ B3h Tryd.underlying49 ?_ ?_ ?_); (exact rfl); (exact rfl); (rw [HP.out.2]; kernel_rfl)) | ((with_reducible refine wpList_store_mid rfl 49 _ _ rfl (w.heap.size + 1) 0 ps ?_ ?_ th1 ?_ HP.out.1 ?_); (exact rfl); (exact rfl); (rw [HP.out.2]; kernel_rfl)))
        exact ret_blk2 rfl (w.heap.size + 1) 49 ps _ rfl HB1.out.1 Tryd.underlying49 rfl (by rw [HP.out.2]; kernel_rfl) rfl ⟨by rw [HW1.out hok]; rfl, HB1.out.2⟩
end Go.Proofs.YtghefhmncpmflaaDoor
