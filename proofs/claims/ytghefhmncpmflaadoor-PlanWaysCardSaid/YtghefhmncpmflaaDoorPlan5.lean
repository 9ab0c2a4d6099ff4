/-
  The contract of package plan's Choose: the first of the ways that read least.
-/
import Derived.Test.YtghefhmncpmflaaDoorPlan4
namespace Go.Proofs.YtghefhmncpmflaaDoor
open Go.RowKit Go.Rg

theorem wrap64_diff (p q : Nat) (hp : p ≤ 64) (hq : q ≤ 64) : IntKind.i64.wrap ((p : Int) - (q : Int)) = (p : Int) - q := by
  have : -64 ≤ (p : Int) - q ∧ (p : Int) - q ≤ 64 := by omega
  exact IntWalk.i64_in _ (by omega)

set_option maxHeartbeats 1000000 in
theorem diff_any (k1 r1 k2 r2 : Nat) (h1 : r1 < 18446744073709551616) (h2 : r2 < 18446744073709551616) (w : World) :
    Calls Tryd.prog 53 #[.agg (plc k1 r1), .agg (plc k2 r2)] w fun e w' => e = .returned (.int .i64 ((pop 64 r1 : Int) - pop 64 r2)) ∧ Ext w w' := by
  have H1 := Lib.hid (count_one r1 h1)
  have H2 := Lib.hid (count_one r2 h2)
  have p1 := pop_le 64 r1
  have p2 := pop_le 64 r2
  have hw := wrap64_diff (pop 64 r1) (pop 64 r2) p1 p2
  generalize pop 64 r1 = c1 at *
  generalize pop 64 r2 = c2 at *
  clear h1 h2
  unfold plc mset at *
  go_enter Tryd.func53, Tryd.ntmps53
  go_upto_region 1 with (fail)
  have F := Lib.hid (fun (w2 : World) (hr : Ext _ w2) => And.intro (((Blk.new w 45 #[.int .i64 k1, .int .u64 r1, .int .u64 0, .int .u64 0, .int .u64 0]).alloc (.cells #[.int .i64 k2, .int .u64 r2, .int .u64 0, .int .u64 0, .int .u64 0] 45)).ext hr.of_drew).cells
    ((Blk.new' (b := w.heap.size + 1) (w := w.alloc (.cells #[.int .i64 k1, .int .u64 r1, .int .u64 0, .int .u64 0, .int .u64 0] 45)) (by simp) 45 #[.int .i64 k2, .int .u64 r2, .int .u64 0, .int .u64 0, .int .u64 0]).ext hr.of_drew).cells)
  refine Seq.drawn (k := 8) (R := Ext) (by kernel_rfl) (by decide) (by kernel_rfl) (fun _ _ _ => Ext.trans) (fun _ _ h => h.size) Ext.refl (At.start ?_)
  (refine At.det ?_ (fun val w1 hR _ K hK => ?_) ?_; rotate_left; (simp only [Act.put, List.setIfInBounds_toArray, List.set_cons_zero, List.set_cons_succ] at hK; go_simp; exact hK _ (Ext.refl _)); simp only [Act.put, List.setIfInBounds_toArray, List.set_cons_zero, List.set_cons_succ])
  (refine At.det ?_ (fun val w1 hR _ K hK => ?_) ?_; rotate_left; (have g1 := (F.out _ hR).1; have g2 := (F.out _ hR).2; simp only [Act.put, List.setIfInBounds_toArray, List.set_cons_zero, List.set_cons_succ] at hK; go_simp; exact hK _ (Ext.refl _)); simp only [Act.put, List.setIfInBounds_toArray, List.set_cons_zero, List.set_cons_succ])
  (refine At.det ?_ (fun val w1 hR _ K hK => ?_) ?_; rotate_left; (simp only [Act.put, List.setIfInBounds_toArray, List.set_cons_zero, List.set_cons_succ] at hK; go_simp; (with_reducible refine (H1.out _).mono ?_); rintro e w2 ⟨rfl, h2⟩; exact hK _ (h2)); simp only [Act.put, List.setIfInBounds_toArray, List.set_cons_zero, List.set_cons_succ])
  (refine At.det ?_ (fun val w1 hR _ K hK => ?_) ?_; rotate_left; (simp only [Act.put, List.setIfInBounds_toArray, List.set_cons_zero, List.set_cons_succ] at hK; go_simp; exact hK _ (Ext.refl _)); simp only [Act.put, List.setIfInBounds_toArray, List.set_cons_zero, List.set_cons_succ])
  (refine At.det ?_ (fun val w1 hR _ K hK => ?_) ?_; rotate_left; (have g1 := (F.out _ hR).1; have g2 := (F.out _ hR).2; simp only [Act.put, List.setIfInBounds_toArray, List.set_cons_zero, List.set_cons_succ] at hK; go_simp; exact hK _ (Ext.refl _)); simp only [Act.put, List.setIfInBounds_toArray, List.set_cons_zero, List.set_cons_succ])
  (refine At.det ?_ (fun val w1 hR _ K hK => ?_) ?_; rotate_left; (simp only [Act.put, List.setIfInBounds_toArray, List.set_cons_zero, List.set_cons_succ] at hK; go_simp; (with_reducible refine (H2.out _).mono ?_); rintro e w2 ⟨rfl, h2⟩; exact hK _ (h2)); simp only [Act.put, List.setIfInBounds_toArray, List.set_cons_zero, List.set_cons_succ])
  (refine At.det ?_ (fun val w1 hR _ K hK => ?_) ?_; rotate_left; (simp only [Act.put, List.setIfInBounds_toArray, List.set_cons_zero, List.set_cons_succ] at hK; go_simp; exact hK _ (Ext.refl _)); simp only [Act.put, List.setIfInBounds_toArray, List.set_cons_zero, List.set_cons_succ])
  (refine At.det ?_ (fun val w1 hR _ K hK => ?_) ?_; rotate_left; (simp only [Act.put, List.setIfInBounds_toArray, List.set_cons_zero, List.set_cons_succ] at hK; go_simp; exact hK _ (Ext.refl _)); simp only [Act.put, List.setIfInBounds_toArray, List.set_cons_zero, List.set_cons_succ])
  refine At.last rfl (fun val w1 hR _ _ => ?_)
  go_wp2
  go_ret
  exact ⟨rfl, (((Ext.refl w).alloc _).alloc _).trans hR.of_drew⟩

/-- The first of those that read least. -/
def bestF (m p : Nat × Nat) : Nat × Nat := if pop 64 p.2 < pop 64 m.2 then p else m
def bestL : List (Nat × Nat) → Nat × Nat
  | [] => (0, 0)
  | m :: L => L.foldl bestF m

theorem plansC_get (L : List (Nat × Nat)) : ∀ (i : Nat) (p : Nat × Nat), L[i]? = some p → ∀ c, c < 5 → (plansC L)[i * 5 + c]? = (plcL p.1 p.2)[c]? := by
  induction L with
  | nil => intro i p h; simp at h
  | cons q L ih =>
    intro i p h c hc
    have hq : (plcL q.1 q.2).length = 5 := rfl
    simp only [plansC, List.flatMap_cons]
    cases i with
    | zero =>
      simp only [List.getElem?_cons_zero, Option.some.injEq] at h
      subst h
      rw [List.getElem?_append_left (by omega)]
      simp
    | succ i =>
      rw [List.getElem?_append_right (by omega)]
      have := ih i p (by simpa using h) c hc
      rw [show (i + 1) * 5 + c - (plcL q.1 q.2).length = i * 5 + c from by omega]
      exact this

theorem bestL_take (L : List (Nat × Nat)) (i : Nat) (p : Nat × Nat) (hi : L[i]? = some p) (h1 : 1 ≤ i) : bestL (L.take (i + 1)) = bestF (bestL (L.take i)) p := by
  cases L with
  | nil => simp at hi
  | cons m L =>
    obtain ⟨j, rfl⟩ : ∃ j, i = j + 1 := ⟨i - 1, by omega⟩
    simp only [List.getElem?_cons_succ] at hi
    have hj : j < L.length := (List.getElem?_eq_some_iff.1 hi).1
    simp only [List.take_succ_cons, bestL]
    rw [List.take_add_one, hi, List.foldl_append, Option.toList_some, List.foldl_cons, List.foldl_nil]

set_option maxHeartbeats 2000000 in
theorem min_any (L : List (Nat × Nat)) (hL : 1 ≤ L.length) (hL2 : L.length ≤ 100) (hlt : ∀ p ∈ L, p.2 < 18446744073709551616) (b cap : Nat) (w : World) (hb : b < w.heap.size)
    (hc : ∀ j, j < L.length * 5 → w.cell? ⟨b, j, none⟩ = (plansC L)[j]?) :
    Calls Tryd.prog 52 #[.slice (some ⟨b, 0, none⟩) L.length cap, .func (.func 53) #[] #[]] w fun e w' => e = .returned (.agg (plc (bestL L).1 (bestL L).2)) ∧ Ext w w' := by
  have HL := Lib.hid hlt
  have HC : Hid (∀ (w' : World) (i : Nat) (p : Nat × Nat), Ext w w' → L[i]? = some p → w'.cell? ⟨b, i * 5, none⟩ = some (.int .i64 p.1) ∧ w'.cell? ⟨b, i * 5 + 1, none⟩ = some (.int .u64 p.2) ∧
      w'.cell? ⟨b, i * 5 + 2, none⟩ = some (.int .u64 0) ∧ w'.cell? ⟨b, i * 5 + 3, none⟩ = some (.int .u64 0) ∧ w'.cell? ⟨b, i * 5 + 4, none⟩ = some (.int .u64 0)) := by
    refine Lib.hid (fun w' i p he hp => ?_)
    have hi : i < L.length := (List.getElem?_eq_some_iff.1 hp).1
    have key : ∀ c, c < 5 → w'.cell? ⟨b, i * 5 + c, none⟩ = (plcL p.1 p.2)[c]? := by
      intro c hc5
      rw [Below.cell he (p := ⟨b, i * 5 + c, none⟩) hb, hc _ (by omega), plansC_get L i p hp c hc5]
    exact ⟨key 0 (by decide), key 1 (by decide), key 2 (by decide), key 3 (by decide), key 4 (by decide)⟩
  have HE := Lib.hid diff_any
  clear hlt hc
  generalize hn : L.length = n at *
  have HN := Lib.hid hn
  clear hn
  obtain ⟨p0, hp0⟩ : ∃ p, L[0]? = some p := ⟨_, List.getElem?_eq_getElem (by rw [HN.out]; omega)⟩
  have HP0 := Lib.hid hp0
  clear hp0
  have i1 : decide (n < 1) = false := by simp; omega
  go_enter Tryd.func52, Tryd.ntmps52
  go_upto_region 3 with (fail)
  obtain ⟨c0, c1, c2, c3, c4⟩ := HC.out (w.alloc (.cells #[.int .i64 0, .int .u64 0, .int .u64 0, .int .u64 0, .int .u64 0] 45)) 0 p0 ((Ext.refl w).alloc _) HP0.out
  simp only [Nat.zero_mul, Nat.zero_add] at c0 c1 c2 c3 c4
  go_wp2_with fail
  have HM1 : Hid (L.take 1 = [p0]) := Lib.hid (by
    have := HP0.out
    cases L with
    | nil => simp at this
    | cons a L => simp at this ⊢; exact this)
  go_loopw [6] (fun i wr => ∃ (j : Nat) (m1 m2 : Nat), 1 ≤ j ∧ j ≤ n ∧ i = .int .i64 j ∧ Ext w wr ∧ Blk wr w.heap.size 45 #[.int .i64 0, .int .u64 0, .int .u64 0, .int .u64 0, .int .u64 0] ∧ Blk wr (w.heap.size + 1) 45 (plc m1 m2) ∧ m2 < 18446744073709551616 ∧ (m1, m2) = bestL (L.take j))
    (fun i _ => n - (intOf i).toNat)
  case atStart => exact ⟨1, p0.1, p0.2, by omega, by omega, rfl, ((Ext.refl w).alloc _).alloc _, (Blk.new w 45 _).alloc _, Blk.new' (by simp) 45 _, HL.out p0 (List.mem_of_getElem? HP0.out), by rw [HM1.out]; rfl⟩
  case round =>
    obtain ⟨j, m1, m2, hj1, hj, rfl, hx, B1, B2, hm, hbest⟩ := hrel
    have HB := Lib.hid hbest
    clear hbest c0 c1 c2 c3 c4
    by_cases hlt : j < n
    · obtain ⟨p, hp⟩ : ∃ p, L[j]? = some p := ⟨_, List.getElem?_eq_getElem (by rw [HN.out]; omega)⟩
      have hp2 := HL.out p (List.mem_of_getElem? hp)
      have HP := Lib.hid hp
      have HS : Hid (bestL (L.take (j + 1)) = bestF (m1, m2) p) := Lib.hid (by rw [bestL_take L j p hp hj1, HB.out])
      clear hp
      have i0 : (0 : Int) ≤ (j : Int) := by omega
      have i4 : (j : Int) < n := by omega
      have HD := Lib.hid (HE.out p.1 p.2 m1 m2 hp2 hm)
      unfold plc at HD B2
      have F := Lib.hid (fun (w2 : World) (hr : Ext wr.drew w2) => And.intro (B2.ext hr.of_drew).cells (HC.out w2 j p (hx.trans hr.of_drew) HP.out))
      generalize hc1 : pop 64 p.2 = q1 at *
      generalize hc2 : pop 64 m2 = q2 at *
      have HC1 := Lib.hid hc1
      have HC2 := Lib.hid hc2
      clear hc1 hc2
      generalize hdf : ((q1 : Int) - (q2 : Int)) = df at *
      have HDF := Lib.hid hdf
      clear hdf
      go_upto_region 7 with (fail)
      refine Seq.drawn (k := 8) (R := Ext) (by kernel_rfl) (by decide) (by kernel_rfl) (fun _ _ _ => Ext.trans) (fun _ _ h => h.size) Ext.refl (At.start ?_)
      (refine At.det ?_ (fun val w1 hR _ K hK => ?_) ?_; rotate_left; (simp only [Act.put, List.setIfInBounds_toArray, List.set_cons_zero, List.set_cons_succ] at hK; go_simp; exact hK _ (Ext.refl _)); simp only [Act.put, List.setIfInBounds_toArray, List.set_cons_zero, List.set_cons_succ])
      (refine At.det ?_ (fun val w1 hR _ K hK => ?_) ?_; rotate_left; (simp only [Act.put, List.setIfInBounds_toArray, List.set_cons_zero, List.set_cons_succ] at hK; go_simp; exact hK _ (Ext.refl _)); simp only [Act.put, List.setIfInBounds_toArray, List.set_cons_zero, List.set_cons_succ])
      (refine At.det ?_ (fun val w1 hR _ K hK => ?_) ?_; rotate_left; (simp only [Act.put, List.setIfInBounds_toArray, List.set_cons_zero, List.set_cons_succ] at hK; go_simp; exact hK _ (Ext.refl _)); simp only [Act.put, List.setIfInBounds_toArray, List.set_cons_zero, List.set_cons_succ])
      (refine At.det ?_ (fun val w1 hR _ K hK => ?_) ?_; rotate_left; (simp only [Act.put, List.setIfInBounds_toArray, List.set_cons_zero, List.set_cons_succ] at hK; go_simp; exact hK _ (Ext.refl _)); simp only [Act.put, List.setIfInBounds_toArray, List.set_cons_zero, List.set_cons_succ])
      (refine At.det ?_ (fun val w1 hR _ K hK => ?_) ?_; rotate_left; (have g1 := (F.out _ hR).1; have e0 := (F.out _ hR).2.1; have e1 := (F.out _ hR).2.2.1; have e2 := (F.out _ hR).2.2.2.1; have e3 := (F.out _ hR).2.2.2.2.1; have e4 := (F.out _ hR).2.2.2.2.2; simp only [Act.put, List.setIfInBounds_toArray, List.set_cons_zero, List.set_cons_succ] at hK; go_simp; exact hK _ (Ext.refl _)); simp only [Act.put, List.setIfInBounds_toArray, List.set_cons_zero, List.set_cons_succ])
      (refine At.det ?_ (fun val w1 hR _ K hK => ?_) ?_; rotate_left; (have g1 := (F.out _ hR).1; have e0 := (F.out _ hR).2.1; have e1 := (F.out _ hR).2.2.1; have e2 := (F.out _ hR).2.2.2.1; have e3 := (F.out _ hR).2.2.2.2.1; have e4 := (F.out _ hR).2.2.2.2.2; simp only [Act.put, List.setIfInBounds_toArray, List.set_cons_zero, List.set_cons_succ] at hK; go_simp; exact hK _ (Ext.refl _)); simp only [Act.put, List.setIfInBounds_toArray, List.set_cons_zero, List.set_cons_succ])
      (refine At.det ?_ (fun val w1 hR _ K hK => ?_) ?_; rotate_left; (simp only [Act.put, List.setIfInBounds_toArray, List.set_cons_zero, List.set_cons_succ] at hK; go_simp; (with_reducible refine (HD.out _).mono ?_); rintro e w2 ⟨rfl, h2⟩; exact hK _ (h2)); simp only [Act.put, List.setIfInBounds_toArray, List.set_cons_zero, List.set_cons_succ])
      (refine At.det ?_ (fun val w1 hR _ K hK => ?_) ?_; rotate_left; (simp only [Act.put, List.setIfInBounds_toArray, List.set_cons_zero, List.set_cons_succ] at hK; go_simp; exact hK _ (Ext.refl _)); simp only [Act.put, List.setIfInBounds_toArray, List.set_cons_zero, List.set_cons_succ])
      refine At.last rfl (fun val w1 hR _ _ => ?_)
      replace hx := hx.trans hR.of_drew
      replace B1 := B1.ext hR.of_drew
      replace B2 := B2.ext hR.of_drew
      have c5 := HC.out w1 j p hx HP.out
      have d0 := c5.1
      have d1 := c5.2.1
      have d2 := c5.2.2.1
      have d3 := c5.2.2.2.1
      have d4 := c5.2.2.2.2
      have cc := B2.cells
      have ff := B2.free
      clear F hR c5
      go_upto_if 27 with (fail)
      refine wp_cond_split rfl (fun h => ?_) (fun h => ?_)
      · simp only [decide_eq_true_eq] at h
        iterate 40 (try go_step)
        have B3 := ((((B2.set 0 (.int .i64 p.1)).set 1 (.int .u64 p.2)).set 2 (.int .u64 0)).set 3 (.int .u64 0)).set 4 (.int .u64 0)
        refine ⟨⟨j + 1, p.1, p.2, by omega, by omega, by go_num, ((((hx.setCell (by simp) _).setCell (by simp) _).setCell (by simp) _).setCell (by simp) _).setCell (by simp) _,
          ((((B1.far (by simp) _).far (by simp) _).far (by simp) _).far (by simp) _).far (by simp) _, B3, hp2, ?_⟩, by simp [intOf]; omega⟩
        rw [HS.out, bestF, if_pos (by rw [HC1.out, HC2.out]; have := HDF.out; omega)]
      · simp only [decide_eq_false_iff_not] at h
        iterate 40 (try go_step)
        refine ⟨⟨j + 1, m1, m2, by omega, by omega, by go_num, hx, B1, B2, hm, ?_⟩, by simp [intOf]; omega⟩
        rw [HS.out, bestF, if_neg (by rw [HC1.out, HC2.out]; have := HDF.out; omega)]
    · have hjn : j = n := by omega
      subst hjn
      have HE2 : Hid ((m1, m2) = bestL L) := Lib.hid (by have := HB.out; rw [List.take_of_length_le (by rw [HN.out]; exact Nat.le_refl _)] at this; exact this)
      unfold plc at B2
      have cc := B2.cells
      have c1 := B1.cells
      have f1 := B1.free
      go_wp2
      refine ret_blk rfl w.heap.size 45 (plc m1 m2) _ rfl (((((B1.set 0 _).set 1 _).set 2 _).set 3 _).set 4 _) Tryd.underlying45 rfl (by kernel_rfl) rfl
        ⟨?_, ((((hx.setCell (by simp) _).setCell (by simp) _).setCell (by simp) _).setCell (by simp) _).setCell (by simp) _⟩
      rw [← HE2.out]
end Go.Proofs.YtghefhmncpmflaaDoor
