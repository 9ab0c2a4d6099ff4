/-
  The contracts of package marks' operations on two sets: word by word.
-/
import Derived.Test.YtghefhmncpmflaaDoorMarks1
namespace Go.Proofs.YtghefhmncpmflaaDoor
open Go.RowKit Go.Rg

abbrev orN (x y : Nat) : Nat := x ||| y
abbrev andN (x y : Nat) : Nat := x &&& y

theorem each_or (f h : Nat → Nat) (hf : ∀ j, f j < 18446744073709551616) (hh : ∀ j, h j < 18446744073709551616) (w : World) :
    Calls Tryd.prog 56 #[cset f, cset h, .func (.func 84) #[] #[]] w fun e w' => e = .returned (cset fun j => orN (f j) (h j)) ∧ Ext w w' := by
  have HG := Lib.hid (fun (j : Nat) (w : World) => or1 (f j) (h j) (hf j) (hh j) w)
  clear hf hh
  generalize hg : (fun j => orN (f j) (h j)) = g
  have HE := Lib.hid hg
  clear hg
  unfold cset
  go_enter Tryd.func56, Tryd.ntmps56
  go_wp2_with fail
  go_loopw [7, 8] (fun _ i wr => ∃ k : Nat, k ≤ 4 ∧ i = .int .i64 k ∧ Ext w wr ∧ Blk wr w.heap.size 28 (wcells fun j => if j < k then g j else f j) ∧ Blk wr (w.heap.size + 1) 28 (wcells h) ∧ Blk wr (w.heap.size + 1 + 1) 28 (wcells (fun _ => 0)))
    (fun _ i _ => 4 - (intOf i).toNat)
  case atStart => exact ⟨0, by omega, rfl, (((Ext.refl w).alloc _).alloc _).alloc _, ((Blk.new w 28 (wcells f)).alloc _).alloc _, (Blk.new' (by simp) 28 (wcells h)).alloc _, Blk.new' (by simp) 28 (wcells fun _ => 0)⟩
  case round =>
    obtain ⟨k, hk, rfl, hB, h1, h2, h3⟩ := hrel
    by_cases hlt : k < 4
    · have i0 : (0 : Int) ≤ (k : Int) := by omega
      have i4 : (k : Int) < 4 := by omega
      go_wp2_with fail
      have F1 := Lib.hid (fun (w1 : World) (hr : Ext wr.drew w1) => (((h1.ext hr.of_drew).cells k).trans (wcells_get _ hlt)).trans (show _ = some (Value.int .u64 (f k : Nat)) by simp))
      have F2 := Lib.hid (fun (w1 : World) (hr : Ext wr.drew w1) => ((h2.ext hr.of_drew).cells k).trans (wcells_get h hlt))
      refine Seq.drawn (k := 10) (R := Ext) (by kernel_rfl) (by decide) (by kernel_rfl) (fun _ _ _ => Ext.trans) (fun _ _ h => h.size) Ext.refl (At.start ?_)
      iterate 10 (first
        | (refine At.det ?_ (fun val w1 hR _ K hK => ?_) ?_; rotate_left; (have g1 := F1.out _ hR; have g2 := F2.out _ hR; go_simp; exact hK _ (Ext.refl _)); simp only [Act.put, List.setIfInBounds_toArray, List.set_cons_zero, List.set_cons_succ])
        | (refine At.det ?_ (fun val w1 hR _ K hK => ?_) ?_; rotate_left; (go_simp; refine (HG.out k _).mono ?_; rintro e w2 ⟨rfl, rfl⟩; exact hK _ (Ext.refl _)); simp only [Act.put, List.setIfInBounds_toArray, List.set_cons_zero, List.set_cons_succ]))
      refine At.last rfl (fun val w1 hR _ _ => ?_)
      have hr := hR.of_drew
      have d1 := h1.ext hr
      have d2 := h2.ext hr
      have d3 := h3.ext hr
      have d1c := d1.cells k
      rw [wcells_get _ hlt] at d1c
      have d1f := d1.free k
      have hx : Ext w w1 := hB.trans hr
      clear h1 h2 h3 F1 F2 hR hr hB
      go_wp2_with fail
      have e1 : Blk (w1.setCell ⟨w.heap.size, k, none⟩ (.int .u64 (orN (f k) (h k) : Nat))) w.heap.size 28 (wcells fun j => if j < k + 1 then g j else f j) := by
        have := d1.set k (.int .u64 (orN (f k) (h k) : Nat))
        rw [wcells_set _ hlt] at this
        rw [← HE.out] at this ⊢
        refine Eq.mp (congrArg (fun q => Blk _ _ _ (wcells q)) ?_) this
        funext j
        by_cases hj : j = k
        · simp [hj]
        · by_cases hj2 : j < k
          · simp [hj, hj2, show j < k + 1 by omega]
          · simp [hj, hj2, show ¬ j < k + 1 by omega]
      exact ⟨⟨k + 1, by omega, by go_num, hx.setCell (Nat.le_refl _) _, e1, d2.far (by simp) _, d3.far (by simp; omega) _⟩, by simp [intOf]; omega⟩
    · have hk4 : k = 4 := by omega
      subst hk4
      have e1 : Blk wr w.heap.size 28 (wcells g) := by
        unfold wcells at h1 ⊢
        simpa using h1
      have c1 := e1.cells
      have c2 := h3.cells
      have f2 := h3.free
      simp only [wcells] at c1 c2
      clear h1 h2
      go_wp2
      exact ret_blk rfl (w.heap.size + 1 + 1) 28 (wcells g) _ rfl ((((h3.set 0 _).set 1 _).set 2 _).set 3 _) Tryd.underlying28 rfl (by kernel_rfl) rfl
        ⟨rfl, (((hB.setCell (by simp; omega) _).setCell (by simp; omega) _).setCell (by simp; omega) _).setCell (by simp; omega) _⟩

theorem or_any (f h : Nat → Nat) (hf : ∀ j, f j < 18446744073709551616) (hh : ∀ j, h j < 18446744073709551616) (w : World) :
    Calls Tryd.prog 47 #[cset f, cset h] w fun e w' => e = .returned (cset fun j => orN (f j) (h j)) ∧ Ext w w' := by
  have HG := Lib.hid (each_or f h hf hh)
  clear hf hh
  generalize hg : (fun j => orN (f j) (h j)) = g at HG
  clear hg
  unfold cset at *
  go_enter Tryd.func47, Tryd.ntmps47
  go_wp2_with fail
  refine (HG.out _).mono ?_
  rintro e w1 ⟨rfl, h1⟩
  have hx : Ext w w1 := ((((Ext.refl w).alloc _).alloc _).alloc _).trans h1
  have b3 := (Blk.new' (b := w.heap.size + 1 + 1) (by simp) 28 (wcells (fun _ => 0))).ext h1
  have c3 := b3.cells
  have f3 := b3.free
  simp only [wcells] at c3
  clear h1
  go_wp2
  exact ret_blk rfl (w.heap.size + 1 + 1) 28 (wcells g) _ rfl ((((b3.set 0 _).set 1 _).set 2 _).set 3 _) Tryd.underlying28 rfl (by kernel_rfl) rfl
    ⟨rfl, (((hx.setCell (by simp; omega) _).setCell (by simp; omega) _).setCell (by simp; omega) _).setCell (by simp; omega) _⟩
theorem one_or (n m : Nat) : (fun j => orN (one n j) (one m j)) = one (orN n m) := by
  funext j
  unfold one
  by_cases h : j = 0 <;> simp [h]
theorem one_lt {n : Nat} (hn : n < 18446744073709551616) (j : Nat) : one n j < 18446744073709551616 := by unfold one; split <;> omega
theorem or_one (n m : Nat) (hn : n < 18446744073709551616) (hm : m < 18446744073709551616) (w : World) :
    Calls Tryd.prog 47 #[mset n, mset m] w fun e w' => e = .returned (mset (orN n m)) ∧ Ext w w' := by
  have := or_any (one n) (one m) (one_lt hn) (one_lt hm) w
  rw [one_or] at this
  exact this

theorem each_and (f h : Nat → Nat) (hf : ∀ j, f j < 18446744073709551616) (hh : ∀ j, h j < 18446744073709551616) (w : World) :
    Calls Tryd.prog 56 #[cset f, cset h, .func (.func 57) #[] #[]] w fun e w' => e = .returned (cset fun j => andN (f j) (h j)) ∧ Ext w w' := by
  have HG := Lib.hid (fun (j : Nat) (w : World) => and1 (f j) (h j) (hf j) (hh j) w)
  clear hf hh
  generalize hg : (fun j => andN (f j) (h j)) = g
  have HE := Lib.hid hg
  clear hg
  unfold cset
  go_enter Tryd.func56, Tryd.ntmps56
  go_wp2_with fail
  go_loopw [7, 8] (fun _ i wr => ∃ k : Nat, k ≤ 4 ∧ i = .int .i64 k ∧ Ext w wr ∧ Blk wr w.heap.size 28 (wcells fun j => if j < k then g j else f j) ∧ Blk wr (w.heap.size + 1) 28 (wcells h) ∧ Blk wr (w.heap.size + 1 + 1) 28 (wcells (fun _ => 0)))
    (fun _ i _ => 4 - (intOf i).toNat)
  case atStart => exact ⟨0, by omega, rfl, (((Ext.refl w).alloc _).alloc _).alloc _, ((Blk.new w 28 (wcells f)).alloc _).alloc _, (Blk.new' (by simp) 28 (wcells h)).alloc _, Blk.new' (by simp) 28 (wcells fun _ => 0)⟩
  case round =>
    obtain ⟨k, hk, rfl, hB, h1, h2, h3⟩ := hrel
    by_cases hlt : k < 4
    · have i0 : (0 : Int) ≤ (k : Int) := by omega
      have i4 : (k : Int) < 4 := by omega
      go_wp2_with fail
      have F1 := Lib.hid (fun (w1 : World) (hr : Ext wr.drew w1) => (((h1.ext hr.of_drew).cells k).trans (wcells_get _ hlt)).trans (show _ = some (Value.int .u64 (f k : Nat)) by simp))
      have F2 := Lib.hid (fun (w1 : World) (hr : Ext wr.drew w1) => ((h2.ext hr.of_drew).cells k).trans (wcells_get h hlt))
      refine Seq.drawn (k := 10) (R := Ext) (by kernel_rfl) (by decide) (by kernel_rfl) (fun _ _ _ => Ext.trans) (fun _ _ h => h.size) Ext.refl (At.start ?_)
      iterate 10 (first
        | (refine At.det ?_ (fun val w1 hR _ K hK => ?_) ?_; rotate_left; (have g1 := F1.out _ hR; have g2 := F2.out _ hR; go_simp; exact hK _ (Ext.refl _)); simp only [Act.put, List.setIfInBounds_toArray, List.set_cons_zero, List.set_cons_succ])
        | (refine At.det ?_ (fun val w1 hR _ K hK => ?_) ?_; rotate_left; (go_simp; refine (HG.out k _).mono ?_; rintro e w2 ⟨rfl, rfl⟩; exact hK _ (Ext.refl _)); simp only [Act.put, List.setIfInBounds_toArray, List.set_cons_zero, List.set_cons_succ]))
      refine At.last rfl (fun val w1 hR _ _ => ?_)
      have hr := hR.of_drew
      have d1 := h1.ext hr
      have d2 := h2.ext hr
      have d3 := h3.ext hr
      have d1c := d1.cells k
      rw [wcells_get _ hlt] at d1c
      have d1f := d1.free k
      have hx : Ext w w1 := hB.trans hr
      clear h1 h2 h3 F1 F2 hR hr hB
      go_wp2_with fail
      have e1 : Blk (w1.setCell ⟨w.heap.size, k, none⟩ (.int .u64 (andN (f k) (h k) : Nat))) w.heap.size 28 (wcells fun j => if j < k + 1 then g j else f j) := by
        have := d1.set k (.int .u64 (andN (f k) (h k) : Nat))
        rw [wcells_set _ hlt] at this
        rw [← HE.out] at this ⊢
        refine Eq.mp (congrArg (fun q => Blk _ _ _ (wcells q)) ?_) this
        funext j
        by_cases hj : j = k
        · simp [hj]
        · by_cases hj2 : j < k
          · simp [hj, hj2, show j < k + 1 by omega]
          · simp [hj, hj2, show ¬ j < k + 1 by omega]
      exact ⟨⟨k + 1, by omega, by go_num, hx.setCell (Nat.le_refl _) _, e1, d2.far (by simp) _, d3.far (by simp; omega) _⟩, by simp [intOf]; omega⟩
    · have hk4 : k = 4 := by omega
      subst hk4
      have e1 : Blk wr w.heap.size 28 (wcells g) := by
        unfold wcells at h1 ⊢
        simpa using h1
      have c1 := e1.cells
      have c2 := h3.cells
      have f2 := h3.free
      simp only [wcells] at c1 c2
      clear h1 h2
      go_wp2
      exact ret_blk rfl (w.heap.size + 1 + 1) 28 (wcells g) _ rfl ((((h3.set 0 _).set 1 _).set 2 _).set 3 _) Tryd.underlying28 rfl (by kernel_rfl) rfl
        ⟨rfl, (((hB.setCell (by simp; omega) _).setCell (by simp; omega) _).setCell (by simp; omega) _).setCell (by simp; omega) _⟩

theorem and_any (f h : Nat → Nat) (hf : ∀ j, f j < 18446744073709551616) (hh : ∀ j, h j < 18446744073709551616) (w : World) :
    Calls Tryd.prog 19 #[cset f, cset h] w fun e w' => e = .returned (cset fun j => andN (f j) (h j)) ∧ Ext w w' := by
  have HG := Lib.hid (each_and f h hf hh)
  clear hf hh
  generalize hg : (fun j => andN (f j) (h j)) = g at HG
  clear hg
  unfold cset at *
  go_enter Tryd.func19, Tryd.ntmps19
  go_wp2_with fail
  refine (HG.out _).mono ?_
  rintro e w1 ⟨rfl, h1⟩
  have hx : Ext w w1 := ((((Ext.refl w).alloc _).alloc _).alloc _).trans h1
  have b3 := (Blk.new' (b := w.heap.size + 1 + 1) (by simp) 28 (wcells (fun _ => 0))).ext h1
  have c3 := b3.cells
  have f3 := b3.free
  simp only [wcells] at c3
  clear h1
  go_wp2
  exact ret_blk rfl (w.heap.size + 1 + 1) 28 (wcells g) _ rfl ((((b3.set 0 _).set 1 _).set 2 _).set 3 _) Tryd.underlying28 rfl (by kernel_rfl) rfl
    ⟨rfl, (((hx.setCell (by simp; omega) _).setCell (by simp; omega) _).setCell (by simp; omega) _).setCell (by simp; omega) _⟩
theorem one_and (n m : Nat) : (fun j => andN (one n j) (one m j)) = one (andN n m) := by
  funext j
  unfold one
  by_cases h : j = 0 <;> simp [h]
theorem and_one (n m : Nat) (hn : n < 18446744073709551616) (hm : m < 18446744073709551616) (w : World) :
    Calls Tryd.prog 19 #[mset n, mset m] w fun e w' => e = .returned (mset (andN n m)) ∧ Ext w w' := by
  have := and_any (one n) (one m) (one_lt hn) (one_lt hm) w
  rw [one_and] at this
  exact this

theorem each_less (f h : Nat → Nat) (hf : ∀ j, f j < 18446744073709551616) (w : World) :
    Calls Tryd.prog 56 #[cset f, cset h, .func (.func 85) #[] #[]] w fun e w' => e = .returned (cset fun j => lessN (f j) (h j)) ∧ Ext w w' := by
  have HG := Lib.hid (fun (j : Nat) (w : World) => less1 (f j) (h j) (hf j) w)
  clear hf
  generalize hg : (fun j => lessN (f j) (h j)) = g
  have HE := Lib.hid hg
  clear hg
  unfold cset
  go_enter Tryd.func56, Tryd.ntmps56
  go_wp2_with fail
  go_loopw [7, 8] (fun _ i wr => ∃ k : Nat, k ≤ 4 ∧ i = .int .i64 k ∧ Ext w wr ∧ Blk wr w.heap.size 28 (wcells fun j => if j < k then g j else f j) ∧ Blk wr (w.heap.size + 1) 28 (wcells h) ∧ Blk wr (w.heap.size + 1 + 1) 28 (wcells (fun _ => 0)))
    (fun _ i _ => 4 - (intOf i).toNat)
  case atStart => exact ⟨0, by omega, rfl, (((Ext.refl w).alloc _).alloc _).alloc _, ((Blk.new w 28 (wcells f)).alloc _).alloc _, (Blk.new' (by simp) 28 (wcells h)).alloc _, Blk.new' (by simp) 28 (wcells fun _ => 0)⟩
  case round =>
    obtain ⟨k, hk, rfl, hB, h1, h2, h3⟩ := hrel
    by_cases hlt : k < 4
    · have i0 : (0 : Int) ≤ (k : Int) := by omega
      have i4 : (k : Int) < 4 := by omega
      go_wp2_with fail
      have F1 := Lib.hid (fun (w1 : World) (hr : Ext wr.drew w1) => (((h1.ext hr.of_drew).cells k).trans (wcells_get _ hlt)).trans (show _ = some (Value.int .u64 (f k : Nat)) by simp))
      have F2 := Lib.hid (fun (w1 : World) (hr : Ext wr.drew w1) => ((h2.ext hr.of_drew).cells k).trans (wcells_get h hlt))
      refine Seq.drawn (k := 10) (R := Ext) (by kernel_rfl) (by decide) (by kernel_rfl) (fun _ _ _ => Ext.trans) (fun _ _ h => h.size) Ext.refl (At.start ?_)
      iterate 10 (first
        | (refine At.det ?_ (fun val w1 hR _ K hK => ?_) ?_; rotate_left; (have g1 := F1.out _ hR; have g2 := F2.out _ hR; go_simp; exact hK _ (Ext.refl _)); simp only [Act.put, List.setIfInBounds_toArray, List.set_cons_zero, List.set_cons_succ])
        | (refine At.det ?_ (fun val w1 hR _ K hK => ?_) ?_; rotate_left; (go_simp; refine (HG.out k _).mono ?_; rintro e w2 ⟨rfl, rfl⟩; exact hK _ (Ext.refl _)); simp only [Act.put, List.setIfInBounds_toArray, List.set_cons_zero, List.set_cons_succ]))
      refine At.last rfl (fun val w1 hR _ _ => ?_)
      have hr := hR.of_drew
      have d1 := h1.ext hr
      have d2 := h2.ext hr
      have d3 := h3.ext hr
      have d1c := d1.cells k
      rw [wcells_get _ hlt] at d1c
      have d1f := d1.free k
      have hx : Ext w w1 := hB.trans hr
      clear h1 h2 h3 F1 F2 hR hr hB
      go_wp2_with fail
      have e1 : Blk (w1.setCell ⟨w.heap.size, k, none⟩ (.int .u64 (lessN (f k) (h k) : Nat))) w.heap.size 28 (wcells fun j => if j < k + 1 then g j else f j) := by
        have := d1.set k (.int .u64 (lessN (f k) (h k) : Nat))
        rw [wcells_set _ hlt] at this
        rw [← HE.out] at this ⊢
        refine Eq.mp (congrArg (fun q => Blk _ _ _ (wcells q)) ?_) this
        funext j
        by_cases hj : j = k
        · simp [hj]
        · by_cases hj2 : j < k
          · simp [hj, hj2, show j < k + 1 by omega]
          · simp [hj, hj2, show ¬ j < k + 1 by omega]
      exact ⟨⟨k + 1, by omega, by go_num, hx.setCell (Nat.le_refl _) _, e1, d2.far (by simp) _, d3.far (by simp; omega) _⟩, by simp [intOf]; omega⟩
    · have hk4 : k = 4 := by omega
      subst hk4
      have e1 : Blk wr w.heap.size 28 (wcells g) := by
        unfold wcells at h1 ⊢
        simpa using h1
      have c1 := e1.cells
      have c2 := h3.cells
      have f2 := h3.free
      simp only [wcells] at c1 c2
      clear h1 h2
      go_wp2
      exact ret_blk rfl (w.heap.size + 1 + 1) 28 (wcells g) _ rfl ((((h3.set 0 _).set 1 _).set 2 _).set 3 _) Tryd.underlying28 rfl (by kernel_rfl) rfl
        ⟨rfl, (((hB.setCell (by simp; omega) _).setCell (by simp; omega) _).setCell (by simp; omega) _).setCell (by simp; omega) _⟩

theorem less_any (f h : Nat → Nat) (hf : ∀ j, f j < 18446744073709551616) (w : World) :
    Calls Tryd.prog 49 #[cset f, cset h] w fun e w' => e = .returned (cset fun j => lessN (f j) (h j)) ∧ Ext w w' := by
  have HG := Lib.hid (each_less f h hf)
  clear hf
  generalize hg : (fun j => lessN (f j) (h j)) = g at HG
  clear hg
  unfold cset at *
  go_enter Tryd.func49, Tryd.ntmps49
  go_wp2_with fail
  refine (HG.out _).mono ?_
  rintro e w1 ⟨rfl, h1⟩
  have hx : Ext w w1 := ((((Ext.refl w).alloc _).alloc _).alloc _).trans h1
  have b3 := (Blk.new' (b := w.heap.size + 1 + 1) (by simp) 28 (wcells (fun _ => 0))).ext h1
  have c3 := b3.cells
  have f3 := b3.free
  simp only [wcells] at c3
  clear h1
  go_wp2
  exact ret_blk rfl (w.heap.size + 1 + 1) 28 (wcells g) _ rfl ((((b3.set 0 _).set 1 _).set 2 _).set 3 _) Tryd.underlying28 rfl (by kernel_rfl) rfl
    ⟨rfl, (((hx.setCell (by simp; omega) _).setCell (by simp; omega) _).setCell (by simp; omega) _).setCell (by simp; omega) _⟩
theorem one_less (n m : Nat) : (fun j => lessN (one n j) (one m j)) = one (lessN n m) := by
  funext j
  unfold one
  by_cases h : j = 0 <;> simp [h, lessN]
theorem less_one (n m : Nat) (hn : n < 18446744073709551616) (w : World) :
    Calls Tryd.prog 49 #[mset n, mset m] w fun e w' => e = .returned (mset (lessN n m)) ∧ Ext w w' := by
  have := less_any (one n) (one m) (one_lt hn) w
  rw [one_less] at this
  exact this
end Go.Proofs.YtghefhmncpmflaaDoor
