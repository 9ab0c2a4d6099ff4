/-
  The contract of a cache's Done.
-/
import Derived.Test.YtghefhmncpmflaaDoorCa15
namespace Go.Proofs.YtghefhmncpmflaaDoor
open Go.RowKit Go.Rg

def doneE (E : Ent) : Ent := { E with n2 := E.n2 ||| E.n1, f2 := fun i => if E.n1.testBit i then E.f1 i else E.f2 i, dt := 0 }
/-- A cache behind Done. -/
def doneC (C : CSt) (k : Int) : CSt :=
  { C with rows := fun j => if j = k then some (doneE (entOf C k)) else C.rows j, pins := fun j => if j = k then none else C.pins j }
/-- A stripe, some of whose columns are done. -/
def copyE (E : Ent) (cs : List Nat) : Ent := { E with n2 := cs.foldl (fun a c => a ||| 2 ^ c) E.n2, f2 := fun i => if i ∈ cs then E.f1 i else E.f2 i }
theorem fold_bits (cs : List Nat) : ∀ (a i : Nat), (cs.foldl (fun a c => a ||| 2 ^ c) a).testBit i = (a.testBit i || decide (i ∈ cs)) := by
  induction cs with
  | nil => intro a i; simp
  | cons c cs ih =>
    intro a i
    rw [List.foldl_cons, ih, Nat.testBit_or, Nat.testBit_two_pow, Bool.or_assoc]
    congr 1
    rw [Bool.eq_iff_iff]
    simp only [Bool.or_eq_true, decide_eq_true_eq, List.mem_cons]
    exact ⟨fun h => h.imp Eq.symm id, fun h => h.imp Eq.symm id⟩
theorem copyE_snoc (E : Ent) (cs : List Nat) (c : Nat) : copyE E (cs ++ [c]) = { copyE E cs with n2 := (copyE E cs).n2 ||| 2 ^ c, f2 := fun i => if i = c then E.f1 c else (copyE E cs).f2 i } := by
  unfold copyE
  simp only [List.foldl_append, List.foldl_cons, List.foldl_nil, Ent.mk.injEq, true_and, and_true, List.mem_append, List.mem_singleton]
  funext i
  by_cases h : i = c
  · subst h; simp
  · simp [h]
theorem copyE_all (E : Ent) (hn : E.n1 < 18446744073709551616) : { copyE E (bitsTo E.n1 64) with dt := 0 } = doneE E := by
  have hm : ∀ i, i ∈ bitsTo E.n1 64 ↔ E.n1.testBit i = true := fun i => by
    rw [mem_bitsTo]
    refine ⟨fun h => h.2, fun h => ⟨?_, h⟩⟩
    rcases Nat.lt_or_ge i 64 with h1 | h1
    · exact h1
    · have := Nat.testBit_lt_two_pow (Nat.lt_of_lt_of_le hn (show 2 ^ 64 ≤ 2 ^ i from Nat.pow_le_pow_right (by decide) h1))
      rw [this] at h; cases h
  unfold copyE doneE
  simp only [Ent.mk.injEq, true_and, and_true]
  refine ⟨Nat.eq_of_testBit_eq (fun i => ?_), ?_⟩
  · rw [fold_bits, Nat.testBit_or]
    congr 1
    rw [Bool.eq_iff_iff, decide_eq_true_eq]
    exact hm i
  · funext i
    by_cases h : E.n1.testBit i = true
    · rw [if_pos ((hm i).2 h), if_pos h]
    · rw [if_neg (fun h2 => h ((hm i).1 h2)), if_neg h]

theorem done_none (k : Int) (hk : (Lit.int .i64 k).wf = true) (bc : Nat) (C : CSt) (S : Nat → Prop) (w : World) (h : CacheAt w bc C S) (hE : C.rows k = none) :
    Calls Tryd.prog 28 #[.pointer (some ⟨bc, 0, none⟩), .int .i64 k] w fun e w' => e = .returned (.bool false) ∧ w' = w := by
  obtain ⟨bt, br, ev, g1v, g2v, ST, h⟩ := h
  have HR := Lib.hid (row_any k hk bc C S bt br ev g1v g2v ST w h)
  rw [hE] at HR
  clear h hE
  go_enter Tryd.func28, Tryd.ntmps28
  go_wp2_with fail
  refine HR.out.mono ?_
  rintro e w1 ⟨rfl, rfl⟩
  go_wp2_with fail
  go_ret
  exact ⟨rfl, rfl⟩

set_option maxRecDepth 100000 in
set_option maxHeartbeats 4000000 in
theorem done_some (k : Int) (hk : (Lit.int .i64 k).wf = true) (bc : Nat) (C : CSt) (S : Nat → Prop) (w : World) (h : CacheAt w bc C S) (E : Ent) (hE : C.rows k = some E) (hd : C.data ≤ 30) (hi : CI C)
    (hb : ∀ i, E.n1.testBit i = true → i < C.data) (hT : TabAt 1 Lib.deBruijn64tab w) :
    Calls Tryd.prog 28 #[.pointer (some ⟨bc, 0, none⟩), .int .i64 k] w (CPost (.bool true) bc (doneC C k) S w) := by
  obtain ⟨bt, br, ev, g1v, g2v, ST, h⟩ := h
  have HR := Lib.hid (row_any k hk bc C S bt br ev g1v g2v ST w h)
  rw [hE] at HR
  have he := h.ents k E hE
  have HLs := Lib.hid (list_any E.n1 he.lt1 w hT)
  have HH := Lib.hid (And.intro h he)
  have HN := Lib.hid (And.intro hk (And.intro hE (And.intro hd (And.intro (hi.in hE) hb))))
  have k0 := he.ent.cells 0
  have k1 := he.ent.cells 1
  have k2 := he.ent.cells 2
  have k3 := he.ent.cells 3
  simp [entC] at k0 k1 k2 k3
  clear h he hE hd hi hb hT hk
  unfold mset at HLs
  go_enter Tryd.func28, Tryd.ntmps28
  go_wp2_with fail
  refine HR.out.mono ?_
  rintro e w1 ⟨rfl, rfl⟩
  go_wp2_with fail
  refine HLs.out.mono ?_
  rintro e w2 ⟨v, rfl, hints, hfr, hx⟩
  have hcol : ∀ (j : Nat) (c : Nat), (bitsTo E.n1 64)[j]? = some c → c < C.data := fun j c hj => HN.out.2.2.2.2 c (mem_bitsTo.1 (List.mem_of_getElem? hj)).2
  have hlen := bitsTo_len E.n1 64
  have he2 := HH.out.2.ext hx
  have HS := Lib.hid (copyE_snoc E)
  have HCA := Lib.hid (copyE_all E HH.out.2.lt1)
  generalize bitsTo E.n1 64 = cs at *
  have HCol := Lib.hid hcol
  have HX := Lib.hid (And.intro hints (And.intro hfr hx))
  clear hcol hints hfr hx k0 k1 k2 k3
  obtain ⟨vb, vc, rfl⟩ := Ints_slice HX.out.1
  rw [List.length_map]
  have hcs0 : copyE E [] = E := by unfold copyE; simp
  generalize hnn : cs.length = n at *
  have HNN := Lib.hid hnn
  clear hnn
  go_wp2_with fail
  go_loopw [20] (fun i wr => ∃ j : Nat, j ≤ n ∧ i = .int .i64 j ∧ EntAt wr (ev k) (g1v k) (g2v k) (copyE E (cs.take j)) C.data ∧ Chg (fun i => i = ev k ∨ i = g2v k) w2 wr) (fun i _ => n - (intOf i).toNat)
  case atStart => exact ⟨0, by omega, rfl, by rw [List.take_zero, hcs0]; exact he2, Chg.refl _⟩
  case round =>
    clear he2 hcs0
    obtain ⟨j, hj, rfl, he, hch⟩ := hrel
    have HE := Lib.hid (And.intro he hch)
    clear he hch
    by_cases hlt : j < n
    · obtain ⟨c, hc⟩ : ∃ c, cs[j]? = some c := ⟨_, List.getElem?_eq_getElem (by rw [HNN.out]; exact hlt)⟩
      have hcd := HCol.out j c hc
      have hpos : 0 < cs.length := by rw [HNN.out]; omega
      have hints : Ints 3 wr (.slice vb n vc) (cs.map Int.ofNat) := by
        have h1 := HX.out.1
        rw [List.length_map, HNN.out] at h1
        refine h1.chg HE.out.2 (fun g hg hh => ?_)
        have a := HX.out.2.1 g (by cases vb <;> exact hg)
        rcases hh with e1 | e1
        · have := HH.out.2.ent.lt; omega
        · have := HH.out.2.old.lt; omega
      obtain ⟨g, rfl⟩ : ∃ g, vb = some ⟨g, 0, none⟩ := by
        rcases hints.form with ⟨hv, h0⟩ | ⟨g, cap, hv, _⟩
        · have : (cs.map Int.ofNat).length = 0 := by rw [h0]; rfl
          simp at this; rw [this] at hpos; simp at hpos
        · simp only [Value.slice.injEq] at hv
          exact ⟨g, hv.1⟩
      have hcell := hints.cell (j := j) (by rw [List.length_map, HNN.out]; exact hlt)
      have hval : (cs.map Int.ofNat).getD j 0 = (c : Int) := by simp [List.getD, hc]
      rw [hval] at hcell
      have HCC := Lib.hid (And.intro hc hcd)
      have j0 : (0 : Int) ≤ (j : Int) := by omega
      have j1 : (j : Int) < (n : Int) := by omega
      have b0 : (0 : Int) ≤ (c : Int) := by omega
      have b1 : (c : Int) < (C.data : Int) := by omega
      clear hints hc hval hcd hpos
      go_upto_region 7 with (fail)
      have F := Lib.hid (fun (wx : World) (hr : Ext wr.drew wx) => And.intro ((HE.out.1.ent.ext hr.of_drew).cells 4) (((HE.out.1.now.ext hr.of_drew).cells c).trans (strsC_get _ _ HCC.out.2)))
      simp [entC] at F
      refine Seq.drawn (k := 12) (R := Ext) (by kernel_rfl) (by decide) (by kernel_rfl) (fun _ _ _ => Ext.trans) (fun _ _ h => h.size) Ext.refl (At.start ?_)
      (refine At.det ?_ (fun val w1 hR _ K hK => ?_) ?_; rotate_left; (simp only [Act.put, List.setIfInBounds_toArray, List.set_cons_zero, List.set_cons_succ] at hK; go_simp; exact hK _ (Ext.refl _)); simp only [Act.put, List.setIfInBounds_toArray, List.set_cons_zero, List.set_cons_succ])
      (refine At.det ?_ (fun val w1 hR _ K hK => ?_) ?_; rotate_left; (simp only [Act.put, List.setIfInBounds_toArray, List.set_cons_zero, List.set_cons_succ] at hK; go_simp; exact hK _ (Ext.refl _)); simp only [Act.put, List.setIfInBounds_toArray, List.set_cons_zero, List.set_cons_succ])
      (refine At.det ?_ (fun val w1 hR _ K hK => ?_) ?_; rotate_left; (simp only [Act.put, List.setIfInBounds_toArray, List.set_cons_zero, List.set_cons_succ] at hK; go_simp; exact hK _ (Ext.refl _)); simp only [Act.put, List.setIfInBounds_toArray, List.set_cons_zero, List.set_cons_succ])
      (refine At.det ?_ (fun val w1 hR _ K hK => ?_) ?_; rotate_left; (simp only [Act.put, List.setIfInBounds_toArray, List.set_cons_zero, List.set_cons_succ] at hK; go_simp; exact hK _ (Ext.refl _)); simp only [Act.put, List.setIfInBounds_toArray, List.set_cons_zero, List.set_cons_succ])
      (refine At.det ?_ (fun val w1 hR _ K hK => ?_) ?_; rotate_left; (simp only [Act.put, List.setIfInBounds_toArray, List.set_cons_zero, List.set_cons_succ] at hK; go_simp; exact hK _ (Ext.refl _)); simp only [Act.put, List.setIfInBounds_toArray, List.set_cons_zero, List.set_cons_succ])
      (refine At.det ?_ (fun val w1 hR _ K hK => ?_) ?_; rotate_left; (simp only [Act.put, List.setIfInBounds_toArray, List.set_cons_zero, List.set_cons_succ] at hK; go_simp; exact hK _ (Ext.refl _)); simp only [Act.put, List.setIfInBounds_toArray, List.set_cons_zero, List.set_cons_succ])
      (refine At.det ?_ (fun val w1 hR _ K hK => ?_) ?_; rotate_left; (simp only [Act.put, List.setIfInBounds_toArray, List.set_cons_zero, List.set_cons_succ] at hK; go_simp; exact hK _ (Ext.refl _)); simp only [Act.put, List.setIfInBounds_toArray, List.set_cons_zero, List.set_cons_succ])
      (refine At.det ?_ (fun val w1 hR _ K hK => ?_) ?_; rotate_left; (simp only [Act.put, List.setIfInBounds_toArray, List.set_cons_zero, List.set_cons_succ] at hK; go_simp; exact hK _ (Ext.refl _)); simp only [Act.put, List.setIfInBounds_toArray, List.set_cons_zero, List.set_cons_succ])
      (refine At.det ?_ (fun val w1 hR _ K hK => ?_) ?_; rotate_left; (have g1 := (F.out _ hR).1; have g2 := (F.out _ hR).2; simp only [Act.put, List.setIfInBounds_toArray, List.set_cons_zero, List.set_cons_succ] at hK; go_simp; exact hK _ (Ext.refl _)); simp only [Act.put, List.setIfInBounds_toArray, List.set_cons_zero, List.set_cons_succ])
      (refine At.det ?_ (fun val w1 hR _ K hK => ?_) ?_; rotate_left; (simp only [Act.put, List.setIfInBounds_toArray, List.set_cons_zero, List.set_cons_succ] at hK; go_simp; exact hK _ (Ext.refl _)); simp only [Act.put, List.setIfInBounds_toArray, List.set_cons_zero, List.set_cons_succ])
      (refine At.det ?_ (fun val w1 hR _ K hK => ?_) ?_; rotate_left; (simp only [Act.put, List.setIfInBounds_toArray, List.set_cons_zero, List.set_cons_succ] at hK; go_simp; exact hK _ (Ext.refl _)); simp only [Act.put, List.setIfInBounds_toArray, List.set_cons_zero, List.set_cons_succ])
      (refine At.det ?_ (fun val w1 hR _ K hK => ?_) ?_; rotate_left; (have g1 := (F.out _ hR).1; have g2 := (F.out _ hR).2; simp only [Act.put, List.setIfInBounds_toArray, List.set_cons_zero, List.set_cons_succ] at hK; go_simp; exact hK _ (Ext.refl _)); simp only [Act.put, List.setIfInBounds_toArray, List.set_cons_zero, List.set_cons_succ])
      refine At.last rfl (fun val w3 hR hF hN => ?_)
      have hx3 := hR.of_drew
      have HP := Lib.hid (put_old (ev k) (g1v k) (g2v k) C.data c _ ((copyE E (cs.take j)).f1 c) w3 (HE.out.1.ext hx3) HCC.out.2 HN.out.2.2.1)
      have HX3 := Lib.hid hx3
      clear F hR hF hN hx3
      go_wp2_with fail
      refine HP.out.mono ?_
      rintro e w4 ⟨rfl, he4, hch4⟩
      have hnext : copyE E (cs.take (j + 1)) = { copyE E (cs.take j) with n2 := (copyE E (cs.take j)).n2 ||| 2 ^ c, f2 := fun i => if i = c then E.f1 c else (copyE E (cs.take j)).f2 i } := by
        rw [List.take_add_one, HCC.out.1, Option.toList_some, HS.out]
      have HQ := Lib.hid (show EntAt w4 (ev k) (g1v k) (g2v k) (copyE E (cs.take (j + 1))) C.data ∧ Chg (fun i => i = ev k ∨ i = g2v k) w2 w4 from ⟨by rw [hnext]; exact he4, (HE.out.2.ext HX3.out).trans hch4⟩)
      clear he4 hch4 hnext HP
      go_wp2_with fail
      exact ⟨⟨j + 1, by omega, by go_num, HQ.out.1, HQ.out.2⟩, by simp [intOf]; omega⟩
    · have hjn : j = n := by omega
      subst hjn
      have hall : cs.take j = cs := List.take_of_length_le (by rw [HNN.out]; exact Nat.le_refl _)
      have he5 : EntAt wr (ev k) (g1v k) (g2v k) (copyE E cs) C.data := by have := HE.out.1; rw [hall] at this; exact this
      have hch5 := HE.out.2
      have B5 := he5.ent
      have m0 := B5.cells 10
      have m1 := B5.cells 11
      have m2 := B5.cells 12
      have m3 := B5.cells 13
      have f0 := B5.free 10
      have f1 := B5.free 11
      have f2 := B5.free 12
      have f3 := B5.free 13
      simp [entC] at m0 m1 m2 m3
      have n1 : g1v k ≠ ev k := fun e => he5.ne1 e.symm
      have n2 : g2v k ≠ ev k := fun e => he5.ne2 e.symm
      have he6 : EntAt ((((wr.setCell ⟨ev k, 10, none⟩ (.int .u64 0)).setCell ⟨ev k, 11, none⟩ (.int .u64 0)).setCell ⟨ev k, 12, none⟩ (.int .u64 0)).setCell ⟨ev k, 13, none⟩ (.int .u64 0)) (ev k) (g1v k) (g2v k) (doneE E) C.data := by
        rw [← HCA.out]
        exact { ent := ((((B5.set 10 _).set 11 _).set 12 _).set 13 _), now := (((he5.now.far n1 _).far n1 _).far n1 _).far n1 _, old := (((he5.old.far n2 _).far n2 _).far n2 _).far n2 _, ne1 := he5.ne1, ne2 := he5.ne2, ne3 := he5.ne3, lt1 := he5.lt1, lt2 := he5.lt2, lt3 := (show 0 < 18446744073709551616 from by decide) }
      have hch6 : Chg (fun i => i = ev k ∨ i = g1v k ∨ i = g2v k) w1 ((((wr.setCell ⟨ev k, 10, none⟩ (.int .u64 0)).setCell ⟨ev k, 11, none⟩ (.int .u64 0)).setCell ⟨ev k, 12, none⟩ (.int .u64 0)).setCell ⟨ev k, 13, none⟩ (.int .u64 0)) :=
        (((((Chg.of_ext HX.out.2.2).trans (hch5.mono (T := fun i => i = ev k ∨ i = g1v k ∨ i = g2v k) (fun i _ hi => hi.imp id .inr))).setCell (fun _ => .inl rfl) _).setCell (fun _ => .inl rfl) _).setCell (fun _ => .inl rfl) _).setCell (fun _ => .inl rfl) _
      obtain ⟨q1, q2⟩ := HH.out.1.setEnt HN.out.2.1 hch6 (fun i hi => hi) he6
      have HQ := Lib.hid (And.intro q1 q2)
      clear q1 q2 he6 hch6 B5 he5 hch5 hall
      go_upto_region 10 with (fail)
      refine wp_forget (fun wx => CP wx bc { C with rows := fun j => if j = k then some (doneE E) else C.rows j } S bt br ev g1v g2v ST ∧ Chg S w1 wx) HQ.out ?_
      clear HQ m0 m1 m2 m3 f0 f1 f2 f3
      rintro w5 ⟨hcp5, hch5⟩
      have c0 := hcp5.blk.cells 0
      simp at c0
      have HPin := Lib.hid (pin_off k bt _ _ _ _ _ _ _ w5 hcp5.turn HN.out.1 (by rw [Bool.or_comm]; exact HN.out.2.2.2.1))
      have H5 := Lib.hid (And.intro hcp5 hch5)
      clear hcp5 hch5
      go_wp2_with fail
      refine HPin.out.mono ?_
      rintro e w6 ⟨rfl, ht6, hch6⟩
      obtain ⟨r1, r2⟩ := H5.out.1.setTurn' hch6 ht6
      have HR2 := Lib.hid (And.intro r1 r2)
      clear r1 r2 ht6 hch6
      go_wp2_with fail
      go_ret
      have hC : doneC C k = { C with rows := fun j => if j = k then some (doneE E) else C.rows j, pins := fun j => if j = k then none else C.pins j } := by
        simp only [doneC, entOf, HN.out.2.1, Option.getD_some]
      refine ⟨rfl, ?_, H5.out.2.trans HR2.out.2⟩
      rw [hC]
      exact CacheAt.mono ⟨bt, br, ev, g1v, g2v, ST, HR2.out.1⟩ (fun i _ hi => .inl hi)
end Go.Proofs.YtghefhmncpmflaaDoor
