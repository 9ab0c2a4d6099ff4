/-
  A cache's open, Put and Fill, whatever room there is.
-/
import Derived.Test.YtghefhmncpmflaaDoorCb6
namespace Go.Proofs.YtghefhmncpmflaaDoor
open Go.RowKit Go.Rg

set_option maxHeartbeats 2000000 in
theorem open_new2 (k : Int) (c : Nat) (s : ByteArray) (hk0 : 0 ≤ k) (hk1 : k < 64) (hs : s.size = 64) (bc : Nat) (C C' : CSt) (S : Nat → Prop) (bt br : Nat) (ev g1v g2v : Int → Nat) (ST : Nat → Prop) (w : World) (h : CP w bc C S bt br ev g1v g2v ST)
    (hdat : C'.data = C.data) (hc : c < C.data) (hd : C.data ≤ 30) (hE : C.rows k = none) (hE' : C'.rows k = none) (hbig : C'.plain.length + C'.dear.length ≤ 900) (hin : C'.plain.contains k = false) (hin2 : C'.dear.contains k = false)
    (hroom : C'.plain.length + C'.dear.length < C'.most) (hrn : C'.rn < maxLen) (hpl : Calls Tryd.prog 86 #[.pointer (some ⟨bc, 0, none⟩)] w (PlOk bc C' S bt br ev g1v g2v w)) :
    Calls Tryd.prog 60 #[.pointer (some ⟨bc, 0, none⟩), .int .i64 k, .int .i64 c, .string s] w (OpenNew k bc C' S bt br w) := by
  have hwf : (Lit.int .i64 k).wf = true := WalkArith.wf_i64 (by omega)
  have HR := Lib.hid (row_any k hwf bc C S bt br ev g1v g2v ST w h)
  rw [hE] at HR
  have HP := Lib.hid hpl
  have HA := Lib.hid (fun S' ST' w' (h' : CP w' bc C' S' bt br ev g1v g2v ST') => add_any bt k _ _ _ _ _ _ _ w' h'.turn (by omega) hin2 hin hroom)
  have HH := Lib.hid h
  have c0 := h.blk.cells 0
  have c1 := h.blk.cells 1
  simp at c0 c1
  have d1 : decide (k < 0) = false := by simp; omega
  have d2 : decide (64 ≤ k) = false := by simp; omega
  have d3 : decide ((c : Int) < 0) = false := by simp
  have d4 : decide (C.data ≤ c) = false := by simp; omega
  have d5 : ((s.size : Int) != 64) = false := by rw [hs]; rfl
  have HD := Lib.hid (show C'.data ≤ 30 by omega)
  have HRN := Lib.hid (And.intro hrn hE')
  have hz9 : True := trivial
  have HW := Lib.hid hwf
  clear h hin hin2 hrn hE hE' hwf hbig hd hs hk0 hk1 hc hroom hpl hdat
  go_enter Tryd.func60, Tryd.ntmps60
  go_wp2_with fail
  refine HR.out.mono ?_
  rintro e w1 ⟨rfl, rfl⟩
  go_wp2_with fail
  refine HP.out.mono ?_
  rintro e w2 ⟨ST2, rfl, hcp2, hch2⟩
  have H2 := Lib.hid (And.intro hcp2 hch2)
  have c0' := hcp2.blk.cells 0
  simp at c0'
  clear hcp2 hch2
  go_wp2_with fail
  refine (HA.out _ _ _ H2.out.1).mono ?_
  rintro e w3 ⟨rfl, ht, hch⟩
  obtain ⟨q1, q2⟩ := H2.out.1.setTurn hch ht
  have HQ := Lib.hid (And.intro q1 q2)
  clear q1 q2 ht hch c0' c0 c1
  go_upto_region 15 with (fail)
  have c1 := HQ.out.1.blk.cells 1
  have c1a := fun o => (HQ.out.1.blk.alloc o).cells 1
  have c1b := fun o1 o2 => ((HQ.out.1.blk.alloc o1).alloc o2).cells 1
  simp at c1 c1a c1b
  have hmk := run_make104 C'.data HD.out
  generalize hdt : C'.data = dt at c1 c1a c1b hmk
  have HDT := Lib.hid hdt
  clear hdt
  go_region
  all_goals
    go_upto_region 16 with (fail)
    refine wp_forget (fun wx => Ext w3 wx ∧ ∃ ga gb, EntAt wx (w3.heap.size + 1 + 1) ga gb E0 dt ∧ w3.heap.size ≤ ga ∧ w3.heap.size ≤ gb) ?_ ?_
  · refine ⟨((((Ext.refl w3).alloc _).alloc _).alloc _).drew, w3.heap.size, w3.heap.size + 1, ?_, by omega, by omega⟩
    exact { ent := Blk.new' (by simp) 121 _, now := ((Blk.new w3 9 _).alloc _).alloc _, old := (Blk.new' (by simp) 9 _ : Blk ((w3.alloc (.cells (strsC (fun _ => ⟨#[]⟩) dt) 9)).alloc (.cells (strsC (fun _ => ⟨#[]⟩) dt) 9)) (w3.heap.size + 1) 9 (strsC (fun _ => ⟨#[]⟩) dt)).alloc _, ne1 := by omega, ne2 := by omega, ne3 := by omega, lt1 := by decide, lt2 := by decide, lt3 := by decide }
  rotate_left
  · refine ⟨((((Ext.refl w3).alloc _).alloc _).alloc _).drew, w3.heap.size + 1, w3.heap.size, ?_, by omega, by omega⟩
    exact { ent := Blk.new' (by simp) 121 _, old := ((Blk.new w3 9 _).alloc _).alloc _, now := (Blk.new' (by simp) 9 _ : Blk ((w3.alloc (.cells (strsC (fun _ => ⟨#[]⟩) dt) 9)).alloc (.cells (strsC (fun _ => ⟨#[]⟩) dt) 9)) (w3.heap.size + 1) 9 (strsC (fun _ => ⟨#[]⟩) dt)).alloc _, ne1 := by omega, ne2 := by omega, ne3 := by omega, lt1 := by decide, lt2 := by decide, lt3 := by decide }
  all_goals
    rintro w4 ⟨hx4, ga, gb, he4, hga, hgb⟩
    have hcp4 := HQ.out.1.ext hx4
    have c2 := hcp4.blk.cells 2
    simp at c2
    obtain ⟨w5, hrun, hm5, hg5⟩ := MapI.update (t := 111) (e := 115) hcp4.map Tryd.underlying3 Tryd.underlying111 HRN.out.1 HW.out (.pointer (some ⟨w3.heap.size + 1 + 1, 0, none⟩))
    rw [← HDT.out] at he4
    obtain ⟨n1, n2⟩ := CP.newEnt HQ.out.1 HRN.out.2 hx4 he4 ⟨by omega, hga, hgb⟩ hg5 hm5
    have HN := Lib.hid (And.intro n1 n2)
    clear n1 n2 hm5 hg5 he4 hx4 hcp4 c1 c1a c1b hmk
    go_wp2_with fail
    have hg1 := Grow_trans H2.out.2 HQ.out.2
    have s2 := H2.out.2.size
    have s3 := HQ.out.2.size
    have s5 := HN.out.2.size
    have hmono : ∀ i, i < w5.heap.size → Grow (Grow (Grow S w1 w2) w2 w3) w3 w5 i → Grow S w1 w5 i := fun i hi hh => by
      rcases hh with ((hh | hh) | hh) | hh
      · exact .inl hh
      · exact .inr ⟨hh.1, hi⟩
      · exact .inr ⟨by omega, hi⟩
      · exact .inr ⟨by omega, hi⟩
    refine bodyPost_ret (v := .tuple #[.pointer (some ⟨w3.heap.size + 1 + 1, 0, none⟩), .int .i64 0]) (by simp [results, Tryd.results60, go_sem]) rfl ⟨_, _, _, _, ?_, HN.out.1.mono hmono, ?_⟩
    · simp
    · refine hg1.1.trans' HN.out.2 (fun i hi hh => ?_)
      rcases hh with (hh | hh) | hh
      · exact hh
      · omega
      · omega

set_option maxHeartbeats 2000000 in
theorem put_open (k : Int) (c : Nat) (s : ByteArray) (hk0 : 0 ≤ k) (hk1 : k < 64) (bc : Nat) (C : CSt) (S : Nat → Prop) (bt br : Nat) (w : World) (hopen : Calls Tryd.prog 60 #[.pointer (some ⟨bc, 0, none⟩), .int .i64 k, .int .i64 c, .string s] w (OpenPost k bc C S bt br w))
    (hc : c < C.data) (hd : C.data ≤ 30) (hi : CI C) (hpn : C.pn < maxLen) :
    Calls Tryd.prog 26 #[.pointer (some ⟨bc, 0, none⟩), .int .i64 k, .int .i64 c, .string s] w (CPost (.int .i64 0) bc (putC C k c s) S w) := by
  have HO := Lib.hid hopen
  have hwf : (Lit.int .i64 k).wf = true := WalkArith.wf_i64 (by omega)
  have hin := (openC_inv C k hi).1.in (openC_row C k)
  have HN := Lib.hid (And.intro hwf (And.intro hpn (And.intro hc (And.intro hd hin))))
  clear hopen hwf hpn hi hd hk0 hk1 hin hc
  go_enter Tryd.func26, Tryd.ntmps26
  go_wp2_with fail
  refine HO.out.mono ?_
  rintro e w1 ⟨ev1, g1v1, g2v1, ST1, rfl, hcp, hch⟩
  have HC := Lib.hid (And.intro hcp hch)
  have hent := hcp.ents k _ (openC_row C k)
  have HP := Lib.hid (put_now (ev1 k) (g1v1 k) (g2v1 k) C.data c (entOf C k) s w1 hent HN.out.2.2.1 HN.out.2.2.2.1)
  clear hcp hch hent
  go_wp2_with fail
  refine HP.out.mono ?_
  rintro e w2 ⟨rfl, he2, hch2⟩
  have k0 := he2.ent.cells 10
  have k1 := he2.ent.cells 11
  have k2 := he2.ent.cells 12
  have k3 := he2.ent.cells 13
  simp [entC] at k0 k1 k2 k3
  have HE2 := Lib.hid (And.intro he2 hch2)
  have HW := Lib.hid (with_one (entOf C k).dt he2.lt3 c (by have := HN.out.2.2.1; have := HN.out.2.2.2.1; omega))
  unfold mset at HW
  clear he2 hch2
  go_wp2_with fail
  refine (HW.out _).mono ?_
  rintro e w3 ⟨rfl, hx3⟩
  have B3 := HE2.out.1.ent.ext hx3
  have m0 := B3.cells 10
  have m1 := B3.cells 11
  have m2 := B3.cells 12
  have m3 := B3.cells 13
  have f0 := B3.free 10
  have f1 := B3.free 11
  have f2 := B3.free 12
  have f3 := B3.free 13
  simp [entC] at m0 m1 m2 m3
  have he4 : EntAt ((((w3.setCell ⟨ev1 k, 10, none⟩ (.int .u64 ((entOf C k).dt ||| 2 ^ c : Nat))).setCell ⟨ev1 k, 11, none⟩ (.int .u64 0)).setCell ⟨ev1 k, 12, none⟩ (.int .u64 0)).setCell ⟨ev1 k, 13, none⟩ (.int .u64 0)) (ev1 k) (g1v1 k) (g2v1 k) (putE (entOf C k) c s) C.data := by
    have e3 := HE2.out.1.ext hx3
    have hlt : (entOf C k).dt ||| 2 ^ c < 18446744073709551616 := Nat.or_lt_two_pow (n := 64) e3.lt3 (Nat.pow_lt_pow_right (by decide) (by have := HN.out.2.2.1; have := HN.out.2.2.2.1; omega))
    have n1 : g1v1 k ≠ ev1 k := fun e => e3.ne1 e.symm
    have n2 : g2v1 k ≠ ev1 k := fun e => e3.ne2 e.symm
    exact { ent := ((((e3.ent.set 10 _).set 11 _).set 12 _).set 13 _), now := (((e3.now.far n1 _).far n1 _).far n1 _).far n1 _, old := (((e3.old.far n2 _).far n2 _).far n2 _).far n2 _, ne1 := e3.ne1, ne2 := e3.ne2, ne3 := e3.ne3, lt1 := e3.lt1, lt2 := e3.lt2, lt3 := hlt }
  have hch4 : Chg (fun i => i = ev1 k ∨ i = g1v1 k) w1 ((((w3.setCell ⟨ev1 k, 10, none⟩ (.int .u64 ((entOf C k).dt ||| 2 ^ c : Nat))).setCell ⟨ev1 k, 11, none⟩ (.int .u64 0)).setCell ⟨ev1 k, 12, none⟩ (.int .u64 0)).setCell ⟨ev1 k, 13, none⟩ (.int .u64 0)) :=
    ((((HE2.out.2.ext hx3).setCell (fun _ => .inl rfl) _).setCell (fun _ => .inl rfl) _).setCell (fun _ => .inl rfl) _).setCell (fun _ => .inl rfl) _
  obtain ⟨q1, q2⟩ := HC.out.1.setEnt (openC_row C k) hch4 (fun i hi => hi.elim .inl (fun h => .inr (.inl h))) he4
  have HQ := Lib.hid (And.intro q1 q2)
  clear q1 q2 he4 hch4 B3 k0 k1 k2 k3 hx3 HP HW
  go_upto_region 6 with (fail)
  refine wp_forget (fun wx => CP wx bc { openC C k with rows := fun j => if j = k then some (putE (entOf C k) c s) else (openC C k).rows j } (Grow S w w1) bt br ev1 g1v1 g2v1 ST1 ∧ Chg (Grow S w w1) w1 wx) HQ.out ?_
  clear HQ m0 m1 m2 m3 f0 f1 f2 f3 HE2
  rintro w5 ⟨hcp5, hch5⟩
  have c0 := hcp5.blk.cells 0
  simp at c0
  have HPin := Lib.hid (pin_on k bt _ _ _ _ _ _ _ w5 hcp5.turn HN.out.1 HN.out.2.1 (by rw [Bool.or_comm]; exact HN.out.2.2.2.2))
  have H5 := Lib.hid (And.intro hcp5 hch5)
  clear hcp5 hch5
  go_wp2_with fail
  refine HPin.out.mono ?_
  rintro e w6 ⟨rfl, ht6, hch6⟩
  obtain ⟨r1, r2⟩ := H5.out.1.setTurn' hch6 ht6
  have HR := Lib.hid (And.intro r1 r2)
  clear r1 r2 ht6 hch6
  go_wp2_with fail
  go_ret
  have hg := Grow_trans HC.out.2 (H5.out.2.trans HR.out.2)
  refine ⟨rfl, ?_, hg.1⟩
  have hfin := HR.out.1.mono (T := Grow S w w6) (fun i hi hh => hg.2 i hi (.inl hh))
  have hC : putC C k c s = { openC C k with rows := fun j => if j = k then some (putE (entOf C k) c s) else (openC C k).rows j, pins := fun j => if j = k then some (.bool true) else C.pins j, pn := C.pn + 1 } := by
    simp only [putC, openC, CSt.mk.injEq, true_and, and_true]
    funext j
    by_cases e : j = k <;> simp [e]
  rw [hC]
  exact ⟨bt, br, ev1, g1v1, g2v1, ST1, hfin⟩


set_option maxHeartbeats 2000000 in
theorem fill_open (k : Int) (c : Nat) (s : ByteArray) (bc : Nat) (C : CSt) (S : Nat → Prop) (bt br : Nat) (w : World) (hopen : Calls Tryd.prog 60 #[.pointer (some ⟨bc, 0, none⟩), .int .i64 k, .int .i64 c, .string s] w (OpenPost k bc C S bt br w))
    (hc : c < C.data) (hd : C.data ≤ 30) :
    Calls Tryd.prog 27 #[.pointer (some ⟨bc, 0, none⟩), .int .i64 k, .int .i64 c, .string s] w (CPost (.int .i64 0) bc (fillC C k c s) S w) := by
  have HO := Lib.hid hopen
  have HN := Lib.hid (And.intro hc hd)
  have hrow : (fun j => if j = k then some (fillE (entOf C k) c s) else (openC C k).rows j) = (fillC C k c s).rows := by
    funext j; by_cases e : j = k <;> simp [openC, fillC, e]
  have HRow := Lib.hid hrow
  clear hopen hd hc hrow
  have hfE : fillE (entOf C k) c s = if (entOf C k).dt.testBit c then { entOf C k with n2 := (entOf C k).n2 ||| 2 ^ c, f2 := fun i => if i = c then s else (entOf C k).f2 i } else { entOf C k with n2 := (entOf C k).n2 ||| 2 ^ c, f2 := fun i => if i = c then s else (entOf C k).f2 i, n1 := (entOf C k).n1 ||| 2 ^ c, f1 := fun i => if i = c then s else (entOf C k).f1 i } := rfl
  have HF := Lib.hid hfE
  clear hfE
  go_enter Tryd.func27, Tryd.ntmps27
  go_wp2_with fail
  refine HO.out.mono ?_
  rintro e w1 ⟨ev1, g1v1, g2v1, ST1, rfl, hcp, hch⟩
  have HC := Lib.hid (And.intro hcp hch)
  have hent := hcp.ents k _ (openC_row C k)
  have HP := Lib.hid (put_old (ev1 k) (g1v1 k) (g2v1 k) C.data c (entOf C k) s w1 hent HN.out.1 HN.out.2)
  clear hcp hch hent
  go_wp2_with fail
  refine HP.out.mono ?_
  rintro e w2 ⟨rfl, he2, hch2⟩
  have k0 := he2.ent.cells 10
  have k1 := he2.ent.cells 11
  have k2 := he2.ent.cells 12
  have k3 := he2.ent.cells 13
  simp [entC] at k0 k1 k2 k3
  have HE2 := Lib.hid (And.intro he2 hch2)
  have HW := Lib.hid (has_one (entOf C k).dt he2.lt3 c (by have := HN.out.1; have := HN.out.2; omega))
  unfold mset at HW
  clear he2 hch2
  generalize hdt : (entOf C k).dt.testBit c = tb at *
  cases tb
  · go_wp2_with fail
    refine (HW.out _).mono ?_
    rintro e w3 ⟨rfl, hx3⟩
    have he3 := HE2.out.1.ext hx3
    have HP2 := Lib.hid (put_now (ev1 k) (g1v1 k) (g2v1 k) C.data c _ s w3 he3 HN.out.1 HN.out.2)
    have HX3 := Lib.hid hx3
    clear hx3 he3
    go_wp2_with fail
    refine HP2.out.mono ?_
    rintro e w4 ⟨rfl, he4, hch4⟩
    have hE : fillE (entOf C k) c s = { entOf C k with n2 := (entOf C k).n2 ||| 2 ^ c, f2 := fun i => if i = c then s else (entOf C k).f2 i, n1 := (entOf C k).n1 ||| 2 ^ c, f1 := fun i => if i = c then s else (entOf C k).f1 i } := by
      rw [HF.out]; rfl
    have hcc : Chg (fun i => i = ev1 k ∨ i = g1v1 k ∨ i = g2v1 k) w1 w4 := ((HE2.out.2.mono (fun i _ hi => hi.imp id .inr)).ext HX3.out).trans' (hch4.mono (T := fun i => i = ev1 k ∨ i = g1v1 k ∨ i = g2v1 k) (fun i _ hi => hi.imp id .inl)) (fun _ _ h => h)
    have he5 : EntAt w4 (ev1 k) (g1v1 k) (g2v1 k) (fillE (entOf C k) c s) C.data := by rw [hE]; exact he4
    obtain ⟨q1, q2⟩ := HC.out.1.setEnt (openC_row C k) hcc (fun i hi => hi) he5
    have HQ := Lib.hid (And.intro q1 q2)
    clear q1 q2 he5 hcc he4 hch4 hE
    go_wp2_with fail
    go_ret
    have hg := Grow_trans HC.out.2 HQ.out.2
    refine ⟨rfl, ?_, hg.1⟩
    have hfin := HQ.out.1.mono (T := Grow S w w4) (fun i hi hh => hg.2 i hi (.inl hh))
    rw [HRow.out] at hfin
    exact ⟨bt, br, ev1, g1v1, g2v1, ST1, hfin⟩
  · go_wp2_with fail
    refine (HW.out _).mono ?_
    rintro e w3 ⟨rfl, hx3⟩
    have he3 := HE2.out.1.ext hx3
    have hE : fillE (entOf C k) c s = { entOf C k with n2 := (entOf C k).n2 ||| 2 ^ c, f2 := fun i => if i = c then s else (entOf C k).f2 i } := by
      rw [HF.out]; rfl
    have hcc : Chg (fun i => i = ev1 k ∨ i = g1v1 k ∨ i = g2v1 k) w1 w3 := (HE2.out.2.mono (fun i _ hi => hi.imp id .inr)).ext hx3
    have he5 : EntAt w3 (ev1 k) (g1v1 k) (g2v1 k) (fillE (entOf C k) c s) C.data := by rw [hE]; exact he3
    obtain ⟨q1, q2⟩ := HC.out.1.setEnt (openC_row C k) hcc (fun i hi => hi) he5
    have HQ := Lib.hid (And.intro q1 q2)
    clear q1 q2 he5 hcc he3 hE hx3
    go_wp2_with fail
    go_ret
    have hg := Grow_trans HC.out.2 HQ.out.2
    refine ⟨rfl, ?_, hg.1⟩
    have hfin := HQ.out.1.mono (T := Grow S w w3) (fun i hi hh => hg.2 i hi (.inl hh))
    rw [HRow.out] at hfin
    exact ⟨bt, br, ev1, g1v1, g2v1, ST1, hfin⟩

end Go.Proofs.YtghefhmncpmflaaDoor
