/-
  Contracts of a cache: Put, Fill, Old, Get.
-/
import Derived.Test.YtghefhmncpmflaaDoorCa13
namespace Go.Proofs.YtghefhmncpmflaaDoor
open Go.RowKit Go.Rg

def putE (E : Ent) (c : Nat) (s : ByteArray) : Ent := { E with n1 := E.n1 ||| 2 ^ c, f1 := fun i => if i = c then s else E.f1 i, dt := E.dt ||| 2 ^ c }
def fillE (E : Ent) (c : Nat) (s : ByteArray) : Ent :=
  if E.dt.testBit c then { E with n2 := E.n2 ||| 2 ^ c, f2 := fun i => if i = c then s else E.f2 i }
  else { E with n2 := E.n2 ||| 2 ^ c, f2 := fun i => if i = c then s else E.f2 i, n1 := E.n1 ||| 2 ^ c, f1 := fun i => if i = c then s else E.f1 i }
/-- A cache behind Put. -/
def putC (C : CSt) (k : Int) (c : Nat) (s : ByteArray) : CSt :=
  { openC C k with rows := fun j => if j = k then some (putE (entOf C k) c s) else C.rows j, pins := fun j => if j = k then some (.bool true) else C.pins j, pn := C.pn + 1 }
def fillC (C : CSt) (k : Int) (c : Nat) (s : ByteArray) : CSt :=
  { openC C k with rows := fun j => if j = k then some (fillE (entOf C k) c s) else C.rows j }

def CPost (v : Value) (bc : Nat) (C : CSt) (S : Nat → Prop) (w : World) (e : Ending) (w' : World) : Prop :=
  e = .returned v ∧ CacheAt w' bc C (Grow S w w') ∧ Chg S w w'
theorem CI.rows {C : CSt} (h : CI C) {rows : Int → Option Ent} (hr : ∀ j, (rows j).isSome = (C.rows j).isSome) {pins : Int → Option Value} {pn rn : Nat} : CI { C with rows := rows, pins := pins, pn := pn, rn := rn } :=
  ⟨h.nd, fun j => by rw [hr j]; exact h.link j⟩
theorem putC_inv (C : CSt) (k : Int) (c : Nat) (s : ByteArray) (h : CI C) : CI (putC C k c s) ∧ (putC C k c s).plain.length + (putC C k c s).dear.length ≤ C.plain.length + C.dear.length + 1 := by
  obtain ⟨h1, h2⟩ := openC_inv C k h
  refine ⟨h1.rows (fun j => ?_), h2⟩
  by_cases e : j = k <;> simp [openC, e]
theorem fillC_inv (C : CSt) (k : Int) (c : Nat) (s : ByteArray) (h : CI C) : CI (fillC C k c s) ∧ (fillC C k c s).plain.length + (fillC C k c s).dear.length ≤ C.plain.length + C.dear.length + 1 := by
  obtain ⟨h1, h2⟩ := openC_inv C k h
  refine ⟨⟨h1.nd, fun j => ?_⟩, h2⟩
  refine Iff.trans ?_ (h1.link j)
  by_cases e : j = k <;> simp [openC, fillC, e]

set_option maxHeartbeats 2000000 in
theorem put_any (k : Int) (c : Nat) (s : ByteArray) (hk0 : 0 ≤ k) (hk1 : k < 64) (hs : s.size = 64) (bc : Nat) (C : CSt) (S : Nat → Prop) (w : World) (h : CacheAt w bc C S)
    (hc : c < C.data) (hd : C.data ≤ 30) (hi : CI C) (hbig : C.plain.length + C.dear.length ≤ 800) (hroom : C.rows k = none → C.plain.length + C.dear.length < C.most) (hrn : C.rn < maxLen) (hpn : C.pn < maxLen) :
    Calls Tryd.prog 26 #[.pointer (some ⟨bc, 0, none⟩), .int .i64 k, .int .i64 c, .string s] w (CPost (.int .i64 0) bc (putC C k c s) S w) := by
  obtain ⟨bt, br, ev, g1v, g2v, ST, h⟩ := h
  have HO := Lib.hid (open_any k c s hk0 hk1 hs bc C S bt br ev g1v g2v ST w h hc hd hi (by omega) hroom hrn)
  have hwf : (Lit.int .i64 k).wf = true := WalkArith.wf_i64 (by omega)
  have hin := (openC_inv C k hi).1.in (openC_row C k)
  have HN := Lib.hid (And.intro hwf (And.intro hpn (And.intro hc (And.intro hd hin))))
  clear h hwf hpn hrn hroom hbig hi hd hs hk0 hk1 hin hc
  go_enter Tryd.func26, Tryd.ntmps26
  go_wp2_with fail
  refine HO.out.mono ?_
  rintro e w1 ⟨ev1, g1v1, g2v1, ST1, rfl, hcp, hch⟩
  have HC := Lib.hid (And.intro hcp hch)
  have hent := hcp.ents k _ (openC_row C k)
  have HP := Lib.hid (put_now (ev1 k) (g1v1 k) (g2v1 k) C.data c (entOf C k) s w1 hent HN.out.2.2.1 HN.out.2.2.2.1)
  clear hcp hch hent
  go_wp2_with fail
  refine HP.out.mono ?_
  rintro e w2 ⟨rfl, he2, hch2⟩
  have k0 := he2.ent.cells 10
  have k1 := he2.ent.cells 11
  have k2 := he2.ent.cells 12
  have k3 := he2.ent.cells 13
  simp [entC] at k0 k1 k2 k3
  have HE2 := Lib.hid (And.intro he2 hch2)
  have HW := Lib.hid (with_one (entOf C k).dt he2.lt3 c (by have := HN.out.2.2.1; have := HN.out.2.2.2.1; omega))
  unfold mset at HW
  clear he2 hch2
  go_wp2_with fail
  refine (HW.out _).mono ?_
  rintro e w3 ⟨rfl, hx3⟩
  have B3 := HE2.out.1.ent.ext hx3
  have m0 := B3.cells 10
  have m1 := B3.cells 11
  have m2 := B3.cells 12
  have m3 := B3.cells 13
  have f0 := B3.free 10
  have f1 := B3.free 11
  have f2 := B3.free 12
  have f3 := B3.free 13
  simp [entC] at m0 m1 m2 m3
  have he4 : EntAt ((((w3.setCell ⟨ev1 k, 10, none⟩ (.int .u64 ((entOf C k).dt ||| 2 ^ c : Nat))).setCell ⟨ev1 k, 11, none⟩ (.int .u64 0)).setCell ⟨ev1 k, 12, none⟩ (.int .u64 0)).setCell ⟨ev1 k, 13, none⟩ (.int .u64 0)) (ev1 k) (g1v1 k) (g2v1 k) (putE (entOf C k) c s) C.data := by
    have e3 := HE2.out.1.ext hx3
    have hlt : (entOf C k).dt ||| 2 ^ c < 18446744073709551616 := Nat.or_lt_two_pow (n := 64) e3.lt3 (Nat.pow_lt_pow_right (by decide) (by have := HN.out.2.2.1; have := HN.out.2.2.2.1; omega))
    have n1 : g1v1 k ≠ ev1 k := fun e => e3.ne1 e.symm
    have n2 : g2v1 k ≠ ev1 k := fun e => e3.ne2 e.symm
    exact { ent := ((((e3.ent.set 10 _).set 11 _).set 12 _).set 13 _), now := (((e3.now.far n1 _).far n1 _).far n1 _).far n1 _, old := (((e3.old.far n2 _).far n2 _).far n2 _).far n2 _, ne1 := e3.ne1, ne2 := e3.ne2, ne3 := e3.ne3, lt1 := e3.lt1, lt2 := e3.lt2, lt3 := hlt }
  have hch4 : Chg (fun i => i = ev1 k ∨ i = g1v1 k) w1 ((((w3.setCell ⟨ev1 k, 10, none⟩ (.int .u64 ((entOf C k).dt ||| 2 ^ c : Nat))).setCell ⟨ev1 k, 11, none⟩ (.int .u64 0)).setCell ⟨ev1 k, 12, none⟩ (.int .u64 0)).setCell ⟨ev1 k, 13, none⟩ (.int .u64 0)) :=
    ((((HE2.out.2.ext hx3).setCell (fun _ => .inl rfl) _).setCell (fun _ => .inl rfl) _).setCell (fun _ => .inl rfl) _).setCell (fun _ => .inl rfl) _
  obtain ⟨q1, q2⟩ := HC.out.1.setEnt (openC_row C k) hch4 (fun i hi => hi.elim .inl (fun h => .inr (.inl h))) he4
  have HQ := Lib.hid (And.intro q1 q2)
  clear q1 q2 he4 hch4 B3 k0 k1 k2 k3 hx3 HP HW
  go_upto_region 6 with (fail)
  refine wp_forget (fun wx => CP wx bc { openC C k with rows := fun j => if j = k then some (putE (entOf C k) c s) else (openC C k).rows j } (Grow S w w1) bt br ev1 g1v1 g2v1 ST1 ∧ Chg (Grow S w w1) w1 wx) HQ.out ?_
  clear HQ m0 m1 m2 m3 f0 f1 f2 f3 HE2
  rintro w5 ⟨hcp5, hch5⟩
  have c0 := hcp5.blk.cells 0
  simp at c0
  have HPin := Lib.hid (pin_on k bt _ _ _ _ _ _ _ w5 hcp5.turn HN.out.1 HN.out.2.1 (by rw [Bool.or_comm]; exact HN.out.2.2.2.2))
  have H5 := Lib.hid (And.intro hcp5 hch5)
  clear hcp5 hch5
  go_wp2_with fail
  refine HPin.out.mono ?_
  rintro e w6 ⟨rfl, ht6, hch6⟩
  obtain ⟨r1, r2⟩ := H5.out.1.setTurn' hch6 ht6
  have HR := Lib.hid (And.intro r1 r2)
  clear r1 r2 ht6 hch6
  go_wp2_with fail
  go_ret
  have hg := Grow_trans HC.out.2 (H5.out.2.trans HR.out.2)
  refine ⟨rfl, ?_, hg.1⟩
  have hfin := HR.out.1.mono (T := Grow S w w6) (fun i hi hh => hg.2 i hi (.inl hh))
  have hC : putC C k c s = { openC C k with rows := fun j => if j = k then some (putE (entOf C k) c s) else (openC C k).rows j, pins := fun j => if j = k then some (.bool true) else C.pins j, pn := C.pn + 1 } := by
    simp only [putC, openC, CSt.mk.injEq, true_and, and_true]
    funext j
    by_cases e : j = k <;> simp [e]
  rw [hC]
  exact ⟨bt, br, ev1, g1v1, g2v1, ST1, hfin⟩

set_option maxHeartbeats 2000000 in
theorem fill_any (k : Int) (c : Nat) (s : ByteArray) (hk0 : 0 ≤ k) (hk1 : k < 64) (hs : s.size = 64) (bc : Nat) (C : CSt) (S : Nat → Prop) (w : World) (h : CacheAt w bc C S)
    (hc : c < C.data) (hd : C.data ≤ 30) (hi : CI C) (hbig : C.plain.length + C.dear.length ≤ 800) (hroom : C.rows k = none → C.plain.length + C.dear.length < C.most) (hrn : C.rn < maxLen) :
    Calls Tryd.prog 27 #[.pointer (some ⟨bc, 0, none⟩), .int .i64 k, .int .i64 c, .string s] w (CPost (.int .i64 0) bc (fillC C k c s) S w) := by
  obtain ⟨bt, br, ev, g1v, g2v, ST, h⟩ := h
  have HO := Lib.hid (open_any k c s hk0 hk1 hs bc C S bt br ev g1v g2v ST w h hc hd hi (by omega) hroom hrn)
  have HN := Lib.hid (And.intro hc hd)
  have hrow : (fun j => if j = k then some (fillE (entOf C k) c s) else (openC C k).rows j) = (fillC C k c s).rows := by
    funext j; by_cases e : j = k <;> simp [openC, fillC, e]
  have HRow := Lib.hid hrow
  clear h hrn hroom hbig hi hd hs hk0 hk1 hc hrow
  have hfE : fillE (entOf C k) c s = if (entOf C k).dt.testBit c then { entOf C k with n2 := (entOf C k).n2 ||| 2 ^ c, f2 := fun i => if i = c then s else (entOf C k).f2 i } else { entOf C k with n2 := (entOf C k).n2 ||| 2 ^ c, f2 := fun i => if i = c then s else (entOf C k).f2 i, n1 := (entOf C k).n1 ||| 2 ^ c, f1 := fun i => if i = c then s else (entOf C k).f1 i } := rfl
  have HF := Lib.hid hfE
  clear hfE
  go_enter Tryd.func27, Tryd.ntmps27
  go_wp2_with fail
  refine HO.out.mono ?_
  rintro e w1 ⟨ev1, g1v1, g2v1, ST1, rfl, hcp, hch⟩
  have HC := Lib.hid (And.intro hcp hch)
  have hent := hcp.ents k _ (openC_row C k)
  have HP := Lib.hid (put_old (ev1 k) (g1v1 k) (g2v1 k) C.data c (entOf C k) s w1 hent HN.out.1 HN.out.2)
  clear hcp hch hent
  go_wp2_with fail
  refine HP.out.mono ?_
  rintro e w2 ⟨rfl, he2, hch2⟩
  have k0 := he2.ent.cells 10
  have k1 := he2.ent.cells 11
  have k2 := he2.ent.cells 12
  have k3 := he2.ent.cells 13
  simp [entC] at k0 k1 k2 k3
  have HE2 := Lib.hid (And.intro he2 hch2)
  have HW := Lib.hid (has_one (entOf C k).dt he2.lt3 c (by have := HN.out.1; have := HN.out.2; omega))
  unfold mset at HW
  clear he2 hch2
  generalize hdt : (entOf C k).dt.testBit c = tb at *
  cases tb
  · go_wp2_with fail
    refine (HW.out _).mono ?_
    rintro e w3 ⟨rfl, hx3⟩
    have he3 := HE2.out.1.ext hx3
    have HP2 := Lib.hid (put_now (ev1 k) (g1v1 k) (g2v1 k) C.data c _ s w3 he3 HN.out.1 HN.out.2)
    have HX3 := Lib.hid hx3
    clear hx3 he3
    go_wp2_with fail
    refine HP2.out.mono ?_
    rintro e w4 ⟨rfl, he4, hch4⟩
    have hE : fillE (entOf C k) c s = { entOf C k with n2 := (entOf C k).n2 ||| 2 ^ c, f2 := fun i => if i = c then s else (entOf C k).f2 i, n1 := (entOf C k).n1 ||| 2 ^ c, f1 := fun i => if i = c then s else (entOf C k).f1 i } := by
      rw [HF.out]; rfl
    have hcc : Chg (fun i => i = ev1 k ∨ i = g1v1 k ∨ i = g2v1 k) w1 w4 := ((HE2.out.2.mono (fun i _ hi => hi.imp id .inr)).ext HX3.out).trans' (hch4.mono (T := fun i => i = ev1 k ∨ i = g1v1 k ∨ i = g2v1 k) (fun i _ hi => hi.imp id .inl)) (fun _ _ h => h)
    have he5 : EntAt w4 (ev1 k) (g1v1 k) (g2v1 k) (fillE (entOf C k) c s) C.data := by rw [hE]; exact he4
    obtain ⟨q1, q2⟩ := HC.out.1.setEnt (openC_row C k) hcc (fun i hi => hi) he5
    have HQ := Lib.hid (And.intro q1 q2)
    clear q1 q2 he5 hcc he4 hch4 hE
    go_wp2_with fail
    go_ret
    have hg := Grow_trans HC.out.2 HQ.out.2
    refine ⟨rfl, ?_, hg.1⟩
    have hfin := HQ.out.1.mono (T := Grow S w w4) (fun i hi hh => hg.2 i hi (.inl hh))
    rw [HRow.out] at hfin
    exact ⟨bt, br, ev1, g1v1, g2v1, ST1, hfin⟩
  · go_wp2_with fail
    refine (HW.out _).mono ?_
    rintro e w3 ⟨rfl, hx3⟩
    have he3 := HE2.out.1.ext hx3
    have hE : fillE (entOf C k) c s = { entOf C k with n2 := (entOf C k).n2 ||| 2 ^ c, f2 := fun i => if i = c then s else (entOf C k).f2 i } := by
      rw [HF.out]; rfl
    have hcc : Chg (fun i => i = ev1 k ∨ i = g1v1 k ∨ i = g2v1 k) w1 w3 := (HE2.out.2.mono (fun i _ hi => hi.imp id .inr)).ext hx3
    have he5 : EntAt w3 (ev1 k) (g1v1 k) (g2v1 k) (fillE (entOf C k) c s) C.data := by rw [hE]; exact he3
    obtain ⟨q1, q2⟩ := HC.out.1.setEnt (openC_row C k) hcc (fun i hi => hi) he5
    have HQ := Lib.hid (And.intro q1 q2)
    clear q1 q2 he5 hcc he3 hE hx3
    go_wp2_with fail
    go_ret
    have hg := Grow_trans HC.out.2 HQ.out.2
    refine ⟨rfl, ?_, hg.1⟩
    have hfin := HQ.out.1.mono (T := Grow S w w3) (fun i hi hh => hg.2 i hi (.inl hh))
    rw [HRow.out] at hfin
    exact ⟨bt, br, ev1, g1v1, g2v1, ST1, hfin⟩

/-- What is old of a column. -/
theorem old_any (k : Int) (c : Nat) (hk : (Lit.int .i64 k).wf = true) (bc : Nat) (C : CSt) (S : Nat → Prop) (w : World) (h : CacheAt w bc C S) (hc : c < C.data) (hd : C.data ≤ 30) :
    Calls Tryd.prog 29 #[.pointer (some ⟨bc, 0, none⟩), .int .i64 k, .int .i64 c] w fun e w' => e = .returned (.tuple #[.string (gotS (entOf C k).n2 (entOf C k).f2 c), .bool ((entOf C k).n2.testBit c)]) ∧ Ext w w' := by
  obtain ⟨bt, br, ev, g1v, g2v, ST, h⟩ := h
  have HR := Lib.hid (row_any k hk bc C S bt br ev g1v g2v ST w h)
  cases hE : C.rows k with
  | none =>
    rw [hE] at HR
    have he : entOf C k = E0 := by simp [entOf, hE]
    rw [he, show gotS E0.n2 E0.f2 c = ⟨#[]⟩ from by simp [gotS, E0], show E0.n2.testBit c = false from by simp [E0]]
    clear h he hE
    go_enter Tryd.func29, Tryd.ntmps29
    go_wp2_with fail
    refine HR.out.mono ?_
    rintro e w1 ⟨rfl, rfl⟩
    go_wp2_with fail
    go_ret2
    exact ⟨rfl, Ext.refl _⟩
  | some E =>
    rw [hE] at HR
    have he : entOf C k = E := by simp [entOf, hE]
    rw [he]
    have HG := Lib.hid (get_old (ev k) (g1v k) (g2v k) C.data c E w (h.ents k E hE) hc hd)
    clear h he hE
    generalize gotS E.n2 E.f2 c = gs at *
    generalize E.n2.testBit c = tb at *
    go_enter Tryd.func29, Tryd.ntmps29
    go_wp2_with fail
    refine HR.out.mono ?_
    rintro e w1 ⟨rfl, rfl⟩
    go_wp2_with fail
    refine HG.out.mono ?_
    rintro e w2 ⟨rfl, hx⟩
    go_wp2_with fail
    go_ret2
    exact ⟨rfl, hx⟩

/-- A cache behind Get. -/
def getC (C : CSt) (k : Int) (c : Nat) : CSt :=
  if (entOf C k).n1.testBit c then { C with plain := (touchL C.limit C.plain C.dear k).1, dear := (touchL C.limit C.plain C.dear k).2 } else C
def GPost (s : ByteArray) (b : Bool) (bc : Nat) (C : CSt) (S : Nat → Prop) (w : World) (e : Ending) (w' : World) : Prop :=
  e = .returned (.tuple #[.string s, .bool b]) ∧ CacheAt w' bc C (Grow S w w') ∧ Chg S w w'
theorem getC_inv (C : CSt) (k : Int) (c : Nat) (h : CI C) : CI (getC C k c) ∧ (getC C k c).plain.length + (getC C k c).dear.length = C.plain.length + C.dear.length := by
  unfold getC
  split
  · rename_i ht
    cases hE : C.rows k with
    | none => simp [entOf, hE, E0] at ht
    | some E =>
      have hin : k ∈ C.plain ++ C.dear := (h.link k).1 (by rw [hE]; rfl)
      have hp := touch_perm C.limit C.plain C.dear k h.nd hin
      refine ⟨⟨hp.nodup_iff.2 h.nd, fun j => ?_⟩, ?_⟩
      · exact (h.link j).trans hp.mem_iff.symm
      · have := hp.length_eq
        simp only [List.length_append] at this
        exact this
  · exact ⟨h, rfl⟩

set_option maxHeartbeats 1000000 in
theorem get_any (k : Int) (c : Nat) (hk : (Lit.int .i64 k).wf = true) (bc : Nat) (C : CSt) (S : Nat → Prop) (w : World) (h : CacheAt w bc C S) (hc : c < C.data) (hd : C.data ≤ 30) (hi : CI C) (hbig : C.plain.length + C.dear.length ≤ 800) :
    Calls Tryd.prog 30 #[.pointer (some ⟨bc, 0, none⟩), .int .i64 k, .int .i64 c] w (GPost (gotS (entOf C k).n1 (entOf C k).f1 c) ((entOf C k).n1.testBit c) bc (getC C k c) S w) := by
  obtain ⟨bt, br, ev, g1v, g2v, ST, h⟩ := h
  have HR := Lib.hid (row_any k hk bc C S bt br ev g1v g2v ST w h)
  have HG0 := Lib.hid (show getC C k c = if (entOf C k).n1.testBit c then { C with plain := (touchL C.limit C.plain C.dear k).1, dear := (touchL C.limit C.plain C.dear k).2 } else C from rfl)
  generalize getC C k c = C' at *
  cases hE : C.rows k with
  | none =>
    rw [hE] at HR
    have he : entOf C k = E0 := by simp [entOf, hE]
    rw [he] at HG0 ⊢
    rw [show E0.n1.testBit c = false from by simp [E0]] at HG0 ⊢
    rw [show gotS E0.n1 E0.f1 c = ⟨#[]⟩ from by simp [gotS, E0]]
    have HH := Lib.hid h
    clear h he hE
    go_enter Tryd.func30, Tryd.ntmps30
    go_wp2_with fail
    refine HR.out.mono ?_
    rintro e w1 ⟨rfl, rfl⟩
    go_wp2_with fail
    go_ret2
    refine ⟨rfl, ?_, Chg.refl _⟩
    rw [HG0.out]
    exact CacheAt.mono ⟨bt, br, ev, g1v, g2v, ST, HH.out⟩ (fun i _ hi => .inl hi)
  | some E =>
    rw [hE] at HR
    have he : entOf C k = E := by simp [entOf, hE]
    rw [he] at HG0 ⊢
    have HG := Lib.hid (get_now (ev k) (g1v k) (g2v k) C.data c E w (h.ents k E hE) hc hd)
    have HT := Lib.hid (fun w' (he : Ext w w') => touch_yes k bt _ _ _ _ _ _ _ w' (h.turn.ext he) (by omega) (hi.in hE))
    have HH := Lib.hid h
    have c0 := h.blk.cells 0
    simp at c0
    clear h he hE hi hbig hc hd
    generalize gotS E.n1 E.f1 c = gs at *
    generalize E.n1.testBit c = tb at *
    cases tb
    · go_enter Tryd.func30, Tryd.ntmps30
      go_wp2_with fail
      refine HR.out.mono ?_
      rintro e w1 ⟨rfl, rfl⟩
      go_wp2_with fail
      refine HG.out.mono ?_
      rintro e w2 ⟨rfl, hx⟩
      have HX := Lib.hid hx
      clear hx
      go_wp2_with fail
      go_ret2
      refine ⟨rfl, ?_, Chg.of_ext HX.out⟩
      rw [HG0.out]
      exact CacheAt.mono ⟨bt, br, ev, g1v, g2v, ST, HH.out.ext HX.out⟩ (fun i _ hi => .inl hi)
    · go_enter Tryd.func30, Tryd.ntmps30
      go_wp2_with fail
      refine HR.out.mono ?_
      rintro e w1 ⟨rfl, rfl⟩
      go_wp2_with fail
      refine HG.out.mono ?_
      rintro e w2 ⟨rfl, hx⟩
      have c0' := (HH.out.blk.ext hx).cells 0
      simp at c0'
      have HX := Lib.hid hx
      clear hx
      go_wp2_with fail
      refine (HT.out w2 HX.out).mono ?_
      rintro e w3 ⟨rfl, ht, hch⟩
      obtain ⟨q1, q2⟩ := (HH.out.ext HX.out).setTurn hch ht
      have HQ := Lib.hid (And.intro q1 q2)
      clear q1 q2 ht hch
      go_wp2_with fail
      go_ret2
      have hs := HX.out.size
      refine ⟨rfl, ?_, (Chg.of_ext HX.out).trans HQ.out.2⟩
      rw [HG0.out]
      exact CacheAt.mono ⟨bt, br, ev, g1v, g2v, _, HQ.out.1⟩ (fun i _ hi => hi.imp id (fun hh => ⟨by omega, hh.2⟩))
end Go.Proofs.YtghefhmncpmflaaDoor
