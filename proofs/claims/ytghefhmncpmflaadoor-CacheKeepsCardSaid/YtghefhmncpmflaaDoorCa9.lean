/-
  Contracts of the cache's shelves: a column gets bytes, a column's bytes.
-/
import Derived.Test.YtghefhmncpmflaaDoorCa7
import Derived.Test.YtghefhmncpmflaaDoorMarks3
import Derived.Test.YtghefhmncpmflaaDoorMarks2
namespace Go.Proofs.YtghefhmncpmflaaDoor
open Go.RowKit Go.Rg

/-- The cells of a slice of texts. -/
def strsC (f : Nat → ByteArray) (d : Nat) : Array Value := ((List.range d).map fun i => Value.string (f i)).toArray
theorem strsC_size (f : Nat → ByteArray) (d : Nat) : (strsC f d).size = d := by simp [strsC]
theorem strsC_get (f : Nat → ByteArray) (d : Nat) {j : Nat} (hj : j < d) : (strsC f d)[j]? = some (.string (f j)) := by simp [strsC, hj]
theorem strsC_set (f : Nat → ByteArray) (d : Nat) {j : Nat} (hj : j < d) (b : ByteArray) : (strsC f d).setIfInBounds j (.string b) = strsC (fun i => if i = j then b else f i) d := by
  refine Array.ext_getElem? (fun i => ?_)
  rw [Array.getElem?_setIfInBounds, strsC_size]
  by_cases hi : i < d
  · rw [strsC_get _ _ hi]
    by_cases h : j = i
    · subst h; simp [hj, strsC_get _ _ hj]
    · have h2 : ¬ i = j := fun e => h e.symm
      rw [if_neg h, strsC_get _ _ hi, if_neg h2]
  · rw [if_neg (by omega), Array.getElem?_eq_none (by rw [strsC_size]; omega), Array.getElem?_eq_none (by rw [strsC_size]; omega)]
theorem strsC_congr {f g : Nat → ByteArray} (d : Nat) (h : ∀ i, i < d → f i = g i) : strsC f d = strsC g d := by
  unfold strsC; congr 1; exact List.map_congr_left (fun i hi => by rw [h i (List.mem_range.1 hi)])

/-- A stripe: what is there and its bytes, now and on members; what is dirty. -/
structure Ent where
  n1 : Nat
  f1 : Nat → ByteArray
  n2 : Nat
  f2 : Nat → ByteArray
  dt : Nat
def entC (E : Ent) (g1 g2 d : Nat) : Array Value := #[.int .u64 E.n1, .int .u64 0, .int .u64 0, .int .u64 0, .slice (some ⟨g1, 0, none⟩) d d, .int .u64 E.n2, .int .u64 0, .int .u64 0, .int .u64 0, .slice (some ⟨g2, 0, none⟩) d d, .int .u64 E.dt, .int .u64 0, .int .u64 0, .int .u64 0]
structure EntAt (w : World) (e g1 g2 : Nat) (E : Ent) (d : Nat) : Prop where
  ent : Blk w e 121 (entC E g1 g2 d)
  now : Blk w g1 9 (strsC E.f1 d)
  old : Blk w g2 9 (strsC E.f2 d)
  ne1 : e ≠ g1
  ne2 : e ≠ g2
  ne3 : g1 ≠ g2
  lt1 : E.n1 < 18446744073709551616
  lt2 : E.n2 < 18446744073709551616
  lt3 : E.dt < 18446744073709551616
theorem EntAt.ext {w w' : World} {e g1 g2 d : Nat} {E : Ent} (h : EntAt w e g1 g2 E d) (he : Ext w w') : EntAt w' e g1 g2 E d := { h with ent := h.ent.ext he, now := h.now.ext he, old := h.old.ext he }
theorem EntAt.chg {w w' : World} {e g1 g2 d : Nat} {E : Ent} (h : EntAt w e g1 g2 E d) {S : Nat → Prop} (hc : Chg S w w') (h1 : ¬ S e) (h2 : ¬ S g1) (h3 : ¬ S g2) : EntAt w' e g1 g2 E d :=
  { h with ent := hc.blk h.ent h1, now := hc.blk h.now h2, old := hc.blk h.old h3 }

def gotS (n : Nat) (f : Nat → ByteArray) (c : Nat) : ByteArray := if n.testBit c then f c else ⟨#[]⟩
theorem has_one (n : Nat) (hn : n < 18446744073709551616) (i : Nat) (hi : i < 64) (w : World) : Calls Tryd.prog 64 #[mset n, .int .i64 i] w fun e w' => e = .returned (.bool (n.testBit i)) ∧ Ext w w' := by
  have h := has_in (one n) (fun j => one_lt hn j) i (by omega) w
  rw [show i / 64 = 0 by omega, show i % 64 = i by omega] at h
  exact h

set_option maxHeartbeats 1000000 in
theorem put_now (e g1 g2 d c : Nat) (E : Ent) (b : ByteArray) (w : World) (h : EntAt w e g1 g2 E d) (hc : c < d) (hd : d ≤ 30) :
    Calls Tryd.prog 61 #[.pointer (some ⟨e, 0, none⟩), .int .i64 c, .string b] w fun en w' => en = .returned (.tuple #[]) ∧
      EntAt w' e g1 g2 { E with n1 := E.n1 ||| 2 ^ c, f1 := fun i => if i = c then b else E.f1 i } d ∧ Chg (fun k => k = e ∨ k = g1) w w' := by
  have HW := Lib.hid (with_one E.n1 h.lt1 c (by omega))
  have HH := Lib.hid h
  have k0 := h.ent.cells 0
  have k1 := h.ent.cells 1
  have k2 := h.ent.cells 2
  have k3 := h.ent.cells 3
  simp [entC] at k0 k1 k2 k3
  have b0 : (0 : Int) ≤ (c : Int) := by omega
  have b1 : (c : Int) < (d : Int) := by omega
  clear h
  unfold mset at HW
  go_enter Tryd.func61, Tryd.ntmps61
  go_wp2_with fail
  refine (HW.out _).mono ?_
  rintro en w1 ⟨rfl, hx⟩
  have B1 := HH.out.ent.ext hx
  have B2 := HH.out.now.ext hx
  have f0 := B1.free 0
  have f1 := B1.free 1
  have f2 := B1.free 2
  have f3 := B1.free 3
  have m0 := B1.cells 0
  have m1 := B1.cells 1
  have m2 := B1.cells 2
  have m3 := B1.cells 3
  simp [entC] at m0 m1 m2 m3
  go_upto_region 1 with (fail)
  refine wp_forget (fun wx => Blk wx e 121 (entC { E with n1 := E.n1 ||| 2 ^ c } g1 g2 d) ∧ Blk wx g1 9 (strsC E.f1 d) ∧ Chg (fun k => k = e) w wx)
    ⟨((((B1.set 0 _).set 1 _).set 2 _).set 3 _), (((B2.far (fun e1 => HH.out.ne1 e1.symm) _).far (fun e1 => HH.out.ne1 e1.symm) _).far (fun e1 => HH.out.ne1 e1.symm) _).far (fun e1 => HH.out.ne1 e1.symm) _,
     ((((Chg.of_ext hx).setCell (S := fun k => k = e) (p := ⟨e, 0, none⟩) (fun _ => rfl) _).setCell (p := ⟨e, 1, none⟩) (fun _ => rfl) _).setCell (p := ⟨e, 2, none⟩) (fun _ => rfl) _).setCell (p := ⟨e, 3, none⟩) (fun _ => rfl) _⟩ ?_
  clear k0 k1 k2 k3 B1 B2 hx f0 f1 f2 f3 m0 m1 m2 m3
  rintro w2 ⟨B1, B2, hch⟩
  have m4 := B1.cells 4
  simp [entC] at m4
  have p0 := B2.cells c
  have pf := B2.free c
  rw [strsC_get _ _ hc] at p0
  have HX := Lib.hid (And.intro hch (And.intro B1 B2))
  clear B1 B2 hch
  go_wp2_with fail
  go_end0
  refine ⟨rfl, ?_, (HX.out.1.mono (fun k _ hk => .inl hk)).setCell (S := fun k => k = e ∨ k = g1) (p := ⟨g1, c, none⟩) (fun _ => .inr rfl) _⟩
  have hB2 := HX.out.2.2.set c (.string b)
  rw [strsC_set _ _ hc] at hB2
  have hlt : E.n1 ||| 2 ^ c < 18446744073709551616 := Nat.or_lt_two_pow (n := 64) HH.out.lt1 (Nat.pow_lt_pow_right (by decide) (by omega))
  exact { ent := HX.out.2.1.far HH.out.ne1 _, now := hB2, old := (HX.out.1.blk HH.out.old (fun e1 => HH.out.ne2 e1.symm)).far (fun e1 => HH.out.ne3 e1.symm) _, ne1 := HH.out.ne1, ne2 := HH.out.ne2, ne3 := HH.out.ne3, lt1 := hlt, lt2 := HH.out.lt2, lt3 := HH.out.lt3 }

set_option maxHeartbeats 1000000 in
theorem put_old (e g1 g2 d c : Nat) (E : Ent) (b : ByteArray) (w : World) (h : EntAt w e g1 g2 E d) (hc : c < d) (hd : d ≤ 30) :
    Calls Tryd.prog 61 #[.pointer (some ⟨e, 5, none⟩), .int .i64 c, .string b] w fun en w' => en = .returned (.tuple #[]) ∧
      EntAt w' e g1 g2 { E with n2 := E.n2 ||| 2 ^ c, f2 := fun i => if i = c then b else E.f2 i } d ∧ Chg (fun k => k = e ∨ k = g2) w w' := by
  have HW := Lib.hid (with_one E.n2 h.lt2 c (by omega))
  have HH := Lib.hid h
  have k0 := h.ent.cells 5
  have k1 := h.ent.cells 6
  have k2 := h.ent.cells 7
  have k3 := h.ent.cells 8
  simp [entC] at k0 k1 k2 k3
  have b0 : (0 : Int) ≤ (c : Int) := by omega
  have b1 : (c : Int) < (d : Int) := by omega
  clear h
  unfold mset at HW
  go_enter Tryd.func61, Tryd.ntmps61
  go_wp2_with fail
  refine (HW.out _).mono ?_
  rintro en w1 ⟨rfl, hx⟩
  have B1 := HH.out.ent.ext hx
  have B2 := HH.out.old.ext hx
  have f0 := B1.free 5
  have f1 := B1.free 6
  have f2 := B1.free 7
  have f3 := B1.free 8
  have m0 := B1.cells 5
  have m1 := B1.cells 6
  have m2 := B1.cells 7
  have m3 := B1.cells 8
  simp [entC] at m0 m1 m2 m3
  go_upto_region 1 with (fail)
  refine wp_forget (fun wx => Blk wx e 121 (entC { E with n2 := E.n2 ||| 2 ^ c } g1 g2 d) ∧ Blk wx g2 9 (strsC E.f2 d) ∧ Chg (fun k => k = e) w wx)
    ⟨((((B1.set 5 _).set 6 _).set 7 _).set 8 _), (((B2.far (fun e1 => HH.out.ne2 e1.symm) _).far (fun e1 => HH.out.ne2 e1.symm) _).far (fun e1 => HH.out.ne2 e1.symm) _).far (fun e1 => HH.out.ne2 e1.symm) _,
     ((((Chg.of_ext hx).setCell (S := fun k => k = e) (p := ⟨e, 5, none⟩) (fun _ => rfl) _).setCell (p := ⟨e, 6, none⟩) (fun _ => rfl) _).setCell (p := ⟨e, 7, none⟩) (fun _ => rfl) _).setCell (p := ⟨e, 8, none⟩) (fun _ => rfl) _⟩ ?_
  clear k0 k1 k2 k3 B1 B2 hx f0 f1 f2 f3 m0 m1 m2 m3
  rintro w2 ⟨B1, B2, hch⟩
  have m4 := B1.cells 9
  simp [entC] at m4
  have p0 := B2.cells c
  have pf := B2.free c
  rw [strsC_get _ _ hc] at p0
  have HX := Lib.hid (And.intro hch (And.intro B1 B2))
  clear B1 B2 hch
  go_wp2_with fail
  go_end0
  refine ⟨rfl, ?_, (HX.out.1.mono (fun k _ hk => .inl hk)).setCell (S := fun k => k = e ∨ k = g2) (p := ⟨g2, c, none⟩) (fun _ => .inr rfl) _⟩
  have hB2 := HX.out.2.2.set c (.string b)
  rw [strsC_set _ _ hc] at hB2
  have hlt : E.n2 ||| 2 ^ c < 18446744073709551616 := Nat.or_lt_two_pow (n := 64) HH.out.lt2 (Nat.pow_lt_pow_right (by decide) (by omega))
  exact { ent := HX.out.2.1.far HH.out.ne2 _, now := (HX.out.1.blk HH.out.now (fun e1 => HH.out.ne1 e1.symm)).far HH.out.ne3 _, old := hB2, ne1 := HH.out.ne1, ne2 := HH.out.ne2, ne3 := HH.out.ne3, lt1 := HH.out.lt1, lt2 := hlt, lt3 := HH.out.lt3 }

set_option maxHeartbeats 1000000 in
theorem get_now (e g1 g2 d c : Nat) (E : Ent) (w : World) (h : EntAt w e g1 g2 E d) (hc : c < d) (hd : d ≤ 30) :
    Calls Tryd.prog 67 #[.pointer (some ⟨e, 0, none⟩), .int .i64 c] w fun en w' => en = .returned (.tuple #[.string (gotS E.n1 E.f1 c), .bool (E.n1.testBit c)]) ∧ Ext w w' := by
  have HW := Lib.hid (has_one E.n1 h.lt1 c (by omega))
  have HH := Lib.hid h
  have k0 := h.ent.cells 0
  have k1 := h.ent.cells 1
  have k2 := h.ent.cells 2
  have k3 := h.ent.cells 3
  simp [entC] at k0 k1 k2 k3
  have b0 : (0 : Int) ≤ (c : Int) := by omega
  have b1 : (c : Int) < (d : Int) := by omega
  clear h
  unfold mset at HW
  rw [show gotS E.n1 E.f1 c = (if E.n1.testBit c then E.f1 c else ⟨#[]⟩) from rfl]
  generalize E.n1.testBit c = tb at *
  cases tb
  all_goals
    go_enter Tryd.func67, Tryd.ntmps67
    go_wp2_with fail
    refine (HW.out _).mono ?_
    rintro en w1 ⟨rfl, hx⟩
  · go_wp2_with fail
    go_ret2
    exact ⟨rfl, hx⟩
  · have m4 := (HH.out.ent.ext hx).cells 4
    have p0 := (HH.out.now.ext hx).cells c
    rw [strsC_get _ _ hc] at p0
    simp [entC] at m4
    go_wp2_with fail
    go_ret2
    exact ⟨rfl, hx⟩

set_option maxHeartbeats 1000000 in
theorem get_old (e g1 g2 d c : Nat) (E : Ent) (w : World) (h : EntAt w e g1 g2 E d) (hc : c < d) (hd : d ≤ 30) :
    Calls Tryd.prog 67 #[.pointer (some ⟨e, 5, none⟩), .int .i64 c] w fun en w' => en = .returned (.tuple #[.string (gotS E.n2 E.f2 c), .bool (E.n2.testBit c)]) ∧ Ext w w' := by
  have HW := Lib.hid (has_one E.n2 h.lt2 c (by omega))
  have HH := Lib.hid h
  have k0 := h.ent.cells 5
  have k1 := h.ent.cells 6
  have k2 := h.ent.cells 7
  have k3 := h.ent.cells 8
  simp [entC] at k0 k1 k2 k3
  have b0 : (0 : Int) ≤ (c : Int) := by omega
  have b1 : (c : Int) < (d : Int) := by omega
  clear h
  unfold mset at HW
  rw [show gotS E.n2 E.f2 c = (if E.n2.testBit c then E.f2 c else ⟨#[]⟩) from rfl]
  generalize E.n2.testBit c = tb at *
  cases tb
  all_goals
    go_enter Tryd.func67, Tryd.ntmps67
    go_wp2_with fail
    refine (HW.out _).mono ?_
    rintro en w1 ⟨rfl, hx⟩
  · go_wp2_with fail
    go_ret2
    exact ⟨rfl, hx⟩
  · have m4 := (HH.out.ent.ext hx).cells 9
    have p0 := (HH.out.old.ext hx).cells c
    rw [strsC_get _ _ hc] at p0
    simp [entC] at m4
    go_wp2_with fail
    go_ret2
    exact ⟨rfl, hx⟩
end Go.Proofs.YtghefhmncpmflaaDoor
