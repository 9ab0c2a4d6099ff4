/-
  The walk of the law PlanLeast: true.
-/
import Derived.Test.YtghefhmncpmflaaDoorPlan11
import Derived.Test.YtghefhmncpmflaaDoorPlan12
namespace Go.Proofs.YtghefhmncpmflaaDoor
open Go.RowKit Go.Rg

theorem ways_lt {D E x h k l : Nat} (hD : D < 18446744073709551616) (hE : E < 18446744073709551616) (hx : x < 18446744073709551616) : ∀ q ∈ waysL D E x h k l, q.2 < 18446744073709551616 := by
  intro q hq
  rcases mem_waysL hq with ⟨_, rfl⟩ | ⟨_, rfl⟩ | ⟨_, rfl⟩ | rfl
  · show 0 < _; decide
  · exact lessN_lt (n := 64) hD
  · exact Nat.or_lt_two_pow (n := 64) (lessN_lt (n := 64) hx) (lessN_lt (n := 64) hE)
  · exact lessN_lt (n := 64) (Nat.or_lt_two_pow (n := 64) hD hE)

theorem rs4_size (d : Int) (f g h k : Nat → Bool) (o : Bool) : (rs4 d (b32 f) (b32 g) (b32 h) (b32 k) o).size = 130 := by simp [rs4, b32_size]
theorem rs4_one (d : Int) (f g h k : Nat → Bool) (o : Bool) : (rs4 d (b32 f) (b32 g) (b32 h) (b32 k) o).all (·.oneCell') = true := by
  simp only [rs4, Array.all_append, b32_one]
  kernel_rfl

set_option maxRecDepth 100000 in
set_option maxHeartbeats 8000000 in
theorem least_walk (d : Int) (x h k l : Nat) (hx : x < 18446744073709551616) (hh : h < 18446744073709551616) (hk : k < 18446744073709551616) (hl : l < 18446744073709551616) (w : World) (hn : NamesAt w) :
    Calls Tryd.prog 4 #[rawv d x h k l] w fun e w' => e = .returned (.bool true) ∧ Ext w w' := by
  have HG := Lib.hid (good_law d x h k l hx hh hk hl)
  have hD : 2 ≤ gD d ∧ gD d ≤ 7 := by unfold gD; omega
  have hgood := good_good d x h k l
  have hA7 : 2 ^ gD d ≤ 2 ^ 7 := Nat.pow_le_pow_right (by decide) hD.2
  have hAl : 2 ^ gD d - 1 < 18446744073709551616 := by omega
  have hEl : (2 ^ gD d ||| 2 ^ (gD d + 1)) < 18446744073709551616 := Nat.or_lt_two_pow (n := 64) (by omega) (by rw [Nat.pow_succ]; omega)
  have hx2 : gX (2 ^ gD d - 1) x < 18446744073709551616 := by unfold gX; split; decide; exact Nat.lt_of_le_of_lt Nat.and_le_left hx
  have hh2 : orN (andN h (2 ^ gD d - 1)) (gX (2 ^ gD d - 1) x) < 18446744073709551616 := Nat.or_lt_two_pow (n := 64) (Nat.lt_of_le_of_lt Nat.and_le_left hh) hx2
  have hk2 : andN k (2 ^ gD d - 1) < 18446744073709551616 := Nat.lt_of_le_of_lt Nat.and_le_left hk
  have hl2 : (lostF l (gD d + 2)).1 < 18446744073709551616 := Nat.lt_of_lt_of_le (lostF_lt l (gD d + 2)) (show 2 ^ (gD d + 2) ≤ 2 ^ 64 from Nat.pow_le_pow_right (by decide) (by omega))
  generalize gX (2 ^ gD d - 1) x = x2 at *
  generalize orN (andN h (2 ^ gD d - 1)) x2 = h2 at *
  generalize andN k (2 ^ gD d - 1) = k2 at *
  generalize (lostF l (gD d + 2)).1 = l2 at *
  generalize gD d = D at *
  have hg := fun w => good_on D (2 ^ D - 1) (2 ^ D ||| 2 ^ (D + 1)) x2 h2 k2 l2 hD.1 (by omega) rfl rfl hAl hEl hx2 hh2 hk2 hl2 w
  have hgood' := hgood
  rw [hgood] at hg
  have hw := ways_good D (2 ^ D - 1) (2 ^ D ||| 2 ^ (D + 1)) x2 h2 k2 l2 hD.1 (by omega) rfl rfl hAl hEl hx2 hl2 hg
  have hlen := waysL_ne (2 ^ D - 1) (2 ^ D ||| 2 ^ (D + 1)) x2 h2 k2 l2
  have hlt := ways_lt (h := h2) (k := k2) (l := l2) hAl hEl hx2
  have hc := choose_good D x2 h2 k2 l2 _ hlen.1 (by omega) hlt hw
  have hne : waysL (2 ^ D - 1) (2 ^ D ||| 2 ^ (D + 1)) x2 h2 k2 l2 ≠ [] := by intro e; rw [e] at hlen; simp at hlen
  have hmem := bestL_mem _ hne
  have hkz : lessN k2 (2 ^ D - 1) = 0 := by
    unfold goodS at hgood'
    simp only [Bool.and_eq_true, beq_iff_eq] at hgood'
    exact hgood'.2.2.2.1
  have P1 := ways_lost hmem
  have P2 := bestL_min (waysL (2 ^ D - 1) (2 ^ D ||| 2 ^ (D + 1)) x2 h2 k2 l2)
  have P3 := fun e => ways_have hmem e
  have P4 := fun e => ways_known hkz hmem e
  have P5 := ways_full (D := 2 ^ D - 1) (E := 2 ^ D ||| 2 ^ (D + 1)) (x := x2) (h := h2) (k := k2) (l := l2)
  have P6 := fun e => ways_full0 (D := 2 ^ D - 1) (E := 2 ^ D ||| 2 ^ (D + 1)) (x := x2) (h := h2) (k := k2) (l := l2) e
  have hm2 := hlt _ hmem
  have HUp := Lib.hid (upto_any D (by omega) (by omega))
  have HS := Lib.hid (states_any D x2 h2 k2 l2 hx2 hh2 hk2 hl2)
  have HRS := Lib.hid (rs4_size D x2.testBit h2.testBit k2.testBit l2.testBit ((x2 / 4294967296 != 0) || ((h2 / 4294967296 != 0) || ((k2 / 4294967296 != 0) || (l2 / 4294967296 != 0)))))
  have HRO := Lib.hid (rs4_one D x2.testBit h2.testBit k2.testBit l2.testBit ((x2 / 4294967296 != 0) || ((h2 / 4294967296 != 0) || ((k2 / 4294967296 != 0) || (l2 / 4294967296 != 0)))))
  generalize rs4 D (b32 x2.testBit) (b32 h2.testBit) (b32 k2.testBit) (b32 l2.testBit) ((x2 / 4294967296 != 0) || ((h2 / 4294967296 != 0) || ((k2 / 4294967296 != 0) || (l2 / 4294967296 != 0)))) = rf at *
  generalize waysL (2 ^ D - 1) (2 ^ D ||| 2 ^ (D + 1)) x2 h2 k2 l2 = L at *
  generalize 2 ^ D - 1 = A at *
  generalize (bestL L).1 = m1 at *
  generalize (bestL L).2 = m2 at *
  have HW := Lib.hid hw
  have HC := Lib.hid hc
  have HK := Lib.hid wakes_any
  have HN := Lib.hid hn
  have HAnd1 := Lib.hid (and_one m2 l2 hm2 hl2)
  have HAnd2 := Lib.hid (and_one m2 h2 hm2 hh2)
  have HAnd3 := Lib.hid (and_one m2 k2 hm2 hk2)
  have HE1 := Lib.hid (show ∀ w, Calls Tryd.prog 20 #[mset (andN m2 l2)] w fun e w' => e = .returned (.bool true) ∧ Ext w w' from fun w => by have := empty_one (andN m2 l2) w; rw [P1] at this ⊢; exact this)
  have HE2 := Lib.hid (show m1 = 1 → ∀ w, Calls Tryd.prog 20 #[mset (andN m2 h2)] w fun e w' => e = .returned (.bool true) ∧ Ext w w' from fun e w => by have := empty_one (andN m2 h2) w; rw [P3 e] at this ⊢; exact this)
  have HE3 := Lib.hid (show m1 = 2 → ∀ w, Calls Tryd.prog 20 #[mset (andN m2 k2)] w fun e w' => e = .returned (.bool true) ∧ Ext w w' from fun e w => by have := empty_one (andN m2 k2) w; rw [P4 e] at this ⊢; exact this)
  have HE4 := Lib.hid (show m1 = 0 → ∀ w, Calls Tryd.prog 20 #[mset m2] w fun e w' => e = .returned (.bool true) ∧ Ext w w' from fun e w => by have := empty_one m2 w; rw [P6 (P5.1 e)] at this ⊢; exact this)
  have HCM := Lib.hid (count_one m2 hm2)
  have HCQ := Lib.hid (show ∀ q ∈ L, ∀ w, Calls Tryd.prog 21 #[mset q.2] w fun e w' => e = .returned (.int .i64 (pop 64 q.2)) ∧ Ext w w' from fun q hq => count_one q.2 (hlt q hq))
  have HP2 := Lib.hid P2
  have HP5 := Lib.hid (show ((m1 : Int) == 0) = (h2 == A) from by rw [Bool.eq_iff_iff]; simp; exact ⟨fun e => P5.1 (by omega), fun e => by have := P5.2 e; omega⟩)
  have HL := Lib.hid hlen
  clear hg hw hc hn P1 P2 P3 P4 P5 P6 hgood hgood' hkz hmem hne hlt hlen hA7 hAl hEl hx2 hh2 hk2 hl2 hx hh hk hl hm2
  obtain ⟨q0, q1, q2, q3, q4, q5, q6, q7, q8, q9, q10, q11, q12, q13, q14, q15, q16⟩ := stc_get D x2 h2 k2 l2
  unfold rawv stv mset plc at *
  go_enter Tryd.func4, Tryd.ntmps4
  go_wp2_with fail
  refine (HG.out _).mono ?_
  rintro e w1 ⟨rfl, h1⟩
  have hx : Ext w w1 := ((Ext.refl w).alloc _).trans h1
  have B1 := (Blk.new w 24 #[.int .i64 d, .int .u64 x, .int .u64 h, .int .u64 k, .int .u64 l]).ext h1
  have c1 := B1.cells
  have f1 := B1.free
  clear h1
  go_upto_region 2 with (fail)
  refine wp_forget (fun wx => Ext w wx ∧ Blk wx w.heap.size 24 #[.int .i64 D, .int .u64 x2, .int .u64 h2, .int .u64 k2, .int .u64 l2])
    ⟨((((hx.setCell (by simp) _).setCell (by simp) _).setCell (by simp) _).setCell (by simp) _).setCell (by simp) _, ((((B1.set 0 _).set 1 _).set 2 _).set 3 _).set 4 _⟩ ?_
  clear hx B1 c1 f1
  rintro w2 ⟨hx, B1⟩
  have c1 := B1.cells
  go_wp2_with fail
  refine (HS.out _).mono ?_
  rintro e w3 ⟨rfl, h3⟩
  replace hx := hx.trans h3
  clear h3 c1 B1
  have Z1 : Blk ((w3.alloc (.cells #[.int .i64 0, .int .u64 0, .int .u64 0, .int .u64 0, .int .u64 0, .int .u64 0, .int .u64 0, .int .u64 0, .int .u64 0, .int .u64 0, .int .u64 0, .int .u64 0, .int .u64 0, .int .u64 0, .int .u64 0, .int .u64 0, .int .u64 0] 30)).alloc (.cells Tryd.zeroCells33 33)) w3.heap.size 30 #[.int .i64 0, .int .u64 0, .int .u64 0, .int .u64 0, .int .u64 0, .int .u64 0, .int .u64 0, .int .u64 0, .int .u64 0, .int .u64 0, .int .u64 0, .int .u64 0, .int .u64 0, .int .u64 0, .int .u64 0, .int .u64 0, .int .u64 0] := (Blk.new w3 30 _).alloc _
  have Z2 : Blk ((w3.alloc (.cells #[.int .i64 0, .int .u64 0, .int .u64 0, .int .u64 0, .int .u64 0, .int .u64 0, .int .u64 0, .int .u64 0, .int .u64 0, .int .u64 0, .int .u64 0, .int .u64 0, .int .u64 0, .int .u64 0, .int .u64 0, .int .u64 0, .int .u64 0] 30)).alloc (.cells Tryd.zeroCells33 33)) (w3.heap.size + 1) 33 Tryd.zeroCells33 := Blk.new' (by simp) 33 _
  have Z3 := Z1.setAll (fin := stc D x2 h2 k2 l2) rfl
  have Z4 := Z2.farAll (b' := w3.heap.size) (by omega) 0 (stc D x2 h2 k2 l2).toList
  have hz130 : Tryd.zeroCells33.size = 130 := by kernel_rfl
  have T1 := Z1.there (n := (stc D x2 h2 k2 l2).size) (Nat.le_refl _)
  have T2 := Z4.there (n := rf.size) (by rw [HRS.out, hz130]; exact Nat.le_refl _)
  have Z5 := Z4.setAll (fin := rf) (by rw [HRS.out, hz130])
  have Z6 := Z3.farAll (b' := w3.heap.size + 1) (by omega) 0 rf.toList
  have hx4 := ((((hx.alloc (.cells #[.int .i64 0, .int .u64 0, .int .u64 0, .int .u64 0, .int .u64 0, .int .u64 0, .int .u64 0, .int .u64 0, .int .u64 0, .int .u64 0, .int .u64 0, .int .u64 0, .int .u64 0, .int .u64 0, .int .u64 0, .int .u64 0, .int .u64 0] 30)).alloc (.cells Tryd.zeroCells33 33)).setCells (b := w3.heap.size) hx.size 0 (stc D x2 h2 k2 l2).toList).setCells (b := w3.heap.size + 1) (by have := hx.size; omega) 0 rf.toList)
  have hb3 := hx.size
  have FF := Lib.hid (And.intro hx4 (And.intro Z6 Z5))
  have HZ := Lib.hid hz130
  clear Z1 Z2 Z3 Z4 Z5 Z6 hx4 hx hz130
  go_upto_region 3 with (first
    | ((with_reducible refine wpList_store_mid rfl 30 _ _ rfl w3.heap.size 0 (stc D x2 h2 k2 l2) ?_ ?_ T1 ?_ ?_ ?_); (exact rfl); (exact rfl); (kernel_rfl); (kernel_rfl))
    | ((with_reducible refine wpList_store_mid rfl 33 _ _ rfl (w3.heap.size + 1) 0 rf ?_ ?_ T2 ?_ HRO.out ?_); (exact rfl); (exact rfl); (rw [HRS.out]; kernel_rfl)))
  refine wp_forget (fun wx => Ext w wx ∧ Blk wx w3.heap.size 30 (stc D x2 h2 k2 l2) ∧ Blk wx (w3.heap.size + 1) 33 rf) FF.out ?_
  clear FF T1 T2
  generalize w3.heap.size = b at *
  rintro w4 ⟨hx, B1, B2⟩
  have B1h : w4.heap[b]? = some (.cells (stc D x2 h2 k2 l2) 30 (0, 0)) := B1
  go_wp2_with ((with_reducible refine wpList_load_row rfl 30 _ rfl b ?_ 30 (stc D x2 h2 k2 l2) (0, 0) _ B1h Tryd.underlying30 ?_ ?_ ?_); (exact rfl); (exact rfl); (kernel_rfl))
  refine (HC.out _).mono ?_
  rintro e w5 ⟨rfl, h5⟩
  replace hx := hx.trans h5
  replace B1 := B1.ext h5
  clear h5 B1h B2
  go_upto_region 4 with (fail)
  refine wp_forget (fun wx => Ext w wx ∧ Blk wx b 30 (stc D x2 h2 k2 l2) ∧ Blk wx w5.heap.size 45 #[.int .i64 m1, .int .u64 m2, .int .u64 0, .int .u64 0, .int .u64 0]) ⟨hx.alloc _, B1.alloc _, Blk.new w5 45 _⟩ ?_
  clear hx B1
  generalize w5.heap.size = p at *
  rintro w6 ⟨hx, B1, B2⟩
  have B1h : w6.heap[b]? = some (.cells (stc D x2 h2 k2 l2) 30 (0, 0)) := B1
  go_wp2_with ((with_reducible refine wpList_load_row rfl 30 _ rfl b ?_ 30 (stc D x2 h2 k2 l2) (0, 0) _ B1h Tryd.underlying30 ?_ ?_ ?_); (exact rfl); (exact rfl); (kernel_rfl))
  refine (HW.out _).mono ?_
  rintro e w7 ⟨u, rfl, hown, h7⟩
  replace hx := hx.trans h7
  replace B1 := B1.ext h7
  replace B2 := B2.ext h7
  clear h7 B1h
  obtain ⟨g, cap, rfl, hg, hcell⟩ : ∃ g cap, u = .slice (some ⟨g, 0, none⟩) L.length cap ∧ g < w7.heap.size ∧ ∀ j, j < L.length * 5 → w7.cell? ⟨g, j, none⟩ = (plansC L)[j]? := by
    have h2 := hown.2
    rcases h2 with ⟨_, h0⟩ | ⟨g, cap, cur, hu, _, hg, _⟩
    · have := HL.out; omega
    · subst hu
      exact ⟨g, cap, rfl, (Array.getElem?_eq_some_iff.1 hg).1, fun j hj => World.ownsRow.cellAt hown j hj⟩
  have HCell := Lib.hid hcell
  clear hcell hown
  go_upto_region 5 with (fail)
  go_wp2_with fail
  refine (HK.out w7 (HN.out.ext hx)).mono ?_
  rintro e w8 ⟨rfl, h8⟩
  have H78 := h8
  replace hx := hx.trans h8
  replace B1 := B1.ext h8
  replace B2 := B2.ext h8
  clear h8
  have c1 := B1.cells
  have c2 := B2.cells
  go_wp2_with fail
  refine (HAnd1.out _).mono ?_
  rintro e w9 ⟨rfl, h9⟩
  replace H78 := H78.trans h9
  replace hx := hx.trans h9
  replace B1 := B1.ext h9
  replace B2 := B2.ext h9
  clear h9 c1 c2
  go_wp2_with fail
  refine (HE1.out _).mono ?_
  rintro e w10 ⟨rfl, h10⟩
  replace H78 := H78.trans h10
  replace hx := hx.trans h10
  replace B1 := B1.ext h10
  replace B2 := B2.ext h10
  clear h10
  have HLE := Lib.hid (fun (j : Nat) (q : Nat × Nat) (wx : World) (hr : Ext w10 wx) (hq : L[j]? = some q) => (show ∀ c, c < 5 → wx.cell? ⟨g, j * 5 + c, none⟩ = (plcL q.1 q.2)[c]? from fun c hc => by
    have hj : j < L.length := (List.getElem?_eq_some_iff.1 hq).1
    rw [Below.cell (H78.trans hr) (p := ⟨g, j * 5 + c, none⟩) hg, HCell.out _ (by omega), plansC_get L j q hq c hc]))
  generalize hnn : L.length = n at *
  have HNN := Lib.hid hnn
  have hn4 : n ≤ 4 := HL.out.2
  clear hnn HCell
  go_wp2_with fail
  go_loopw [49] (fun i wr => ∃ j : Nat, j ≤ n ∧ i = .int .i64 j ∧ Ext w10 wr) (fun i _ => n - (intOf i).toNat)
  case atStart => exact ⟨0, by omega, rfl, Ext.refl _⟩
  case round =>
    obtain ⟨j, hj, rfl, hr⟩ := hrel
    by_cases hlt : j < n
    · obtain ⟨q, hq⟩ : ∃ q, L[j]? = some q := ⟨_, List.getElem?_eq_getElem (by rw [HNN.out]; omega)⟩
      have HQ := Lib.hid (HCQ.out q (List.mem_of_getElem? hq))
      have hle := HP2.out q (List.mem_of_getElem? hq)
      have HC5 := Lib.hid (HLE.out j q wr hr hq)
      clear hq
      have e0 : wr.cell? ⟨g, j * 5, none⟩ = some (.int .i64 q.1) := HC5.out 0 (by decide)
      have e1 : wr.cell? ⟨g, j * 5 + 1, none⟩ = some (.int .u64 q.2) := HC5.out 1 (by decide)
      have e2 : wr.cell? ⟨g, j * 5 + 2, none⟩ = some (.int .u64 0) := HC5.out 2 (by decide)
      have e3 : wr.cell? ⟨g, j * 5 + 3, none⟩ = some (.int .u64 0) := HC5.out 3 (by decide)
      have e4 : wr.cell? ⟨g, j * 5 + 4, none⟩ = some (.int .u64 0) := HC5.out 4 (by decide)
      have i0 : (0 : Int) ≤ (j : Int) := by omega
      have i4 : (j : Int) < n := by omega
      have HCM2 := Lib.hid HCM.out
      generalize pop 64 q.2 = y1 at *
      generalize pop 64 m2 = y2 at *
      have hle2 : decide ((y1 : Int) < y2) = false := by simp; omega
      generalize q.1 = qa at *
      generalize q.2 = qb at *
      go_upto_region 10 with (fail)
      have F := Lib.hid (fun (wx : World) (hr2 : Ext (wr.alloc (.cells #[.int .i64 qa, .int .u64 qb, .int .u64 0, .int .u64 0, .int .u64 0] 45)).drew wx) => And.intro ((Blk.new wr 45 #[.int .i64 qa, .int .u64 qb, .int .u64 0, .int .u64 0, .int .u64 0]).ext hr2.of_drew).cells
        (B2.ext ((hr.alloc _).trans hr2.of_drew)).cells)
      clear e0 e1 e2 e3 e4
      refine Seq.drawn (k := 7) (R := Ext) (by kernel_rfl) (by decide) (by kernel_rfl) (fun _ _ _ => Ext.trans) (fun _ _ h => h.size) Ext.refl (At.start ?_)
      (refine At.det ?_ (fun val w1 hR _ K hK => ?_) ?_; rotate_left; (simp only [Act.put, List.setIfInBounds_toArray, List.set_cons_zero, List.set_cons_succ] at hK; go_simp; exact hK _ (Ext.refl _)); simp only [Act.put, List.setIfInBounds_toArray, List.set_cons_zero, List.set_cons_succ])
      (refine At.det ?_ (fun val w1 hR _ K hK => ?_) ?_; rotate_left; (have g1 := (F.out _ hR).1; have g2 := (F.out _ hR).2; simp only [Act.put, List.setIfInBounds_toArray, List.set_cons_zero, List.set_cons_succ] at hK; go_simp; exact hK _ (Ext.refl _)); simp only [Act.put, List.setIfInBounds_toArray, List.set_cons_zero, List.set_cons_succ])
      (refine At.det ?_ (fun val w1 hR _ K hK => ?_) ?_; rotate_left; (simp only [Act.put, List.setIfInBounds_toArray, List.set_cons_zero, List.set_cons_succ] at hK; go_simp; (with_reducible refine (HQ.out _).mono ?_); rintro e w2 ⟨rfl, h2⟩; exact hK _ (h2)); simp only [Act.put, List.setIfInBounds_toArray, List.set_cons_zero, List.set_cons_succ])
      (refine At.det ?_ (fun val w1 hR _ K hK => ?_) ?_; rotate_left; (simp only [Act.put, List.setIfInBounds_toArray, List.set_cons_zero, List.set_cons_succ] at hK; go_simp; exact hK _ (Ext.refl _)); simp only [Act.put, List.setIfInBounds_toArray, List.set_cons_zero, List.set_cons_succ])
      (refine At.det ?_ (fun val w1 hR _ K hK => ?_) ?_; rotate_left; (have g1 := (F.out _ hR).1; have g2 := (F.out _ hR).2; simp only [Act.put, List.setIfInBounds_toArray, List.set_cons_zero, List.set_cons_succ] at hK; go_simp; exact hK _ (Ext.refl _)); simp only [Act.put, List.setIfInBounds_toArray, List.set_cons_zero, List.set_cons_succ])
      (refine At.det ?_ (fun val w1 hR _ K hK => ?_) ?_; rotate_left; (simp only [Act.put, List.setIfInBounds_toArray, List.set_cons_zero, List.set_cons_succ] at hK; go_simp; (with_reducible refine (HCM2.out _).mono ?_); rintro e w2 ⟨rfl, h2⟩; exact hK _ (h2)); simp only [Act.put, List.setIfInBounds_toArray, List.set_cons_zero, List.set_cons_succ])
      (refine At.det ?_ (fun val w1 hR _ K hK => ?_) ?_; rotate_left; (simp only [Act.put, List.setIfInBounds_toArray, List.set_cons_zero, List.set_cons_succ] at hK; go_simp; exact hK _ (Ext.refl _)); simp only [Act.put, List.setIfInBounds_toArray, List.set_cons_zero, List.set_cons_succ])
      refine At.last rfl (fun val w12 hR _ _ => ?_)
      have hr3 := (hr.alloc _).trans hR.of_drew
      clear F hR hr
      go_wp2_with fail
      exact ⟨⟨j + 1, by omega, by go_num, hr3⟩, by simp [intOf]; omega⟩
    · have hje : j = n := by omega
      subst hje
      replace hx := hx.trans hr
      replace B1 := B1.ext hr
      replace B2 := B2.ext hr
      clear hr HLE H78 HCQ
      have c1 := B1.cells
      have c2 := B2.cells
      go_upto_region 13 with (fail)
      go_cut [86] (fun s wx => s = .bool false ∧ Ext w wx ∧ Blk wx b 30 (stc D x2 h2 k2 l2) ∧ Blk wx p 45 #[.int .i64 m1, .int .u64 m2, .int .u64 0, .int .u64 0, .int .u64 0])
      case first =>
        by_cases hm1 : m1 = 1
        · subst hm1
          go_wp2_with fail
          refine (HAnd2.out _).mono ?_
          rintro e wa ⟨rfl, h9⟩
          replace hx := hx.trans h9
          replace B1 := B1.ext h9
          replace B2 := B2.ext h9
          clear h9 c1 c2
          have c1 := B1.cells
          have c2 := B2.cells
          go_wp2_with fail
          refine (HE2.out (by simp) _).mono ?_
          rintro e wb ⟨rfl, h9⟩
          replace hx := hx.trans h9
          replace B1 := B1.ext h9
          replace B2 := B2.ext h9
          clear h9 c1 c2
          have c1 := B1.cells
          have c2 := B2.cells
          go_wp2_with fail
          go_meet
          exact ⟨rfl, hx, B1, B2⟩
        by_cases hm2 : m1 = 2
        · subst hm2
          go_wp2_with fail
          refine (HAnd3.out _).mono ?_
          rintro e wa ⟨rfl, h9⟩
          replace hx := hx.trans h9
          replace B1 := B1.ext h9
          replace B2 := B2.ext h9
          clear h9 c1 c2
          have c1 := B1.cells
          have c2 := B2.cells
          go_wp2_with fail
          refine (HE3.out (by simp) _).mono ?_
          rintro e wb ⟨rfl, h9⟩
          replace hx := hx.trans h9
          replace B1 := B1.ext h9
          replace B2 := B2.ext h9
          clear h9 c1 c2
          have c1 := B1.cells
          have c2 := B2.cells
          go_wp2_with fail
          go_meet
          exact ⟨rfl, hx, B1, B2⟩
        have k1 : ((m1 : Int) == 1) = false := by rw [beq_eq_false_iff_ne]; omega
        have k2' : ((m1 : Int) == 2) = false := by rw [beq_eq_false_iff_ne]; omega
        go_wp2_with fail
        go_meet
        exact ⟨rfl, hx, B1, B2⟩
      case rest =>
        obtain ⟨rfl, hx, B1, B2⟩ := hcut
        clear c1 c2
        go_upto_region 15 with (fail)
        have F := Lib.hid (fun (wx : World) (hr2 : Ext wc.drew wx) => And.intro (B1.ext hr2.of_drew).cells (B2.ext hr2.of_drew).cells)
        by_cases hm0 : m1 = 0
        · have hhA : (h2 == A) = true := by rw [← HP5.out, hm0]; rfl
          have hq : ∀ w, (binOp .eql 28 (.agg #[.int .u64 h2, .int .u64 0, .int .u64 0, .int .u64 0]) (.agg #[.int .u64 A, .int .u64 0, .int .u64 0, .int .u64 0])).run Tryd.prog w = .ok (.bool true) w := fun w => by
            rw [run_eql_set]
            have : h2 = A := by simpa using hhA
            simp [this]
          clear hhA
          have HQE := Lib.hid hq
          clear hq
          subst hm0
          refine Seq.drawn (k := 21) (R := Ext) (by kernel_rfl) (by decide) (by kernel_rfl) (fun _ _ _ => Ext.trans) (fun _ _ h => h.size) Ext.refl (At.start ?_)
          (refine At.det ?_ (fun val w1 hR _ K hK => ?_) ?_; rotate_left; (simp only [Act.put, List.setIfInBounds_toArray, List.set_cons_zero, List.set_cons_succ] at hK; go_simp; exact hK _ (Ext.refl _)); simp only [Act.put, List.setIfInBounds_toArray, List.set_cons_zero, List.set_cons_succ])
          (refine At.det ?_ (fun val w1 hR _ K hK => ?_) ?_; rotate_left; (have g1 := (F.out _ hR).1; have g2 := (F.out _ hR).2; simp only [Act.put, List.setIfInBounds_toArray, List.set_cons_zero, List.set_cons_succ] at hK; go_simp; exact hK _ (Ext.refl _)); simp only [Act.put, List.setIfInBounds_toArray, List.set_cons_zero, List.set_cons_succ])
          (refine At.det ?_ (fun val w1 hR _ K hK => ?_) ?_; rotate_left; (simp only [Act.put, List.setIfInBounds_toArray, List.set_cons_zero, List.set_cons_succ] at hK; go_simp; exact hK _ (Ext.refl _)); simp only [Act.put, List.setIfInBounds_toArray, List.set_cons_zero, List.set_cons_succ])
          (refine At.det ?_ (fun val w1 hR _ K hK => ?_) ?_; rotate_left; (simp only [Act.put, List.setIfInBounds_toArray, List.set_cons_zero, List.set_cons_succ] at hK; go_simp; exact hK _ (Ext.refl _)); simp only [Act.put, List.setIfInBounds_toArray, List.set_cons_zero, List.set_cons_succ])
          (refine At.det ?_ (fun val w1 hR _ K hK => ?_) ?_; rotate_left; (have g1 := (F.out _ hR).1; have g2 := (F.out _ hR).2; simp only [Act.put, List.setIfInBounds_toArray, List.set_cons_zero, List.set_cons_succ] at hK; go_simp; exact hK _ (Ext.refl _)); simp only [Act.put, List.setIfInBounds_toArray, List.set_cons_zero, List.set_cons_succ])
          (refine At.det ?_ (fun val w1 hR _ K hK => ?_) ?_; rotate_left; (simp only [Act.put, List.setIfInBounds_toArray, List.set_cons_zero, List.set_cons_succ] at hK; go_simp; exact hK _ (Ext.refl _)); simp only [Act.put, List.setIfInBounds_toArray, List.set_cons_zero, List.set_cons_succ])
          (refine At.det ?_ (fun val w1 hR _ K hK => ?_) ?_; rotate_left; (have g1 := (F.out _ hR).1; have g2 := (F.out _ hR).2; simp only [Act.put, List.setIfInBounds_toArray, List.set_cons_zero, List.set_cons_succ] at hK; go_simp; exact hK _ (Ext.refl _)); simp only [Act.put, List.setIfInBounds_toArray, List.set_cons_zero, List.set_cons_succ])
          (refine At.det ?_ (fun val w1 hR _ K hK => ?_) ?_; rotate_left; (simp only [Act.put, List.setIfInBounds_toArray, List.set_cons_zero, List.set_cons_succ] at hK; go_simp; (with_reducible refine (HUp.out _).mono ?_); rintro e w2 ⟨rfl, h2⟩; exact hK _ (h2)); simp only [Act.put, List.setIfInBounds_toArray, List.set_cons_zero, List.set_cons_succ])
          (refine At.det ?_ (fun val w1 hR _ K hK => ?_) ?_; rotate_left; (have hq := HQE.out; simp only [Act.put, List.setIfInBounds_toArray, List.set_cons_zero, List.set_cons_succ] at hK; go_simp; exact hK _ (Ext.refl _)); simp only [Act.put, List.setIfInBounds_toArray, List.set_cons_zero, List.set_cons_succ])
          (refine At.det ?_ (fun val w1 hR _ K hK => ?_) ?_; rotate_left; (simp only [Act.put, List.setIfInBounds_toArray, List.set_cons_zero, List.set_cons_succ] at hK; go_simp; exact hK _ (Ext.refl _)); simp only [Act.put, List.setIfInBounds_toArray, List.set_cons_zero, List.set_cons_succ])
          (refine At.det ?_ (fun val w1 hR _ K hK => ?_) ?_; rotate_left; (simp only [Act.put, List.setIfInBounds_toArray, List.set_cons_zero, List.set_cons_succ] at hK; go_simp; exact hK _ (Ext.refl _)); simp only [Act.put, List.setIfInBounds_toArray, List.set_cons_zero, List.set_cons_succ])
          (refine At.det ?_ (fun val w1 hR _ K hK => ?_) ?_; rotate_left; (simp only [Act.put, List.setIfInBounds_toArray, List.set_cons_zero, List.set_cons_succ] at hK; go_simp; exact hK _ (Ext.refl _)); simp only [Act.put, List.setIfInBounds_toArray, List.set_cons_zero, List.set_cons_succ])
          (refine At.det ?_ (fun val w1 hR _ K hK => ?_) ?_; rotate_left; (have g1 := (F.out _ hR).1; have g2 := (F.out _ hR).2; simp only [Act.put, List.setIfInBounds_toArray, List.set_cons_zero, List.set_cons_succ] at hK; go_simp; exact hK _ (Ext.refl _)); simp only [Act.put, List.setIfInBounds_toArray, List.set_cons_zero, List.set_cons_succ])
          (refine At.det ?_ (fun val w1 hR _ K hK => ?_) ?_; rotate_left; (simp only [Act.put, List.setIfInBounds_toArray, List.set_cons_zero, List.set_cons_succ] at hK; go_simp; exact hK _ (Ext.refl _)); simp only [Act.put, List.setIfInBounds_toArray, List.set_cons_zero, List.set_cons_succ])
          (refine At.det ?_ (fun val w1 hR _ K hK => ?_) ?_; rotate_left; (simp only [Act.put, List.setIfInBounds_toArray, List.set_cons_zero, List.set_cons_succ] at hK; go_simp; exact hK _ (Ext.refl _)); simp only [Act.put, List.setIfInBounds_toArray, List.set_cons_zero, List.set_cons_succ])
          (refine At.det ?_ (fun val w1 hR _ K hK => ?_) ?_; rotate_left; (simp only [Act.put, List.setIfInBounds_toArray, List.set_cons_zero, List.set_cons_succ] at hK; go_simp; exact hK _ (Ext.refl _)); simp only [Act.put, List.setIfInBounds_toArray, List.set_cons_zero, List.set_cons_succ])
          (refine At.det ?_ (fun val w1 hR _ K hK => ?_) ?_; rotate_left; (have g1 := (F.out _ hR).1; have g2 := (F.out _ hR).2; simp only [Act.put, List.setIfInBounds_toArray, List.set_cons_zero, List.set_cons_succ] at hK; go_simp; exact hK _ (Ext.refl _)); simp only [Act.put, List.setIfInBounds_toArray, List.set_cons_zero, List.set_cons_succ])
          (refine At.det ?_ (fun val w1 hR _ K hK => ?_) ?_; rotate_left; (simp only [Act.put, List.setIfInBounds_toArray, List.set_cons_zero, List.set_cons_succ] at hK; go_simp; (with_reducible refine (HE4.out rfl _).mono ?_); rintro e w2 ⟨rfl, h2⟩; exact hK _ (h2)); simp only [Act.put, List.setIfInBounds_toArray, List.set_cons_zero, List.set_cons_succ])
          (refine At.det ?_ (fun val w1 hR _ K hK => ?_) ?_; rotate_left; (simp only [Act.put, List.setIfInBounds_toArray, List.set_cons_zero, List.set_cons_succ] at hK; go_simp; exact hK _ (Ext.refl _)); simp only [Act.put, List.setIfInBounds_toArray, List.set_cons_zero, List.set_cons_succ])
          (refine At.det ?_ (fun val w1 hR _ K hK => ?_) ?_; rotate_left; (simp only [Act.put, List.setIfInBounds_toArray, List.set_cons_zero, List.set_cons_succ] at hK; go_simp; exact hK _ (Ext.refl _)); simp only [Act.put, List.setIfInBounds_toArray, List.set_cons_zero, List.set_cons_succ])
          (refine At.det ?_ (fun val w1 hR _ K hK => ?_) ?_; rotate_left; (simp only [Act.put, List.setIfInBounds_toArray, List.set_cons_zero, List.set_cons_succ] at hK; go_simp; exact hK _ (Ext.refl _)); simp only [Act.put, List.setIfInBounds_toArray, List.set_cons_zero, List.set_cons_succ])
          refine At.last rfl (fun val w20 hR _ _ => ?_)
          have hx2 := hx.trans hR.of_drew
          clear F hR hx B1 B2
          go_wp2
          go_ret
          exact ⟨rfl, hx2⟩
        · have hhA : (h2 == A) = false := by rw [← HP5.out, beq_eq_false_iff_ne]; omega
          have hq : ∀ w, (binOp .eql 28 (.agg #[.int .u64 h2, .int .u64 0, .int .u64 0, .int .u64 0]) (.agg #[.int .u64 A, .int .u64 0, .int .u64 0, .int .u64 0])).run Tryd.prog w = .ok (.bool false) w := fun w => by
            rw [run_eql_set]
            have h1 : h2 ≠ A := by simpa using hhA
            have h3 : ((h2 : Int) == (A : Int)) = false := by rw [beq_eq_false_iff_ne]; omega
            rw [h3]; rfl
          clear hhA
          have HQE := Lib.hid hq
          have k1 : ((m1 : Int) == 0) = false := by rw [beq_eq_false_iff_ne]; omega
          have k2' : ((m1 : Int) != 0) = true := by rw [bne_iff_ne]; omega
          clear hq
          refine Seq.drawn (k := 21) (R := Ext) (by kernel_rfl) (by decide) (by kernel_rfl) (fun _ _ _ => Ext.trans) (fun _ _ h => h.size) Ext.refl (At.start ?_)
          (refine At.det ?_ (fun val w1 hR _ K hK => ?_) ?_; rotate_left; (simp only [Act.put, List.setIfInBounds_toArray, List.set_cons_zero, List.set_cons_succ] at hK; go_simp; exact hK _ (Ext.refl _)); simp only [Act.put, List.setIfInBounds_toArray, List.set_cons_zero, List.set_cons_succ])
          (refine At.det ?_ (fun val w1 hR _ K hK => ?_) ?_; rotate_left; (have g1 := (F.out _ hR).1; have g2 := (F.out _ hR).2; simp only [Act.put, List.setIfInBounds_toArray, List.set_cons_zero, List.set_cons_succ] at hK; go_simp; exact hK _ (Ext.refl _)); simp only [Act.put, List.setIfInBounds_toArray, List.set_cons_zero, List.set_cons_succ])
          (refine At.det ?_ (fun val w1 hR _ K hK => ?_) ?_; rotate_left; (simp only [Act.put, List.setIfInBounds_toArray, List.set_cons_zero, List.set_cons_succ] at hK; go_simp; exact hK _ (Ext.refl _)); simp only [Act.put, List.setIfInBounds_toArray, List.set_cons_zero, List.set_cons_succ])
          (refine At.det ?_ (fun val w1 hR _ K hK => ?_) ?_; rotate_left; (simp only [Act.put, List.setIfInBounds_toArray, List.set_cons_zero, List.set_cons_succ] at hK; go_simp; exact hK _ (Ext.refl _)); simp only [Act.put, List.setIfInBounds_toArray, List.set_cons_zero, List.set_cons_succ])
          (refine At.det ?_ (fun val w1 hR _ K hK => ?_) ?_; rotate_left; (have g1 := (F.out _ hR).1; have g2 := (F.out _ hR).2; simp only [Act.put, List.setIfInBounds_toArray, List.set_cons_zero, List.set_cons_succ] at hK; go_simp; exact hK _ (Ext.refl _)); simp only [Act.put, List.setIfInBounds_toArray, List.set_cons_zero, List.set_cons_succ])
          (refine At.det ?_ (fun val w1 hR _ K hK => ?_) ?_; rotate_left; (simp only [Act.put, List.setIfInBounds_toArray, List.set_cons_zero, List.set_cons_succ] at hK; go_simp; exact hK _ (Ext.refl _)); simp only [Act.put, List.setIfInBounds_toArray, List.set_cons_zero, List.set_cons_succ])
          (refine At.det ?_ (fun val w1 hR _ K hK => ?_) ?_; rotate_left; (have g1 := (F.out _ hR).1; have g2 := (F.out _ hR).2; simp only [Act.put, List.setIfInBounds_toArray, List.set_cons_zero, List.set_cons_succ] at hK; go_simp; exact hK _ (Ext.refl _)); simp only [Act.put, List.setIfInBounds_toArray, List.set_cons_zero, List.set_cons_succ])
          (refine At.det ?_ (fun val w1 hR _ K hK => ?_) ?_; rotate_left; (simp only [Act.put, List.setIfInBounds_toArray, List.set_cons_zero, List.set_cons_succ] at hK; go_simp; (with_reducible refine (HUp.out _).mono ?_); rintro e w2 ⟨rfl, h2⟩; exact hK _ (h2)); simp only [Act.put, List.setIfInBounds_toArray, List.set_cons_zero, List.set_cons_succ])
          (refine At.det ?_ (fun val w1 hR _ K hK => ?_) ?_; rotate_left; (have hq := HQE.out; simp only [Act.put, List.setIfInBounds_toArray, List.set_cons_zero, List.set_cons_succ] at hK; go_simp; exact hK _ (Ext.refl _)); simp only [Act.put, List.setIfInBounds_toArray, List.set_cons_zero, List.set_cons_succ])
          (refine At.det ?_ (fun val w1 hR _ K hK => ?_) ?_; rotate_left; (simp only [Act.put, List.setIfInBounds_toArray, List.set_cons_zero, List.set_cons_succ] at hK; go_simp; exact hK _ (Ext.refl _)); simp only [Act.put, List.setIfInBounds_toArray, List.set_cons_zero, List.set_cons_succ])
          (refine At.det ?_ (fun val w1 hR _ K hK => ?_) ?_; rotate_left; (simp only [Act.put, List.setIfInBounds_toArray, List.set_cons_zero, List.set_cons_succ] at hK; go_simp; exact hK _ (Ext.refl _)); simp only [Act.put, List.setIfInBounds_toArray, List.set_cons_zero, List.set_cons_succ])
          (refine At.det ?_ (fun val w1 hR _ K hK => ?_) ?_; rotate_left; (simp only [Act.put, List.setIfInBounds_toArray, List.set_cons_zero, List.set_cons_succ] at hK; go_simp; exact hK _ (Ext.refl _)); simp only [Act.put, List.setIfInBounds_toArray, List.set_cons_zero, List.set_cons_succ])
          (refine At.det ?_ (fun val w1 hR _ K hK => ?_) ?_; rotate_left; (have g1 := (F.out _ hR).1; have g2 := (F.out _ hR).2; simp only [Act.put, List.setIfInBounds_toArray, List.set_cons_zero, List.set_cons_succ] at hK; go_simp; exact hK _ (Ext.refl _)); simp only [Act.put, List.setIfInBounds_toArray, List.set_cons_zero, List.set_cons_succ])
          (refine At.det ?_ (fun val w1 hR _ K hK => ?_) ?_; rotate_left; (simp only [Act.put, List.setIfInBounds_toArray, List.set_cons_zero, List.set_cons_succ] at hK; go_simp; exact hK _ (Ext.refl _)); simp only [Act.put, List.setIfInBounds_toArray, List.set_cons_zero, List.set_cons_succ])
          (refine At.det ?_ (fun val w1 hR _ K hK => ?_) ?_; rotate_left; (simp only [Act.put, List.setIfInBounds_toArray, List.set_cons_zero, List.set_cons_succ] at hK; go_simp; exact hK _ (Ext.refl _)); simp only [Act.put, List.setIfInBounds_toArray, List.set_cons_zero, List.set_cons_succ])
          (refine At.det ?_ (fun val w1 hR _ K hK => ?_) ?_; rotate_left; (simp only [Act.put, List.setIfInBounds_toArray, List.set_cons_zero, List.set_cons_succ] at hK; go_simp; exact hK _ (Ext.refl _)); simp only [Act.put, List.setIfInBounds_toArray, List.set_cons_zero, List.set_cons_succ])
          (refine At.det ?_ (fun val w1 hR _ K hK => ?_) ?_; rotate_left; (simp only [Act.put, List.setIfInBounds_toArray, List.set_cons_zero, List.set_cons_succ] at hK; go_simp; exact hK _ (Ext.refl _)); simp only [Act.put, List.setIfInBounds_toArray, List.set_cons_zero, List.set_cons_succ])
          (refine At.det ?_ (fun val w1 hR _ K hK => ?_) ?_; rotate_left; (simp only [Act.put, List.setIfInBounds_toArray, List.set_cons_zero, List.set_cons_succ] at hK; go_simp; exact hK _ (Ext.refl _)); simp only [Act.put, List.setIfInBounds_toArray, List.set_cons_zero, List.set_cons_succ])
          (refine At.det ?_ (fun val w1 hR _ K hK => ?_) ?_; rotate_left; (simp only [Act.put, List.setIfInBounds_toArray, List.set_cons_zero, List.set_cons_succ] at hK; go_simp; exact hK _ (Ext.refl _)); simp only [Act.put, List.setIfInBounds_toArray, List.set_cons_zero, List.set_cons_succ])
          (refine At.det ?_ (fun val w1 hR _ K hK => ?_) ?_; rotate_left; (simp only [Act.put, List.setIfInBounds_toArray, List.set_cons_zero, List.set_cons_succ] at hK; go_simp; exact hK _ (Ext.refl _)); simp only [Act.put, List.setIfInBounds_toArray, List.set_cons_zero, List.set_cons_succ])
          (refine At.det ?_ (fun val w1 hR _ K hK => ?_) ?_; rotate_left; (simp only [Act.put, List.setIfInBounds_toArray, List.set_cons_zero, List.set_cons_succ] at hK; go_simp; exact hK _ (Ext.refl _)); simp only [Act.put, List.setIfInBounds_toArray, List.set_cons_zero, List.set_cons_succ])
          refine At.last rfl (fun val w20 hR _ _ => ?_)
          have hx2 := hx.trans hR.of_drew
          clear F hR hx B1 B2
          go_wp2
          go_ret
          exact ⟨rfl, hx2⟩
end Go.Proofs.YtghefhmncpmflaaDoor
