/-
  The walk of the law PlanWays: true.
-/
import Derived.Test.YtghefhmncpmflaaDoorRef11
namespace Go.Proofs.YtghefhmncpmflaaDoor
open Go.RowKit Go.Rg

set_option maxRecDepth 100000 in
set_option maxHeartbeats 1000000 in
theorem ways_walk (d : Int) (x h k l : Nat) (kk : Int) (hx : x < 18446744073709551616) (hh : h < 18446744073709551616) (hk : k < 18446744073709551616) (hl : l < 18446744073709551616) (w : World) (hn : NamesAt w) :
    Calls Tryd.prog 3 #[rawv d x h k l, .int .i64 kk] w fun e w' => e = .returned (.bool true) ∧ Ext w w' := by
  have HG := Lib.hid (good_law d x h k l hx hh hk hl)
  have hD : 2 ≤ gD d ∧ gD d ≤ 7 := by unfold gD; omega
  have hA7 : 2 ^ gD d ≤ 2 ^ 7 := Nat.pow_le_pow_right (by decide) hD.2
  have hAl : 2 ^ gD d - 1 < 18446744073709551616 := by omega
  have hx2 : gX (2 ^ gD d - 1) x < 18446744073709551616 := by unfold gX; split; decide; exact Nat.lt_of_le_of_lt Nat.and_le_left hx
  have hh2 : orN (andN h (2 ^ gD d - 1)) (gX (2 ^ gD d - 1) x) < 18446744073709551616 := Nat.or_lt_two_pow (n := 64) (Nat.lt_of_le_of_lt Nat.and_le_left hh) hx2
  have hk2 : andN k (2 ^ gD d - 1) < 18446744073709551616 := Nat.lt_of_le_of_lt Nat.and_le_left hk
  have hl2 : (lostF l (gD d + 2)).1 < 18446744073709551616 := Nat.lt_of_lt_of_le (lostF_lt l (gD d + 2)) (show 2 ^ (gD d + 2) ≤ 2 ^ 64 from Nat.pow_le_pow_right (by decide) (by omega))
  generalize gX (2 ^ gD d - 1) x = x2 at *
  generalize orN (andN h (2 ^ gD d - 1)) x2 = h2 at *
  generalize andN k (2 ^ gD d - 1) = k2 at *
  generalize (lostF l (gD d + 2)).1 = l2 at *
  generalize hdd : ((gD d : Nat) : Int) = d2 at *
  clear hdd hD hA7 hAl
  have HLT := Lib.hid (And.intro (And.intro hx (And.intro hh (And.intro hk hl))) (And.intro hx2 (And.intro hh2 (And.intro hk2 hl2))))
  have HN := Lib.hid hn
  clear hx hh hk hl hx2 hh2 hk2 hl2 hn
  unfold rawv at *
  go_enter Tryd.func3, Tryd.ntmps3
  go_upto_region 1 with (fail)
  have F := Lib.hid (fun (w1 : World) (hr : Ext _ w1) => (Blk.ext (Blk.new w 24 #[.int .i64 d, .int .u64 x, .int .u64 h, .int .u64 k, .int .u64 l]) (Ext.of_drew hr)).cells)
  refine Seq.drawn (k := 6) (R := Ext) (by kernel_rfl) (by decide) (by kernel_rfl) (fun _ _ _ => Ext.trans) (fun _ _ h => h.size) Ext.refl (At.start ?_)
  (refine At.det ?_ (fun val w1 hR _ K hK => ?_) ?_; rotate_left; (have g1 := F.out _ hR; simp only [Act.put, List.setIfInBounds_toArray, List.set_cons_zero, List.set_cons_succ] at hK; go_simp; exact hK _ (Ext.refl _)); simp only [Act.put, List.setIfInBounds_toArray, List.set_cons_zero, List.set_cons_succ])
  (refine At.det ?_ (fun val w1 hR _ K hK => ?_) ?_; rotate_left; (have g1 := F.out _ hR; simp only [Act.put, List.setIfInBounds_toArray, List.set_cons_zero, List.set_cons_succ] at hK; go_simp; exact hK _ (Ext.refl _)); simp only [Act.put, List.setIfInBounds_toArray, List.set_cons_zero, List.set_cons_succ])
  (refine At.det ?_ (fun val w1 hR _ K hK => ?_) ?_; rotate_left; (simp only [Act.put, List.setIfInBounds_toArray, List.set_cons_zero, List.set_cons_succ] at hK; go_simp; (with_reducible refine (HG.out _).mono ?_); rintro e w2 ⟨rfl, h2⟩; exact hK _ (h2)); simp only [Act.put, List.setIfInBounds_toArray, List.set_cons_zero, List.set_cons_succ])
  (refine At.new (NewSl 0 24 2 #[.int .i64 d, .int .u64 x, .int .u64 h, .int .u64 k, .int .u64 l, .int .i64 d2, .int .u64 x2, .int .u64 h2, .int .u64 k2, .int .u64 l2]) NewSl.ext (fun val w1 hR hF K hK => ?_) ?_; (simp only [Act.put, List.setIfInBounds_toArray, List.set_cons_zero, List.set_cons_succ] at hK; go_simp; exact hK _ _ ((Ext.refl _).alloc _) ⟨_, rfl, Nat.le_refl _, by simp⟩ ⟨_, rfl, Nat.zero_le _, Blk.new _ _ _⟩); simp only [Act.put, List.setIfInBounds_toArray, List.set_cons_zero, List.set_cons_succ])
  (refine At.det ?_ (fun val w1 hR hF K hK => ?_) ?_; rotate_left; (simp only [Act.put, List.setIfInBounds_toArray, List.set_cons_zero, List.set_cons_succ] at hK; simp only [Nat.reduceAdd] at hK hF ⊢; have hF2 := hF.2 (by kernel_rfl); clear hF; refine Exists.elim hF2 (fun b3 hb => ?_); have hv := hb.1; simp only [hv] at hK ⊢; go_simp; exact hK _ (Ext.refl _)); simp only [Act.put, List.setIfInBounds_toArray, List.set_cons_zero, List.set_cons_succ])
  (refine At.det ?_ (fun val w1 hR _ K hK => ?_) ?_; rotate_left; (simp only [Act.put, List.setIfInBounds_toArray, List.set_cons_zero, List.set_cons_succ] at hK; go_simp; exact hK _ (Ext.refl _)); simp only [Act.put, List.setIfInBounds_toArray, List.set_cons_zero, List.set_cons_succ])
  refine At.last rfl (fun val w1 hR hF hN => ?_)
  simp only [Nat.reduceAdd] at hF ⊢
  obtain ⟨b, hv, _, B1⟩ := hF.2 (by simp)
  rw [hv]
  have hx : Ext w w1 := ((Ext.refl w).alloc _).trans hR.of_drew
  clear F hR hF hN hv
  go_wp2_with fail
  go_loopw [23] (fun i wr => ∃ m : Nat, m ≤ 2 ∧ i = .int .i64 m ∧ Ext w wr ∧ Blk wr b 24 #[.int .i64 d, .int .u64 x, .int .u64 h, .int .u64 k, .int .u64 l, .int .i64 d2, .int .u64 x2, .int .u64 h2, .int .u64 k2, .int .u64 l2]) (fun i _ => 2 - (intOf i).toNat)
  case atStart => exact ⟨0, by omega, rfl, hx, B1⟩
  case round =>
    clear hx B1
    obtain ⟨m, hm, rfl, hx, B1⟩ := hrel
    by_cases hlt : m < 2
    · have hY : ∃ (dy : Int) (xy hy ky ly : Nat), (xy < 18446744073709551616 ∧ hy < 18446744073709551616 ∧ ky < 18446744073709551616 ∧ ly < 18446744073709551616) ∧ wr.cell? ⟨b, m * 5, none⟩ = some (.int .i64 dy) ∧ wr.cell? ⟨b, m * 5 + 1, none⟩ = some (.int .u64 xy) ∧ wr.cell? ⟨b, m * 5 + 2, none⟩ = some (.int .u64 hy) ∧ wr.cell? ⟨b, m * 5 + 3, none⟩ = some (.int .u64 ky) ∧ wr.cell? ⟨b, m * 5 + 4, none⟩ = some (.int .u64 ly) := by
        have h01 : m = 0 ∨ m = 1 := by omega
        rcases h01 with rfl | rfl
        · exact ⟨d, x, h, k, l, HLT.out.1, (B1.cells 0).trans rfl, (B1.cells 1).trans rfl, (B1.cells 2).trans rfl, (B1.cells 3).trans rfl, (B1.cells 4).trans rfl⟩
        · exact ⟨d2, x2, h2, k2, l2, HLT.out.2, (B1.cells 5).trans rfl, (B1.cells 6).trans rfl, (B1.cells 7).trans rfl, (B1.cells 8).trans rfl, (B1.cells 9).trans rfl⟩
      obtain ⟨dy, xy, hy, ky, ly, ⟨lx, lh, lk, ll⟩, c0, c1, c2, c3, c4⟩ := hY
      have HS := Lib.hid (show ∀ w, Calls Tryd.prog 10 #[rawv dy xy hy ky ly] w fun e w' => e = .returned (.tuple #[.agg (stc dy xy hy ky ly), .agg (rsF dy xy.testBit hy.testBit ky.testBit ly.testBit (oddR xy hy ky ly))]) ∧ Ext w w' from states_any dy xy hy ky ly lx lh lk ll)
      obtain ⟨K, er, Fl, kb, fb, T⟩ := told_any dy xy hy ky ly lx lh lk ll
      clear lx lh lk ll
      have HT1 := Lib.hid T.ways
      have HT2 := Lib.hid T.rways
      have HT3 := Lib.hid T.choose
      have HT4 := Lib.hid T.rchoose
      have HK4 := Lib.hid T.len
      clear T
      have HRS := Lib.hid (rs4_size dy xy.testBit hy.testBit ky.testBit ly.testBit (oddR xy hy ky ly))
      have HRO := Lib.hid (rs4_one dy xy.testBit hy.testBit ky.testBit ly.testBit (oddR xy hy ky ly))
      have HTS := Lib.hid (show (stc dy xy hy ky ly).size = 17 from rfl)
      have HTO := Lib.hid (show (stc dy xy hy ky ly).all (·.oneCell') = true from by kernel_rfl)
      unfold stv at HT1 HT3
      unfold plc at HT3
      have HZ := Lib.hid (Eq.refl (numF fb 32))
      have HPO := Lib.hid (And.intro (rpl_one kb fb) (rpl_size kb fb))
      have HSam := Lib.hid (show ∀ w, Calls Tryd.prog 15 #[.agg (plc kb (numF fb 32)), .agg (rpl kb fb)] w fun e w' => e = .returned (.bool true) ∧ Ext w w' from fun w => by have := same_any kb (numF fb 32) kb fb w; simpa using this)
      have HSamF := Lib.hid (show ∀ k, ∀ w, Calls Tryd.prog 15 #[.agg (plc k (numF (Fl k) 32)), .agg (rpl k (Fl k))] w fun e w' => e = .returned (.bool true) ∧ Ext w w' from fun k w => by have := same_any k (numF (Fl k) 32) k (Fl k) w; simpa using this)
      have HRF := Lib.hid (fun (k : Nat) => And.intro (rpl_one k (Fl k)) (rpl_size k (Fl k)))
      unfold plc at HSam HSamF
      generalize rpl kb fb = pb at *
      generalize numF fb 32 = z at *
      clear HZ
      change Hid ((rsF dy xy.testBit hy.testBit ky.testBit ly.testBit (oddR xy hy ky ly)).size = 130) at HRS
      change Hid ((rsF dy xy.testBit hy.testBit ky.testBit ly.testBit (oddR xy hy ky ly)).all (·.oneCell') = true) at HRO
      generalize rsF dy xy.testBit hy.testBit ky.testBit ly.testBit (oddR xy hy ky ly) = rf at *
      generalize stc dy xy hy ky ly = st at *
      unfold rawv at HS
      have m0 : (0 : Int) ≤ (m : Int) := by omega
      have m1 : (m : Int) < 2 := by omega
      go_upto_region 4 with (fail)
      refine wp_forget (fun wx => Ext w wx ∧ Blk wx b 24 #[.int .i64 d, .int .u64 x, .int .u64 h, .int .u64 k, .int .u64 l, .int .i64 d2, .int .u64 x2, .int .u64 h2, .int .u64 k2, .int .u64 l2] ∧ Blk wx wr.heap.size 24 #[.int .i64 dy, .int .u64 xy, .int .u64 hy, .int .u64 ky, .int .u64 ly])
        ⟨hx.alloc _, B1.alloc _, Blk.new wr 24 _⟩ ?_
      have hb6 := B1.lt
      clear hx B1 c0 c1 c2 c3 c4
      generalize wr.heap.size = p6 at *
      rintro w2 ⟨hx, B1, B6⟩
      have c1 := B6.cells
      go_wp2_with fail
      refine (HS.out _).mono ?_
      rintro e w3 ⟨rfl, h3⟩
      replace hx := hx.trans h3
      replace B1 := B1.ext h3
      clear h3 c1 B6
      have Z1 : Blk ((w3.alloc (.cells #[.int .i64 0, .int .u64 0, .int .u64 0, .int .u64 0, .int .u64 0, .int .u64 0, .int .u64 0, .int .u64 0, .int .u64 0, .int .u64 0, .int .u64 0, .int .u64 0, .int .u64 0, .int .u64 0, .int .u64 0, .int .u64 0, .int .u64 0] 30)).alloc (.cells Tryd.zeroCells33 33)) w3.heap.size 30 #[.int .i64 0, .int .u64 0, .int .u64 0, .int .u64 0, .int .u64 0, .int .u64 0, .int .u64 0, .int .u64 0, .int .u64 0, .int .u64 0, .int .u64 0, .int .u64 0, .int .u64 0, .int .u64 0, .int .u64 0, .int .u64 0, .int .u64 0] := (Blk.new w3 30 _).alloc _
      have Z2 : Blk ((w3.alloc (.cells #[.int .i64 0, .int .u64 0, .int .u64 0, .int .u64 0, .int .u64 0, .int .u64 0, .int .u64 0, .int .u64 0, .int .u64 0, .int .u64 0, .int .u64 0, .int .u64 0, .int .u64 0, .int .u64 0, .int .u64 0, .int .u64 0, .int .u64 0] 30)).alloc (.cells Tryd.zeroCells33 33)) (w3.heap.size + 1) 33 Tryd.zeroCells33 := Blk.new' (by simp) 33 _
      have Z3 := Z1.setAll (fin := st) (by rw [HTS.out]; rfl)
      have Z4 := Z2.farAll (b' := w3.heap.size) (by omega) 0 st.toList
      have hz130 : Tryd.zeroCells33.size = 130 := by kernel_rfl
      have T1 := Z1.there (n := st.size) (by rw [HTS.out]; decide)
      have T2 := Z4.there (n := rf.size) (by rw [HRS.out, hz130]; exact Nat.le_refl _)
      have Z5 := Z4.setAll (fin := rf) (by rw [HRS.out, hz130])
      have Z6 := Z3.farAll (b' := w3.heap.size + 1) (by omega) 0 rf.toList
      have hx4 := ((((hx.alloc (.cells #[.int .i64 0, .int .u64 0, .int .u64 0, .int .u64 0, .int .u64 0, .int .u64 0, .int .u64 0, .int .u64 0, .int .u64 0, .int .u64 0, .int .u64 0, .int .u64 0, .int .u64 0, .int .u64 0, .int .u64 0, .int .u64 0, .int .u64 0] 30)).alloc (.cells Tryd.zeroCells33 33)).setCells (b := w3.heap.size) hx.size 0 st.toList).setCells (b := w3.heap.size + 1) (by have := hx.size; omega) 0 rf.toList)
      have B4 := (((B1.alloc (.cells #[.int .i64 0, .int .u64 0, .int .u64 0, .int .u64 0, .int .u64 0, .int .u64 0, .int .u64 0, .int .u64 0, .int .u64 0, .int .u64 0, .int .u64 0, .int .u64 0, .int .u64 0, .int .u64 0, .int .u64 0, .int .u64 0, .int .u64 0] 30)).alloc (.cells Tryd.zeroCells33 33)).farAll (b' := w3.heap.size) (by have := B1.lt; omega) 0 st.toList).farAll (b' := w3.heap.size + 1) (by have := B1.lt; omega) 0 rf.toList
      have hb3 := B1.lt
      have hw3 := hx.size
      have FF := Lib.hid (And.intro hx4 (And.intro B4 (And.intro Z6 Z5)))
      clear Z1 Z2 Z3 Z4 Z5 Z6 hx4 hx hz130 B4 B1
      go_upto_region 5 with (first
        | ((with_reducible refine wpList_store_mid rfl 30 _ _ rfl w3.heap.size 0 st ?_ ?_ T1 ?_ HTO.out ?_); (exact rfl); (exact rfl); (rw [HTS.out]; kernel_rfl))
        | ((with_reducible refine wpList_store_mid rfl 33 _ _ rfl (w3.heap.size + 1) 0 rf ?_ ?_ T2 ?_ HRO.out ?_); (exact rfl); (exact rfl); (rw [HRS.out]; kernel_rfl)))
      refine wp_forget (fun wx => Ext w wx ∧ Blk wx b 24 #[.int .i64 d, .int .u64 x, .int .u64 h, .int .u64 k, .int .u64 l, .int .i64 d2, .int .u64 x2, .int .u64 h2, .int .u64 k2, .int .u64 l2] ∧ Blk wx w3.heap.size 30 st ∧ Blk wx (w3.heap.size + 1) 33 rf) FF.out ?_
      clear FF T1 T2 
      generalize w3.heap.size = p7 at *
      rintro w4 ⟨hx, B1, B7, B8⟩
      have B7h : w4.heap[p7]? = some (.cells st 30 (0, 0)) := B7
      go_wp2_with ((with_reducible refine wpList_load_row rfl 30 _ rfl p7 ?_ 30 st (0, 0) _ B7h Tryd.underlying30 ?_ ?_ ?_); (exact rfl); (exact rfl); (rw [HTS.out]; kernel_rfl))
      refine (HT1.out _).mono ?_
      rintro e w5 ⟨u1, rfl, hown1, h5⟩
      replace hx := hx.trans h5
      replace B1 := B1.ext h5
      replace B7 := B7.ext h5
      replace B8 := B8.ext h5
      clear h5 B7h
      have B8h : w5.heap[p7 + 1]? = some (.cells rf 33 (0, 0)) := B8
      obtain ⟨base1, cap1, rfl, hr1⟩ := plans_at hown1
      have HR1 := Lib.hid hr1
      clear hr1 hown1
      go_wp2_with ((with_reducible refine wpList_load_row rfl 33 _ rfl (p7 + 1) ?_ 33 rf (0, 0) _ B8h Tryd.underlying33 ?_ ?_ ?_); (exact rfl); (exact rfl); (rw [HRS.out]; kernel_rfl))
      refine (HT2.out _).mono ?_
      rintro e w6 ⟨u2, rfl, hown2, h6⟩
      obtain ⟨base2, cap2, rfl, hr2⟩ := rowsF_at hown2
      have HR2 := Lib.hid hr2
      clear hr2 hown2
      have HX5 := Lib.hid h6
      replace hx := hx.trans h6
      replace B1 := B1.ext h6
      replace B7 := B7.ext h6
      replace B8 := B8.ext h6
      clear h6 B8h
      have B7h : w6.heap[p7]? = some (.cells st 30 (0, 0)) := B7
      go_wp2_with ((with_reducible refine wpList_load_row rfl 30 _ rfl p7 ?_ 30 st (0, 0) _ B7h Tryd.underlying30 ?_ ?_ ?_); (exact rfl); (exact rfl); (rw [HTS.out]; kernel_rfl))
      refine (HT3.out _).mono ?_
      rintro e w7 ⟨rfl, h7⟩
      have HX6 := Lib.hid h7
      replace hx := hx.trans h7
      replace B1 := B1.ext h7
      replace B7 := B7.ext h7
      replace B8 := B8.ext h7
      clear h7 B7h
      go_upto_region 8 with (fail)
      refine wp_forget (fun wx => Ext w wx ∧ Ext w7 wx ∧ Blk wx b 24 #[.int .i64 d, .int .u64 x, .int .u64 h, .int .u64 k, .int .u64 l, .int .i64 d2, .int .u64 x2, .int .u64 h2, .int .u64 k2, .int .u64 l2] ∧ Blk wx (p7 + 1) 33 rf ∧ Blk wx w7.heap.size 45 #[.int .i64 kb, .int .u64 z, .int .u64 0, .int .u64 0, .int .u64 0]) ⟨hx.alloc _, (Ext.refl w7).alloc _, B1.alloc _, B8.alloc _, Blk.new w7 45 _⟩ ?_
      clear hx B1 B8 B7
      generalize w7.heap.size = p13 at *
      rintro w8 ⟨hx, h8, B1, B8, B13⟩
      have HX7 := Lib.hid h8
      clear h8
      have B8h : w8.heap[p7 + 1]? = some (.cells rf 33 (0, 0)) := B8
      go_wp2_with ((with_reducible refine wpList_load_row rfl 33 _ rfl (p7 + 1) ?_ 33 rf (0, 0) _ B8h Tryd.underlying33 ?_ ?_ ?_); (exact rfl); (exact rfl); (rw [HRS.out]; kernel_rfl))
      refine (HT4.out _).mono ?_
      rintro e w9 ⟨rfl, h9⟩
      have HX8 := Lib.hid h9
      replace hx := hx.trans h9
      replace B1 := B1.ext h9
      replace B13 := B13.ext h9
      clear h9 B8h B8
      have Z1 : Blk (w9.alloc (.cells #[.int .i64 0, .bool false, .bool false, .bool false, .bool false, .bool false, .bool false, .bool false, .bool false, .bool false, .bool false, .bool false, .bool false, .bool false, .bool false, .bool false, .bool false, .bool false, .bool false, .bool false, .bool false, .bool false, .bool false, .bool false, .bool false, .bool false, .bool false, .bool false, .bool false, .bool false, .bool false, .bool false, .bool false] 49)) w9.heap.size 49 #[.int .i64 0, .bool false, .bool false, .bool false, .bool false, .bool false, .bool false, .bool false, .bool false, .bool false, .bool false, .bool false, .bool false, .bool false, .bool false, .bool false, .bool false, .bool false, .bool false, .bool false, .bool false, .bool false, .bool false, .bool false, .bool false, .bool false, .bool false, .bool false, .bool false, .bool false, .bool false, .bool false, .bool false] := Blk.new _ _ _
      have T1 : (w9.alloc (.cells #[.int .i64 0, .bool false, .bool false, .bool false, .bool false, .bool false, .bool false, .bool false, .bool false, .bool false, .bool false, .bool false, .bool false, .bool false, .bool false, .bool false, .bool false, .bool false, .bool false, .bool false, .bool false, .bool false, .bool false, .bool false, .bool false, .bool false, .bool false, .bool false, .bool false, .bool false, .bool false, .bool false, .bool false] 49)).there w9.heap.size 0 pb.size := by rw [HPO.out.2]; exact Z1.there (by decide)
      have FF := Lib.hid (show Ext w ((w9.alloc (.cells #[.int .i64 0, .bool false, .bool false, .bool false, .bool false, .bool false, .bool false, .bool false, .bool false, .bool false, .bool false, .bool false, .bool false, .bool false, .bool false, .bool false, .bool false, .bool false, .bool false, .bool false, .bool false, .bool false, .bool false, .bool false, .bool false, .bool false, .bool false, .bool false, .bool false, .bool false, .bool false, .bool false, .bool false] 49)).setCells w9.heap.size 0 pb.toList) ∧ Ext w9 ((w9.alloc (.cells #[.int .i64 0, .bool false, .bool false, .bool false, .bool false, .bool false, .bool false, .bool false, .bool false, .bool false, .bool false, .bool false, .bool false, .bool false, .bool false, .bool false, .bool false, .bool false, .bool false, .bool false, .bool false, .bool false, .bool false, .bool false, .bool false, .bool false, .bool false, .bool false, .bool false, .bool false, .bool false, .bool false, .bool false] 49)).setCells w9.heap.size 0 pb.toList) ∧ Blk ((w9.alloc (.cells #[.int .i64 0, .bool false, .bool false, .bool false, .bool false, .bool false, .bool false, .bool false, .bool false, .bool false, .bool false, .bool false, .bool false, .bool false, .bool false, .bool false, .bool false, .bool false, .bool false, .bool false, .bool false, .bool false, .bool false, .bool false, .bool false, .bool false, .bool false, .bool false, .bool false, .bool false, .bool false, .bool false, .bool false] 49)).setCells w9.heap.size 0 pb.toList) b 24 #[.int .i64 d, .int .u64 x, .int .u64 h, .int .u64 k, .int .u64 l, .int .i64 d2, .int .u64 x2, .int .u64 h2, .int .u64 k2, .int .u64 l2] ∧
          Blk ((w9.alloc (.cells #[.int .i64 0, .bool false, .bool false, .bool false, .bool false, .bool false, .bool false, .bool false, .bool false, .bool false, .bool false, .bool false, .bool false, .bool false, .bool false, .bool false, .bool false, .bool false, .bool false, .bool false, .bool false, .bool false, .bool false, .bool false, .bool false, .bool false, .bool false, .bool false, .bool false, .bool false, .bool false, .bool false, .bool false] 49)).setCells w9.heap.size 0 pb.toList) p13 45 #[.int .i64 kb, .int .u64 z, .int .u64 0, .int .u64 0, .int .u64 0] ∧ Blk ((w9.alloc (.cells #[.int .i64 0, .bool false, .bool false, .bool false, .bool false, .bool false, .bool false, .bool false, .bool false, .bool false, .bool false, .bool false, .bool false, .bool false, .bool false, .bool false, .bool false, .bool false, .bool false, .bool false, .bool false, .bool false, .bool false, .bool false, .bool false, .bool false, .bool false, .bool false, .bool false, .bool false, .bool false, .bool false, .bool false] 49)).setCells w9.heap.size 0 pb.toList) w9.heap.size 49 pb from
        ⟨(hx.alloc _).setCells hx.size _ _, ((Ext.refl w9).alloc _).setCells (Nat.le_refl _) _ _, (B1.alloc _).farAll (by have := B1.lt; omega) _ _, (B13.alloc _).farAll (by have := B13.lt; omega) _ _, Z1.setAll (by rw [HPO.out.2]; rfl)⟩)
      have hs9 := hx.size
      clear hx B1 B13 Z1
      go_upto_region 9 with ((with_reducible refine wpList_store_mid rfl 49 _ _ rfl w9.heap.size 0 pb ?_ ?_ T1 ?_ HPO.out.1 ?_); (exact rfl); (exact rfl); (rw [HPO.out.2]; kernel_rfl))
      refine wp_forget (fun wx => Ext w wx ∧ Ext w9 wx ∧ Blk wx b 24 #[.int .i64 d, .int .u64 x, .int .u64 h, .int .u64 k, .int .u64 l, .int .i64 d2, .int .u64 x2, .int .u64 h2, .int .u64 k2, .int .u64 l2] ∧ Blk wx p13 45 #[.int .i64 kb, .int .u64 z, .int .u64 0, .int .u64 0, .int .u64 0] ∧ Blk wx w9.heap.size 49 pb) FF.out ?_
      clear FF T1
      generalize w9.heap.size = p15 at *
      rintro w10 ⟨hx, h10, B1, B13, B15⟩
      have HR1' := Lib.hid (show ∀ i, i < K.length → ∃ g, base1 = some ⟨g, 0, none⟩ ∧ ∀ (w' : World) (i k : Nat), Ext w10 w' → K[i]? = some k → w'.cell? ⟨g, i * 5, none⟩ = some (.int .i64 k) ∧ w'.cell? ⟨g, i * 5 + 1, none⟩ = some (.int .u64 (numF (Fl k) 32 : Nat)) ∧
        w'.cell? ⟨g, i * 5 + 2, none⟩ = some (.int .u64 0) ∧ w'.cell? ⟨g, i * 5 + 3, none⟩ = some (.int .u64 0) ∧ w'.cell? ⟨g, i * 5 + 4, none⟩ = some (.int .u64 0) from fun i hi => by
          obtain ⟨g, hg, hh⟩ := HR1.out i hi
          exact ⟨g, hg, fun w' i k he hk => hh w' i k (((((HX5.out.trans HX6.out).trans HX7.out).trans HX8.out).trans h10).trans he) hk⟩)
      have HR2' := Lib.hid (show ∀ i, i < K.length → ∃ g, base2 = some ⟨g, 0, none⟩ ∧ ∀ (w' : World) (i k : Nat), Ext w10 w' → K[i]? = some k → w'.rangeAt g (i * 33) (rpl k (Fl k)).toList from fun i hi => by
          obtain ⟨g, hg, hh⟩ := HR2.out i hi
          exact ⟨g, hg, fun w' i k he hk => hh w' i k ((((HX6.out).trans HX7.out).trans HX8.out).trans h10 |>.trans he) hk⟩)
      clear HR1 HR2 HX5 HX6 HX7 HX8 h10 HT1 HT2 HT3 HT4 HS
      have F := Lib.hid (fun (w1 : World) (hr : Ext w10 w1) => (B13.ext hr).cells)
      have kl : ((K.length : Int) != K.length) = false := by simp
      have el : (er != er) = false := by simp
      go_upto_region 9 with (fail)
      refine Seq.text (k := 19) (R := Ext) (by kernel_rfl) (by decide) (fun _ _ _ => Ext.trans) (fun _ _ h => h.size) Ext.refl (At.start ?_)
      (refine At.det ?_ (fun val w1 hR _ K hK => ?_) ?_; rotate_left; (simp only [Act.put, List.setIfInBounds_toArray, List.set_cons_zero, List.set_cons_succ] at hK; go_simp; exact hK _ (Ext.refl _)); simp only [Act.put, List.setIfInBounds_toArray, List.set_cons_zero, List.set_cons_succ])
      (refine At.det ?_ (fun val w1 hR _ K hK => ?_) ?_; rotate_left; (simp only [Act.put, List.setIfInBounds_toArray, List.set_cons_zero, List.set_cons_succ] at hK; go_simp; exact hK _ (Ext.refl _)); simp only [Act.put, List.setIfInBounds_toArray, List.set_cons_zero, List.set_cons_succ])
      (refine At.det ?_ (fun val w1 hR _ K hK => ?_) ?_; rotate_left; (simp only [Act.put, List.setIfInBounds_toArray, List.set_cons_zero, List.set_cons_succ] at hK; go_simp; exact hK _ (Ext.refl _)); simp only [Act.put, List.setIfInBounds_toArray, List.set_cons_zero, List.set_cons_succ])
      (refine At.det ?_ (fun val w1 hR _ K hK => ?_) ?_; rotate_left; (simp only [Act.put, List.setIfInBounds_toArray, List.set_cons_zero, List.set_cons_succ] at hK; go_simp; exact hK _ (Ext.refl _)); simp only [Act.put, List.setIfInBounds_toArray, List.set_cons_zero, List.set_cons_succ])
      (refine At.det ?_ (fun val w1 hR _ K hK => ?_) ?_; rotate_left; (simp only [Act.put, List.setIfInBounds_toArray, List.set_cons_zero, List.set_cons_succ] at hK; go_simp; exact hK _ (Ext.refl _)); simp only [Act.put, List.setIfInBounds_toArray, List.set_cons_zero, List.set_cons_succ])
      (refine At.det ?_ (fun val w1 hR _ K hK => ?_) ?_; rotate_left; (simp only [Act.put, List.setIfInBounds_toArray, List.set_cons_zero, List.set_cons_succ] at hK; go_simp; exact hK _ (Ext.refl _)); simp only [Act.put, List.setIfInBounds_toArray, List.set_cons_zero, List.set_cons_succ])
      (refine At.det ?_ (fun val w1 hR _ K hK => ?_) ?_; rotate_left; (simp only [Act.put, List.setIfInBounds_toArray, List.set_cons_zero, List.set_cons_succ] at hK; go_simp; exact hK _ (Ext.refl _)); simp only [Act.put, List.setIfInBounds_toArray, List.set_cons_zero, List.set_cons_succ])
      (refine At.det ?_ (fun val w1 hR _ K hK => ?_) ?_; rotate_left; (simp only [Act.put, List.setIfInBounds_toArray, List.set_cons_zero, List.set_cons_succ] at hK; go_simp; exact hK _ (Ext.refl _)); simp only [Act.put, List.setIfInBounds_toArray, List.set_cons_zero, List.set_cons_succ])
      (refine At.det ?_ (fun val w1 hR _ K hK => ?_) ?_; rotate_left; (simp only [Act.put, List.setIfInBounds_toArray, List.set_cons_zero, List.set_cons_succ] at hK; go_simp; exact hK _ (Ext.refl _)); simp only [Act.put, List.setIfInBounds_toArray, List.set_cons_zero, List.set_cons_succ])
      (refine At.det ?_ (fun val w1 hR _ K hK => ?_) ?_; rotate_left; (simp only [Act.put, List.setIfInBounds_toArray, List.set_cons_zero, List.set_cons_succ] at hK; go_simp; exact hK _ (Ext.refl _)); simp only [Act.put, List.setIfInBounds_toArray, List.set_cons_zero, List.set_cons_succ])
      (refine At.det ?_ (fun val w1 hR _ K hK => ?_) ?_; rotate_left; (simp only [Act.put, List.setIfInBounds_toArray, List.set_cons_zero, List.set_cons_succ] at hK; go_simp; exact hK _ (Ext.refl _)); simp only [Act.put, List.setIfInBounds_toArray, List.set_cons_zero, List.set_cons_succ])
      (refine At.det ?_ (fun val w1 hR _ K hK => ?_) ?_; rotate_left; (have g1 := F.out _ hR; simp only [Act.put, List.setIfInBounds_toArray, List.set_cons_zero, List.set_cons_succ] at hK; go_simp; exact hK _ (Ext.refl _)); simp only [Act.put, List.setIfInBounds_toArray, List.set_cons_zero, List.set_cons_succ])
      (refine At.row p15 49 pb _ Ext.refl (fun w1 hR => B15.ext hR) _ _ rfl (fun _ => by first | rfl | kernel_rfl) (fun _ => by first | rfl | kernel_rfl) Tryd.underlying49 rfl (by rw [HPO.out.2]; kernel_rfl) ?_; simp only [Act.put, List.setIfInBounds_toArray, List.set_cons_zero, List.set_cons_succ])
      (refine At.det ?_ (fun val w1 hR _ K hK => ?_) ?_; rotate_left; (simp only [Act.put, List.setIfInBounds_toArray, List.set_cons_zero, List.set_cons_succ] at hK; go_simp; (with_reducible refine (HSam.out _).mono ?_); rintro e w2 ⟨rfl, h2⟩; exact hK _ (h2)); simp only [Act.put, List.setIfInBounds_toArray, List.set_cons_zero, List.set_cons_succ])
      (refine At.det ?_ (fun val w1 hR _ K hK => ?_) ?_; rotate_left; (simp only [Act.put, List.setIfInBounds_toArray, List.set_cons_zero, List.set_cons_succ] at hK; go_simp; exact hK _ (Ext.refl _)); simp only [Act.put, List.setIfInBounds_toArray, List.set_cons_zero, List.set_cons_succ])
      (refine At.det ?_ (fun val w1 hR _ K hK => ?_) ?_; rotate_left; (simp only [Act.put, List.setIfInBounds_toArray, List.set_cons_zero, List.set_cons_succ] at hK; go_simp; exact hK _ (Ext.refl _)); simp only [Act.put, List.setIfInBounds_toArray, List.set_cons_zero, List.set_cons_succ])
      (refine At.det ?_ (fun val w1 hR _ K hK => ?_) ?_; rotate_left; (simp only [Act.put, List.setIfInBounds_toArray, List.set_cons_zero, List.set_cons_succ] at hK; go_simp; exact hK _ (Ext.refl _)); simp only [Act.put, List.setIfInBounds_toArray, List.set_cons_zero, List.set_cons_succ])
      (refine At.det ?_ (fun val w1 hR _ K hK => ?_) ?_; rotate_left; (simp only [Act.put, List.setIfInBounds_toArray, List.set_cons_zero, List.set_cons_succ] at hK; go_simp; exact hK _ (Ext.refl _)); simp only [Act.put, List.setIfInBounds_toArray, List.set_cons_zero, List.set_cons_succ])
      (refine At.det ?_ (fun val w1 hR _ K hK => ?_) ?_; rotate_left; (simp only [Act.put, List.setIfInBounds_toArray, List.set_cons_zero, List.set_cons_succ] at hK; go_simp; exact hK _ (Ext.refl _)); simp only [Act.put, List.setIfInBounds_toArray, List.set_cons_zero, List.set_cons_succ])
      refine At.last rfl (fun val w11 hR hF hN => ?_)
      replace hx := hx.trans hR
      replace B1 := B1.ext hR
      have H10 := hR
      clear F hR hF hN B13 B15
      have HEE := Lib.hid (show ∀ (i : Nat), i < K.length → ∃ k, K[i]? = some k from fun i hi => ⟨_, List.getElem?_eq_getElem hi⟩)
      generalize K.length = n at *
      have HK5 := HK4.out
      clear HSam HPO HTS HTO HRS HRO HG
      go_wp2_with fail
      go_loopw [75] (fun i wx => ∃ j : Nat, j ≤ n ∧ i = .int .i64 j ∧ Ext w wx ∧ Ext w10 wx ∧ Blk wx b 24 #[.int .i64 d, .int .u64 x, .int .u64 h, .int .u64 k, .int .u64 l, .int .i64 d2, .int .u64 x2, .int .u64 h2, .int .u64 k2, .int .u64 l2]) (fun i _ => n - (intOf i).toNat)
      case atStart => exact ⟨0, by omega, rfl, hx, H10, B1⟩
      case round =>
        clear hx H10 B1
        obtain ⟨j, hj, rfl, hx, H10, B1⟩ := hrel
        by_cases hlt2 : j < n
        · obtain ⟨g1, rfl, hh1⟩ := HR1'.out j hlt2
          obtain ⟨g2, rfl, hh2⟩ := HR2'.out j hlt2
          obtain ⟨kj, hkj⟩ := HEE.out j hlt2
          have j0 : (0 : Int) ≤ (j : Int) := by omega
          have j1 : (j : Int) < (n : Int) := by omega
          go_upto_region 14 with (fail)
          have FX := Lib.hid (fun (w1 : World) (hr : Ext wr.drew w1) => And.intro (hh1 w1 j kj (H10.trans hr.of_drew) hkj) (hh2 w1 j kj (H10.trans hr.of_drew) hkj))
          generalize hsc : numF (Fl kj) 32 = zj at *
          have HSJ := Lib.hid (HSamF.out kj)
          rw [hsc] at HSJ
          clear hsc hh1 hh2 hkj
          have HPJ := Lib.hid (HRF.out kj)
          generalize rpl kj (Fl kj) = pj at *
          refine Seq.drawn (k := 8) (R := Ext) (by kernel_rfl) (by decide) (by kernel_rfl) (fun _ _ _ => Ext.trans) (fun _ _ h => h.size) Ext.refl (At.start ?_)
          (refine At.det ?_ (fun val w1 hR _ K hK => ?_) ?_; rotate_left; (simp only [Act.put, List.setIfInBounds_toArray, List.set_cons_zero, List.set_cons_succ] at hK; go_simp; exact hK _ (Ext.refl _)); simp only [Act.put, List.setIfInBounds_toArray, List.set_cons_zero, List.set_cons_succ])
          (refine At.det ?_ (fun val w1 hR _ K hK => ?_) ?_; rotate_left; (simp only [Act.put, List.setIfInBounds_toArray, List.set_cons_zero, List.set_cons_succ] at hK; go_simp; exact hK _ (Ext.refl _)); simp only [Act.put, List.setIfInBounds_toArray, List.set_cons_zero, List.set_cons_succ])
          (refine At.det ?_ (fun val w1 hR _ K hK => ?_) ?_; rotate_left; (simp only [Act.put, List.setIfInBounds_toArray, List.set_cons_zero, List.set_cons_succ] at hK; go_simp; exact hK _ (Ext.refl _)); simp only [Act.put, List.setIfInBounds_toArray, List.set_cons_zero, List.set_cons_succ])
          (refine At.det ?_ (fun val w1 hR _ K hK => ?_) ?_; rotate_left; (have g0 := (FX.out _ hR).1; have g1 := g0.1; have g2 := g0.2.1; have g3 := g0.2.2.1; have g4 := g0.2.2.2.1; have g5 := g0.2.2.2.2; clear g0; simp only [Act.put, List.setIfInBounds_toArray, List.set_cons_zero, List.set_cons_succ] at hK; go_simp; exact hK _ (Ext.refl _)); simp only [Act.put, List.setIfInBounds_toArray, List.set_cons_zero, List.set_cons_succ])
          (refine At.det ?_ (fun val w1 hR _ K hK => ?_) ?_; rotate_left; (simp only [Act.put, List.setIfInBounds_toArray, List.set_cons_zero, List.set_cons_succ] at hK; go_simp; exact hK _ (Ext.refl _)); simp only [Act.put, List.setIfInBounds_toArray, List.set_cons_zero, List.set_cons_succ])
          (refine At.det ?_ (fun val w1 hR _ K hK => ?_) ?_; rotate_left; (simp only [Act.put, List.setIfInBounds_toArray, List.set_cons_zero, List.set_cons_succ] at hK; go_simp; exact hK _ (Ext.refl _)); simp only [Act.put, List.setIfInBounds_toArray, List.set_cons_zero, List.set_cons_succ])
          (refine At.det ?_ (fun val w1 hR _ K hK => ?_) ?_; rotate_left; (simp only [Act.put, List.setIfInBounds_toArray, List.set_cons_zero, List.set_cons_succ] at hK; go_simp; exact hK _ (Ext.refl _)); simp only [Act.put, List.setIfInBounds_toArray, List.set_cons_zero, List.set_cons_succ])
          (refine At.mid g2 (j * 33) pj.toList _ Ext.refl (fun w1 hR => (FX.out _ hR).2) _ _ rfl (fun _ => by first | rfl | kernel_rfl) (fun _ => by first | rfl | kernel_rfl) Tryd.underlying49 rfl (by rw [Array.length_toList, HPJ.out.2]; kernel_rfl) ?_; simp only [Act.put, List.setIfInBounds_toArray, List.set_cons_zero, List.set_cons_succ, Array.toArray_toList])
          refine At.last rfl (fun val w12 hR hF hN => ?_)
          go_wp2_with fail
          refine (HSJ.out _).mono ?_
          rintro e w13 ⟨rfl, h13⟩
          have hx2 := (hx.trans hR.of_drew).trans h13
          have H102 := (H10.trans hR.of_drew).trans h13
          have B2 := (B1.ext hR.of_drew).ext h13
          clear hx H10 B1 h13 hR hF hN FX
          go_wp2_with fail
          exact ⟨⟨j + 1, by omega, by go_num, hx2, H102, B2⟩, by simp [intOf]; omega⟩
        · have hjn : j = n := by omega
          subst hjn
          go_wp2_with fail
          exact ⟨⟨m + 1, by omega, by go_num, hx, B1⟩, by simp [intOf]; omega⟩
    · have hm2 : m = 2 := by omega
      subst hm2
      have HM := Lib.hid (fun w => name_any kk w)
      have HM2 := Lib.hid (fun a w => name_any a w)
      have HRM := Lib.hid (fun a w => rname_any a w)
      have HNm := Lib.hid (fun (wx : World) (he : Ext wr wx) => HN.out.ext (hx.trans he))
      have HWk := Lib.hid (wakes_any wr (HN.out.ext hx))
      clear HM
      go_wp2_with fail
      refine HWk.out.mono ?_
      rintro e w2 ⟨rfl, h2⟩
      go_wp2_with fail
      refine (HM2.out kk w2 (HNm.out w2 h2)).mono ?_
      rintro e w3 ⟨rfl, rfl⟩
      go_wp2_with fail
      refine (HRM.out kk _).mono ?_
      rintro e w4 ⟨rfl, h4⟩
      replace h2 := h2.trans h4
      clear h4
      go_wp2_with fail
      refine (HM2.out _ w4 (HNm.out w4 h2)).mono ?_
      rintro e w5 ⟨rfl, rfl⟩
      go_wp2_with fail
      refine (HRM.out _ _).mono ?_
      rintro e w6 ⟨rfl, h6⟩
      have hx6 := (hx.trans h2).trans h6
      clear h6 h2 hx
      go_wp2_with fail
      go_ret
      exact ⟨by simp, hx6⟩
end Go.Proofs.YtghefhmncpmflaaDoor
