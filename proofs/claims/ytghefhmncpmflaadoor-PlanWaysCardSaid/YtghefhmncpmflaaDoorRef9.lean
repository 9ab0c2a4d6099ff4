/-
  The contract of the document's Ways.
-/
import Derived.Test.YtghefhmncpmflaaDoorRef8
import Derived.Test.YtghefhmncpmflaaDoorRef6
import Derived.Test.YtghefhmncpmflaaDoorBsl
namespace Go.Proofs.YtghefhmncpmflaaDoor
open Go.RowKit Go.Rg

theorem info49 : (Tryd.prog.info? 49).map (fun i => (i.zero, i.size, i.bytes)) = some (some (.agg (rpl 0 fun _ => false)), 33, 40) := by kernel_rfl
/-- The cells of a list of the document's plans. -/
def rplsC (D : Nat) (A B C E : Nat → Bool) (K : List Nat) : List Value := K.flatMap fun (k : Nat) => (rpl (k : Int) (upR k D A B C E (D + 2))).toList
theorem rplsC_snoc (D : Nat) (A B C E : Nat → Bool) (K : List Nat) (k : Nat) : rplsC D A B C E (K ++ [k]) = rplsC D A B C E K ++ (rpl k (upR k D A B C E (D + 2))).toList := by simp [rplsC]
theorem kindsR_succ (D : Nat) (A B C E : Nat → Bool) (n : Nat) : kindsR D A B C E (n + 1) = if wayOk n D A B C E then kindsR D A B C E n ++ [n] else kindsR D A B C E n := by
  unfold kindsR
  rw [List.range_succ, List.filter_append]
  cases h : wayOk n D A B C E <;> simp [h]
theorem kindsR_le (D : Nat) (A B C E : Nat → Bool) (n : Nat) : (kindsR D A B C E n).length ≤ n := Nat.le_trans (List.length_filter_le _ _) (by simp)

theorem run_bsl49 (ps : Array Value) (hs : ps.size = 33) (w : World) : (Instr.buildSlice 40 1 #[(0, .agg ps)]).run Tryd.prog w = .ok (.slice (some ⟨w.heap.size, 0, none⟩) 1 1) (w.alloc (.cells ps 49)) := by
  obtain ⟨i0, hi, hz0, hz1, hz2⟩ := info_parts info49
  exact run_buildSlice_one ps (by kernel_rfl) hi hz0 (by rw [hz1, hs]) (by omega) (by omega) w

theorem rsF_size (d : Int) (A B C E : Nat → Bool) (odd : Bool) : (rsF d A B C E odd).size = 130 := by simp [rsF, rs4, b32_size]

set_option maxRecDepth 100000 in
set_option maxHeartbeats 4000000 in
theorem rways_bad (d : Int) (A B C E : Nat → Bool) (odd : Bool) (hg : goodR d A B C E odd = false) (w : World) :
    Calls Tryd.prog 12 #[.agg (rsF d A B C E odd)] w fun e w' => e = .returned (.tuple #[.slice none 0 0, .int .i64 4]) ∧ Ext w w' := by
  have HG := Lib.hid (rgood_any d A B C E odd)
  rw [hg] at HG
  clear hg
  have HZ := Lib.hid (rsF_size d A B C E odd)
  generalize rsF d A B C E odd = cs at *
  go_enter Tryd.func12, Tryd.ntmps12
  have B1h : (w.alloc (.cells cs 33)).heap[w.heap.size]? = some (.cells cs 33 (0, 0)) := Blk.new w 33 cs
  go_wp2_with ((with_reducible refine wpList_load_row rfl 33 _ rfl w.heap.size ?_ 33 cs (0, 0) _ B1h Tryd.underlying33 ?_ ?_ ?_); (exact rfl); (exact rfl); (rw [HZ.out]; kernel_rfl))
  refine (HG.out _).mono ?_
  rintro e w1 ⟨rfl, h1⟩
  have hx : Ext w w1 := ((Ext.refl w).alloc _).trans h1
  clear h1 B1h
  go_wp2_with fail
  go_ret2
  exact ⟨rfl, hx⟩

set_option maxRecDepth 100000 in
set_option maxHeartbeats 4000000 in
theorem rways_good (D : Nat) (hD1 : 2 ≤ D) (hD2 : D ≤ 30) (A B C E : Nat → Bool) (odd : Bool) (hg : goodR D A B C E odd = true) (w : World) :
    Calls Tryd.prog 12 #[.agg (rsF D A B C E odd)] w fun e w' => ∃ v, e = .returned (.tuple #[v, .int .i64 0]) ∧ w'.ownsRow w.heap.size 49 33 v (kindsR D A B C E 4).length (rplsC D A B C E (kindsR D A B C E 4)) ∧ Ext w w' := by
  have HG := Lib.hid (rgood_any D A B C E odd)
  rw [hg] at HG
  clear hg
  have HZ := Lib.hid (rsF_size D A B C E odd)
  have HW := Lib.hid (fun (n : Nat) (hn : n < 4) => rway_any n D hn hD1 hD2 A B C E odd)
  generalize rsF D A B C E odd = cs at *
  obtain ⟨iT, hi, hz0, hz1, hz2⟩ := info_parts info49
  have HI := Lib.hid (And.intro hi (And.intro hz0 (And.intro hz1 hz2)))
  clear hi hz0 hz1 hz2
  have HO := Lib.hid (And.intro (rpl_one 0 (fun _ => false)) (rpl_size 0 (fun _ => false)))
  go_enter Tryd.func12, Tryd.ntmps12
  have B1h : (w.alloc (.cells cs 33)).heap[w.heap.size]? = some (.cells cs 33 (0, 0)) := Blk.new w 33 cs
  go_wp2_with ((with_reducible refine wpList_load_row rfl 33 _ rfl w.heap.size ?_ 33 cs (0, 0) _ B1h Tryd.underlying33 ?_ ?_ ?_); (exact rfl); (exact rfl); (rw [HZ.out]; kernel_rfl))
  refine (HG.out _).mono ?_
  rintro e w1 ⟨rfl, h1⟩
  have hx : Ext w w1 := ((Ext.refl w).alloc _).trans h1
  have B1 : Blk w1 w.heap.size 33 cs := (Blk.new w 33 cs).ext h1
  clear h1 B1h
  go_wp2_with fail
  go_loopw [5, 6] (fun v i wr => ∃ n : Nat, n ≤ 4 ∧ i = .int .i64 n ∧ wr.ownsRow (w.heap.size + 1) 49 33 v (kindsR D A B C E n).length (rplsC D A B C E (kindsR D A B C E n)) ∧ Ext w wr ∧ Blk wr w.heap.size 33 cs)
    (fun _ i _ => 4 - (intOf i).toNat)
  case atStart => exact ⟨0, by omega, rfl, (show w1.ownsRow (w.heap.size + 1) 49 33 (.slice none 0 0) 0 [] from World.ownsRow_nil _ _ 49 33), hx, B1⟩
  case round =>
    clear hx B1
    obtain ⟨n, hn, rfl, hown, hx, B1⟩ := hrel
    by_cases hlt : n < 4
    · have i0 : (n : Int) < 4 := by omega
      have B1h : wr.heap[w.heap.size]? = some (.cells cs 33 (0, 0)) := B1
      go_wp2_with ((with_reducible refine wpList_load_row rfl 33 _ rfl w.heap.size ?_ 33 cs (0, 0) _ B1h Tryd.underlying33 ?_ ?_ ?_); (exact rfl); (exact rfl); (rw [HZ.out]; kernel_rfl))
      refine (HW.out n hlt _).mono ?_
      rintro e w2 ⟨rfl, h2⟩
      have hK := kindsR_succ D A B C E n
      have hKl := kindsR_le D A B C E n
      have hown2 := ownsRow_ext hown h2
      have hx2 := hx.trans h2
      have B2 := B1.ext h2
      clear hown hx B1 B1h h2
      have HKl := Lib.hid (show (kindsR D A B C E n).length ≤ 4 from by omega)
      cases hok : wayOk n D A B C E
      · have hW : wayR n D A B C E = (rpl 0 (fun _ => false), false) := by unfold wayR; rw [if_neg (by rw [hok]; decide)]
        rw [hok, if_neg (by decide)] at hK
        have HS := Lib.hid hK
        clear hok hK
        rw [hW]
        clear hW
        have HOO := Lib.hid (HO.out)
        generalize hps : rpl 0 (fun _ => false) = ps at *
        have HP := Lib.hid hps
        clear hps
        have Z1 : Blk (w2.alloc (.cells #[.int .i64 0, .bool false, .bool false, .bool false, .bool false, .bool false, .bool false, .bool false, .bool false, .bool false, .bool false, .bool false, .bool false, .bool false, .bool false, .bool false, .bool false, .bool false, .bool false, .bool false, .bool false, .bool false, .bool false, .bool false, .bool false, .bool false, .bool false, .bool false, .bool false, .bool false, .bool false, .bool false, .bool false] 49)) w2.heap.size 49 #[.int .i64 0, .bool false, .bool false, .bool false, .bool false, .bool false, .bool false, .bool false, .bool false, .bool false, .bool false, .bool false, .bool false, .bool false, .bool false, .bool false, .bool false, .bool false, .bool false, .bool false, .bool false, .bool false, .bool false, .bool false, .bool false, .bool false, .bool false, .bool false, .bool false, .bool false, .bool false, .bool false, .bool false] := Blk.new _ _ _
        have th : (w2.alloc (.cells #[.int .i64 0, .bool false, .bool false, .bool false, .bool false, .bool false, .bool false, .bool false, .bool false, .bool false, .bool false, .bool false, .bool false, .bool false, .bool false, .bool false, .bool false, .bool false, .bool false, .bool false, .bool false, .bool false, .bool false, .bool false, .bool false, .bool false, .bool false, .bool false, .bool false, .bool false, .bool false, .bool false, .bool false] 49)).there w2.heap.size 0 ps.size := by rw [HOO.out.2]; exact Z1.there (by decide)
        have HX := Lib.hid (show Ext w ((w2.alloc (.cells #[.int .i64 0, .bool false, .bool false, .bool false, .bool false, .bool false, .bool false, .bool false, .bool false, .bool false, .bool false, .bool false, .bool false, .bool false, .bool false, .bool false, .bool false, .bool false, .bool false, .bool false, .bool false, .bool false, .bool false, .bool false, .bool false, .bool false, .bool false, .bool false, .bool false, .bool false, .bool false, .bool false, .bool false] 49)).setCells w2.heap.size 0 ps.toList) ∧ Blk ((w2.alloc (.cells #[.int .i64 0, .bool false, .bool false, .bool false, .bool false, .bool false, .bool false, .bool false, .bool false, .bool false, .bool false, .bool false, .bool false, .bool false, .bool false, .bool false, .bool false, .bool false, .bool false, .bool false, .bool false, .bool false, .bool false, .bool false, .bool false, .bool false, .bool false, .bool false, .bool false, .bool false, .bool false, .bool false, .bool false] 49)).setCells w2.heap.size 0 ps.toList) w.heap.size 33 cs ∧ Blk ((w2.alloc (.cells #[.int .i64 0, .bool false, .bool false, .bool false, .bool false, .bool false, .bool false, .bool false, .bool false, .bool false, .bool false, .bool false, .bool false, .bool false, .bool false, .bool false, .bool false, .bool false, .bool false, .bool false, .bool false, .bool false, .bool false, .bool false, .bool false, .bool false, .bool false, .bool false, .bool false, .bool false, .bool false, .bool false, .bool false] 49)).setCells w2.heap.size 0 ps.toList) w2.heap.size 49 ps ∧
            ((w2.alloc (.cells #[.int .i64 0, .bool false, .bool false, .bool false, .bool false, .bool false, .bool false, .bool false, .bool false, .bool false, .bool false, .bool false, .bool false, .bool false, .bool false, .bool false, .bool false, .bool false, .bool false, .bool false, .bool false, .bool false, .bool false, .bool false, .bool false, .bool false, .bool false, .bool false, .bool false, .bool false, .bool false, .bool false, .bool false] 49)).setCells w2.heap.size 0 ps.toList).ownsRow (w.heap.size + 1) 49 33 u5 (kindsR D A B C E n).length (rplsC D A B C E (kindsR D A B C E n)) from
          ⟨(hx2.alloc _).setCells hx2.size _ _, (B2.alloc _).farAll (by have := B2.lt; omega) _ _, Z1.setAll (by rw [HOO.out.2]; rfl), ownsRow_ext hown2 (((Ext.refl w2).alloc _).setCells (Nat.le_refl _) _ _)⟩)
        have hp0 : w.heap.size + 1 ≤ w2.heap.size := B2.lt
        clear Z1 hx2 B2 hown2
        go_upto_region 9 with ((with_reducible refine wpList_store_mid rfl 49 _ _ rfl w2.heap.size 0 ps ?_ ?_ th ?_ HOO.out.1 ?_); (exact rfl); (exact rfl); (rw [HOO.out.2]; kernel_rfl))
        refine wp_forget (fun wx => Ext w wx ∧ Blk wx w.heap.size 33 cs ∧ Blk wx w2.heap.size 49 ps ∧ wx.ownsRow (w.heap.size + 1) 49 33 u5 (kindsR D A B C E n).length (rplsC D A B C E (kindsR D A B C E n))) HX.out ?_
        clear HX th
        generalize w2.heap.size = p at *
        rintro w3 ⟨hx, B1, B3, hown⟩
        go_wp2_with fail
        exact ⟨⟨n + 1, by omega, by go_num, by rw [HS.out]; exact hown, hx, B1⟩, by simp [intOf]; omega⟩
      · have hW : wayR n D A B C E = (rpl n (upR n D A B C E (D + 2)), true) := by unfold wayR; rw [if_pos hok]
        rw [hok, if_pos rfl] at hK
        have HS := Lib.hid hK
        clear hok hK
        rw [hW]
        clear hW
        have HOO := Lib.hid (And.intro (rpl_one n (upR n D A B C E (D + 2))) (rpl_size n (upR n D A B C E (D + 2))))
        generalize hps : rpl n (upR n D A B C E (D + 2)) = ps at *
        have HP := Lib.hid hps
        clear hps
        have Z1 : Blk (w2.alloc (.cells #[.int .i64 0, .bool false, .bool false, .bool false, .bool false, .bool false, .bool false, .bool false, .bool false, .bool false, .bool false, .bool false, .bool false, .bool false, .bool false, .bool false, .bool false, .bool false, .bool false, .bool false, .bool false, .bool false, .bool false, .bool false, .bool false, .bool false, .bool false, .bool false, .bool false, .bool false, .bool false, .bool false, .bool false] 49)) w2.heap.size 49 #[.int .i64 0, .bool false, .bool false, .bool false, .bool false, .bool false, .bool false, .bool false, .bool false, .bool false, .bool false, .bool false, .bool false, .bool false, .bool false, .bool false, .bool false, .bool false, .bool false, .bool false, .bool false, .bool false, .bool false, .bool false, .bool false, .bool false, .bool false, .bool false, .bool false, .bool false, .bool false, .bool false, .bool false] := Blk.new _ _ _
        have th : (w2.alloc (.cells #[.int .i64 0, .bool false, .bool false, .bool false, .bool false, .bool false, .bool false, .bool false, .bool false, .bool false, .bool false, .bool false, .bool false, .bool false, .bool false, .bool false, .bool false, .bool false, .bool false, .bool false, .bool false, .bool false, .bool false, .bool false, .bool false, .bool false, .bool false, .bool false, .bool false, .bool false, .bool false, .bool false, .bool false] 49)).there w2.heap.size 0 ps.size := by rw [HOO.out.2]; exact Z1.there (by decide)
        have HX := Lib.hid (show Ext w ((w2.alloc (.cells #[.int .i64 0, .bool false, .bool false, .bool false, .bool false, .bool false, .bool false, .bool false, .bool false, .bool false, .bool false, .bool false, .bool false, .bool false, .bool false, .bool false, .bool false, .bool false, .bool false, .bool false, .bool false, .bool false, .bool false, .bool false, .bool false, .bool false, .bool false, .bool false, .bool false, .bool false, .bool false, .bool false, .bool false] 49)).setCells w2.heap.size 0 ps.toList) ∧ Blk ((w2.alloc (.cells #[.int .i64 0, .bool false, .bool false, .bool false, .bool false, .bool false, .bool false, .bool false, .bool false, .bool false, .bool false, .bool false, .bool false, .bool false, .bool false, .bool false, .bool false, .bool false, .bool false, .bool false, .bool false, .bool false, .bool false, .bool false, .bool false, .bool false, .bool false, .bool false, .bool false, .bool false, .bool false, .bool false, .bool false] 49)).setCells w2.heap.size 0 ps.toList) w.heap.size 33 cs ∧ Blk ((w2.alloc (.cells #[.int .i64 0, .bool false, .bool false, .bool false, .bool false, .bool false, .bool false, .bool false, .bool false, .bool false, .bool false, .bool false, .bool false, .bool false, .bool false, .bool false, .bool false, .bool false, .bool false, .bool false, .bool false, .bool false, .bool false, .bool false, .bool false, .bool false, .bool false, .bool false, .bool false, .bool false, .bool false, .bool false, .bool false] 49)).setCells w2.heap.size 0 ps.toList) w2.heap.size 49 ps ∧
            ((w2.alloc (.cells #[.int .i64 0, .bool false, .bool false, .bool false, .bool false, .bool false, .bool false, .bool false, .bool false, .bool false, .bool false, .bool false, .bool false, .bool false, .bool false, .bool false, .bool false, .bool false, .bool false, .bool false, .bool false, .bool false, .bool false, .bool false, .bool false, .bool false, .bool false, .bool false, .bool false, .bool false, .bool false, .bool false, .bool false] 49)).setCells w2.heap.size 0 ps.toList).ownsRow (w.heap.size + 1) 49 33 u5 (kindsR D A B C E n).length (rplsC D A B C E (kindsR D A B C E n)) from
          ⟨(hx2.alloc _).setCells hx2.size _ _, (B2.alloc _).farAll (by have := B2.lt; omega) _ _, Z1.setAll (by rw [HOO.out.2]; rfl), ownsRow_ext hown2 (((Ext.refl w2).alloc _).setCells (Nat.le_refl _) _ _)⟩)
        have hp0 : w.heap.size + 1 ≤ w2.heap.size := B2.lt
        clear Z1 hx2 B2 hown2
        go_upto_region 9 with ((with_reducible refine wpList_store_mid rfl 49 _ _ rfl w2.heap.size 0 ps ?_ ?_ th ?_ HOO.out.1 ?_); (exact rfl); (exact rfl); (rw [HOO.out.2]; kernel_rfl))
        refine wp_forget (fun wx => Ext w wx ∧ Blk wx w.heap.size 33 cs ∧ Blk wx w2.heap.size 49 ps ∧ wx.ownsRow (w.heap.size + 1) 49 33 u5 (kindsR D A B C E n).length (rplsC D A B C E (kindsR D A B C E n))) HX.out ?_
        clear HX th
        generalize w2.heap.size = p at *
        rintro w3 ⟨hx, B1, B3, hown⟩
        have B3h : w3.heap[p]? = some (.cells ps 49 (0, 0)) := B3
        go_wp2_with (first
          | ((with_reducible refine wpList_load_row rfl 49 _ rfl p ?_ 49 ps (0, 0) _ B3h Tryd.underlying49 ?_ ?_ ?_); (exact rfl); (exact rfl); (rw [HOO.out.2]; kernel_rfl))
          | (with_reducible refine wpList_bsl1 rfl 40 _ rfl ps rfl Tryd.underlying40 HI.out.1 HI.out.2.1 (HI.out.2.2.1.trans HOO.out.2.symm) (by rw [HOO.out.2]; decide) (by rw [HOO.out.2]; decide) ?_)
          | (at_builtin; refine wpList_app1 40 (w.heap.size + 1) 49 iT _ 33 40 Tryd.underlying40 HI.out.1 HI.out.2.1 HI.out.2.2.1 HI.out.2.2.2 (rpl_size _ _) (by decide) (by decide) rfl _ _ rfl u5 (kindsR D A B C E n).length (rplsC D A B C E (kindsR D A B C E n)) rfl (hown.alloc _) (by have := HKl.out; omega) (by have := hx.size; have := B1.lt; simp; omega) w3.heap.size 49 ps.toList rfl (by rw [Array.toArray_toList]; exact Blk.new w3 49 ps) (by rw [Array.length_toList]; exact HOO.out.2) (by rw [Array.all_toList]; exact HOO.out.1) ?_; intro v' w4 hown2 hg))
        have hx2 := ext_grown (hx.alloc (.cells ps 49)) (hown.alloc (.cells ps 49)) hg (by omega)
        have B2 := blk_grown (B1.alloc (.cells ps 49)) (hown.alloc (.cells ps 49)) hg (by omega)
        clear hg hown hx B1 B3 B3h
        go_wp2_with fail
        exact ⟨⟨n + 1, by omega, by go_num, by rw [HS.out, rplsC_snoc, List.length_append, HP.out]; exact hown2, hx2, B2⟩, by simp [intOf]; omega⟩
    · have hn4 : n = 4 := by omega
      subst hn4
      go_wp2_with fail
      exact bodyPost_ret (v := .tuple #[u5, .int .i64 0]) (by simp [results, Tryd.results12, go_sem]) rfl ⟨u5, rfl, ownsRow_base hown (by omega), hx⟩
end Go.Proofs.YtghefhmncpmflaaDoor
