/-
  The contract of the document's Choose.
-/
import Derived.Test.YtghefhmncpmflaaDoorRef9
namespace Go.Proofs.YtghefhmncpmflaaDoor
open Go.RowKit Go.Rg

/-- The first of the least of a list. -/
def pickL (c : Nat → Nat) : List Nat → Nat
  | [] => 0
  | m :: L => L.foldl (pickF c) m
theorem pickL_take (c : Nat → Nat) (L : List Nat) (i p : Nat) (hi : L[i]? = some p) (h1 : 1 ≤ i) : pickL c (L.take (i + 1)) = pickF c (pickL c (L.take i)) p := by
  cases L with
  | nil => simp at hi
  | cons m L =>
    obtain ⟨j, rfl⟩ : ∃ j, i = j + 1 := ⟨i - 1, by omega⟩
    simp only [List.getElem?_cons_succ] at hi
    have hj : j < L.length := (List.getElem?_eq_some_iff.1 hi).1
    simp only [List.take_succ_cons, pickL]
    rw [List.take_add_one, hi, List.foldl_append, Option.toList_some, List.foldl_cons, List.foldl_nil]
theorem rplsC_get (D : Nat) (A B C E : Nat → Bool) (K : List Nat) : ∀ (i k : Nat), K[i]? = some k → ∀ j, j < 33 → (rplsC D A B C E K)[i * 33 + j]? = (rpl k (upR k D A B C E (D + 2))).toList[j]? := by
  induction K with
  | nil => intro i k h; simp at h
  | cons q K ih =>
    intro i k h j hj
    have hq : (rpl (q : Int) (upR q D A B C E (D + 2))).toList.length = 33 := by rw [Array.length_toList]; exact rpl_size _ _
    simp only [rplsC, List.flatMap_cons]
    cases i with
    | zero =>
      simp only [List.getElem?_cons_zero, Option.some.injEq] at h
      subst h
      rw [List.getElem?_append_left (by omega)]
      simp
    | succ i =>
      rw [List.getElem?_append_right (by omega)]
      have := ih i k (by simpa using h) j hj
      rw [show (i + 1) * 33 + j - (rpl (q : Int) (upR q D A B C E (D + 2))).toList.length = i * 33 + j from by omega]
      exact this
theorem rplsC_len (D : Nat) (A B C E : Nat → Bool) (K : List Nat) : (rplsC D A B C E K).length = K.length * 33 := by
  induction K with
  | nil => rfl
  | cons q K ih =>
    have hq : (rpl (q : Int) (upR q D A B C E (D + 2))).toList.length = 33 := by rw [Array.length_toList]; exact rpl_size _ _
    simp only [rplsC, List.flatMap_cons, List.length_append, hq, List.length_cons] at ih ⊢
    omega
/-- What is told of a slice of the document's plans: where each of them lies. -/
theorem rows_at {w : World} {B : Nat} {v : Value} {D : Nat} {A B' C E : Nat → Bool} {K : List Nat} (h : w.ownsRow B 49 33 v K.length (rplsC D A B' C E K)) (h1 : 1 ≤ K.length) :
    ∃ g cap, v = .slice (some ⟨g, 0, none⟩) K.length cap ∧ B ≤ g ∧ g < w.heap.size ∧ ∀ (w' : World) (i k : Nat), Ext w w' → K[i]? = some k → w'.rangeAt g (i * 33) (rpl k (upR k D A B' C E (D + 2))).toList := by
  have h2 := h.2
  rcases h2 with ⟨_, h0⟩ | ⟨g, cap, cur, hu, hB, hg, _⟩
  · omega
  · subst hu
    have hlt : g < w.heap.size := (Array.getElem?_eq_some_iff.1 hg).1
    refine ⟨g, cap, rfl, hB, hlt, fun w' i k he hk j v hv => ?_⟩
    have hj : j < 33 := by
      have := (List.getElem?_eq_some_iff.1 hv).1
      rw [Array.length_toList, rpl_size] at this
      exact this
    have hi : i < K.length := (List.getElem?_eq_some_iff.1 hk).1
    rw [Below.cell he (p := ⟨g, i * 33 + j, none⟩) hlt, World.ownsRow.cellAt h _ (by rw [← rplsC_len D A B' C E]; rw [rplsC_len]; omega), rplsC_get D A B' C E K i k hk j hj]
    exact hv

set_option maxRecDepth 100000 in
set_option maxHeartbeats 1000000 in
theorem rchoose_bad (d : Int) (A B C E : Nat → Bool) (odd : Bool) (hg : goodR d A B C E odd = false) (w : World) :
    Calls Tryd.prog 14 #[.agg (rsF d A B C E odd)] w fun e w' => e = .returned (.tuple #[.agg (rpl 0 fun _ => false), .int .i64 4]) ∧ Ext w w' := by
  have HG := Lib.hid (rways_bad d A B C E odd hg)
  clear hg
  have HZ := Lib.hid (rsF_size d A B C E odd)
  have HO := Lib.hid (And.intro (rpl_one 0 (fun _ => false)) (rpl_size 0 (fun _ => false)))
  generalize rsF d A B C E odd = cs at *
  go_enter Tryd.func14, Tryd.ntmps14
  go_upto_region 1 with (fail)
  refine wp_forget (fun w2 => Ext w w2 ∧ Blk w2 w.heap.size 33 cs ∧ Blk w2 (w.heap.size + 1) 49 (rpl 0 fun _ => false)) ⟨((Ext.refl w).alloc _).alloc _, (Blk.new w 33 cs).alloc _, Blk.new' (by simp) 49 _⟩ ?_
  rintro w0 ⟨hx, B1, B2⟩
  have B1h : w0.heap[w.heap.size]? = some (.cells cs 33 (0, 0)) := B1
  go_wp2_with ((with_reducible refine wpList_load_row rfl 33 _ rfl w.heap.size ?_ 33 cs (0, 0) _ B1h Tryd.underlying33 ?_ ?_ ?_); (exact rfl); (exact rfl); (rw [HZ.out]; kernel_rfl))
  refine (HG.out _).mono ?_
  rintro e w1 ⟨rfl, h1⟩
  replace hx : Ext w w1 := hx.trans h1
  replace B2 := B2.ext h1
  clear h1 B1h B1
  have th : w1.there (w.heap.size + 1) 0 (rpl 0 fun _ => false).size := B2.there (Nat.le_refl _)
  go_wp2_with ((with_reducible refine wpList_store_mid rfl 49 _ _ rfl (w.heap.size + 1) 0 (rpl 0 fun _ => false) ?_ ?_ th ?_ HO.out.1 ?_); (kernel_rfl); (kernel_rfl); (rw [HO.out.2]; kernel_rfl))
  exact ret_blk2 rfl (w.heap.size + 1) 49 (rpl 0 fun _ => false) _ rfl (B2.setAll rfl) Tryd.underlying49 rfl (by rw [HO.out.2]; kernel_rfl) rfl ⟨rfl, hx.setCells (by omega) _ _⟩

set_option maxRecDepth 100000 in
set_option maxHeartbeats 1000000 in
theorem rchoose_good (D : Nat) (hD1 : 2 ≤ D) (hD2 : D ≤ 30) (A B C E : Nat → Bool) (odd : Bool) (hg : goodR D A B C E odd = true) (K : List Nat) (hK : kindsR D A B C E 4 = K) (hK1 : 1 ≤ K.length) (hK4 : K.length ≤ 4)
    (b : Nat) (hb : b = pickL (fun k => cntF (upR k D A B C E (D + 2)) 32) K) (w : World) :
    Calls Tryd.prog 14 #[.agg (rsF D A B C E odd)] w fun e w' => e = .returned (.tuple #[.agg (rpl b (upR b D A B C E (D + 2))), .int .i64 0]) ∧ Ext w w' := by
  have HG := Lib.hid (rways_good D hD1 hD2 A B C E odd hg)
  rw [hK] at HG
  clear hg hK
  have HZ := Lib.hid (rsF_size D A B C E odd)
  have HO := Lib.hid (fun (k : Nat) => And.intro (rpl_one k (upR k D A B C E (D + 2))) (rpl_size k (upR k D A B C E (D + 2))))
  have HC := Lib.hid (fun (k : Nat) => count_any k (upR k D A B C E (D + 2)))
  have HCL := Lib.hid (fun (k : Nat) => cntF_le (upR k D A B C E (D + 2)) 32)
  generalize hcc : (fun k => cntF (upR k D A B C E (D + 2)) 32) = c at *
  have HCC := Lib.hid (show ∀ k, cntF (upR k D A B C E (D + 2)) 32 = c k from fun k => by rw [← hcc])
  have HB := Lib.hid hb
  clear hb hcc
  generalize rsF D A B C E odd = cs at *
  go_enter Tryd.func14, Tryd.ntmps14
  go_upto_region 1 with (fail)
  refine wp_forget (fun w2 => Ext w w2 ∧ Blk w2 w.heap.size 33 cs ∧ Blk w2 (w.heap.size + 1) 49 (rpl 0 fun _ => false)) ⟨((Ext.refl w).alloc _).alloc _, (Blk.new w 33 cs).alloc _, Blk.new' (by simp) 49 _⟩ ?_
  rintro w0 ⟨hx, B1, B2⟩
  have B1h : w0.heap[w.heap.size]? = some (.cells cs 33 (0, 0)) := B1
  go_wp2_with ((with_reducible refine wpList_load_row rfl 33 _ rfl w.heap.size ?_ 33 cs (0, 0) _ B1h Tryd.underlying33 ?_ ?_ ?_); (exact rfl); (exact rfl); (rw [HZ.out]; kernel_rfl))
  refine (HG.out _).mono ?_
  rintro e w1 ⟨v, rfl, hown, h1⟩
  replace hx : Ext w w1 := hx.trans h1
  replace B2 := B2.ext h1
  clear h1 B1h B1
  obtain ⟨g, cap, rfl, _, hg, hrow⟩ := rows_at hown hK1
  have HR := Lib.hid hrow
  clear hrow hown
  go_wp2_with fail
  have HL := Lib.hid (And.intro hK1 hK4)
  have HE : ∀ (i : Nat), i < K.length → ∃ k, K[i]? = some k := fun i hi => ⟨_, List.getElem?_eq_getElem hi⟩
  have HEE := Lib.hid HE
  clear HE
  generalize hn : K.length = n at *
  have HN := Lib.hid hn
  clear hn
  go_loopw [6, 7] (fun u i wr => ∃ (m j : Nat), m < j ∧ 1 ≤ j ∧ j ≤ n ∧ u = .int .i64 m ∧ i = .int .i64 j ∧ K[m]? = some (pickL c (K.take j)) ∧ Ext w wr ∧ Ext w1 wr ∧ Blk wr (w.heap.size + 1) 49 (rpl 0 fun _ => false))
    (fun _ i _ => n - (intOf i).toNat)
  case atStart =>
    refine ⟨0, 1, by omega, by omega, by omega, rfl, rfl, ?_, hx, Ext.refl _, B2⟩
    obtain ⟨k, hk⟩ := HEE.out 0 (by omega)
    cases K with
    | nil => simp at hk
    | cons a L => rfl
  case round =>
    clear hx B2
    obtain ⟨m, j, hm, hj1, hj, rfl, rfl, hbest, hx, hx1, B2⟩ := hrel
    have HBest := Lib.hid hbest
    clear hbest
    by_cases hlt : j < n
    · have j0 : (0 : Int) ≤ (j : Int) := by omega
      have j1 : (j : Int) < (n : Int) := by omega
      have j2 : (0 : Int) ≤ (m : Int) := by omega
      have j3 : (m : Int) < (n : Int) := by omega
      obtain ⟨k, hk⟩ := HEE.out j (by omega)
      have HS := Lib.hid (pickL_take c K j k hk hj1)
      have HK := Lib.hid hk
      clear hk
      generalize pickL c (K.take j) = q at *
      have r1 := HR.out wr j k hx1 HK.out
      go_wp2_with ((with_reducible refine wpList_load_mid rfl 49 _ rfl g (j * 33) ?_ _ _ r1 Tryd.underlying49 ?_ ?_ ?_); (exact rfl); (exact rfl); (rw [Array.length_toList, (HO.out k).2]; kernel_rfl))
      refine (HC.out k _).mono ?_
      rw [HCC.out k]
      rintro e w2 ⟨rfl, h2⟩
      have hx2 := hx.trans h2
      have hx3 := hx1.trans h2
      have B3 := B2.ext h2
      clear h2 hx hx1 B2 r1
      have r2 := HR.out w2 m q hx3 HBest.out
      go_wp2_with ((with_reducible refine wpList_load_mid rfl 49 _ rfl g (m * 33) ?_ _ _ r2 Tryd.underlying49 ?_ ?_ ?_); (exact rfl); (exact rfl); (rw [Array.length_toList, (HO.out q).2]; kernel_rfl))
      refine (HC.out q _).mono ?_
      rw [HCC.out q]
      rintro e w3 ⟨rfl, h3⟩
      have hx := hx2.trans h3
      have hx1 := hx3.trans h3
      have B2 := B3.ext h3
      clear h3 hx2 hx3 B3 r2
      have HPF := Lib.hid (show pickF c q k = if c k < c q then k else q from rfl)
      generalize c k = ck at *
      generalize c q = cq at *
      by_cases hlt2 : ck < cq
      · have d1 : (ck : Int) < (cq : Int) := by omega
        go_wp2_with fail
        exact ⟨⟨j, j + 1, by omega, by omega, by omega, rfl, by go_num, by rw [HS.out, HPF.out, if_pos hlt2]; exact HK.out, hx, hx1, B2⟩, by simp [intOf]; omega⟩
      · have d1 : decide ((ck : Int) < (cq : Int)) = false := by simp; omega
        go_wp2_with fail
        exact ⟨⟨m, j + 1, by omega, by omega, by omega, rfl, by go_num, by rw [HS.out, HPF.out, if_neg hlt2]; exact HBest.out, hx, hx1, B2⟩, by simp [intOf]; omega⟩
    · have hjn : j = n := by omega
      subst hjn
      have j2 : (0 : Int) ≤ (m : Int) := by omega
      have j3 : (m : Int) < (j : Int) := by omega
      have hbb : K[m]? = some b := by rw [HBest.out, HB.out, List.take_of_length_le (by rw [HN.out]; exact Nat.le_refl _)]
      have r1 := HR.out wr m b hx1 hbb
      clear hbb
      have HOb := Lib.hid (HO.out b)
      generalize hps : rpl b (upR b D A B C E (D + 2)) = ps at *
      have HP := Lib.hid hps
      clear hps
      have th : wr.there (w.heap.size + 1) 0 ps.size := B2.there (by rw [HOb.out.2, rpl_size]; exact Nat.le_refl _)
      go_wp2_with (first
        | ((with_reducible refine wpList_load_mid rfl 49 _ rfl g (m * 33) ?_ _ _ r1 Tryd.underlying49 ?_ ?_ ?_); (exact rfl); (exact rfl); (rw [Array.length_toList, HOb.out.2]; kernel_rfl); simp only [Array.toArray_toList])
        | ((with_reducible refine wpList_store_mid rfl 49 _ _ rfl (w.heap.size + 1) 0 ps ?_ ?_ th ?_ HOb.out.1 ?_); (exact rfl); (exact rfl); (rw [HOb.out.2]; kernel_rfl)))
      exact ret_blk2 rfl (w.heap.size + 1) 49 ps _ rfl (B2.setAll (by rw [HOb.out.2, rpl_size])) Tryd.underlying49 rfl (by rw [HOb.out.2]; kernel_rfl) rfl ⟨by rw [HP.out]; rfl, hx.setCells (by omega) _ _⟩
end Go.Proofs.YtghefhmncpmflaaDoor
