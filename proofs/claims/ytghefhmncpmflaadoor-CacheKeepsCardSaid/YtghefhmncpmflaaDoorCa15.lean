/-
  The contract of a set's list: its numbers, rising.
-/
import Derived.Test.YtghefhmncpmflaaDoorCa14
namespace Go.Proofs.YtghefhmncpmflaaDoor
open Go.RowKit Go.Rg

/-- The numbers below m of a set. -/
def bitsTo (n m : Nat) : List Nat := (List.range m).filter n.testBit
theorem bitsTo_succ (n m : Nat) : bitsTo n (m + 1) = if n.testBit m then bitsTo n m ++ [m] else bitsTo n m := by
  unfold bitsTo
  rw [List.range_succ, List.filter_append]
  cases h : n.testBit m <;> simp [h]
theorem bitsTo_skip (n : Nat) : ∀ (m t : Nat), m ≤ t → (∀ i, m ≤ i → i < t → n.testBit i = false) → bitsTo n t = bitsTo n m
  | m, 0, h, _ => by rw [show m = 0 by omega]
  | m, t + 1, h, hf => by
    by_cases e : m = t + 1
    · rw [e]
    · rw [bitsTo_succ, hf t (by omega) (by omega), if_neg (by decide)]
      exact bitsTo_skip n m t (by omega) (fun i h1 h2 => hf i h1 (by omega))
theorem bitsTo_len (n m : Nat) : (bitsTo n m).length ≤ m := Nat.le_trans (List.length_filter_le _ _) (by simp)
theorem mem_bitsTo {n m i : Nat} : i ∈ bitsTo n m ↔ i < m ∧ n.testBit i = true := by simp [bitsTo]

/-- The least number of a set, and the set without it. -/
theorem low_bit (x : Nat) (h0 : x ≠ 0) (hx : x < 18446744073709551616) : Lib.ctz 64 x < 64 ∧ x.testBit (Lib.ctz 64 x) = true ∧ (∀ i, i < Lib.ctz 64 x → x.testBit i = false) ∧
    ∀ i, (x &&& (x - 1)).testBit i = (decide (Lib.ctz 64 x < i) && x.testBit i) := by
  have hc : Lib.ctz 64 x = Lib.ctzFrom 64 x := by unfold Lib.ctz; rw [if_neg h0]
  obtain ⟨m, hm, hlt⟩ := Lib.ctzFrom_spec 64 x (by omega) hx
  rw [hc]
  generalize Lib.ctzFrom 64 x = t at *
  clear hc
  have e1 : x = 2 ^ (t + 1) * m + 2 ^ t := by rw [hm, Nat.pow_succ, Nat.mul_add, Nat.mul_one, Nat.mul_assoc]
  have hp : 0 < 2 ^ t := Nat.pow_pos (by decide)
  have hb : 2 ^ t < 2 ^ (t + 1) := by rw [Nat.pow_succ]; omega
  have e2 : x - 1 = 2 ^ (t + 1) * m + (2 ^ t - 1) := by omega
  have t1 : ∀ i, x.testBit i = if i < t + 1 then (2 ^ t).testBit i else m.testBit (i - (t + 1)) := fun i => by rw [e1]; exact Nat.testBit_two_pow_mul_add m hb i
  have t2 : ∀ i, (x - 1).testBit i = if i < t + 1 then (2 ^ t - 1).testBit i else m.testBit (i - (t + 1)) := fun i => by rw [e2]; exact Nat.testBit_two_pow_mul_add m (by omega) i
  refine ⟨hlt, ?_, fun i hi => ?_, fun i => ?_⟩
  · rw [t1, if_pos (by omega), Nat.testBit_two_pow]; simp
  · rw [t1, if_pos (by omega), Nat.testBit_two_pow]; simp; omega
  · rw [Nat.testBit_and, t2, t1]
    by_cases hi : i < t + 1
    · rw [if_pos hi, if_pos hi, Nat.testBit_two_pow, Nat.testBit_two_pow_sub_one]
      have : ¬ t < i := by omega
      simp [this]
      omega
    · have h2 : t < i := by omega
      rw [if_neg hi, if_neg hi]
      simp [h2]

theorem tz_any (x : Nat) (hx : x < 18446744073709551616) (w : World) (hT : TabAt 1 Lib.deBruijn64tab w) : Calls Tryd.prog 91 #[.int .u64 x] w fun e w' => e = .returned (.int .i64 (Lib.ctz 64 x)) ∧ w' = w :=
  Any7.bits_TrailingZeros64 Tryd.lays7n29 x hx w (fun _ => hT)
theorem TabAt.ext {w w' : World} (h : TabAt 1 Lib.deBruijn64tab w) (he : Ext w w') : TabAt 1 Lib.deBruijn64tab w' := fun j hj => by
  have := h j hj
  exact (he.cell _ (by rw [this]; rfl)).trans this

def LPost (n : Nat) (w : World) (e : Ending) (w' : World) : Prop :=
  ∃ v, e = .returned v ∧ Ints 3 w' v ((bitsTo n 64).map Int.ofNat) ∧ (∀ g, v.ownBlock = some g → w.heap.size ≤ g) ∧ Ext w w'

set_option maxHeartbeats 1000000 in
theorem list_any (n : Nat) (hn : n < 18446744073709551616) (w : World) (hT : TabAt 1 Lib.deBruijn64tab w) : Calls Tryd.prog 66 #[mset n] w (LPost n w) := by
  have HT := Lib.hid hT
  clear hT
  have HL := Lib.hid low_bit
  have HZ := Lib.hid tz_any
  obtain ⟨i3, hi, hz0, hz1, hz2⟩ := info_parts info3
  have HI := Lib.hid (And.intro hi (And.intro hz0 (And.intro hz1 hz2)))
  clear hi hz0 hz1 hz2
  have q0 : ∀ w, (Instr.index 28 (.agg #[.int .u64 n, .int .u64 0, .int .u64 0, .int .u64 0]) (.int .i64 0)).run Tryd.prog w = .ok (.int .u64 n) w := fun _ => by kernel_rfl
  have q1 : ∀ w, (Instr.index 28 (.agg #[.int .u64 n, .int .u64 0, .int .u64 0, .int .u64 0]) (.int .i64 1)).run Tryd.prog w = .ok (.int .u64 0) w := fun _ => by kernel_rfl
  have q2 : ∀ w, (Instr.index 28 (.agg #[.int .u64 n, .int .u64 0, .int .u64 0, .int .u64 0]) (.int .i64 2)).run Tryd.prog w = .ok (.int .u64 0) w := fun _ => by kernel_rfl
  have q3 : ∀ w, (Instr.index 28 (.agg #[.int .u64 n, .int .u64 0, .int .u64 0, .int .u64 0]) (.int .i64 3)).run Tryd.prog w = .ok (.int .u64 0) w := fun _ => by kernel_rfl
  unfold mset
  go_enter Tryd.func66, Tryd.ntmps66
  go_wp2_with fail
  go_loopw [3, 4, 5, 7] (fun v _ _ i wr => ∃ j : Nat, j ≤ 4 ∧ i = .int .i64 j ∧ Ints 3 wr v (if j = 0 then [] else (bitsTo n 64).map Int.ofNat) ∧ (∀ g, v.ownBlock = some g → w.heap.size ≤ g) ∧ Ext w wr) (fun _ _ _ i _ => 4 - (intOf i).toNat)
  case atStart => exact ⟨0, by omega, rfl, Ints.nil 3 _, (fun g hg => by cases hg), (Ext.refl w).alloc _⟩
  case round =>
    obtain ⟨j, hj, rfl, hints, hfr, hx⟩ := hrel
    have HH := Lib.hid (And.intro hints (And.intro hfr hx))
    clear hints hfr hx
    by_cases hlt : j < 4
    · have hc : j = 0 ∨ j = 1 ∨ j = 2 ∨ j = 3 := by omega
      rcases hc with rfl | rfl | rfl | rfl
      · have h1 : Ints 3 wr u3 ((bitsTo n 0).map Int.ofNat) := HH.out.1
        have H1 := Lib.hid (And.intro h1 HH.out.2)
        clear h1 HH hlt hj
        go_wp2_with fail
        obtain ⟨wo, rfl⟩ : ∃ wo : World, wo = wr := ⟨_, rfl⟩
        go_loopw [3, 5] (fun v wv w2 => ∃ m x : Nat, m ≤ 64 ∧ wv = .int .u64 x ∧ x < 18446744073709551616 ∧ (∀ i, x.testBit i = (decide (m ≤ i) && n.testBit i)) ∧ Ints 3 w2 v ((bitsTo n m).map Int.ofNat) ∧ (∀ g, v.ownBlock = some g → w.heap.size ≤ g) ∧ Ext w w2) (fun _ wv _ => (intOf wv).toNat)
        case atStart => exact ⟨0, n, by omega, rfl, hn, fun i => by simp, H1.out.1, H1.out.2.1, H1.out.2.2⟩
        case round =>
          clear H1
          obtain ⟨m, x, hm, rfl, hx64, hbits, hints, hfr, hx⟩ := hrel
          have HB := Lib.hid hbits
          have HH := Lib.hid (And.intro hints (And.intro hfr hx))
          have hlen := bitsTo_len n m
          have hl6 : ((bitsTo n m).map Int.ofNat).length ≤ 1000000 := by rw [List.length_map]; omega
          clear hbits hints hfr hx hlen
          by_cases hx0 : x = 0
          · subst hx0
            have hend : bitsTo n 64 = bitsTo n m := bitsTo_skip n m 64 hm (fun i h1 h2 => by
              have := HB.out i
              rw [Nat.zero_testBit, show decide (m ≤ i) = true by simpa using h1] at this
              simpa using this.symm)
            have HE := Lib.hid hend
            clear hend hl6
            go_wp2_with fail
            exact ⟨⟨1, by omega, rfl, by rw [if_neg (by decide), HE.out]; exact HH.out.1, HH.out.2.1, HH.out.2.2⟩, by decide⟩
          · have hne : ((x : Int) != 0) = true := by simp; omega
            obtain ⟨l1, l2, l3, l4⟩ := HL.out x hx0 hx64
            have hxp : (1 : Int) ≤ (x : Int) := by omega
            have hand := bits_and_u64_nat x (x - 1) hx64 (by omega)
            rw [show ((x - 1 : Nat) : Int) = (x : Int) - 1 by omega] at hand
            have hlt1 : x &&& (x - 1) ≤ x - 1 := Nat.and_le_right
            have HTZ := Lib.hid (HZ.out x hx64)
            have hb2 : (x : Int) ≤ 18446744073709551615 := by omega
            have HX := Lib.hid (And.intro hx64 hx0)
            generalize x &&& (x - 1) = y at *
            generalize Lib.ctz 64 x = t at *
            have ht0 : (0 : Int) ≤ (t : Int) := by omega
            have ht1 : (t : Int) ≤ 63 := by omega
            have hmt : m ≤ t := by
              have := HB.out t
              rw [l2] at this
              have := this.symm
              simp only [Bool.and_eq_true, decide_eq_true_eq] at this
              exact this.1
            have hnt : n.testBit t = true := by
              have := HB.out t
              rw [l2] at this
              have := this.symm
              simp only [Bool.and_eq_true, decide_eq_true_eq] at this
              exact this.2
            have hskip : bitsTo n t = bitsTo n m := bitsTo_skip n m t hmt (fun i h1 h2 => by
              have := HB.out i
              rw [l3 i h2, show decide (m ≤ i) = true by simpa using h1] at this
              simpa using this.symm)
            have hnew : ∀ i, y.testBit i = (decide (t + 1 ≤ i) && n.testBit i) := fun i => by
              rw [l4 i, HB.out i]
              by_cases h1 : t < i
              · rw [show decide (t < i) = true by simpa using h1, show decide (m ≤ i) = true by simp; omega, show decide (t + 1 ≤ i) = true by simp; omega]; simp
              · rw [show decide (t < i) = false by simpa using h1, show decide (t + 1 ≤ i) = false by simp; omega]; simp
            have HN := Lib.hid (And.intro hnew (And.intro hskip (And.intro hnt hlt1)))
            clear l1 l2 l3 l4 hnew hskip hnt hlt1 hmt hx0 hx64
            go_wp2_with fail
            refine (HTZ.out _ (TabAt.ext HT.out HH.out.2.2)).mono ?_
            rintro e w3 ⟨rfl, rfl⟩
            go_wp2_with (at_builtin; refine wpList_appInt rfl 82 _ _ rfl Tryd.underlying82 HI.out.1 HI.out.2.1 HI.out.2.2.1 HI.out.2.2.2 (xs := (bitsTo n m).map Int.ofNat) rfl (HH.out.1.ext ((Ext.refl _).alloc _)) hl6 (k := (t : Int)) rfl (Blk.new _ 3 #[.int .i64 (t : Int)]) ?_; intro v' w4 hi4 hg4 hloc)
            have hs := HH.out.2.2.size
            have hi5 : Ints 3 w4 v' ((bitsTo n (t + 1)).map Int.ofNat) := by
              rw [bitsTo_succ, HN.out.2.2.1, if_pos rfl, HN.out.2.1, List.map_append]
              exact hi4
            have hf5 : ∀ g, v'.ownBlock = some g → w.heap.size ≤ g := fun g hg => by
              rcases hloc with e | ⟨g', e, h1, _⟩
              · rw [e] at hg; exact HH.out.2.1 g hg
              · rw [e] at hg; cases hg; simp at h1; omega
            have hx5 : Ext w w4 := Chg.none (((Chg.of_ext (S := fun _ => False) HH.out.2.2).alloc _).grown hg4 (fun g hg hlt => by have := HH.out.2.1 g hg; omega))
            have HF := Lib.hid (And.intro hi5 (And.intro hf5 hx5))
            clear hi5 hf5 hx5 hi4 hg4 hloc hs
            have hy : y < 18446744073709551616 := by have := HN.out.2.2.2; have := HX.out.1; omega
            have HY := Lib.hid hy
            clear hy
            refine ⟨?_, ?_⟩
            · (repeat apply Exists.intro)
              exact ⟨⟨t + 1, y, by omega, rfl, HY.out, HN.out.1, HF.out.1, HF.out.2.1, HF.out.2.2⟩, rfl⟩
            · have := HN.out.2.2.2
              simp [intOf]; omega
      all_goals
        have h1 : Ints 3 wr u3 ((bitsTo n 64).map Int.ofNat) := HH.out.1
        have H1 := Lib.hid (And.intro h1 HH.out.2)
        clear h1 HH hlt hj
        go_wp2_with fail
        obtain ⟨wo, rfl⟩ : ∃ wo : World, wo = wr := ⟨_, rfl⟩
        go_loopw [3, 5] (fun v wv w2 => wv = .int .u64 0 ∧ Ints 3 w2 v ((bitsTo n 64).map Int.ofNat) ∧ (∀ g, v.ownBlock = some g → w.heap.size ≤ g) ∧ Ext w w2) (fun _ wv _ => (intOf wv).toNat)
        case atStart => exact ⟨rfl, H1.out.1, H1.out.2.1, H1.out.2.2⟩
        case round =>
          clear H1
          obtain ⟨rfl, hints, hfr, hx⟩ := hrel
          have HH := Lib.hid (And.intro hints (And.intro hfr hx))
          clear hints hfr hx
          go_wp2_with fail
          first
            | exact ⟨⟨2, by omega, rfl, HH.out.1, HH.out.2.1, HH.out.2.2⟩, by decide⟩
            | exact ⟨⟨3, by omega, rfl, HH.out.1, HH.out.2.1, HH.out.2.2⟩, by decide⟩
            | exact ⟨⟨4, by omega, rfl, HH.out.1, HH.out.2.1, HH.out.2.2⟩, by decide⟩
    · have hj4 : j = 4 := by omega
      subst hj4
      go_wp2_with fail
      go_ret
      exact ⟨_, rfl, HH.out.1, HH.out.2.1, HH.out.2.2⟩
end Go.Proofs.YtghefhmncpmflaaDoor
