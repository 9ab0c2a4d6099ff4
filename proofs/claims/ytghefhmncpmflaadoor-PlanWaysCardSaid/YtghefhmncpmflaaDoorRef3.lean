/-
  The contract of the document's Good.
-/
import Derived.Test.YtghefhmncpmflaaDoorRef2
namespace Go.Proofs.YtghefhmncpmflaaDoor
open Go.RowKit Go.Rg

/-- The cells of the document's state of flags. -/
def rsF (d : Int) (A B C E : Nat → Bool) (odd : Bool) : Array Value := rs4 d (b32 A) (b32 B) (b32 C) (b32 E) odd
theorem rsF_get (d : Int) (A B C E : Nat → Bool) (odd : Bool) : (rsF d A B C E odd)[0]? = some (.int .i64 d) ∧ (rsF d A B C E odd)[129]? = some (.bool odd) ∧
    ∀ j, j < 32 → (rsF d A B C E odd)[1 + j]? = some (.bool (A j)) ∧ (rsF d A B C E odd)[33 + j]? = some (.bool (B j)) ∧ (rsF d A B C E odd)[65 + j]? = some (.bool (C j)) ∧ (rsF d A B C E odd)[97 + j]? = some (.bool (E j)) := by
  have q := fun (f : Nat → Bool) (j : Nat) (hj : j < 32) => b32_get f hj
  unfold rsF rs4
  refine ⟨?_, ?_, fun j hj => ⟨?_, ?_, ?_, ?_⟩⟩
  all_goals simp only [Array.getElem?_append, Array.size_append, b32_size, List.size_toArray, List.length_cons, List.length_nil]
  · simp
  · simp
  · rw [if_pos (by omega), if_pos (by omega), if_pos (by omega), if_pos (by omega), if_neg (by omega)]
    simpa using q A j hj
  · rw [if_pos (by omega), if_pos (by omega), if_pos (by omega), if_neg (by omega)]
    rw [show 33 + j - (0 + 1 + 32) = j by omega]; exact q B j hj
  · rw [if_pos (by omega), if_pos (by omega), if_neg (by omega)]
    rw [show 65 + j - (0 + 1 + 32 + 32) = j by omega]; exact q C j hj
  · rw [if_pos (by omega), if_neg (by omega)]
    rw [show 97 + j - (0 + 1 + 32 + 32 + 32) = j by omega]; exact q E j hj

def okAt (d : Int) (A B C E : Nat → Bool) (i : Nat) : Bool := !(decide (d ≤ i) && (A i || (B i || C i))) && (!(decide (d + 2 ≤ i) && E i) && !(A i && !B i))
def goodR (d : Int) (A B C E : Nat → Bool) (odd : Bool) : Bool :=
  !(decide (d < 2) || (decide (30 < d) || odd)) && ((List.range 32).all (okAt d A B C E) && (decide (0 < cntF A 32) && decide (cntF E 32 ≤ 2)))
theorem goodR_off (d : Int) (A B C E : Nat → Bool) (odd : Bool) (j : Nat) (hj : j < 32) (h : okAt d A B C E j = false) : goodR d A B C E odd = false := by
  have : (List.range 32).all (okAt d A B C E) = false := by
    rw [List.all_eq_false]
    exact ⟨j, List.mem_range.2 hj, by simp [h]⟩
  unfold goodR
  rw [this]; simp

set_option maxRecDepth 100000 in
set_option maxHeartbeats 4000000 in
theorem rgood_any (d : Int) (A B C E : Nat → Bool) (odd : Bool) (w : World) :
    Calls Tryd.prog 50 #[.agg (rsF d A B C E odd)] w fun e w' => e = .returned (.bool (goodR d A B C E odd)) ∧ Ext w w' := by
  have HG := Lib.hid (rsF_get d A B C E odd)
  have HF := Lib.hid (goodR_off d A B C E odd)
  have HD := Lib.hid (show goodR d A B C E odd = (!(decide (d < 2) || (decide (30 < d) || odd)) && ((List.range 32).all (okAt d A B C E) && (decide (0 < cntF A 32) && decide (cntF E 32 ≤ 2)))) from rfl)
  generalize goodR d A B C E odd = g at *
  generalize rsF d A B C E odd = cs at *
  by_cases hd : d < 2 ∨ 30 < d ∨ odd = true
  · have hg : g = false := by rw [HD.out]; rcases hd with h | h | h <;> simp [h]
    subst hg
    clear HF HD
    have c0 := HG.out.1
    have c1 := HG.out.2.1
    clear HG
    go_enter Tryd.func50, Tryd.ntmps50
    go_upto_region 1 with (fail)
    have k0 := (Blk.new w 33 cs).cells 0
    have k1 := (Blk.new w 33 cs).cells 129
    rw [c0] at k0
    rw [c1] at k1
    by_cases h1 : d < 2
    · go_wp2
      go_ret
      exact ⟨rfl, (Ext.refl w).alloc _⟩
    · have h1' : decide (d < 2) = false := by simpa using h1
      by_cases h2 : 30 < d
      · have h2' : decide (30 < d) = true := by simpa using h2
        go_wp2
        go_ret
        exact ⟨rfl, (Ext.refl w).alloc _⟩
      · have h2' : decide (30 < d) = false := by simpa using h2
        have h3 : odd = true := by rcases hd with h | h | h <;> first | exact absurd h h1 | exact absurd h h2 | exact h
        subst h3
        go_wp2
        go_ret
        exact ⟨rfl, (Ext.refl w).alloc _⟩
  · have h1 : decide (d < 2) = false := by simp; omega
    have h2 : decide (30 < d) = false := by simp; omega
    have h3 : odd = false := by cases odd <;> simp_all
    obtain ⟨D, rfl⟩ : ∃ D : Nat, d = (D : Int) := ⟨d.toNat, by omega⟩
    have hD1 : (2 : Int) ≤ D := by omega
    have hD2 : (D : Int) ≤ 30 := by omega
    rw [h1, h2, h3] at HD
    subst h3
    clear hd
    have c0 := HG.out.1
    have c1 := HG.out.2.1
    go_enter Tryd.func50, Tryd.ntmps50
    go_upto_region 1 with (fail)
    have k0 := (Blk.new w 33 cs).cells 0
    have k1 := (Blk.new w 33 cs).cells 129
    rw [c0] at k0
    rw [c1] at k1
    go_wp2_with fail
    go_loopw [3, 4, 5] (fun a b i wr => ∃ j : Nat, j ≤ 32 ∧ i = .int .i64 j ∧ a = .int .i64 (cntF A j) ∧ b = .int .i64 (cntF E j) ∧ (∀ i, i < j → okAt D A B C E i = true) ∧ Ext w wr ∧ Blk wr w.heap.size 33 cs)
      (fun _ _ i _ => 32 - (intOf i).toNat)
    case atStart => exact ⟨0, by omega, rfl, rfl, rfl, fun i hi => absurd hi (Nat.not_lt_zero _), (Ext.refl w).alloc _, Blk.new w 33 cs⟩
    case round =>
      obtain ⟨j, hj, rfl, rfl, rfl, hok, hx, B1⟩ := hrel
      have HOK := Lib.hid hok
      clear hok
      by_cases hlt : j < 32
      · have i0 : (0 : Int) ≤ (j : Int) := by omega
        have i4 : (j : Int) < 32 := by omega
        obtain ⟨r1, r2, r3, r4⟩ := HG.out.2.2 j hlt
        have m0 := B1.cells 0
        have m1 := B1.cells (1 + j)
        have m2 := B1.cells (33 + j)
        have m3 := B1.cells (65 + j)
        have m4 := B1.cells (97 + j)
        rw [c0] at m0
        rw [r1] at m1
        rw [r2] at m2
        rw [r3] at m3
        rw [r4] at m4
        clear r1 r2 r3 r4
        have s1 : cntF A (j + 1) = cntF A j + (if A j then 1 else 0) := rfl
        have s2 : cntF E (j + 1) = cntF E j + (if E j then 1 else 0) := rfl
        have l1 := cntF_le A j
        have l2 := cntF_le E j
        have HJ := Lib.hid (show okAt D A B C E j = (!(decide ((D : Int) ≤ j) && (A j || (B j || C j))) && (!(decide ((D : Int) + 2 ≤ j) && E j) && !(A j && !B j))) from rfl)
        have S1 := Lib.hid s1
        have S2 := Lib.hid s2
        clear s1 s2
        generalize cntF A j = a at *
        generalize cntF E j = b at *
        generalize A j = aj at *
        generalize B j = bj at *
        generalize C j = cj at *
        generalize E j = ej at *
        by_cases q1 : (D : Int) ≤ j
        · have q1' : decide ((D : Int) ≤ j) = true := by simpa using q1
          rw [q1'] at HJ
          by_cases q2 : (D : Int) + 2 ≤ j
          · have q2' : decide ((D : Int) + 2 ≤ j) = true := by simpa using q2
            rw [q2'] at HJ
            cases aj <;> cases bj <;> cases cj <;> cases ej
            all_goals go_wp2_with fail
            all_goals first
              | (refine ⟨⟨j + 1, by omega, by go_num, by rw [S1.out]; first | rfl | simp | go_num, by rw [S2.out]; first | rfl | simp | go_num, fun i hi => ?_, hx, B1⟩, by simp [intOf]; omega⟩
                 by_cases hij : i = j
                 · subst hij; rw [HJ.out]; rfl
                 · exact HOK.out i (by omega))
              | (have hg : g = false := HF.out j hlt (by rw [HJ.out]; rfl)
                 go_ret
                 exact ⟨by rw [hg]; rfl, hx⟩)
          · have q2' : decide ((D : Int) + 2 ≤ j) = false := by simpa using q2
            rw [q2'] at HJ
            cases aj <;> cases bj <;> cases cj <;> cases ej
            all_goals go_wp2_with fail
            all_goals first
              | (refine ⟨⟨j + 1, by omega, by go_num, by rw [S1.out]; first | rfl | simp | go_num, by rw [S2.out]; first | rfl | simp | go_num, fun i hi => ?_, hx, B1⟩, by simp [intOf]; omega⟩
                 by_cases hij : i = j
                 · subst hij; rw [HJ.out]; rfl
                 · exact HOK.out i (by omega))
              | (have hg : g = false := HF.out j hlt (by rw [HJ.out]; rfl)
                 go_ret
                 exact ⟨by rw [hg]; rfl, hx⟩)
        · have q2 : ¬ (D : Int) + 2 ≤ j := by omega
          have q1' : decide ((D : Int) ≤ j) = false := by simpa using q1
          have q2' : decide ((D : Int) + 2 ≤ j) = false := by simpa using q2
          rw [q1', q2'] at HJ
          cases aj <;> cases bj <;> cases ej
          all_goals go_wp2_with fail
          all_goals first
            | (refine ⟨⟨j + 1, by omega, by go_num, by rw [S1.out]; first | rfl | simp | go_num, by rw [S2.out]; first | rfl | simp | go_num, fun i hi => ?_, hx, B1⟩, by simp [intOf]; omega⟩
               by_cases hij : i = j
               · subst hij; rw [HJ.out]; rfl
               · exact HOK.out i (by omega))
            | (have hg : g = false := HF.out j hlt (by rw [HJ.out]; rfl)
               go_ret
               exact ⟨by rw [hg]; rfl, hx⟩)
      · have hk4 : j = 32 := by omega
        subst hk4
        have hall : (List.range 32).all (okAt D A B C E) = true := by
          rw [List.all_eq_true]
          intro i hi
          exact HOK.out i (List.mem_range.1 hi)
        rw [hall] at HD
        clear hall
        generalize cntF A 32 = a at *
        generalize cntF E 32 = b at *
        by_cases ha : 0 < a
        · have ha2 : (0 : Int) < a := by omega
          have ha1 : decide (0 < a) = true := by simpa using ha
          rw [ha1] at HD
          by_cases hb : b ≤ 2
          · have hb2 : (b : Int) ≤ 2 := by omega
            have hb1 : decide (b ≤ 2) = true := by simpa using hb
            rw [hb1] at HD
            go_wp2_with fail
            go_ret
            exact ⟨by rw [HD.out]; rfl, hx⟩
          · have hb2 : decide ((b : Int) ≤ 2) = false := by simp; omega
            have hb1 : decide (b ≤ 2) = false := by simpa using hb
            rw [hb1] at HD
            go_wp2_with fail
            go_ret
            exact ⟨by rw [HD.out]; rfl, hx⟩
        · have ha2 : decide ((0 : Int) < a) = false := by simp; omega
          have ha1 : decide (0 < a) = false := by simpa using ha
          rw [ha1] at HD
          go_wp2_with fail
          go_ret
          exact ⟨by rw [HD.out]; simp, hx⟩
end Go.Proofs.YtghefhmncpmflaaDoor
