/-
  The contracts of package marks' questions to a set, and of its makers.
-/
import Derived.Test.YtghefhmncpmflaaDoorMarks1
import Derived.ChangeKeysEq
namespace Go.Proofs.YtghefhmncpmflaaDoor
open Go.RowKit Go.Rg

theorem and_bit (x m : Nat) : ((x &&& 2 ^ m) != 0) = x.testBit m := by
  rw [Nat.testBit, Nat.shiftRight_eq_div_pow]
  have : (x &&& 2 ^ m) = 0 ↔ x / 2 ^ m % 2 = 0 := by
    constructor
    · intro h
      have h2 := congrArg (fun z => Nat.testBit z m) h
      simp only [Nat.testBit_and, Nat.testBit_two_pow_self, Bool.and_true, Nat.zero_testBit] at h2
      rw [Nat.testBit_eq_decide_div_mod_eq] at h2
      simp at h2; omega
    · intro h
      apply Nat.eq_of_testBit_eq
      intro i
      rw [Nat.testBit_and, Nat.testBit_two_pow, Nat.zero_testBit]
      by_cases hi : m = i
      · subst hi
        rw [Nat.testBit_eq_decide_div_mod_eq, h]
        simp
      · simp [hi]
  rw [Nat.one_and_eq_mod_two]
  by_cases h : (x &&& 2 ^ m) = 0
  · rw [h, this.1 h]
  · have h2 : x / 2 ^ m % 2 ≠ 0 := fun e => h (this.2 e)
    rw [bne_iff_ne.2 h, bne_iff_ne.2 h2]

theorem has_in (f : Nat → Nat) (hf : ∀ j, f j < 18446744073709551616) (i : Nat) (hi : i < 256) (w : World) :
    Calls Tryd.prog 64 #[cset f, .int .i64 i] w fun e w' => e = .returned (.bool ((f (i / 64)).testBit (i % 64))) ∧ Ext w w' := by
  have hk : i / 64 < 4 := by omega
  have hand := bits_and_u64_nat (f (i / 64)) (bitN i) (hf _) (bitN_lt i)
  have HN := Lib.hid (and_bit (f (i / 64)) (i % 64))
  clear hf
  unfold cset
  go_enter Tryd.func64, Tryd.ntmps64
  go_wp2_with fail
  refine (may_yes _ hi _).mono ?_
  rintro e w1 ⟨rfl, rfl⟩
  go_wp2_with fail
  refine (bit_any i hi _).mono ?_
  rintro e w1 ⟨rfl, h1⟩
  have b1 := (Blk.new w 28 (wcells f)).ext h1
  have hx : Ext w w1 := ((Ext.refl w).alloc _).trans h1
  have c1 := b1.cells (i / 64)
  rw [wcells_get f hk] at c1
  have k0 : (0 : Int) ≤ (i / 64 : Nat) := by omega
  have k4 : ((i / 64 : Nat) : Int) < 4 := by omega
  clear h1 b1
  go_wp2
  go_ret
  refine ⟨?_, hx⟩
  rw [← HN.out]
  have c : ∀ n : Nat, ((n : Int) != 0) = (n != 0) := fun n => by rw [Bool.eq_iff_iff]; simp
  simp [c, bitN]

theorem run_eql_words (xs ys : Array Value) (a b c d e f g h : Int) (hx : xs = #[.int .u64 a, .int .u64 b, .int .u64 c, .int .u64 d]) (hy : ys = #[.int .u64 e, .int .u64 f, .int .u64 g, .int .u64 h]) (w : World) (n : Nat) :
    (Op.equalIn (n + 2) 28 (.agg xs) (.agg ys)).run Tryd.prog w = .ok (a == e && (b == f && (c == g && d == h))) w := by
  have hi : Tryd.prog.info? 22 = some ((Tryd.prog.info? 22).getD default) := by kernel_rfl
  have hc : Tryd.prog.cellsOf 22 = 1 := by kernel_rfl
  rw [run_equalIn_array w (n + 1) xs ys Tryd.underlying28 hi, hc, show List.range 4 = [0, 1, 2, 3] from rfl]
  have hu : Tryd.prog.underlying 22 = some (.int .u64) := by kernel_rfl
  have p : ∀ (zs : Array Value) (i : Nat) (v : Value), zs[i]? = some v → (part 22 zs (i * 1)).run Tryd.prog w = .ok v w := fun zs i v hv =>
    run_part_plain w (by kernel_rfl) (by rw [Nat.mul_one]; exact hv)
  have q : ∀ x y : Int, (Op.equalIn (n + 1) 22 (.int .u64 x) (.int .u64 y)).run Tryd.prog w = .ok (x == y) w := fun x y => run_equalIn_int w n 22 .u64 .u64 x y hu
  have st : ∀ (i : Nat) (is : List Nat) (x y : Int), xs[i]? = some (.int .u64 x) → ys[i]? = some (.int .u64 y) →
      (Op.eqItems (n + 1) 22 1 xs ys (i :: is)).run Tryd.prog w = if (x == y) = true then (Op.eqItems (n + 1) 22 1 xs ys is).run Tryd.prog w else .ok false w := by
    intro i is x y h1 h2
    simp only [Op.eqItems, Sem.run_bind, p _ _ _ h1, p _ _ _ h2, q, Result.andThen_ok]
    cases (x == y) <;> rfl
  subst hx; subst hy
  rw [st 0 _ a e rfl rfl, st 1 _ b f rfl rfl, st 2 _ c g rfl rfl, st 3 _ d h rfl rfl]
  cases (a == e) <;> cases (b == f) <;> cases (c == g) <;> cases (d == h) <;> rfl

theorem run_eql_set (a b c d e f g h : Int) (w : World) :
    (binOp .eql 28 (.agg #[.int .u64 a, .int .u64 b, .int .u64 c, .int .u64 d]) (.agg #[.int .u64 e, .int .u64 f, .int .u64 g, .int .u64 h])).run Tryd.prog w = .ok (.bool (a == e && (b == f && (c == g && d == h)))) w := by
  rw [run_eql_struct, run_eql_words _ _ a b c d e f g h rfl rfl w 9998]
  rfl

theorem empty_any (f : Nat → Nat) (w : World) :
    Calls Tryd.prog 20 #[cset f] w fun e w' => e = .returned (.bool (f 0 == 0 && (f 1 == 0 && (f 2 == 0 && f 3 == 0)))) ∧ Ext w w' := by
  have hq := fun w => run_eql_set (f 0) (f 1) (f 2) (f 3) 0 0 0 0 w
  unfold cset
  go_enter Tryd.func20, Tryd.ntmps20
  go_wp2
  go_ret
  have c : ∀ n : Nat, ((n : Int) == 0) = (n == 0) := fun n => by rw [Bool.eq_iff_iff]; simp
  exact ⟨by simp [c], (Ext.refl w).alloc _⟩
theorem upto_any (n : Nat) (h1 : 1 ≤ n) (h2' : n < 64) (w : World) :
    Calls Tryd.prog 22 #[.int .i64 n] w fun e w' => e = .returned (mset (2 ^ n - 1)) ∧ Ext w w' := by
  unfold mset
  generalize hz : 2 ^ n - 1 = z
  have HZ := Lib.hid hz
  clear hz
  go_enter Tryd.func22, Tryd.ntmps22
  go_wp2_with fail
  go_loopw [4, 5, 6] (fun _ _ i wr => ∃ k : Nat, k ≤ 4 ∧ i = .int .i64 k ∧ Ext w wr ∧ Blk wr w.heap.size 28 (wcells (fun _ => 0)) ∧ Blk wr (w.heap.size + 1) 28 (wcells (fun j => if k = 0 then 0 else one z j)))
    (fun _ _ i _ => 4 - (intOf i).toNat)
  case atStart => exact ⟨0, by omega, rfl, ((Ext.refl w).alloc _).alloc _, (Blk.new w 28 (wcells (fun _ => 0))).alloc _, Blk.new' (by simp) 28 (wcells (fun _ => 0))⟩
  case round =>
    obtain ⟨k, hk, rfl, hB, h1, h2⟩ := hrel
    by_cases hlt : k < 4
    · by_cases hk0 : k = 0
      · subst hk0
        have c2 := h2.cells
        have f2 := h2.free
        simp only [wcells, if_true] at c2
        have hv : IntKind.u64.wrap (IntKind.u64.wrap (2 ^ n) - 1) = ((z : Nat) : Int) := by
          rw [← HZ.out]
          have hp : 2 ^ n < 18446744073709551616 := Nat.pow_lt_pow_right (a := 2) (n := 64) (m := n) (by decide) h2'
          have hp0 : 0 < 2 ^ n := Nat.pow_pos (by decide)
          have e : ((2 : Int) ^ n) = ((2 ^ n : Nat) : Int) := by rw [Int.natCast_pow]; rfl
          rw [e, IntKind.wrap_u64, IntKind.wrap_u64]
          generalize 2 ^ n = y at *
          omega
        have HV := Lib.hid hv
        clear hv
        go_wp2_with fail
        rw [HV.out]
        refine ⟨⟨1, by omega, rfl, hB.setCell (by simp) _, h1.far (by simp) _, ?_⟩, by simp [intOf]⟩
        have := h2.set 0 (.int .u64 (z : Int))
        exact this
      · go_wp2_with fail
        exact ⟨⟨k + 1, by omega, by go_num, hB, h1, by simpa [hk0] using h2⟩, by simp [intOf]; omega⟩
    · have hk4 : k = 4 := by omega
      subst hk4
      have e1 : Blk wr (w.heap.size + 1) 28 (wcells (one z)) := by simpa using h2
      have c1 := e1.cells
      have c2 := h1.cells
      have f2 := h1.free
      simp only [wcells, one, if_true] at c1 c2
      simp only [Nat.reduceEqDiff, if_false] at c1
      clear h2
      go_wp2
      exact ret_blk rfl w.heap.size 28 (wcells (one z)) _ rfl ((((h1.set 0 _).set 1 _).set 2 _).set 3 _) Tryd.underlying28 rfl (by kernel_rfl) rfl
        ⟨rfl, (((hB.setCell (Nat.le_refl _) _).setCell (Nat.le_refl _) _).setCell (Nat.le_refl _) _).setCell (Nat.le_refl _) _⟩

/-- The set of a list of numbers, behind a set. -/
def ofN (z : Nat) (l : List Nat) : Nat := l.foldl (fun s i => s ||| 2 ^ i) z

theorem ofN_take (l : List Nat) (k : Nat) (hk : k < l.length) : ofN 0 (l.take (k + 1)) = ofN 0 (l.take k) ||| 2 ^ (l.getD k 0) := by
  unfold ofN
  rw [List.take_add_one, List.foldl_append, List.getD_eq_getElem?_getD, List.getElem?_eq_getElem hk]
  rfl

theorem with_one (n : Nat) (hn : n < 18446744073709551616) (i : Nat) (hi : i < 64) (w : World) :
    Calls Tryd.prog 62 #[mset n, .int .i64 i] w fun e w' => e = .returned (mset (n ||| 2 ^ i)) ∧ Ext w w' := by
  have := with_any (one n) (fun j => by unfold one; split <;> omega) i (by omega) w
  have he : (fun j => if j = i / 64 then one n (i / 64) ||| bitN i else one n j) = one (n ||| 2 ^ i) := by
    funext j
    have h0 : i / 64 = 0 := by omega
    have h1 : i % 64 = i := by omega
    unfold one bitN
    rw [h0, h1]
    by_cases h : j = 0 <;> simp [h]
  rw [he] at this
  exact this

theorem of_any (l : List Nat) (hl : ∀ i ∈ l, i < 64) (hlen : l.length ≤ 100) (b cap : Nat) (w : World) (hc : ∀ j, j < l.length → w.cell? ⟨b, j, none⟩ = some (.int .i64 (l.getD j 0))) :
    Calls Tryd.prog 55 #[.slice (some ⟨b, 0, none⟩) l.length cap] w fun e w' => e = .returned (mset (ofN 0 l)) ∧ Ext w w' := by
  unfold mset
  have HL := Lib.hid hl
  have HC := Lib.hid hc
  clear hl hc
  generalize hlen' : l.length = len at *
  have HLEN := Lib.hid hlen'
  clear hlen'
  go_enter Tryd.func55, Tryd.ntmps55
  go_wp2_with fail
  go_loopw [5, 8] (fun _ i wr => ∃ (k n : Nat), k ≤ len ∧ i = .int .i64 k ∧ Ext w wr ∧ n < 18446744073709551616 ∧ n = ofN 0 (l.take k) ∧ Blk wr w.heap.size 28 (wcells (fun _ => 0)) ∧ Blk wr (w.heap.size + 1) 28 (wcells (one n)))
    (fun _ i _ => len - (intOf i).toNat)
  case atStart => exact ⟨0, 0, by omega, rfl, ((Ext.refl w).alloc _).alloc _, by decide, rfl, (Blk.new w 28 (wcells (fun _ => 0))).alloc _, Blk.new' (by simp) 28 (wcells (fun _ => 0))⟩
  case round =>
    obtain ⟨k, n, hk, rfl, hB, hn, hnl, h1, h2⟩ := hrel
    have HN := Lib.hid hnl
    clear hnl
    by_cases hlt : k < len
    · have i0 : (0 : Int) ≤ (k : Int) := by omega
      have i4 : (k : Int) < len := by omega
      have hbl : b < w.heap.size := World.block_lt_of_cell? w _ (HC.out k hlt)
      have c0 : wr.cell? ⟨b, k, none⟩ = some (.int .i64 (l.getD k 0)) := (hB.cell _ (by rw [HC.out k hlt]; rfl)).trans (HC.out k hlt)
      have c2 := h2.cells
      simp only [wcells, one, if_true] at c2
      simp only [Nat.reduceEqDiff, if_false] at c2
      have HX := Lib.hid (HL.out (l.getD k 0) (by rw [List.getD_eq_getElem?_getD, List.getElem?_eq_getElem (by rw [HLEN.out]; exact hlt)]; exact List.getElem_mem _))
      go_wp2_with fail
      refine (with_one n hn (l.getD k 0) HX.out _).mono ?_
      rintro e w1 ⟨rfl, h1'⟩
      have d1 := h1.ext h1'
      have d2 := h2.ext h1'
      have hx := hB.trans h1'
      have f2 := d2.free
      have c2' := d2.cells
      simp only [wcells, one, if_true] at c2'
      simp only [Nat.reduceEqDiff, if_false] at c2'
      unfold mset
      go_wp2_with fail
      have e2 := (((d2.set 0 (.int .u64 (n ||| 2 ^ (l.getD k 0) : Nat))).set 1 (.int .u64 0)).set 2 (.int .u64 0)).set 3 (.int .u64 0)
      refine ⟨⟨k + 1, n ||| 2 ^ (l.getD k 0), by omega, by go_num, (((hx.setCell (by simp) _).setCell (by simp) _).setCell (by simp) _).setCell (by simp) _, Nat.or_lt_two_pow (n := 64) hn (Nat.pow_lt_pow_right (by decide) HX.out), ?_,
        (((d1.far (by simp) _).far (by simp) _).far (by simp) _).far (by simp) _, e2⟩, by simp [intOf]; omega⟩
      rw [HN.out]
      exact (ofN_take l k (by rw [HLEN.out]; exact hlt)).symm
    · have hkl : k = len := by omega
      subst hkl
      have c1 := h2.cells
      have c2 := h1.cells
      have f2 := h1.free
      simp only [wcells, one, if_true] at c1 c2
      simp only [Nat.reduceEqDiff, if_false] at c1
      have HE : Hid (n = ofN 0 l) := by have := HN.out; rw [List.take_of_length_le (by rw [HLEN.out]; exact Nat.le_refl _)] at this; exact this
      go_wp2
      refine ret_blk rfl w.heap.size 28 (wcells (one n)) _ rfl ((((h1.set 0 _).set 1 _).set 2 _).set 3 _) Tryd.underlying28 rfl (by kernel_rfl) rfl
        ⟨?_, (((hB.setCell (Nat.le_refl _) _).setCell (Nat.le_refl _) _).setCell (Nat.le_refl _) _).setCell (Nat.le_refl _) _⟩
      rw [HE.out]; rfl
end Go.Proofs.YtghefhmncpmflaaDoor
