/-
  How many bits a number has: what the library's OnesCount64 reckons, byte by byte.
-/
import Derived.Test.YtghefhmncpmflaaDoorMarks1
import Derived.Laws.Bits128
namespace Go.Proofs.YtghefhmncpmflaaDoor
open Go.RowKit Go.Rg

/-- A mask, byte by byte. -/
def mk (c : Nat) : Nat → Nat
  | 0 => 0
  | w + 1 => 256 * mk c w + c

def S1 (w x : Nat) : Nat := (x / 2 &&& mk 85 w) + (x &&& mk 85 w)
def S2 (w x : Nat) : Nat := (x / 4 &&& mk 51 w) + (x &&& mk 51 w)
def S3 (w x : Nat) : Nat := (x / 16 + x) &&& mk 15 w

/-- The bits of the first so many places. -/
def pop : Nat → Nat → Nat
  | 0, _ => 0
  | w + 1, x => x % 2 + pop w (x / 2)

/-- The bits of each byte, byte by byte. -/
def bs : Nat → Nat → Nat
  | 0, _ => 0
  | w + 1, x => pop 8 (x % 256) + 256 * bs w (x / 256)

theorem and_byte (a u M c : Nat) (hu : u < 256) (hc : c < 256) : (256 * a + u) &&& (256 * M + c) = 256 * (a &&& M) + (u &&& c) := by
  have hx : u &&& c < 2 ^ 8 := Nat.and_lt_two_pow _ hc
  apply Nat.eq_of_testBit_eq
  intro i
  rw [Nat.testBit_and, show (256 : Nat) = 2 ^ 8 from rfl, Nat.testBit_two_pow_mul_add _ hu, Nat.testBit_two_pow_mul_add _ hc, Nat.testBit_two_pow_mul_add _ hx, Nat.testBit_and, Nat.testBit_and]
  split <;> rfl

theorem low1 : ∀ b, b < 256 → ∀ t, t < 2 → (128 * t + b / 2) &&& 85 = (b / 2 &&& 85) := by decide +kernel
theorem low2 : ∀ b, b < 256 → ∀ t, t < 4 → (64 * t + b / 4) &&& 51 = (b / 4 &&& 51) := by decide +kernel
theorem byte_facts : ∀ b, b < 256 → (b / 2 &&& 85) + (b &&& 85) < 256 ∧
    (((b / 2 &&& 85) + (b &&& 85)) / 4 &&& 51) + (((b / 2 &&& 85) + (b &&& 85)) &&& 51) ≤ 68 ∧
    ((((b / 2 &&& 85) + (b &&& 85)) / 4 &&& 51) + (((b / 2 &&& 85) + (b &&& 85)) &&& 51)) % 16 ≤ 4 ∧
    (((((b / 2 &&& 85) + (b &&& 85)) / 4 &&& 51) + (((b / 2 &&& 85) + (b &&& 85)) &&& 51)) / 16 + ((((b / 2 &&& 85) + (b &&& 85)) / 4 &&& 51) + (((b / 2 &&& 85) + (b &&& 85)) &&& 51))) % 16 = pop 8 b := by decide +kernel

theorem S1_step (w y b : Nat) (hb : b < 256) : S1 (w + 1) (256 * y + b) = 256 * S1 w y + ((b / 2 &&& 85) + (b &&& 85)) := by
  unfold S1
  rw [show mk 85 (w + 1) = 256 * mk 85 w + 85 from rfl]
  rw [and_byte _ _ _ _ hb (by decide)]
  have e : (256 * y + b) / 2 = 256 * (y / 2) + (128 * (y % 2) + b / 2) := by omega
  rw [e, and_byte _ _ _ _ (by omega) (by decide), low1 b hb _ (Nat.mod_lt _ (by decide))]
  omega
theorem S2_step (w y b : Nat) (hb : b < 256) : S2 (w + 1) (256 * y + b) = 256 * S2 w y + ((b / 4 &&& 51) + (b &&& 51)) := by
  unfold S2
  rw [show mk 51 (w + 1) = 256 * mk 51 w + 51 from rfl]
  rw [and_byte _ _ _ _ hb (by decide)]
  have e : (256 * y + b) / 4 = 256 * (y / 4) + (64 * (y % 4) + b / 4) := by omega
  rw [e, and_byte _ _ _ _ (by omega) (by decide), low2 b hb _ (Nat.mod_lt _ (by decide))]
  omega

theorem S21_low (w x : Nat) : S2 w (S1 w x) % 16 ≤ 4 := by
  cases w with
  | zero => simp [S1, S2, mk]
  | succ w =>
    have hb : x % 256 < 256 := Nat.mod_lt _ (by decide)
    obtain ⟨f1, f2, f3, _⟩ := byte_facts _ hb
    rw [show x = 256 * (x / 256) + x % 256 from by omega, S1_step _ _ _ hb, S2_step _ _ _ f1]
    omega

theorem S_bs (w : Nat) : ∀ x, S3 w (S2 w (S1 w x)) = bs w x := by
  induction w with
  | zero => intro x; simp [S3, mk, bs]
  | succ w ih =>
    intro x
    have hb : x % 256 < 256 := Nat.mod_lt _ (by decide)
    obtain ⟨f1, f2, f3, f4⟩ := byte_facts _ hb
    have hl := S21_low w (x / 256)
    unfold bs
    rw [← ih (x / 256), ← f4]
    conv => lhs; rw [show x = 256 * (x / 256) + x % 256 from by omega, S1_step _ _ _ hb, S2_step _ _ _ f1]
    generalize (((x % 256) / 2 &&& 85) + ((x % 256) &&& 85)) / 4 &&& 51 = p at *
    generalize ((x % 256) / 2 &&& 85) + ((x % 256) &&& 85) &&& 51 = q at *
    generalize S2 w (S1 w (x / 256)) = y at *
    unfold S3
    rw [show mk 15 (w + 1) = 256 * mk 15 w + 15 from rfl]
    have e : (256 * y + (p + q)) / 16 + (256 * y + (p + q)) = 256 * (y / 16 + y) + (16 * (y % 16) + (p + q) / 16 + (p + q)) := by omega
    rw [e, and_byte _ _ _ _ (by omega) (by decide), show (15 : Nat) = 2 ^ 4 - 1 from rfl, Nat.and_two_pow_sub_one_eq_mod]
    omega

theorem pop_le (w x : Nat) : pop w x ≤ w := by
  induction w generalizing x with
  | zero => simp [pop]
  | succ w ih => have := ih (x / 2); unfold pop; omega

theorem pop_add (a b x : Nat) : pop (a + b) x = pop a x + pop b (x / 2 ^ a) := by
  induction a generalizing x with
  | zero => simp [pop]
  | succ a ih =>
    rw [show a + 1 + b = (a + b) + 1 from by omega]
    simp only [pop]
    rw [ih, Nat.div_div_eq_div_mul, show 2 * 2 ^ a = 2 ^ (a + 1) from by rw [Nat.pow_succ]; omega]
    omega

theorem pop_mod (a x : Nat) : pop a (x % 2 ^ a) = pop a x := by
  induction a generalizing x with
  | zero => simp [pop]
  | succ a ih =>
    simp only [pop]
    rw [← ih (x / 2)]
    have h1 : x % 2 ^ (a + 1) % 2 = x % 2 := Nat.mod_mod_of_dvd _ ⟨2 ^ a, by rw [Nat.pow_succ]; omega⟩
    have h2 : x % 2 ^ (a + 1) / 2 = x / 2 % 2 ^ a := by rw [Nat.pow_succ, Nat.mul_comm, Nat.mod_mul_right_div_self]
    rw [h1, h2, ih]

/-- What the last three steps make of it. -/
theorem sums (x : Nat) (_hx : x < 18446744073709551616) :
    (bs 8 x + bs 8 x / 256) < 18446744073709551616 ∧ ((bs 8 x + bs 8 x / 256) + (bs 8 x + bs 8 x / 256) / 65536) < 18446744073709551616 ∧
    (((bs 8 x + bs 8 x / 256) + (bs 8 x + bs 8 x / 256) / 65536) + ((bs 8 x + bs 8 x / 256) + (bs 8 x + bs 8 x / 256) / 65536) / 4294967296) < 9223372036854775808 ∧
    (((bs 8 x + bs 8 x / 256) + (bs 8 x + bs 8 x / 256) / 65536) + ((bs 8 x + bs 8 x / 256) + (bs 8 x + bs 8 x / 256) / 65536) / 4294967296) % 128 = pop 64 x := by
  have hp : pop 64 x = pop 8 (x % 256) + (pop 8 (x / 256 % 256) + (pop 8 (x / 256 / 256 % 256) + (pop 8 (x / 256 / 256 / 256 % 256) + (pop 8 (x / 256 / 256 / 256 / 256 % 256) +
      (pop 8 (x / 256 / 256 / 256 / 256 / 256 % 256) + (pop 8 (x / 256 / 256 / 256 / 256 / 256 / 256 % 256) + pop 8 (x / 256 / 256 / 256 / 256 / 256 / 256 / 256 % 256))))))) := by
    have h8 : ∀ y, pop 8 (y % 256) = pop 8 y := fun y => pop_mod 8 y
    simp only [h8]
    rw [show (64 : Nat) = 8 + (8 + (8 + (8 + (8 + (8 + (8 + 8)))))) from rfl]
    simp only [pop_add 8, show (2 : Nat) ^ 8 = 256 from rfl]
  have hb : bs 8 x = pop 8 (x % 256) + 256 * (pop 8 (x / 256 % 256) + 256 * (pop 8 (x / 256 / 256 % 256) + 256 * (pop 8 (x / 256 / 256 / 256 % 256) + 256 * (pop 8 (x / 256 / 256 / 256 / 256 % 256) +
      256 * (pop 8 (x / 256 / 256 / 256 / 256 / 256 % 256) + 256 * (pop 8 (x / 256 / 256 / 256 / 256 / 256 / 256 % 256) + 256 * (pop 8 (x / 256 / 256 / 256 / 256 / 256 / 256 / 256 % 256) + 256 * 0))))))) := rfl
  rw [hp, hb]
  have l0 := pop_le 8 (x % 256)
  have l1 := pop_le 8 (x / 256 % 256)
  have l2 := pop_le 8 (x / 256 / 256 % 256)
  have l3 := pop_le 8 (x / 256 / 256 / 256 % 256)
  have l4 := pop_le 8 (x / 256 / 256 / 256 / 256 % 256)
  have l5 := pop_le 8 (x / 256 / 256 / 256 / 256 / 256 % 256)
  have l6 := pop_le 8 (x / 256 / 256 / 256 / 256 / 256 / 256 % 256)
  have l7 := pop_le 8 (x / 256 / 256 / 256 / 256 / 256 / 256 / 256 % 256)
  generalize pop 8 (x % 256) = p0 at *
  generalize pop 8 (x / 256 % 256) = p1 at *
  generalize pop 8 (x / 256 / 256 % 256) = p2 at *
  generalize pop 8 (x / 256 / 256 / 256 % 256) = p3 at *
  generalize pop 8 (x / 256 / 256 / 256 / 256 % 256) = p4 at *
  generalize pop 8 (x / 256 / 256 / 256 / 256 / 256 % 256) = p5 at *
  generalize pop 8 (x / 256 / 256 / 256 / 256 / 256 / 256 % 256) = p6 at *
  generalize pop 8 (x / 256 / 256 / 256 / 256 / 256 / 256 / 256 % 256) = p7 at *
  clear hp hb
  rw [Nat.mul_zero, Nat.add_zero]
  have e1 : (p0 + 256 * (p1 + 256 * (p2 + 256 * (p3 + 256 * (p4 + 256 * (p5 + 256 * (p6 + 256 * (p7)))))))) / 256 = p1 + 256 * (p2 + 256 * (p3 + 256 * (p4 + 256 * (p5 + 256 * (p6 + 256 * (p7)))))) := by omega
  rw [e1]
  have e2 : p0 + 256 * (p1 + 256 * (p2 + 256 * (p3 + 256 * (p4 + 256 * (p5 + 256 * (p6 + 256 * (p7))))))) + (p1 + 256 * (p2 + 256 * (p3 + 256 * (p4 + 256 * (p5 + 256 * (p6 + 256 * (p7))))))) = (p0 + p1) + 256 * ((p1 + p2) + 256 * ((p2 + p3) + 256 * ((p3 + p4) + 256 * ((p4 + p5) + 256 * ((p5 + p6) + 256 * ((p6 + p7) + 256 * (p7))))))) := by omega
  rw [e2]
  have e3 : ((p0 + p1) + 256 * ((p1 + p2) + 256 * ((p2 + p3) + 256 * ((p3 + p4) + 256 * ((p4 + p5) + 256 * ((p5 + p6) + 256 * ((p6 + p7) + 256 * (p7)))))))) / 65536 = (p2 + p3) + 256 * ((p3 + p4) + 256 * ((p4 + p5) + 256 * ((p5 + p6) + 256 * ((p6 + p7) + 256 * (p7))))) := by omega
  rw [e3]
  have e4 : (p0 + p1) + 256 * ((p1 + p2) + 256 * ((p2 + p3) + 256 * ((p3 + p4) + 256 * ((p4 + p5) + 256 * ((p5 + p6) + 256 * ((p6 + p7) + 256 * (p7))))))) + ((p2 + p3) + 256 * ((p3 + p4) + 256 * ((p4 + p5) + 256 * ((p5 + p6) + 256 * ((p6 + p7) + 256 * (p7)))))) = ((p0 + p1) + (p2 + p3)) + 256 * (((p1 + p2) + (p3 + p4)) + 256 * (((p2 + p3) + (p4 + p5)) + 256 * (((p3 + p4) + (p5 + p6)) + 256 * (((p4 + p5) + (p6 + p7)) + 256 * (((p5 + p6) + p7) + 256 * ((p6 + p7) + 256 * (p7))))))) := by omega
  rw [e4]
  have e5 : (((p0 + p1) + (p2 + p3)) + 256 * (((p1 + p2) + (p3 + p4)) + 256 * (((p2 + p3) + (p4 + p5)) + 256 * (((p3 + p4) + (p5 + p6)) + 256 * (((p4 + p5) + (p6 + p7)) + 256 * (((p5 + p6) + p7) + 256 * ((p6 + p7) + 256 * (p7)))))))) / 4294967296 = ((p4 + p5) + (p6 + p7)) + 256 * (((p5 + p6) + p7) + 256 * ((p6 + p7) + 256 * (p7))) := by omega
  rw [e5]
  clear e1 e2 e3 e4 e5
  refine ⟨by omega, by omega, by omega, by omega⟩

theorem and_nat (a b : Nat) (ha : a < 18446744073709551616) (hb : b < 18446744073709551616) : bits .and .u64 (a : Int) (b : Int) = ((a &&& b : Nat) : Int) := bits_and_u64_nat a b ha hb
theorem wrap_nat (a : Nat) (ha : a < 18446744073709551616) : IntKind.u64.wrap (a : Int) = (a : Int) := by
  rw [IntKind.wrap_u64]; omega

theorem S1_lt (n : Nat) : S1 8 n < 18446744073709551616 := by
  unfold S1
  have h1 : n / 2 &&& mk 85 8 ≤ mk 85 8 := Nat.and_le_right
  have h2 : n &&& mk 85 8 ≤ mk 85 8 := Nat.and_le_right
  have h3 : mk 85 8 = 6148914691236517205 := rfl
  omega
theorem S2_lt (n : Nat) : S2 8 n ≤ 7378697629483820646 := by
  unfold S2
  have h1 : n / 4 &&& mk 51 8 ≤ mk 51 8 := Nat.and_le_right
  have h2 : n &&& mk 51 8 ≤ mk 51 8 := Nat.and_le_right
  have h3 : mk 51 8 = 3689348814741910323 := rfl
  omega

set_option maxHeartbeats 1000000 in
theorem ones_any (n : Nat) (hn : n < 18446744073709551616) (w : World) : Calls Tryd.prog 58 #[.int .u64 n] w fun e w' => e = .returned (.int .i64 (pop 64 n)) ∧ w = w' := by
  obtain ⟨g1, g2, g3, g4⟩ := sums n hn
  have hb := S_bs 8 n
  have l1 := S1_lt n
  have l2 := S2_lt (S1 8 n)
  have a1 : bits .and .u64 ((n : Int) / 2) 6148914691236517205 = ((n / 2 &&& mk 85 8 : Nat) : Int) := and_nat (n / 2) (mk 85 8) (by omega) (by decide)
  have a2 : bits .and .u64 (n : Int) 6148914691236517205 = ((n &&& mk 85 8 : Nat) : Int) := and_nat n (mk 85 8) hn (by decide)
  have a3 : IntKind.u64.wrap (((n / 2 &&& mk 85 8 : Nat) : Int) + ((n &&& mk 85 8 : Nat) : Int)) = ((S1 8 n : Nat) : Int) := by
    rw [← Int.natCast_add]; exact wrap_nat _ l1
  have b1 : bits .and .u64 (((S1 8 n : Nat) : Int) / 4) 3689348814741910323 = ((S1 8 n / 4 &&& mk 51 8 : Nat) : Int) := and_nat (S1 8 n / 4) (mk 51 8) (by omega) (by decide)
  have b2 : bits .and .u64 ((S1 8 n : Nat) : Int) 3689348814741910323 = ((S1 8 n &&& mk 51 8 : Nat) : Int) := and_nat _ (mk 51 8) l1 (by decide)
  have b3 : IntKind.u64.wrap (((S1 8 n / 4 &&& mk 51 8 : Nat) : Int) + ((S1 8 n &&& mk 51 8 : Nat) : Int)) = ((S2 8 (S1 8 n) : Nat) : Int) := by
    rw [← Int.natCast_add]; exact wrap_nat (S2 8 (S1 8 n)) (by omega)
  have c1 : IntKind.u64.wrap (((S2 8 (S1 8 n) : Nat) : Int) / 16 + ((S2 8 (S1 8 n) : Nat) : Int)) = ((S2 8 (S1 8 n) / 16 + S2 8 (S1 8 n) : Nat) : Int) := by
    have := wrap_nat (S2 8 (S1 8 n) / 16 + S2 8 (S1 8 n)) (by omega)
    rw [Int.natCast_add] at this ⊢
    exact this
  have c2 : bits .and .u64 ((S2 8 (S1 8 n) / 16 + S2 8 (S1 8 n) : Nat) : Int) 1085102592571150095 = ((bs 8 n : Nat) : Int) := by
    rw [← hb]; exact and_nat _ (mk 15 8) (by omega) (by decide)
  have d1 : IntKind.u64.wrap (((bs 8 n : Nat) : Int) + ((bs 8 n : Nat) : Int) / 256) = ((bs 8 n + bs 8 n / 256 : Nat) : Int) := by
    have := wrap_nat _ g1; rw [Int.natCast_add] at this ⊢; exact this
  generalize hz1 : bs 8 n + bs 8 n / 256 = z1 at *
  have d2 : IntKind.u64.wrap ((z1 : Int) + (z1 : Int) / 65536) = ((z1 + z1 / 65536 : Nat) : Int) := by
    have := wrap_nat _ g2; rw [Int.natCast_add] at this ⊢; exact this
  generalize hz2 : z1 + z1 / 65536 = z2 at *
  have d3 : IntKind.u64.wrap ((z2 : Int) + (z2 : Int) / 4294967296) = ((z2 + z2 / 4294967296 : Nat) : Int) := by
    have := wrap_nat (z2 + z2 / 4294967296) (by omega); rw [Int.natCast_add] at this ⊢; exact this
  generalize hz3 : z2 + z2 / 4294967296 = z3 at *
  have e1 : wrap64 (z3 : Int) = (z3 : Int) := by unfold wrap64; omega
  have HX := Lib.hid (And.intro a1 (And.intro a2 (And.intro a3 (And.intro b1 (And.intro b2 (And.intro b3 (And.intro c1 (And.intro c2 (And.intro d1 (And.intro d2 (And.intro d3 (And.intro e1 g4))))))))))))
  clear a1 a2 a3 b1 b2 b3 c1 c2 d1 d2 d3 e1 g1 g2 g3 g4 hb l1 l2 hz1 hz2 hz3 hn
  go_enter Tryd.func58, Tryd.ntmps58
  go_wp2
  go_ret
  refine ⟨?_, rfl⟩
  obtain ⟨a1, a2, a3, b1, b2, b3, c1, c2, d1, d2, d3, e1, g4⟩ := HX.out
  have p : ∀ t : Array Value, t.getD 2 undef = .int .i64 (pop 64 n) → Ending.returned (t.getD 2 undef) = .returned (.int .i64 (pop 64 n)) := fun t h => by rw [h]
  refine p _ ?_
  show Value.int .i64 _ = _
  rw [a1, a2, a3, b1, b2, b3, c1, c2, d1, d2, d3]
  rw [e1, i64_and127, ← g4]
  rfl

theorem pop_zero (w : Nat) : pop w 0 = 0 := by
  induction w with
  | zero => rfl
  | succ w ih => simp [pop, ih]

theorem count_one (n : Nat) (hn : n < 18446744073709551616) (w : World) : Calls Tryd.prog 21 #[mset n] w fun e w' => e = .returned (.int .i64 (pop 64 n)) ∧ Ext w w' := by
  have HP := Lib.hid (pop_le 64 n)
  have HO := Lib.hid (fun m hm w => ones_any m hm w)
  have HN := Lib.hid hn
  clear hn
  have ix0 : ∀ w, (Instr.index 28 (.agg #[.int .u64 (n : Int), .int .u64 0, .int .u64 0, .int .u64 0]) (.int .i64 0)).run Tryd.prog w = .ok (.int .u64 n) w := fun _ => by kernel_rfl
  have ix1 : ∀ w, (Instr.index 28 (.agg #[.int .u64 (n : Int), .int .u64 0, .int .u64 0, .int .u64 0]) (.int .i64 1)).run Tryd.prog w = .ok (.int .u64 0) w := fun _ => by kernel_rfl
  have ix2 : ∀ w, (Instr.index 28 (.agg #[.int .u64 (n : Int), .int .u64 0, .int .u64 0, .int .u64 0]) (.int .i64 2)).run Tryd.prog w = .ok (.int .u64 0) w := fun _ => by kernel_rfl
  have ix3 : ∀ w, (Instr.index 28 (.agg #[.int .u64 (n : Int), .int .u64 0, .int .u64 0, .int .u64 0]) (.int .i64 3)).run Tryd.prog w = .ok (.int .u64 0) w := fun _ => by kernel_rfl
  unfold mset
  go_enter Tryd.func21, Tryd.ntmps21
  go_wp2_with fail
  go_loopw [3, 5, 7] (fun s _ i wr => ∃ (k m : Nat), k ≤ 4 ∧ i = .int .i64 k ∧ s = .int .i64 m ∧ m ≤ 64 ∧ Ext w wr ∧ m = if k = 0 then 0 else pop 64 n)
    (fun _ _ i _ => 4 - (intOf i).toNat)
  case atStart => exact ⟨0, 0, by omega, rfl, rfl, by omega, (Ext.refl w).alloc _, rfl⟩
  case round =>
    obtain ⟨k, m, hk, rfl, rfl, hm, hB, hmk⟩ := hrel
    have HM := Lib.hid hmk
    clear hmk
    have h4 : k = 0 ∨ k = 1 ∨ k = 2 ∨ k = 3 ∨ k = 4 := by omega
    rcases h4 with rfl | rfl | rfl | rfl | rfl
    · go_wp2_with fail
      refine (HO.out n HN.out _).mono ?_
      rintro e w1 ⟨rfl, rfl⟩
      have hp : pop 64 n ≤ 64 := HP.out
      generalize hq : pop 64 n = q at *
      have HQ := Lib.hid hq
      clear hq
      go_wp2_with fail
      refine ⟨⟨1, q, by omega, rfl, ?_, hp, hB, HQ.out.symm⟩, by simp [intOf]⟩
      have : m = 0 := HM.out
      subst this
      simp
    · go_wp2_with fail
      refine (HO.out 0 (by decide) _).mono ?_
      rintro e w1 ⟨rfl, rfl⟩
      have hmp : m = pop 64 n := HM.out
      have HQ := Lib.hid hmp
      clear hmp
      rw [pop_zero]
      go_wp2_with fail
      exact ⟨⟨2, m, by omega, rfl, by simp, hm, hB, HQ.out⟩, by simp [intOf]⟩
    · go_wp2_with fail
      refine (HO.out 0 (by decide) _).mono ?_
      rintro e w1 ⟨rfl, rfl⟩
      have hmp : m = pop 64 n := HM.out
      have HQ := Lib.hid hmp
      clear hmp
      rw [pop_zero]
      go_wp2_with fail
      exact ⟨⟨3, m, by omega, rfl, by simp, hm, hB, HQ.out⟩, by simp [intOf]⟩
    · go_wp2_with fail
      refine (HO.out 0 (by decide) _).mono ?_
      rintro e w1 ⟨rfl, rfl⟩
      have hmp : m = pop 64 n := HM.out
      have HQ := Lib.hid hmp
      clear hmp
      rw [pop_zero]
      go_wp2_with fail
      exact ⟨⟨4, m, by omega, rfl, by simp, hm, hB, HQ.out⟩, by simp [intOf]⟩
    · have hmp : m = pop 64 n := HM.out
      have HQ := Lib.hid hmp
      clear hmp
      go_wp2
      go_ret
      exact ⟨by rw [← HQ.out]; rfl, hB⟩
end Go.Proofs.YtghefhmncpmflaaDoor
