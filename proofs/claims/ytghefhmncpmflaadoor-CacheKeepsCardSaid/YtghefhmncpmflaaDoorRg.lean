/-
  A rule for a region that draws its order of evaluation: each operation is shown once, in the order of the text, at whatever world the relation R allows; what the operations leave holds in whatever order they came. Plain law; no program in sight.
-/
import Derived.Orders
import Derived.WalkKit
import Derived.Below
namespace Go.Rg
open Go

/-- What an operation leaves: a value that is known ahead, or one of which a fact is known that lasts. -/
inductive Ent where
  | det (v : Value)
  | any (Φ : Value → World → Prop)
  | new (Φ : Value → World → Prop)

def Ent.val : Ent → Value → Value
  | .det u, _ => u
  | .any _, v => v
  | .new _, v => v

/-- The block that a value points to. -/
def blk : Value → Option Nat
  | .pointer (some a) => some a.block
  | .slice (some a) _ _ => some a.block
  | .map r => r
  | _ => none

def Ent.fact : Ent → Value → World → Prop
  | .det _, _, _ => True
  | .any Φ, v, w => Φ v w
  | .new Φ, v, w => Φ v w

/-- The frame behind the first operations, as the entries have it. -/
def act : List Oper → List Ent → (Nat → Value) → Nat → Act → Act
  | o :: os, e :: es, val, i, a => act os es val (i + 1) (a.put o.dst (e.val (val i)))
  | _, _, _, _, a => a

/-- The facts of those entries that stand ahead of an operation. -/
def facts (B : Nat → Bool) : List Ent → (Nat → Value) → Nat → World → Prop
  | [], _, _, _ => True
  | .det _ :: es, val, i, w => facts B es val (i + 1) w
  | .any Φ :: es, val, i, w => (B i = true → Φ (val i) w) ∧ facts B es val (i + 1) w
  | .new Φ :: es, val, i, w => (B i = true → Φ (val i) w) ∧ facts B es val (i + 1) w

def NoQ : Exit → Act → World → Prop := fun _ _ _ => False

theorem put_inj {T a : Act} {dst : Option Tmp} {v u : Value} (hs : a.tmps.size = T.tmps.size) (h : T.put dst v = T.put dst u) : a.put dst v = a.put dst u := by
  cases dst with
  | none => rfl
  | some d =>
    simp only [Act.put, Act.mk.injEq, and_true] at h ⊢
    by_cases hd : d < T.tmps.size
    · have h1 := congrArg (fun x : Array Value => x[d]?) h
      simp [Array.getElem?_setIfInBounds_self_of_lt hd] at h1
      rw [h1]
    · have h2 : a.tmps.size ≤ d := by rw [hs]; exact Nat.le_of_not_lt hd
      rw [Array.setIfInBounds_eq_of_size_le h2, Array.setIfInBounds_eq_of_size_le h2]

theorem size_put (a : Act) (dst : Option Tmp) (v : Value) : (a.put dst v).tmps.size = a.tmps.size := by cases dst <;> simp [Act.put]
theorem defers_put (a : Act) (dst : Option Tmp) (v : Value) : (a.put dst v).defers = a.defers := by cases dst <;> rfl

/-- From the frame as the entries have it to the one that is there. -/
theorem wp_shift {P : Program} {o : Oper} {T a : Act} {w : World} {φ : Value → World → Prop} {K : Act → World → Prop} {Q : Exit → Act → World → Prop}
    (he : execOp a.eval o = execOp T.eval o) (hsz : a.tmps.size = T.tmps.size)
    (h : o.wp P T w (fun a' w' => ∃ v, a' = T.put o.dst v ∧ φ v w') NoQ)
    (hk : ∀ v w', φ v w' → K (a.put o.dst v) w') : o.wp P a w K Q := by
  have key : ∀ v w', (∃ u, T.put o.dst v = T.put o.dst u ∧ φ u w') → K (a.put o.dst v) w' := by
    rintro v w' ⟨u, hu, hp⟩
    rw [put_inj hsz hu]
    exact hk u w' hp
  unfold Oper.wp at *
  rw [he]
  generalize (execOp T.eval o).run P w = r at *
  cases r with
  | ok n w' =>
    cases n with
    | value v => exact key v w' h
    | skip => exact key undef w' h
    | defer d =>
      simp only [Oper.upon] at h
      obtain ⟨u, hu, _⟩ := h
      have := congrArg Act.defers hu
      rw [defers_put, defers_put] at this
      exact absurd (congrArg List.length this) (by simp)
    | enter f args =>
      simp only [Oper.upon] at h ⊢
      refine Calls.mono h (fun e w'' hh => ?_)
      cases e with
      | returned v => exact key v w'' hh
      | panicked c => exact (hh : False).elim
      | outgrown => obtain ⟨_, _, hf⟩ := hh; exact (hf : False).elim
    | row row args =>
      simp only [Oper.upon] at h ⊢
      exact Rows.mono h (fun v w'' hh => key v w'' hh)
    | _ => exact (h : False).elim
  | halt x w' =>
    cases x with
    | panic v => exact (h : False).elim
    | _ => exact (h : False).elim

section
variable (ops : Array Oper) (k : Nat) (B : Nat → Nat → Bool)

/-- What the kernel is asked of a region: B says of each operation which stand ahead of it. -/
def check : Bool :=
  (List.range ops.size).all fun i =>
    match ops[i]? with
    | none => false
    | some o =>
      (match o.op with | .select .. => false | _ => true) &&
      (o.after.all fun e => !Region.binds .any e || decide (e.on < i)) &&
      (List.range ops.size).all fun j =>
        (!B i j || (decide (j < i) && o.after.any fun e => Region.binds .any e && (e.on == j || B e.on j))) &&
        (!(decide (k ≤ i) && decide (j < i)) || B i j) &&
        (!decide (i < k) || (match (ops[j]?).bind (·.dst) with
          | none => true
          | some d => (!(o.looksAt ops).contains d || (j == i || (decide (j < i) && B i j) || (decide (i < j) && B j i))) &&
              (!(decide (j < k) && j != i) || o.dst != some d)))

variable {ops k B}
theorem check_op (h : check ops k B = true) {i : Nat} {o : Oper} (hi : ops[i]? = some o) :
    (∀ cs b, o.op ≠ .select cs b) ∧ (∀ e ∈ o.after, Region.binds .any e = true → e.on < i) := by
  have hlt : i < ops.size := (Array.getElem?_eq_some_iff.1 hi).1
  have h1 := List.all_eq_true.1 h i (List.mem_range.2 hlt)
  simp only [hi, Bool.and_eq_true] at h1
  obtain ⟨⟨h1, h2⟩, _⟩ := h1
  refine ⟨fun cs b hc => by rw [hc] at h1; simp at h1, fun e he hb => ?_⟩
  have := (Array.all_eq_true_iff_forall_mem.1 h2) e he
  simpa [hb] using this

theorem check_pair (h : check ops k B = true) {i j : Nat} {o : Oper} (hi : ops[i]? = some o) (hj : j < ops.size) :
    (B i j = true → j < i ∧ ∃ e ∈ o.after, Region.binds .any e = true ∧ (e.on = j ∨ B e.on j = true)) ∧
    (k ≤ i → j < i → B i j = true) ∧
    (i < k → ∀ oj d, ops[j]? = some oj → oj.dst = some d →
      (d ∈ o.looksAt ops → j = i ∨ (j < i ∧ B i j = true) ∨ (i < j ∧ B j i = true)) ∧ (j < k → j ≠ i → o.dst ≠ some d)) := by
  have hlt : i < ops.size := (Array.getElem?_eq_some_iff.1 hi).1
  have h1 := List.all_eq_true.1 h i (List.mem_range.2 hlt)
  simp only [hi, Bool.and_eq_true] at h1
  have h2 := List.all_eq_true.1 h1.2 j (List.mem_range.2 hj)
  simp only [Bool.and_eq_true] at h2
  obtain ⟨⟨h2, h3⟩, h4⟩ := h2
  refine ⟨fun hb => ?_, fun hk hji => ?_, fun hk oj d hoj hd => ?_⟩
  · simp only [hb, Bool.not_true, Bool.false_or, Bool.and_eq_true, decide_eq_true_eq] at h2
    obtain ⟨e, he, hx⟩ := Array.any_eq_true'.1 h2.2
    simp only [Bool.and_eq_true, Bool.or_eq_true, beq_iff_eq] at hx
    exact ⟨h2.1, e, he, hx⟩
  · simpa [hk, hji] using h3
  · simp only [hk, decide_true, Bool.not_true, Bool.false_or, hoj, Option.bind_some, hd, Bool.and_eq_true] at h4
    refine ⟨fun hm => ?_, fun hjk hne => ?_⟩
    · have := h4.1
      simp only [List.contains_iff_mem.2 hm, Bool.not_true, Bool.false_or] at this
      simpa [or_assoc] using this
    · simpa [hjk, hne] using h4.2

variable {P : Program} {Q : Exit → Act → World → Prop} {R : World → World → Prop} {a0 : Act} {w0 : World} {E : List Ent}

/-- What is owed of operation 'o', in the frame T, at the world w. -/
def Obl (P : Program) (ops : Array Oper) (R : World → World → Prop) (o : Oper) (T : Act) (w : World) (φ : Value → World → Prop) : Prop :=
  ∀ K : Act → World → Prop, (∀ v w', R w w' → φ v w' → K (T.put o.dst v) w') → if Region.wanted o (yielded ops T.tmps) = true then o.wp P T w K NoQ else K (T.put o.dst undef) w

def Ent.post : Ent → World → Value → World → Prop
  | .det u, _, v, _ => v = u
  | .any Φ, _, v, w => Φ v w
  | .new Φ, w0, v, w => (∃ b, blk v = some b ∧ w0.heap.size ≤ b ∧ b < w.heap.size) ∧ Φ v w

/-- Values of new blocks are apart. -/
def Apart (E : List Ent) (val : Nat → Value) : Prop :=
  ∀ (i j : Nat) (Φ Ψ : Value → World → Prop), E[i]? = some (.new Φ) → E[j]? = some (.new Ψ) → i ≠ j → blk (val i) ≠ blk (val j)

theorem act_size (E : List Ent) : ∀ (os : List Oper) (val : Nat → Value) (i : Nat) (a : Act), (act os E val i a).tmps.size = a.tmps.size := by
  induction E with
  | nil => intro os val i a; cases os <;> rfl
  | cons e E ih => intro os val i a; cases os with
    | nil => rfl
    | cons o os => simp only [act]; rw [ih, size_put]

theorem act_defers (E : List Ent) : ∀ (os : List Oper) (val : Nat → Value) (i : Nat) (a : Act), (act os E val i a).defers = a.defers := by
  induction E with
  | nil => intro os val i a; cases os <;> rfl
  | cons e E ih => intro os val i a; cases os with
    | nil => rfl
    | cons o os => simp only [act]; rw [ih, defers_put]

theorem get_put (a : Act) (dst : Option Tmp) (v : Value) (s : Nat) :
    (a.put dst v).tmps[s]? = if dst = some s ∧ s < a.tmps.size then some v else a.tmps[s]? := by
  cases dst with
  | none => simp [Act.put]
  | some d =>
    simp only [Act.put, Option.some.injEq, Array.getElem?_setIfInBounds]
    by_cases h : d = s
    · subst h
      by_cases h2 : d < a.tmps.size
      · simp [h2]
      · simp [h2]
    · simp [h]

/-- A slot that none of the first operations writes. -/
theorem act_other (E : List Ent) : ∀ (os : List Oper) (val : Nat → Value) (i : Nat) (a : Act) (s : Nat),
    (∀ j o, j < E.length → os[j]? = some o → o.dst ≠ some s) → (act os E val i a).tmps[s]? = a.tmps[s]? := by
  induction E with
  | nil => intro os val i a s h; cases os <;> rfl
  | cons e E ih =>
    intro os val i a s h
    cases os with
    | nil => rfl
    | cons o os =>
      simp only [act]
      rw [ih os val (i + 1) _ s (fun j o' hj ho => h (j + 1) o' (by simp; omega) (by simpa using ho)), get_put, if_neg]
      exact fun hh => h 0 o (by simp) rfl hh.1

/-- A slot that just one of them writes. -/
theorem act_one (E : List Ent) : ∀ (os : List Oper) (val : Nat → Value) (i : Nat) (a : Act) (j : Nat) (o : Oper) (e : Ent) (d : Nat),
    os[j]? = some o → E[j]? = some e → o.dst = some d → d < a.tmps.size →
    (∀ m o', m < E.length → os[m]? = some o' → m ≠ j → o'.dst ≠ some d) → (act os E val i a).tmps[d]? = some (e.val (val (i + j))) := by
  induction E with
  | nil => intro os val i a j o e d _ he; simp at he
  | cons e0 E ih =>
    intro os val i a j o e d ho he hd hlt hne
    cases os with
    | nil => simp at ho
    | cons o0 os =>
      simp only [act]
      cases j with
      | zero =>
        simp only [List.getElem?_cons_zero, Option.some.injEq] at ho he
        subst ho; subst he
        rw [act_other E os val (i + 1) _ d (fun m o' hm ho' => hne (m + 1) o' (by simp; omega) (by simpa using ho') (by omega)), get_put, if_pos ⟨hd, hlt⟩]
        rfl
      | succ j =>
        have := ih os val (i + 1) (a.put o0.dst (e0.val (val i))) j o e d (by simpa using ho) (by simpa using he) hd (by rw [size_put]; exact hlt)
          (fun m o' hm ho' hm2 => hne (m + 1) o' (by simp; omega) (by simpa using ho') (by omega))
        rw [this, show i + 1 + j = i + (j + 1) from by omega]

theorem facts_of (Bi : Nat → Bool) (E : List Ent) : ∀ (val : Nat → Value) (i : Nat) (w : World),
    (∀ j e, E[j]? = some e → Bi (i + j) = true → e.fact (val (i + j)) w) → facts Bi E val i w := by
  induction E with
  | nil => intro val i w _; trivial
  | cons e E ih =>
    intro val i w h
    have ht := ih val (i + 1) w (fun j e' he hb => by
      have := h (j + 1) e' (by simpa using he) (by rw [show i + (j + 1) = i + 1 + j from by omega]; exact hb)
      rw [show i + (j + 1) = i + 1 + j from by omega] at this
      exact this)
    cases e with
    | det u => exact ht
    | any Φ => exact ⟨fun hb => h 0 (.any Φ) rfl hb, ht⟩
    | new Φ => exact ⟨fun hb => h 0 (.new Φ) rfl hb, ht⟩

/-- How many are not listed yet. -/
def left (m : Nat) (listed : Array Bool) : Nat := (List.range m).countP fun j => !listed.getD j true

theorem left_set (listed : Array Bool) (i : Nat) (hi : listed[i]? = some false) :
    ∀ m, (i < m → left m (listed.setIfInBounds i true) + 1 = left m listed) ∧ (m ≤ i → left m (listed.setIfInBounds i true) = left m listed) := by
  have hlt : i < listed.size := (Array.getElem?_eq_some_iff.1 hi).1
  intro m
  induction m with
  | zero => exact ⟨fun h => by omega, fun _ => rfl⟩
  | succ m ih =>
    have hstep : ∀ l : Array Bool, left (m + 1) l = left m l + if (!l.getD m true) = true then 1 else 0 := by
      intro l; simp [left, List.range_succ, List.countP_append, List.countP_cons]
    rw [hstep, hstep]
    by_cases he : i = m
    · subst he
      have h2 := ih.2 (Nat.le_refl _)
      refine ⟨fun _ => ?_, fun h => by omega⟩
      rw [h2]
      have g1 : (listed.setIfInBounds i true).getD i true = true := by
        simp [Array.getD_eq_getD_getElem?, Array.getElem?_setIfInBounds_self_of_lt hlt]
      have g2 : listed.getD i true = false := by simp [Array.getD_eq_getD_getElem?, hi]
      rw [g1, g2]; rfl
    · have g : (listed.setIfInBounds i true).getD m true = listed.getD m true := by
        simp [Array.getD_eq_getD_getElem?, Array.getElem?_setIfInBounds_ne he]
      rw [g]
      exact ⟨fun h => by have := ih.1 (by omega); omega, fun h => by have := ih.2 (by omega); omega⟩

theorem left_pos {m : Nat} {listed : Array Bool} {i : Nat} (hi : i < m) (h : listed.getD i true = false) : 0 < left m listed := by
  unfold left
  rw [List.countP_pos_iff]
  exact ⟨i, List.mem_range.2 hi, by simp [h]⟩

/-- All that stands ahead of a listed one is listed. -/
def Closed (B : Nat → Nat → Bool) (listed : Array Bool) : Prop :=
  ∀ i j, listed[i]? = some true → j < listed.size → B i j = true → listed[j]? = some true

theorem ready_ahead (hc : check ops k B = true) {listed : Array Bool} (hn : listed.size = ops.size) (hcl : Closed B listed) {i : Nat} {o : Oper}
    (hi : ops[i]? = some o) (hr : ∀ e ∈ o.after, Region.binds .any e = true → listed.getD e.on false = true) {j : Nat} (hj : j < ops.size) (hb : B i j = true) :
    listed[j]? = some true := by
  obtain ⟨_, e, he, hbd, hx⟩ := (check_pair hc hi hj).1 hb
  have hl := hr e he hbd
  have hle : listed[e.on]? = some true := by
    rw [Array.getD_eq_getD_getElem?] at hl
    cases hq : listed[e.on]? with
    | none => rw [hq] at hl; simp at hl
    | some b => rw [hq] at hl; simp at hl; rw [hl]
  rcases hx with rfl | hx
  · exact hle
  · exact hcl e.on j hle (by omega) hx

theorem mem_ready {listed : Array Bool} {i : Nat} : i ∈ Region.ready .any ops listed ↔
    i < ops.size ∧ listed.getD i true = false ∧ ∃ o, ops[i]? = some o ∧ ∀ e ∈ o.after, Region.binds .any e = true → listed.getD e.on false = true := by
  unfold Region.ready
  simp only [List.mem_filter, List.mem_range, Bool.and_eq_true, Bool.not_eq_true']
  refine and_congr_right fun hlt => and_congr_right fun _ => ?_
  obtain ⟨o, ho⟩ : ∃ o, ops[i]? = some o := ⟨_, Array.getElem?_eq_getElem hlt⟩
  rw [ho]
  simp only [Option.map_some, Option.getD_some, Option.some.injEq, exists_eq_left']
  rw [Array.all_eq_true_iff_forall_mem]
  refine forall_congr' fun e => forall_congr' fun _ => ?_
  cases Region.binds .any e <;> simp

/-- The first that is not listed may come up. -/
theorem first_ready (hc : check ops k B = true) {listed : Array Bool} {i : Nat} (hi : i < ops.size) (hu : listed.getD i true = false)
    (hb : ∀ j, j < i → listed[j]? = some true) : i ∈ Region.ready .any ops listed := by
  obtain ⟨o, ho⟩ : ∃ o, ops[i]? = some o := ⟨_, Array.getElem?_eq_getElem hi⟩
  refine mem_ready.2 ⟨hi, hu, o, ho, fun e he hbd => ?_⟩
  rw [Array.getD_eq_getD_getElem?, hb e.on ((check_op hc ho).2 e he hbd)]
  rfl

theorem get_listed {listed : Array Bool} {i : Nat} (hi : i < listed.size) : listed[i]? = some (listed.getD i true) := by
  rw [Array.getD_eq_getD_getElem?, Array.getElem?_eq_getElem hi]; rfl

/-- The last operations, which stand behind all others: in the order of the text. -/
theorem tail_any (hc : check ops k B = true) : ∀ (m i : Nat) (listed : Array Bool) (a : Act) (w : World), k ≤ i → i + m = ops.size → listed.size = ops.size → Closed B listed →
    (∀ j, j < i → listed[j]? = some true) → (∀ j, i ≤ j → j < ops.size → listed[j]? = some false) → wpList P ops Q (ops.toList.drop i) a w →
    ∀ fuel, m ≤ fuel → wpAny P .any ops Q fuel listed a w := by
  intro m
  induction m with
  | zero =>
    intro i listed a w hk hm hn hcl h1 h2 h fuel _
    have hr : Region.ready .any ops listed = [] := by
      rw [List.eq_nil_iff_forall_not_mem]
      intro j hj
      obtain ⟨hlt, hu, _⟩ := mem_ready.1 hj
      have := h1 j (by omega)
      rw [Array.getD_eq_getD_getElem?, this] at hu
      simp at hu
    rw [List.drop_of_length_le (by simp; omega)] at h
    cases fuel with
    | zero => exact ⟨hr, h⟩
    | succ f => exact ⟨fun _ => h, by rw [hr]; simp⟩
  | succ m ih =>
    intro i listed a w hk hm hn hcl h1 h2 h fuel hf
    obtain ⟨f, rfl⟩ : ∃ f, fuel = f + 1 := ⟨fuel - 1, by omega⟩
    have hi : i < ops.size := by omega
    have hui : listed.getD i true = false := by rw [Array.getD_eq_getD_getElem?, h2 i (Nat.le_refl _) hi]; rfl
    have hir := first_ready hc hi hui h1
    have only : ∀ j, j ∈ Region.ready .any ops listed → j = i := by
      intro j hj
      obtain ⟨hlt, hu, o, ho, hall⟩ := mem_ready.1 hj
      rcases Nat.lt_trichotomy j i with hji | hji | hji
      · rw [Array.getD_eq_getD_getElem?, h1 j hji] at hu; simp at hu
      · exact hji
      · have := ready_ahead hc hn hcl ho hall hi ((check_pair hc ho hi).2.1 (by omega) hji)
        rw [h2 i (Nat.le_refl _) hi] at this
        simp at this
    refine ⟨fun h0 => by rw [h0] at hir; simp at hir, fun j hj => ?_⟩
    obtain rfl := only j hj
    obtain ⟨_, _, o, ho, hall⟩ := mem_ready.1 hj
    have hdrop : ops.toList.drop j = o :: ops.toList.drop (j + 1) := by
      rw [List.drop_eq_getElem_cons (by simpa using hi)]
      congr 1
      have := (Array.getElem?_eq_some_iff.1 ho).2
      simpa using this
    rw [hdrop] at h
    have hcont : ∀ a w, wpList P ops Q (ops.toList.drop (j + 1)) a w → wpAny P .any ops Q f (listed.setIfInBounds j true) a w := by
      intro a w h
      refine ih (j + 1) _ a w (by omega) (by omega) (by simpa using hn) ?_ ?_ ?_ h f (by omega)
      · intro x y hx hy hb
        rw [Array.size_setIfInBounds] at hy
        rw [Array.getElem?_setIfInBounds] at hx ⊢
        by_cases hjy : j = y
        · simp [hjy, hy]
        · rw [if_neg hjy]
          by_cases hjx : j = x
          · subst hjx
            exact ready_ahead hc hn hcl ho hall (by omega) hb
          · rw [if_neg hjx] at hx
            exact hcl x y hx hy hb
      · intro x hx
        rw [Array.getElem?_setIfInBounds]
        by_cases hjx : j = x
        · simp [hjx]; omega
        · rw [if_neg hjx]; exact h1 x (by omega)
      · intro x hx hx2
        rw [Array.getElem?_setIfInBounds, if_neg (by omega)]
        exact h2 x (by omega) hx2
    unfold wpOp
    simp only [ho]
    simp only [wpList] at h
    split
    · rename_i hw
      simp only [hw, if_true] at h
      exact h.imp (Oper.wp_mono hcont) id
    · rename_i hw
      simp only [hw] at h
      exact hcont _ _ h

theorem execOp_agree {o : Oper} {a T : Act} (hs : ∀ cs b, o.op ≠ .select cs b) (h : ∀ s ∈ o.looksAt ops, a.tmps[s]? = T.tmps[s]?) : execOp a.eval o = execOp T.eval o :=
  execOp_congr o hs fun x hx => by
    cases x with
    | tmp t =>
      have := h t (List.mem_append_left _ (List.mem_filterMap.2 ⟨.tmp t, by simpa using hx, rfl⟩))
      simp only [Act.eval, Array.getD_eq_getD_getElem?, this]
    | _ => rfl

theorem wanted_agree {o : Oper} {a T : Act} (h : ∀ s ∈ o.looksAt ops, a.tmps[s]? = T.tmps[s]?) : Region.wanted o (yielded ops a.tmps) = Region.wanted o (yielded ops T.tmps) := by
  unfold Region.wanted
  cases hg : o.guard with
  | none => rfl
  | some gw =>
    obtain ⟨g, want⟩ := gw
    have hy : yielded ops a.tmps g = yielded ops T.tmps g := by
      unfold yielded
      cases ht : (ops[g]?).bind (·.dst) with
      | none => rfl
      | some t =>
        have := h t (by simp [Oper.looksAt, hg, ht])
        simp only [Option.bind_some, this]
    simp only [hy]

structure Inv (ops : Array Oper) (k : Nat) (B : Nat → Nat → Bool) (R : World → World → Prop) (a0 : Act) (w0 : World) (E : List Ent) (val : Nat → Value) (listed : Array Bool) (a : Act) (w : World) : Prop where
  n : listed.size = ops.size
  closed : Closed B listed
  late : ∀ i, k ≤ i → i < ops.size → listed[i]? = some false
  defers : a.defers = a0.defers
  size : a.tmps.size = a0.tmps.size
  rel : R w0 w
  fact : ∀ (j : Nat) (e : Ent), E[j]? = some e → listed[j]? = some true → e.fact (val j) w
  one : ∀ (j : Nat) (o : Oper) (e : Ent) (d : Nat), ops[j]? = some o → E[j]? = some e → listed[j]? = some true → o.dst = some d → d < a0.tmps.size → a.tmps[d]? = some (e.val (val j))
  low : ∀ (j : Nat) (Φ : Value → World → Prop), E[j]? = some (.new Φ) → listed[j]? = some true → ∃ b, blk (val j) = some b ∧ b < w.heap.size
  apart : ∀ (i j : Nat) (Φ Ψ : Value → World → Prop), E[i]? = some (.new Φ) → E[j]? = some (.new Ψ) → listed[i]? = some true → listed[j]? = some true → i ≠ j → blk (val i) ≠ blk (val j)
  other : ∀ (s : Nat), (∀ (j : Nat) (o : Oper), j < k → ops[j]? = some o → listed[j]? = some true → o.dst ≠ some s) → a.tmps[s]? = a0.tmps[s]?

theorem take_get {E : List Ent} {i j : Nat} (h : j < i) : (E.take i)[j]? = E[j]? := by simp [h]

theorem Inv.agree (hc : check ops k B = true) (hE : E.length = k) (hk : k ≤ ops.size) {val : Nat → Value} {listed : Array Bool} {a : Act} {w : World}
    (I : Inv ops k B R a0 w0 E val listed a w) {i : Nat} {o : Oper} (hi : ops[i]? = some o) (hik : i < k) (hu : listed[i]? = some false)
    (hahead : ∀ j, j < ops.size → B i j = true → listed[j]? = some true) :
    ∀ s ∈ o.looksAt ops, a.tmps[s]? = (act ops.toList (E.take i) val 0 a0).tmps[s]? := by
  intro s hs
  have hlen : (E.take i).length = i := by simp; omega
  have dist : ∀ (x y : Nat) (ox oy : Oper), x < k → y < k → ops[x]? = some ox → ops[y]? = some oy → ox.dst = some s → oy.dst = some s → x = y := by
    intro x y ox oy hx hy hox hoy hdx hdy
    by_cases he : y = x
    · exact he.symm
    · exact absurd hdx (((check_pair hc hox (Array.getElem?_eq_some_iff.1 hoy).1).2.2 hx oy s hoy hdy).2 hy he)
  have hT0 : (∀ j o', j < i → ops[j]? = some o' → o'.dst ≠ some s) → (act ops.toList (E.take i) val 0 a0).tmps[s]? = a0.tmps[s]? := fun h =>
    act_other _ _ _ _ _ _ (fun j o' hj ho' => h j o' (by omega) (by simpa using ho'))
  by_cases hw : ∃ j oj, j < k ∧ ops[j]? = some oj ∧ oj.dst = some s
  · obtain ⟨j, oj, hjk, hoj, hdj⟩ := hw
    have hjn : j < ops.size := by omega
    rcases ((check_pair hc hi hjn).2.2 hik oj s hoj hdj).1 hs with rfl | ⟨hji, hb⟩ | ⟨hij, hb⟩
    · rw [I.other s (fun m om hm hom hl hd => by
        obtain rfl := dist m j om oj hm hjk hom hoj hd hdj
        rw [hu] at hl; simp at hl), hT0 (fun m om hm hom hd => by
        have := dist m j om oj (by omega) hjk hom hoj hd hdj; omega)]
    · have hl := hahead j hjn hb
      obtain ⟨e, he⟩ : ∃ e, E[j]? = some e := ⟨_, List.getElem?_eq_getElem (by omega)⟩
      by_cases hsz : s < a0.tmps.size
      · rw [I.one j oj e s hoj he hl hdj hsz]
        have := act_one (E.take i) ops.toList val 0 a0 j oj e s (by simpa using hoj) (by rw [take_get hji]; exact he) hdj hsz
          (fun m om hm hom hne hd => hne (dist m j om oj (by omega) hjk (by simpa using hom) hoj hd hdj))
        rw [this]; simp
      · have hs1 : a0.tmps.size ≤ s := Nat.le_of_not_lt hsz
        have hs2 : a.tmps.size ≤ s := by rw [I.size]; exact hs1
        have hs3 : (act ops.toList (E.take i) val 0 a0).tmps.size ≤ s := by rw [act_size]; exact hs1
        rw [Array.getElem?_eq_none hs2, Array.getElem?_eq_none hs3]
    · have hnl : listed[j]? ≠ some true := fun hl => by
        have := I.closed j i hl (by rw [I.n]; exact (Array.getElem?_eq_some_iff.1 hi).1) hb
        rw [hu] at this; simp at this
      rw [I.other s (fun m om hm hom hl hd => by
        obtain rfl := dist m j om oj hm hjk hom hoj hd hdj
        exact hnl hl), hT0 (fun m om hm hom hd => by
        have := dist m j om oj (by omega) hjk hom hoj hd hdj; omega)]
  · rw [I.other s (fun m om hm hom hl hd => hw ⟨m, om, hm, hom, hd⟩), hT0 (fun m om hm hom hd => hw ⟨m, om, by omega, hom, hd⟩)]

theorem Ent.fact_of_post {e : Ent} {v : Value} {w0 w : World} (h : e.post w0 v w) : e.fact v w ∧ e.val v = v := by
  cases e with
  | det u => exact ⟨trivial, h.symm⟩
  | any Φ => exact ⟨h, rfl⟩
  | new Φ => exact ⟨h.2, rfl⟩


theorem Inv.finish (hc : check ops k B = true) (hE : E.length = k) {val : Nat → Value} {listed : Array Bool} {a : Act} {w : World}
    (I : Inv ops k B R a0 w0 E val listed a w) (hall : ∀ j, j < k → listed[j]? = some true) : a = act ops.toList E val 0 a0 ∧ facts (fun _ => true) E val 0 w ∧ Apart E val := by
  have htm : a.tmps = (act ops.toList E val 0 a0).tmps := by
    refine Array.ext_getElem? (fun s => ?_)
    have dist : ∀ (x y : Nat) (ox oy : Oper), x < k → y < k → ops[x]? = some ox → ops[y]? = some oy → ox.dst = some s → oy.dst = some s → x = y := by
      intro x y ox oy hx hy hox hoy hdx hdy
      by_cases he : y = x
      · exact he.symm
      · exact absurd hdx (((check_pair hc hox (Array.getElem?_eq_some_iff.1 hoy).1).2.2 hx oy s hoy hdy).2 hy he)
    by_cases hw : ∃ j oj, j < k ∧ ops[j]? = some oj ∧ oj.dst = some s
    · obtain ⟨j, oj, hjk, hoj, hdj⟩ := hw
      obtain ⟨e, he⟩ : ∃ e, E[j]? = some e := ⟨_, List.getElem?_eq_getElem (by omega)⟩
      by_cases hsz : s < a0.tmps.size
      · rw [I.one j oj e s hoj he (hall j hjk) hdj hsz]
        have := act_one E ops.toList val 0 a0 j oj e s (by simpa using hoj) he hdj hsz
          (fun m om hm hom hne hd => hne (dist m j om oj (by omega) hjk (by simpa using hom) hoj hd hdj))
        rw [this]; simp
      · rw [Array.getElem?_eq_none (by rw [I.size]; omega), Array.getElem?_eq_none (by rw [act_size]; omega)]
    · rw [I.other s (fun m om hm hom hl hd => hw ⟨m, om, hm, hom, hd⟩), act_other _ _ _ _ _ _ (fun m om hm hom hd => hw ⟨m, om, by omega, by simpa using hom, hd⟩)]
  have hlt : ∀ (i : Nat) (e : Ent), E[i]? = some e → listed[i]? = some true := fun i e he => hall i (by have := (List.getElem?_eq_some_iff.1 he).1; omega)
  refine ⟨?_, facts_of _ E val 0 w (fun j e he _ => ?_), fun i j Φ Ψ hi hj hne => I.apart i j Φ Ψ hi hj (hlt i _ hi) (hlt j _ hj) hne⟩
  · have hd : a.defers = (act ops.toList E val 0 a0).defers := by rw [act_defers]; exact I.defers
    cases a
    generalize act ops.toList E val 0 a0 = b at *
    cases b
    simp only at htm hd
    rw [htm, hd]
  · rw [Nat.zero_add]
    have : j < E.length := (List.getElem?_eq_some_iff.1 he).1
    exact I.fact j e he (hall j (by omega))

theorem run_any (hc : check ops k B = true) (hE : E.length = k) (hk : k ≤ ops.size) (hrt : ∀ w w' w'', R w w' → R w' w'' → R w w'') (hszR : ∀ w w', R w w' → w.heap.size ≤ w'.heap.size)
    (hst : ∀ (i : Nat) (e : Ent), E[i]? = some e → ∀ v w w', R w w' → e.fact v w → e.fact v w')
    (hO : ∀ (i : Nat) (o : Oper) (e : Ent), ops[i]? = some o → E[i]? = some e → ∀ val w, R w0 w → facts (B i) (E.take i) val 0 w → Obl P ops R o (act ops.toList (E.take i) val 0 a0) w (e.post w))
    (hF : ∀ val w, R w0 w → facts (fun _ => true) E val 0 w → Apart E val → wpList P ops Q (ops.toList.drop k) (act ops.toList E val 0 a0) w) :
    ∀ (fuel : Nat) (val : Nat → Value) (listed : Array Bool) (a : Act) (w : World), Inv ops k B R a0 w0 E val listed a w → left ops.size listed ≤ fuel → wpAny P .any ops Q fuel listed a w := by
  have fin : ∀ (fuel : Nat) (val : Nat → Value) (listed : Array Bool) (a : Act) (w : World), Inv ops k B R a0 w0 E val listed a w → (∀ j, j < k → listed[j]? = some true) → left ops.size listed ≤ fuel →
      wpAny P .any ops Q fuel listed a w := by
    intro fuel val listed a w I hall hl
    obtain ⟨rfl, hf, hap⟩ := I.finish hc hE hall
    refine tail_any hc (ops.size - k) k listed _ w (Nat.le_refl _) (by omega) I.n I.closed hall I.late (hF val w I.rel hf hap) fuel ?_
    refine Nat.le_trans ?_ hl
    have : ∀ m, k ≤ m → m ≤ ops.size → m - k ≤ left m listed := by
      intro m
      induction m with
      | zero => intro h1 h2; omega
      | succ m ihm =>
        intro h1 h2
        have hstep : left (m + 1) listed = left m listed + if (!listed.getD m true) = true then 1 else 0 := by
          simp [left, List.range_succ, List.countP_append, List.countP_cons]
        by_cases hm : k ≤ m
        · have h3 := ihm hm (by omega)
          have h4 : listed.getD m true = false := by rw [Array.getD_eq_getD_getElem?, I.late m hm (by omega)]; rfl
          rw [hstep, h4]
          simp; omega
        · omega
    exact this ops.size hk (Nat.le_refl _)
  intro fuel
  induction fuel with
  | zero =>
    intro val listed a w I hl
    refine fin 0 val listed a w I (fun j hj => ?_) hl
    rw [get_listed (by rw [I.n]; omega)]
    cases h : listed.getD j true with
    | true => rfl
    | false => have := left_pos (show j < ops.size by omega) h; omega
  | succ fuel ih =>
    intro val listed a w I hl
    by_cases hall : ∀ j, j < k → listed[j]? = some true
    · exact fin _ val listed a w I hall hl
    have hex : ∃ i, i < k ∧ listed.getD i true = false ∧ ∀ j, j < i → listed[j]? = some true := by
      have gen : ∀ m, m ≤ k → (∀ j, j < m → listed[j]? = some true) ∨ ∃ i, i < k ∧ listed.getD i true = false ∧ ∀ j, j < i → listed[j]? = some true := by
        intro m
        induction m with
        | zero => exact fun _ => .inl (fun j hj => by omega)
        | succ m ihm =>
          intro hm
          rcases ihm (by omega) with h | h
          · cases hg : listed.getD m true with
            | false => exact .inr ⟨m, by omega, hg, h⟩
            | true =>
              refine .inl (fun j hj => ?_)
              by_cases hjm : j = m
              · subst hjm; rw [get_listed (by rw [I.n]; omega), hg]
              · exact h j (by omega)
          · exact .inr h
      rcases gen k (Nat.le_refl _) with h | h
      · exact absurd h hall
      · exact h
    obtain ⟨i0, hi0, hu0, hb0⟩ := hex
    have hr0 := first_ready hc (show i0 < ops.size by omega) hu0 hb0
    refine ⟨fun h0 => by rw [h0] at hr0; simp at hr0, fun i hi => ?_⟩
    obtain ⟨hlt, hu, o, ho, hafter⟩ := mem_ready.1 hi
    have hul : listed[i]? = some false := by rw [get_listed (by rw [I.n]; exact hlt), hu]
    have hahead : ∀ j, j < ops.size → B i j = true → listed[j]? = some true := fun j hj hb => ready_ahead hc I.n I.closed ho hafter hj hb
    have hik : i < k := by
      rcases Nat.lt_or_ge i k with h | h
      · exact h
      · have := hahead i0 (by omega) ((check_pair hc ho (by omega)).2.1 h (by omega))
        rw [get_listed (by rw [I.n]; omega), hu0] at this
        simp at this
    obtain ⟨e, he⟩ : ∃ e, E[i]? = some e := ⟨_, List.getElem?_eq_getElem (by omega)⟩
    have hag := I.agree hc hE hk ho hik hul hahead
    have hfacts : facts (B i) (E.take i) val 0 w := facts_of _ _ val 0 w (fun j e' he' hb => by
      rw [Nat.zero_add] at hb ⊢
      have hji : j < i := by
        have := (List.getElem?_eq_some_iff.1 he').1
        simp at this; omega
      rw [take_get hji] at he'
      exact I.fact j e' he' (hahead j (by omega) hb))
    have hob := hO i o e ho he val w I.rel hfacts
    have hsz : a.tmps.size = (act ops.toList (E.take i) val 0 a0).tmps.size := by rw [act_size]; exact I.size
    -- what comes behind it
    have next : ∀ v w', R w w' → e.post w v w' → wpAny P .any ops Q fuel (listed.setIfInBounds i true) (a.put o.dst v) w' := by
      intro v w' hR hp
      obtain ⟨hfa, hva⟩ := Ent.fact_of_post hp
      have hset : ∀ j, (listed.setIfInBounds i true)[j]? = some true → j = i ∨ (j ≠ i ∧ listed[j]? = some true) := by
        intro j hj
        by_cases hji : j = i
        · exact .inl hji
        · rw [Array.getElem?_setIfInBounds_ne (fun h => hji h.symm)] at hj
          exact .inr ⟨hji, hj⟩
      have hin : i < listed.size := by rw [I.n]; exact hlt
      refine ih (fun j => if j = i then v else val j) _ _ _ ⟨by simpa using I.n, ?_, ?_, ?_, ?_, hrt _ _ _ I.rel hR, ?_, ?_, ?_, ?_, ?_⟩ ?_
      · intro x y hx hy hb
        rw [Array.size_setIfInBounds] at hy
        rw [Array.getElem?_setIfInBounds]
        by_cases hiy : i = y
        · simp [hiy, hy]
        · rw [if_neg hiy]
          rcases hset x hx with rfl | ⟨_, hx⟩
          · exact hahead y (by rw [← I.n]; exact hy) hb
          · exact I.closed x y hx hy hb
      · intro j hj hjn
        rw [Array.getElem?_setIfInBounds_ne (by omega)]
        exact I.late j hj hjn
      · rw [defers_put]; exact I.defers
      · rw [size_put]; exact I.size
      · intro j e' he' hj
        rcases hset j hj with rfl | ⟨hji, hj⟩
        · rw [he] at he'; cases he'
          simp only [if_true]; exact hfa
        · simp only [hji, if_false]
          exact hst j e' he' _ _ _ hR (I.fact j e' he' hj)
      · intro j o' e' d ho' he' hj hd hds
        rw [get_put]
        rcases hset j hj with rfl | ⟨hji, hj⟩
        · rw [ho] at ho'; cases ho'
          rw [he] at he'; cases he'
          rw [if_pos ⟨hd, by rw [I.size]; exact hds⟩]
          simp only [if_true]; rw [hva]
        · have hjk : j < k := by have := (List.getElem?_eq_some_iff.1 he').1; omega
          rw [if_neg (fun hh => (((check_pair hc ho (show j < ops.size by omega)).2.2 hik o' d ho' hd).2 hjk hji) hh.1)]
          simp only [hji, if_false]
          exact I.one j o' e' d ho' he' hj hd hds
      · intro j Φ he' hj
        rcases hset j hj with rfl | ⟨hji, hj⟩
        · rw [he] at he'; cases he'
          obtain ⟨⟨b, h1, _, h3⟩, _⟩ := hp
          exact ⟨b, by simp only [if_true]; exact h1, h3⟩
        · simp only [hji, if_false]
          obtain ⟨b, h1, h2⟩ := I.low j Φ he' hj
          exact ⟨b, h1, Nat.lt_of_lt_of_le h2 (hszR _ _ hR)⟩
      · intro x y Φ Ψ hx hy hlx hly hne
        rcases hset x hlx with rfl | ⟨hxi, hlx2⟩
        · rcases hset y hly with rfl | ⟨hyi, hly2⟩
          · exact absurd rfl hne
          · rw [he] at hx; cases hx
            obtain ⟨⟨b, h1, h2, _⟩, _⟩ := hp
            obtain ⟨c, k1, k2⟩ := I.low y Ψ hy hly2
            simp only [hyi, if_false, if_true]
            rw [h1, k1]
            intro hh; have := Option.some.inj hh; omega
        · rcases hset y hly with rfl | ⟨hyi, hly2⟩
          · rw [he] at hy; cases hy
            obtain ⟨⟨b, h1, h2, _⟩, _⟩ := hp
            obtain ⟨c, k1, k2⟩ := I.low x Φ hx hlx2
            simp only [hxi, if_false, if_true]
            rw [h1, k1]
            intro hh; have := Option.some.inj hh; omega
          · simp only [hxi, hyi, if_false]
            exact I.apart x y Φ Ψ hx hy hlx2 hly2 hne
      · intro s hs
        rw [get_put, if_neg (fun hh => hs i o hik ho (by rw [Array.getElem?_setIfInBounds_self_of_lt hin]) hh.1)]
        refine I.other s (fun j o' hj ho' hl => hs j o' hj ho' ?_)
        by_cases hji : j = i
        · subst hji; rw [Array.getElem?_setIfInBounds_self_of_lt hin]
        · rw [Array.getElem?_setIfInBounds_ne (fun h => hji h.symm)]; exact hl
      · have := (left_set listed i hul ops.size).1 hlt
        omega
    have hob' := hob (fun a' w' => ∃ v, a' = (act ops.toList (E.take i) val 0 a0).put o.dst v ∧ (R w w' ∧ e.post w v w')) (fun v w' h1 h2 => ⟨v, rfl, h1, h2⟩)
    unfold wpOp
    simp only [ho]
    rw [wanted_agree hag]
    split
    · rename_i hwt
      simp only [hwt, if_true] at hob'
      exact .inl (wp_shift (execOp_agree (check_op hc ho).1 hag) hsz hob' (fun v w' h => next v w' h.1 h.2))
    · rename_i hwt
      simp only [hwt] at hob'
      obtain ⟨v, hv, h1, h2⟩ := hob'
      rw [put_inj hsz hv]
      exact next v w h1 h2

/-- Which stand ahead of which, as the edges have it. -/
def ahead (ops : Array Oper) (i j : Nat) : Bool := ((Region.before ops).getD i 0).testBit j

/-- The entries so far can be led on to the end. -/
def Seq (P : Program) (ops : Array Oper) (k : Nat) (R : World → World → Prop) (Q : Exit → Act → World → Prop) (a0 : Act) (w0 : World) (E : List Ent) : Prop :=
  ∃ E', (E ++ E').length = k ∧
    (∀ (i : Nat) (o : Oper) (e : Ent), E.length ≤ i → ops[i]? = some o → (E ++ E')[i]? = some e →
      (∀ v w w', R w w' → e.fact v w → e.fact v w') ∧
      ∀ val w, R w0 w → facts (ahead ops i) ((E ++ E').take i) val 0 w → Obl P ops R o (act ops.toList ((E ++ E').take i) val 0 a0) w (e.post w)) ∧
    ∀ val w, R w0 w → facts (fun _ => true) (E ++ E') val 0 w → Apart (E ++ E') val → wpList P ops Q (ops.toList.drop k) (act ops.toList (E ++ E') val 0 a0) w

theorem Seq.any (hc : check ops k (ahead ops) = true) (hk : k ≤ ops.size) (hrt : ∀ w w' w'', R w w' → R w' w'' → R w w'') (hsz : ∀ w w', R w w' → w.heap.size ≤ w'.heap.size) (hrr : R w0 w0) (h : Seq P ops k R Q a0 w0 []) :
    wpAny P .any ops Q ops.size (Array.replicate ops.size false) a0 w0 := by
  obtain ⟨E, hE, hO, hF⟩ := h
  simp only [List.nil_append] at hE hO hF
  refine run_any (E := E) (R := R) hc hE hk hrt hsz (fun i e he => ?_) (fun i o e ho he => (hO i o e (Nat.zero_le _) ho he).2) hF ops.size (fun _ => undef) _ _ _ ?_ ?_
  · have hi : i < ops.size := by have := (List.getElem?_eq_some_iff.1 he).1; omega
    exact (hO i ops[i] e (Nat.zero_le _) (Array.getElem?_eq_getElem hi) he).1
  · have hno : ∀ j : Nat, (Array.replicate ops.size false)[j]? ≠ some true := by
      intro j
      rw [Array.getElem?_replicate]
      split <;> simp
    exact ⟨by simp, fun i j hi => absurd hi (hno i), fun i _ hi => by rw [Array.getElem?_replicate, if_pos hi], rfl, rfl, hrr, fun j e _ hj => absurd hj (hno j), fun j o e d _ _ hj => absurd hj (hno j), fun j _ _ hj => absurd hj (hno j), fun i _ _ _ _ _ hi => absurd hi (hno i), fun _ _ => rfl⟩
  · unfold left
    exact Nat.le_trans (List.countP_le_length) (by simp)

/-- THE BEGINNING, where the order is drawn. -/
theorem Seq.drawn {id : Nat} (hc : check ops k (ahead ops) = true) (hk : k ≤ ops.size) (hm : P.follows .mixedOrders = true) (hrt : ∀ w w' w'', R w w' → R w' w'' → R w w'') (hsz : ∀ w w', R w w' → w.heap.size ≤ w'.heap.size) (hrr : ∀ w, R w w)
    (h : Seq P ops k R Q a0 w0.drew []) : (Code.region id ops true).wp P Q a0 w0 :=
  wp_region_any hm (Seq.any hc hk hrt hsz (hrr _) h)

theorem wpAny_text (hc : check ops k B = true) : ∀ (m i : Nat) (listed : Array Bool) (a : Act) (w : World), i + m = ops.size → listed.size = ops.size →
    (∀ j, j < i → listed[j]? = some true) → (∀ j, i ≤ j → j < ops.size → listed[j]? = some false) → wpAny P .any ops Q m listed a w → wpOps P ops Q (List.range' i m) a w := by
  intro m
  induction m with
  | zero => intro i listed a w _ _ _ _ h; simpa [wpOps] using h.2
  | succ m ih =>
    intro i listed a w hm hn h1 h2 h
    have hi : i < ops.size := by omega
    have hir := first_ready hc hi (by rw [Array.getD_eq_getD_getElem?, h2 i (Nat.le_refl _) hi]; rfl) h1
    rw [List.range'_succ, wpOps_cons]
    refine wpOp_mono (fun a w hh => ih (i + 1) _ a w (by omega) (by simpa using hn) ?_ ?_ hh) (h.2 i hir)
    · intro j hj
      rw [Array.getElem?_setIfInBounds]
      by_cases hij : i = j
      · simp [hij]; omega
      · rw [if_neg hij]; exact h1 j (by omega)
    · intro j hj hjn
      rw [Array.getElem?_setIfInBounds, if_neg (by omega)]
      exact h2 j (by omega) hjn

/-- THE BEGINNING, in the order of the text. -/
theorem Seq.text {id : Nat} (hc : check ops k (ahead ops) = true) (hk : k ≤ ops.size) (hrt : ∀ w w' w'', R w w' → R w' w'' → R w w'') (hsz : ∀ w w', R w w' → w.heap.size ≤ w'.heap.size) (hrr : ∀ w, R w w)
    (h : Seq P ops k R Q a0 w0 []) : (Code.region id ops false).wp P Q a0 w0 :=
  wp_region (by
    rw [List.range_eq_range']
    exact wpAny_text hc ops.size 0 _ a0 w0 (by omega) (by simp) (fun j hj => by omega) (fun j _ hj => by rw [Array.getElem?_replicate, if_pos hj]) (Seq.any hc hk hrt hsz (hrr _) h))

/-- The entries are not seen any more: the frame and the facts, as they make them. -/
def At (P : Program) (ops : Array Oper) (k : Nat) (R : World → World → Prop) (Q : Exit → Act → World → Prop) (w0 : World) (i : Nat) (rest : List Oper) (T : (Nat → Value) → Act) (F : (Nat → Bool) → (Nat → Value) → World → Prop) (N : List Nat) : Prop :=
  ∀ E a0, E.length = i → (∀ j ∈ N, ∃ Φ, E[j]? = some (.new Φ)) → (∀ val, act ops.toList E val 0 a0 = T val) → (∀ Bf val w, facts Bf E val 0 w → F Bf val w) → ops.toList.drop i = rest → Seq P ops k R Q a0 w0 E

theorem At.start {l : List Oper} (h : At P l.toArray k R Q w0 0 l (fun _ => a0) (fun _ _ _ => True) []) : Seq P l.toArray k R Q a0 w0 [] :=
  h [] a0 rfl (fun _ hj => by cases hj) (fun _ => by cases l <;> rfl) (fun _ _ _ _ => trivial) rfl

theorem act_snoc (e : Ent) : ∀ (E : List Ent) (os : List Oper) (o : Oper) (rest : List Oper) (val : Nat → Value) (i : Nat) (a : Act), os.drop E.length = o :: rest →
    act os (E ++ [e]) val i a = (act os E val i a).put o.dst (e.val (val (i + E.length))) := by
  intro E
  induction E with
  | nil =>
    intro os o rest val i a h
    simp only [List.length_nil, List.drop_zero] at h
    subst h
    cases rest <;> rfl
  | cons x E ih =>
    intro os o rest val i a h
    cases os with
    | nil => simp at h
    | cons o0 os =>
      simp only [List.cons_append, act]
      rw [ih os o rest val (i + 1) _ (by simpa using h)]
      simp only [List.length_cons]
      rw [show i + 1 + E.length = i + (E.length + 1) from by omega]

theorem facts_snoc (Bf : Nat → Bool) (e : Ent) : ∀ (E : List Ent) (val : Nat → Value) (i : Nat) (w : World), facts Bf (E ++ [e]) val i w →
    facts Bf E val i w ∧ facts Bf [e] val (i + E.length) w := by
  intro E
  induction E with
  | nil => intro val i w h; exact ⟨trivial, h⟩
  | cons x E ih =>
    intro val i w h
    cases x with
    | det u =>
      obtain ⟨h1, h2⟩ := ih val (i + 1) w h
      exact ⟨h1, by rw [show i + 1 + E.length = i + (E.length + 1) from by omega] at h2; exact h2⟩
    | any Φ =>
      obtain ⟨h0, h⟩ := h
      obtain ⟨h1, h2⟩ := ih val (i + 1) w h
      exact ⟨⟨h0, h1⟩, by rw [show i + 1 + E.length = i + (E.length + 1) from by omega] at h2; exact h2⟩
    | new Φ =>
      obtain ⟨h0, h⟩ := h
      obtain ⟨h1, h2⟩ := ih val (i + 1) w h
      exact ⟨⟨h0, h1⟩, by rw [show i + 1 + E.length = i + (E.length + 1) from by omega] at h2; exact h2⟩

variable {i : Nat} {o : Oper} {rest : List Oper} {T : (Nat → Value) → Act} {F : (Nat → Bool) → (Nat → Value) → World → Prop} {N : List Nat}

theorem At.step (e : Ent) (N' : List Nat) (hN : ∀ j ∈ N', j ∈ N ∨ (j = i ∧ ∃ Φ, e = .new Φ)) (hst : ∀ v w w', R w w' → e.fact v w → e.fact v w')
    (ho : ∀ val w, R w0 w → F (ahead ops i) val w → Obl P ops R o (T val) w (e.post w))
    (h : At P ops k R Q w0 (i + 1) rest (fun val => (T val).put o.dst (e.val (val i))) (fun Bf val w => F Bf val w ∧ facts Bf [e] val i w) N') :
    At P ops k R Q w0 i (o :: rest) T F N := by
  intro E a0 hE hEN hT hF hr
  obtain ⟨E', h1, h2, h3⟩ := h (E ++ [e]) a0 (by simp [hE]) (fun j hj => by
      rcases hN j hj with hj | ⟨rfl, Φ, hΦ⟩
      · obtain ⟨Φ, hΦ⟩ := hEN j hj
        exact ⟨Φ, by rw [List.getElem?_append_left (List.getElem?_eq_some_iff.1 hΦ).1]; exact hΦ⟩
      · exact ⟨Φ, by rw [List.getElem?_append_right (by omega), hE]; simp [hΦ]⟩)
    (fun val => by
      rw [act_snoc e E _ o rest val 0 a0 (by rw [hE]; exact hr), hT, Nat.zero_add, hE])
    (fun Bf val w hf => by
      obtain ⟨g1, g2⟩ := facts_snoc Bf e E val 0 w hf
      rw [Nat.zero_add, hE] at g2
      exact ⟨hF Bf val w g1, g2⟩)
    (by have := congrArg List.tail hr; simpa using this)
  have hass : E ++ [e] ++ E' = E ++ e :: E' := by simp
  rw [hass] at h1 h2 h3
  refine ⟨e :: E', h1, fun j oj ej hj hoj hej => ?_, h3⟩
  by_cases hji : j = i
  · subst hji
    have he : ej = e := by
      rw [List.getElem?_append_right (by omega)] at hej
      simp [hE] at hej
      exact hej.symm
    subst he
    have hoo : oj = o := by
      have := congrArg (fun l : List Oper => l[0]?) hr
      simp at this
      rw [← Array.getElem?_toList] at hoj
      simp at hoj
      rw [this] at hoj
      exact (Option.some.inj hoj).symm
    subst hoo
    refine ⟨hst, fun val w hR hf => ?_⟩
    rw [List.take_append_of_le_length (by omega), List.take_of_length_le (by omega)] at hf ⊢
    rw [hT]
    exact ho val w hR (hF _ val w hf)
  · exact h2 j oj ej (by simp; omega) hoj hej

/-- An operation whose value is known ahead. -/
theorem At.det (v : Value) (ho : ∀ val w, R w0 w → F (ahead ops i) val w → ∀ K : Act → World → Prop, (∀ w', R w w' → K ((T val).put o.dst v) w') →
      if Region.wanted o (yielded ops (T val).tmps) = true then o.wp P (T val) w K NoQ else K ((T val).put o.dst undef) w)
    (h : At P ops k R Q w0 (i + 1) rest (fun val => (T val).put o.dst v) F N) : At P ops k R Q w0 i (o :: rest) T F N :=
  At.step (.det v) N (fun _ hj => .inl hj) (fun _ _ _ _ _ => trivial) (fun val w hR hF K hK => ho val w hR hF K (fun w' h' => hK v w' h' rfl)) (fun E a0 hE hEN hT hF hr => h E a0 hE hEN hT (fun Bf val w hf => (hF Bf val w hf).1) hr)

/-- An operation of whose value a fact is known. -/
theorem At.free (Φ : Value → World → Prop) (hst : ∀ v w w', R w w' → Φ v w → Φ v w')
    (ho : ∀ val w, R w0 w → F (ahead ops i) val w → ∀ K : Act → World → Prop, (∀ v w', R w w' → Φ v w' → K ((T val).put o.dst v) w') →
      if Region.wanted o (yielded ops (T val).tmps) = true then o.wp P (T val) w K NoQ else K ((T val).put o.dst undef) w)
    (h : At P ops k R Q w0 (i + 1) rest (fun val => (T val).put o.dst (val i)) (fun Bf val w => F Bf val w ∧ (Bf i = true → Φ (val i) w)) N) : At P ops k R Q w0 i (o :: rest) T F N :=
  At.step (.any Φ) N (fun _ hj => .inl hj) hst ho (fun E a0 hE hEN hT hF hr => h E a0 hE hEN hT (fun Bf val w hf => by
    obtain ⟨h1, h2, _⟩ := hF Bf val w hf
    exact ⟨h1, h2⟩) hr)

/-- An operation that makes a block. -/
theorem At.new (Φ : Value → World → Prop) (hst : ∀ v w w', R w w' → Φ v w → Φ v w')
    (ho : ∀ val w, R w0 w → F (ahead ops i) val w → ∀ K : Act → World → Prop, (∀ v w', R w w' → (∃ b, blk v = .some b ∧ w.heap.size ≤ b ∧ b < w'.heap.size) → Φ v w' → K ((T val).put o.dst v) w') →
      if Region.wanted o (yielded ops (T val).tmps) = true then o.wp P (T val) w K NoQ else K ((T val).put o.dst undef) w)
    (h : At P ops k R Q w0 (i + 1) rest (fun val => (T val).put o.dst (val i)) (fun Bf val w => F Bf val w ∧ (Bf i = true → Φ (val i) w)) (i :: N)) : At P ops k R Q w0 i (o :: rest) T F N :=
  At.step (.new Φ) (i :: N) (fun j hj => (List.mem_cons.1 hj).elim (fun e => .inr ⟨e, Φ, rfl⟩) .inl) hst
    (fun val w hR hF K hK => ho val w hR hF K (fun v w' h1 h2 h3 => hK v w' h1 ⟨h2, h3⟩)) (fun E a0 hE hEN hT hF hr => h E a0 hE hEN hT (fun Bf val w hf => by
    obtain ⟨h1, h2, _⟩ := hF Bf val w hf
    exact ⟨h1, h2⟩) hr)

/-- What is left comes last, in the order of the text. -/
theorem At.last (hi : i = k) (h : ∀ val w, R w0 w → F (fun _ => true) val w → (∀ x ∈ N, ∀ y ∈ N, x ≠ y → blk (val x) ≠ blk (val y)) → wpList P ops Q rest (T val) w) : At P ops k R Q w0 i rest T F N := by
  intro E a0 hE hEN hT hF hr
  refine ⟨[], by simp [hE, hi], fun j oj ej hj hoj hej => ?_, fun val w hR hf hap => ?_⟩
  · rw [List.append_nil] at hej
    rw [List.getElem?_eq_none (by omega)] at hej
    simp at hej
  · rw [List.append_nil] at hf hap ⊢
    rw [← hi, hr, hT]
    exact h val w hR (hF _ val w hf) (fun x hx y hy hne => by
      obtain ⟨Φ, h1⟩ := hEN x hx
      obtain ⟨Ψ, h2⟩ := hEN y hy
      exact hap x y Φ Ψ h1 h2 hne)
end

/-! ### The relation of a call that only makes memory -/
open Go.RowKit
/-- All that is there stays as it is. -/
def Ext (w w' : World) : Prop := Below w.heap.size w w'
theorem Ext.refl (w : World) : Ext w w := Below.refl _ _
theorem Ext.size {w w' : World} (h : Ext w w') : w.heap.size ≤ w'.heap.size := Below.size h
theorem Ext.trans {a b c : World} (h : Ext a b) (k : Ext b c) : Ext a c := Below.trans h (Below.mono k h.size)
theorem Ext.drew {a b : World} (h : Ext a b) : Ext a b.drew := Below.drew h
theorem Ext.alloc {a b : World} (h : Ext a b) (o : Obj) : Ext a (b.alloc o) := Below.alloc h h.size o
theorem Ext.of_drew {a b : World} (h : Ext a.drew b) : Ext a b := Ext.trans (Ext.drew (Ext.refl a)) h
theorem Ext.cell {a b : World} (h : Ext a b) (p : Addr) (hp : (a.cell? p).isSome = true) : b.cell? p = a.cell? p := by
  obtain ⟨v, hv⟩ := Option.isSome_iff_exists.1 hp
  exact Below.cell h (World.block_lt_of_cell? a p hv)
theorem Ext.block {a b : World} (h : Ext a b) {i : Nat} (hi : i < a.heap.size) : b.heap[i]? = a.heap[i]? := Below.block h i hi
theorem Ext.obj {a b : World} (h : Ext a b) {i : Nat} {o : Obj} (hi : a.heap[i]? = some o) : b.heap[i]? = some o := by
  rw [h.block (Array.getElem?_eq_some_iff.1 hi).1]; exact hi
theorem Ext.setCell {a b : World} (h : Ext a b) {p : Addr} (hp : a.heap.size ≤ p.block) (v : Value) : Ext a (b.setCell p v) := Below.setCell h hp v
end Go.Rg
