/-
  Maps whose keys are pairs of numbers.
-/
import Derived.Test.YtghefhmncpmflaaDoorCb9
import Derived.WideKeyPair
import Derived.Maps.RangeWalk
namespace Go.Proofs.YtghefhmncpmflaaDoor
open Go.RowKit Go.Rg Go.WideMaps

def pv (x y : Int) : Value := .agg #[.int .i64 x, .int .i64 y]
def kp (x y : Int) : Lit := .string (keyBytes [.int .i64 x, .int .i64 y])
theorem arrKey : ArrKey Tryd.prog 61 3 2 := ⟨Tryd.underlying61, by kernel_rfl, by kernel_rfl, by kernel_rfl⟩
theorem K61 : Maps.Keyed Tryd.prog 61 := Maps.Keyed.of_law arrKey.law
theorem types_pos : ∃ m, Tryd.prog.types.size = m + 1 := by
  have : 0 < Tryd.prog.types.size := of_decide_eq_true (by kernel_rfl)
  exact ⟨Tryd.prog.types.size - 1, by omega⟩
theorem keyOf61 {x y : Int} (wx : (Lit.int .i64 x).wf = true) (wy : (Lit.int .i64 y).wf = true) : keyOf Tryd.prog 61 (pv x y) = some (kp x y) := keyOf_pair arrKey Tryd.underlying3 types_pos wx wy
theorem kp_inj {x y x' y' : Int} (wx : (Lit.int .i64 x).wf = true) (wy : (Lit.int .i64 y).wf = true) (wx' : (Lit.int .i64 x').wf = true) (wy' : (Lit.int .i64 y').wf = true) (h : kp x y = kp x' y') : x = x' ∧ y = y' := by
  have := K61.inj (keyOf61 wx wy) (h ▸ keyOf61 wx' wy')
  simpa [pv] using this
theorem keyLits_int {m : Nat} {c : Value} {ls : List Lit} (h : Tryd.prog.keyLits (m + 1) 3 [c] = some ls) : ∃ x : Int, c = .int .i64 x ∧ (Lit.int .i64 x).wf = true ∧ ls = [.int .i64 x] := by
  unfold Program.keyLits at h
  simp only [Tryd.underlying3] at h
  cases c <;> simp at h
  obtain ⟨⟨rfl, hw⟩, rfl⟩ := h
  exact ⟨_, rfl, hw, rfl⟩
set_option maxRecDepth 100000 in
theorem keyOf61_inv {key : Value} {kl : Lit} (h : keyOf Tryd.prog 61 key = some kl) : ∃ p : Int × Int, key = pv p.1 p.2 ∧ (Lit.int .i64 p.1).wf = true ∧ (Lit.int .i64 p.2).wf = true ∧ kl = kp p.1 p.2 := by
  have h0 := h
  obtain ⟨m, hm⟩ := types_pos
  unfold keyOf at h
  simp only [arrKey.hu] at h
  split at h
  · rename_i hf
    obtain ⟨ls, hls, rfl⟩ := Option.map_eq_some_iff.1 h
    simp only [Bool.and_eq_true] at hf
    have hfm := hf.2
    rw [hm] at hls
    unfold Program.keyLits at hls
    simp only [arrKey.hu] at hls
    split at hls
    · rename_i hl
      rw [arrKey.size] at hl
      cases key <;> simp [Value.formed, arrKey.hu, Value.cells] at hfm hl hls
      rename_i cells
      obtain ⟨l⟩ := cells
      match l, hl with
      | [c0, c1], _ =>
        obtain ⟨a, ha, rfl⟩ := hls
        rw [show List.range 2 = [0, 1] from rfl, arrKey.one] at ha
        simp only [List.mapM_cons, List.mapM_nil, Nat.zero_mul, List.drop_zero, List.take_succ_cons, List.take_zero, Nat.mul_one, List.drop_succ_cons, bind, Option.bind_eq_some_iff, pure, Option.some.injEq] at ha
        obtain ⟨a0, g0, r, ⟨a1, h1, r1, hr1, rfl⟩, rfl⟩ := ha
        obtain ⟨x, rfl, wx, rfl⟩ := keyLits_int g0
        obtain ⟨y, rfl, wy, rfl⟩ := keyLits_int h1
        subst hr1
        exact ⟨(x, y), rfl, wx, wy, by simp [kp]⟩
    · cases hls
  · cases h

/-- Block b is a map that holds f. -/
def MapD (D : DataW Value) (w : World) (b n : Nat) (f : Int → Int → Option Value) : Prop :=
  w.ownsMap Tryd.prog 61 Rv b n D ∧ Maps.IsMap D ∧ ∀ x y, (Lit.int .i64 x).wf = true → (Lit.int .i64 y).wf = true → ∀ z, D.atKey (kp x y) z = match f x y with | some v => .held v | none => z
def MapP (w : World) (b n : Nat) (f : Int → Int → Option Value) : Prop := ∃ D, MapD D w b n f
section
variable {w w' : World} {b n : Nat} {f g : Int → Int → Option Value}
theorem MapP.made (w : World) : MapP (w.alloc (.map #[] 0)) w.heap.size 0 (fun _ _ => none) :=
  ⟨_, World.ownsMap_made _ _ _ _, Maps.isMap_empty, fun x y _ _ z => rfl⟩
theorem MapP.lt (h : MapP w b n f) : b < w.heap.size := let ⟨_, h, _⟩ := h; h.lt
theorem MapP.of_block (h : MapP w b n f) (he : w'.heap[b]? = w.heap[b]?) : MapP w' b n f := by
  obtain ⟨D, ⟨es, c, h1, h2⟩, h3⟩ := h
  exact ⟨D, ⟨es, c, he.trans h1, h2⟩, h3⟩
theorem MapP.mono (h : MapP w b n f) {m : Nat} (hm : n ≤ m) : MapP w b m f := by
  obtain ⟨D, h1, h2⟩ := h
  exact ⟨D, h1.mono hm, h2⟩
theorem MapP.congr (h : MapP w b n f) (hfg : ∀ x y, f x y = g x y) : MapP w b n g := by
  have : f = g := funext fun x => funext fun y => hfg x y
  rw [← this]; exact h
theorem MapP.lookup {t e : TypeId} (h : MapP w b n f) (ht : Tryd.prog.underlying t = some (.map 61 e)) {z : Value} (hz : (zeroValue e).run Tryd.prog w = .ok z w) {x y : Int} (wx : (Lit.int .i64 x).wf = true) (wy : (Lit.int .i64 y).wf = true) :
    (Instr.lookup t (.map (some b)) (pv x y) false).run Tryd.prog w = .ok ((f x y).getD z) w := by
  obtain ⟨D, hown, hm, hD⟩ := h
  obtain ⟨v, ps, hrun, hv⟩ := hown.lookup K61 ht hz (zd := .held z) (zp := []) rfl (keyOf61 wx wy)
  rw [hD x y wx wy] at hv
  rw [hrun]
  unfold Rv at hv
  cases hf : f x y with
  | none => rw [hf] at hv; simp at hv; simp [hv]
  | some u => rw [hf] at hv; simp at hv; simp [hv]
theorem MapP.update {t e : TypeId} (h : MapP w b n f) (ht : Tryd.prog.underlying t = some (.map 61 e)) (hn : n < maxLen) {x y : Int} (wx : (Lit.int .i64 x).wf = true) (wy : (Lit.int .i64 y).wf = true) (v : Value) :
    ∃ w', (Instr.mapUpdate t (.map (some b)) (pv x y) v).run Tryd.prog w = .ok () w' ∧ MapP w' b (n + 1) (fun i j => if i = x ∧ j = y then some v else f i j) ∧ w.grownBy w' (some b) := by
  obtain ⟨D, hown, hm, hD⟩ := h
  obtain ⟨w', hrun, hown', hg⟩ := hown.update K61 ht hn (keyOf61 wx wy) (show Rv v = some (.held v, []) from rfl)
  refine ⟨w', hrun, ⟨_, hown', hm.put _ _, fun i j wi wj z => ?_⟩, hg⟩
  by_cases hij : i = x ∧ j = y
  · obtain ⟨rfl, rfl⟩ := hij
    dsimp only
    rw [if_pos ⟨rfl, rfl⟩, Maps.atKey_put_same hm (K61.key (keyOf61 wx wy))]
  · dsimp only
    rw [if_neg hij, Maps.atKey_put_other (fun e => hij (kp_inj wi wj wx wy e)), hD i j wi wj]
theorem MapP.delete {t e : TypeId} (h : MapP w b n f) (ht : Tryd.prog.underlying t = some (.map 61 e)) {x y : Int} (wx : (Lit.int .i64 x).wf = true) (wy : (Lit.int .i64 y).wf = true) (ty : TypeId) :
    ∃ w', (Builtin.delete_ #[t, 61] ty #[.map (some b), pv x y]).run Tryd.prog w = .ok (.tuple #[]) w' ∧ MapP w' b n (fun i j => if i = x ∧ j = y then none else f i j) ∧ w.grownBy w' (some b) := by
  obtain ⟨D, hown, hm, hD⟩ := h
  obtain ⟨w', hrun, hown', ht'⟩ := hown.drop K61 ht (keyOf61 wx wy) ty
  refine ⟨w', hrun, ⟨_, hown', hm.del _, fun i j wi wj z => ?_⟩, ht'.grown⟩
  by_cases hij : i = x ∧ j = y
  · obtain ⟨rfl, rfl⟩ := hij
    dsimp only
    rw [if_pos ⟨rfl, rfl⟩, Maps.atKey_del_same]
  · dsimp only
    rw [if_neg hij, Maps.atKey_del_other (fun e => hij (kp_inj wi wj wx wy e)), hD i j wi wj]
theorem ranges_of {P : Program} {k : TypeId} {H : Type} {R : Value → Option (DataW H × List MemPlace)} {b r n : Nat} {D : DataW H} {left : Lit → Bool} {cnt : Nat} (h : w.ranges P k R b r n D left cnt) (hb : w'.heap[b]? = w.heap[b]?) (hr : w'.heap[r]? = w.heap[r]?) :
    w'.ranges P k R b r n D left cnt := by
  obtain ⟨es, clock, since, seen, c0, hb', F, hs, hD, hr', rest⟩ := h
  exact ⟨es, clock, since, seen, c0, hb.trans hb', F, hs, hD, hr.trans hr', rest⟩
/-- What a step of a range meets. -/
theorem MapD.met {D : DataW Value} {b' n' : Nat} (h : MapD D w b n f) {x y : Int} (wx : (Lit.int .i64 x).wf = true) (wy : (Lit.int .i64 y).wf = true) {u : Value} {p : DataW Value × List MemPlace} (hu : Rv u = some p) (hat : ∀ zd, D.atKey (kp x y) zd = p.1) : f x y = some u := by
  have hp : p.1 = .held u := by unfold Rv at hu; cases hu; rfl
  have h1 := h.2.2 x y wx wy
  cases hf : f x y with
  | none =>
    have e1 := (h1 .nil).symm.trans (hat .nil)
    rw [hf, hp] at e1
    cases e1
  | some v =>
    have e1 := (h1 .nil).symm.trans (hat .nil)
    rw [hf, hp] at e1
    cases e1
    rfl
end
end Go.Proofs.YtghefhmncpmflaaDoor
