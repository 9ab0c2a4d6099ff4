/-
  The calls of the law CacheKeeps, at its own state.
-/
import Derived.Test.YtghefhmncpmflaaDoorCb11
namespace Go.Proofs.YtghefhmncpmflaaDoor
open Go.RowKit Go.Rg

/-- The law's state at its loop's head. -/
def KSt (w0 : World) (bm bc data m : Nat) (w : World) : Prop :=
  ∃ (C : CSt) (f : Int → Int → Option Value), LI C m ∧ C.data = data ∧ CacheX (fun k => k = bm) w0 w bc C ∧ MapP w bm m f ∧ KeepP C f ∧ w0.heap.size ≤ bm
theorem KSt.ext {w0 w w' : World} {bm bc data m : Nat} (h : KSt w0 bm bc data m w) (hx : Ext w w') : KSt w0 bm bc data m w' := by
  obtain ⟨C, f, h1, h2, h3, h4, h5, h6⟩ := h
  exact ⟨C, f, h1, h2, (x_ext h3 hx).1, h4.of_block (hx.block h4.lt), h5, h6⟩
theorem KSt.ext0 {w0 w : World} {bm bc data m : Nat} (h : KSt w0 bm bc data m w) : Ext w0 w := by
  obtain ⟨C, f, h1, h2, h3, h4, h5, h6⟩ := h
  exact h3.2.1


/-- Behind Done, with so many columns struck from what is kept. -/
def DSt (w0 : World) (bm bc data m : Nat) (t : Int) (i : Nat) (w : World) : Prop :=
  ∃ (C : CSt) (f : Int → Int → Option Value), LI C m ∧ C.data = data ∧ CacheX (fun k => k = bm) w0 w bc C ∧ MapP w bm m (lessP f t i) ∧ KeepP C (lessP f t data) ∧ w0.heap.size ≤ bm
def BPost (w0 : World) (bm bc data m : Nat) (e : Ending) (w' : World) : Prop := (∃ b : Bool, e = .returned (.bool b)) ∧ KSt w0 bm bc data m w'
def DPost (w0 : World) (bm bc data m : Nat) (t : Int) (e : Ending) (w' : World) : Prop := (∃ b : Bool, e = .returned (.bool b)) ∧ DSt w0 bm bc data m t 0 w'
def NPost (w0 : World) (bm bc data m : Nat) (e : Ending) (w' : World) : Prop := (∃ b : Int, e = .returned (.int .i64 b)) ∧ KSt w0 bm bc data m w'
def TPost (w0 : World) (bm bc data m : Nat) (e : Ending) (w' : World) : Prop := (∃ (s : ByteArray) (b : Bool), e = .returned (.tuple #[.string s, .bool b])) ∧ KSt w0 bm bc data m w'
/-- Behind a Put that was taken. -/
def PSt (w0 : World) (bm bc data m : Nat) (t : Int) (k : Nat) (s : ByteArray) (w : World) : Prop :=
  ∃ (C : CSt) (f : Int → Int → Option Value), LI C (m + 1) ∧ C.data = data ∧ CacheX (fun k => k = bm) w0 w bc C ∧ MapP w bm m f ∧ KeepP C (fun i j => if i = t ∧ j = (k : Int) then some (.string s) else f i j) ∧ w0.heap.size ≤ bm
def PPost (w0 : World) (bm bc data m : Nat) (t : Int) (k : Nat) (s : ByteArray) (e : Ending) (w' : World) : Prop :=
  (e = .returned (.int .i64 0) ∧ PSt w0 bm bc data m t k s w') ∨ (e = .returned (.int .i64 10) ∧ KSt w0 bm bc data (m + 1) w')
section
variable {w0 w w' : World} {bm bc data m k i : Nat} {t : Int} {s : ByteArray}
theorem KSt.le (h : KSt w0 bm bc data m w) {n : Nat} (hn : m ≤ n) : KSt w0 bm bc data n w := by
  obtain ⟨C, f, h1, h2, h3, h4, h5, h6⟩ := h
  exact ⟨C, f, h1.le hn, h2, h3, h4.mono hn, h5, h6⟩
theorem k_fill (h : KSt w0 bm bc data m w) (hm : m ≤ 10000) (ht : 0 ≤ t ∧ t < 64) (hk : k < data) (hs : s.size = 64) :
    Calls Tryd.prog 27 #[.pointer (some ⟨bc, 0, none⟩), .int .i64 t, .int .i64 k, .string s] w (NPost w0 bm bc data (m + 1)) := by
  obtain ⟨C, f, h1, h2, h3, h4, h5, h6⟩ := h
  cases ha : atC C t with
  | some C' =>
    obtain ⟨g1, g2, _⟩ := atC_some h1 ha
    obtain ⟨g3, g4⟩ := h5.at h1 ha
    exact (g_fill h3 h1 hm ht (by rw [h2]; exact hk) hs ha).mono fun e w' ⟨e1, e2, e3⟩ => ⟨⟨0, e1⟩, fillC C' t k s, f, g1.fill t ht g2 k (by rw [g4, h2]; exact hk) s, (show C'.data = data by rw [g4, h2]), e2, (h4.of_block (e3 bm rfl)).mono (Nat.le_succ m), g3.fill, h6⟩
  | none =>
    exact (g_fill_full h3 h1 ht (by rw [h2]; exact hk) hs ha).mono fun e w' ⟨e1, e2, e3⟩ => ⟨⟨10, e1⟩, C, f, h1.le (Nat.le_succ m), h2, e2, (h4.of_block (e3 bm rfl)).mono (Nat.le_succ m), h5, h6⟩
theorem k_get (h : KSt w0 bm bc data m w) (ht : (Lit.int .i64 t).wf = true) (hk : k < data) :
    Calls Tryd.prog 30 #[.pointer (some ⟨bc, 0, none⟩), .int .i64 t, .int .i64 k] w (TPost w0 bm bc data (m + 1)) := by
  obtain ⟨C, f, h1, h2, h3, h4, h5, h6⟩ := h
  have hd : (getC C t k).data = C.data := by unfold getC; split <;> rfl
  exact (g_get h3 h1 ht (by rw [h2]; exact hk)).mono fun e w' ⟨e1, e2, e3⟩ => ⟨⟨_, _, e1⟩, getC C t k, f, (h1.get t k).le (Nat.le_succ m), by rw [hd, h2], e2, (h4.of_block (e3 bm rfl)).mono (Nat.le_succ m), h5.get, h6⟩
theorem k_drop (h : KSt w0 bm bc data m w) (ht : (Lit.int .i64 t).wf = true) :
    Calls Tryd.prog 31 #[.pointer (some ⟨bc, 0, none⟩), .int .i64 t] w (BPost w0 bm bc data (m + 1)) := by
  obtain ⟨C, f, h1, h2, h3, h4, h5, h6⟩ := h
  by_cases hE : ∃ E, C.rows t = some E ∧ E.dt = 0
  · obtain ⟨E, hE, hd⟩ := hE
    exact (g_drop h3 ht hE hd).mono fun e w' ⟨e1, e2, e3⟩ => ⟨⟨_, e1⟩, dropC C t, f, (h1.drop t).le (Nat.le_succ m), h2, e2, (h4.of_block (e3 bm rfl)).mono (Nat.le_succ m), h5.drop (fun F hF => by rw [hE] at hF; cases hF; exact hd), h6⟩
  · exact (g_drop_not h3 ht (fun E hE2 hd => hE ⟨E, hE2, hd⟩)).mono fun e w' ⟨e1, e2, e3⟩ => ⟨⟨_, e1⟩, C, f, h1.le (Nat.le_succ m), h2, e2, (h4.of_block (e3 bm rfl)).mono (Nat.le_succ m), h5, h6⟩
theorem k_done (h : KSt w0 bm bc data m w) (ht : (Lit.int .i64 t).wf = true) (hT : TabAt 1 Lib.deBruijn64tab w) :
    Calls Tryd.prog 28 #[.pointer (some ⟨bc, 0, none⟩), .int .i64 t] w (DPost w0 bm bc data (m + 1) t) := by
  obtain ⟨C, f, h1, h2, h3, h4, h5, h6⟩ := h
  cases hE : C.rows t with
  | some E =>
    exact (g_done h3 h1 ht hT hE).mono fun e w' ⟨e1, e2, e3⟩ => ⟨⟨_, e1⟩, doneC C t, f, (h1.done hE).le (Nat.le_succ m), h2, e2, by rw [lessP_zero]; exact (h4.of_block (e3 bm rfl)).mono (Nat.le_succ m), by rw [← h2]; exact h5.done hE, h6⟩
  | none =>
    exact (g_done_none h3 ht hE).mono fun e w' ⟨e1, e2, e3⟩ => ⟨⟨_, e1⟩, C, f, h1.le (Nat.le_succ m), h2, e2, by rw [lessP_zero]; exact (h4.of_block (e3 bm rfl)).mono (Nat.le_succ m), h5.less _, h6⟩
theorem DSt.step (h : DSt w0 bm bc data m t i w) (ht : (Lit.int .i64 t).wf = true) (hi : i ≤ 1000) :
    ∃ w', (Builtin.delete_ #[75, 61] 0 #[.map (some bm), .agg #[.int .i64 t, .int .i64 i]]).run Tryd.prog w = .ok (.tuple #[]) w' ∧ DSt w0 bm bc data m t (i + 1) w' := by
  obtain ⟨C, f, h1, h2, h3, h4, h5, h6⟩ := h
  obtain ⟨w', hrun, hm, hg⟩ := h4.delete (t := 75) (e := 9) Tryd.underlying75 ht (WalkArith.wf_i64 (by omega) : (Lit.int .i64 (i : Int)).wf = true) 0
  exact ⟨w', hrun, C, f, h1, h2, h3.other rfl h6 hg, by rw [← lessP_step]; exact hm, h5, h6⟩
theorem DSt.all (h : DSt w0 bm bc data m t data w) : KSt w0 bm bc data m w := by
  obtain ⟨C, f, h1, h2, h3, h4, h5, h6⟩ := h
  exact ⟨C, _, h1, h2, h3, h4, h5, h6⟩
theorem k_put (h : KSt w0 bm bc data m w) (hm : m ≤ 10000) (ht : 0 ≤ t ∧ t < 64) (hk : k < data) (hs : s.size = 64) :
    Calls Tryd.prog 26 #[.pointer (some ⟨bc, 0, none⟩), .int .i64 t, .int .i64 k, .string s] w (PPost w0 bm bc data m t k s) := by
  obtain ⟨C, f, h1, h2, h3, h4, h5, h6⟩ := h
  cases ha : atC C t with
  | some C' =>
    obtain ⟨g1, g2, _⟩ := atC_some h1 ha
    obtain ⟨g3, g4⟩ := h5.at h1 ha
    exact (g_put h3 h1 hm ht (by rw [h2]; exact hk) hs ha).mono fun e w' ⟨e1, e2, e3⟩ => .inl ⟨e1, putC C' t k s, f, g1.put t ht g2 k (by rw [g4, h2]; exact hk) s, (show C'.data = data by rw [g4, h2]), e2, h4.of_block (e3 bm rfl), g3.put (by rw [g4, h2]; exact hk), h6⟩
  | none =>
    exact (g_put_full h3 h1 ht (by rw [h2]; exact hk) hs ha).mono fun e w' ⟨e1, e2, e3⟩ => .inr ⟨e1, C, f, h1.le (Nat.le_succ m), h2, e2, (h4.of_block (e3 bm rfl)).mono (Nat.le_succ m), h5, h6⟩
theorem PSt.step (h : PSt w0 bm bc data m t k s w) (hm : m ≤ 10000) (ht : (Lit.int .i64 t).wf = true) (hk : (Lit.int .i64 (k : Int)).wf = true) :
    ∃ w', (Instr.mapUpdate 75 (.map (some bm)) (.agg #[.int .i64 t, .int .i64 k]) (.string s)).run Tryd.prog w = .ok () w' ∧ KSt w0 bm bc data (m + 1) w' := by
  obtain ⟨C, f, h1, h2, h3, h4, h5, h6⟩ := h
  obtain ⟨w', hrun, hmp, hg⟩ := h4.update (t := 75) (e := 9) Tryd.underlying75 (by unfold maxLen; omega) ht hk (.string s)
  exact ⟨w', hrun, C, _, h1, h2, h3.other rfl h6 hg, hmp, h5, h6⟩
end
end Go.Proofs.YtghefhmncpmflaaDoor
