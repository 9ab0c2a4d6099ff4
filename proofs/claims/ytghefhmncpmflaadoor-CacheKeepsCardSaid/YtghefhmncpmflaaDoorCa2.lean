/-
  Contracts of the turn's small functions: rows of keys.
-/
import Derived.Test.YtghefhmncpmflaaDoorCa1
import Derived.Test.YtghefhmncpmflaaDoorShelf
import Derived.Test.YtghefhmncpmflaaDoorChecked
namespace Go.Proofs.YtghefhmncpmflaaDoor
open Go.RowKit Go.Rg

theorem idxFrom_eq (x : Int) : ∀ (zs : List Int) (i : Nat), Lib.idxFrom zs x i = if x ∈ zs then ((i + zs.idxOf x : Nat) : Int) else -1
  | [], i => by simp [Lib.idxFrom]
  | z :: zs, i => by
    unfold Lib.idxFrom
    by_cases h : z = x
    · subst h; simp
    · have h2 : ¬ x = z := fun e => h e.symm
      rw [if_neg (by simpa using h), idxFrom_eq x zs (i + 1)]
      simp only [List.mem_cons, h2, false_or]
      split
      · rw [List.idxOf_cons, show (z == x) = false from by simpa using h]; simp only [cond_false]; congr 1; omega
      · rfl
theorem erase_idx (x : Int) : ∀ (zs : List Int), zs.erase x = zs.eraseIdx (zs.idxOf x)
  | [] => rfl
  | z :: zs => by
    rw [List.idxOf_cons]
    by_cases h : z = x
    · subst h; simp
    · rw [show (z == x) = false from by simpa using h, List.erase_cons_tail (by simpa using h), erase_idx x zs]
      rfl
theorem idxOf_eq (zs : List Int) (x : Int) : Lib.idxOf zs x = if x ∈ zs then ((zs.idxOf x : Nat) : Int) else -1 := by
  unfold Lib.idxOf; rw [idxFrom_eq]; simp

theorem index_any (v : Value) (xs : List Int) (key : Int) (w : World) (h : Ints 3 w v xs) : Calls Tryd.prog 105 #[v, .int .i64 key] w fun e w' => e = .returned (.int .i64 (Lib.idxOf xs key)) ∧ w' = w := by
  rcases h.form with ⟨rfl, rfl⟩ | ⟨g, cap, rfl, _, hc, hm, hcell, _⟩
  · exact AnyG.slices_Index_int_empty Tryd.l29 none 0 key w
  · have := AnyG.slices_Index_int Tryd.l29 g 0 xs.length cap xs key w (Nat.le_refl _) (by unfold maxLen at hm; omega) (fun j hj => by rw [Nat.zero_add]; exact hcell j hj)
    rw [List.take_of_length_le (Nat.le_refl _)] at this
    exact this
theorem contains_any (v : Value) (xs : List Int) (key : Int) (w : World) (h : Ints 3 w v xs) : Calls Tryd.prog 104 #[v, .int .i64 key] w fun e w' => e = .returned (.bool (xs.contains key)) ∧ w' = w := by
  rcases h.form with ⟨rfl, rfl⟩ | ⟨g, cap, rfl, _, hc, hm, hcell, _⟩
  · exact AnyG.slices_Contains_int_empty Tryd.l31 none 0 key w
  · have := AnyG.slices_Contains_int Tryd.l31 g 0 xs.length cap xs key w (Nat.le_refl _) (by unfold maxLen at hm; omega) (fun j hj => by rw [Nat.zero_add]; exact hcell j hj)
    rw [List.take_of_length_le (Nat.le_refl _)] at this
    exact this

/-- What of a row is left, its own block written. -/
theorem Ints_cut {w : World} {g n cap : Nat} {xs ys : List Int} (h : Ints 3 w (.slice (some ⟨g, 0, none⟩) n cap) xs) (hys : ys.length = xs.length) (m : Nat) (hm : m ≤ xs.length) (q : Nat) :
    Ints 3 ((w.drewN q).setCells g 0 (ys.map (Value.int .i64))) (.slice (some ⟨g, 0, none⟩) m cap) (ys.take m) := by
  obtain ⟨h1, h2⟩ := h
  rcases h2 with ⟨hv, _⟩ | ⟨g', cap', cur, hv, hg, hh, hc, hmx, hsz, hx⟩
  · cases hv
  · simp only [Value.slice.injEq, Option.some.injEq, Addr.mk.injEq, and_true] at hv
    obtain ⟨rfl, rfl, rfl⟩ := hv
    have hl : (ys.take m).length = m := by simp; omega
    obtain ⟨cs', c1, c2, c3⟩ := Blk.setCells (ys.map (Value.int .i64)) 0 (w.drewN q) cur (show Blk (w.drewN q) g 3 cur from hh)
    refine ⟨by simp, .inr ⟨g, cap, cs', by rw [hl], by omega, c1, by rw [hl]; simp at h1; omega, hmx, by rw [c2]; exact hsz, ?_⟩⟩
    refine List.ext_getElem? (fun j => ?_)
    rw [hl, Nat.mul_one, List.getElem?_take, Array.getElem?_toList, c3 j, List.getElem?_map, List.getElem?_map, List.getElem?_take]
    simp at h1
    by_cases hj : j < m
    · rw [if_pos hj, if_pos hj, if_pos ⟨Nat.zero_le _, by simp; omega, by omega⟩]; simp
    · rw [if_neg hj, if_neg hj]; rfl

theorem delete_any (g cap i : Nat) (xs : List Int) (w : World) (h : Ints 3 w (.slice (some ⟨g, 0, none⟩) xs.length cap) xs) (hi : i < xs.length) :
    Calls Tryd.prog 106 #[.slice (some ⟨g, 0, none⟩) xs.length cap, .int .i64 i, .int .i64 (i + 1 : Nat)] w fun e w' => e = .returned (.slice (some ⟨g, 0, none⟩) (xs.length - 1) cap) ∧
      Ints 3 w' (.slice (some ⟨g, 0, none⟩) (xs.length - 1) cap) (xs.eraseIdx i) ∧ Chg (fun k => k = g) w w' := by
  have h' := h
  rcases h.form with ⟨hv, _⟩ | ⟨g', cap', hv, _, hc, hm, hcell, hfr⟩
  · cases hv
  · simp only [Value.slice.injEq, Option.some.injEq, Addr.mk.injEq, and_true, true_and] at hv
    obtain ⟨rfl, rfl⟩ := hv
    have := AnyG.slices_Delete_int_cells Tryd.l45 g 0 xs.length cap i (i + 1) xs w (Nat.le_refl _) hc (by unfold maxLen at hm; omega) (by omega) (by omega) (fun j hj => by rw [Nat.zero_add]; exact hcell j hj) (fun j _ => hfr _)
    rw [List.take_of_length_le (Nat.le_refl _), show i + 1 - i = 1 by omega] at this
    refine this.mono ?_
    rintro e w' ⟨rfl, q, rfl⟩
    have hl : (xs.take i ++ xs.drop (i + 1) ++ List.replicate 1 (0 : Int)).length = xs.length := by simp; omega
    have hr := Ints_cut h' hl (xs.length - 1) (by omega) q
    have ht : (xs.take i ++ xs.drop (i + 1) ++ List.replicate 1 (0 : Int)).take (xs.length - 1) = xs.eraseIdx i := by
      rw [List.take_append_of_le_length (by simp; omega), List.take_of_length_le (by simp; omega), List.eraseIdx_eq_take_drop_succ]
    rw [ht] at hr
    exact ⟨rfl, hr, (Chg.of_ext ((Ext.refl w).drewN q)).setCells (S := fun k => k = g) (p := g) (fun _ => rfl) _ _⟩

/-- A row without a key. -/
theorem out_any (v : Value) (xs : List Int) (key : Int) (w : World) (h : Ints 3 w v xs) : Calls Tryd.prog 92 #[v, .int .i64 key] w fun e w' =>
    ∃ v', e = .returned (.tuple #[v', .bool (xs.contains key)]) ∧ Ints 3 w' v' (xs.erase key) ∧ v'.ownBlock = v.ownBlock ∧ Chg (fun k => v.ownBlock = some k) w w' := by
  have HI := Lib.hid (index_any v xs key w h)
  have HD := Lib.hid delete_any
  have hidx := idxOf_eq xs key
  by_cases hm : key ∈ xs
  · have hlt : xs.idxOf key < xs.length := List.idxOf_lt_length_of_mem hm
    rw [if_pos hm] at hidx
    have hpos : decide (((xs.idxOf key : Nat) : Int) < 0) = false := by simp
    have he : xs.erase key = xs.eraseIdx (xs.idxOf key) := erase_idx key xs
    have hcon : xs.contains key = true := by simpa using hm
    rcases h.form with ⟨_, h0⟩ | ⟨g, cap, rfl, hg, hc, hmx, _⟩
    · rw [h0] at hm; cases hm
    rw [hidx] at HI
    have HE := Lib.hid (And.intro he hcon)
    have HH := Lib.hid h
    clear hidx he hcon hm h
    have hbnd : xs.length ≤ 9223372036854775806 ∨ True := .inr trivial
    clear hbnd
    have hmx2 : xs.length ≤ 9223372036854775807 := by unfold maxLen at hmx; omega
    have HDD := Lib.hid (HD.out g cap (xs.idxOf key) xs w HH.out hlt)
    have hcast : IntKind.i64.wrap (((xs.idxOf key : Nat) : Int) + 1) = ((xs.idxOf key + 1 : Nat) : Int) := by
      rw [IntWalk.i64_in _ (by omega)]; simp
    generalize xs.idxOf key = i at *
    go_enter Tryd.func92, Tryd.ntmps92
    go_wp2_with fail
    refine HI.out.mono ?_
    rintro e w1 ⟨rfl, rfl⟩
    go_wp2_with fail
    refine HDD.out.mono ?_
    rintro e w2 ⟨rfl, hr, hch⟩
    have HR := Lib.hid (And.intro hr hch)
    clear hr hch
    go_wp2_with fail
    exact bodyPost_ret (v := .tuple #[.slice (some ⟨g, 0, none⟩) (xs.length - 1) cap, .bool true]) (by simp [results, Tryd.results92, go_sem]) rfl ⟨.slice (some ⟨g, 0, none⟩) (xs.length - 1) cap, by rw [HE.out.2], by rw [HE.out.1]; exact HR.out.1, rfl, HR.out.2.mono (fun k _ hk => by rw [hk]; rfl)⟩
  · rw [if_neg hm] at hidx
    have hcon : xs.contains key = false := by simpa using hm
    have he : xs.erase key = xs := List.erase_of_not_mem hm
    rw [hidx] at HI
    have HE := Lib.hid (And.intro he hcon)
    have HH := Lib.hid h
    clear hidx he hcon hm h HD
    go_enter Tryd.func92, Tryd.ntmps92
    go_wp2_with fail
    refine HI.out.mono ?_
    rintro e w1 ⟨rfl, rfl⟩
    go_wp2_with fail
    exact bodyPost_ret (v := .tuple #[v, .bool false]) (by simp [results, Tryd.results92, go_sem]) rfl ⟨v, by rw [HE.out.2], by rw [HE.out.1]; exact HH.out, rfl, Chg.refl _⟩
end Go.Proofs.YtghefhmncpmflaaDoor
