/-
  A cache's open, where there is room: one contract for both ways; what stays true of the keys.
-/
import Derived.Test.YtghefhmncpmflaaDoorCa12
namespace Go.Proofs.YtghefhmncpmflaaDoor
open Go.RowKit Go.Rg

theorem touch_perm (limit : Nat) (p d : List Int) (k : Int) (hn : (p ++ d).Nodup) (hk : k ∈ p ++ d) : ((touchL limit p d k).1 ++ (touchL limit p d k).2).Perm (p ++ d) := by
  have base : (p.erase k ++ (d.erase k ++ [k])).Perm (p ++ d) := by
    rw [List.nodup_append] at hn
    obtain ⟨_, _, hdis⟩ := hn
    rcases List.mem_append.1 hk with hp | hd
    · have hnd : k ∉ d := fun h => hdis k hp k h rfl
      rw [List.erase_of_not_mem hnd, ← List.append_assoc]
      refine List.perm_append_comm.trans ?_
      rw [List.singleton_append, ← List.cons_append]
      exact (List.perm_cons_erase hp).symm.append_right d
    · have hnp : k ∉ p := fun h => hdis k h k hd rfl
      rw [List.erase_of_not_mem hnp]
      refine List.Perm.append_left p ?_
      refine List.perm_append_comm.trans ?_
      rw [List.singleton_append]
      exact (List.perm_cons_erase hd).symm
  unfold touchL
  split
  · refine List.Perm.trans ?_ base
    generalize d.erase k ++ [k] = q at *
    cases q with
    | nil => simp at *
    | cons x q => simp
  · exact base

/-- What is true of the keys of a cache. -/
structure CI (C : CSt) : Prop where
  nd : (C.plain ++ C.dear).Nodup
  link : ∀ j, (C.rows j).isSome = true ↔ j ∈ C.plain ++ C.dear
theorem CI.in {C : CSt} (h : CI C) {k : Int} {E : Ent} (hk : C.rows k = some E) : (C.plain.contains k || C.dear.contains k) = true := by
  have := (h.link k).1 (by rw [hk]; rfl)
  simpa using this
theorem CI.out {C : CSt} (h : CI C) {k : Int} (hk : C.rows k = none) : C.plain.contains k = false ∧ C.dear.contains k = false := by
  have : ¬ k ∈ C.plain ++ C.dear := fun hh => by have := (h.link k).2 hh; rw [hk] at this; cases this
  simpa using this

def entOf (C : CSt) (k : Int) : Ent := (C.rows k).getD E0
def openC (C : CSt) (k : Int) : CSt :=
  { C with plain := if (C.rows k).isSome then (touchL C.limit C.plain C.dear k).1 else C.plain ++ [k], dear := if (C.rows k).isSome then (touchL C.limit C.plain C.dear k).2 else C.dear,
           rows := fun j => if j = k then some (entOf C k) else C.rows j, rn := C.rn + 1 }
theorem openC_row (C : CSt) (k : Int) : (openC C k).rows k = some (entOf C k) := by simp [openC]
theorem openC_inv (C : CSt) (k : Int) (h : CI C) : CI (openC C k) ∧ (openC C k).plain.length + (openC C k).dear.length ≤ C.plain.length + C.dear.length + 1 := by
  cases hk : C.rows k with
  | none =>
    have hnot : k ∉ C.plain ++ C.dear := fun hh => by have := (h.link k).2 hh; rw [hk] at this; cases this
    have hp : ((C.plain ++ [k]) ++ C.dear).Perm (k :: (C.plain ++ C.dear)) := by
      rw [List.append_assoc, List.singleton_append]; exact List.perm_middle
    refine ⟨⟨?_, fun j => ?_⟩, ?_⟩
    · simp only [openC, hk, Option.isSome_none, Bool.false_eq_true, if_false]
      exact hp.nodup_iff.2 (List.nodup_cons.2 ⟨hnot, h.nd⟩)
    · simp only [openC, hk, Option.isSome_none, Bool.false_eq_true, if_false]
      rw [hp.mem_iff, List.mem_cons]
      by_cases e : j = k
      · simp [e]
      · rw [if_neg e]; simp [e, h.link j]
    · simp [openC, hk]; omega
  | some E =>
    have hin : k ∈ C.plain ++ C.dear := (h.link k).1 (by rw [hk]; rfl)
    have hp := touch_perm C.limit C.plain C.dear k h.nd hin
    refine ⟨⟨?_, fun j => ?_⟩, ?_⟩
    · simp only [openC, hk, Option.isSome_some, if_true]
      exact hp.nodup_iff.2 h.nd
    · simp only [openC, hk, Option.isSome_some, if_true]
      rw [hp.mem_iff, ← h.link j]
      by_cases e : j = k
      · subst e; simp [hk]
      · rw [if_neg e]
    · have := hp.length_eq
      simp only [List.length_append] at this
      simp only [openC, hk, Option.isSome_some, if_true]
      omega

def OpenPost (k : Int) (bc : Nat) (C : CSt) (S : Nat → Prop) (bt br : Nat) (w : World) (e : Ending) (w' : World) : Prop :=
  ∃ ev' g1v' g2v' ST', e = .returned (.tuple #[.pointer (some ⟨ev' k, 0, none⟩), .int .i64 0]) ∧ CP w' bc (openC C k) (Grow S w w') bt br ev' g1v' g2v' ST' ∧ Chg S w w'

theorem CP.rn_le {w : World} {bc : Nat} {C : CSt} {S : Nat → Prop} {bt br : Nat} {ev g1v g2v : Int → Nat} {ST : Nat → Prop} (h : CP w bc C S bt br ev g1v g2v ST) {n : Nat} (hn : C.rn ≤ n) : CP w bc { C with rn := n } S bt br ev g1v g2v ST :=
  { h with map := by obtain ⟨D, h1, h2⟩ := h.map; exact ⟨D, h1.mono hn, h2⟩ }

theorem open_any (k : Int) (c : Nat) (s : ByteArray) (hk0 : 0 ≤ k) (hk1 : k < 64) (hs : s.size = 64) (bc : Nat) (C : CSt) (S : Nat → Prop) (bt br : Nat) (ev g1v g2v : Int → Nat) (ST : Nat → Prop) (w : World) (h : CP w bc C S bt br ev g1v g2v ST)
    (hc : c < C.data) (hd : C.data ≤ 30) (hi : CI C) (hbig : C.plain.length + C.dear.length ≤ 900) (hroom : C.rows k = none → C.plain.length + C.dear.length < C.most) (hrn : C.rn < maxLen) :
    Calls Tryd.prog 60 #[.pointer (some ⟨bc, 0, none⟩), .int .i64 k, .int .i64 c, .string s] w (OpenPost k bc C S bt br w) := by
  cases hE : C.rows k with
  | none =>
    refine (open_new k c s hk0 hk1 hs bc C S bt br ev g1v g2v ST w h hc hd hbig hE (hi.out hE).1 (hi.out hE).2 (hroom hE) hrn).mono ?_
    rintro e w' ⟨ev', g1v', g2v', ST', he, hcp, hch⟩
    have : openC C k = { C with plain := C.plain ++ [k], rows := fun j => if j = k then some E0 else C.rows j, rn := C.rn + 1 } := by
      simp only [openC, entOf, hE, Option.isSome_none, Bool.false_eq_true, if_false, Option.getD_none]
    exact ⟨ev', g1v', g2v', ST', he, by rw [this]; exact hcp, hch⟩
  | some E =>
    refine (open_there k c s hk0 hk1 hs bc C S bt br ev g1v g2v ST w h hc hd hbig E hE (hi.in hE)).mono ?_
    rintro e w' ⟨he, hcp, hch⟩
    have hrow : (fun j => if j = k then some (entOf C k) else C.rows j) = C.rows := by
      funext j
      by_cases e : j = k
      · subst e; simp [entOf, hE]
      · rw [if_neg e]
    have : openC C k = { C with plain := (touchL C.limit C.plain C.dear k).1, dear := (touchL C.limit C.plain C.dear k).2, rn := C.rn + 1 } := by
      simp only [openC, hE, Option.isSome_some, if_true]
      rw [hrow]
    exact ⟨ev, g1v, g2v, _, he, by rw [this]; exact hcp.rn_le (Nat.le_succ _), hch⟩
end Go.Proofs.YtghefhmncpmflaaDoor
