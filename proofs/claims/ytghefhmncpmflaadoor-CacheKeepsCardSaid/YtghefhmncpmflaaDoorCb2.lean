/-
  The contract of slices.Concat at two rows of keys.
-/
import Derived.Test.YtghefhmncpmflaaDoorCb1
namespace Go.Proofs.YtghefhmncpmflaaDoor
open Go.RowKit Go.Rg

set_option maxRecDepth 100000 in
set_option maxHeartbeats 2000000 in
theorem concat_any (p d : List Int) (b : Nat) (vp vd : Value) (w : World) (hb : Blk w b 153 #[vp, vd]) (hp : Ints 3 w vp p) (hd : Ints 3 w vd d) (hl : p.length + d.length ≤ 1000) :
    Calls Tryd.prog 123 #[.slice (some ⟨b, 0, none⟩) 2 2] w (OPost w.heap.size (p ++ d) w) := by
  have HI := Lib.hid (info_parts info3)
  obtain ⟨bp, cp, rfl⟩ := Ints_slice hp
  obtain ⟨bd, cd, rfl⟩ := Ints_slice hd
  have HH := Lib.hid (And.intro hb (And.intro hp hd))
  have HL := Lib.hid hl
  have HIP := Lib.hid (And.intro hp hd)
  have HG := Lib.hid (grow_any (p.length + d.length) (by omega) w)
  clear hb hp hd
  have HLen := Lib.hid (And.intro (rfl : p.length = p.length) (rfl : d.length = d.length))
  have hnp0 := Nat.zero_le p.length
  generalize hnp : p.length = np at HG HH HL hl HIP ⊢
  generalize hnd : d.length = nd at HG HH HL hl HIP ⊢
  have HNN := Lib.hid (And.intro hnp hnd)
  clear hnp hnd HLen
  have c0 := HH.out.1.cells 0
  have c1 := HH.out.1.cells 1
  simp at c0 c1
  go_enter Tryd.func123, Tryd.ntmps123
  go_wp2_with fail
  go_loopw [3, 11] (fun s i wr => w = wr ∧ ((i = .int .i64 0 ∧ s = .int .i64 0) ∨ (i = .int .i64 1 ∧ s = .int .i64 np) ∨ (i = .int .i64 2 ∧ s = .int .i64 ((np + nd : Nat) : Int)))) (fun _ i _ => 2 - (intOf i).toNat)
  case atStart => exact ⟨rfl, .inl ⟨rfl, rfl⟩⟩
  case round =>
    have hnp : (0 : Int) ≤ (np : Int) := by omega
    have hnd : (0 : Int) ≤ (nd : Int) := by omega
    have hnl : (np : Int) + (nd : Int) ≤ 1000 := by omega
    obtain ⟨rfl, ⟨rfl, rfl⟩ | ⟨rfl, rfl⟩ | ⟨rfl, rfl⟩⟩ := hrel
    · go_wp2_with fail
      exact ⟨⟨trivial, .inr (.inl ⟨rfl, rfl⟩)⟩, by simp [intOf]⟩
    · go_wp2_with fail
      exact ⟨⟨trivial, .inr (.inr ⟨rfl, by rw [Int.natCast_add]⟩)⟩, by simp [intOf]⟩
    · go_wp2_with fail
      refine HG.out.mono ?_
      rintro e w2 ⟨v0, rfl, ho, hx⟩
      have HO := Lib.hid (And.intro ho hx)
      obtain ⟨i0, hi1, hi2, hi3, hi4⟩ := HI.out
      have HI2 := Lib.hid (And.intro hi1 (And.intro hi2 (And.intro hi3 hi4)))
      clear ho hx hi1 hi2 hi3 hi4
      go_wp2_with fail
      go_loopw [6, 27] (fun v i wx2 => Ext w wx2 ∧ ((i = .int .i64 0 ∧ OwnI w.heap.size 3 wx2 v []) ∨ (i = .int .i64 1 ∧ OwnI w.heap.size 3 wx2 v p) ∨ (i = .int .i64 2 ∧ OwnI w.heap.size 3 wx2 v (p ++ d)))) (fun _ i _ => 2 - (intOf i).toNat)
      case atStart => exact ⟨HO.out.2, .inl ⟨rfl, HO.out.1⟩⟩
      case round =>
        obtain ⟨hx, ⟨rfl, ho⟩ | ⟨rfl, ho⟩ | ⟨rfl, ho⟩⟩ := hrel
        · have HO := Lib.hid (And.intro ho hx)
          obtain ⟨vb, vc, hv⟩ := Ints_slice ho.ints
          subst hv
          clear ho hx
          have B1 := HH.out.1.ext HO.out.2
          have c0 := B1.cells 0
          simp at c0
          have hle : ([] : List Int).length + p.length ≤ 1000000 := by have h1 := HNN.out.1; have h2 := HNN.out.2; (try simp only [List.length_nil]); omega
          have HLe := Lib.hid hle
          clear hle
          go_wp2_with (at_builtin; refine wpList_appInts rfl 153 _ _ rfl Tryd.underlying153 HI2.out.1 HI2.out.2.1 HI2.out.2.2.1 HI2.out.2.2.2 (B := w.heap.size) (xs := []) (ys := p) rfl rfl HO.out.1 (Ints.ext HIP.out.1 HO.out.2) HLe.out HO.out.2.size ?_; intro v' w4 ho4 hg4; have hx4 := HO.out.2.grown hg4 HO.out.2.size (fun k hk => HO.out.1.fresh hk); have HO4 := Lib.hid (And.intro ho4 hx4); clear ho4 hg4 hx4)
          exact ⟨⟨HO4.out.2, .inr (.inl ⟨rfl, HO4.out.1⟩)⟩, by simp [intOf]⟩
        · have HO := Lib.hid (And.intro ho hx)
          obtain ⟨vb, vc, hv⟩ := Ints_slice ho.ints
          subst hv
          clear ho hx
          have B1 := HH.out.1.ext HO.out.2
          have c1 := B1.cells 1
          simp at c1
          have hle : p.length + d.length ≤ 1000000 := by have h1 := HNN.out.1; have h2 := HNN.out.2; (try simp only [List.length_nil]); omega
          have HLe := Lib.hid hle
          clear hle
          go_wp2_with (at_builtin; refine wpList_appInts rfl 153 _ _ rfl Tryd.underlying153 HI2.out.1 HI2.out.2.1 HI2.out.2.2.1 HI2.out.2.2.2 (B := w.heap.size) (xs := p) (ys := d) rfl rfl HO.out.1 (Ints.ext HIP.out.2 HO.out.2) HLe.out HO.out.2.size ?_; intro v' w4 ho4 hg4; have hx4 := HO.out.2.grown hg4 HO.out.2.size (fun k hk => HO.out.1.fresh hk); have HO4 := Lib.hid (And.intro ho4 hx4); clear ho4 hg4 hx4)
          exact ⟨⟨HO4.out.2, .inr (.inr ⟨rfl, HO4.out.1⟩)⟩, by simp [intOf]⟩
        · have HO := Lib.hid (And.intro ho hx)
          clear ho hx
          go_wp2_with fail
          go_ret
          exact ⟨_, rfl, HO.out.1, HO.out.2⟩
end Go.Proofs.YtghefhmncpmflaaDoor
