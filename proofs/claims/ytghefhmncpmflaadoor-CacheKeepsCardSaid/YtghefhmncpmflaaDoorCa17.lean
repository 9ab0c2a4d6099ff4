/-
  The contract of the law's sector.
-/
import Derived.Test.YtghefhmncpmflaaDoorCa16
import Derived.Laws.IdiomStrings
namespace Go.Proofs.YtghefhmncpmflaaDoor
open Go.RowKit Go.Rg

def secB (d : UInt8) (n : Nat) : ByteArray := ⟨(d :: List.replicate n 0).toArray⟩
theorem secB_size (d : UInt8) (n : Nat) : (secB d n).size = n + 1 := by simp [secB, ByteArray.size]
theorem info5 : (Tryd.prog.info? 5).map (fun i => (i.zero, i.size, i.bytes)) = some (some (.int .u8 0), 1, 1) := by kernel_rfl
def zb (n : Nat) : Array Value := madeCells (Value.int .u8 0).cells (n * 1)
theorem zb_get (n : Nat) {j : Nat} (hj : j < n) : (zb n)[j]? = some (.int .u8 0) := by simp [zb, madeCells, hj, Value.cells, Nat.mod_one]
theorem run_make114 (n : Nat) (hn : n ≤ 100) (w : World) : (Instr.makeSlice 114 (.int .i64 n) (.int .i64 n)).run Tryd.prog w = .ok (.slice (some ⟨w.heap.size, 0, none⟩) n n) (w.alloc (.cells (zb n) 5)) := by
  obtain ⟨i, h1, h2, h3, h4⟩ := info_parts info5
  have := run_makeSlice (P := Tryd.prog) (w := w) 114 5 i _ Tryd.underlying114 h1 h2 .i64 .i64 n n (by omega) (by omega) (by rw [h3]; simp; omega) (by rw [h4]; omega) (by omega)
  rw [h3] at this
  simp only [Int.toNat_natCast] at this
  exact this
theorem conv_one (d : UInt8) (b c : Nat) (w : World) (h : Blk w b 5 #[.int .u8 (d.toNat : Int)]) : (convert 114 9 (.slice (some ⟨b, 0, none⟩) 1 c)).run Tryd.prog w = .ok (.string ⟨#[d]⟩) w :=
  run_convert_bytes_back w 114 9 5 ⟨b, 0, none⟩ c [d] Tryd.underlying114 Tryd.underlying5 Tryd.underlying9 (fun j hj => by
    have h0 : j = 0 := by simpa using hj
    subst h0
    rw [Addr.add_mid, Nat.zero_add, h.cells 0]; rfl)
theorem conv_zb (n b c : Nat) (w : World) (h : Blk w b 5 (zb n)) : (convert 114 9 (.slice (some ⟨b, 0, none⟩) n c)).run Tryd.prog w = .ok (.string ⟨(List.replicate n 0).toArray⟩) w := by
  have := run_convert_bytes_back (P := Tryd.prog) w 114 9 5 ⟨b, 0, none⟩ c (List.replicate n 0) Tryd.underlying114 Tryd.underlying5 Tryd.underlying9 (fun j hj => by
    rw [List.length_replicate] at hj
    rw [Addr.add_mid, Nat.zero_add, h.cells j, zb_get n hj]; simp)
  rw [List.length_replicate] at this
  exact this

set_option maxRecDepth 100000 in
set_option maxHeartbeats 1000000 in
theorem sector_false (d : UInt8) (w : World) : Calls Tryd.prog 25 #[.int .u8 (d.toNat : Int), .bool false] w fun e w' => e = .returned (.string (secB d 63)) ∧ Ext w w' := by
  have hmk : ∀ w, (Instr.makeSlice 114 (.int .i64 63) (.int .i64 63)).run Tryd.prog w = .ok (.slice (some ⟨w.heap.size, 0, none⟩) 63 63) (w.alloc (.cells (zb 63) 5)) := run_make114 63 (by decide)
  have HZ := Lib.hid (show (⟨#[d]⟩ : ByteArray) ++ ⟨(List.replicate 63 0).toArray⟩ = secB d 63 from by apply ByteArray.ext; simp [secB, ByteArray.data_append])
  generalize hzz : zb 63 = zs at *
  have HB := Lib.hid (fun (b : Nat) (w : World) (h : Blk w b 5 zs) => conv_zb 63 b 63 w (by rw [hzz]; exact h))
  clear hzz
  have hzl : (⟨(List.replicate 63 0).toArray⟩ : ByteArray).size ≤ 100 := by simp [ByteArray.size]
  generalize (⟨(List.replicate 63 0).toArray⟩ : ByteArray) = zt at *
  generalize secB d 63 = rs at *
  go_enter Tryd.func25, Tryd.ntmps25
  go_upto_region 4 with (fail)
  refine Seq.drawn (k := 6) (R := Ext) (by kernel_rfl) (by decide) (by kernel_rfl) (fun _ _ _ => Ext.trans) (fun _ _ h => h.size) Ext.refl (At.start ?_)
  (refine At.det ?_ (fun val w1 hR _ K hK => ?_) ?_; rotate_left; (simp only [Act.put, List.setIfInBounds_toArray, List.set_cons_zero, List.set_cons_succ] at hK; go_simp; exact hK _ (Ext.refl _)); simp only [Act.put, List.setIfInBounds_toArray, List.set_cons_zero, List.set_cons_succ])
  (refine At.new (NewSl 0 5 1 #[.int .u8 (d.toNat : Int)]) NewSl.ext (fun val w1 hR hF K hK => ?_) ?_; (simp only [Act.put, List.setIfInBounds_toArray, List.set_cons_zero, List.set_cons_succ] at hK; go_simp; exact hK _ _ ((Ext.refl _).alloc _) ⟨_, rfl, Nat.le_refl _, by simp⟩ ⟨_, rfl, Nat.zero_le _, Blk.new _ _ _⟩); simp only [Act.put, List.setIfInBounds_toArray, List.set_cons_zero, List.set_cons_succ])
  (refine At.det (.string ⟨#[d]⟩) (fun val w1 hR hF K hK => ?_) ?_; (simp only [Act.put, List.setIfInBounds_toArray, List.set_cons_zero, List.set_cons_succ] at hK; simp only [Nat.reduceAdd] at hK hF ⊢; have hF2 := hF.2 (by kernel_rfl); clear hF; refine Exists.elim hF2 (fun b3 hb => ?_); have hv := hb.1; have hB3 := hb.2.2; clear hF2; simp only [hv] at hK ⊢; have hcv := conv_one d b3 1 w1 hB3; go_simp; exact hK _ (Ext.refl _)); simp only [Act.put, List.setIfInBounds_toArray, List.set_cons_zero, List.set_cons_succ])
  (refine At.det ?_ (fun val w1 hR _ K hK => ?_) ?_; rotate_left; (simp only [Act.put, List.setIfInBounds_toArray, List.set_cons_zero, List.set_cons_succ] at hK; go_simp; exact hK _ (Ext.refl _)); simp only [Act.put, List.setIfInBounds_toArray, List.set_cons_zero, List.set_cons_succ])
  (refine At.new (NewSl 0 5 63 zs) NewSl.ext (fun val w1 hR hF K hK => ?_) ?_; (simp only [Act.put, List.setIfInBounds_toArray, List.set_cons_zero, List.set_cons_succ] at hK; go_simp; exact hK _ _ ((Ext.refl _).alloc _) ⟨_, rfl, Nat.le_refl _, by simp⟩ ⟨_, rfl, Nat.zero_le _, Blk.new _ _ _⟩); simp only [Act.put, List.setIfInBounds_toArray, List.set_cons_zero, List.set_cons_succ])
  (refine At.det (.string zt) (fun val w1 hR hF K hK => ?_) ?_; (simp only [Act.put, List.setIfInBounds_toArray, List.set_cons_zero, List.set_cons_succ] at hK; simp only [Nat.reduceAdd] at hK hF ⊢; have hF2 := hF.2 (by kernel_rfl); clear hF; refine Exists.elim hF2 (fun b3 hb => ?_); have hv := hb.1; have hB3 := hb.2.2; clear hF2; simp only [hv] at hK ⊢; have hcv := HB.out b3 w1 hB3; go_simp; exact hK _ (Ext.refl _)); simp only [Act.put, List.setIfInBounds_toArray, List.set_cons_zero, List.set_cons_succ])
  refine At.last rfl (fun val w1 hR hF hN => ?_)
  have hx := hR.of_drew
  clear hR hF hN
  go_wp2
  go_ret
  exact ⟨by rw [← HZ.out]; rfl, hx⟩

set_option maxRecDepth 100000 in
set_option maxHeartbeats 1000000 in
theorem sector_true (d : UInt8) (w : World) : Calls Tryd.prog 25 #[.int .u8 (d.toNat : Int), .bool true] w fun e w' => e = .returned (.string (secB d 62)) ∧ Ext w w' := by
  have hmk : ∀ w, (Instr.makeSlice 114 (.int .i64 62) (.int .i64 62)).run Tryd.prog w = .ok (.slice (some ⟨w.heap.size, 0, none⟩) 62 62) (w.alloc (.cells (zb 62) 5)) := run_make114 62 (by decide)
  have HZ := Lib.hid (show (⟨#[d]⟩ : ByteArray) ++ ⟨(List.replicate 62 0).toArray⟩ = secB d 62 from by apply ByteArray.ext; simp [secB, ByteArray.data_append])
  generalize hzz : zb 62 = zs at *
  have HB := Lib.hid (fun (b : Nat) (w : World) (h : Blk w b 5 zs) => conv_zb 62 b 62 w (by rw [hzz]; exact h))
  clear hzz
  have hzl : (⟨(List.replicate 62 0).toArray⟩ : ByteArray).size ≤ 100 := by simp [ByteArray.size]
  generalize (⟨(List.replicate 62 0).toArray⟩ : ByteArray) = zt at *
  generalize secB d 62 = rs at *
  go_enter Tryd.func25, Tryd.ntmps25
  go_upto_region 4 with (fail)
  refine Seq.drawn (k := 6) (R := Ext) (by kernel_rfl) (by decide) (by kernel_rfl) (fun _ _ _ => Ext.trans) (fun _ _ h => h.size) Ext.refl (At.start ?_)
  (refine At.det ?_ (fun val w1 hR _ K hK => ?_) ?_; rotate_left; (simp only [Act.put, List.setIfInBounds_toArray, List.set_cons_zero, List.set_cons_succ] at hK; go_simp; exact hK _ (Ext.refl _)); simp only [Act.put, List.setIfInBounds_toArray, List.set_cons_zero, List.set_cons_succ])
  (refine At.new (NewSl 0 5 1 #[.int .u8 (d.toNat : Int)]) NewSl.ext (fun val w1 hR hF K hK => ?_) ?_; (simp only [Act.put, List.setIfInBounds_toArray, List.set_cons_zero, List.set_cons_succ] at hK; go_simp; exact hK _ _ ((Ext.refl _).alloc _) ⟨_, rfl, Nat.le_refl _, by simp⟩ ⟨_, rfl, Nat.zero_le _, Blk.new _ _ _⟩); simp only [Act.put, List.setIfInBounds_toArray, List.set_cons_zero, List.set_cons_succ])
  (refine At.det (.string ⟨#[d]⟩) (fun val w1 hR hF K hK => ?_) ?_; (simp only [Act.put, List.setIfInBounds_toArray, List.set_cons_zero, List.set_cons_succ] at hK; simp only [Nat.reduceAdd] at hK hF ⊢; have hF2 := hF.2 (by kernel_rfl); clear hF; refine Exists.elim hF2 (fun b3 hb => ?_); have hv := hb.1; have hB3 := hb.2.2; clear hF2; simp only [hv] at hK ⊢; have hcv := conv_one d b3 1 w1 hB3; go_simp; exact hK _ (Ext.refl _)); simp only [Act.put, List.setIfInBounds_toArray, List.set_cons_zero, List.set_cons_succ])
  (refine At.det ?_ (fun val w1 hR _ K hK => ?_) ?_; rotate_left; (simp only [Act.put, List.setIfInBounds_toArray, List.set_cons_zero, List.set_cons_succ] at hK; go_simp; exact hK _ (Ext.refl _)); simp only [Act.put, List.setIfInBounds_toArray, List.set_cons_zero, List.set_cons_succ])
  (refine At.new (NewSl 0 5 62 zs) NewSl.ext (fun val w1 hR hF K hK => ?_) ?_; (simp only [Act.put, List.setIfInBounds_toArray, List.set_cons_zero, List.set_cons_succ] at hK; go_simp; exact hK _ _ ((Ext.refl _).alloc _) ⟨_, rfl, Nat.le_refl _, by simp⟩ ⟨_, rfl, Nat.zero_le _, Blk.new _ _ _⟩); simp only [Act.put, List.setIfInBounds_toArray, List.set_cons_zero, List.set_cons_succ])
  (refine At.det (.string zt) (fun val w1 hR hF K hK => ?_) ?_; (simp only [Act.put, List.setIfInBounds_toArray, List.set_cons_zero, List.set_cons_succ] at hK; simp only [Nat.reduceAdd] at hK hF ⊢; have hF2 := hF.2 (by kernel_rfl); clear hF; refine Exists.elim hF2 (fun b3 hb => ?_); have hv := hb.1; have hB3 := hb.2.2; clear hF2; simp only [hv] at hK ⊢; have hcv := HB.out b3 w1 hB3; go_simp; exact hK _ (Ext.refl _)); simp only [Act.put, List.setIfInBounds_toArray, List.set_cons_zero, List.set_cons_succ])
  refine At.last rfl (fun val w1 hR hF hN => ?_)
  have hx := hR.of_drew
  clear hR hF hN
  go_wp2
  go_ret
  exact ⟨by rw [← HZ.out]; rfl, hx⟩
end Go.Proofs.YtghefhmncpmflaaDoor
