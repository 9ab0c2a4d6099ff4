/-
  The contract of the law's states: the program's and the document's state of plain data.
-/
import Derived.Test.YtghefhmncpmflaaDoorPlan8
import Derived.Test.YtghefhmncpmflaaDoorMem3
namespace Go.Proofs.YtghefhmncpmflaaDoor
open Go.RowKit Go.Rg

/-- The cells of the document's state. -/
def rs4 (d : Int) (A B C E : Array Value) (odd : Bool) : Array Value := #[.int .i64 d] ++ A ++ B ++ C ++ E ++ #[.bool odd]
def F32 : Array Value := b32 fun _ => false
theorem alloc33 (w : World) : (Instr.alloc 33 true (.tuple #[])).run Tryd.prog w = .ok (.pointer (some ⟨w.heap.size, 0, none⟩)) (w.alloc (.cells (rs4 0 F32 F32 F32 F32 false) 33)) := by kernel_rfl
theorem build33 (d : Int) (w : World) : (Instr.build 33 #[(0, .int .i64 d)]).run Tryd.prog w = .ok (.agg (rs4 d F32 F32 F32 F32 false)) w := by kernel_rfl

set_option maxHeartbeats 4000000 in
theorem states_any (d : Int) (x h k l : Nat) (hx : x < 18446744073709551616) (hh : h < 18446744073709551616) (hk : k < 18446744073709551616) (hl : l < 18446744073709551616) (w : World) :
    Calls Tryd.prog 10 #[rawv d x h k l] w fun e w' => e = .returned (.tuple #[stv d x h k l, .agg (rs4 d (b32 x.testBit) (b32 h.testBit) (b32 k.testBit) (b32 l.testBit)
      ((x / 4294967296 != 0) || ((h / 4294967296 != 0) || ((k / 4294967296 != 0) || (l / 4294967296 != 0)))))]) ∧ Ext w w' := by
  have HX := Lib.hid (bits_any x hx)
  have HH := Lib.hid (bits_any h hh)
  have HK := Lib.hid (bits_any k hk)
  have HL := Lib.hid (bits_any l hl)
  have HS := Lib.hid set_any
  clear hx hh hk hl
  have q1 := b32_size x.testBit
  have q2 := b32_size h.testBit
  have q3 := b32_size k.testBit
  have q4 := b32_size l.testBit
  have HQ := Lib.hid (And.intro q1 (And.intro q2 (And.intro q3 q4)))
  have HO := Lib.hid (And.intro (b32_one x.testBit) (And.intro (b32_one h.testBit) (And.intro (b32_one k.testBit) (b32_one l.testBit))))
  clear q1 q2 q3 q4
  generalize b32 x.testBit = X at *
  generalize b32 h.testBit = H at *
  generalize b32 k.testBit = K at *
  generalize b32 l.testBit = L at *
  generalize (x / 4294967296 != 0) = o1 at *
  generalize (h / 4294967296 != 0) = o2 at *
  generalize (k / 4294967296 != 0) = o3 at *
  generalize (l / 4294967296 != 0) = o4 at *
  have bu := build33 d
  unfold rawv stv mset at *
  go_enter Tryd.func10, Tryd.ntmps10
  go_upto_region 1 with (fail)
  have F := Lib.hid (fun (w1 : World) (hr : Ext _ w1) => And.intro (((Blk.new w 24 #[.int .i64 d, .int .u64 x, .int .u64 h, .int .u64 k, .int .u64 l]).alloc (.cells #[.int .i64 0, .int .u64 0, .int .u64 0, .int .u64 0, .int .u64 0, .int .u64 0, .int .u64 0, .int .u64 0, .int .u64 0, .int .u64 0, .int .u64 0, .int .u64 0, .int .u64 0, .int .u64 0, .int .u64 0, .int .u64 0, .int .u64 0] 30)).alloc (.cells Tryd.zeroCells33 33) |>.ext hr.of_drew)
    (And.intro (((Blk.new' (b := w.heap.size + 1) (w := w.alloc (.cells #[.int .i64 d, .int .u64 x, .int .u64 h, .int .u64 k, .int .u64 l] 24)) (by simp) 30 #[.int .i64 0, .int .u64 0, .int .u64 0, .int .u64 0, .int .u64 0, .int .u64 0, .int .u64 0, .int .u64 0, .int .u64 0, .int .u64 0, .int .u64 0, .int .u64 0, .int .u64 0, .int .u64 0, .int .u64 0, .int .u64 0, .int .u64 0]).alloc (.cells Tryd.zeroCells33 33)).ext hr.of_drew)
      ((Blk.new' (b := w.heap.size + 1 + 1) (w := (w.alloc (.cells #[.int .i64 d, .int .u64 x, .int .u64 h, .int .u64 k, .int .u64 l] 24)).alloc (.cells #[.int .i64 0, .int .u64 0, .int .u64 0, .int .u64 0, .int .u64 0, .int .u64 0, .int .u64 0, .int .u64 0, .int .u64 0, .int .u64 0, .int .u64 0, .int .u64 0, .int .u64 0, .int .u64 0, .int .u64 0, .int .u64 0, .int .u64 0] 30)) (by simp) 33 Tryd.zeroCells33).ext hr.of_drew)))
  refine Seq.drawn (k := 16) (R := Ext) (by kernel_rfl) (by decide) (by kernel_rfl) (fun _ _ _ => Ext.trans) (fun _ _ h => h.size) Ext.refl (At.start ?_)
  (refine At.det ?_ (fun val w1 hR _ K hK => ?_) ?_; rotate_left; (simp only [Act.put, List.setIfInBounds_toArray, List.set_cons_zero, List.set_cons_succ] at hK; go_simp; exact hK _ (Ext.refl _)); simp only [Act.put, List.setIfInBounds_toArray, List.set_cons_zero, List.set_cons_succ])
  (refine At.det ?_ (fun val w1 hR _ K hK => ?_) ?_; rotate_left; (have g1 := (F.out _ hR).1.cells; simp only [Act.put, List.setIfInBounds_toArray, List.set_cons_zero, List.set_cons_succ] at hK; go_simp; exact hK _ (Ext.refl _)); simp only [Act.put, List.setIfInBounds_toArray, List.set_cons_zero, List.set_cons_succ])
  (refine At.det ?_ (fun val w1 hR _ K hK => ?_) ?_; rotate_left; (simp only [Act.put, List.setIfInBounds_toArray, List.set_cons_zero, List.set_cons_succ] at hK; go_simp; exact hK _ (Ext.refl _)); simp only [Act.put, List.setIfInBounds_toArray, List.set_cons_zero, List.set_cons_succ])
  (refine At.det ?_ (fun val w1 hR _ K hK => ?_) ?_; rotate_left; (have g1 := (F.out _ hR).1.cells; simp only [Act.put, List.setIfInBounds_toArray, List.set_cons_zero, List.set_cons_succ] at hK; go_simp; exact hK _ (Ext.refl _)); simp only [Act.put, List.setIfInBounds_toArray, List.set_cons_zero, List.set_cons_succ])
  (refine At.det ?_ (fun val w1 hR _ K hK => ?_) ?_; rotate_left; (simp only [Act.put, List.setIfInBounds_toArray, List.set_cons_zero, List.set_cons_succ] at hK; go_simp; (with_reducible refine (HS.out _ _).mono ?_); rintro e w2 ⟨rfl, h2⟩; exact hK _ (h2)); simp only [Act.put, List.setIfInBounds_toArray, List.set_cons_zero, List.set_cons_succ])
  (refine At.det ?_ (fun val w1 hR _ K hK => ?_) ?_; rotate_left; (simp only [Act.put, List.setIfInBounds_toArray, List.set_cons_zero, List.set_cons_succ] at hK; go_simp; exact hK _ (Ext.refl _)); simp only [Act.put, List.setIfInBounds_toArray, List.set_cons_zero, List.set_cons_succ])
  (refine At.det ?_ (fun val w1 hR _ K hK => ?_) ?_; rotate_left; (have g1 := (F.out _ hR).1.cells; simp only [Act.put, List.setIfInBounds_toArray, List.set_cons_zero, List.set_cons_succ] at hK; go_simp; exact hK _ (Ext.refl _)); simp only [Act.put, List.setIfInBounds_toArray, List.set_cons_zero, List.set_cons_succ])
  (refine At.det ?_ (fun val w1 hR _ K hK => ?_) ?_; rotate_left; (simp only [Act.put, List.setIfInBounds_toArray, List.set_cons_zero, List.set_cons_succ] at hK; go_simp; (with_reducible refine (HS.out _ _).mono ?_); rintro e w2 ⟨rfl, h2⟩; exact hK _ (h2)); simp only [Act.put, List.setIfInBounds_toArray, List.set_cons_zero, List.set_cons_succ])
  (refine At.det ?_ (fun val w1 hR _ K hK => ?_) ?_; rotate_left; (simp only [Act.put, List.setIfInBounds_toArray, List.set_cons_zero, List.set_cons_succ] at hK; go_simp; exact hK _ (Ext.refl _)); simp only [Act.put, List.setIfInBounds_toArray, List.set_cons_zero, List.set_cons_succ])
  (refine At.det ?_ (fun val w1 hR _ K hK => ?_) ?_; rotate_left; (have g1 := (F.out _ hR).1.cells; simp only [Act.put, List.setIfInBounds_toArray, List.set_cons_zero, List.set_cons_succ] at hK; go_simp; exact hK _ (Ext.refl _)); simp only [Act.put, List.setIfInBounds_toArray, List.set_cons_zero, List.set_cons_succ])
  (refine At.det ?_ (fun val w1 hR _ K hK => ?_) ?_; rotate_left; (simp only [Act.put, List.setIfInBounds_toArray, List.set_cons_zero, List.set_cons_succ] at hK; go_simp; (with_reducible refine (HS.out _ _).mono ?_); rintro e w2 ⟨rfl, h2⟩; exact hK _ (h2)); simp only [Act.put, List.setIfInBounds_toArray, List.set_cons_zero, List.set_cons_succ])
  (refine At.det ?_ (fun val w1 hR _ K hK => ?_) ?_; rotate_left; (simp only [Act.put, List.setIfInBounds_toArray, List.set_cons_zero, List.set_cons_succ] at hK; go_simp; exact hK _ (Ext.refl _)); simp only [Act.put, List.setIfInBounds_toArray, List.set_cons_zero, List.set_cons_succ])
  (refine At.det ?_ (fun val w1 hR _ K hK => ?_) ?_; rotate_left; (have g1 := (F.out _ hR).1.cells; simp only [Act.put, List.setIfInBounds_toArray, List.set_cons_zero, List.set_cons_succ] at hK; go_simp; exact hK _ (Ext.refl _)); simp only [Act.put, List.setIfInBounds_toArray, List.set_cons_zero, List.set_cons_succ])
  (refine At.det ?_ (fun val w1 hR _ K hK => ?_) ?_; rotate_left; (simp only [Act.put, List.setIfInBounds_toArray, List.set_cons_zero, List.set_cons_succ] at hK; go_simp; (with_reducible refine (HS.out _ _).mono ?_); rintro e w2 ⟨rfl, h2⟩; exact hK _ (h2)); simp only [Act.put, List.setIfInBounds_toArray, List.set_cons_zero, List.set_cons_succ])
  (refine At.det ?_ (fun val w1 hR _ K hK => ?_) ?_; rotate_left; (simp only [Act.put, List.setIfInBounds_toArray, List.set_cons_zero, List.set_cons_succ] at hK; go_simp; exact hK _ (Ext.refl _)); simp only [Act.put, List.setIfInBounds_toArray, List.set_cons_zero, List.set_cons_succ])
  (refine At.new (New (w.heap.size + 1 + 1 + 1) 30 #[.int .i64 0, .int .u64 0, .int .u64 0, .int .u64 0, .int .u64 0, .int .u64 0, .int .u64 0, .int .u64 0, .int .u64 0, .int .u64 0, .int .u64 0, .int .u64 0, .int .u64 0, .int .u64 0, .int .u64 0, .int .u64 0, .int .u64 0]) New.ext (fun val w1 hR hF K hK => ?_) ?_; (simp only [Act.put, List.setIfInBounds_toArray, List.set_cons_zero, List.set_cons_succ] at hK; go_simp; exact hK _ _ ((Ext.refl _).alloc _) ⟨_, rfl, Nat.le_refl _, by simp⟩ ⟨_, rfl, Nat.le_trans (by simp) hR.size, Blk.new _ _ _⟩); simp only [Act.put, List.setIfInBounds_toArray, List.set_cons_zero, List.set_cons_succ])
  refine At.last rfl (fun val w1 hR hF hN => ?_)
  simp only [Nat.reduceAdd] at hF ⊢
  obtain ⟨_, n1⟩ := hF
  obtain ⟨b, hv, hb, B4⟩ := n1 (by simp)
  rw [hv]
  have hx : Ext w w1 := ((((Ext.refl w).alloc _).alloc _).alloc _).trans hR.of_drew
  have B1 := (F.out _ hR).1
  have B2 := (F.out _ hR).2.1
  have B3 := (F.out _ hR).2.2
  clear F hR n1 hv hN
  refine wpList_store_mid rfl _ _ _ rfl b 0 (stc d x h k l) rfl rfl (B4.there (Nat.le_refl _)) (by kernel_rfl) (by kernel_rfl) ?_
  simp only [Act.put]
  go_upto_region 2 with (fail)
  refine wp_forget (fun w2 => Ext w w2 ∧ Blk w2 w.heap.size 24 #[.int .i64 d, .int .u64 x, .int .u64 h, .int .u64 k, .int .u64 l] ∧ Blk w2 (w.heap.size + 1) 30 #[.int .i64 0, .int .u64 0, .int .u64 0, .int .u64 0, .int .u64 0, .int .u64 0, .int .u64 0, .int .u64 0, .int .u64 0, .int .u64 0, .int .u64 0, .int .u64 0, .int .u64 0, .int .u64 0, .int .u64 0, .int .u64 0, .int .u64 0] ∧ Blk w2 (w.heap.size + 1 + 1) 33 Tryd.zeroCells33 ∧ Blk w2 b 30 (stc d x h k l))
    ⟨hx.setCells (by omega) _ _, B1.farAll (by omega) _ _, B2.farAll (by omega) _ _, B3.farAll (by omega) _ _, B4.setAll rfl⟩ ?_
  clear hx B1 B2 B3 B4
  rintro w2 ⟨hx, B1, B2, B3, B4⟩
  have c1 := trivial
  have F := Lib.hid (fun (w1 : World) (hr : Ext w2 w1) => (B1.ext hr).cells)
  refine Seq.text (k := 4) (R := Ext) (by kernel_rfl) (by decide) (fun _ _ _ => Ext.trans) (fun _ _ h => h.size) Ext.refl (At.start ?_)
  (refine At.det ?_ (fun val w1 hR _ K hK => ?_) ?_; rotate_left; (simp only [Act.put, List.setIfInBounds_toArray, List.set_cons_zero, List.set_cons_succ] at hK; go_simp; exact hK _ (Ext.refl _)); simp only [Act.put, List.setIfInBounds_toArray, List.set_cons_zero, List.set_cons_succ])
  (refine At.det ?_ (fun val w1 hR _ K hK => ?_) ?_; rotate_left; (have g1 := F.out _ hR; simp only [Act.put, List.setIfInBounds_toArray, List.set_cons_zero, List.set_cons_succ] at hK; go_simp; exact hK _ (Ext.refl _)); simp only [Act.put, List.setIfInBounds_toArray, List.set_cons_zero, List.set_cons_succ])
  (refine At.det ?_ (fun val w1 hR _ K hK => ?_) ?_; rotate_left; (simp only [Act.put, List.setIfInBounds_toArray, List.set_cons_zero, List.set_cons_succ] at hK; go_simp; exact hK _ (Ext.refl _)); simp only [Act.put, List.setIfInBounds_toArray, List.set_cons_zero, List.set_cons_succ])
  (refine At.new (New (w2.heap.size) 33 Tryd.zeroCells33) New.ext (fun val w1 hR hF K hK => ?_) ?_; (simp only [Act.put, List.setIfInBounds_toArray, List.set_cons_zero, List.set_cons_succ] at hK; go_simp; exact hK _ _ ((Ext.refl _).alloc _) ⟨_, rfl, Nat.le_refl _, by simp⟩ ⟨_, rfl, Nat.le_trans (by simp) hR.size, Blk.new _ _ _⟩); simp only [Act.put, List.setIfInBounds_toArray, List.set_cons_zero, List.set_cons_succ])
  refine At.last rfl (fun val w3 hR hF hN => ?_)
  simp only [Nat.reduceAdd] at hF ⊢
  obtain ⟨_, n1⟩ := hF
  obtain ⟨c, hv, hc, B5⟩ := n1 (by simp)
  rw [hv]
  have hsz : (rs4 d F32 F32 F32 F32 false).size = Tryd.zeroCells33.size := by kernel_rfl
  refine wpList_store_mid rfl _ _ _ rfl c 0 (rs4 d F32 F32 F32 F32 false) rfl (by kernel_rfl) (B5.there (Nat.le_of_eq hsz)) (by kernel_rfl) (by kernel_rfl) ?_
  simp only [Act.put]
  have hcb : w.heap.size + 1 + 1 + 1 ≤ c := Nat.le_trans B3.lt hc
  have hbc : b < c := Nat.lt_of_lt_of_le B4.lt hc
  replace hx := hx.trans hR
  replace B1 := B1.ext hR
  replace B2 := B2.ext hR
  replace B3 := B3.ext hR
  replace B4 := B4.ext hR
  clear F hR n1 hv hN c1 hc
  go_upto_region 3 with (fail)
  refine wp_forget (fun w2 => Ext w w2 ∧ Blk w2 w.heap.size 24 #[.int .i64 d, .int .u64 x, .int .u64 h, .int .u64 k, .int .u64 l] ∧ Blk w2 (w.heap.size + 1) 30 #[.int .i64 0, .int .u64 0, .int .u64 0, .int .u64 0, .int .u64 0, .int .u64 0, .int .u64 0, .int .u64 0, .int .u64 0, .int .u64 0, .int .u64 0, .int .u64 0, .int .u64 0, .int .u64 0, .int .u64 0, .int .u64 0, .int .u64 0] ∧ Blk w2 (w.heap.size + 1 + 1) 33 Tryd.zeroCells33 ∧ Blk w2 b 30 (stc d x h k l) ∧ Blk w2 c 33 (rs4 d F32 F32 F32 F32 false))
    ⟨hx.setCells (by omega) _ _, B1.farAll (by omega) _ _, B2.farAll (by omega) _ _, B3.farAll (by omega) _ _, B4.farAll (by omega) _ _, B5.setAll hsz.symm⟩ ?_
  clear hx B1 B2 B3 B4 B5 hsz bu
  rintro w4 ⟨hx, B1, B2, B3, B4, B5⟩
  go_upto_region 4 with (fail)
  refine wp_forget (fun w2 => Ext w w2 ∧ Blk w2 w.heap.size 24 #[.int .i64 d, .int .u64 x, .int .u64 h, .int .u64 k, .int .u64 l] ∧ Blk w2 (w.heap.size + 1) 30 #[.int .i64 0, .int .u64 0, .int .u64 0, .int .u64 0, .int .u64 0, .int .u64 0, .int .u64 0, .int .u64 0, .int .u64 0, .int .u64 0, .int .u64 0, .int .u64 0, .int .u64 0, .int .u64 0, .int .u64 0, .int .u64 0, .int .u64 0] ∧ Blk w2 (w.heap.size + 1 + 1) 33 Tryd.zeroCells33 ∧ Blk w2 b 30 (stc d x h k l) ∧ Blk w2 c 33 (rs4 d F32 F32 F32 F32 false) ∧ Blk w2 w4.heap.size 89 #[.bool false, .bool false, .bool false, .bool false])
    ⟨hx.alloc _, B1.alloc _, B2.alloc _, B3.alloc _, B4.alloc _, B5.alloc _, Blk.new w4 89 _⟩ ?_
  have hcg := B5.lt
  clear hx B1 B2 B3 B4 B5
  generalize w4.heap.size = g at *
  rintro w5 ⟨hx, B1, B2, B3, B4, B5, B6⟩
  have fs : F32.size = 32 := b32_size _
  have HF := Lib.hid fs
  clear fs
  have c1 := B1.cells
  go_wp2_with fail
  refine (HX.out _).mono ?_
  rintro e w4 ⟨rfl, h4⟩
  replace hx := hx.trans h4
  replace B1 := B1.ext h4
  replace B2 := B2.ext h4
  replace B3 := B3.ext h4
  replace B4 := B4.ext h4
  replace B5 := B5.ext h4
  replace B6 := B6.ext h4
  clear h4 c1
  have th : w4.there c 1 X.size := B5.thereMid (by simp [rs4, HF.out, HQ.out.1, HQ.out.2.1, HQ.out.2.2.1, HQ.out.2.2.2])
  have B5' : Blk (w4.setCells c 1 X.toList) c 33 (rs4 d X F32 F32 F32 false) := by
    have e1 : rs4 d F32 F32 F32 F32 false = (#[.int .i64 d]) ++ F32 ++ (F32 ++ F32 ++ F32 ++ #[.bool false]) := by simp [rs4]
    rw [e1] at B5
    have := B5.splice X (by rw [HF.out, HQ.out.1]) 1 (by simp [HF.out, HQ.out.1, HQ.out.2.1, HQ.out.2.2.1, HQ.out.2.2.2])
    have e2 : rs4 d X F32 F32 F32 false = (#[.int .i64 d]) ++ X ++ (F32 ++ F32 ++ F32 ++ #[.bool false]) := by simp [rs4]
    rw [e2]
    exact this
  have B6' : Blk (w4.setCells c 1 X.toList) g 89 #[.bool false, .bool false, .bool false, .bool false] := B6.farAll (by omega) _ _
  have c6 := B6'.cells
  have f6 := B6'.free
  go_upto_region 5 with ((with_reducible refine wpList_store_mid rfl 31 _ _ rfl c 1 X ?_ ?_ th ?_ HO.out.1 ?_); (exact rfl); (exact rfl); (rw [HQ.out.1]; kernel_rfl))
  refine wp_forget (fun w2 => Ext w w2 ∧ Blk w2 w.heap.size 24 #[.int .i64 d, .int .u64 x, .int .u64 h, .int .u64 k, .int .u64 l] ∧ Blk w2 (w.heap.size + 1) 30 #[.int .i64 0, .int .u64 0, .int .u64 0, .int .u64 0, .int .u64 0, .int .u64 0, .int .u64 0, .int .u64 0, .int .u64 0, .int .u64 0, .int .u64 0, .int .u64 0, .int .u64 0, .int .u64 0, .int .u64 0, .int .u64 0, .int .u64 0] ∧ Blk w2 (w.heap.size + 1 + 1) 33 Tryd.zeroCells33 ∧ Blk w2 b 30 (stc d x h k l) ∧
      Blk w2 c 33 (rs4 d X F32 F32 F32 false) ∧ Blk w2 g 89 #[.bool o1, .bool false, .bool false, .bool false])
    ⟨(hx.setCells (by omega) _ _).setCell (by simp; omega) _, (B1.farAll (by omega) _ _).far (by simp; omega) _, (B2.farAll (by omega) _ _).far (by simp; omega) _, (B3.farAll (by omega) _ _).far (by simp; omega) _,
     (B4.farAll (by omega) _ _).far (by simp; omega) _, B5'.far (by simp; omega) _, B6'.set 0 _⟩ ?_
  clear hx B1 B2 B3 B4 B5 B6 B5' B6' c6 f6 th
  rintro w5 ⟨hx, B1, B2, B3, B4, B5, B6⟩
  have c1 := B1.cells
  go_wp2_with fail
  refine (HH.out _).mono ?_
  rintro e w4 ⟨rfl, h4⟩
  replace hx := hx.trans h4
  replace B1 := B1.ext h4
  replace B2 := B2.ext h4
  replace B3 := B3.ext h4
  replace B4 := B4.ext h4
  replace B5 := B5.ext h4
  replace B6 := B6.ext h4
  clear h4 c1
  have th : w4.there c 33 H.size := B5.thereMid (by simp [rs4, HF.out, HQ.out.1, HQ.out.2.1, HQ.out.2.2.1, HQ.out.2.2.2])
  have B5' : Blk (w4.setCells c 33 H.toList) c 33 (rs4 d X H F32 F32 false) := by
    have e1 : rs4 d X F32 F32 F32 false = (#[.int .i64 d] ++ X) ++ F32 ++ (F32 ++ F32 ++ #[.bool false]) := by simp [rs4]
    rw [e1] at B5
    have := B5.splice H (by rw [HF.out, HQ.out.2.1]) 33 (by simp [HF.out, HQ.out.1, HQ.out.2.1, HQ.out.2.2.1, HQ.out.2.2.2])
    have e2 : rs4 d X H F32 F32 false = (#[.int .i64 d] ++ X) ++ H ++ (F32 ++ F32 ++ #[.bool false]) := by simp [rs4]
    rw [e2]
    exact this
  have B6' : Blk (w4.setCells c 33 H.toList) g 89 #[.bool o1, .bool false, .bool false, .bool false] := B6.farAll (by omega) _ _
  have c6 := B6'.cells
  have f6 := B6'.free
  go_upto_region 6 with ((with_reducible refine wpList_store_mid rfl 31 _ _ rfl c 33 H ?_ ?_ th ?_ HO.out.2.1 ?_); (exact rfl); (exact rfl); (rw [HQ.out.2.1]; kernel_rfl))
  refine wp_forget (fun w2 => Ext w w2 ∧ Blk w2 w.heap.size 24 #[.int .i64 d, .int .u64 x, .int .u64 h, .int .u64 k, .int .u64 l] ∧ Blk w2 (w.heap.size + 1) 30 #[.int .i64 0, .int .u64 0, .int .u64 0, .int .u64 0, .int .u64 0, .int .u64 0, .int .u64 0, .int .u64 0, .int .u64 0, .int .u64 0, .int .u64 0, .int .u64 0, .int .u64 0, .int .u64 0, .int .u64 0, .int .u64 0, .int .u64 0] ∧ Blk w2 (w.heap.size + 1 + 1) 33 Tryd.zeroCells33 ∧ Blk w2 b 30 (stc d x h k l) ∧
      Blk w2 c 33 (rs4 d X H F32 F32 false) ∧ Blk w2 g 89 #[.bool o1, .bool o2, .bool false, .bool false])
    ⟨(hx.setCells (by omega) _ _).setCell (by simp; omega) _, (B1.farAll (by omega) _ _).far (by simp; omega) _, (B2.farAll (by omega) _ _).far (by simp; omega) _, (B3.farAll (by omega) _ _).far (by simp; omega) _,
     (B4.farAll (by omega) _ _).far (by simp; omega) _, B5'.far (by simp; omega) _, B6'.set 1 _⟩ ?_
  clear hx B1 B2 B3 B4 B5 B6 B5' B6' c6 f6 th
  rintro w5 ⟨hx, B1, B2, B3, B4, B5, B6⟩
  have c1 := B1.cells
  go_wp2_with fail
  refine (HK.out _).mono ?_
  rintro e w4 ⟨rfl, h4⟩
  replace hx := hx.trans h4
  replace B1 := B1.ext h4
  replace B2 := B2.ext h4
  replace B3 := B3.ext h4
  replace B4 := B4.ext h4
  replace B5 := B5.ext h4
  replace B6 := B6.ext h4
  clear h4 c1
  have th : w4.there c 65 K.size := B5.thereMid (by simp [rs4, HF.out, HQ.out.1, HQ.out.2.1, HQ.out.2.2.1, HQ.out.2.2.2])
  have B5' : Blk (w4.setCells c 65 K.toList) c 33 (rs4 d X H K F32 false) := by
    have e1 : rs4 d X H F32 F32 false = (#[.int .i64 d] ++ X ++ H) ++ F32 ++ (F32 ++ #[.bool false]) := by simp [rs4]
    rw [e1] at B5
    have := B5.splice K (by rw [HF.out, HQ.out.2.2.1]) 65 (by simp [HF.out, HQ.out.1, HQ.out.2.1, HQ.out.2.2.1, HQ.out.2.2.2])
    have e2 : rs4 d X H K F32 false = (#[.int .i64 d] ++ X ++ H) ++ K ++ (F32 ++ #[.bool false]) := by simp [rs4]
    rw [e2]
    exact this
  have B6' : Blk (w4.setCells c 65 K.toList) g 89 #[.bool o1, .bool o2, .bool false, .bool false] := B6.farAll (by omega) _ _
  have c6 := B6'.cells
  have f6 := B6'.free
  go_upto_region 7 with ((with_reducible refine wpList_store_mid rfl 31 _ _ rfl c 65 K ?_ ?_ th ?_ HO.out.2.2.1 ?_); (exact rfl); (exact rfl); (rw [HQ.out.2.2.1]; kernel_rfl))
  refine wp_forget (fun w2 => Ext w w2 ∧ Blk w2 w.heap.size 24 #[.int .i64 d, .int .u64 x, .int .u64 h, .int .u64 k, .int .u64 l] ∧ Blk w2 (w.heap.size + 1) 30 #[.int .i64 0, .int .u64 0, .int .u64 0, .int .u64 0, .int .u64 0, .int .u64 0, .int .u64 0, .int .u64 0, .int .u64 0, .int .u64 0, .int .u64 0, .int .u64 0, .int .u64 0, .int .u64 0, .int .u64 0, .int .u64 0, .int .u64 0] ∧ Blk w2 (w.heap.size + 1 + 1) 33 Tryd.zeroCells33 ∧ Blk w2 b 30 (stc d x h k l) ∧
      Blk w2 c 33 (rs4 d X H K F32 false) ∧ Blk w2 g 89 #[.bool o1, .bool o2, .bool o3, .bool false])
    ⟨(hx.setCells (by omega) _ _).setCell (by simp; omega) _, (B1.farAll (by omega) _ _).far (by simp; omega) _, (B2.farAll (by omega) _ _).far (by simp; omega) _, (B3.farAll (by omega) _ _).far (by simp; omega) _,
     (B4.farAll (by omega) _ _).far (by simp; omega) _, B5'.far (by simp; omega) _, B6'.set 2 _⟩ ?_
  clear hx B1 B2 B3 B4 B5 B6 B5' B6' c6 f6 th
  rintro w5 ⟨hx, B1, B2, B3, B4, B5, B6⟩
  have c1 := B1.cells
  go_wp2_with fail
  refine (HL.out _).mono ?_
  rintro e w4 ⟨rfl, h4⟩
  replace hx := hx.trans h4
  replace B1 := B1.ext h4
  replace B2 := B2.ext h4
  replace B3 := B3.ext h4
  replace B4 := B4.ext h4
  replace B5 := B5.ext h4
  replace B6 := B6.ext h4
  clear h4 c1
  have th : w4.there c 97 L.size := B5.thereMid (by simp [rs4, HF.out, HQ.out.1, HQ.out.2.1, HQ.out.2.2.1, HQ.out.2.2.2])
  have B5' : Blk (w4.setCells c 97 L.toList) c 33 (rs4 d X H K L false) := by
    have e1 : rs4 d X H K F32 false = (#[.int .i64 d] ++ X ++ H ++ K) ++ F32 ++ (#[.bool false]) := by simp [rs4]
    rw [e1] at B5
    have := B5.splice L (by rw [HF.out, HQ.out.2.2.2]) 97 (by simp [HF.out, HQ.out.1, HQ.out.2.1, HQ.out.2.2.1, HQ.out.2.2.2])
    have e2 : rs4 d X H K L false = (#[.int .i64 d] ++ X ++ H ++ K) ++ L ++ (#[.bool false]) := by simp [rs4]
    rw [e2]
    exact this
  have B6' : Blk (w4.setCells c 97 L.toList) g 89 #[.bool o1, .bool o2, .bool o3, .bool false] := B6.farAll (by omega) _ _
  have c6 := B6'.cells
  have f6 := B6'.free
  go_upto_region 8 with ((with_reducible refine wpList_store_mid rfl 31 _ _ rfl c 97 L ?_ ?_ th ?_ HO.out.2.2.2 ?_); (exact rfl); (exact rfl); (rw [HQ.out.2.2.2]; kernel_rfl))
  refine wp_forget (fun w2 => Ext w w2 ∧ Blk w2 w.heap.size 24 #[.int .i64 d, .int .u64 x, .int .u64 h, .int .u64 k, .int .u64 l] ∧ Blk w2 (w.heap.size + 1) 30 #[.int .i64 0, .int .u64 0, .int .u64 0, .int .u64 0, .int .u64 0, .int .u64 0, .int .u64 0, .int .u64 0, .int .u64 0, .int .u64 0, .int .u64 0, .int .u64 0, .int .u64 0, .int .u64 0, .int .u64 0, .int .u64 0, .int .u64 0] ∧ Blk w2 (w.heap.size + 1 + 1) 33 Tryd.zeroCells33 ∧ Blk w2 b 30 (stc d x h k l) ∧
      Blk w2 c 33 (rs4 d X H K L false) ∧ Blk w2 g 89 #[.bool o1, .bool o2, .bool o3, .bool o4])
    ⟨(hx.setCells (by omega) _ _).setCell (by simp; omega) _, (B1.farAll (by omega) _ _).far (by simp; omega) _, (B2.farAll (by omega) _ _).far (by simp; omega) _, (B3.farAll (by omega) _ _).far (by simp; omega) _,
     (B4.farAll (by omega) _ _).far (by simp; omega) _, B5'.far (by simp; omega) _, B6'.set 3 _⟩ ?_
  clear hx B1 B2 B3 B4 B5 B6 B5' B6' c6 f6 th
  rintro w5 ⟨hx, B1, B2, B3, B4, B5, B6⟩
  have hset : ∀ v, (rs4 d X H K L false).setIfInBounds 129 (.bool v) = rs4 d X H K L v := fun v => by
    have e : (#[.int .i64 d] ++ X ++ H ++ K ++ L : Array Value).size = 129 := by simp [HQ.out.1, HQ.out.2.1, HQ.out.2.2.1, HQ.out.2.2.2]
    unfold rs4
    rw [Array.setIfInBounds_append_right (by omega), e]
    rfl
  have HSet := Lib.hid hset
  have hget : (rs4 d X H K L false)[129]? = some (.bool false) := by
    have e : (#[.int .i64 d] ++ X ++ H ++ K ++ L : Array Value).size = 129 := by simp [HQ.out.1, HQ.out.2.1, HQ.out.2.2.1, HQ.out.2.2.2]
    unfold rs4
    rw [Array.getElem?_append_right (by omega), e]
    rfl
  have hs130 : ∀ v, (rs4 d X H K L v).size = 130 := fun v => by simp [rs4, HQ.out.1, HQ.out.2.1, HQ.out.2.2.1, HQ.out.2.2.2]
  have h1all : ∀ v, (rs4 d X H K L v).all (·.oneCell') = true := fun v => by
    simp only [rs4, Array.all_append, HO.out.1, HO.out.2.1, HO.out.2.2.1, HO.out.2.2.2]
    kernel_rfl
  have HS130 := Lib.hid hs130
  have H1 := Lib.hid h1all
  have hc129 := (B5.cells 129).trans hget
  clear hset hs130 h1all hget
  have f5 := B5.free
  have c6 := B6.cells
  generalize hodd : (o1 || (o2 || (o3 || o4))) = od at *
  have HOD := Lib.hid hodd
  clear hodd
  go_cut [71] (fun _ wx => Ext w wx ∧ Blk wx (w.heap.size + 1) 30 #[.int .i64 0, .int .u64 0, .int .u64 0, .int .u64 0, .int .u64 0, .int .u64 0, .int .u64 0, .int .u64 0, .int .u64 0, .int .u64 0, .int .u64 0, .int .u64 0, .int .u64 0, .int .u64 0, .int .u64 0, .int .u64 0, .int .u64 0] ∧ Blk wx (w.heap.size + 1 + 1) 33 Tryd.zeroCells33 ∧ Blk wx b 30 (stc d x h k l) ∧ Blk wx c 33 (rs4 d X H K L od))
  case first =>
    have fin : ∀ v, v = od → Ext w (w5.setCell ⟨c, 129, none⟩ (.bool v)) ∧ Blk (w5.setCell ⟨c, 129, none⟩ (.bool v)) (w.heap.size + 1) 30 #[.int .i64 0, .int .u64 0, .int .u64 0, .int .u64 0, .int .u64 0, .int .u64 0, .int .u64 0, .int .u64 0, .int .u64 0, .int .u64 0, .int .u64 0, .int .u64 0, .int .u64 0, .int .u64 0, .int .u64 0, .int .u64 0, .int .u64 0] ∧ Blk (w5.setCell ⟨c, 129, none⟩ (.bool v)) (w.heap.size + 1 + 1) 33 Tryd.zeroCells33 ∧
        Blk (w5.setCell ⟨c, 129, none⟩ (.bool v)) b 30 (stc d x h k l) ∧ Blk (w5.setCell ⟨c, 129, none⟩ (.bool v)) c 33 (rs4 d X H K L od) := fun v hv => by
      subst hv
      refine ⟨hx.setCell (by simp; omega) _, B2.far (by simp; omega) _, B3.far (by simp; omega) _, B4.far (by simp; omega) _, ?_⟩
      have := B5.set 129 (.bool v)
      rw [HSet.out] at this
      exact this
    have FIN := Lib.hid fin
    clear fin hx B1 B2 B3 B4 B5 B6
    cases o1
    case true =>
      go_wp2_with fail
      go_meet
      exact FIN.out _ (by rw [← HOD.out]; rfl)
    case false =>
      cases o2
      case true =>
        go_wp2_with fail
        go_meet
        exact FIN.out _ (by rw [← HOD.out]; rfl)
      case false =>
        cases o3
        case true =>
          go_wp2_with fail
          go_meet
          exact FIN.out _ (by rw [← HOD.out]; rfl)
        case false =>
          go_wp2_with fail
          go_meet
          exact FIN.out _ (by rw [← HOD.out]; rfl)
  case rest =>
    obtain ⟨hx, B2, B3, B4, B5⟩ := hcut
    clear hc129 f5 c6 B1 B6
    go_upto_region 9 with (fail)
    refine Seq.drawn (k := 3) (R := RS (w.heap.size + 1) 30 (stc d x h k l)) (by kernel_rfl) (by decide) (by kernel_rfl) (fun _ _ _ => RS.trans) (fun _ _ h => h.size) RS.refl (At.start ?_)
    (refine At.row (b) 30 (stc d x h k l) _ RS.refl (fun w1 hR => hR.blk B4.drew (by omega)) _ _ rfl (fun _ => by first | rfl | kernel_rfl) (fun _ => by first | rfl | kernel_rfl) Tryd.underlying30 rfl (by kernel_rfl) ?_; simp only [Act.put, List.setIfInBounds_toArray, List.set_cons_zero, List.set_cons_succ])
    (refine At.row (c) 33 (rs4 d X H K L od) _ RS.refl (fun w1 hR => hR.blk B5.drew (by omega)) _ _ rfl (fun _ => by first | rfl | kernel_rfl) (fun _ => by first | rfl | kernel_rfl) Tryd.underlying33 rfl (by rw [HS130.out]; kernel_rfl) ?_; simp only [Act.put, List.setIfInBounds_toArray, List.set_cons_zero, List.set_cons_succ])
    (refine At.store (#[.int .i64 0, .int .u64 0, .int .u64 0, .int .u64 0, .int .u64 0, .int .u64 0, .int .u64 0, .int .u64 0, .int .u64 0, .int .u64 0, .int .u64 0, .int .u64 0, .int .u64 0, .int .u64 0, .int .u64 0, .int .u64 0, .int .u64 0]) (B2.drew) rfl _ _ _ rfl rfl (fun _ => by first | rfl | kernel_rfl) (fun _ => by first | rfl | kernel_rfl) (by kernel_rfl) (by kernel_rfl) ?_; simp only [Act.put])
    refine At.last rfl (fun val w6 hR hF hN => ?_)
    have C2 : Blk w6 (w.heap.size + 1) 30 (stc d x h k l) := hF.2 rfl
    have C3 : Blk w6 (w.heap.size + 1 + 1) 33 Tryd.zeroCells33 := hR.blk B3.drew (by omega)
    have hz : Tryd.zeroCells33.size = 130 := by kernel_rfl
    have hx2 : Ext w w6 := hR.ext hx.drew (by simp)
    refine wpList_store_mid rfl 33 _ _ rfl (w.heap.size + 1 + 1) 0 (rs4 d X H K L od) rfl rfl (C3.there (by rw [HS130.out, hz]; exact Nat.le_refl _)) (by rw [HS130.out]; kernel_rfl) (H1.out _) ?_
    simp only [Act.put]
    have C4 := C3.setAll (fin := rs4 d X H K L od) (by rw [HS130.out, hz])
    have C5 := C2.farAll (b' := w.heap.size + 1 + 1) (by omega) 0 (rs4 d X H K L od).toList
    have hx3 := hx2.setCells (b := w.heap.size + 1 + 1) (by omega) 0 (rs4 d X H K L od).toList
    clear hz hF hN C2 C3 hR hx2 hx B2 B3 B4 B5
    go_wp2
    exact ret_blk22 rfl (w.heap.size + 1) (w.heap.size + 1 + 1) 30 33 (stc d x h k l) (rs4 d X H K L od) _ _ rfl C5 rfl C4 Tryd.underlying30 rfl (by kernel_rfl) Tryd.underlying33 rfl (by rw [HS130.out]; kernel_rfl) rfl ⟨by rw [← HOD.out], hx3⟩
end Go.Proofs.YtghefhmncpmflaaDoor
