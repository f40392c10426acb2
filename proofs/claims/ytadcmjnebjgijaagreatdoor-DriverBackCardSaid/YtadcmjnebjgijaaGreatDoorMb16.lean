/- Part 16 of the texts of the claim: Aw2. -/
import Derived.Test.YtadcmjnebjgijaaGreatDoorMb15
import Derived.Test.YtadcmjnebjgijaaGreatDoorMb11
import Derived.Test.YtadcmjnebjgijaaGreatDoorMb9
import Derived.Test.YtadcmjnebjgijaaGreatDoorMb13

/- awake() answers yes. %still -/
namespace Go.Proofs.YtadcmjnebjgijaaGreatDoor
open Go.RowKit
open Calm (bcell Blk)
theorem cells_new (W : World) (t : TypeId) (zs : List Int) : Cells (W.alloc (.cells (zs.map fun z => (.int .i64 (z))).toArray t)) (some ⟨W.heap.size, 0, none⟩) zs := by
  intro h0
  refine ⟨_, 0, rfl, by simp, fun k hk => ?_⟩
  rw [cell_of_row _ _ _ _ _ _ (heap_new (w := W) (o := .cells (zs.map fun z => (.int .i64 (z))).toArray t) rfl)]
  simp [hk]
theorem own_at {W : World} {base e size n c g : Nat} {xs : List Value} (h : W.ownsRow base e size (.slice (some ⟨g, 0, none⟩) n c) n xs) : g < W.heap.size ∧ ∀ j v, xs[j]? = some v → W.cell? ⟨g, j, none⟩ = some v := by
  rcases h.2 with ⟨h1, _⟩ | ⟨g', cap, cur, h1, h2, h3, h4, h5, h6, h7⟩
  · cases h1
  · cases h1
    refine ⟨(Array.getElem?_eq_some_iff.1 h3).1, fun j v hj => ?_⟩
    rw [cell_of_row W g j cur e _ h3]
    rw [← h7, List.getElem?_take] at hj
    split at hj
    · simpa using hj
    · cases hj
theorem add_zero (g j : Nat) : (⟨g, 0, none⟩ : Addr).add j = ⟨g, j, none⟩ := by unfold Addr.add; split <;> simp_all
theorem cells_a (W : World) (z1 z2 : List Int) (t1 t2 t3 : TypeId) (c3 : Array Value) : Cells (((W.alloc (.cells (z1.map fun z => (.int .i64 (z))).toArray t1)).alloc (.cells (z2.map fun z => (.int .i64 (z))).toArray t2)).alloc (.cells c3 t3)) (some ⟨W.heap.size, 0, none⟩) z1 :=
  ((cells_new W t1 z1).below ((Below.refl _ _).alloc (Nat.le_refl _) _)).below ((Below.refl _ _).alloc (Nat.le_refl _) _)
theorem cells_b (W : World) (z1 z2 : List Int) (t1 t2 t3 : TypeId) (c3 : Array Value) : Cells (((W.alloc (.cells (z1.map fun z => (.int .i64 (z))).toArray t1)).alloc (.cells (z2.map fun z => (.int .i64 (z))).toArray t2)).alloc (.cells c3 t3)) (some ⟨W.heap.size + 1, 0, none⟩) z2 := by
  have := (cells_new (W.alloc (.cells (z1.map fun z => (.int .i64 (z))).toArray t1)) t2 z2).below ((Below.refl _ _).alloc (Nat.le_refl _) (.cells c3 t3))
  simpa using this
theorem blk_cells2 {W : World} {g : Nat} (h : Blk W g #[(.int .i64 (0)), (.int .i64 (1))]) : Cells W (some ⟨g, 0, none⟩) [0, 1] := fun _ => ⟨g, 0, rfl, h.lt, fun k hk => by
  have hk2 : k = 0 ∨ k = 1 := by simp at hk; omega
  rcases hk2 with rfl | rfl
  · exact h.cell 0 _ rfl
  · exact h.cell 1 _ rfl⟩
theorem own_rcells {W : World} {base e n c g : Nat} {zs : List (Int × Int × Int)} (h : W.ownsRow base e 3 (.slice (some ⟨g, 0, none⟩) n c) n (flat3 zs)) : RCells W (some ⟨g, 0, none⟩) zs := by
  obtain ⟨h1, h2⟩ := own_at h
  intro h0
  refine ⟨g, 0, rfl, h1, fun k hk => ?_⟩
  obtain ⟨e1, e2, e3⟩ := flat3_at zs k hk
  simp only [Nat.zero_add]
  exact ⟨h2 _ _ e1, h2 _ _ e2, h2 _ _ e3⟩
theorem aw_neq70 (W : World) : Sem.run Tryz.prog (binOp BinOp.neq 49 (.agg #[(.int .i64 (4)), (.int .i64 (1)), (.int .i64 (9)), (.int .i64 (1)), (.int .i64 (36)), (.int .i64 (25))]) (.agg #[(.int .i64 (4)), (.int .i64 (1)), (.int .i64 (9)), (.int .i64 (1)), (.int .i64 (36)), (.int .i64 (25))])) W = .ok (.bool false) W := by kernel_rfl
theorem aw_neq49 (W : World) : Sem.run Tryz.prog (binOp BinOp.neq 56 (.agg #[(.int .i64 (2)), (.int .i64 (2)), (.int .i64 (-4)), (.int .i64 (40)), (.int .i64 (4)), (.int .i64 (0)), (.int .i64 (-4)), (.int .i64 (40))]) (.agg #[(.int .i64 (2)), (.int .i64 (2)), (.int .i64 (-4)), (.int .i64 (40)), (.int .i64 (4)), (.int .i64 (0)), (.int .i64 (-4)), (.int .i64 (40))])) W = .ok (.bool false) W := by kernel_rfl
set_option maxRecDepth 100000 in
set_option maxHeartbeats 16000000 in
theorem awake_any (w : World) (hL : Lim w) : Calls Tryz.prog 5 #[] w fun r w' => r = .returned (.bool true) ∧ Below w.heap.size w w' := by
  go_enter Tryz.func5, Tryz.ntmps5
  have hB0 := Below.refl w.heap.size w
  go_wp2_with (go_at_call 12; refine (sample_any _).mono ?_; rintro r w1 ⟨rfl, h1⟩)
  have hB1 := hB0.trans (h1.mono hB0.size)
  clear h1 hB0
  go_wp2_with (go_at_call 11; refine (aw_mech _ (hL.below hB1)).mono ?_; rintro r w2 ⟨rfl, h2⟩)
  have hB2 := hB1.trans (h2.mono hB1.size)
  clear h2 hB1
  go_wp2_with (go_at_call 12; refine (sample_any _).mono ?_; rintro r w3 ⟨rfl, h3⟩)
  have hB3 := (hB2.alloc hB2.size _).trans (h3.mono (Nat.le_trans hB2.size (by simp)))
  have K1_3 := Lib.hid ((Calm.Blk.new w2 _ #[(.int .i64 (0)), (.int .i64 (2))]).below h3)
  clear h3 hB2
  go_wp2_with (go_at_call 13; refine (aw_imp2 _ (hL.below hB3)).mono ?_; rintro r w4 ⟨rfl, h4⟩)
  have hB4 := hB3.trans (h4.mono hB3.size)
  have K1_4 := Lib.hid (K1_3.out.below h4)
  clear h4 hB3 K1_3
  go_wp2_with (go_at_call 12; refine (sample_any _).mono ?_; rintro r w5 ⟨rfl, h5⟩)
  have hB5 := (hB4.alloc hB4.size _).trans (h5.mono (Nat.le_trans hB4.size (by simp)))
  have K1_5 := Lib.hid ((K1_4.out.alloc _).below h5)
  have K2_5 := Lib.hid ((Calm.Blk.new w4 _ #[(.int .i64 (0)), (.int .i64 (20)), (.int .i64 (0)), (.int .i64 (2))]).below h5)
  clear h5 hB4 K1_4
  go_wp2_with (go_at_call 14; refine (aw_exc _ (hL.below hB5)).mono ?_; rintro r w6 ⟨rfl, h6⟩)
  have hB6 := hB5.trans (h6.mono hB5.size)
  have K1_6 := Lib.hid (K1_5.out.below h6)
  have K2_6 := Lib.hid (K2_5.out.below h6)
  clear h6 hB5 K1_5 K2_5
  go_wp2_with (go_at_call 12; refine (sample_any _).mono ?_; rintro r w7 ⟨rfl, h7⟩)
  have hB7 := (hB6.alloc hB6.size _).trans (h7.mono (Nat.le_trans hB6.size (by simp)))
  have K1_7 := Lib.hid ((K1_6.out.alloc _).below h7)
  have K2_7 := Lib.hid ((K2_6.out.alloc _).below h7)
  have K3_7 := Lib.hid ((Calm.Blk.new w6 _ #[(.int .i64 (2)), (.int .i64 (0)), (.int .i64 (0)), (.int .i64 (20))]).below h7)
  clear h7 hB6 K1_6 K2_6
  go_wp2_with (go_at_call 15; refine (aw_out _ (hL.below hB7)).mono ?_; rintro r w8 ⟨rfl, h8⟩)
  have hB8 := hB7.trans (h8.mono hB7.size)
  have K1_8 := Lib.hid (K1_7.out.below h8)
  have K2_8 := Lib.hid (K2_7.out.below h8)
  have K3_8 := Lib.hid (K3_7.out.below h8)
  clear h8 hB7 K1_7 K2_7 K3_7
  go_wp2_with (go_at_call 12; refine (sample_any _).mono ?_; rintro r w9 ⟨rfl, h9⟩)
  have hB9 := (hB8.alloc hB8.size _).trans (h9.mono (Nat.le_trans hB8.size (by simp)))
  have K1_9 := Lib.hid ((K1_8.out.alloc _).below h9)
  have K2_9 := Lib.hid ((K2_8.out.alloc _).below h9)
  have K3_9 := Lib.hid ((K3_8.out.alloc _).below h9)
  have K4_9 := Lib.hid ((Calm.Blk.new w8 _ #[(.int .i64 (-8)), (.int .i64 (0)), (.int .i64 (0)), (.int .i64 (20))]).below h9)
  clear h9 hB8 K1_8 K2_8 K3_8
  go_wp2_with (go_at_call 13; refine (aw_imp1 _ (hL.below hB9)).mono ?_; rintro r w10 ⟨rfl, h10⟩)
  have hB10 := hB9.trans (h10.mono hB9.size)
  have K1_10 := Lib.hid (K1_9.out.below h10)
  have K2_10 := Lib.hid (K2_9.out.below h10)
  have K3_10 := Lib.hid (K3_9.out.below h10)
  have K4_10 := Lib.hid (K4_9.out.below h10)
  clear h10 hB9 K1_9 K2_9 K3_9 K4_9
  go_wp2_with (go_at_call 12; refine (sample_any _).mono ?_; rintro r w11 ⟨rfl, h11⟩)
  have hB11 := (hB10.alloc hB10.size _).trans (h11.mono (Nat.le_trans hB10.size (by simp)))
  have K1_11 := Lib.hid ((K1_10.out.alloc _).below h11)
  have K2_11 := Lib.hid ((K2_10.out.alloc _).below h11)
  have K3_11 := Lib.hid ((K3_10.out.alloc _).below h11)
  have K4_11 := Lib.hid ((K4_10.out.alloc _).below h11)
  have K5_11 := Lib.hid ((Calm.Blk.new w10 _ #[(.int .i64 (18)), (.int .i64 (10)), (.int .i64 (3)), (.int .i64 (1))]).below h11)
  clear h11 hB10 K1_10 K2_10 K3_10 K4_10
  go_wp2_with (go_at_call 16; refine (aw_res _ (hL.below hB11)).mono ?_; rintro r w12 ⟨rfl, h12⟩)
  have hB12 := hB11.trans (h12.mono hB11.size)
  have K1_12 := Lib.hid (K1_11.out.below h12)
  have K2_12 := Lib.hid (K2_11.out.below h12)
  have K3_12 := Lib.hid (K3_11.out.below h12)
  have K4_12 := Lib.hid (K4_11.out.below h12)
  have K5_12 := Lib.hid (K5_11.out.below h12)
  clear h12 hB11 K1_11 K2_11 K3_11 K4_11 K5_11
  go_wp2_with (go_at_call 12; refine (sample_any _).mono ?_; rintro r w13 ⟨rfl, h13⟩)
  have hB13 := (hB12.alloc hB12.size _).trans (h13.mono (Nat.le_trans hB12.size (by simp)))
  have K1_13 := Lib.hid ((K1_12.out.alloc _).below h13)
  have K2_13 := Lib.hid ((K2_12.out.alloc _).below h13)
  have K3_13 := Lib.hid ((K3_12.out.alloc _).below h13)
  have K4_13 := Lib.hid ((K4_12.out.alloc _).below h13)
  have K5_13 := Lib.hid ((K5_12.out.alloc _).below h13)
  have K6_13 := Lib.hid ((Calm.Blk.new w12 _ #[(.int .i64 (4)), (.int .i64 (1))]).below h13)
  clear h13 hB12 K1_12 K2_12 K3_12 K4_12 K5_12
  go_wp2_with (go_at_call 17; refine (aw_qual _ (hL.below hB13)).mono ?_; rintro r w14 ⟨rfl, h14⟩)
  have hB14 := hB13.trans (h14.mono hB13.size)
  have K1_14 := Lib.hid (K1_13.out.below h14)
  have K2_14 := Lib.hid (K2_13.out.below h14)
  have K3_14 := Lib.hid (K3_13.out.below h14)
  have K4_14 := Lib.hid (K4_13.out.below h14)
  have K5_14 := Lib.hid (K5_13.out.below h14)
  have K6_14 := Lib.hid (K6_13.out.below h14)
  clear h14 hB13 K1_13 K2_13 K3_13 K4_13 K5_13 K6_13
  go_wp2_with (go_at_call 12; refine (sample_any _).mono ?_; rintro r w15 ⟨rfl, h15⟩)
  have hB15 := (hB14.alloc hB14.size _).trans (h15.mono (Nat.le_trans hB14.size (by simp)))
  have K1_15 := Lib.hid ((K1_14.out.alloc _).below h15)
  have K2_15 := Lib.hid ((K2_14.out.alloc _).below h15)
  have K3_15 := Lib.hid ((K3_14.out.alloc _).below h15)
  have K4_15 := Lib.hid ((K4_14.out.alloc _).below h15)
  have K5_15 := Lib.hid ((K5_14.out.alloc _).below h15)
  have K6_15 := Lib.hid ((K6_14.out.alloc _).below h15)
  have K7_15 := Lib.hid ((Calm.Blk.new w14 _ #[(.int .i64 (4)), (.int .i64 (1)), (.int .i64 (9)), (.int .i64 (1)), (.int .i64 (36)), (.int .i64 (25))]).below h15)
  clear h15 hB14 K1_14 K2_14 K3_14 K4_14 K5_14 K6_14
  go_wp2_with (go_at_call 19; refine (vented_any _).mono ?_; rintro r w16 ⟨rfl, h16⟩)
  have hB16 := hB15.trans (h16.mono hB15.size)
  have K1_16 := Lib.hid (K1_15.out.below h16)
  have K2_16 := Lib.hid (K2_15.out.below h16)
  have K3_16 := Lib.hid (K3_15.out.below h16)
  have K4_16 := Lib.hid (K4_15.out.below h16)
  have K5_16 := Lib.hid (K5_15.out.below h16)
  have K6_16 := Lib.hid (K6_15.out.below h16)
  have K7_16 := Lib.hid (K7_15.out.below h16)
  clear h16 hB15 K1_15 K2_15 K3_15 K4_15 K5_15 K6_15 K7_15
  go_wp2_with (go_at_call 18; refine (aw_box _ (hL.below hB16)).mono ?_; rintro r w17 ⟨rfl, h17⟩)
  have hB17 := hB16.trans (h17.mono hB16.size)
  have K1_17 := Lib.hid (K1_16.out.below h17)
  have K2_17 := Lib.hid (K2_16.out.below h17)
  have K3_17 := Lib.hid (K3_16.out.below h17)
  have K4_17 := Lib.hid (K4_16.out.below h17)
  have K5_17 := Lib.hid (K5_16.out.below h17)
  have K6_17 := Lib.hid (K6_16.out.below h17)
  have K7_17 := Lib.hid (K7_16.out.below h17)
  clear h17 hB16 K1_16 K2_16 K3_16 K4_16 K5_16 K6_16 K7_16
  go_wp2_with (go_at_call 12; refine (sample_any _).mono ?_; rintro r w18 ⟨rfl, h18⟩)
  have hB18 := (hB17.alloc hB17.size _).trans (h18.mono (Nat.le_trans hB17.size (by simp)))
  have K1_18 := Lib.hid ((K1_17.out.alloc _).below h18)
  have K2_18 := Lib.hid ((K2_17.out.alloc _).below h18)
  have K3_18 := Lib.hid ((K3_17.out.alloc _).below h18)
  have K4_18 := Lib.hid ((K4_17.out.alloc _).below h18)
  have K5_18 := Lib.hid ((K5_17.out.alloc _).below h18)
  have K6_18 := Lib.hid ((K6_17.out.alloc _).below h18)
  have K7_18 := Lib.hid ((K7_17.out.alloc _).below h18)
  have K8_18 := Lib.hid ((Calm.Blk.new w17 _ #[(.int .i64 (-4)), (.int .i64 (40)), (.int .i64 (0)), (.int .i64 (6))]).below h18)
  clear h18 hB17 K1_17 K2_17 K3_17 K4_17 K5_17 K6_17 K7_17
  go_wp2_with (go_at_call 19; refine (vented_any _).mono ?_; rintro r w19 ⟨rfl, h19⟩)
  have hB19 := hB18.trans (h19.mono hB18.size)
  have K1_19 := Lib.hid (K1_18.out.below h19)
  have K2_19 := Lib.hid (K2_18.out.below h19)
  have K3_19 := Lib.hid (K3_18.out.below h19)
  have K4_19 := Lib.hid (K4_18.out.below h19)
  have K5_19 := Lib.hid (K5_18.out.below h19)
  have K6_19 := Lib.hid (K6_18.out.below h19)
  have K7_19 := Lib.hid (K7_18.out.below h19)
  have K8_19 := Lib.hid (K8_18.out.below h19)
  clear h19 hB18 K1_18 K2_18 K3_18 K4_18 K5_18 K6_18 K7_18 K8_18
  go_wp2_with (go_at_call 20; refine (aw_mov _ (hL.below hB19)).mono ?_; rintro r w20 ⟨rfl, h20⟩)
  have hB20 := hB19.trans (h20.mono hB19.size)
  have K1_20 := Lib.hid (K1_19.out.below h20)
  have K2_20 := Lib.hid (K2_19.out.below h20)
  have K3_20 := Lib.hid (K3_19.out.below h20)
  have K4_20 := Lib.hid (K4_19.out.below h20)
  have K5_20 := Lib.hid (K5_19.out.below h20)
  have K6_20 := Lib.hid (K6_19.out.below h20)
  have K7_20 := Lib.hid (K7_19.out.below h20)
  have K8_20 := Lib.hid (K8_19.out.below h20)
  clear h20 hB19 K1_19 K2_19 K3_19 K4_19 K5_19 K6_19 K7_19 K8_19
  go_wp2_with (go_at_call 12; refine (sample_any _).mono ?_; rintro r w21 ⟨rfl, h21⟩)
  have hB21 := (hB20.alloc hB20.size _).trans (h21.mono (Nat.le_trans hB20.size (by simp)))
  have K1_21 := Lib.hid ((K1_20.out.alloc _).below h21)
  have K2_21 := Lib.hid ((K2_20.out.alloc _).below h21)
  have K3_21 := Lib.hid ((K3_20.out.alloc _).below h21)
  have K4_21 := Lib.hid ((K4_20.out.alloc _).below h21)
  have K5_21 := Lib.hid ((K5_20.out.alloc _).below h21)
  have K6_21 := Lib.hid ((K6_20.out.alloc _).below h21)
  have K7_21 := Lib.hid ((K7_20.out.alloc _).below h21)
  have K8_21 := Lib.hid ((K8_20.out.alloc _).below h21)
  have K9_21 := Lib.hid ((Calm.Blk.new w20 _ #[(.int .i64 (2)), (.int .i64 (2)), (.int .i64 (-4)), (.int .i64 (40)), (.int .i64 (4)), (.int .i64 (0)), (.int .i64 (-4)), (.int .i64 (40))]).below h21)
  clear h21 hB20 K1_20 K2_20 K3_20 K4_20 K5_20 K6_20 K7_20 K8_20
  go_wp2_with (go_at_call 19; refine (vented_any _).mono ?_; rintro r w22 ⟨rfl, h22⟩)
  have hB22 := hB21.trans (h22.mono hB21.size)
  have K1_22 := Lib.hid (K1_21.out.below h22)
  have K2_22 := Lib.hid (K2_21.out.below h22)
  have K3_22 := Lib.hid (K3_21.out.below h22)
  have K4_22 := Lib.hid (K4_21.out.below h22)
  have K5_22 := Lib.hid (K5_21.out.below h22)
  have K6_22 := Lib.hid (K6_21.out.below h22)
  have K7_22 := Lib.hid (K7_21.out.below h22)
  have K8_22 := Lib.hid (K8_21.out.below h22)
  have K9_22 := Lib.hid (K9_21.out.below h22)
  clear h22 hB21 K1_21 K2_21 K3_21 K4_21 K5_21 K6_21 K7_21 K8_21 K9_21
  go_wp2_with (go_at_call 21; refine (aw_rad _ (hL.below hB22)).mono ?_; rintro r w23 ⟨rfl, h23⟩)
  have hB23 := hB22.trans (h23.mono hB22.size)
  have K1_23 := Lib.hid (K1_22.out.below h23)
  have K2_23 := Lib.hid (K2_22.out.below h23)
  have K3_23 := Lib.hid (K3_22.out.below h23)
  have K4_23 := Lib.hid (K4_22.out.below h23)
  have K5_23 := Lib.hid (K5_22.out.below h23)
  have K6_23 := Lib.hid (K6_22.out.below h23)
  have K7_23 := Lib.hid (K7_22.out.below h23)
  have K8_23 := Lib.hid (K8_22.out.below h23)
  have K9_23 := Lib.hid (K9_22.out.below h23)
  clear h23 hB22 K1_22 K2_22 K3_22 K4_22 K5_22 K6_22 K7_22 K8_22 K9_22
  go_wp2_with (go_at_call 19; refine (vented_any _).mono ?_; rintro r w24 ⟨rfl, h24⟩)
  have hB24 := (hB23.alloc hB23.size _).trans (h24.mono (Nat.le_trans hB23.size (by simp)))
  have K1_24 := Lib.hid ((K1_23.out.alloc _).below h24)
  have K2_24 := Lib.hid ((K2_23.out.alloc _).below h24)
  have K3_24 := Lib.hid ((K3_23.out.alloc _).below h24)
  have K4_24 := Lib.hid ((K4_23.out.alloc _).below h24)
  have K5_24 := Lib.hid ((K5_23.out.alloc _).below h24)
  have K6_24 := Lib.hid ((K6_23.out.alloc _).below h24)
  have K7_24 := Lib.hid ((K7_23.out.alloc _).below h24)
  have K8_24 := Lib.hid ((K8_23.out.alloc _).below h24)
  have K9_24 := Lib.hid ((K9_23.out.alloc _).below h24)
  have K10_24 := Lib.hid ((Calm.Blk.new w23 _ #[(.int .i64 (2)), (.int .i64 (-2)), (.int .i64 (-4)), (.int .i64 (40))]).below h24)
  clear h24 hB23 K1_23 K2_23 K3_23 K4_23 K5_23 K6_23 K7_23 K8_23 K9_23
  go_wp2_with (go_at_call 22; refine (aw_tun _).mono ?_; rintro r w25 ⟨rfl, h25⟩)
  have hB25 := hB24.trans (h25.mono hB24.size)
  have K1_25 := Lib.hid (K1_24.out.below h25)
  have K2_25 := Lib.hid (K2_24.out.below h25)
  have K3_25 := Lib.hid (K3_24.out.below h25)
  have K4_25 := Lib.hid (K4_24.out.below h25)
  have K5_25 := Lib.hid (K5_24.out.below h25)
  have K6_25 := Lib.hid (K6_24.out.below h25)
  have K7_25 := Lib.hid (K7_24.out.below h25)
  have K8_25 := Lib.hid (K8_24.out.below h25)
  have K9_25 := Lib.hid (K9_24.out.below h25)
  have K10_25 := Lib.hid (K10_24.out.below h25)
  clear h25 hB24 K1_24 K2_24 K3_24 K4_24 K5_24 K6_24 K7_24 K8_24 K9_24 K10_24
  go_wp2_with (go_at_call 12; refine (sample_any _).mono ?_; rintro r w26 ⟨rfl, h26⟩)
  have hB26 := (hB25.alloc hB25.size _).trans (h26.mono (Nat.le_trans hB25.size (by simp)))
  have K1_26 := Lib.hid ((K1_25.out.alloc _).below h26)
  have K2_26 := Lib.hid ((K2_25.out.alloc _).below h26)
  have K3_26 := Lib.hid ((K3_25.out.alloc _).below h26)
  have K4_26 := Lib.hid ((K4_25.out.alloc _).below h26)
  have K5_26 := Lib.hid ((K5_25.out.alloc _).below h26)
  have K6_26 := Lib.hid ((K6_25.out.alloc _).below h26)
  have K7_26 := Lib.hid ((K7_25.out.alloc _).below h26)
  have K8_26 := Lib.hid ((K8_25.out.alloc _).below h26)
  have K9_26 := Lib.hid ((K9_25.out.alloc _).below h26)
  have K10_26 := Lib.hid ((K10_25.out.alloc _).below h26)
  have K11_26 := Lib.hid ((Calm.Blk.new w25 _ #[(.int .i64 (2)), (.int .i64 (1))]).below h26)
  clear h26 hB25 K1_25 K2_25 K3_25 K4_25 K5_25 K6_25 K7_25 K8_25 K9_25 K10_25
  go_wp2_with (go_at_call 23; refine (aw_clo _ (hL.below hB26)).mono ?_; rintro r w27 ⟨rfl, h27⟩)
  have hB27 := hB26.trans (h27.mono hB26.size)
  have K1_27 := Lib.hid (K1_26.out.below h27)
  have K2_27 := Lib.hid (K2_26.out.below h27)
  have K3_27 := Lib.hid (K3_26.out.below h27)
  have K4_27 := Lib.hid (K4_26.out.below h27)
  have K5_27 := Lib.hid (K5_26.out.below h27)
  have K6_27 := Lib.hid (K6_26.out.below h27)
  have K7_27 := Lib.hid (K7_26.out.below h27)
  have K8_27 := Lib.hid (K8_26.out.below h27)
  have K9_27 := Lib.hid (K9_26.out.below h27)
  have K10_27 := Lib.hid (K10_26.out.below h27)
  have K11_27 := Lib.hid (K11_26.out.below h27)
  clear h27 hB26 K1_26 K2_26 K3_26 K4_26 K5_26 K6_26 K7_26 K8_26 K9_26 K10_26 K11_26
  go_wp2_with (go_at_call 12; refine (sample_any _).mono ?_; rintro r w28 ⟨rfl, h28⟩)
  have hB28 := (hB27.alloc hB27.size _).trans (h28.mono (Nat.le_trans hB27.size (by simp)))
  have K1_28 := Lib.hid ((K1_27.out.alloc _).below h28)
  have K2_28 := Lib.hid ((K2_27.out.alloc _).below h28)
  have K3_28 := Lib.hid ((K3_27.out.alloc _).below h28)
  have K4_28 := Lib.hid ((K4_27.out.alloc _).below h28)
  have K5_28 := Lib.hid ((K5_27.out.alloc _).below h28)
  have K6_28 := Lib.hid ((K6_27.out.alloc _).below h28)
  have K7_28 := Lib.hid ((K7_27.out.alloc _).below h28)
  have K8_28 := Lib.hid ((K8_27.out.alloc _).below h28)
  have K9_28 := Lib.hid ((K9_27.out.alloc _).below h28)
  have K10_28 := Lib.hid ((K10_27.out.alloc _).below h28)
  have K11_28 := Lib.hid ((K11_27.out.alloc _).below h28)
  have K12_28 := Lib.hid ((Calm.Blk.new w27 _ #[(.int .i64 (6)), (.int .i64 (0)), (.int .i64 (2)), (.int .i64 (1)), (.int .i64 (9)), (.int .i64 (1))]).below h28)
  clear h28 hB27 K1_27 K2_27 K3_27 K4_27 K5_27 K6_27 K7_27 K8_27 K9_27 K10_27 K11_27
  go_wp2_with (go_at_call 18; refine (aw_box2 _ (hL.below hB28)).mono ?_; rintro r w29 ⟨rfl, h29⟩)
  have hB29 := hB28.trans (h29.mono hB28.size)
  have K1_29 := Lib.hid (K1_28.out.below h29)
  have K2_29 := Lib.hid (K2_28.out.below h29)
  have K3_29 := Lib.hid (K3_28.out.below h29)
  have K4_29 := Lib.hid (K4_28.out.below h29)
  have K5_29 := Lib.hid (K5_28.out.below h29)
  have K6_29 := Lib.hid (K6_28.out.below h29)
  have K7_29 := Lib.hid (K7_28.out.below h29)
  have K8_29 := Lib.hid (K8_28.out.below h29)
  have K9_29 := Lib.hid (K9_28.out.below h29)
  have K10_29 := Lib.hid (K10_28.out.below h29)
  have K11_29 := Lib.hid (K11_28.out.below h29)
  have K12_29 := Lib.hid (K12_28.out.below h29)
  clear h29 hB28 K1_28 K2_28 K3_28 K4_28 K5_28 K6_28 K7_28 K8_28 K9_28 K10_28 K11_28 K12_28
  simp only [List.append_eq, List.cons_append, List.nil_append]
  have f1_0 := K1_29.out.cell 0 (.int .i64 (0)) rfl
  have f1_1 := K1_29.out.cell 1 (.int .i64 (2)) rfl
  have f1_l := K1_29.out.lt
  have f2_0 := K2_29.out.cell 0 (.int .i64 (0)) rfl
  have f2_1 := K2_29.out.cell 1 (.int .i64 (20)) rfl
  have f2_2 := K2_29.out.cell 2 (.int .i64 (0)) rfl
  have f2_3 := K2_29.out.cell 3 (.int .i64 (2)) rfl
  have f2_l := K2_29.out.lt
  have f3_0 := K3_29.out.cell 0 (.int .i64 (2)) rfl
  have f3_1 := K3_29.out.cell 1 (.int .i64 (0)) rfl
  have f3_2 := K3_29.out.cell 2 (.int .i64 (0)) rfl
  have f3_3 := K3_29.out.cell 3 (.int .i64 (20)) rfl
  have f3_l := K3_29.out.lt
  have f4_0 := K4_29.out.cell 0 (.int .i64 (-8)) rfl
  have f4_1 := K4_29.out.cell 1 (.int .i64 (0)) rfl
  have f4_2 := K4_29.out.cell 2 (.int .i64 (0)) rfl
  have f4_3 := K4_29.out.cell 3 (.int .i64 (20)) rfl
  have f4_l := K4_29.out.lt
  have f5_0 := K5_29.out.cell 0 (.int .i64 (18)) rfl
  have f5_1 := K5_29.out.cell 1 (.int .i64 (10)) rfl
  have f5_2 := K5_29.out.cell 2 (.int .i64 (3)) rfl
  have f5_3 := K5_29.out.cell 3 (.int .i64 (1)) rfl
  have f5_l := K5_29.out.lt
  have f6_0 := K6_29.out.cell 0 (.int .i64 (4)) rfl
  have f6_1 := K6_29.out.cell 1 (.int .i64 (1)) rfl
  have f6_l := K6_29.out.lt
  have f7_0 := K7_29.out.cell 0 (.int .i64 (4)) rfl
  have f7_1 := K7_29.out.cell 1 (.int .i64 (1)) rfl
  have f7_2 := K7_29.out.cell 2 (.int .i64 (9)) rfl
  have f7_3 := K7_29.out.cell 3 (.int .i64 (1)) rfl
  have f7_4 := K7_29.out.cell 4 (.int .i64 (36)) rfl
  have f7_5 := K7_29.out.cell 5 (.int .i64 (25)) rfl
  have f7_l := K7_29.out.lt
  have f8_0 := K8_29.out.cell 0 (.int .i64 (-4)) rfl
  have f8_1 := K8_29.out.cell 1 (.int .i64 (40)) rfl
  have f8_2 := K8_29.out.cell 2 (.int .i64 (0)) rfl
  have f8_3 := K8_29.out.cell 3 (.int .i64 (6)) rfl
  have f8_l := K8_29.out.lt
  have f9_0 := K9_29.out.cell 0 (.int .i64 (2)) rfl
  have f9_1 := K9_29.out.cell 1 (.int .i64 (2)) rfl
  have f9_2 := K9_29.out.cell 2 (.int .i64 (-4)) rfl
  have f9_3 := K9_29.out.cell 3 (.int .i64 (40)) rfl
  have f9_4 := K9_29.out.cell 4 (.int .i64 (4)) rfl
  have f9_5 := K9_29.out.cell 5 (.int .i64 (0)) rfl
  have f9_6 := K9_29.out.cell 6 (.int .i64 (-4)) rfl
  have f9_7 := K9_29.out.cell 7 (.int .i64 (40)) rfl
  have f9_l := K9_29.out.lt
  have f10_0 := K10_29.out.cell 0 (.int .i64 (2)) rfl
  have f10_1 := K10_29.out.cell 1 (.int .i64 (-2)) rfl
  have f10_2 := K10_29.out.cell 2 (.int .i64 (-4)) rfl
  have f10_3 := K10_29.out.cell 3 (.int .i64 (40)) rfl
  have f10_l := K10_29.out.lt
  have f11_0 := K11_29.out.cell 0 (.int .i64 (2)) rfl
  have f11_1 := K11_29.out.cell 1 (.int .i64 (1)) rfl
  have f11_l := K11_29.out.lt
  have f12_0 := K12_29.out.cell 0 (.int .i64 (6)) rfl
  have f12_1 := K12_29.out.cell 1 (.int .i64 (0)) rfl
  have f12_2 := K12_29.out.cell 2 (.int .i64 (2)) rfl
  have f12_3 := K12_29.out.cell 3 (.int .i64 (1)) rfl
  have f12_4 := K12_29.out.cell 4 (.int .i64 (9)) rfl
  have f12_5 := K12_29.out.cell 5 (.int .i64 (1)) rfl
  have f12_l := K12_29.out.lt
  have hq1 := aw_neq70
  have hq2 := aw_neq49
  refine Calm.still_tail 95 (by kernel_rfl) (lexTail_of_fast (by kernel_rfl) (by kernel_rfl) (by kernel_rfl) (by kernel_rfl) (by kernel_rfl) (by kernel_rfl)) ?_
  simp only [List.take_succ_cons, List.take_zero, List.drop_succ_cons, List.drop_zero]
  repeat (first | (first | (apply Calm.still_op_move; (focus rfl); (focus (first | exact .inl rfl | exact .inr rfl)); (focus ((try simp only [Act.eval, Array.getD_eq_getD_getElem?, List.getElem?_toArray, List.getElem?_cons_succ, List.getElem?_cons_zero, Option.getD_some]); rfl)); (try simp only [Act.put, List.setIfInBounds_toArray, List.set_cons_zero, List.set_cons_succ])) | (apply Calm.still_op_not; (focus rfl); (try simp only [Act.put, List.setIfInBounds_toArray, List.set_cons_zero, List.set_cons_succ])) | (apply Calm.still_op; (focus rfl); (focus (intro W hb; obtain ⟨hc, hf⟩ := bcell hb; clear hb hf; go_simp; (try go_bits); (try rfl); done)); (try simp only [Act.put, List.setIfInBounds_toArray, List.set_cons_zero, List.set_cons_succ]))) | (apply Calm.still_op_call; (focus rfl); (focus (intro W hb; obtain ⟨hc, hf⟩ := bcell hb; clear hb hf; go_simp; refine ⟨?_, ?_⟩; rfl; rfl)); (focus (intro W hb; first | (go_at_call 24; exact Calm.call_below hb (pair_any _ _ _ _ _)))); (try simp only [Act.put, List.setIfInBounds_toArray, List.set_cons_zero, List.set_cons_succ])))
  refine Calm.still_nil ?_
  intro wE hE
  have hBE := (hB29.alloc hB29.size _).trans (hE.mono (Nat.le_trans hB29.size (by simp)))
  clear hE hB29 hq1 hq2 K1_29 K2_29 K3_29 K4_29 K5_29 K6_29 K7_29 K8_29 K9_29 K10_29 K11_29 K12_29 f1_0 f1_1 f1_l f2_0 f2_1 f2_2 f2_3 f2_l f3_0 f3_1 f3_2 f3_3 f3_l f4_0 f4_1 f4_2 f4_3 f4_l f5_0 f5_1 f5_2 f5_3 f5_l f6_0 f6_1 f6_l f7_0 f7_1 f7_2 f7_3 f7_4 f7_5 f7_l f8_0 f8_1 f8_2 f8_3 f8_l f9_0 f9_1 f9_2 f9_3 f9_4 f9_5 f9_6 f9_7 f9_l f10_0 f10_1 f10_2 f10_3 f10_l f11_0 f11_1 f11_l f12_0 f12_1 f12_2 f12_3 f12_4 f12_5 f12_l
  go_wp2_with (go_at_call 25; refine (aw_wei _).mono ?_; rintro r w30 ⟨rfl, h30⟩)
  have hB30 := hBE.trans (h30.mono hBE.size)
  clear h30 hBE
  go_wp2_with (go_at_call 12; refine (sample_any _).mono ?_; rintro r w31 ⟨rfl, h31⟩)
  have hB31 := ((hB30.alloc hB30.size _).alloc (Nat.le_trans hB30.size (by simp)) _).trans (h31.mono (Nat.le_trans hB30.size (by simp; omega)))
  have K27_31 := Lib.hid (((Calm.Blk.new w30 _ #[(.int .i64 (1)), (.int .i64 (1))]).alloc _).below h31)
  have K28_31 := Lib.hid (show Blk w31 (w30.heap.size + 1) #[(.int .i64 (4)), (.int .i64 (1))] by have := (Calm.Blk.new (w30.alloc (.cells #[(.int .i64 (1)), (.int .i64 (1))] 46)) 46 #[(.int .i64 (4)), (.int .i64 (1))]).below h31; simpa using this)
  clear h31 hB30
  go_wp2_with (go_at_call 26; refine (aw_swe _ (hL.below (hB31.alloc hB31.size _)) _ _ (cells_new _ _ [2])).mono ?_; rintro r w32 ⟨v, rfl, ho, h32⟩; obtain ⟨gs, cs, rfl⟩ := ownsRow_succ ho; have HS_32 := Lib.hid ho; clear ho)
  have hB32 := (hB31.alloc hB31.size _).trans (h32.mono (Nat.le_trans hB31.size (by simp)))
  have K27_32 := Lib.hid ((K27_31.out.alloc _).below h32)
  have K28_32 := Lib.hid ((K28_31.out.alloc _).below h32)
  have K99_32 := Lib.hid ((Calm.Blk.new w31 _ #[(.int .i64 (2))]).below h32)
  clear h32 hB31 K27_31 K28_31
  go_wp2_with (go_at_call 12; refine (sample_any _).mono ?_; rintro r w33 ⟨rfl, h33⟩)
  have hB33 := hB32.trans (h33.mono hB32.size)
  have K27_33 := Lib.hid (K27_32.out.below h33)
  have K28_33 := Lib.hid (K28_32.out.below h33)
  have HS_33 := Lib.hid (ownsRow_below HS_32.out h33)
  clear h33 hB32 K27_32 K28_32 HS_32
  have ho := HS_33.out.alloc (.cells #[(.int .i64 (6)), (.int .i64 (0)), (.int .i64 (2)), (.int .i64 (1)), (.int .i64 (4)), (.int .i64 (1)), (.int .i64 (2)), (.int .i64 (4)), (.int .i64 (1))] 69)
  have HSX := Lib.hid ho
  clear ho
  obtain ⟨i1, hi1, jz0, jz1, jz2⟩ := info_parts Tryz.infoR
  refine Rel.region3 9 (by kernel_rfl) (by kernel_rfl) (by kernel_rfl) ?_
  simp only [List.take_succ_cons, List.take_zero, List.drop_succ_cons, List.drop_zero, List.filterMap_cons, List.filterMap_nil]
  (apply Rel.op3; (focus (first | exact Rel.gno rfl | exact Rel.gyes _ true _ rfl rfl rfl)); (focus (intro a W hb hd hbase; obtain ⟨hc, hf⟩ := bcell hb; clear hb hf; simp [Rel.deps, Rel.dep1, Rel.ons, Region.binds, Act.eval] at hd; simp only [Act.eval, List.mem_cons, List.not_mem_nil, not_or, and_imp, or_false, Array.getD_eq_getD_getElem?] at hbase; go_simp; (try go_bits); (try rfl); done)); (try simp only [List.nil_append, List.cons_append]))
  (apply Rel.empty3 76 3; (focus (first | exact Rel.gno rfl | exact Rel.gyes _ true _ rfl rfl rfl)); (focus (intro a W; go_simp; (first | done | rfl | (refine ⟨?_, ?_⟩ <;> rfl)))); (try simp only [List.nil_append, List.cons_append]))
  (apply Rel.op3; (focus (first | exact Rel.gno rfl | exact Rel.gyes _ true _ rfl rfl rfl)); (focus (intro a W hb hd hbase; obtain ⟨hc, hf⟩ := bcell hb; clear hb hf; simp [Rel.deps, Rel.dep1, Rel.ons, Region.binds, Act.eval] at hd; simp only [Act.eval, List.mem_cons, List.not_mem_nil, not_or, and_imp, or_false, Array.getD_eq_getD_getElem?] at hbase; go_simp; (try go_bits); (try rfl); done)); (try simp only [List.nil_append, List.cons_append]))
  refine Rel.app3 (.tmp 226) (.tmp 227) 64 rfl 76 i1 _ 3 24 Tryz.underlying64 hi1 jz0 jz1 jz2 rfl (by decide) 1 (flat3 [(2, 90, 110)]) rfl (flat3_one _) (by unfold maxLen; omega) (by omega) (Rel.gno rfl) ?_ ?_
  · intro a W hb hd hbase
    simp [Rel.deps, Rel.dep1, Rel.ons, Region.binds] at hd
    obtain ⟨h226, h227⟩ := hd
    exact ⟨⟨_, rfl, by simpa using h226⟩, _, _, h227, fun _ => ⟨_, rfl, fun j u hj => by have := (own_at (ownsRow_below HSX.out hb)).2 j u hj; rw [add_zero]; exact this⟩⟩
  (try simp only [List.nil_append, List.cons_append])
  refine Rel.callR3 (fun u W => ∃ v, u = .tuple #[v, (.int .i64 (0))] ∧ W.ownsRow 0 28 6 v 1 (flat6 6 0 2 [(1, 4, 1)])) (fun u W W' ⟨v, h1, h2⟩ hb => ⟨v, h1, ownsRow_below h2 hb⟩) (Rel.gno rfl) ?_ ?_
  · intro a W hb hd hbase
    simp [Rel.deps, Rel.dep1, Rel.ons, Region.binds, Rel.OwnS] at hd
    obtain ⟨h225, h228⟩ := hd
    obtain ⟨g8, c8, h8⟩ := ownsRow_succ h228
    rw [h8] at h228
    refine ⟨27, #[.agg #[(.int .i64 (6)), (.int .i64 (0)), (.int .i64 (2)), (.int .i64 (1)), (.int .i64 (4)), (.int .i64 (1)), (.int .i64 (2)), (.int .i64 (4)), (.int .i64 (1))], .slice (some ⟨g8, 0, none⟩) 1 c8], ?_, (aw_reg W (hL.below ((hB33.alloc hB33.size _).trans (hb.mono (Nat.le_trans hB33.size (by simp))))) _ _ (own_rcells h228)).mono (fun e W' ⟨v, h1, h2, h3⟩ => ⟨_, h1, ⟨v, rfl, ownsRow_base h2 (Nat.zero_le _)⟩, h3⟩)⟩
    simp only [Act.eval, Array.getD_eq_getD_getElem?] at h225 h8
    go_simp
    (first | done | rfl | (refine ⟨?_, ?_⟩ <;> rfl))
  (try simp only [List.nil_append, List.cons_append])
  refine Rel.opR3 (fun u W => ∃ v, u = .tuple #[v, (.int .i64 (0))] ∧ W.ownsRow 0 28 6 v 1 (flat6 6 0 2 [(1, 4, 1)])) (fun u W W' ⟨v, h1, h2⟩ hb => ⟨v, h1, ownsRow_below h2 hb⟩) (Rel.gno rfl) ?_ ?_
  · intro a W hb hd hbase
    simp [Rel.deps, Rel.dep1, Rel.ons, Region.binds] at hd
    obtain ⟨v, h1, h2⟩ := hd
    refine ⟨.tuple #[v, (.int .i64 (0))], ?_, v, rfl, h2⟩
    simp only [Act.eval, Array.getD_eq_getD_getElem?] at h1
    go_simp
  (try simp only [List.nil_append, List.cons_append])
  refine Rel.opR3 (fun u W => W.ownsRow 0 28 6 u 1 (flat6 6 0 2 [(1, 4, 1)])) (fun u W W' h hb => ownsRow_below h hb) (Rel.gno rfl) ?_ ?_
  · intro a W hb hd hbase
    simp [Rel.deps, Rel.dep1, Rel.ons, Region.binds] at hd
    obtain ⟨v, h1, h2⟩ := hd
    refine ⟨v, ?_, h2⟩
    simp only [Act.eval, Array.getD_eq_getD_getElem?] at h1
    go_simp
  (try simp only [List.nil_append, List.cons_append])
  refine Rel.opR3 (fun u _ => u = (.int .i64 (0))) (Rel.stable_eq _) (Rel.gno rfl) ?_ ?_
  · intro a W hb hd hbase
    simp [Rel.deps, Rel.dep1, Rel.ons, Region.binds] at hd
    obtain ⟨v, h1, h2⟩ := hd
    refine ⟨(.int .i64 (0)), ?_, rfl⟩
    simp only [Act.eval, Array.getD_eq_getD_getElem?] at h1
    go_simp
  (try simp only [List.nil_append, List.cons_append])
  refine Rel.opR3 (fun u W => W.ownsRow 0 28 6 u 1 (flat6 6 0 2 [(1, 4, 1)])) (fun u W W' h hb => ownsRow_below h hb) (Rel.gno rfl) ?_ ?_
  · intro a W hb hd hbase
    simp [Rel.deps, Rel.dep1, Rel.ons, Region.binds] at hd
    obtain ⟨h6, _⟩ := hd
    refine ⟨a.eval (.tmp 230), ?_, h6⟩
    clear h6 hbase hb
    go_simp
  (try simp only [List.nil_append, List.cons_append])
  refine Rel.done3 ?_
  intro x wR hR hx
  simp only [Rel.facts, Nat.zero_add, Nat.reduceAdd] at hx
  obtain ⟨e0, _, e2, _, ⟨v4, e4, _⟩, ⟨v5, e5, _⟩, o6, e7, o8, _⟩ := hx
  obtain ⟨gd, cd, h8⟩ := ownsRow_succ o8
  rw [h8] at o8
  obtain ⟨g6, c6, h6⟩ := ownsRow_succ o6
  simp only [Rel.fill, Nat.zero_add, Nat.reduceAdd, e0, e2, e4, e5, e7, h6, h8]
  simp only [Act.put, List.setIfInBounds_toArray, List.set_cons_zero, List.set_cons_succ]
  have HD_R := Lib.hid o8
  have HS_R := Lib.hid (ownsRow_below HSX.out hR)
  clear e0 e2 e4 e5 e7 h6 h8 o6 o8 HSX
  have hBR := (hB33.alloc hB33.size _).trans (hR.mono (Nat.le_trans hB33.size (by simp)))
  have K27_R := Lib.hid ((K27_33.out.alloc _).below hR)
  have K28_R := Lib.hid ((K28_33.out.alloc _).below hR)
  have K32_R := Lib.hid ((Calm.Blk.new w33 _ #[(.int .i64 (6)), (.int .i64 (0)), (.int .i64 (2)), (.int .i64 (1)), (.int .i64 (4)), (.int .i64 (1)), (.int .i64 (2)), (.int .i64 (4)), (.int .i64 (1))]).below hR)
  clear hR hB33 K27_33 K28_33 HS_33
  have f32_0 := K32_R.out.cell 0 (.int .i64 (6)) rfl
  have f32_1 := K32_R.out.cell 1 (.int .i64 (0)) rfl
  have f32_2 := K32_R.out.cell 2 (.int .i64 (2)) rfl
  have f32_3 := K32_R.out.cell 3 (.int .i64 (1)) rfl
  have f32_4 := K32_R.out.cell 4 (.int .i64 (4)) rfl
  have f32_5 := K32_R.out.cell 5 (.int .i64 (1)) rfl
  have f32_6 := K32_R.out.cell 6 (.int .i64 (2)) rfl
  have f32_7 := K32_R.out.cell 7 (.int .i64 (4)) rfl
  have f32_8 := K32_R.out.cell 8 (.int .i64 (1)) rfl
  have f32_l := K32_R.out.lt
  go_wp2_with (go_at_call 28; refine (aw_con _ (hL.below (hBR.alloc hBR.size _)) _ _ (RCells.row (zs := [(2, 90, 110), (2, 0, 50)]) (heap_new rfl))).mono ?_; rintro r w34 ⟨v, rfl, ho, h34⟩; obtain ⟨gi, ci, rfl⟩ := ownsRow_succ ho; have HI_34 := Lib.hid ho; clear ho)
  have hB34 := (hBR.alloc hBR.size _).trans (h34.mono (Nat.le_trans hBR.size (by simp)))
  have K27_34 := Lib.hid ((K27_R.out.alloc _).below h34)
  have K28_34 := Lib.hid ((K28_R.out.alloc _).below h34)
  have K32_34 := Lib.hid ((K32_R.out.alloc _).below h34)
  have HS_34 := Lib.hid (ownsRow_below (HS_R.out.alloc _) h34)
  have HD_34 := Lib.hid (ownsRow_below (HD_R.out.alloc _) h34)
  have K98_34 := Lib.hid ((Calm.Blk.new wR _ #[(.int .i64 (2)), (.int .i64 (90)), (.int .i64 (110)), (.int .i64 (2)), (.int .i64 (0)), (.int .i64 (50))]).below h34)
  clear h34 hBR K27_R K28_R K32_R HS_R HD_R f32_0 f32_1 f32_2 f32_3 f32_4 f32_5 f32_6 f32_7 f32_8 f32_l
  clear K98_34 K32_34
  go_wp2_with (go_at_call 29; refine (aw_lin1 _ _ _ _ _ (cells_a _ [60, 90, 100, 95, 70] [30, 12, 10, 11, 25] _ _ _ _) (cells_b _ [60, 90, 100, 95, 70] [30, 12, 10, 11, 25] _ _ _ _)).mono ?_; rintro r w35 ⟨rfl, h35⟩; refine Hid.out ?_)
  unfold Hid
  have K37 := (show Blk w35 (w34.heap.size + 1 + 1) #[.slice (some ⟨w34.heap.size, 0, none⟩) 5 5, .slice (some ⟨w34.heap.size + 1, 0, none⟩) 5 5] by have := (Calm.Blk.new ((w34.alloc (.cells (([60, 90, 100, 95, 70] : List Int).map fun z => (.int .i64 (z))).toArray 3)).alloc (.cells (([30, 12, 10, 11, 25] : List Int).map fun z => (.int .i64 (z))).toArray 3)) 78 #[.slice (some ⟨w34.heap.size, 0, none⟩) 5 5, .slice (some ⟨w34.heap.size + 1, 0, none⟩) 5 5]).below h35; simpa using this)
  have f37_0 := K37.cell 0 (.slice (some ⟨w34.heap.size, 0, none⟩) 5 5) rfl
  have f37_1 := K37.cell 1 (.slice (some ⟨w34.heap.size + 1, 0, none⟩) 5 5) rfl
  have f37_l := K37.lt
  have HK37 := Lib.hid K37
  clear K37
  have hB35 := (((hB34.alloc hB34.size _).alloc (Nat.le_trans hB34.size (by simp)) _).alloc (Nat.le_trans hB34.size (by simp; omega)) _).trans (h35.mono (Nat.le_trans hB34.size (by simp; omega)))
  have K27_35 := Lib.hid ((((K27_34.out.alloc _).alloc _).alloc _).below h35)
  have K28_35 := Lib.hid ((((K28_34.out.alloc _).alloc _).alloc _).below h35)
  have HS_35 := Lib.hid (ownsRow_below (((HS_34.out.alloc _).alloc _).alloc _) h35)
  have HD_35 := Lib.hid (ownsRow_below (((HD_34.out.alloc _).alloc _).alloc _) h35)
  have HI_35 := Lib.hid (ownsRow_below (((HI_34.out.alloc _).alloc _).alloc _) h35)
  have HC1_35 := Lib.hid ((cells_a w34 [60, 90, 100, 95, 70] [30, 12, 10, 11, 25] _ _ _ _).below h35)
  have HC2_35 := Lib.hid ((cells_b w34 [60, 90, 100, 95, 70] [30, 12, 10, 11, 25] _ _ _ _).below h35)
  clear h35 hB34 K27_34 K28_34 HS_34 HD_34 HI_34
  go_wp2_with (go_at_call 29; refine (aw_lin2 _ _ _ _ _ HC1_35.out HC2_35.out).mono ?_; rintro r w36 ⟨rfl, h36⟩)
  clear HC1_35 HC2_35 HK37 f37_0 f37_1 f37_l
  have hB36 := hB35.trans (h36.mono hB35.size)
  have K27_36 := Lib.hid (K27_35.out.below h36)
  have K28_36 := Lib.hid (K28_35.out.below h36)
  have HS_36 := Lib.hid (ownsRow_below HS_35.out h36)
  have HD_36 := Lib.hid (ownsRow_below HD_35.out h36)
  have HI_36 := Lib.hid (ownsRow_below HI_35.out h36)
  clear h36 hB35 K27_35 K28_35 HS_35 HD_35 HI_35
  go_wp2_with (go_at_call 12; refine (sample_any _).mono ?_; rintro r w37 ⟨rfl, h37⟩)
  have hB37 := hB36.trans (h37.mono hB36.size)
  have K27_37 := Lib.hid (K27_36.out.below h37)
  have K28_37 := Lib.hid (K28_36.out.below h37)
  have HS_37 := Lib.hid (ownsRow_below HS_36.out h37)
  have HD_37 := Lib.hid (ownsRow_below HD_36.out h37)
  have HI_37 := Lib.hid (ownsRow_below HI_36.out h37)
  clear h37 hB36 K27_36 K28_36 HS_36 HD_36 HI_36
  go_wp2_with (go_at_call 6; refine (print_sample _ (hL.below hB37)).mono ?_; rintro r w38 ⟨rfl, h38⟩)
  have hB38 := hB37.trans (h38.mono hB37.size)
  have K27_38 := Lib.hid (K27_37.out.below h38)
  have K28_38 := Lib.hid (K28_37.out.below h38)
  have HS_38 := Lib.hid (ownsRow_below HS_37.out h38)
  have HD_38 := Lib.hid (ownsRow_below HD_37.out h38)
  have HI_38 := Lib.hid (ownsRow_below HI_37.out h38)
  clear h38 hB37 K27_37 K28_37 HS_37 HD_37 HI_37
  go_wp2
  simp only [List.append_eq, List.cons_append, List.nil_append]
  have f27_0 := K27_38.out.cell 0 (.int .i64 (1)) rfl
  have f27_1 := K27_38.out.cell 1 (.int .i64 (1)) rfl
  have f27_l := K27_38.out.lt
  have f28_0 := K28_38.out.cell 0 (.int .i64 (4)) rfl
  have f28_1 := K28_38.out.cell 1 (.int .i64 (1)) rfl
  have f28_l := K28_38.out.lt
  obtain ⟨gsl, gsc⟩ := own_at HS_38.out
  have s0 := gsc 0 (.int .i64 (2)) rfl
  have s1 := gsc 1 (.int .i64 (90)) rfl
  have s2 := gsc 2 (.int .i64 (110)) rfl
  obtain ⟨gdl, gdc⟩ := own_at HD_38.out
  have q0 := gdc 0 (.int .i64 (6)) rfl
  have q1 := gdc 1 (.int .i64 (0)) rfl
  have q2 := gdc 2 (.int .i64 (2)) rfl
  have q3 := gdc 3 (.int .i64 (1)) rfl
  have q4 := gdc 4 (.int .i64 (4)) rfl
  have q5 := gdc 5 (.int .i64 (1)) rfl
  clear gsc gdc
  refine Rel.region3 65 (by kernel_rfl) (by kernel_rfl) (by kernel_rfl) ?_
  simp only [List.take_succ_cons, List.take_zero, List.drop_succ_cons, List.drop_zero, List.filterMap_cons, List.filterMap_nil]
  repeat (first | (apply Rel.op3; (focus (first | exact Rel.gno rfl | exact Rel.gyes _ true _ rfl rfl rfl)); (focus (intro a W hb hd hbase; obtain ⟨hc, hf⟩ := bcell hb; clear hb hf; simp [Rel.deps, Rel.dep1, Rel.ons, Region.binds, Act.eval] at hd; simp only [Act.eval, List.mem_cons, List.not_mem_nil, not_or, and_imp, or_false, Array.getD_eq_getD_getElem?] at hbase; go_simp; (try go_bits); (try rfl); done)); (try simp only [List.nil_append, List.cons_append])) | (apply Rel.call3; (focus (first | exact Rel.gno rfl | exact Rel.gyes _ true _ rfl rfl rfl)); (focus (intro a W hb hd hbase; obtain ⟨hc, hf⟩ := bcell hb; clear hb hf; simp [Rel.deps, Rel.dep1, Rel.ons, Region.binds, Act.eval] at hd; simp only [Act.eval, List.mem_cons, List.not_mem_nil, not_or, and_imp, or_false, Array.getD_eq_getD_getElem?] at hbase; go_simp; refine ⟨?_, ?_⟩; rfl; rfl)); (focus (intro W hb; go_at_call 12; exact sample_any _)); (try simp only [List.nil_append, List.cons_append])))
  (apply Rel.build3; (focus (first | exact Rel.gno rfl | exact Rel.gyes _ true _ rfl rfl rfl)); (focus (intro a W hb hd hbase; obtain ⟨hc, hf⟩ := bcell hb; clear hb hf; simp [Rel.deps, Rel.dep1, Rel.ons, Region.binds, Act.eval] at hd; simp only [Act.eval, List.mem_cons, List.not_mem_nil, not_or, and_imp, or_false, Array.getD_eq_getD_getElem?] at hbase; go_simp; (first | rfl | (refine ⟨⟨?_, ?_⟩, ?_⟩; rfl; rfl; rfl) | (refine ⟨?_, ?_⟩; rfl; rfl)))); (try simp only [List.nil_append, List.cons_append]))
  refine Rel.callR3 (fun u _ => u = .bool true) (Rel.stable_eq _) (Rel.gyes _ true _ rfl rfl rfl) ?_ ?_
  · intro a W hb hd hbase
    simp [Rel.deps, Rel.dep1, Rel.ons, Region.binds] at hd
    obtain ⟨h307, ⟨g8, h308, _, hK8⟩, _⟩ := hd
    have hI := ownsRow_below HI_38.out hb
    refine ⟨30, #[.slice (some ⟨gi, 0, none⟩) 2 ci, .slice (some ⟨g8, 0, none⟩) 2 2], ?_, ?_⟩
    · simp only [Act.eval, Array.getD_eq_getD_getElem?] at h307 h308
      go_simp
      (first | done | rfl | (refine ⟨?_, ?_⟩ <;> rfl))
    · exact (sameInts_any (some ⟨gi, 0, none⟩) (some ⟨g8, 0, none⟩) [0, 1] [0, 1] ci 2 W (own_cells (l := [0, 1]) hI).2 (blk_cells2 hK8) (by decide) (by decide)).mono (fun e W' ⟨h1, h2⟩ => ⟨_, h1, by simp, h2⟩)
  (try simp only [List.nil_append, List.cons_append])
  repeat (first | (apply Rel.op3; (focus (first | exact Rel.gno rfl | exact Rel.gyes _ true _ rfl rfl rfl)); (focus (intro a W hb hd hbase; obtain ⟨hc, hf⟩ := bcell hb; clear hb hf; simp [Rel.deps, Rel.dep1, Rel.ons, Region.binds, Act.eval] at hd; simp only [Act.eval, List.mem_cons, List.not_mem_nil, not_or, and_imp, or_false, Array.getD_eq_getD_getElem?] at hbase; go_simp; (try go_bits); (try rfl); done)); (try simp only [List.nil_append, List.cons_append])) | (apply Rel.call3; (focus (first | exact Rel.gno rfl | exact Rel.gyes _ true _ rfl rfl rfl)); (focus (intro a W hb hd hbase; obtain ⟨hc, hf⟩ := bcell hb; clear hb hf; simp [Rel.deps, Rel.dep1, Rel.ons, Region.binds, Act.eval] at hd; simp only [Act.eval, List.mem_cons, List.not_mem_nil, not_or, and_imp, or_false, Array.getD_eq_getD_getElem?] at hbase; go_simp; refine ⟨?_, ?_⟩; rfl; rfl)); (focus (intro W hb; go_at_call 12; exact sample_any _)); (try simp only [List.nil_append, List.cons_append])))
  refine Rel.done3 ?_
  intro x wF hW hx
  simp only [Rel.facts, Nat.zero_add, Nat.reduceAdd] at hx
  obtain ⟨_, _, _, _, _, _, _, _, _, _, _, _, _, _, _, _, _, _, _, _, _, _, _, _, _, _, _, _, _, _, _, _, _, _, _, _, _, _, _, _, _, _, _, _, _, _, _, _, _, _, _, _, _, _, _, _, _, _, _, _, _, _, _, _, e64, _⟩ := hx
  simp only [Rel.fill, Nat.zero_add, Nat.reduceAdd, e64]
  simp only [Act.put, List.setIfInBounds_toArray, List.set_cons_zero, List.set_cons_succ]
  go_wp2
  go_ret
  exact ⟨by first | rfl | (simp; done), hB38.trans (hW.mono hB38.size)⟩
end Go.Proofs.YtadcmjnebjgijaaGreatDoor
