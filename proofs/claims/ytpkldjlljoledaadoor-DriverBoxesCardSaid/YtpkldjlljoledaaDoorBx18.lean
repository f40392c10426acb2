/- Part 18 of the texts of the claim: Box_11. -/
import Derived.Test.YtpkldjlljoledaaDoorBx15

/- The walk of DriverBoxes, one of three cases. -/
namespace Go.Proofs.YtpkldjlljoledaaDoor
open Go.RowKit
open Calm (bcell Blk)
set_option maxRecDepth 100000 in
set_option maxHeartbeats 16000000 in
theorem box_11 (d1 d2 d3 d4 d5 d6 x1 x2 x3 x4 q0 de we bad xe : Int) (w : World) (hL : Lim w)
    (HBx : Hid (∀ W : World, Lim W → Calls Tryd.prog 25 #[.agg #[(.int .i64 (d1)), (.int .i64 (d2)), (.int .i64 (d3)), (.int .i64 (d4)), (.int .i64 (d5)), (.int .i64 (d6))], .agg #[(.int .i64 (x1)), (.int .i64 (x2)), (.int .i64 (x3)), (.int .i64 (x4))], (.int .i64 (q0))] W fun r w' => r = .returned (.tuple #[.agg #[(.int .i64 (0)), (.int .i64 (0)), (.int .i64 (0)), (.int .i64 (0))], (.int .i64 (bad))]) ∧ Below W.heap.size W w'))
    (HRd : Hid (∀ W : World, Lim W → Calls Tryd.prog 26 #[.agg #[(.int .i64 (d1)), (.int .i64 (d2)), (.int .i64 (d3)), (.int .i64 (d4)), (.int .i64 (d5)), (.int .i64 (d6))], .agg #[(.int .i64 (x1)), (.int .i64 (x2)), (.int .i64 (x3)), (.int .i64 (x4))], (.int .i64 (q0))] W fun r w' => r = .returned (.tuple #[.agg #[(.int .i64 (0)), (.int .i64 (0)), (.int .i64 (0)), (.int .i64 (0))], (.int .i64 (bad))]) ∧ Below W.heap.size W w'))
    (HMv : Hid (∀ W : World, Lim W → Calls Tryd.prog 27 #[.agg #[(.int .i64 (d1)), (.int .i64 (d2)), (.int .i64 (d3)), (.int .i64 (d4)), (.int .i64 (d5)), (.int .i64 (d6))], .agg #[(.int .i64 (x1)), (.int .i64 (x2)), (.int .i64 (x3)), (.int .i64 (x4))], (.int .i64 (q0))] W fun r w' => r = .returned (.tuple #[.agg #[(.int .i64 (0)), (.int .i64 (0)), (.int .i64 (0)), (.int .i64 (0)), (.int .i64 (0)), (.int .i64 (0)), (.int .i64 (0)), (.int .i64 (0))], (.int .i64 (bad))]) ∧ Below W.heap.size W w'))
    (HTu : Hid (∀ W : World, Calls Tryd.prog 28 #[.agg #[(.int .i64 (x1)), (.int .i64 (x2)), (.int .i64 (x3)), (.int .i64 (x4))]] W fun r w' => r = .returned (.tuple #[.agg #[(.int .i64 (0)), (.int .i64 (0))], (.int .i64 (xe))]) ∧ Below W.heap.size W w'))
    (HCD : Hid (∀ W : World, Calls Tryd.prog 17 #[.agg #[(.int .i64 (d1)), (.int .i64 (d2)), (.int .i64 (d3)), (.int .i64 (d4)), (.int .i64 (d5)), (.int .i64 (d6))]] W fun r w' => r = .returned ((.int .i64 (de))) ∧ Below W.heap.size W w'))
    (HCB : Hid (∀ W : World, Calls Tryd.prog 29 #[.agg #[(.int .i64 (x1)), (.int .i64 (x2)), (.int .i64 (x3)), (.int .i64 (x4))]] W fun r w' => r = .returned ((.int .i64 (xe))) ∧ Below W.heap.size W w'))
    (HPB : Hid (∀ W : World, Calls Tryd.prog 34 #[.agg #[(.int .i64 (x1)), (.int .i64 (x2)), (.int .i64 (x3)), (.int .i64 (x4))]] W fun r w' => r = .returned ((.int .i64 (xe))) ∧ Below W.heap.size W w'))
    (HW : Hid (∀ W : World, Calls Tryd.prog 18 #[(.int .i64 (q0))] W fun r w' => r = .returned (.int .i64 (we)) ∧ W = w'))
    (HF : Hid (∀ W : World, Calls Tryd.prog 16 #[.slice (some ⟨W.heap.size, 0, none⟩) 3 3] (W.alloc (.cells #[(.int .i64 (de)), (.int .i64 (xe)), (.int .i64 (we))] 3)) fun r w' => r = .returned (.int .i64 (bad)) ∧ W.alloc (.cells #[(.int .i64 (de)), (.int .i64 (xe)), (.int .i64 (we))] 3) = w'))
    (HQ1 : Hid (∀ W : World, Calls Tryd.prog 24 #[.agg #[(.int .i64 (0)), (.int .i64 (0)), (.int .i64 (0)), (.int .i64 (0))], (.int .i64 (bad)), (.int .i64 (bad)), .agg #[(.int .i64 (0)), (.int .i64 (0)), (.int .i64 (0)), (.int .i64 (0))]] W fun r w' => r = .returned (.bool true) ∧ Below W.heap.size W w'))
    (HQ2 : Hid (∀ W : World, Calls Tryd.prog 24 #[.agg #[(.int .i64 (0)), (.int .i64 (0)), (.int .i64 (0)), (.int .i64 (0))], (.int .i64 (bad)), (.int .i64 (bad)), .agg #[(.int .i64 (0)), (.int .i64 (0)), (.int .i64 (0)), (.int .i64 (0))]] W fun r w' => r = .returned (.bool true) ∧ Below W.heap.size W w'))
    (HQ3 : Hid (∀ W : World, Calls Tryd.prog 24 #[.agg #[(.int .i64 (0)), (.int .i64 (0)), (.int .i64 (0)), (.int .i64 (0))], (.int .i64 (bad)), (.int .i64 (bad)), .agg #[(.int .i64 (0)), (.int .i64 (0)), (.int .i64 (0)), (.int .i64 (0))]] W fun r w' => r = .returned (.bool true) ∧ Below W.heap.size W w'))
    (HQ4 : Hid (∀ W : World, Calls Tryd.prog 24 #[.agg #[(.int .i64 (0)), (.int .i64 (0)), (.int .i64 (0)), (.int .i64 (0))], (.int .i64 (bad)), (.int .i64 (bad)), .agg #[(.int .i64 (0)), (.int .i64 (0)), (.int .i64 (0)), (.int .i64 (0))]] W fun r w' => r = .returned (.bool true) ∧ Below W.heap.size W w'))
    (HQ5 : Hid (∀ W : World, Calls Tryd.prog 35 #[.agg #[(.int .i64 (0)), (.int .i64 (0))], (.int .i64 (xe)), (.int .i64 (xe)), .agg #[(.int .i64 (0)), (.int .i64 (0))]] W fun r w' => r = .returned (.bool true) ∧ Below W.heap.size W w'))
    (hbad : ¬ bad = 0)
    (hxe : ¬ xe = 0)
    : Calls Tryd.prog 4 #[.agg #[(.int .i64 (d1)), (.int .i64 (d2)), (.int .i64 (d3)), (.int .i64 (d4)), (.int .i64 (d5)), (.int .i64 (d6))], .agg #[(.int .i64 (x1)), (.int .i64 (x2)), (.int .i64 (x3)), (.int .i64 (x4))], (.int .i64 (q0))] w fun r w' => r = .returned (.bool true) ∧ Below w.heap.size w w' := by
  have hB0 := Below.refl w.heap.size w
  go_enter Tryd.func4, Tryd.ntmps4
  go_wp2_with (go_at_call 11; refine (awake_any _ (hL.below ((hB0.alloc hB0.size _).alloc (Nat.le_trans hB0.size (by simp; try omega)) _))).mono ?_; rintro r w1 ⟨rfl, h1⟩; refine Hid.out ?_)
  unfold Hid
  have hB1 := ((hB0.alloc hB0.size _).alloc (Nat.le_trans hB0.size (by simp; try omega)) _).trans (h1.mono (Nat.le_trans hB0.size (by simp; try omega)))
  have KD_1 := Lib.hid (show Blk w1 (w.heap.size) #[(.int .i64 (d1)), (.int .i64 (d2)), (.int .i64 (d3)), (.int .i64 (d4)), (.int .i64 (d5)), (.int .i64 (d6))] from ((Calm.Blk.new _ _ #[(.int .i64 (d1)), (.int .i64 (d2)), (.int .i64 (d3)), (.int .i64 (d4)), (.int .i64 (d5)), (.int .i64 (d6))]).alloc _).below h1)
  have KX_1 := Lib.hid (show Blk w1 (w.heap.size + 1) #[(.int .i64 (x1)), (.int .i64 (x2)), (.int .i64 (x3)), (.int .i64 (x4))] by have := (Calm.Blk.new _ _ #[(.int .i64 (x1)), (.int .i64 (x2)), (.int .i64 (x3)), (.int .i64 (x4))]).below h1; simpa using this)
  clear h1 hB0
  have fD_0 := KD_1.out.cell 0 (.int .i64 (d1)) rfl
  have fD_1 := KD_1.out.cell 1 (.int .i64 (d2)) rfl
  have fD_2 := KD_1.out.cell 2 (.int .i64 (d3)) rfl
  have fD_3 := KD_1.out.cell 3 (.int .i64 (d4)) rfl
  have fD_4 := KD_1.out.cell 4 (.int .i64 (d5)) rfl
  have fD_5 := KD_1.out.cell 5 (.int .i64 (d6)) rfl
  have fD_l := KD_1.out.lt
  have fD_f := KD_1.out.f
  have fD_l0_1 : w.heap.size < w1.heap.size + 1 := by omega
  have fD_l0_2 : w.heap.size < w1.heap.size + 1 + 1 := by omega
  have fX_0 := KX_1.out.cell 0 (.int .i64 (x1)) rfl
  have fX_1 := KX_1.out.cell 1 (.int .i64 (x2)) rfl
  have fX_2 := KX_1.out.cell 2 (.int .i64 (x3)) rfl
  have fX_3 := KX_1.out.cell 3 (.int .i64 (x4)) rfl
  have fX_l := KX_1.out.lt
  have fX_f := KX_1.out.f
  have fX_l0 : w.heap.size < w1.heap.size := by omega
  have fX_l0_1 : w.heap.size < w1.heap.size + 1 := by omega
  have fX_l0_2 : w.heap.size < w1.heap.size + 1 + 1 := by omega
  have fX_l1_1 : w.heap.size + 1 < w1.heap.size + 1 := by omega
  have fX_l1_2 : w.heap.size + 1 < w1.heap.size + 1 + 1 := by omega
  go_wp2_with (go_at_call 25; refine (HBx.out _ (hL.below hB1)).mono ?_; rintro r w2 ⟨rfl, h2⟩; refine Hid.out ?_)
  unfold Hid
  have hB2 := hB1.trans (h2.mono hB1.size)
  have KD_2 := Lib.hid (show Blk w2 (w.heap.size) #[(.int .i64 (d1)), (.int .i64 (d2)), (.int .i64 (d3)), (.int .i64 (d4)), (.int .i64 (d5)), (.int .i64 (d6))] from KD_1.out.below h2)
  have KX_2 := Lib.hid (show Blk w2 (w.heap.size + 1) #[(.int .i64 (x1)), (.int .i64 (x2)), (.int .i64 (x3)), (.int .i64 (x4))] from KX_1.out.below h2)
  clear h2 hB1 KD_1 KX_1 fD_0 fD_1 fD_2 fD_3 fD_4 fD_5 fD_l fD_f fD_l0_1 fD_l0_2 fX_0 fX_1 fX_2 fX_3 fX_l fX_f fX_l0 fX_l0_1 fX_l0_2 fX_l1_1 fX_l1_2
  have fD_0 := KD_2.out.cell 0 (.int .i64 (d1)) rfl
  have fD_1 := KD_2.out.cell 1 (.int .i64 (d2)) rfl
  have fD_2 := KD_2.out.cell 2 (.int .i64 (d3)) rfl
  have fD_3 := KD_2.out.cell 3 (.int .i64 (d4)) rfl
  have fD_4 := KD_2.out.cell 4 (.int .i64 (d5)) rfl
  have fD_5 := KD_2.out.cell 5 (.int .i64 (d6)) rfl
  have fD_l := KD_2.out.lt
  have fD_f := KD_2.out.f
  have fD_l0_1 : w.heap.size < w2.heap.size + 1 := by omega
  have fD_l0_2 : w.heap.size < w2.heap.size + 1 + 1 := by omega
  have fX_0 := KX_2.out.cell 0 (.int .i64 (x1)) rfl
  have fX_1 := KX_2.out.cell 1 (.int .i64 (x2)) rfl
  have fX_2 := KX_2.out.cell 2 (.int .i64 (x3)) rfl
  have fX_3 := KX_2.out.cell 3 (.int .i64 (x4)) rfl
  have fX_l := KX_2.out.lt
  have fX_f := KX_2.out.f
  have fX_l0 : w.heap.size < w2.heap.size := by omega
  have fX_l0_1 : w.heap.size < w2.heap.size + 1 := by omega
  have fX_l0_2 : w.heap.size < w2.heap.size + 1 + 1 := by omega
  have fX_l1_1 : w.heap.size + 1 < w2.heap.size + 1 := by omega
  have fX_l1_2 : w.heap.size + 1 < w2.heap.size + 1 + 1 := by omega
  go_wp2_with (go_at_call 26; refine (HRd.out _ (hL.below (hB2.alloc hB2.size _))).mono ?_; rintro r w3 ⟨rfl, h3⟩; refine Hid.out ?_)
  unfold Hid
  have hB3 := (hB2.alloc hB2.size _).trans (h3.mono (Nat.le_trans hB2.size (by simp; try omega)))
  have oD_3 : w.heap.size < w2.heap.size := KD_2.out.lt
  have oX_3 : w.heap.size + 1 < w2.heap.size := KX_2.out.lt
  have KD_3 := Lib.hid (show Blk w3 (w.heap.size) #[(.int .i64 (d1)), (.int .i64 (d2)), (.int .i64 (d3)), (.int .i64 (d4)), (.int .i64 (d5)), (.int .i64 (d6))] from (KD_2.out.alloc _).below h3)
  have KX_3 := Lib.hid (show Blk w3 (w.heap.size + 1) #[(.int .i64 (x1)), (.int .i64 (x2)), (.int .i64 (x3)), (.int .i64 (x4))] from (KX_2.out.alloc _).below h3)
  have Kz_3 := Lib.hid (show Blk w3 (w2.heap.size) #[(.int .i64 (0)), (.int .i64 (0)), (.int .i64 (0)), (.int .i64 (0))] from (Calm.Blk.new _ _ #[(.int .i64 (0)), (.int .i64 (0)), (.int .i64 (0)), (.int .i64 (0))]).below h3)
  clear h3 hB2 KD_2 KX_2 fD_0 fD_1 fD_2 fD_3 fD_4 fD_5 fD_l fD_f fD_l0_1 fD_l0_2 fX_0 fX_1 fX_2 fX_3 fX_l fX_f fX_l0 fX_l0_1 fX_l0_2 fX_l1_1 fX_l1_2
  have fD_0 := KD_3.out.cell 0 (.int .i64 (d1)) rfl
  have fD_1 := KD_3.out.cell 1 (.int .i64 (d2)) rfl
  have fD_2 := KD_3.out.cell 2 (.int .i64 (d3)) rfl
  have fD_3 := KD_3.out.cell 3 (.int .i64 (d4)) rfl
  have fD_4 := KD_3.out.cell 4 (.int .i64 (d5)) rfl
  have fD_5 := KD_3.out.cell 5 (.int .i64 (d6)) rfl
  have fD_l := KD_3.out.lt
  have fD_f := KD_3.out.f
  have fD_l0_1 : w.heap.size < w3.heap.size + 1 := by omega
  have fD_l0_2 : w.heap.size < w3.heap.size + 1 + 1 := by omega
  have fX_0 := KX_3.out.cell 0 (.int .i64 (x1)) rfl
  have fX_1 := KX_3.out.cell 1 (.int .i64 (x2)) rfl
  have fX_2 := KX_3.out.cell 2 (.int .i64 (x3)) rfl
  have fX_3 := KX_3.out.cell 3 (.int .i64 (x4)) rfl
  have fX_l := KX_3.out.lt
  have fX_f := KX_3.out.f
  have fX_l0 : w.heap.size < w3.heap.size := by omega
  have fX_l0_1 : w.heap.size < w3.heap.size + 1 := by omega
  have fX_l0_2 : w.heap.size < w3.heap.size + 1 + 1 := by omega
  have fX_l1_1 : w.heap.size + 1 < w3.heap.size + 1 := by omega
  have fX_l1_2 : w.heap.size + 1 < w3.heap.size + 1 + 1 := by omega
  go_wp2_with (go_at_call 27; refine (HMv.out _ (hL.below (hB3.alloc hB3.size _))).mono ?_; rintro r w4 ⟨rfl, h4⟩; refine Hid.out ?_)
  unfold Hid
  have hB4 := (hB3.alloc hB3.size _).trans (h4.mono (Nat.le_trans hB3.size (by simp; try omega)))
  have oD_4 : w.heap.size < w3.heap.size := KD_3.out.lt
  have oX_4 : w.heap.size + 1 < w3.heap.size := KX_3.out.lt
  have oz_4 : w2.heap.size < w3.heap.size := Kz_3.out.lt
  have KD_4 := Lib.hid (show Blk w4 (w.heap.size) #[(.int .i64 (d1)), (.int .i64 (d2)), (.int .i64 (d3)), (.int .i64 (d4)), (.int .i64 (d5)), (.int .i64 (d6))] from (KD_3.out.alloc _).below h4)
  have KX_4 := Lib.hid (show Blk w4 (w.heap.size + 1) #[(.int .i64 (x1)), (.int .i64 (x2)), (.int .i64 (x3)), (.int .i64 (x4))] from (KX_3.out.alloc _).below h4)
  have Kz_4 := Lib.hid (show Blk w4 (w2.heap.size) #[(.int .i64 (0)), (.int .i64 (0)), (.int .i64 (0)), (.int .i64 (0))] from (Kz_3.out.alloc _).below h4)
  have Kr_4 := Lib.hid (show Blk w4 (w3.heap.size) #[(.int .i64 (0)), (.int .i64 (0)), (.int .i64 (0)), (.int .i64 (0))] from (Calm.Blk.new _ _ #[(.int .i64 (0)), (.int .i64 (0)), (.int .i64 (0)), (.int .i64 (0))]).below h4)
  clear h4 hB3 KD_3 KX_3 Kz_3 fD_0 fD_1 fD_2 fD_3 fD_4 fD_5 fD_l fD_f fD_l0_1 fD_l0_2 fX_0 fX_1 fX_2 fX_3 fX_l fX_f fX_l0 fX_l0_1 fX_l0_2 fX_l1_1 fX_l1_2
  have fX_0 := KX_4.out.cell 0 (.int .i64 (x1)) rfl
  have fX_1 := KX_4.out.cell 1 (.int .i64 (x2)) rfl
  have fX_2 := KX_4.out.cell 2 (.int .i64 (x3)) rfl
  have fX_3 := KX_4.out.cell 3 (.int .i64 (x4)) rfl
  have fX_l := KX_4.out.lt
  have fX_f := KX_4.out.f
  have fX_l0 : w.heap.size < w4.heap.size := by omega
  have fX_l0_1 : w.heap.size < w4.heap.size + 1 := by omega
  have fX_l0_2 : w.heap.size < w4.heap.size + 1 + 1 := by omega
  have fX_l1_1 : w.heap.size + 1 < w4.heap.size + 1 := by omega
  have fX_l1_2 : w.heap.size + 1 < w4.heap.size + 1 + 1 := by omega
  go_wp2_with (go_at_call 28; refine (HTu.out _).mono ?_; rintro r w5 ⟨rfl, h5⟩; refine Hid.out ?_)
  unfold Hid
  have hB5 := (hB4.alloc hB4.size _).trans (h5.mono (Nat.le_trans hB4.size (by simp; try omega)))
  have oD_5 : w.heap.size < w4.heap.size := KD_4.out.lt
  have oX_5 : w.heap.size + 1 < w4.heap.size := KX_4.out.lt
  have oz_5 : w2.heap.size < w4.heap.size := Kz_4.out.lt
  have or_5 : w3.heap.size < w4.heap.size := Kr_4.out.lt
  have KD_5 := Lib.hid (show Blk w5 (w.heap.size) #[(.int .i64 (d1)), (.int .i64 (d2)), (.int .i64 (d3)), (.int .i64 (d4)), (.int .i64 (d5)), (.int .i64 (d6))] from (KD_4.out.alloc _).below h5)
  have KX_5 := Lib.hid (show Blk w5 (w.heap.size + 1) #[(.int .i64 (x1)), (.int .i64 (x2)), (.int .i64 (x3)), (.int .i64 (x4))] from (KX_4.out.alloc _).below h5)
  have Kz_5 := Lib.hid (show Blk w5 (w2.heap.size) #[(.int .i64 (0)), (.int .i64 (0)), (.int .i64 (0)), (.int .i64 (0))] from (Kz_4.out.alloc _).below h5)
  have Kr_5 := Lib.hid (show Blk w5 (w3.heap.size) #[(.int .i64 (0)), (.int .i64 (0)), (.int .i64 (0)), (.int .i64 (0))] from (Kr_4.out.alloc _).below h5)
  have Km_5 := Lib.hid (show Blk w5 (w4.heap.size) #[(.int .i64 (0)), (.int .i64 (0)), (.int .i64 (0)), (.int .i64 (0)), (.int .i64 (0)), (.int .i64 (0)), (.int .i64 (0)), (.int .i64 (0))] from (Calm.Blk.new _ _ #[(.int .i64 (0)), (.int .i64 (0)), (.int .i64 (0)), (.int .i64 (0)), (.int .i64 (0)), (.int .i64 (0)), (.int .i64 (0)), (.int .i64 (0))]).below h5)
  clear h5 hB4 KD_4 KX_4 Kz_4 Kr_4 fX_0 fX_1 fX_2 fX_3 fX_l fX_f fX_l0 fX_l0_1 fX_l0_2 fX_l1_1 fX_l1_2
  go_wp2
  refine name_world ?_
  intro w6 e6
  have hB6 : Below w.heap.size w w6 := e6.symm ▸ (hB5.alloc hB5.size _)
  have oD_6 : w.heap.size < w5.heap.size := KD_5.out.lt
  have oX_6 : w.heap.size + 1 < w5.heap.size := KX_5.out.lt
  have oz_6 : w2.heap.size < w5.heap.size := Kz_5.out.lt
  have or_6 : w3.heap.size < w5.heap.size := Kr_5.out.lt
  have om_6 : w4.heap.size < w5.heap.size := Km_5.out.lt
  have KD_6 := Lib.hid (show Blk w6 (w.heap.size) #[(.int .i64 (d1)), (.int .i64 (d2)), (.int .i64 (d3)), (.int .i64 (d4)), (.int .i64 (d5)), (.int .i64 (d6))] from e6.symm ▸ (KD_5.out.alloc _))
  have KX_6 := Lib.hid (show Blk w6 (w.heap.size + 1) #[(.int .i64 (x1)), (.int .i64 (x2)), (.int .i64 (x3)), (.int .i64 (x4))] from e6.symm ▸ (KX_5.out.alloc _))
  have Kz_6 := Lib.hid (show Blk w6 (w2.heap.size) #[(.int .i64 (0)), (.int .i64 (0)), (.int .i64 (0)), (.int .i64 (0))] from e6.symm ▸ (Kz_5.out.alloc _))
  have Kr_6 := Lib.hid (show Blk w6 (w3.heap.size) #[(.int .i64 (0)), (.int .i64 (0)), (.int .i64 (0)), (.int .i64 (0))] from e6.symm ▸ (Kr_5.out.alloc _))
  have Km_6 := Lib.hid (show Blk w6 (w4.heap.size) #[(.int .i64 (0)), (.int .i64 (0)), (.int .i64 (0)), (.int .i64 (0)), (.int .i64 (0)), (.int .i64 (0)), (.int .i64 (0)), (.int .i64 (0))] from e6.symm ▸ (Km_5.out.alloc _))
  have Kt_6 := Lib.hid (show Blk w6 (w5.heap.size) #[(.int .i64 (0)), (.int .i64 (0))] from e6.symm ▸ (Calm.Blk.new _ _ #[(.int .i64 (0)), (.int .i64 (0))]))
  have z6 : w5.heap.size + 1 ≤ w6.heap.size := by rw [e6]; simp
  clear e6 hB5 KD_5 KX_5 Kz_5 Kr_5 Km_5
  have fD_0 := KD_6.out.cell 0 (.int .i64 (d1)) rfl
  have fD_1 := KD_6.out.cell 1 (.int .i64 (d2)) rfl
  have fD_2 := KD_6.out.cell 2 (.int .i64 (d3)) rfl
  have fD_3 := KD_6.out.cell 3 (.int .i64 (d4)) rfl
  have fD_4 := KD_6.out.cell 4 (.int .i64 (d5)) rfl
  have fD_5 := KD_6.out.cell 5 (.int .i64 (d6)) rfl
  have fD_l := KD_6.out.lt
  have fX_0 := KX_6.out.cell 0 (.int .i64 (x1)) rfl
  have fX_1 := KX_6.out.cell 1 (.int .i64 (x2)) rfl
  have fX_2 := KX_6.out.cell 2 (.int .i64 (x3)) rfl
  have fX_3 := KX_6.out.cell 3 (.int .i64 (x4)) rfl
  have fX_l := KX_6.out.lt
  refine Rel.region3 6 (by kernel_rfl) (by kernel_rfl) (by kernel_rfl) ?_
  simp only [List.take_succ_cons, List.take_zero, List.drop_succ_cons, List.drop_zero, List.filterMap_cons, List.filterMap_nil]
  (apply Rel.op3; (focus (first | exact Rel.gno rfl | exact Rel.gyes _ true _ rfl rfl rfl | exact Rel.gyes _ false _ rfl rfl rfl)); (focus (intro a W hb hd hbase; obtain ⟨hc, hf⟩ := bcell hb; clear hb hf; simp [Rel.deps, Rel.dep1, Rel.ons, Region.binds, Act.eval] at hd; simp only [Act.eval, List.mem_cons, List.not_mem_nil, not_or, and_imp, or_false, Array.getD_eq_getD_getElem?] at hbase; go_simp; (try go_bits); (try rfl); done)); (try simp only [List.nil_append, List.cons_append]))
  (apply Rel.call3; (focus (first | exact Rel.gno rfl | exact Rel.gyes _ true _ rfl rfl rfl | exact Rel.gyes _ false _ rfl rfl rfl)); (focus (intro a W hb hd hbase; obtain ⟨hc, hf⟩ := bcell hb; clear hb hf; simp [Rel.deps, Rel.dep1, Rel.ons, Region.binds, Act.eval] at hd; simp only [Act.eval, List.mem_cons, List.not_mem_nil, not_or, and_imp, or_false, Array.getD_eq_getD_getElem?] at hbase; go_simp; refine ⟨?_, ?_⟩; rfl; rfl)); (focus (intro W hb; go_at_call 17; exact HCD.out _)); (try simp only [List.nil_append, List.cons_append]))
  (apply Rel.op3; (focus (first | exact Rel.gno rfl | exact Rel.gyes _ true _ rfl rfl rfl | exact Rel.gyes _ false _ rfl rfl rfl)); (focus (intro a W hb hd hbase; obtain ⟨hc, hf⟩ := bcell hb; clear hb hf; simp [Rel.deps, Rel.dep1, Rel.ons, Region.binds, Act.eval] at hd; simp only [Act.eval, List.mem_cons, List.not_mem_nil, not_or, and_imp, or_false, Array.getD_eq_getD_getElem?] at hbase; go_simp; (try go_bits); (try rfl); done)); (try simp only [List.nil_append, List.cons_append]))
  (apply Rel.call3; (focus (first | exact Rel.gno rfl | exact Rel.gyes _ true _ rfl rfl rfl | exact Rel.gyes _ false _ rfl rfl rfl)); (focus (intro a W hb hd hbase; obtain ⟨hc, hf⟩ := bcell hb; clear hb hf; simp [Rel.deps, Rel.dep1, Rel.ons, Region.binds, Act.eval] at hd; simp only [Act.eval, List.mem_cons, List.not_mem_nil, not_or, and_imp, or_false, Array.getD_eq_getD_getElem?] at hbase; go_simp; refine ⟨?_, ?_⟩; rfl; rfl)); (focus (intro W hb; go_at_call 29; exact HCB.out _)); (try simp only [List.nil_append, List.cons_append]))
  (apply Rel.op3; (focus (first | exact Rel.gno rfl | exact Rel.gyes _ true _ rfl rfl rfl | exact Rel.gyes _ false _ rfl rfl rfl)); (focus (intro a W hb hd hbase; obtain ⟨hc, hf⟩ := bcell hb; clear hb hf; simp [Rel.deps, Rel.dep1, Rel.ons, Region.binds, Act.eval] at hd; simp only [Act.eval, List.mem_cons, List.not_mem_nil, not_or, and_imp, or_false, Array.getD_eq_getD_getElem?] at hbase; go_simp; (try go_bits); (try rfl); done)); (try simp only [List.nil_append, List.cons_append]))
  (apply Rel.call3; (focus (first | exact Rel.gno rfl | exact Rel.gyes _ true _ rfl rfl rfl | exact Rel.gyes _ false _ rfl rfl rfl)); (focus (intro a W hb hd hbase; obtain ⟨hc, hf⟩ := bcell hb; clear hb hf; simp [Rel.deps, Rel.dep1, Rel.ons, Region.binds, Act.eval] at hd; simp only [Act.eval, List.mem_cons, List.not_mem_nil, not_or, and_imp, or_false, Array.getD_eq_getD_getElem?] at hbase; go_simp; refine ⟨?_, ?_⟩; rfl; rfl)); (focus (intro W hb; go_at_call 18; exact (HW.out _).mono (fun _ _ ⟨he, h2⟩ => ⟨he, h2 ▸ Below.refl _ _⟩))); (try simp only [List.nil_append, List.cons_append]))
  refine Rel.done3 ?_
  intro x w7 h7 hx
  simp only [Rel.facts, Nat.zero_add, Nat.reduceAdd] at hx
  obtain ⟨e0, e1, e2, e3, e4, e5, _⟩ := hx
  simp only [Rel.fill, Nat.zero_add, Nat.reduceAdd, e0, e1, e2, e3, e4, e5]
  simp only [Act.put, List.setIfInBounds_toArray, List.set_cons_zero, List.set_cons_succ]
  clear e0 e1 e2 e3 e4 e5
  have hB7 := hB6.trans (h7.mono hB6.size)
  have KD_7 := Lib.hid (show Blk w7 (w.heap.size) #[(.int .i64 (d1)), (.int .i64 (d2)), (.int .i64 (d3)), (.int .i64 (d4)), (.int .i64 (d5)), (.int .i64 (d6))] from KD_6.out.below h7)
  have KX_7 := Lib.hid (show Blk w7 (w.heap.size + 1) #[(.int .i64 (x1)), (.int .i64 (x2)), (.int .i64 (x3)), (.int .i64 (x4))] from KX_6.out.below h7)
  have Kz_7 := Lib.hid (show Blk w7 (w2.heap.size) #[(.int .i64 (0)), (.int .i64 (0)), (.int .i64 (0)), (.int .i64 (0))] from Kz_6.out.below h7)
  have Kr_7 := Lib.hid (show Blk w7 (w3.heap.size) #[(.int .i64 (0)), (.int .i64 (0)), (.int .i64 (0)), (.int .i64 (0))] from Kr_6.out.below h7)
  have Km_7 := Lib.hid (show Blk w7 (w4.heap.size) #[(.int .i64 (0)), (.int .i64 (0)), (.int .i64 (0)), (.int .i64 (0)), (.int .i64 (0)), (.int .i64 (0)), (.int .i64 (0)), (.int .i64 (0))] from Km_6.out.below h7)
  have Kt_7 := Lib.hid (show Blk w7 (w5.heap.size) #[(.int .i64 (0)), (.int .i64 (0))] from Kt_6.out.below h7)
  clear h7 hB6 KD_6 KX_6 Kz_6 Kr_6 Km_6 Kt_6 fD_0 fD_1 fD_2 fD_3 fD_4 fD_5 fD_l fX_0 fX_1 fX_2 fX_3 fX_l
  have fX_0 := KX_7.out.cell 0 (.int .i64 (x1)) rfl
  have fX_1 := KX_7.out.cell 1 (.int .i64 (x2)) rfl
  have fX_2 := KX_7.out.cell 2 (.int .i64 (x3)) rfl
  have fX_3 := KX_7.out.cell 3 (.int .i64 (x4)) rfl
  have fX_l := KX_7.out.lt
  have fX_f := KX_7.out.f
  have fX_l0 : w.heap.size < w7.heap.size := by omega
  have fX_l0_1 : w.heap.size < w7.heap.size + 1 := by omega
  have fX_l0_2 : w.heap.size < w7.heap.size + 1 + 1 := by omega
  have fX_l1_1 : w.heap.size + 1 < w7.heap.size + 1 := by omega
  have fX_l1_2 : w.heap.size + 1 < w7.heap.size + 1 + 1 := by omega
  go_wp2_with (first | (go_at_call 16; refine (HF.out _).mono ?_; rintro r wq ⟨rfl, rfl⟩) | (go_at_call 29; refine (HCB.out _).mono ?_; rintro r w8 ⟨rfl, h8⟩; refine Hid.out ?_))
  unfold Hid
  have hB8 := (hB7.alloc hB7.size _).trans (h8.mono (Nat.le_trans hB7.size (by simp; try omega)))
  have oD_8 : w.heap.size < w7.heap.size := KD_7.out.lt
  have oX_8 : w.heap.size + 1 < w7.heap.size := KX_7.out.lt
  have oz_8 : w2.heap.size < w7.heap.size := Kz_7.out.lt
  have or_8 : w3.heap.size < w7.heap.size := Kr_7.out.lt
  have om_8 : w4.heap.size < w7.heap.size := Km_7.out.lt
  have ot_8 : w5.heap.size < w7.heap.size := Kt_7.out.lt
  have KD_8 := Lib.hid (show Blk w8 (w.heap.size) #[(.int .i64 (d1)), (.int .i64 (d2)), (.int .i64 (d3)), (.int .i64 (d4)), (.int .i64 (d5)), (.int .i64 (d6))] from (KD_7.out.alloc _).below h8)
  have KX_8 := Lib.hid (show Blk w8 (w.heap.size + 1) #[(.int .i64 (x1)), (.int .i64 (x2)), (.int .i64 (x3)), (.int .i64 (x4))] from (KX_7.out.alloc _).below h8)
  have Kz_8 := Lib.hid (show Blk w8 (w2.heap.size) #[(.int .i64 (0)), (.int .i64 (0)), (.int .i64 (0)), (.int .i64 (0))] from (Kz_7.out.alloc _).below h8)
  have Kr_8 := Lib.hid (show Blk w8 (w3.heap.size) #[(.int .i64 (0)), (.int .i64 (0)), (.int .i64 (0)), (.int .i64 (0))] from (Kr_7.out.alloc _).below h8)
  have Km_8 := Lib.hid (show Blk w8 (w4.heap.size) #[(.int .i64 (0)), (.int .i64 (0)), (.int .i64 (0)), (.int .i64 (0)), (.int .i64 (0)), (.int .i64 (0)), (.int .i64 (0)), (.int .i64 (0))] from (Km_7.out.alloc _).below h8)
  have Kt_8 := Lib.hid (show Blk w8 (w5.heap.size) #[(.int .i64 (0)), (.int .i64 (0))] from (Kt_7.out.alloc _).below h8)
  clear h8 hB7 KD_7 KX_7 Kz_7 Kr_7 Km_7 Kt_7 fX_0 fX_1 fX_2 fX_3 fX_l fX_f fX_l0 fX_l0_1 fX_l0_2 fX_l1_1 fX_l1_2
  have fX_0 := KX_8.out.cell 0 (.int .i64 (x1)) rfl
  have fX_1 := KX_8.out.cell 1 (.int .i64 (x2)) rfl
  have fX_2 := KX_8.out.cell 2 (.int .i64 (x3)) rfl
  have fX_3 := KX_8.out.cell 3 (.int .i64 (x4)) rfl
  have fX_l := KX_8.out.lt
  have fX_f := KX_8.out.f
  have fX_l0 : w.heap.size < w8.heap.size := by omega
  have fX_l0_1 : w.heap.size < w8.heap.size + 1 := by omega
  have fX_l0_2 : w.heap.size < w8.heap.size + 1 + 1 := by omega
  have fX_l0_3 : w.heap.size < w8.heap.size + 1 + 1 + 1 := by omega
  have fX_l0_4 : w.heap.size < w8.heap.size + 1 + 1 + 1 + 1 := by omega
  have fX_l0_5 : w.heap.size < w8.heap.size + 1 + 1 + 1 + 1 + 1 := by omega
  have fX_l1_1 : w.heap.size + 1 < w8.heap.size + 1 := by omega
  have fX_l1_2 : w.heap.size + 1 < w8.heap.size + 1 + 1 := by omega
  have fX_l1_3 : w.heap.size + 1 < w8.heap.size + 1 + 1 + 1 := by omega
  have fX_l1_4 : w.heap.size + 1 < w8.heap.size + 1 + 1 + 1 + 1 := by omega
  have fX_l1_5 : w.heap.size + 1 < w8.heap.size + 1 + 1 + 1 + 1 + 1 := by omega
  go_wp2
  refine name_world ?_
  intro w9 e9
  have hB9 : Below w.heap.size w w9 := e9.symm ▸ ((((hB8.alloc hB8.size _).alloc (Nat.le_trans hB8.size (by simp; try omega)) _).alloc (Nat.le_trans hB8.size (by simp; try omega)) _).alloc (Nat.le_trans hB8.size (by simp; try omega)) _)
  have oD_9 : w.heap.size < w8.heap.size := KD_8.out.lt
  have oX_9 : w.heap.size + 1 < w8.heap.size := KX_8.out.lt
  have oz_9 : w2.heap.size < w8.heap.size := Kz_8.out.lt
  have or_9 : w3.heap.size < w8.heap.size := Kr_8.out.lt
  have om_9 : w4.heap.size < w8.heap.size := Km_8.out.lt
  have ot_9 : w5.heap.size < w8.heap.size := Kt_8.out.lt
  have KD_9 := Lib.hid (show Blk w9 (w.heap.size) #[(.int .i64 (d1)), (.int .i64 (d2)), (.int .i64 (d3)), (.int .i64 (d4)), (.int .i64 (d5)), (.int .i64 (d6))] from e9.symm ▸ ((((KD_8.out.alloc _).alloc _).alloc _).alloc _))
  have KX_9 := Lib.hid (show Blk w9 (w.heap.size + 1) #[(.int .i64 (x1)), (.int .i64 (x2)), (.int .i64 (x3)), (.int .i64 (x4))] from e9.symm ▸ ((((KX_8.out.alloc _).alloc _).alloc _).alloc _))
  have Kz_9 := Lib.hid (show Blk w9 (w2.heap.size) #[(.int .i64 (0)), (.int .i64 (0)), (.int .i64 (0)), (.int .i64 (0))] from e9.symm ▸ ((((Kz_8.out.alloc _).alloc _).alloc _).alloc _))
  have Kr_9 := Lib.hid (show Blk w9 (w3.heap.size) #[(.int .i64 (0)), (.int .i64 (0)), (.int .i64 (0)), (.int .i64 (0))] from e9.symm ▸ ((((Kr_8.out.alloc _).alloc _).alloc _).alloc _))
  have Km_9 := Lib.hid (show Blk w9 (w4.heap.size) #[(.int .i64 (0)), (.int .i64 (0)), (.int .i64 (0)), (.int .i64 (0)), (.int .i64 (0)), (.int .i64 (0)), (.int .i64 (0)), (.int .i64 (0))] from e9.symm ▸ ((((Km_8.out.alloc _).alloc _).alloc _).alloc _))
  have Kt_9 := Lib.hid (show Blk w9 (w5.heap.size) #[(.int .i64 (0)), (.int .i64 (0))] from e9.symm ▸ ((((Kt_8.out.alloc _).alloc _).alloc _).alloc _))
  have KZ_9 := Lib.hid (show Blk w9 (w8.heap.size) #[(.int .i64 (0)), (.int .i64 (0)), (.int .i64 (0)), (.int .i64 (0))] from e9.symm ▸ ((((Calm.Blk.new _ _ #[(.int .i64 (0)), (.int .i64 (0)), (.int .i64 (0)), (.int .i64 (0))]).alloc _).alloc _).alloc _))
  have KR_9 := Lib.hid (show Blk w9 (w8.heap.size + 1) #[(.int .i64 (0)), (.int .i64 (0)), (.int .i64 (0)), (.int .i64 (0))] by rw [e9]; (repeat (first | ((with_reducible refine Blk.at_ ?_); focus (first | rfl | (simp; done) | (simp; omega))) | (with_reducible refine Blk.alloc ?_ _) | (with_reducible refine Blk.below ?_ (by with_reducible assumption)) | (with_reducible refine Blk.drew ?_))))
  have KM_9 := Lib.hid (show Blk w9 (w8.heap.size + 1 + 1) #[(.int .i64 (0)), (.int .i64 (0)), (.int .i64 (0)), (.int .i64 (0)), (.int .i64 (0)), (.int .i64 (0)), (.int .i64 (0)), (.int .i64 (0))] by rw [e9]; (repeat (first | ((with_reducible refine Blk.at_ ?_); focus (first | rfl | (simp; done) | (simp; omega))) | (with_reducible refine Blk.alloc ?_ _) | (with_reducible refine Blk.below ?_ (by with_reducible assumption)) | (with_reducible refine Blk.drew ?_))))
  have KT_9 := Lib.hid (show Blk w9 (w8.heap.size + 1 + 1 + 1) #[(.int .i64 (0)), (.int .i64 (0))] by rw [e9]; (repeat (first | ((with_reducible refine Blk.at_ ?_); focus (first | rfl | (simp; done) | (simp; omega))) | (with_reducible refine Blk.alloc ?_ _) | (with_reducible refine Blk.below ?_ (by with_reducible assumption)) | (with_reducible refine Blk.drew ?_))))
  have z9 : w8.heap.size + 1 + 1 + 1 + 1 ≤ w9.heap.size := by rw [e9]; simp
  clear e9 hB8 KD_8 KX_8 Kz_8 Kr_8 Km_8 Kt_8 fX_0 fX_1 fX_2 fX_3 fX_l fX_f fX_l0 fX_l0_1 fX_l0_2 fX_l0_3 fX_l0_4 fX_l0_5 fX_l1_1 fX_l1_2 fX_l1_3 fX_l1_4 fX_l1_5
  have fD_0 := KD_9.out.cell 0 (.int .i64 (d1)) rfl
  have fD_1 := KD_9.out.cell 1 (.int .i64 (d2)) rfl
  have fD_2 := KD_9.out.cell 2 (.int .i64 (d3)) rfl
  have fD_3 := KD_9.out.cell 3 (.int .i64 (d4)) rfl
  have fD_4 := KD_9.out.cell 4 (.int .i64 (d5)) rfl
  have fD_5 := KD_9.out.cell 5 (.int .i64 (d6)) rfl
  have fD_l := KD_9.out.lt
  have fX_0 := KX_9.out.cell 0 (.int .i64 (x1)) rfl
  have fX_1 := KX_9.out.cell 1 (.int .i64 (x2)) rfl
  have fX_2 := KX_9.out.cell 2 (.int .i64 (x3)) rfl
  have fX_3 := KX_9.out.cell 3 (.int .i64 (x4)) rfl
  have fX_l := KX_9.out.lt
  have fz_0 := Kz_9.out.cell 0 (.int .i64 (0)) rfl
  have fz_1 := Kz_9.out.cell 1 (.int .i64 (0)) rfl
  have fz_2 := Kz_9.out.cell 2 (.int .i64 (0)) rfl
  have fz_3 := Kz_9.out.cell 3 (.int .i64 (0)) rfl
  have fz_l := Kz_9.out.lt
  have fZ_0 := KZ_9.out.cell 0 (.int .i64 (0)) rfl
  have fZ_1 := KZ_9.out.cell 1 (.int .i64 (0)) rfl
  have fZ_2 := KZ_9.out.cell 2 (.int .i64 (0)) rfl
  have fZ_3 := KZ_9.out.cell 3 (.int .i64 (0)) rfl
  have fZ_l := KZ_9.out.lt
  have fr_0 := Kr_9.out.cell 0 (.int .i64 (0)) rfl
  have fr_1 := Kr_9.out.cell 1 (.int .i64 (0)) rfl
  have fr_2 := Kr_9.out.cell 2 (.int .i64 (0)) rfl
  have fr_3 := Kr_9.out.cell 3 (.int .i64 (0)) rfl
  have fr_l := Kr_9.out.lt
  have fR_0 := KR_9.out.cell 0 (.int .i64 (0)) rfl
  have fR_1 := KR_9.out.cell 1 (.int .i64 (0)) rfl
  have fR_2 := KR_9.out.cell 2 (.int .i64 (0)) rfl
  have fR_3 := KR_9.out.cell 3 (.int .i64 (0)) rfl
  have fR_l := KR_9.out.lt
  have fm_0 := Km_9.out.cell 0 (.int .i64 (0)) rfl
  have fm_1 := Km_9.out.cell 1 (.int .i64 (0)) rfl
  have fm_2 := Km_9.out.cell 2 (.int .i64 (0)) rfl
  have fm_3 := Km_9.out.cell 3 (.int .i64 (0)) rfl
  have fm_4 := Km_9.out.cell 4 (.int .i64 (0)) rfl
  have fm_5 := Km_9.out.cell 5 (.int .i64 (0)) rfl
  have fm_6 := Km_9.out.cell 6 (.int .i64 (0)) rfl
  have fm_7 := Km_9.out.cell 7 (.int .i64 (0)) rfl
  have fm_l := Km_9.out.lt
  have fM_0 := KM_9.out.cell 0 (.int .i64 (0)) rfl
  have fM_1 := KM_9.out.cell 1 (.int .i64 (0)) rfl
  have fM_2 := KM_9.out.cell 2 (.int .i64 (0)) rfl
  have fM_3 := KM_9.out.cell 3 (.int .i64 (0)) rfl
  have fM_4 := KM_9.out.cell 4 (.int .i64 (0)) rfl
  have fM_5 := KM_9.out.cell 5 (.int .i64 (0)) rfl
  have fM_6 := KM_9.out.cell 6 (.int .i64 (0)) rfl
  have fM_7 := KM_9.out.cell 7 (.int .i64 (0)) rfl
  have fM_l := KM_9.out.lt
  have ft_0 := Kt_9.out.cell 0 (.int .i64 (0)) rfl
  have ft_1 := Kt_9.out.cell 1 (.int .i64 (0)) rfl
  have ft_l := Kt_9.out.lt
  have fT_0 := KT_9.out.cell 0 (.int .i64 (0)) rfl
  have fT_1 := KT_9.out.cell 1 (.int .i64 (0)) rfl
  have fT_l := KT_9.out.lt
  clear HBx HRd HMv HTu HCD HW HF
  refine Rel.region3 44 (by kernel_rfl) (by kernel_rfl) (by kernel_rfl) ?_
  simp only [List.take_succ_cons, List.take_zero, List.drop_succ_cons, List.drop_zero, List.filterMap_cons, List.filterMap_nil]
  (apply Rel.op3; (focus (first | exact Rel.gno rfl | exact Rel.gyes _ true _ rfl rfl rfl | exact Rel.gyes _ false _ rfl rfl rfl)); (focus (intro a W hb hd hbase; obtain ⟨hc, hf⟩ := bcell hb; clear hb hf; simp [Rel.deps, Rel.dep1, Rel.ons, Region.binds, Act.eval] at hd; simp only [Act.eval, List.mem_cons, List.not_mem_nil, not_or, and_imp, or_false, Array.getD_eq_getD_getElem?] at hbase; go_simp; (try go_bits); (try rfl); done)); (try simp only [List.nil_append, List.cons_append]))
  (apply Rel.call3; (focus (first | exact Rel.gno rfl | exact Rel.gyes _ true _ rfl rfl rfl | exact Rel.gyes _ false _ rfl rfl rfl)); (focus (intro a W hb hd hbase; obtain ⟨hc, hf⟩ := bcell hb; clear hb hf; simp [Rel.deps, Rel.dep1, Rel.ons, Region.binds, Act.eval] at hd; simp only [Act.eval, List.mem_cons, List.not_mem_nil, not_or, and_imp, or_false, Array.getD_eq_getD_getElem?] at hbase; go_simp; refine ⟨?_, ?_⟩; rfl; rfl)); (focus (intro W hb; go_at_call 34; exact HPB.out _)); (try simp only [List.nil_append, List.cons_append]))
  (apply Rel.op3; (focus (first | exact Rel.gno rfl | exact Rel.gyes _ true _ rfl rfl rfl | exact Rel.gyes _ false _ rfl rfl rfl)); (focus (intro a W hb hd hbase; obtain ⟨hc, hf⟩ := bcell hb; clear hb hf; simp [Rel.deps, Rel.dep1, Rel.ons, Region.binds, Act.eval] at hd; simp only [Act.eval, List.mem_cons, List.not_mem_nil, not_or, and_imp, or_false, Array.getD_eq_getD_getElem?] at hbase; go_simp; (try go_bits); (try rfl); done)); (try simp only [List.nil_append, List.cons_append]))
  (apply Rel.call3; (focus (first | exact Rel.gno rfl | exact Rel.gyes _ true _ rfl rfl rfl | exact Rel.gyes _ false _ rfl rfl rfl)); (focus (intro a W hb hd hbase; obtain ⟨hc, hf⟩ := bcell hb; clear hb hf; simp [Rel.deps, Rel.dep1, Rel.ons, Region.binds, Act.eval] at hd; simp only [Act.eval, List.mem_cons, List.not_mem_nil, not_or, and_imp, or_false, Array.getD_eq_getD_getElem?] at hbase; go_simp; refine ⟨?_, ?_⟩; rfl; rfl)); (focus (intro W hb; go_at_call 29; exact HCB.out _)); (try simp only [List.nil_append, List.cons_append]))
  (apply Rel.op3 (.bool true); (focus (first | exact Rel.gno rfl | exact Rel.gyes _ true _ rfl rfl rfl | exact Rel.gyes _ false _ rfl rfl rfl)); (focus (intro a W hb hd hbase; obtain ⟨hc, hf⟩ := bcell hb; clear hb hf; simp [Rel.deps, Rel.dep1, Rel.ons, Region.binds, Act.eval] at hd; simp only [Act.eval, List.mem_cons, List.not_mem_nil, not_or, and_imp, or_false, Array.getD_eq_getD_getElem?] at hbase; go_simp; (try go_bits); (try rfl); done)); (try simp only [List.nil_append, List.cons_append]))
  (apply Rel.op3; (focus (first | exact Rel.gno rfl | exact Rel.gyes _ true _ rfl rfl rfl | exact Rel.gyes _ false _ rfl rfl rfl)); (focus (intro a W hb hd hbase; obtain ⟨hc, hf⟩ := bcell hb; clear hb hf; simp [Rel.deps, Rel.dep1, Rel.ons, Region.binds, Act.eval] at hd; simp only [Act.eval, List.mem_cons, List.not_mem_nil, not_or, and_imp, or_false, Array.getD_eq_getD_getElem?] at hbase; go_simp; (try go_bits); (try rfl); done)); (try simp only [List.nil_append, List.cons_append]))
  (apply Rel.op3; (focus (first | exact Rel.gno rfl | exact Rel.gyes _ true _ rfl rfl rfl | exact Rel.gyes _ false _ rfl rfl rfl)); (focus (intro a W hb hd hbase; obtain ⟨hc, hf⟩ := bcell hb; clear hb hf; simp [Rel.deps, Rel.dep1, Rel.ons, Region.binds, Act.eval] at hd; simp only [Act.eval, List.mem_cons, List.not_mem_nil, not_or, and_imp, or_false, Array.getD_eq_getD_getElem?] at hbase; go_simp; (try go_bits); (try rfl); done)); (try simp only [List.nil_append, List.cons_append]))
  (apply Rel.op3; (focus (first | exact Rel.gno rfl | exact Rel.gyes _ true _ rfl rfl rfl | exact Rel.gyes _ false _ rfl rfl rfl)); (focus (intro a W hb hd hbase; obtain ⟨hc, hf⟩ := bcell hb; clear hb hf; simp [Rel.deps, Rel.dep1, Rel.ons, Region.binds, Act.eval] at hd; simp only [Act.eval, List.mem_cons, List.not_mem_nil, not_or, and_imp, or_false, Array.getD_eq_getD_getElem?] at hbase; go_simp; (try go_bits); (try rfl); done)); (try simp only [List.nil_append, List.cons_append]))
  (apply Rel.op3; (focus (first | exact Rel.gno rfl | exact Rel.gyes _ true _ rfl rfl rfl | exact Rel.gyes _ false _ rfl rfl rfl)); (focus (intro a W hb hd hbase; obtain ⟨hc, hf⟩ := bcell hb; clear hb hf; simp [Rel.deps, Rel.dep1, Rel.ons, Region.binds, Act.eval] at hd; simp only [Act.eval, List.mem_cons, List.not_mem_nil, not_or, and_imp, or_false, Array.getD_eq_getD_getElem?] at hbase; go_simp; (try go_bits); (try rfl); done)); (try simp only [List.nil_append, List.cons_append]))
  (apply Rel.op3; (focus (first | exact Rel.gno rfl | exact Rel.gyes _ true _ rfl rfl rfl | exact Rel.gyes _ false _ rfl rfl rfl)); (focus (intro a W hb hd hbase; obtain ⟨hc, hf⟩ := bcell hb; clear hb hf; simp [Rel.deps, Rel.dep1, Rel.ons, Region.binds, Act.eval] at hd; simp only [Act.eval, List.mem_cons, List.not_mem_nil, not_or, and_imp, or_false, Array.getD_eq_getD_getElem?] at hbase; go_simp; (try go_bits); (try rfl); done)); (try simp only [List.nil_append, List.cons_append]))
  (apply Rel.call3; (focus (first | exact Rel.gno rfl | exact Rel.gyes _ true _ rfl rfl rfl | exact Rel.gyes _ false _ rfl rfl rfl)); (focus (intro a W hb hd hbase; obtain ⟨hc, hf⟩ := bcell hb; clear hb hf; simp [Rel.deps, Rel.dep1, Rel.ons, Region.binds, Act.eval] at hd; simp only [Act.eval, List.mem_cons, List.not_mem_nil, not_or, and_imp, or_false, Array.getD_eq_getD_getElem?] at hbase; go_simp; refine ⟨?_, ?_⟩; rfl; rfl)); (focus (intro W hb; go_at_call 24; exact HQ1.out _)); (try simp only [List.nil_append, List.cons_append]))
  (apply Rel.op3; (focus (first | exact Rel.gno rfl | exact Rel.gyes _ true _ rfl rfl rfl | exact Rel.gyes _ false _ rfl rfl rfl)); (focus (intro a W hb hd hbase; obtain ⟨hc, hf⟩ := bcell hb; clear hb hf; simp [Rel.deps, Rel.dep1, Rel.ons, Region.binds, Act.eval] at hd; simp only [Act.eval, List.mem_cons, List.not_mem_nil, not_or, and_imp, or_false, Array.getD_eq_getD_getElem?] at hbase; go_simp; (try go_bits); (try rfl); done)); (try simp only [List.nil_append, List.cons_append]))
  (apply Rel.op3; (focus (first | exact Rel.gno rfl | exact Rel.gyes _ true _ rfl rfl rfl | exact Rel.gyes _ false _ rfl rfl rfl)); (focus (intro a W hb hd hbase; obtain ⟨hc, hf⟩ := bcell hb; clear hb hf; simp [Rel.deps, Rel.dep1, Rel.ons, Region.binds, Act.eval] at hd; simp only [Act.eval, List.mem_cons, List.not_mem_nil, not_or, and_imp, or_false, Array.getD_eq_getD_getElem?] at hbase; go_simp; (try go_bits); (try rfl); done)); (try simp only [List.nil_append, List.cons_append]))
  (apply Rel.op3; (focus (first | exact Rel.gno rfl | exact Rel.gyes _ true _ rfl rfl rfl | exact Rel.gyes _ false _ rfl rfl rfl)); (focus (intro a W hb hd hbase; obtain ⟨hc, hf⟩ := bcell hb; clear hb hf; simp [Rel.deps, Rel.dep1, Rel.ons, Region.binds, Act.eval] at hd; simp only [Act.eval, List.mem_cons, List.not_mem_nil, not_or, and_imp, or_false, Array.getD_eq_getD_getElem?] at hbase; go_simp; (try go_bits); (try rfl); done)); (try simp only [List.nil_append, List.cons_append]))
  (apply Rel.op3; (focus (first | exact Rel.gno rfl | exact Rel.gyes _ true _ rfl rfl rfl | exact Rel.gyes _ false _ rfl rfl rfl)); (focus (intro a W hb hd hbase; obtain ⟨hc, hf⟩ := bcell hb; clear hb hf; simp [Rel.deps, Rel.dep1, Rel.ons, Region.binds, Act.eval] at hd; simp only [Act.eval, List.mem_cons, List.not_mem_nil, not_or, and_imp, or_false, Array.getD_eq_getD_getElem?] at hbase; go_simp; (try go_bits); (try rfl); done)); (try simp only [List.nil_append, List.cons_append]))
  (apply Rel.op3; (focus (first | exact Rel.gno rfl | exact Rel.gyes _ true _ rfl rfl rfl | exact Rel.gyes _ false _ rfl rfl rfl)); (focus (intro a W hb hd hbase; obtain ⟨hc, hf⟩ := bcell hb; clear hb hf; simp [Rel.deps, Rel.dep1, Rel.ons, Region.binds, Act.eval] at hd; simp only [Act.eval, List.mem_cons, List.not_mem_nil, not_or, and_imp, or_false, Array.getD_eq_getD_getElem?] at hbase; go_simp; (try go_bits); (try rfl); done)); (try simp only [List.nil_append, List.cons_append]))
  (apply Rel.op3; (focus (first | exact Rel.gno rfl | exact Rel.gyes _ true _ rfl rfl rfl | exact Rel.gyes _ false _ rfl rfl rfl)); (focus (intro a W hb hd hbase; obtain ⟨hc, hf⟩ := bcell hb; clear hb hf; simp [Rel.deps, Rel.dep1, Rel.ons, Region.binds, Act.eval] at hd; simp only [Act.eval, List.mem_cons, List.not_mem_nil, not_or, and_imp, or_false, Array.getD_eq_getD_getElem?] at hbase; go_simp; (try go_bits); (try rfl); done)); (try simp only [List.nil_append, List.cons_append]))
  (apply Rel.call3; (focus (first | exact Rel.gno rfl | exact Rel.gyes _ true _ rfl rfl rfl | exact Rel.gyes _ false _ rfl rfl rfl)); (focus (intro a W hb hd hbase; obtain ⟨hc, hf⟩ := bcell hb; clear hb hf; simp [Rel.deps, Rel.dep1, Rel.ons, Region.binds, Act.eval] at hd; simp only [Act.eval, List.mem_cons, List.not_mem_nil, not_or, and_imp, or_false, Array.getD_eq_getD_getElem?] at hbase; go_simp; refine ⟨?_, ?_⟩; rfl; rfl)); (focus (intro W hb; go_at_call 24; exact HQ2.out _)); (try simp only [List.nil_append, List.cons_append]))
  (apply Rel.op3; (focus (first | exact Rel.gno rfl | exact Rel.gyes _ true _ rfl rfl rfl | exact Rel.gyes _ false _ rfl rfl rfl)); (focus (intro a W hb hd hbase; obtain ⟨hc, hf⟩ := bcell hb; clear hb hf; simp [Rel.deps, Rel.dep1, Rel.ons, Region.binds, Act.eval] at hd; simp only [Act.eval, List.mem_cons, List.not_mem_nil, not_or, and_imp, or_false, Array.getD_eq_getD_getElem?] at hbase; go_simp; (try go_bits); (try rfl); done)); (try simp only [List.nil_append, List.cons_append]))
  (apply Rel.op3; (focus (first | exact Rel.gno rfl | exact Rel.gyes _ true _ rfl rfl rfl | exact Rel.gyes _ false _ rfl rfl rfl)); (focus (intro a W hb hd hbase; obtain ⟨hc, hf⟩ := bcell hb; clear hb hf; simp [Rel.deps, Rel.dep1, Rel.ons, Region.binds, Act.eval] at hd; simp only [Act.eval, List.mem_cons, List.not_mem_nil, not_or, and_imp, or_false, Array.getD_eq_getD_getElem?] at hbase; go_simp; (try go_bits); (try rfl); done)); (try simp only [List.nil_append, List.cons_append]))
  (apply Rel.op3; (focus (first | exact Rel.gno rfl | exact Rel.gyes _ true _ rfl rfl rfl | exact Rel.gyes _ false _ rfl rfl rfl)); (focus (intro a W hb hd hbase; obtain ⟨hc, hf⟩ := bcell hb; clear hb hf; simp [Rel.deps, Rel.dep1, Rel.ons, Region.binds, Act.eval] at hd; simp only [Act.eval, List.mem_cons, List.not_mem_nil, not_or, and_imp, or_false, Array.getD_eq_getD_getElem?] at hbase; go_simp; (try go_bits); (try rfl); done)); (try simp only [List.nil_append, List.cons_append]))
  (apply Rel.op3; (focus (first | exact Rel.gno rfl | exact Rel.gyes _ true _ rfl rfl rfl | exact Rel.gyes _ false _ rfl rfl rfl)); (focus (intro a W hb hd hbase; obtain ⟨hc, hf⟩ := bcell hb; clear hb hf; simp [Rel.deps, Rel.dep1, Rel.ons, Region.binds, Act.eval] at hd; simp only [Act.eval, List.mem_cons, List.not_mem_nil, not_or, and_imp, or_false, Array.getD_eq_getD_getElem?] at hbase; go_simp; (try go_bits); (try rfl); done)); (try simp only [List.nil_append, List.cons_append]))
  (apply Rel.op3; (focus (first | exact Rel.gno rfl | exact Rel.gyes _ true _ rfl rfl rfl | exact Rel.gyes _ false _ rfl rfl rfl)); (focus (intro a W hb hd hbase; obtain ⟨hc, hf⟩ := bcell hb; clear hb hf; simp [Rel.deps, Rel.dep1, Rel.ons, Region.binds, Act.eval] at hd; simp only [Act.eval, List.mem_cons, List.not_mem_nil, not_or, and_imp, or_false, Array.getD_eq_getD_getElem?] at hbase; go_simp; (try go_bits); (try rfl); done)); (try simp only [List.nil_append, List.cons_append]))
  (apply Rel.op3; (focus (first | exact Rel.gno rfl | exact Rel.gyes _ true _ rfl rfl rfl | exact Rel.gyes _ false _ rfl rfl rfl)); (focus (intro a W hb hd hbase; obtain ⟨hc, hf⟩ := bcell hb; clear hb hf; simp [Rel.deps, Rel.dep1, Rel.ons, Region.binds, Act.eval] at hd; simp only [Act.eval, List.mem_cons, List.not_mem_nil, not_or, and_imp, or_false, Array.getD_eq_getD_getElem?] at hbase; go_simp; (try go_bits); (try rfl); done)); (try simp only [List.nil_append, List.cons_append]))
  (apply Rel.op3; (focus (first | exact Rel.gno rfl | exact Rel.gyes _ true _ rfl rfl rfl | exact Rel.gyes _ false _ rfl rfl rfl)); (focus (intro a W hb hd hbase; obtain ⟨hc, hf⟩ := bcell hb; clear hb hf; simp [Rel.deps, Rel.dep1, Rel.ons, Region.binds, Act.eval] at hd; simp only [Act.eval, List.mem_cons, List.not_mem_nil, not_or, and_imp, or_false, Array.getD_eq_getD_getElem?] at hbase; go_simp; (try go_bits); (try rfl); done)); (try simp only [List.nil_append, List.cons_append]))
  (apply Rel.op3; (focus (first | exact Rel.gno rfl | exact Rel.gyes _ true _ rfl rfl rfl | exact Rel.gyes _ false _ rfl rfl rfl)); (focus (intro a W hb hd hbase; obtain ⟨hc, hf⟩ := bcell hb; clear hb hf; simp [Rel.deps, Rel.dep1, Rel.ons, Region.binds, Act.eval] at hd; simp only [Act.eval, List.mem_cons, List.not_mem_nil, not_or, and_imp, or_false, Array.getD_eq_getD_getElem?] at hbase; go_simp; (try go_bits); (try rfl); done)); (try simp only [List.nil_append, List.cons_append]))
  (apply Rel.call3; (focus (first | exact Rel.gno rfl | exact Rel.gyes _ true _ rfl rfl rfl | exact Rel.gyes _ false _ rfl rfl rfl)); (focus (intro a W hb hd hbase; obtain ⟨hc, hf⟩ := bcell hb; clear hb hf; simp [Rel.deps, Rel.dep1, Rel.ons, Region.binds, Act.eval] at hd; simp only [Act.eval, List.mem_cons, List.not_mem_nil, not_or, and_imp, or_false, Array.getD_eq_getD_getElem?] at hbase; go_simp; refine ⟨?_, ?_⟩; rfl; rfl)); (focus (intro W hb; go_at_call 24; exact HQ3.out _)); (try simp only [List.nil_append, List.cons_append]))
  (apply Rel.op3; (focus (first | exact Rel.gno rfl | exact Rel.gyes _ true _ rfl rfl rfl | exact Rel.gyes _ false _ rfl rfl rfl)); (focus (intro a W hb hd hbase; obtain ⟨hc, hf⟩ := bcell hb; clear hb hf; simp [Rel.deps, Rel.dep1, Rel.ons, Region.binds, Act.eval] at hd; simp only [Act.eval, List.mem_cons, List.not_mem_nil, not_or, and_imp, or_false, Array.getD_eq_getD_getElem?] at hbase; go_simp; (try go_bits); (try rfl); done)); (try simp only [List.nil_append, List.cons_append]))
  (apply Rel.op3; (focus (first | exact Rel.gno rfl | exact Rel.gyes _ true _ rfl rfl rfl | exact Rel.gyes _ false _ rfl rfl rfl)); (focus (intro a W hb hd hbase; obtain ⟨hc, hf⟩ := bcell hb; clear hb hf; simp [Rel.deps, Rel.dep1, Rel.ons, Region.binds, Act.eval] at hd; simp only [Act.eval, List.mem_cons, List.not_mem_nil, not_or, and_imp, or_false, Array.getD_eq_getD_getElem?] at hbase; go_simp; (try go_bits); (try rfl); done)); (try simp only [List.nil_append, List.cons_append]))
  (apply Rel.op3; (focus (first | exact Rel.gno rfl | exact Rel.gyes _ true _ rfl rfl rfl | exact Rel.gyes _ false _ rfl rfl rfl)); (focus (intro a W hb hd hbase; obtain ⟨hc, hf⟩ := bcell hb; clear hb hf; simp [Rel.deps, Rel.dep1, Rel.ons, Region.binds, Act.eval] at hd; simp only [Act.eval, List.mem_cons, List.not_mem_nil, not_or, and_imp, or_false, Array.getD_eq_getD_getElem?] at hbase; go_simp; (try go_bits); (try rfl); done)); (try simp only [List.nil_append, List.cons_append]))
  (apply Rel.op3; (focus (first | exact Rel.gno rfl | exact Rel.gyes _ true _ rfl rfl rfl | exact Rel.gyes _ false _ rfl rfl rfl)); (focus (intro a W hb hd hbase; obtain ⟨hc, hf⟩ := bcell hb; clear hb hf; simp [Rel.deps, Rel.dep1, Rel.ons, Region.binds, Act.eval] at hd; simp only [Act.eval, List.mem_cons, List.not_mem_nil, not_or, and_imp, or_false, Array.getD_eq_getD_getElem?] at hbase; go_simp; (try go_bits); (try rfl); done)); (try simp only [List.nil_append, List.cons_append]))
  (apply Rel.op3; (focus (first | exact Rel.gno rfl | exact Rel.gyes _ true _ rfl rfl rfl | exact Rel.gyes _ false _ rfl rfl rfl)); (focus (intro a W hb hd hbase; obtain ⟨hc, hf⟩ := bcell hb; clear hb hf; simp [Rel.deps, Rel.dep1, Rel.ons, Region.binds, Act.eval] at hd; simp only [Act.eval, List.mem_cons, List.not_mem_nil, not_or, and_imp, or_false, Array.getD_eq_getD_getElem?] at hbase; go_simp; (try go_bits); (try rfl); done)); (try simp only [List.nil_append, List.cons_append]))
  (apply Rel.op3; (focus (first | exact Rel.gno rfl | exact Rel.gyes _ true _ rfl rfl rfl | exact Rel.gyes _ false _ rfl rfl rfl)); (focus (intro a W hb hd hbase; obtain ⟨hc, hf⟩ := bcell hb; clear hb hf; simp [Rel.deps, Rel.dep1, Rel.ons, Region.binds, Act.eval] at hd; simp only [Act.eval, List.mem_cons, List.not_mem_nil, not_or, and_imp, or_false, Array.getD_eq_getD_getElem?] at hbase; go_simp; (try go_bits); (try rfl); done)); (try simp only [List.nil_append, List.cons_append]))
  (apply Rel.op3; (focus (first | exact Rel.gno rfl | exact Rel.gyes _ true _ rfl rfl rfl | exact Rel.gyes _ false _ rfl rfl rfl)); (focus (intro a W hb hd hbase; obtain ⟨hc, hf⟩ := bcell hb; clear hb hf; simp [Rel.deps, Rel.dep1, Rel.ons, Region.binds, Act.eval] at hd; simp only [Act.eval, List.mem_cons, List.not_mem_nil, not_or, and_imp, or_false, Array.getD_eq_getD_getElem?] at hbase; go_simp; (try go_bits); (try rfl); done)); (try simp only [List.nil_append, List.cons_append]))
  (apply Rel.op3; (focus (first | exact Rel.gno rfl | exact Rel.gyes _ true _ rfl rfl rfl | exact Rel.gyes _ false _ rfl rfl rfl)); (focus (intro a W hb hd hbase; obtain ⟨hc, hf⟩ := bcell hb; clear hb hf; simp [Rel.deps, Rel.dep1, Rel.ons, Region.binds, Act.eval] at hd; simp only [Act.eval, List.mem_cons, List.not_mem_nil, not_or, and_imp, or_false, Array.getD_eq_getD_getElem?] at hbase; go_simp; (try go_bits); (try rfl); done)); (try simp only [List.nil_append, List.cons_append]))
  (apply Rel.call3; (focus (first | exact Rel.gno rfl | exact Rel.gyes _ true _ rfl rfl rfl | exact Rel.gyes _ false _ rfl rfl rfl)); (focus (intro a W hb hd hbase; obtain ⟨hc, hf⟩ := bcell hb; clear hb hf; simp [Rel.deps, Rel.dep1, Rel.ons, Region.binds, Act.eval] at hd; simp only [Act.eval, List.mem_cons, List.not_mem_nil, not_or, and_imp, or_false, Array.getD_eq_getD_getElem?] at hbase; go_simp; refine ⟨?_, ?_⟩; rfl; rfl)); (focus (intro W hb; go_at_call 24; exact HQ4.out _)); (try simp only [List.nil_append, List.cons_append]))
  (apply Rel.op3; (focus (first | exact Rel.gno rfl | exact Rel.gyes _ true _ rfl rfl rfl | exact Rel.gyes _ false _ rfl rfl rfl)); (focus (intro a W hb hd hbase; obtain ⟨hc, hf⟩ := bcell hb; clear hb hf; simp [Rel.deps, Rel.dep1, Rel.ons, Region.binds, Act.eval] at hd; simp only [Act.eval, List.mem_cons, List.not_mem_nil, not_or, and_imp, or_false, Array.getD_eq_getD_getElem?] at hbase; go_simp; (try go_bits); (try rfl); done)); (try simp only [List.nil_append, List.cons_append]))
  (apply Rel.op3; (focus (first | exact Rel.gno rfl | exact Rel.gyes _ true _ rfl rfl rfl | exact Rel.gyes _ false _ rfl rfl rfl)); (focus (intro a W hb hd hbase; obtain ⟨hc, hf⟩ := bcell hb; clear hb hf; simp [Rel.deps, Rel.dep1, Rel.ons, Region.binds, Act.eval] at hd; simp only [Act.eval, List.mem_cons, List.not_mem_nil, not_or, and_imp, or_false, Array.getD_eq_getD_getElem?] at hbase; go_simp; (try go_bits); (try rfl); done)); (try simp only [List.nil_append, List.cons_append]))
  (apply Rel.op3; (focus (first | exact Rel.gno rfl | exact Rel.gyes _ true _ rfl rfl rfl | exact Rel.gyes _ false _ rfl rfl rfl)); (focus (intro a W hb hd hbase; obtain ⟨hc, hf⟩ := bcell hb; clear hb hf; simp [Rel.deps, Rel.dep1, Rel.ons, Region.binds, Act.eval] at hd; simp only [Act.eval, List.mem_cons, List.not_mem_nil, not_or, and_imp, or_false, Array.getD_eq_getD_getElem?] at hbase; go_simp; (try go_bits); (try rfl); done)); (try simp only [List.nil_append, List.cons_append]))
  (apply Rel.op3; (focus (first | exact Rel.gno rfl | exact Rel.gyes _ true _ rfl rfl rfl | exact Rel.gyes _ false _ rfl rfl rfl)); (focus (intro a W hb hd hbase; obtain ⟨hc, hf⟩ := bcell hb; clear hb hf; simp [Rel.deps, Rel.dep1, Rel.ons, Region.binds, Act.eval] at hd; simp only [Act.eval, List.mem_cons, List.not_mem_nil, not_or, and_imp, or_false, Array.getD_eq_getD_getElem?] at hbase; go_simp; (try go_bits); (try rfl); done)); (try simp only [List.nil_append, List.cons_append]))
  (apply Rel.op3; (focus (first | exact Rel.gno rfl | exact Rel.gyes _ true _ rfl rfl rfl | exact Rel.gyes _ false _ rfl rfl rfl)); (focus (intro a W hb hd hbase; obtain ⟨hc, hf⟩ := bcell hb; clear hb hf; simp [Rel.deps, Rel.dep1, Rel.ons, Region.binds, Act.eval] at hd; simp only [Act.eval, List.mem_cons, List.not_mem_nil, not_or, and_imp, or_false, Array.getD_eq_getD_getElem?] at hbase; go_simp; (try go_bits); (try rfl); done)); (try simp only [List.nil_append, List.cons_append]))
  (apply Rel.op3; (focus (first | exact Rel.gno rfl | exact Rel.gyes _ true _ rfl rfl rfl | exact Rel.gyes _ false _ rfl rfl rfl)); (focus (intro a W hb hd hbase; obtain ⟨hc, hf⟩ := bcell hb; clear hb hf; simp [Rel.deps, Rel.dep1, Rel.ons, Region.binds, Act.eval] at hd; simp only [Act.eval, List.mem_cons, List.not_mem_nil, not_or, and_imp, or_false, Array.getD_eq_getD_getElem?] at hbase; go_simp; (try go_bits); (try rfl); done)); (try simp only [List.nil_append, List.cons_append]))
  (apply Rel.call3; (focus (first | exact Rel.gno rfl | exact Rel.gyes _ true _ rfl rfl rfl | exact Rel.gyes _ false _ rfl rfl rfl)); (focus (intro a W hb hd hbase; obtain ⟨hc, hf⟩ := bcell hb; clear hb hf; simp [Rel.deps, Rel.dep1, Rel.ons, Region.binds, Act.eval] at hd; simp only [Act.eval, List.mem_cons, List.not_mem_nil, not_or, and_imp, or_false, Array.getD_eq_getD_getElem?] at hbase; go_simp; refine ⟨?_, ?_⟩; rfl; rfl)); (focus (intro W hb; go_at_call 35; exact HQ5.out _)); (try simp only [List.nil_append, List.cons_append]))
  (apply Rel.op3; (focus (first | exact Rel.gno rfl | exact Rel.gyes _ true _ rfl rfl rfl | exact Rel.gyes _ false _ rfl rfl rfl)); (focus (intro a W hb hd hbase; obtain ⟨hc, hf⟩ := bcell hb; clear hb hf; simp [Rel.deps, Rel.dep1, Rel.ons, Region.binds, Act.eval] at hd; simp only [Act.eval, List.mem_cons, List.not_mem_nil, not_or, and_imp, or_false, Array.getD_eq_getD_getElem?] at hbase; go_simp; (try go_bits); (try rfl); done)); (try simp only [List.nil_append, List.cons_append]))
  refine Rel.done3 ?_
  intro x w10 h10 hx
  simp only [Rel.facts, Nat.zero_add, Nat.reduceAdd] at hx
  obtain ⟨e0, e1, e2, e3, e4, e5, e6, e7, e8, e9, e10, e11, e12, e13, e14, e15, e16, e17, e18, e19, e20, e21, e22, e23, e24, e25, e26, e27, e28, e29, e30, e31, e32, e33, e34, e35, e36, e37, e38, e39, e40, e41, e42, e43, _⟩ := hx
  simp only [Rel.fill, Nat.zero_add, Nat.reduceAdd, e0, e1, e2, e3, e4, e5, e6, e7, e8, e9, e10, e11, e12, e13, e14, e15, e16, e17, e18, e19, e20, e21, e22, e23, e24, e25, e26, e27, e28, e29, e30, e31, e32, e33, e34, e35, e36, e37, e38, e39, e40, e41, e42, e43]
  simp only [Act.put, List.setIfInBounds_toArray, List.set_cons_zero, List.set_cons_succ]
  clear e0 e1 e2 e3 e4 e5 e6 e7 e8 e9 e10 e11 e12 e13 e14 e15 e16 e17 e18 e19 e20 e21 e22 e23 e24 e25 e26 e27 e28 e29 e30 e31 e32 e33 e34 e35 e36 e37 e38 e39 e40 e41 e42 e43
  have hB10 := hB9.trans (h10.mono hB9.size)
  have KD_10 := Lib.hid (show Blk w10 (w.heap.size) #[(.int .i64 (d1)), (.int .i64 (d2)), (.int .i64 (d3)), (.int .i64 (d4)), (.int .i64 (d5)), (.int .i64 (d6))] from KD_9.out.below h10)
  have KX_10 := Lib.hid (show Blk w10 (w.heap.size + 1) #[(.int .i64 (x1)), (.int .i64 (x2)), (.int .i64 (x3)), (.int .i64 (x4))] from KX_9.out.below h10)
  have Kz_10 := Lib.hid (show Blk w10 (w2.heap.size) #[(.int .i64 (0)), (.int .i64 (0)), (.int .i64 (0)), (.int .i64 (0))] from Kz_9.out.below h10)
  have Kr_10 := Lib.hid (show Blk w10 (w3.heap.size) #[(.int .i64 (0)), (.int .i64 (0)), (.int .i64 (0)), (.int .i64 (0))] from Kr_9.out.below h10)
  have Km_10 := Lib.hid (show Blk w10 (w4.heap.size) #[(.int .i64 (0)), (.int .i64 (0)), (.int .i64 (0)), (.int .i64 (0)), (.int .i64 (0)), (.int .i64 (0)), (.int .i64 (0)), (.int .i64 (0))] from Km_9.out.below h10)
  have Kt_10 := Lib.hid (show Blk w10 (w5.heap.size) #[(.int .i64 (0)), (.int .i64 (0))] from Kt_9.out.below h10)
  have KZ_10 := Lib.hid (show Blk w10 (w8.heap.size) #[(.int .i64 (0)), (.int .i64 (0)), (.int .i64 (0)), (.int .i64 (0))] from KZ_9.out.below h10)
  have KR_10 := Lib.hid (show Blk w10 (w8.heap.size + 1) #[(.int .i64 (0)), (.int .i64 (0)), (.int .i64 (0)), (.int .i64 (0))] from KR_9.out.below h10)
  have KM_10 := Lib.hid (show Blk w10 (w8.heap.size + 1 + 1) #[(.int .i64 (0)), (.int .i64 (0)), (.int .i64 (0)), (.int .i64 (0)), (.int .i64 (0)), (.int .i64 (0)), (.int .i64 (0)), (.int .i64 (0))] from KM_9.out.below h10)
  have KT_10 := Lib.hid (show Blk w10 (w8.heap.size + 1 + 1 + 1) #[(.int .i64 (0)), (.int .i64 (0))] from KT_9.out.below h10)
  clear h10 hB9 KD_9 KX_9 Kz_9 Kr_9 Km_9 Kt_9 KZ_9 KR_9 KM_9 KT_9 fD_0 fD_1 fD_2 fD_3 fD_4 fD_5 fD_l fX_0 fX_1 fX_2 fX_3 fX_l fz_0 fz_1 fz_2 fz_3 fz_l fZ_0 fZ_1 fZ_2 fZ_3 fZ_l fr_0 fr_1 fr_2 fr_3 fr_l fR_0 fR_1 fR_2 fR_3 fR_l fm_0 fm_1 fm_2 fm_3 fm_4 fm_5 fm_6 fm_7 fm_l fM_0 fM_1 fM_2 fM_3 fM_4 fM_5 fM_6 fM_7 fM_l ft_0 ft_1 ft_l fT_0 fT_1 fT_l
  go_wp2
  go_ret
  exact ⟨by first | rfl | (simp; done), hB10⟩
end Go.Proofs.YtpkldjlljoledaaDoor
