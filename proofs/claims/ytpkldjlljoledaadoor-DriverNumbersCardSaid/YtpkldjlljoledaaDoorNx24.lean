/- Part 24 of the texts of the claim: Num_1, NumAll, NumRow. -/
import Derived.Test.YtpkldjlljoledaaDoorNx22
import Derived.Test.YtpkldjlljoledaaDoorNx23
import Derived.Test.YtpkldjlljoledaaDoorNx3

/- The walk of DriverNumbers, one of two cases. %still -/
namespace Go.Proofs.YtpkldjlljoledaaDoor
open Go.RowKit
open Calm (bcell Blk)
set_option maxRecDepth 100000 in
set_option maxHeartbeats 16000000 in
theorem num_1 (d1 d2 d3 d4 d5 d6 q0 be we bad : Int) (w : World) (hL : Lim w)
    (HMec : Hid (∀ W : World, Lim W → Calls Tryd.prog 12 #[.agg #[(.int .i64 (d1)), (.int .i64 (d2)), (.int .i64 (d3)), (.int .i64 (d4)), (.int .i64 (d5)), (.int .i64 (d6))], (.int .i64 (q0))] W fun r w' => r = .returned (.tuple #[.agg #[(.int .i64 (0)), (.int .i64 (0))], (.int .i64 (bad))]) ∧ Below W.heap.size W w'))
    (HImp : Hid (∀ W : World, Lim W → Calls Tryd.prog 13 #[.agg #[(.int .i64 (d1)), (.int .i64 (d2)), (.int .i64 (d3)), (.int .i64 (d4)), (.int .i64 (d5)), (.int .i64 (d6))], (.int .i64 (q0))] W fun r w' => r = .returned (.tuple #[.agg #[(.int .i64 (0)), (.int .i64 (0)), (.int .i64 (0)), (.int .i64 (0))], (.int .i64 (bad))]) ∧ Below W.heap.size W w'))
    (HExc : Hid (∀ W : World, Lim W → Calls Tryd.prog 14 #[.agg #[(.int .i64 (d1)), (.int .i64 (d2)), (.int .i64 (d3)), (.int .i64 (d4)), (.int .i64 (d5)), (.int .i64 (d6))], (.int .i64 (q0))] W fun r w' => r = .returned (.tuple #[.agg #[(.int .i64 (0)), (.int .i64 (0)), (.int .i64 (0)), (.int .i64 (0))], (.int .i64 (bad))]) ∧ Below W.heap.size W w'))
    (HOut : Hid (∀ W : World, Lim W → Calls Tryd.prog 15 #[.agg #[(.int .i64 (d1)), (.int .i64 (d2)), (.int .i64 (d3)), (.int .i64 (d4)), (.int .i64 (d5)), (.int .i64 (d6))], (.int .i64 (q0))] W fun r w' => r = .returned (.tuple #[.agg #[(.int .i64 (0)), (.int .i64 (0)), (.int .i64 (0)), (.int .i64 (0))], (.int .i64 (bad))]) ∧ Below W.heap.size W w'))
    (HBad : Hid (∀ W : World, Calls Tryd.prog 17 #[.agg #[(.int .i64 (d1)), (.int .i64 (d2)), (.int .i64 (d3)), (.int .i64 (d4)), (.int .i64 (d5)), (.int .i64 (d6))]] W fun r w' => r = .returned ((.int .i64 (be))) ∧ Below W.heap.size W w'))
    (HPD : Hid (∀ W : World, Lim W → Calls Tryd.prog 23 #[.agg #[(.int .i64 (d1)), (.int .i64 (d2)), (.int .i64 (d3)), (.int .i64 (d4)), (.int .i64 (d5)), (.int .i64 (d6))]] W fun r w' => r = .returned ((.int .i64 (be))) ∧ Below W.heap.size W w'))
    (HW : Hid (∀ W : World, Calls Tryd.prog 18 #[(.int .i64 (q0))] W fun r w' => r = .returned (.int .i64 (we)) ∧ W = w'))
    (HF : Hid (∀ W : World, Calls Tryd.prog 16 #[.slice (some ⟨W.heap.size, 0, none⟩) 2 2] (W.alloc (.cells #[(.int .i64 (be)), (.int .i64 (we))] 3)) fun r w' => r = .returned (.int .i64 (bad)) ∧ W.alloc (.cells #[(.int .i64 (be)), (.int .i64 (we))] 3) = w'))
    (HQ1 : Hid (∀ W : World, Calls Tryd.prog 24 #[.agg #[(.int .i64 (0)), (.int .i64 (0)), (.int .i64 (0)), (.int .i64 (0))], (.int .i64 (bad)), (.int .i64 (bad)), .agg #[(.int .i64 (0)), (.int .i64 (0)), (.int .i64 (0)), (.int .i64 (0))]] W fun r w' => r = .returned (.bool true) ∧ Below W.heap.size W w'))
    (HQ2 : Hid (∀ W : World, Calls Tryd.prog 24 #[.agg #[(.int .i64 (0)), (.int .i64 (0)), (.int .i64 (0)), (.int .i64 (0))], (.int .i64 (bad)), (.int .i64 (bad)), .agg #[(.int .i64 (0)), (.int .i64 (0)), (.int .i64 (0)), (.int .i64 (0))]] W fun r w' => r = .returned (.bool true) ∧ Below W.heap.size W w'))
    (HQ3 : Hid (∀ W : World, Calls Tryd.prog 24 #[.agg #[(.int .i64 (0)), (.int .i64 (0)), (.int .i64 (0)), (.int .i64 (0))], (.int .i64 (bad)), (.int .i64 (bad)), .agg #[(.int .i64 (0)), (.int .i64 (0)), (.int .i64 (0)), (.int .i64 (0))]] W fun r w' => r = .returned (.bool true) ∧ Below W.heap.size W w'))
    (hbad : ¬ bad = 0)
    : Calls Tryd.prog 3 #[.agg #[(.int .i64 (d1)), (.int .i64 (d2)), (.int .i64 (d3)), (.int .i64 (d4)), (.int .i64 (d5)), (.int .i64 (d6))], (.int .i64 (q0))] w fun r w' => r = .returned (.bool true) ∧ Below w.heap.size w w' := by
  have hB0 := Below.refl w.heap.size w
  go_enter Tryd.func3, Tryd.ntmps3
  go_wp2_with (go_at_call 11; refine (awake_any _ (hL.below (hB0.alloc hB0.size _))).mono ?_; rintro r w1 ⟨rfl, h1⟩; refine Hid.out ?_)
  unfold Hid
  have hB1 := (hB0.alloc hB0.size _).trans (h1.mono (Nat.le_trans hB0.size (by simp; try omega)))
  have KD_1 := Lib.hid (show Blk w1 (w.heap.size) #[(.int .i64 (d1)), (.int .i64 (d2)), (.int .i64 (d3)), (.int .i64 (d4)), (.int .i64 (d5)), (.int .i64 (d6))] from (Calm.Blk.new _ _ #[(.int .i64 (d1)), (.int .i64 (d2)), (.int .i64 (d3)), (.int .i64 (d4)), (.int .i64 (d5)), (.int .i64 (d6))]).below h1)
  clear h1 hB0
  have fD_0 := KD_1.out.cell 0 (.int .i64 (d1)) rfl
  have fD_1 := KD_1.out.cell 1 (.int .i64 (d2)) rfl
  have fD_2 := KD_1.out.cell 2 (.int .i64 (d3)) rfl
  have fD_3 := KD_1.out.cell 3 (.int .i64 (d4)) rfl
  have fD_4 := KD_1.out.cell 4 (.int .i64 (d5)) rfl
  have fD_5 := KD_1.out.cell 5 (.int .i64 (d6)) rfl
  have fD_l := KD_1.out.lt
  have fD_f := KD_1.out.f
  have fD_l0_1 : w.heap.size < w1.heap.size + 1 := by omega
  have fD_l0_2 : w.heap.size < w1.heap.size + 1 + 1 := by omega
  go_wp2_with (go_at_call 12; refine (HMec.out _ (hL.below hB1)).mono ?_; rintro r w2 ⟨rfl, h2⟩; refine Hid.out ?_)
  unfold Hid
  have hB2 := hB1.trans (h2.mono hB1.size)
  have KD_2 := Lib.hid (show Blk w2 (w.heap.size) #[(.int .i64 (d1)), (.int .i64 (d2)), (.int .i64 (d3)), (.int .i64 (d4)), (.int .i64 (d5)), (.int .i64 (d6))] from KD_1.out.below h2)
  clear h2 hB1 KD_1 fD_0 fD_1 fD_2 fD_3 fD_4 fD_5 fD_l fD_f fD_l0_1 fD_l0_2
  have fD_0 := KD_2.out.cell 0 (.int .i64 (d1)) rfl
  have fD_1 := KD_2.out.cell 1 (.int .i64 (d2)) rfl
  have fD_2 := KD_2.out.cell 2 (.int .i64 (d3)) rfl
  have fD_3 := KD_2.out.cell 3 (.int .i64 (d4)) rfl
  have fD_4 := KD_2.out.cell 4 (.int .i64 (d5)) rfl
  have fD_5 := KD_2.out.cell 5 (.int .i64 (d6)) rfl
  have fD_l := KD_2.out.lt
  have fD_f := KD_2.out.f
  have fD_l0_1 : w.heap.size < w2.heap.size + 1 := by omega
  have fD_l0_2 : w.heap.size < w2.heap.size + 1 + 1 := by omega
  go_wp2_with (go_at_call 13; refine (HImp.out _ (hL.below (hB2.alloc hB2.size _))).mono ?_; rintro r w3 ⟨rfl, h3⟩; refine Hid.out ?_)
  unfold Hid
  have hB3 := (hB2.alloc hB2.size _).trans (h3.mono (Nat.le_trans hB2.size (by simp; try omega)))
  have oD_3 : w.heap.size < w2.heap.size := KD_2.out.lt
  have KD_3 := Lib.hid (show Blk w3 (w.heap.size) #[(.int .i64 (d1)), (.int .i64 (d2)), (.int .i64 (d3)), (.int .i64 (d4)), (.int .i64 (d5)), (.int .i64 (d6))] from (KD_2.out.alloc _).below h3)
  have Km_3 := Lib.hid (show Blk w3 (w2.heap.size) #[(.int .i64 (0)), (.int .i64 (0))] from (Calm.Blk.new _ _ #[(.int .i64 (0)), (.int .i64 (0))]).below h3)
  clear h3 hB2 KD_2 fD_0 fD_1 fD_2 fD_3 fD_4 fD_5 fD_l fD_f fD_l0_1 fD_l0_2
  have fD_0 := KD_3.out.cell 0 (.int .i64 (d1)) rfl
  have fD_1 := KD_3.out.cell 1 (.int .i64 (d2)) rfl
  have fD_2 := KD_3.out.cell 2 (.int .i64 (d3)) rfl
  have fD_3 := KD_3.out.cell 3 (.int .i64 (d4)) rfl
  have fD_4 := KD_3.out.cell 4 (.int .i64 (d5)) rfl
  have fD_5 := KD_3.out.cell 5 (.int .i64 (d6)) rfl
  have fD_l := KD_3.out.lt
  have fD_f := KD_3.out.f
  have fD_l0_1 : w.heap.size < w3.heap.size + 1 := by omega
  have fD_l0_2 : w.heap.size < w3.heap.size + 1 + 1 := by omega
  go_wp2_with (go_at_call 14; refine (HExc.out _ (hL.below (hB3.alloc hB3.size _))).mono ?_; rintro r w4 ⟨rfl, h4⟩; refine Hid.out ?_)
  unfold Hid
  have hB4 := (hB3.alloc hB3.size _).trans (h4.mono (Nat.le_trans hB3.size (by simp; try omega)))
  have oD_4 : w.heap.size < w3.heap.size := KD_3.out.lt
  have om_4 : w2.heap.size < w3.heap.size := Km_3.out.lt
  have KD_4 := Lib.hid (show Blk w4 (w.heap.size) #[(.int .i64 (d1)), (.int .i64 (d2)), (.int .i64 (d3)), (.int .i64 (d4)), (.int .i64 (d5)), (.int .i64 (d6))] from (KD_3.out.alloc _).below h4)
  have Km_4 := Lib.hid (show Blk w4 (w2.heap.size) #[(.int .i64 (0)), (.int .i64 (0))] from (Km_3.out.alloc _).below h4)
  have Kz_4 := Lib.hid (show Blk w4 (w3.heap.size) #[(.int .i64 (0)), (.int .i64 (0)), (.int .i64 (0)), (.int .i64 (0))] from (Calm.Blk.new _ _ #[(.int .i64 (0)), (.int .i64 (0)), (.int .i64 (0)), (.int .i64 (0))]).below h4)
  clear h4 hB3 KD_3 Km_3 fD_0 fD_1 fD_2 fD_3 fD_4 fD_5 fD_l fD_f fD_l0_1 fD_l0_2
  have fD_0 := KD_4.out.cell 0 (.int .i64 (d1)) rfl
  have fD_1 := KD_4.out.cell 1 (.int .i64 (d2)) rfl
  have fD_2 := KD_4.out.cell 2 (.int .i64 (d3)) rfl
  have fD_3 := KD_4.out.cell 3 (.int .i64 (d4)) rfl
  have fD_4 := KD_4.out.cell 4 (.int .i64 (d5)) rfl
  have fD_5 := KD_4.out.cell 5 (.int .i64 (d6)) rfl
  have fD_l := KD_4.out.lt
  have fD_f := KD_4.out.f
  have fD_l0_1 : w.heap.size < w4.heap.size + 1 := by omega
  have fD_l0_2 : w.heap.size < w4.heap.size + 1 + 1 := by omega
  go_wp2_with (go_at_call 15; refine (HOut.out _ (hL.below (hB4.alloc hB4.size _))).mono ?_; rintro r w5 ⟨rfl, h5⟩; refine Hid.out ?_)
  unfold Hid
  have hB5 := (hB4.alloc hB4.size _).trans (h5.mono (Nat.le_trans hB4.size (by simp; try omega)))
  have oD_5 : w.heap.size < w4.heap.size := KD_4.out.lt
  have om_5 : w2.heap.size < w4.heap.size := Km_4.out.lt
  have oz_5 : w3.heap.size < w4.heap.size := Kz_4.out.lt
  have KD_5 := Lib.hid (show Blk w5 (w.heap.size) #[(.int .i64 (d1)), (.int .i64 (d2)), (.int .i64 (d3)), (.int .i64 (d4)), (.int .i64 (d5)), (.int .i64 (d6))] from (KD_4.out.alloc _).below h5)
  have Km_5 := Lib.hid (show Blk w5 (w2.heap.size) #[(.int .i64 (0)), (.int .i64 (0))] from (Km_4.out.alloc _).below h5)
  have Kz_5 := Lib.hid (show Blk w5 (w3.heap.size) #[(.int .i64 (0)), (.int .i64 (0)), (.int .i64 (0)), (.int .i64 (0))] from (Kz_4.out.alloc _).below h5)
  have Kx_5 := Lib.hid (show Blk w5 (w4.heap.size) #[(.int .i64 (0)), (.int .i64 (0)), (.int .i64 (0)), (.int .i64 (0))] from (Calm.Blk.new _ _ #[(.int .i64 (0)), (.int .i64 (0)), (.int .i64 (0)), (.int .i64 (0))]).below h5)
  clear h5 hB4 KD_4 Km_4 Kz_4 fD_0 fD_1 fD_2 fD_3 fD_4 fD_5 fD_l fD_f fD_l0_1 fD_l0_2
  have fD_0 := KD_5.out.cell 0 (.int .i64 (d1)) rfl
  have fD_1 := KD_5.out.cell 1 (.int .i64 (d2)) rfl
  have fD_2 := KD_5.out.cell 2 (.int .i64 (d3)) rfl
  have fD_3 := KD_5.out.cell 3 (.int .i64 (d4)) rfl
  have fD_4 := KD_5.out.cell 4 (.int .i64 (d5)) rfl
  have fD_5 := KD_5.out.cell 5 (.int .i64 (d6)) rfl
  have fD_l := KD_5.out.lt
  have fD_f := KD_5.out.f
  have fD_l0_1 : w.heap.size < w5.heap.size + 1 := by omega
  have fD_l0_2 : w.heap.size < w5.heap.size + 1 + 1 := by omega
  go_wp2_with (go_at_call 17; refine (HBad.out _).mono ?_; rintro r w6 ⟨rfl, h6⟩; refine Hid.out ?_)
  unfold Hid
  have hB6 := (hB5.alloc hB5.size _).trans (h6.mono (Nat.le_trans hB5.size (by simp; try omega)))
  have oD_6 : w.heap.size < w5.heap.size := KD_5.out.lt
  have om_6 : w2.heap.size < w5.heap.size := Km_5.out.lt
  have oz_6 : w3.heap.size < w5.heap.size := Kz_5.out.lt
  have ox_6 : w4.heap.size < w5.heap.size := Kx_5.out.lt
  have KD_6 := Lib.hid (show Blk w6 (w.heap.size) #[(.int .i64 (d1)), (.int .i64 (d2)), (.int .i64 (d3)), (.int .i64 (d4)), (.int .i64 (d5)), (.int .i64 (d6))] from (KD_5.out.alloc _).below h6)
  have Km_6 := Lib.hid (show Blk w6 (w2.heap.size) #[(.int .i64 (0)), (.int .i64 (0))] from (Km_5.out.alloc _).below h6)
  have Kz_6 := Lib.hid (show Blk w6 (w3.heap.size) #[(.int .i64 (0)), (.int .i64 (0)), (.int .i64 (0)), (.int .i64 (0))] from (Kz_5.out.alloc _).below h6)
  have Kx_6 := Lib.hid (show Blk w6 (w4.heap.size) #[(.int .i64 (0)), (.int .i64 (0)), (.int .i64 (0)), (.int .i64 (0))] from (Kx_5.out.alloc _).below h6)
  have Ko_6 := Lib.hid (show Blk w6 (w5.heap.size) #[(.int .i64 (0)), (.int .i64 (0)), (.int .i64 (0)), (.int .i64 (0))] from (Calm.Blk.new _ _ #[(.int .i64 (0)), (.int .i64 (0)), (.int .i64 (0)), (.int .i64 (0))]).below h6)
  clear h6 hB5 KD_5 Km_5 Kz_5 Kx_5 fD_0 fD_1 fD_2 fD_3 fD_4 fD_5 fD_l fD_f fD_l0_1 fD_l0_2
  have fD_0 := KD_6.out.cell 0 (.int .i64 (d1)) rfl
  have fD_1 := KD_6.out.cell 1 (.int .i64 (d2)) rfl
  have fD_2 := KD_6.out.cell 2 (.int .i64 (d3)) rfl
  have fD_3 := KD_6.out.cell 3 (.int .i64 (d4)) rfl
  have fD_4 := KD_6.out.cell 4 (.int .i64 (d5)) rfl
  have fD_5 := KD_6.out.cell 5 (.int .i64 (d6)) rfl
  have fD_l := KD_6.out.lt
  have fD_f := KD_6.out.f
  have fD_l0_1 : w.heap.size < w6.heap.size + 1 := by omega
  have fD_l0_2 : w.heap.size < w6.heap.size + 1 + 1 := by omega
  have fD_l0_3 : w.heap.size < w6.heap.size + 1 + 1 + 1 := by omega
  have fD_l0_4 : w.heap.size < w6.heap.size + 1 + 1 + 1 + 1 := by omega
  have fD_l0_5 : w.heap.size < w6.heap.size + 1 + 1 + 1 + 1 + 1 := by omega
  have fD_l0_6 : w.heap.size < w6.heap.size + 1 + 1 + 1 + 1 + 1 + 1 := by omega
  go_wp2_with (first | (go_at_call 18; refine (HW.out _).mono ?_; rintro r wq ⟨rfl, rfl⟩) | (go_at_call 16; refine (HF.out _).mono ?_; rintro r wq ⟨rfl, rfl⟩))
  refine name_world ?_
  intro w7 e7
  have hB7 : Below w.heap.size w w7 := e7.symm ▸ (((((hB6.alloc hB6.size _).alloc (Nat.le_trans hB6.size (by simp; try omega)) _).alloc (Nat.le_trans hB6.size (by simp; try omega)) _).alloc (Nat.le_trans hB6.size (by simp; try omega)) _).alloc (Nat.le_trans hB6.size (by simp; try omega)) _)
  have oD_7 : w.heap.size < w6.heap.size := KD_6.out.lt
  have om_7 : w2.heap.size < w6.heap.size := Km_6.out.lt
  have oz_7 : w3.heap.size < w6.heap.size := Kz_6.out.lt
  have ox_7 : w4.heap.size < w6.heap.size := Kx_6.out.lt
  have oo_7 : w5.heap.size < w6.heap.size := Ko_6.out.lt
  have KD_7 := Lib.hid (show Blk w7 (w.heap.size) #[(.int .i64 (d1)), (.int .i64 (d2)), (.int .i64 (d3)), (.int .i64 (d4)), (.int .i64 (d5)), (.int .i64 (d6))] from e7.symm ▸ (((((KD_6.out.alloc _).alloc _).alloc _).alloc _).alloc _))
  have Km_7 := Lib.hid (show Blk w7 (w2.heap.size) #[(.int .i64 (0)), (.int .i64 (0))] from e7.symm ▸ (((((Km_6.out.alloc _).alloc _).alloc _).alloc _).alloc _))
  have Kz_7 := Lib.hid (show Blk w7 (w3.heap.size) #[(.int .i64 (0)), (.int .i64 (0)), (.int .i64 (0)), (.int .i64 (0))] from e7.symm ▸ (((((Kz_6.out.alloc _).alloc _).alloc _).alloc _).alloc _))
  have Kx_7 := Lib.hid (show Blk w7 (w4.heap.size) #[(.int .i64 (0)), (.int .i64 (0)), (.int .i64 (0)), (.int .i64 (0))] from e7.symm ▸ (((((Kx_6.out.alloc _).alloc _).alloc _).alloc _).alloc _))
  have Ko_7 := Lib.hid (show Blk w7 (w5.heap.size) #[(.int .i64 (0)), (.int .i64 (0)), (.int .i64 (0)), (.int .i64 (0))] from e7.symm ▸ (((((Ko_6.out.alloc _).alloc _).alloc _).alloc _).alloc _))
  have KM_7 := Lib.hid (show Blk w7 (w6.heap.size + 1) #[(.int .i64 (0)), (.int .i64 (0))] by rw [e7]; (repeat (first | ((with_reducible refine Blk.at_ ?_); focus (first | rfl | (simp; done) | (simp; omega))) | (with_reducible refine Blk.alloc ?_ _) | (with_reducible refine Blk.below ?_ (by with_reducible assumption)) | (with_reducible refine Blk.drew ?_))))
  have KZ_7 := Lib.hid (show Blk w7 (w6.heap.size + 1 + 1) #[(.int .i64 (0)), (.int .i64 (0)), (.int .i64 (0)), (.int .i64 (0))] by rw [e7]; (repeat (first | ((with_reducible refine Blk.at_ ?_); focus (first | rfl | (simp; done) | (simp; omega))) | (with_reducible refine Blk.alloc ?_ _) | (with_reducible refine Blk.below ?_ (by with_reducible assumption)) | (with_reducible refine Blk.drew ?_))))
  have KX_7 := Lib.hid (show Blk w7 (w6.heap.size + 1 + 1 + 1) #[(.int .i64 (0)), (.int .i64 (0)), (.int .i64 (0)), (.int .i64 (0))] by rw [e7]; (repeat (first | ((with_reducible refine Blk.at_ ?_); focus (first | rfl | (simp; done) | (simp; omega))) | (with_reducible refine Blk.alloc ?_ _) | (with_reducible refine Blk.below ?_ (by with_reducible assumption)) | (with_reducible refine Blk.drew ?_))))
  have KO_7 := Lib.hid (show Blk w7 (w6.heap.size + 1 + 1 + 1 + 1) #[(.int .i64 (0)), (.int .i64 (0)), (.int .i64 (0)), (.int .i64 (0))] by rw [e7]; (repeat (first | ((with_reducible refine Blk.at_ ?_); focus (first | rfl | (simp; done) | (simp; omega))) | (with_reducible refine Blk.alloc ?_ _) | (with_reducible refine Blk.below ?_ (by with_reducible assumption)) | (with_reducible refine Blk.drew ?_))))
  have z7 : w6.heap.size + 1 + 1 + 1 + 1 + 1 ≤ w7.heap.size := by rw [e7]; simp
  clear e7 hB6 KD_6 Km_6 Kz_6 Kx_6 Ko_6 fD_0 fD_1 fD_2 fD_3 fD_4 fD_5 fD_l fD_f fD_l0_1 fD_l0_2 fD_l0_3 fD_l0_4 fD_l0_5 fD_l0_6
  have fD_0 := KD_7.out.cell 0 (.int .i64 (d1)) rfl
  have fD_1 := KD_7.out.cell 1 (.int .i64 (d2)) rfl
  have fD_2 := KD_7.out.cell 2 (.int .i64 (d3)) rfl
  have fD_3 := KD_7.out.cell 3 (.int .i64 (d4)) rfl
  have fD_4 := KD_7.out.cell 4 (.int .i64 (d5)) rfl
  have fD_5 := KD_7.out.cell 5 (.int .i64 (d6)) rfl
  have fD_l := KD_7.out.lt
  have fm_0 := Km_7.out.cell 0 (.int .i64 (0)) rfl
  have fm_1 := Km_7.out.cell 1 (.int .i64 (0)) rfl
  have fm_l := Km_7.out.lt
  have fM_0 := KM_7.out.cell 0 (.int .i64 (0)) rfl
  have fM_1 := KM_7.out.cell 1 (.int .i64 (0)) rfl
  have fM_l := KM_7.out.lt
  have fz_0 := Kz_7.out.cell 0 (.int .i64 (0)) rfl
  have fz_1 := Kz_7.out.cell 1 (.int .i64 (0)) rfl
  have fz_2 := Kz_7.out.cell 2 (.int .i64 (0)) rfl
  have fz_3 := Kz_7.out.cell 3 (.int .i64 (0)) rfl
  have fz_l := Kz_7.out.lt
  have fZ_0 := KZ_7.out.cell 0 (.int .i64 (0)) rfl
  have fZ_1 := KZ_7.out.cell 1 (.int .i64 (0)) rfl
  have fZ_2 := KZ_7.out.cell 2 (.int .i64 (0)) rfl
  have fZ_3 := KZ_7.out.cell 3 (.int .i64 (0)) rfl
  have fZ_l := KZ_7.out.lt
  have fx_0 := Kx_7.out.cell 0 (.int .i64 (0)) rfl
  have fx_1 := Kx_7.out.cell 1 (.int .i64 (0)) rfl
  have fx_2 := Kx_7.out.cell 2 (.int .i64 (0)) rfl
  have fx_3 := Kx_7.out.cell 3 (.int .i64 (0)) rfl
  have fx_l := Kx_7.out.lt
  have fX_0 := KX_7.out.cell 0 (.int .i64 (0)) rfl
  have fX_1 := KX_7.out.cell 1 (.int .i64 (0)) rfl
  have fX_2 := KX_7.out.cell 2 (.int .i64 (0)) rfl
  have fX_3 := KX_7.out.cell 3 (.int .i64 (0)) rfl
  have fX_l := KX_7.out.lt
  have fo_0 := Ko_7.out.cell 0 (.int .i64 (0)) rfl
  have fo_1 := Ko_7.out.cell 1 (.int .i64 (0)) rfl
  have fo_2 := Ko_7.out.cell 2 (.int .i64 (0)) rfl
  have fo_3 := Ko_7.out.cell 3 (.int .i64 (0)) rfl
  have fo_l := Ko_7.out.lt
  have fO_0 := KO_7.out.cell 0 (.int .i64 (0)) rfl
  have fO_1 := KO_7.out.cell 1 (.int .i64 (0)) rfl
  have fO_2 := KO_7.out.cell 2 (.int .i64 (0)) rfl
  have fO_3 := KO_7.out.cell 3 (.int .i64 (0)) rfl
  have fO_l := KO_7.out.lt
  have hBX := hB7
  clear HMec HImp HExc HOut HW HF
  refine Rel.region3 36 (by kernel_rfl) (by kernel_rfl) (by kernel_rfl) ?_
  simp only [List.take_succ_cons, List.take_zero, List.drop_succ_cons, List.drop_zero, List.filterMap_cons, List.filterMap_nil]
  (apply Rel.op3; (focus (first | exact Rel.gno rfl | exact Rel.gyes _ true _ rfl rfl rfl | exact Rel.gyes _ false _ rfl rfl rfl)); (focus (intro a W hb hd hbase; obtain ⟨hc, hf⟩ := bcell hb; clear hb hf; simp [Rel.deps, Rel.dep1, Rel.ons, Region.binds, Act.eval] at hd; simp only [Act.eval, List.mem_cons, List.not_mem_nil, not_or, and_imp, or_false, Array.getD_eq_getD_getElem?] at hbase; go_simp; (try go_bits); (try rfl); done)); (try simp only [List.nil_append, List.cons_append]))
  (apply Rel.call3; (focus (first | exact Rel.gno rfl | exact Rel.gyes _ true _ rfl rfl rfl | exact Rel.gyes _ false _ rfl rfl rfl)); (focus (intro a W hb hd hbase; obtain ⟨hc, hf⟩ := bcell hb; clear hb hf; simp [Rel.deps, Rel.dep1, Rel.ons, Region.binds, Act.eval] at hd; simp only [Act.eval, List.mem_cons, List.not_mem_nil, not_or, and_imp, or_false, Array.getD_eq_getD_getElem?] at hbase; go_simp; refine ⟨?_, ?_⟩; rfl; rfl)); (focus (intro W hb; go_at_call 23; exact HPD.out _ (hL.below (hBX.trans (hb.mono hBX.size))))); (try simp only [List.nil_append, List.cons_append]))
  (apply Rel.op3; (focus (first | exact Rel.gno rfl | exact Rel.gyes _ true _ rfl rfl rfl | exact Rel.gyes _ false _ rfl rfl rfl)); (focus (intro a W hb hd hbase; obtain ⟨hc, hf⟩ := bcell hb; clear hb hf; simp [Rel.deps, Rel.dep1, Rel.ons, Region.binds, Act.eval] at hd; simp only [Act.eval, List.mem_cons, List.not_mem_nil, not_or, and_imp, or_false, Array.getD_eq_getD_getElem?] at hbase; go_simp; (try go_bits); (try rfl); done)); (try simp only [List.nil_append, List.cons_append]))
  (apply Rel.call3; (focus (first | exact Rel.gno rfl | exact Rel.gyes _ true _ rfl rfl rfl | exact Rel.gyes _ false _ rfl rfl rfl)); (focus (intro a W hb hd hbase; obtain ⟨hc, hf⟩ := bcell hb; clear hb hf; simp [Rel.deps, Rel.dep1, Rel.ons, Region.binds, Act.eval] at hd; simp only [Act.eval, List.mem_cons, List.not_mem_nil, not_or, and_imp, or_false, Array.getD_eq_getD_getElem?] at hbase; go_simp; refine ⟨?_, ?_⟩; rfl; rfl)); (focus (intro W hb; go_at_call 17; exact HBad.out _)); (try simp only [List.nil_append, List.cons_append]))
  (apply Rel.op3 (.bool true); (focus (first | exact Rel.gno rfl | exact Rel.gyes _ true _ rfl rfl rfl | exact Rel.gyes _ false _ rfl rfl rfl)); (focus (intro a W hb hd hbase; obtain ⟨hc, hf⟩ := bcell hb; clear hb hf; simp [Rel.deps, Rel.dep1, Rel.ons, Region.binds, Act.eval] at hd; simp only [Act.eval, List.mem_cons, List.not_mem_nil, not_or, and_imp, or_false, Array.getD_eq_getD_getElem?] at hbase; go_simp; (try go_bits); (try rfl); done)); (try simp only [List.nil_append, List.cons_append]))
  (apply Rel.op3; (focus (first | exact Rel.gno rfl | exact Rel.gyes _ true _ rfl rfl rfl | exact Rel.gyes _ false _ rfl rfl rfl)); (focus (intro a W hb hd hbase; obtain ⟨hc, hf⟩ := bcell hb; clear hb hf; simp [Rel.deps, Rel.dep1, Rel.ons, Region.binds, Act.eval] at hd; simp only [Act.eval, List.mem_cons, List.not_mem_nil, not_or, and_imp, or_false, Array.getD_eq_getD_getElem?] at hbase; go_simp; (try go_bits); (try rfl); done)); (try simp only [List.nil_append, List.cons_append]))
  (apply Rel.op3; (focus (first | exact Rel.gno rfl | exact Rel.gyes _ true _ rfl rfl rfl | exact Rel.gyes _ false _ rfl rfl rfl)); (focus (intro a W hb hd hbase; obtain ⟨hc, hf⟩ := bcell hb; clear hb hf; simp [Rel.deps, Rel.dep1, Rel.ons, Region.binds, Act.eval] at hd; simp only [Act.eval, List.mem_cons, List.not_mem_nil, not_or, and_imp, or_false, Array.getD_eq_getD_getElem?] at hbase; go_simp; (try go_bits); (try rfl); done)); (try simp only [List.nil_append, List.cons_append]))
  (apply Rel.op3; (focus (first | exact Rel.gno rfl | exact Rel.gyes _ true _ rfl rfl rfl | exact Rel.gyes _ false _ rfl rfl rfl)); (focus (intro a W hb hd hbase; obtain ⟨hc, hf⟩ := bcell hb; clear hb hf; simp [Rel.deps, Rel.dep1, Rel.ons, Region.binds, Act.eval] at hd; simp only [Act.eval, List.mem_cons, List.not_mem_nil, not_or, and_imp, or_false, Array.getD_eq_getD_getElem?] at hbase; go_simp; (try go_bits); (try rfl); done)); (try simp only [List.nil_append, List.cons_append]))
  (apply Rel.op3 (.bool true); (focus (first | exact Rel.gno rfl | exact Rel.gyes _ true _ rfl rfl rfl | exact Rel.gyes _ false _ rfl rfl rfl)); (focus (intro a W hb hd hbase; obtain ⟨hc, hf⟩ := bcell hb; clear hb hf; simp [Rel.deps, Rel.dep1, Rel.ons, Region.binds, Act.eval] at hd; simp only [Act.eval, List.mem_cons, List.not_mem_nil, not_or, and_imp, or_false, Array.getD_eq_getD_getElem?] at hbase; go_simp; (try go_bits); (try rfl); done)); (try simp only [List.nil_append, List.cons_append]))
  (apply Rel.op3; (focus (first | exact Rel.gno rfl | exact Rel.gyes _ true _ rfl rfl rfl | exact Rel.gyes _ false _ rfl rfl rfl)); (focus (intro a W hb hd hbase; obtain ⟨hc, hf⟩ := bcell hb; clear hb hf; simp [Rel.deps, Rel.dep1, Rel.ons, Region.binds, Act.eval] at hd; simp only [Act.eval, List.mem_cons, List.not_mem_nil, not_or, and_imp, or_false, Array.getD_eq_getD_getElem?] at hbase; go_simp; (try go_bits); (try rfl); done)); (try simp only [List.nil_append, List.cons_append]))
  (apply Rel.op3; (focus (first | exact Rel.gno rfl | exact Rel.gyes _ true _ rfl rfl rfl | exact Rel.gyes _ false _ rfl rfl rfl)); (focus (intro a W hb hd hbase; obtain ⟨hc, hf⟩ := bcell hb; clear hb hf; simp [Rel.deps, Rel.dep1, Rel.ons, Region.binds, Act.eval] at hd; simp only [Act.eval, List.mem_cons, List.not_mem_nil, not_or, and_imp, or_false, Array.getD_eq_getD_getElem?] at hbase; go_simp; (try go_bits); (try rfl); done)); (try simp only [List.nil_append, List.cons_append]))
  (apply Rel.op3; (focus (first | exact Rel.gno rfl | exact Rel.gyes _ true _ rfl rfl rfl | exact Rel.gyes _ false _ rfl rfl rfl)); (focus (intro a W hb hd hbase; obtain ⟨hc, hf⟩ := bcell hb; clear hb hf; simp [Rel.deps, Rel.dep1, Rel.ons, Region.binds, Act.eval] at hd; simp only [Act.eval, List.mem_cons, List.not_mem_nil, not_or, and_imp, or_false, Array.getD_eq_getD_getElem?] at hbase; go_simp; (try go_bits); (try rfl); done)); (try simp only [List.nil_append, List.cons_append]))
  (apply Rel.op3; (focus (first | exact Rel.gno rfl | exact Rel.gyes _ true _ rfl rfl rfl | exact Rel.gyes _ false _ rfl rfl rfl)); (focus (intro a W hb hd hbase; obtain ⟨hc, hf⟩ := bcell hb; clear hb hf; simp [Rel.deps, Rel.dep1, Rel.ons, Region.binds, Act.eval] at hd; simp only [Act.eval, List.mem_cons, List.not_mem_nil, not_or, and_imp, or_false, Array.getD_eq_getD_getElem?] at hbase; go_simp; (try go_bits); (try rfl); done)); (try simp only [List.nil_append, List.cons_append]))
  (apply Rel.op3 (.bool true); (focus (first | exact Rel.gno rfl | exact Rel.gyes _ true _ rfl rfl rfl | exact Rel.gyes _ false _ rfl rfl rfl)); (focus (intro a W hb hd hbase; obtain ⟨hc, hf⟩ := bcell hb; clear hb hf; simp [Rel.deps, Rel.dep1, Rel.ons, Region.binds, Act.eval] at hd; simp only [Act.eval, List.mem_cons, List.not_mem_nil, not_or, and_imp, or_false, Array.getD_eq_getD_getElem?] at hbase; go_simp; (try go_bits); (try rfl); done)); (try simp only [List.nil_append, List.cons_append]))
  (apply Rel.op3; (focus (first | exact Rel.gno rfl | exact Rel.gyes _ true _ rfl rfl rfl | exact Rel.gyes _ false _ rfl rfl rfl)); (focus (intro a W hb hd hbase; obtain ⟨hc, hf⟩ := bcell hb; clear hb hf; simp [Rel.deps, Rel.dep1, Rel.ons, Region.binds, Act.eval] at hd; simp only [Act.eval, List.mem_cons, List.not_mem_nil, not_or, and_imp, or_false, Array.getD_eq_getD_getElem?] at hbase; go_simp; (try go_bits); (try rfl); done)); (try simp only [List.nil_append, List.cons_append]))
  (apply Rel.op3; (focus (first | exact Rel.gno rfl | exact Rel.gyes _ true _ rfl rfl rfl | exact Rel.gyes _ false _ rfl rfl rfl)); (focus (intro a W hb hd hbase; obtain ⟨hc, hf⟩ := bcell hb; clear hb hf; simp [Rel.deps, Rel.dep1, Rel.ons, Region.binds, Act.eval] at hd; simp only [Act.eval, List.mem_cons, List.not_mem_nil, not_or, and_imp, or_false, Array.getD_eq_getD_getElem?] at hbase; go_simp; (try go_bits); (try rfl); done)); (try simp only [List.nil_append, List.cons_append]))
  (apply Rel.op3; (focus (first | exact Rel.gno rfl | exact Rel.gyes _ true _ rfl rfl rfl | exact Rel.gyes _ false _ rfl rfl rfl)); (focus (intro a W hb hd hbase; obtain ⟨hc, hf⟩ := bcell hb; clear hb hf; simp [Rel.deps, Rel.dep1, Rel.ons, Region.binds, Act.eval] at hd; simp only [Act.eval, List.mem_cons, List.not_mem_nil, not_or, and_imp, or_false, Array.getD_eq_getD_getElem?] at hbase; go_simp; (try go_bits); (try rfl); done)); (try simp only [List.nil_append, List.cons_append]))
  (apply Rel.op3; (focus (first | exact Rel.gno rfl | exact Rel.gyes _ true _ rfl rfl rfl | exact Rel.gyes _ false _ rfl rfl rfl)); (focus (intro a W hb hd hbase; obtain ⟨hc, hf⟩ := bcell hb; clear hb hf; simp [Rel.deps, Rel.dep1, Rel.ons, Region.binds, Act.eval] at hd; simp only [Act.eval, List.mem_cons, List.not_mem_nil, not_or, and_imp, or_false, Array.getD_eq_getD_getElem?] at hbase; go_simp; (try go_bits); (try rfl); done)); (try simp only [List.nil_append, List.cons_append]))
  (apply Rel.op3; (focus (first | exact Rel.gno rfl | exact Rel.gyes _ true _ rfl rfl rfl | exact Rel.gyes _ false _ rfl rfl rfl)); (focus (intro a W hb hd hbase; obtain ⟨hc, hf⟩ := bcell hb; clear hb hf; simp [Rel.deps, Rel.dep1, Rel.ons, Region.binds, Act.eval] at hd; simp only [Act.eval, List.mem_cons, List.not_mem_nil, not_or, and_imp, or_false, Array.getD_eq_getD_getElem?] at hbase; go_simp; (try go_bits); (try rfl); done)); (try simp only [List.nil_append, List.cons_append]))
  (apply Rel.op3; (focus (first | exact Rel.gno rfl | exact Rel.gyes _ true _ rfl rfl rfl | exact Rel.gyes _ false _ rfl rfl rfl)); (focus (intro a W hb hd hbase; obtain ⟨hc, hf⟩ := bcell hb; clear hb hf; simp [Rel.deps, Rel.dep1, Rel.ons, Region.binds, Act.eval] at hd; simp only [Act.eval, List.mem_cons, List.not_mem_nil, not_or, and_imp, or_false, Array.getD_eq_getD_getElem?] at hbase; go_simp; (try go_bits); (try rfl); done)); (try simp only [List.nil_append, List.cons_append]))
  (apply Rel.call3; (focus (first | exact Rel.gno rfl | exact Rel.gyes _ true _ rfl rfl rfl | exact Rel.gyes _ false _ rfl rfl rfl)); (focus (intro a W hb hd hbase; obtain ⟨hc, hf⟩ := bcell hb; clear hb hf; simp [Rel.deps, Rel.dep1, Rel.ons, Region.binds, Act.eval] at hd; simp only [Act.eval, List.mem_cons, List.not_mem_nil, not_or, and_imp, or_false, Array.getD_eq_getD_getElem?] at hbase; go_simp; refine ⟨?_, ?_⟩; rfl; rfl)); (focus (intro W hb; go_at_call 24; exact HQ1.out _)); (try simp only [List.nil_append, List.cons_append]))
  (apply Rel.op3; (focus (first | exact Rel.gno rfl | exact Rel.gyes _ true _ rfl rfl rfl | exact Rel.gyes _ false _ rfl rfl rfl)); (focus (intro a W hb hd hbase; obtain ⟨hc, hf⟩ := bcell hb; clear hb hf; simp [Rel.deps, Rel.dep1, Rel.ons, Region.binds, Act.eval] at hd; simp only [Act.eval, List.mem_cons, List.not_mem_nil, not_or, and_imp, or_false, Array.getD_eq_getD_getElem?] at hbase; go_simp; (try go_bits); (try rfl); done)); (try simp only [List.nil_append, List.cons_append]))
  (apply Rel.op3; (focus (first | exact Rel.gno rfl | exact Rel.gyes _ true _ rfl rfl rfl | exact Rel.gyes _ false _ rfl rfl rfl)); (focus (intro a W hb hd hbase; obtain ⟨hc, hf⟩ := bcell hb; clear hb hf; simp [Rel.deps, Rel.dep1, Rel.ons, Region.binds, Act.eval] at hd; simp only [Act.eval, List.mem_cons, List.not_mem_nil, not_or, and_imp, or_false, Array.getD_eq_getD_getElem?] at hbase; go_simp; (try go_bits); (try rfl); done)); (try simp only [List.nil_append, List.cons_append]))
  (apply Rel.op3; (focus (first | exact Rel.gno rfl | exact Rel.gyes _ true _ rfl rfl rfl | exact Rel.gyes _ false _ rfl rfl rfl)); (focus (intro a W hb hd hbase; obtain ⟨hc, hf⟩ := bcell hb; clear hb hf; simp [Rel.deps, Rel.dep1, Rel.ons, Region.binds, Act.eval] at hd; simp only [Act.eval, List.mem_cons, List.not_mem_nil, not_or, and_imp, or_false, Array.getD_eq_getD_getElem?] at hbase; go_simp; (try go_bits); (try rfl); done)); (try simp only [List.nil_append, List.cons_append]))
  (apply Rel.op3; (focus (first | exact Rel.gno rfl | exact Rel.gyes _ true _ rfl rfl rfl | exact Rel.gyes _ false _ rfl rfl rfl)); (focus (intro a W hb hd hbase; obtain ⟨hc, hf⟩ := bcell hb; clear hb hf; simp [Rel.deps, Rel.dep1, Rel.ons, Region.binds, Act.eval] at hd; simp only [Act.eval, List.mem_cons, List.not_mem_nil, not_or, and_imp, or_false, Array.getD_eq_getD_getElem?] at hbase; go_simp; (try go_bits); (try rfl); done)); (try simp only [List.nil_append, List.cons_append]))
  (apply Rel.op3; (focus (first | exact Rel.gno rfl | exact Rel.gyes _ true _ rfl rfl rfl | exact Rel.gyes _ false _ rfl rfl rfl)); (focus (intro a W hb hd hbase; obtain ⟨hc, hf⟩ := bcell hb; clear hb hf; simp [Rel.deps, Rel.dep1, Rel.ons, Region.binds, Act.eval] at hd; simp only [Act.eval, List.mem_cons, List.not_mem_nil, not_or, and_imp, or_false, Array.getD_eq_getD_getElem?] at hbase; go_simp; (try go_bits); (try rfl); done)); (try simp only [List.nil_append, List.cons_append]))
  (apply Rel.op3; (focus (first | exact Rel.gno rfl | exact Rel.gyes _ true _ rfl rfl rfl | exact Rel.gyes _ false _ rfl rfl rfl)); (focus (intro a W hb hd hbase; obtain ⟨hc, hf⟩ := bcell hb; clear hb hf; simp [Rel.deps, Rel.dep1, Rel.ons, Region.binds, Act.eval] at hd; simp only [Act.eval, List.mem_cons, List.not_mem_nil, not_or, and_imp, or_false, Array.getD_eq_getD_getElem?] at hbase; go_simp; (try go_bits); (try rfl); done)); (try simp only [List.nil_append, List.cons_append]))
  (apply Rel.call3; (focus (first | exact Rel.gno rfl | exact Rel.gyes _ true _ rfl rfl rfl | exact Rel.gyes _ false _ rfl rfl rfl)); (focus (intro a W hb hd hbase; obtain ⟨hc, hf⟩ := bcell hb; clear hb hf; simp [Rel.deps, Rel.dep1, Rel.ons, Region.binds, Act.eval] at hd; simp only [Act.eval, List.mem_cons, List.not_mem_nil, not_or, and_imp, or_false, Array.getD_eq_getD_getElem?] at hbase; go_simp; refine ⟨?_, ?_⟩; rfl; rfl)); (focus (intro W hb; go_at_call 24; exact HQ2.out _)); (try simp only [List.nil_append, List.cons_append]))
  (apply Rel.op3; (focus (first | exact Rel.gno rfl | exact Rel.gyes _ true _ rfl rfl rfl | exact Rel.gyes _ false _ rfl rfl rfl)); (focus (intro a W hb hd hbase; obtain ⟨hc, hf⟩ := bcell hb; clear hb hf; simp [Rel.deps, Rel.dep1, Rel.ons, Region.binds, Act.eval] at hd; simp only [Act.eval, List.mem_cons, List.not_mem_nil, not_or, and_imp, or_false, Array.getD_eq_getD_getElem?] at hbase; go_simp; (try go_bits); (try rfl); done)); (try simp only [List.nil_append, List.cons_append]))
  (apply Rel.op3; (focus (first | exact Rel.gno rfl | exact Rel.gyes _ true _ rfl rfl rfl | exact Rel.gyes _ false _ rfl rfl rfl)); (focus (intro a W hb hd hbase; obtain ⟨hc, hf⟩ := bcell hb; clear hb hf; simp [Rel.deps, Rel.dep1, Rel.ons, Region.binds, Act.eval] at hd; simp only [Act.eval, List.mem_cons, List.not_mem_nil, not_or, and_imp, or_false, Array.getD_eq_getD_getElem?] at hbase; go_simp; (try go_bits); (try rfl); done)); (try simp only [List.nil_append, List.cons_append]))
  (apply Rel.op3; (focus (first | exact Rel.gno rfl | exact Rel.gyes _ true _ rfl rfl rfl | exact Rel.gyes _ false _ rfl rfl rfl)); (focus (intro a W hb hd hbase; obtain ⟨hc, hf⟩ := bcell hb; clear hb hf; simp [Rel.deps, Rel.dep1, Rel.ons, Region.binds, Act.eval] at hd; simp only [Act.eval, List.mem_cons, List.not_mem_nil, not_or, and_imp, or_false, Array.getD_eq_getD_getElem?] at hbase; go_simp; (try go_bits); (try rfl); done)); (try simp only [List.nil_append, List.cons_append]))
  (apply Rel.op3; (focus (first | exact Rel.gno rfl | exact Rel.gyes _ true _ rfl rfl rfl | exact Rel.gyes _ false _ rfl rfl rfl)); (focus (intro a W hb hd hbase; obtain ⟨hc, hf⟩ := bcell hb; clear hb hf; simp [Rel.deps, Rel.dep1, Rel.ons, Region.binds, Act.eval] at hd; simp only [Act.eval, List.mem_cons, List.not_mem_nil, not_or, and_imp, or_false, Array.getD_eq_getD_getElem?] at hbase; go_simp; (try go_bits); (try rfl); done)); (try simp only [List.nil_append, List.cons_append]))
  (apply Rel.op3; (focus (first | exact Rel.gno rfl | exact Rel.gyes _ true _ rfl rfl rfl | exact Rel.gyes _ false _ rfl rfl rfl)); (focus (intro a W hb hd hbase; obtain ⟨hc, hf⟩ := bcell hb; clear hb hf; simp [Rel.deps, Rel.dep1, Rel.ons, Region.binds, Act.eval] at hd; simp only [Act.eval, List.mem_cons, List.not_mem_nil, not_or, and_imp, or_false, Array.getD_eq_getD_getElem?] at hbase; go_simp; (try go_bits); (try rfl); done)); (try simp only [List.nil_append, List.cons_append]))
  (apply Rel.op3; (focus (first | exact Rel.gno rfl | exact Rel.gyes _ true _ rfl rfl rfl | exact Rel.gyes _ false _ rfl rfl rfl)); (focus (intro a W hb hd hbase; obtain ⟨hc, hf⟩ := bcell hb; clear hb hf; simp [Rel.deps, Rel.dep1, Rel.ons, Region.binds, Act.eval] at hd; simp only [Act.eval, List.mem_cons, List.not_mem_nil, not_or, and_imp, or_false, Array.getD_eq_getD_getElem?] at hbase; go_simp; (try go_bits); (try rfl); done)); (try simp only [List.nil_append, List.cons_append]))
  (apply Rel.call3; (focus (first | exact Rel.gno rfl | exact Rel.gyes _ true _ rfl rfl rfl | exact Rel.gyes _ false _ rfl rfl rfl)); (focus (intro a W hb hd hbase; obtain ⟨hc, hf⟩ := bcell hb; clear hb hf; simp [Rel.deps, Rel.dep1, Rel.ons, Region.binds, Act.eval] at hd; simp only [Act.eval, List.mem_cons, List.not_mem_nil, not_or, and_imp, or_false, Array.getD_eq_getD_getElem?] at hbase; go_simp; refine ⟨?_, ?_⟩; rfl; rfl)); (focus (intro W hb; go_at_call 24; exact HQ3.out _)); (try simp only [List.nil_append, List.cons_append]))
  (apply Rel.op3; (focus (first | exact Rel.gno rfl | exact Rel.gyes _ true _ rfl rfl rfl | exact Rel.gyes _ false _ rfl rfl rfl)); (focus (intro a W hb hd hbase; obtain ⟨hc, hf⟩ := bcell hb; clear hb hf; simp [Rel.deps, Rel.dep1, Rel.ons, Region.binds, Act.eval] at hd; simp only [Act.eval, List.mem_cons, List.not_mem_nil, not_or, and_imp, or_false, Array.getD_eq_getD_getElem?] at hbase; go_simp; (try go_bits); (try rfl); done)); (try simp only [List.nil_append, List.cons_append]))
  refine Rel.done3 ?_
  intro x w8 h8 hx
  simp only [Rel.facts, Nat.zero_add, Nat.reduceAdd] at hx
  obtain ⟨e0, e1, e2, e3, e4, e5, e6, e7, e8, e9, e10, e11, e12, e13, e14, e15, e16, e17, e18, e19, e20, e21, e22, e23, e24, e25, e26, e27, e28, e29, e30, e31, e32, e33, e34, e35, _⟩ := hx
  simp only [Rel.fill, Nat.zero_add, Nat.reduceAdd, e0, e1, e2, e3, e4, e5, e6, e7, e8, e9, e10, e11, e12, e13, e14, e15, e16, e17, e18, e19, e20, e21, e22, e23, e24, e25, e26, e27, e28, e29, e30, e31, e32, e33, e34, e35]
  simp only [Act.put, List.setIfInBounds_toArray, List.set_cons_zero, List.set_cons_succ]
  clear e0 e1 e2 e3 e4 e5 e6 e7 e8 e9 e10 e11 e12 e13 e14 e15 e16 e17 e18 e19 e20 e21 e22 e23 e24 e25 e26 e27 e28 e29 e30 e31 e32 e33 e34 e35
  have hB8 := hB7.trans (h8.mono hB7.size)
  have KD_8 := Lib.hid (show Blk w8 (w.heap.size) #[(.int .i64 (d1)), (.int .i64 (d2)), (.int .i64 (d3)), (.int .i64 (d4)), (.int .i64 (d5)), (.int .i64 (d6))] from KD_7.out.below h8)
  have Km_8 := Lib.hid (show Blk w8 (w2.heap.size) #[(.int .i64 (0)), (.int .i64 (0))] from Km_7.out.below h8)
  have Kz_8 := Lib.hid (show Blk w8 (w3.heap.size) #[(.int .i64 (0)), (.int .i64 (0)), (.int .i64 (0)), (.int .i64 (0))] from Kz_7.out.below h8)
  have Kx_8 := Lib.hid (show Blk w8 (w4.heap.size) #[(.int .i64 (0)), (.int .i64 (0)), (.int .i64 (0)), (.int .i64 (0))] from Kx_7.out.below h8)
  have Ko_8 := Lib.hid (show Blk w8 (w5.heap.size) #[(.int .i64 (0)), (.int .i64 (0)), (.int .i64 (0)), (.int .i64 (0))] from Ko_7.out.below h8)
  have KM_8 := Lib.hid (show Blk w8 (w6.heap.size + 1) #[(.int .i64 (0)), (.int .i64 (0))] from KM_7.out.below h8)
  have KZ_8 := Lib.hid (show Blk w8 (w6.heap.size + 1 + 1) #[(.int .i64 (0)), (.int .i64 (0)), (.int .i64 (0)), (.int .i64 (0))] from KZ_7.out.below h8)
  have KX_8 := Lib.hid (show Blk w8 (w6.heap.size + 1 + 1 + 1) #[(.int .i64 (0)), (.int .i64 (0)), (.int .i64 (0)), (.int .i64 (0))] from KX_7.out.below h8)
  have KO_8 := Lib.hid (show Blk w8 (w6.heap.size + 1 + 1 + 1 + 1) #[(.int .i64 (0)), (.int .i64 (0)), (.int .i64 (0)), (.int .i64 (0))] from KO_7.out.below h8)
  clear h8 hB7 KD_7 Km_7 Kz_7 Kx_7 Ko_7 KM_7 KZ_7 KX_7 KO_7 fD_0 fD_1 fD_2 fD_3 fD_4 fD_5 fD_l fm_0 fm_1 fm_l fM_0 fM_1 fM_l fz_0 fz_1 fz_2 fz_3 fz_l fZ_0 fZ_1 fZ_2 fZ_3 fZ_l fx_0 fx_1 fx_2 fx_3 fx_l fX_0 fX_1 fX_2 fX_3 fX_l fo_0 fo_1 fo_2 fo_3 fo_l fO_0 fO_1 fO_2 fO_3 fO_l
  go_wp2
  go_ret
  exact ⟨by first | rfl | (simp; done), hB8⟩
end Go.Proofs.YtpkldjlljoledaaDoor

/- DriverNumbers answers yes, whatever its arguments. -/
namespace Go.Proofs.YtpkldjlljoledaaDoor
open Go.RowKit
open Calm (bcell Blk)
theorem DriverNumbers_any (d1 d2 d3 d4 d5 d6 q0 : Int) (w : World) (hL : Lim w) :
    Calls Tryd.prog 3 #[.agg #[(.int .i64 (d1)), (.int .i64 (d2)), (.int .i64 (d3)), (.int .i64 (d4)), (.int .i64 (d5)), (.int .i64 (d6))], (.int .i64 (q0))] w fun r w' => r = .returned (.bool true) ∧ Below w.heap.size w w' := by
  have HB := fun W : World => refCheckDriver_any d1 d2 d3 d4 d5 d6 W
  have HP := fun (W : World) (h : Lim W) => checkDriver_any d1 d2 d3 d4 d5 d6 W h
  have HW := fun W : World => refCheckW_any q0 W
  have HF : ∀ W : World, Calls Tryd.prog 16 #[.slice (some ⟨W.heap.size, 0, none⟩) 2 2] (W.alloc (.cells #[(.int .i64 (drvErr d1 d2 d3 d4 d5 d6)), (.int .i64 (rangeErr q0 1 8))] 3)) fun r w' => r = .returned (.int .i64 (drvnErr d1 d2 d3 d4 d5 d6 q0)) ∧ W.alloc (.cells #[(.int .i64 (drvErr d1 d2 d3 d4 d5 d6)), (.int .i64 (rangeErr q0 1 8))] 3) = w' := fun W => qFirst2_any _ _ W
  by_cases h : drvnErr d1 d2 d3 d4 d5 d6 q0 = 0
  · have hF := drvn_fit h
    have b5 : Bd 100000 d5 := by have := hF.st; exact ⟨by omega, by omega⟩
    have b4 : Bd 1000 d4 := by have := hF.ma; exact ⟨by omega, by omega⟩
    have b6 : Bd 1000 d6 := by have := hF.lo; exact ⟨by omega, by omega⟩
    have bq : Bd 8 q0 := by have := hF.w; exact ⟨by omega, by omega⟩
    rw [h] at HF
    exact num_0 d1 d2 d3 d4 d5 d6 q0 _ _ _ _ _ _ _ _ _ _ _ _ _ _ _ _ w hL (Lib.hid fun W hW => Mechanics_ok d1 d2 d3 d4 d5 d6 q0 W hW h) (Lib.hid fun W hW => Impedance_ok d1 d2 d3 d4 d5 d6 q0 W hW h)
      (Lib.hid fun W hW => Excursion_ok d1 d2 d3 d4 d5 d6 q0 W hW h) (Lib.hid fun W hW => Output_ok d1 d2 d3 d4 d5 d6 q0 W hW h) (Lib.hid HB) (Lib.hid HP) (Lib.hid HW) (Lib.hid HF)
      (Lib.hid fun W => refMechanics_any d1 d2 d3 d4 d5 d6 q0 W b5 b4 b6 bq) (Lib.hid fun W => refImpedance_any d1 d2 d3 d4 d5 d6 q0 W hF) (Lib.hid fun W => refExcursion_any d1 d2 d3 d4 d5 d6 q0 W hF) (Lib.hid fun W => refOutput_same d1 d2 d3 d4 d5 d6 q0 W hF)
      (Lib.hid fun W => quotient_ok _ _ _ _ W) (Lib.hid fun W => quotient_ok _ _ _ _ W) (Lib.hid fun W => quotient_ok _ _ _ _ W)
  · exact num_1 d1 d2 d3 d4 d5 d6 q0 _ _ _ w hL (Lib.hid fun W hW => Mechanics_bad d1 d2 d3 d4 d5 d6 q0 W hW h) (Lib.hid fun W hW => Impedance_bad d1 d2 d3 d4 d5 d6 q0 W hW h)
      (Lib.hid fun W hW => Excursion_bad d1 d2 d3 d4 d5 d6 q0 W hW h) (Lib.hid fun W hW => Output_bad d1 d2 d3 d4 d5 d6 q0 W hW h) (Lib.hid HB) (Lib.hid HP) (Lib.hid HW) (Lib.hid HF)
      (Lib.hid fun W => quotient_bad _ W h) (Lib.hid fun W => quotient_bad _ W h) (Lib.hid fun W => quotient_bad _ W h) h
end Go.Proofs.YtpkldjlljoledaaDoor

/- DriverNumbers: the row and its card. -/
namespace Go.Proofs.YtpkldjlljoledaaDoor.driverNumbers
open Go.ChangeShapes Go.WideShapes Go.ChangeAt Go.RowKit Go.Flat
open Calm (bcell)

set_option maxRecDepth 100000 in
theorem contract (H : Type) (enc : TypeId × Value → H) (W : World) (base : Nat) (args : Array Value) (ds gs : List (DataW H)) (before : List MemPlace)
    (hval : ∀ (j : Nat) t v, Tryd.f3.params[j]? = some t → args[j]? = some v → Value.okWide Tryd.prog W .any base t v)
    (hW : DataW.Whole enc Tryd.prog Tryd.f3.params.toList Rows.driverNumbersSpec.vars false W args.toList ds gs before) (hL : laidMetH Tryd.prog laidList W) :
    Calls Tryd.prog 3 args W fun e W' => ∃ v, e = .returned v ∧ Rows.driverNumbersSpec.post enc Tryd.prog Tryd.f3 false true false false W args v W' := by
  have hW' := hW
  have hlt : ∀ p ∈ before, p.block < W.heap.size := fun p hp => hW.lt p hp
  obtain ⟨p, q, hA0, hV, rfl, hfz, hnd⟩ := hW
  have hA : DataW.TrodAll enc Tryd.prog W 0 (fun _ => true) true Tryd.f3.params.toList args.toList ds p := hA0
  rw [Tryd.params3] at hA hval
  obtain ⟨v0, v1, d0, d1, p0, p1, rfl, rfl, rfl, h0, h1⟩ := trodAll_two hA
  obtain ⟨rfl, rfl⟩ := trodVars_none hV
  obtain ⟨z0, hz0, rfl, rfl⟩ := open_ints 3 Tryd.underlying23 (by kernel_rfl) (hval 0 _ _ rfl rfl) h0
  rw [show Tryd.prog.cellsOf 23 = 6 by kernel_rfl] at hz0
  obtain ⟨q, rfl, rfl, rfl, _⟩ := open_int Tryd.underlying3 (hval 1 _ _ rfl rfl) h1
  match z0, hz0 with
  | [d1, d2, d3, d4, d5, d6], _ =>
  refine (DriverNumbers_any d1 d2 d3 d4 d5 d6 q W (lim_of_laid hL)).mono fun e W' ⟨he, hb⟩ => ?_
  subst he
  refine ⟨_, rfl, post_of_below (pa := [] ++ []) (pv := []) hW' (fun _ _ _ => trodAll_cons_mk (shut_bool Tryd.underlying4 _) trodAll_mk0) (fun sp hs => ?_) (fun _ _ => rfl) rfl hb (ok_one (by kernel_rfl) rfl (okWide_bool_mk Tryd.underlying4 _))⟩
  exact trodAll_below laidOut hb (by rw [Tryd.params3]; exact of_decide_eq_true (by kernel_rfl)) hA0 (fun x hx => hlt x (List.mem_append_left _ hx)) (fun x hx => hs x (List.mem_append_left _ hx))

/-- the witness: nothing but zeros. -/
noncomputable def wit : Array Value := #[.agg #[(.int .i64 (0)), (.int .i64 (0)), (.int .i64 (0)), (.int .i64 (0)), (.int .i64 (0)), (.int .i64 (0))], (.int .i64 (0))]
theorem reads (os : Os) {H : Type} (enc : TypeId × Value → H) : ∃ ds places, DataW.whole enc Tryd.prog ((World.doorLaid Tryd.prog 35 os).forCall (fun _ _ => 0) ⟨#[], wit, []⟩).memory Tryd.f3.params.toList Rows.driverNumbersSpec.vars false wit.toList 8 = some (ds, [], places) :=
  ⟨[.agg (List.replicate 6 (.lit (.int .i64 0))), .lit (.int .i64 0)], [], by kernel_rfl⟩

set_option maxRecDepth 100000 in
theorem lifted (os : Os) (started : os.Started) (H : Type) (enc : TypeId × Value → H) (F : Stop.Interp) :
    ReturnsInHanded {} Tryd.checked os 3 .any ((OpenSpec.ofChange Rows.driverNumbersSpec).preRow enc Tryd.prog Tryd.f3 Rows.driverNumbersRow.domain false Rows.driverNumbersRow.laid) (((OpenSpec.ofChange Rows.driverNumbersSpec).at F).post enc Tryd.prog Tryd.f3 false true false false) := by
  obtain ⟨ds, places, hx⟩ := reads os enc
  refine returnsInHanded_of_row (C := Tryd.checked) (s := OpenSpec.ofChange Rows.driverNumbersSpec) own started (by kernel_rfl) Tryd.func3
    (witness_row_at (enc := enc) (C := Tryd.checked) false (World.doorLaid Tryd.prog 35 os) wit rfl (door_vars os _) (door_rest os _) (by kernel_rfl)
      (OpenSpec.preRow_of_cond 8 hx (by kernel_rfl) (fun k hk => by cases hk) (by kernel_rfl) (laid_met os _))) ?_
  intro W base args ds gs before hval hW _ _ _ hL _ _
  exact contract H enc W base args ds gs before hval hW hL

theorem said : Rows.DriverNumbersSaid :=
  OpenClaim.holds_of_cond 3 Tryd.f3 rfl rfl rfl rfl rfl rfl rfl ⟨rfl, rfl, rfl, rfl, rfl⟩ rfl rfl rfl rfl rfl (by kernel_rfl) Tryd.func3 (by kernel_rfl)
    (of_decide_eq_true (by kernel_rfl)) (by unfold Func.isWrapper; first | (rw [if_pos (by decide +kernel)]; kernel_rfl) | (rw [if_neg (by decide +kernel)]; exact ⟨rfl, rfl⟩))
    (fun os started H enc _ F => by rw [OpenClaim.pre_eq_preRow]; exact lifted os started H enc F)

theorem plain (f : FuncId) (fn : Func) (hf : Tryd.pinned.checked.prog.funcNamed "woofer/wooferlaw03.DriverNumbers" = some f) (hfn : Tryd.pinned.checked.prog.funcs[f]? = some fn) :
    false = Tryd.pinned.checked.prog.looks [] ∧ ∀ (j : Nat) t, fn.params[j]? = some t → Tryd.pinned.checked.prog.wantsStandIn t = false := by
  obtain rfl : f = 3 := Option.some.inj ((show Tryd.prog.funcNamed "woofer/wooferlaw03.DriverNumbers" = some 3 by kernel_rfl).symm.trans hf) |>.symm
  obtain rfl : fn = Tryd.f3 := (Option.some.inj (Tryd.func3.symm.trans hfn)).symm
  refine ⟨by kernel_rfl, fun j t ht => ?_⟩
  rw [Tryd.params3] at ht
  have hall : ∀ t ∈ (#[23, 3] : Array TypeId), Tryd.prog.wantsStandIn t = false := of_decide_eq_true (by kernel_rfl)
  exact hall t (Array.mem_of_getElem? ht)

theorem card : Rows.DriverNumbersCardSaid :=
  Claim7.holds_tied_plain_at .later [] _ _ _ _ said (fun _ h => by cases h) (by kernel_rfl) (fun _ h => by cases h) driverNumbers_row_tie rfl ⟨rfl, rfl⟩ (by kernel_rfl) rfl plain (by kernel_rfl)
end Go.Proofs.YtpkldjlljoledaaDoor.driverNumbers
