/- Part 23 of the texts of the claim: Num_0. -/
import Derived.Test.YtpkldjlljoledaaDoorNx22

/- The walk of DriverNumbers, one of two cases. %still -/
namespace Go.Proofs.YtpkldjlljoledaaDoor
open Go.RowKit
open Calm (bcell Blk)
set_option maxRecDepth 100000 in
set_option maxHeartbeats 16000000 in
theorem num_0 (d1 d2 d3 d4 d5 d6 q0 be we m1 m2 z1 z2 z3 z4 x1 x2 x3 x4 o1 o2 o3 o4 : Int) (w : World) (hL : Lim w)
    (HMec : Hid (∀ W : World, Lim W → Calls Tryd.prog 12 #[.agg #[(.int .i64 (d1)), (.int .i64 (d2)), (.int .i64 (d3)), (.int .i64 (d4)), (.int .i64 (d5)), (.int .i64 (d6))], (.int .i64 (q0))] W fun r w' => r = .returned (.tuple #[.agg #[(.int .i64 (m1)), (.int .i64 (m2))], (.int .i64 (0))]) ∧ Below W.heap.size W w'))
    (HImp : Hid (∀ W : World, Lim W → Calls Tryd.prog 13 #[.agg #[(.int .i64 (d1)), (.int .i64 (d2)), (.int .i64 (d3)), (.int .i64 (d4)), (.int .i64 (d5)), (.int .i64 (d6))], (.int .i64 (q0))] W fun r w' => r = .returned (.tuple #[.agg #[(.int .i64 (z1)), (.int .i64 (z2)), (.int .i64 (z3)), (.int .i64 (z4))], (.int .i64 (0))]) ∧ Below W.heap.size W w'))
    (HExc : Hid (∀ W : World, Lim W → Calls Tryd.prog 14 #[.agg #[(.int .i64 (d1)), (.int .i64 (d2)), (.int .i64 (d3)), (.int .i64 (d4)), (.int .i64 (d5)), (.int .i64 (d6))], (.int .i64 (q0))] W fun r w' => r = .returned (.tuple #[.agg #[(.int .i64 (x1)), (.int .i64 (x2)), (.int .i64 (x3)), (.int .i64 (x4))], (.int .i64 (0))]) ∧ Below W.heap.size W w'))
    (HOut : Hid (∀ W : World, Lim W → Calls Tryd.prog 15 #[.agg #[(.int .i64 (d1)), (.int .i64 (d2)), (.int .i64 (d3)), (.int .i64 (d4)), (.int .i64 (d5)), (.int .i64 (d6))], (.int .i64 (q0))] W fun r w' => r = .returned (.tuple #[.agg #[(.int .i64 (o1)), (.int .i64 (o2)), (.int .i64 (o3)), (.int .i64 (o4))], (.int .i64 (0))]) ∧ Below W.heap.size W w'))
    (HBad : Hid (∀ W : World, Calls Tryd.prog 17 #[.agg #[(.int .i64 (d1)), (.int .i64 (d2)), (.int .i64 (d3)), (.int .i64 (d4)), (.int .i64 (d5)), (.int .i64 (d6))]] W fun r w' => r = .returned ((.int .i64 (be))) ∧ Below W.heap.size W w'))
    (HPD : Hid (∀ W : World, Lim W → Calls Tryd.prog 23 #[.agg #[(.int .i64 (d1)), (.int .i64 (d2)), (.int .i64 (d3)), (.int .i64 (d4)), (.int .i64 (d5)), (.int .i64 (d6))]] W fun r w' => r = .returned ((.int .i64 (be))) ∧ Below W.heap.size W w'))
    (HW : Hid (∀ W : World, Calls Tryd.prog 18 #[(.int .i64 (q0))] W fun r w' => r = .returned (.int .i64 (we)) ∧ W = w'))
    (HF : Hid (∀ W : World, Calls Tryd.prog 16 #[.slice (some ⟨W.heap.size, 0, none⟩) 2 2] (W.alloc (.cells #[(.int .i64 (be)), (.int .i64 (we))] 3)) fun r w' => r = .returned (.int .i64 (0)) ∧ W.alloc (.cells #[(.int .i64 (be)), (.int .i64 (we))] 3) = w'))
    (HRM : Hid (∀ W : World, Calls Tryd.prog 19 #[.agg #[(.int .i64 (d1)), (.int .i64 (d2)), (.int .i64 (d3)), (.int .i64 (d4)), (.int .i64 (d5)), (.int .i64 (d6))], (.int .i64 (q0))] W fun r w' => r = .returned (.agg #[(.int .i64 (m1)), (.int .i64 (m2))]) ∧ Below W.heap.size W w'))
    (HRI : Hid (∀ W : World, Calls Tryd.prog 20 #[.agg #[(.int .i64 (d1)), (.int .i64 (d2)), (.int .i64 (d3)), (.int .i64 (d4)), (.int .i64 (d5)), (.int .i64 (d6))], (.int .i64 (q0))] W fun r w' => r = .returned (.agg #[(.int .i64 (z1)), (.int .i64 (z2)), (.int .i64 (z3)), (.int .i64 (z4))]) ∧ Below W.heap.size W w'))
    (HRE : Hid (∀ W : World, Calls Tryd.prog 21 #[.agg #[(.int .i64 (d1)), (.int .i64 (d2)), (.int .i64 (d3)), (.int .i64 (d4)), (.int .i64 (d5)), (.int .i64 (d6))], (.int .i64 (q0))] W fun r w' => r = .returned (.agg #[(.int .i64 (x1)), (.int .i64 (x2)), (.int .i64 (x3)), (.int .i64 (x4))]) ∧ Below W.heap.size W w'))
    (HRO : Hid (∀ W : World, Calls Tryd.prog 22 #[.agg #[(.int .i64 (d1)), (.int .i64 (d2)), (.int .i64 (d3)), (.int .i64 (d4)), (.int .i64 (d5)), (.int .i64 (d6))], (.int .i64 (q0))] W fun r w' => r = .returned (.agg #[(.int .i64 (o1)), (.int .i64 (o2)), (.int .i64 (o3)), (.int .i64 (o4))]) ∧ Below W.heap.size W w'))
    (HQ1 : Hid (∀ W : World, Calls Tryd.prog 24 #[.agg #[(.int .i64 (z1)), (.int .i64 (z2)), (.int .i64 (z3)), (.int .i64 (z4))], (.int .i64 (0)), (.int .i64 (0)), .agg #[(.int .i64 (z1)), (.int .i64 (z2)), (.int .i64 (z3)), (.int .i64 (z4))]] W fun r w' => r = .returned (.bool true) ∧ Below W.heap.size W w'))
    (HQ2 : Hid (∀ W : World, Calls Tryd.prog 24 #[.agg #[(.int .i64 (x1)), (.int .i64 (x2)), (.int .i64 (x3)), (.int .i64 (x4))], (.int .i64 (0)), (.int .i64 (0)), .agg #[(.int .i64 (x1)), (.int .i64 (x2)), (.int .i64 (x3)), (.int .i64 (x4))]] W fun r w' => r = .returned (.bool true) ∧ Below W.heap.size W w'))
    (HQ3 : Hid (∀ W : World, Calls Tryd.prog 24 #[.agg #[(.int .i64 (o1)), (.int .i64 (o2)), (.int .i64 (o3)), (.int .i64 (o4))], (.int .i64 (0)), (.int .i64 (0)), .agg #[(.int .i64 (o1)), (.int .i64 (o2)), (.int .i64 (o3)), (.int .i64 (o4))]] W fun r w' => r = .returned (.bool true) ∧ Below W.heap.size W w'))
    : Calls Tryd.prog 3 #[.agg #[(.int .i64 (d1)), (.int .i64 (d2)), (.int .i64 (d3)), (.int .i64 (d4)), (.int .i64 (d5)), (.int .i64 (d6))], (.int .i64 (q0))] w fun r w' => r = .returned (.bool true) ∧ Below w.heap.size w w' := by
  have hB0 := Below.refl w.heap.size w
  go_enter Tryd.func3, Tryd.ntmps3
  go_wp2_with (go_at_call 11; refine (awake_any _ (hL.below (hB0.alloc hB0.size _))).mono ?_; rintro r w1 ⟨rfl, h1⟩; refine Hid.out ?_)
  unfold Hid
  have hB1 := (hB0.alloc hB0.size _).trans (h1.mono (Nat.le_trans hB0.size (by simp; try omega)))
  have KD_1 := Lib.hid (show Blk w1 (w.heap.size) #[(.int .i64 (d1)), (.int .i64 (d2)), (.int .i64 (d3)), (.int .i64 (d4)), (.int .i64 (d5)), (.int .i64 (d6))] from (Calm.Blk.new _ _ #[(.int .i64 (d1)), (.int .i64 (d2)), (.int .i64 (d3)), (.int .i64 (d4)), (.int .i64 (d5)), (.int .i64 (d6))]).below h1)
  clear h1 hB0
  have fD_0 := KD_1.out.cell 0 (.int .i64 (d1)) rfl
  have fD_1 := KD_1.out.cell 1 (.int .i64 (d2)) rfl
  have fD_2 := KD_1.out.cell 2 (.int .i64 (d3)) rfl
  have fD_3 := KD_1.out.cell 3 (.int .i64 (d4)) rfl
  have fD_4 := KD_1.out.cell 4 (.int .i64 (d5)) rfl
  have fD_5 := KD_1.out.cell 5 (.int .i64 (d6)) rfl
  have fD_l := KD_1.out.lt
  have fD_f := KD_1.out.f
  have fD_l0_1 : w.heap.size < w1.heap.size + 1 := by omega
  have fD_l0_2 : w.heap.size < w1.heap.size + 1 + 1 := by omega
  go_wp2_with (go_at_call 12; refine (HMec.out _ (hL.below hB1)).mono ?_; rintro r w2 ⟨rfl, h2⟩; refine Hid.out ?_)
  unfold Hid
  have hB2 := hB1.trans (h2.mono hB1.size)
  have KD_2 := Lib.hid (show Blk w2 (w.heap.size) #[(.int .i64 (d1)), (.int .i64 (d2)), (.int .i64 (d3)), (.int .i64 (d4)), (.int .i64 (d5)), (.int .i64 (d6))] from KD_1.out.below h2)
  clear h2 hB1 KD_1 fD_0 fD_1 fD_2 fD_3 fD_4 fD_5 fD_l fD_f fD_l0_1 fD_l0_2
  have fD_0 := KD_2.out.cell 0 (.int .i64 (d1)) rfl
  have fD_1 := KD_2.out.cell 1 (.int .i64 (d2)) rfl
  have fD_2 := KD_2.out.cell 2 (.int .i64 (d3)) rfl
  have fD_3 := KD_2.out.cell 3 (.int .i64 (d4)) rfl
  have fD_4 := KD_2.out.cell 4 (.int .i64 (d5)) rfl
  have fD_5 := KD_2.out.cell 5 (.int .i64 (d6)) rfl
  have fD_l := KD_2.out.lt
  have fD_f := KD_2.out.f
  have fD_l0_1 : w.heap.size < w2.heap.size + 1 := by omega
  have fD_l0_2 : w.heap.size < w2.heap.size + 1 + 1 := by omega
  go_wp2_with (go_at_call 13; refine (HImp.out _ (hL.below (hB2.alloc hB2.size _))).mono ?_; rintro r w3 ⟨rfl, h3⟩; refine Hid.out ?_)
  unfold Hid
  have hB3 := (hB2.alloc hB2.size _).trans (h3.mono (Nat.le_trans hB2.size (by simp; try omega)))
  have oD_3 : w.heap.size < w2.heap.size := KD_2.out.lt
  have KD_3 := Lib.hid (show Blk w3 (w.heap.size) #[(.int .i64 (d1)), (.int .i64 (d2)), (.int .i64 (d3)), (.int .i64 (d4)), (.int .i64 (d5)), (.int .i64 (d6))] from (KD_2.out.alloc _).below h3)
  have Km_3 := Lib.hid (show Blk w3 (w2.heap.size) #[(.int .i64 (m1)), (.int .i64 (m2))] from (Calm.Blk.new _ _ #[(.int .i64 (m1)), (.int .i64 (m2))]).below h3)
  clear h3 hB2 KD_2 fD_0 fD_1 fD_2 fD_3 fD_4 fD_5 fD_l fD_f fD_l0_1 fD_l0_2
  have fD_0 := KD_3.out.cell 0 (.int .i64 (d1)) rfl
  have fD_1 := KD_3.out.cell 1 (.int .i64 (d2)) rfl
  have fD_2 := KD_3.out.cell 2 (.int .i64 (d3)) rfl
  have fD_3 := KD_3.out.cell 3 (.int .i64 (d4)) rfl
  have fD_4 := KD_3.out.cell 4 (.int .i64 (d5)) rfl
  have fD_5 := KD_3.out.cell 5 (.int .i64 (d6)) rfl
  have fD_l := KD_3.out.lt
  have fD_f := KD_3.out.f
  have fD_l0_1 : w.heap.size < w3.heap.size + 1 := by omega
  have fD_l0_2 : w.heap.size < w3.heap.size + 1 + 1 := by omega
  go_wp2_with (go_at_call 14; refine (HExc.out _ (hL.below (hB3.alloc hB3.size _))).mono ?_; rintro r w4 ⟨rfl, h4⟩; refine Hid.out ?_)
  unfold Hid
  have hB4 := (hB3.alloc hB3.size _).trans (h4.mono (Nat.le_trans hB3.size (by simp; try omega)))
  have oD_4 : w.heap.size < w3.heap.size := KD_3.out.lt
  have om_4 : w2.heap.size < w3.heap.size := Km_3.out.lt
  have KD_4 := Lib.hid (show Blk w4 (w.heap.size) #[(.int .i64 (d1)), (.int .i64 (d2)), (.int .i64 (d3)), (.int .i64 (d4)), (.int .i64 (d5)), (.int .i64 (d6))] from (KD_3.out.alloc _).below h4)
  have Km_4 := Lib.hid (show Blk w4 (w2.heap.size) #[(.int .i64 (m1)), (.int .i64 (m2))] from (Km_3.out.alloc _).below h4)
  have Kz_4 := Lib.hid (show Blk w4 (w3.heap.size) #[(.int .i64 (z1)), (.int .i64 (z2)), (.int .i64 (z3)), (.int .i64 (z4))] from (Calm.Blk.new _ _ #[(.int .i64 (z1)), (.int .i64 (z2)), (.int .i64 (z3)), (.int .i64 (z4))]).below h4)
  clear h4 hB3 KD_3 Km_3 fD_0 fD_1 fD_2 fD_3 fD_4 fD_5 fD_l fD_f fD_l0_1 fD_l0_2
  have fD_0 := KD_4.out.cell 0 (.int .i64 (d1)) rfl
  have fD_1 := KD_4.out.cell 1 (.int .i64 (d2)) rfl
  have fD_2 := KD_4.out.cell 2 (.int .i64 (d3)) rfl
  have fD_3 := KD_4.out.cell 3 (.int .i64 (d4)) rfl
  have fD_4 := KD_4.out.cell 4 (.int .i64 (d5)) rfl
  have fD_5 := KD_4.out.cell 5 (.int .i64 (d6)) rfl
  have fD_l := KD_4.out.lt
  have fD_f := KD_4.out.f
  have fD_l0_1 : w.heap.size < w4.heap.size + 1 := by omega
  have fD_l0_2 : w.heap.size < w4.heap.size + 1 + 1 := by omega
  go_wp2_with (go_at_call 15; refine (HOut.out _ (hL.below (hB4.alloc hB4.size _))).mono ?_; rintro r w5 ⟨rfl, h5⟩; refine Hid.out ?_)
  unfold Hid
  have hB5 := (hB4.alloc hB4.size _).trans (h5.mono (Nat.le_trans hB4.size (by simp; try omega)))
  have oD_5 : w.heap.size < w4.heap.size := KD_4.out.lt
  have om_5 : w2.heap.size < w4.heap.size := Km_4.out.lt
  have oz_5 : w3.heap.size < w4.heap.size := Kz_4.out.lt
  have KD_5 := Lib.hid (show Blk w5 (w.heap.size) #[(.int .i64 (d1)), (.int .i64 (d2)), (.int .i64 (d3)), (.int .i64 (d4)), (.int .i64 (d5)), (.int .i64 (d6))] from (KD_4.out.alloc _).below h5)
  have Km_5 := Lib.hid (show Blk w5 (w2.heap.size) #[(.int .i64 (m1)), (.int .i64 (m2))] from (Km_4.out.alloc _).below h5)
  have Kz_5 := Lib.hid (show Blk w5 (w3.heap.size) #[(.int .i64 (z1)), (.int .i64 (z2)), (.int .i64 (z3)), (.int .i64 (z4))] from (Kz_4.out.alloc _).below h5)
  have Kx_5 := Lib.hid (show Blk w5 (w4.heap.size) #[(.int .i64 (x1)), (.int .i64 (x2)), (.int .i64 (x3)), (.int .i64 (x4))] from (Calm.Blk.new _ _ #[(.int .i64 (x1)), (.int .i64 (x2)), (.int .i64 (x3)), (.int .i64 (x4))]).below h5)
  clear h5 hB4 KD_4 Km_4 Kz_4 fD_0 fD_1 fD_2 fD_3 fD_4 fD_5 fD_l fD_f fD_l0_1 fD_l0_2
  have fD_0 := KD_5.out.cell 0 (.int .i64 (d1)) rfl
  have fD_1 := KD_5.out.cell 1 (.int .i64 (d2)) rfl
  have fD_2 := KD_5.out.cell 2 (.int .i64 (d3)) rfl
  have fD_3 := KD_5.out.cell 3 (.int .i64 (d4)) rfl
  have fD_4 := KD_5.out.cell 4 (.int .i64 (d5)) rfl
  have fD_5 := KD_5.out.cell 5 (.int .i64 (d6)) rfl
  have fD_l := KD_5.out.lt
  have fD_f := KD_5.out.f
  have fD_l0_1 : w.heap.size < w5.heap.size + 1 := by omega
  have fD_l0_2 : w.heap.size < w5.heap.size + 1 + 1 := by omega
  go_wp2_with (go_at_call 17; refine (HBad.out _).mono ?_; rintro r w6 ⟨rfl, h6⟩; refine Hid.out ?_)
  unfold Hid
  have hB6 := (hB5.alloc hB5.size _).trans (h6.mono (Nat.le_trans hB5.size (by simp; try omega)))
  have oD_6 : w.heap.size < w5.heap.size := KD_5.out.lt
  have om_6 : w2.heap.size < w5.heap.size := Km_5.out.lt
  have oz_6 : w3.heap.size < w5.heap.size := Kz_5.out.lt
  have ox_6 : w4.heap.size < w5.heap.size := Kx_5.out.lt
  have KD_6 := Lib.hid (show Blk w6 (w.heap.size) #[(.int .i64 (d1)), (.int .i64 (d2)), (.int .i64 (d3)), (.int .i64 (d4)), (.int .i64 (d5)), (.int .i64 (d6))] from (KD_5.out.alloc _).below h6)
  have Km_6 := Lib.hid (show Blk w6 (w2.heap.size) #[(.int .i64 (m1)), (.int .i64 (m2))] from (Km_5.out.alloc _).below h6)
  have Kz_6 := Lib.hid (show Blk w6 (w3.heap.size) #[(.int .i64 (z1)), (.int .i64 (z2)), (.int .i64 (z3)), (.int .i64 (z4))] from (Kz_5.out.alloc _).below h6)
  have Kx_6 := Lib.hid (show Blk w6 (w4.heap.size) #[(.int .i64 (x1)), (.int .i64 (x2)), (.int .i64 (x3)), (.int .i64 (x4))] from (Kx_5.out.alloc _).below h6)
  have Ko_6 := Lib.hid (show Blk w6 (w5.heap.size) #[(.int .i64 (o1)), (.int .i64 (o2)), (.int .i64 (o3)), (.int .i64 (o4))] from (Calm.Blk.new _ _ #[(.int .i64 (o1)), (.int .i64 (o2)), (.int .i64 (o3)), (.int .i64 (o4))]).below h6)
  clear h6 hB5 KD_5 Km_5 Kz_5 Kx_5 fD_0 fD_1 fD_2 fD_3 fD_4 fD_5 fD_l fD_f fD_l0_1 fD_l0_2
  have fD_0 := KD_6.out.cell 0 (.int .i64 (d1)) rfl
  have fD_1 := KD_6.out.cell 1 (.int .i64 (d2)) rfl
  have fD_2 := KD_6.out.cell 2 (.int .i64 (d3)) rfl
  have fD_3 := KD_6.out.cell 3 (.int .i64 (d4)) rfl
  have fD_4 := KD_6.out.cell 4 (.int .i64 (d5)) rfl
  have fD_5 := KD_6.out.cell 5 (.int .i64 (d6)) rfl
  have fD_l := KD_6.out.lt
  have fD_f := KD_6.out.f
  have fD_l0_1 : w.heap.size < w6.heap.size + 1 := by omega
  have fD_l0_2 : w.heap.size < w6.heap.size + 1 + 1 := by omega
  have fD_l0_3 : w.heap.size < w6.heap.size + 1 + 1 + 1 := by omega
  have fD_l0_4 : w.heap.size < w6.heap.size + 1 + 1 + 1 + 1 := by omega
  have fD_l0_5 : w.heap.size < w6.heap.size + 1 + 1 + 1 + 1 + 1 := by omega
  have fD_l0_6 : w.heap.size < w6.heap.size + 1 + 1 + 1 + 1 + 1 + 1 := by omega
  go_wp2_with (first | (go_at_call 18; refine (HW.out _).mono ?_; rintro r wq ⟨rfl, rfl⟩) | (go_at_call 16; refine (HF.out _).mono ?_; rintro r wq ⟨rfl, rfl⟩))
  refine Calm.still_tail 11 (by kernel_rfl) (by kernel_rfl) ?_
  simp only [List.take_succ_cons, List.take_zero, List.drop_succ_cons, List.drop_zero]
  repeat (first | (first | (apply Calm.still_op_move; (focus rfl); (focus (first | exact .inl rfl | exact .inr rfl)); (focus ((try simp only [Act.eval, Array.getD_eq_getD_getElem?, List.getElem?_toArray, List.getElem?_cons_succ, List.getElem?_cons_zero, Option.getD_some]); rfl)); (try simp only [Act.put, List.setIfInBounds_toArray, List.set_cons_zero, List.set_cons_succ])) | (apply Calm.still_op_not; (focus rfl); (try simp only [Act.put, List.setIfInBounds_toArray, List.set_cons_zero, List.set_cons_succ])) | (apply Calm.still_op; (focus rfl); (focus (intro W hb; obtain ⟨hc, hf⟩ := bcell hb; clear hb hf; go_simp; (try go_bits); (try rfl); done)); (try simp only [Act.put, List.setIfInBounds_toArray, List.set_cons_zero, List.set_cons_succ]))) | (apply Calm.still_op_call; (focus rfl); (focus (intro W hb; obtain ⟨hc, hf⟩ := bcell hb; clear hb hf; go_simp; refine ⟨?_, ?_⟩; rfl; rfl)); (focus (intro W hb; first | (go_at_call 19; exact Calm.call_below hb (HRM.out _)) | (go_at_call 20; exact Calm.call_below hb (HRI.out _)) | (go_at_call 21; exact Calm.call_below hb (HRE.out _)))); (try simp only [Act.put, List.setIfInBounds_toArray, List.set_cons_zero, List.set_cons_succ])))
  refine Calm.still_nil ?_
  intro w7 h7
  have hB7 := (((((hB6.alloc hB6.size _).alloc (Nat.le_trans hB6.size (by simp; try omega)) _).alloc (Nat.le_trans hB6.size (by simp; try omega)) _).alloc (Nat.le_trans hB6.size (by simp; try omega)) _).alloc (Nat.le_trans hB6.size (by simp; try omega)) _).trans (h7.mono (Nat.le_trans hB6.size (by simp; try omega)))
  have oD_7 : w.heap.size < w6.heap.size := KD_6.out.lt
  have om_7 : w2.heap.size < w6.heap.size := Km_6.out.lt
  have oz_7 : w3.heap.size < w6.heap.size := Kz_6.out.lt
  have ox_7 : w4.heap.size < w6.heap.size := Kx_6.out.lt
  have oo_7 : w5.heap.size < w6.heap.size := Ko_6.out.lt
  have KD_7 := Lib.hid (show Blk w7 (w.heap.size) #[(.int .i64 (d1)), (.int .i64 (d2)), (.int .i64 (d3)), (.int .i64 (d4)), (.int .i64 (d5)), (.int .i64 (d6))] from (((((KD_6.out.alloc _).alloc _).alloc _).alloc _).alloc _).below h7)
  have Km_7 := Lib.hid (show Blk w7 (w2.heap.size) #[(.int .i64 (m1)), (.int .i64 (m2))] from (((((Km_6.out.alloc _).alloc _).alloc _).alloc _).alloc _).below h7)
  have Kz_7 := Lib.hid (show Blk w7 (w3.heap.size) #[(.int .i64 (z1)), (.int .i64 (z2)), (.int .i64 (z3)), (.int .i64 (z4))] from (((((Kz_6.out.alloc _).alloc _).alloc _).alloc _).alloc _).below h7)
  have Kx_7 := Lib.hid (show Blk w7 (w4.heap.size) #[(.int .i64 (x1)), (.int .i64 (x2)), (.int .i64 (x3)), (.int .i64 (x4))] from (((((Kx_6.out.alloc _).alloc _).alloc _).alloc _).alloc _).below h7)
  have Ko_7 := Lib.hid (show Blk w7 (w5.heap.size) #[(.int .i64 (o1)), (.int .i64 (o2)), (.int .i64 (o3)), (.int .i64 (o4))] from (((((Ko_6.out.alloc _).alloc _).alloc _).alloc _).alloc _).below h7)
  have KM_7 := Lib.hid (show Blk w7 (w6.heap.size + 1) #[(.int .i64 (0)), (.int .i64 (0))] by have := ((((Calm.Blk.new _ _ #[(.int .i64 (0)), (.int .i64 (0))]).alloc _).alloc _).alloc _).below h7; simpa using this)
  have KZ_7 := Lib.hid (show Blk w7 (w6.heap.size + 1 + 1) #[(.int .i64 (0)), (.int .i64 (0)), (.int .i64 (0)), (.int .i64 (0))] by have := (((Calm.Blk.new _ _ #[(.int .i64 (0)), (.int .i64 (0)), (.int .i64 (0)), (.int .i64 (0))]).alloc _).alloc _).below h7; simpa using this)
  have KX_7 := Lib.hid (show Blk w7 (w6.heap.size + 1 + 1 + 1) #[(.int .i64 (0)), (.int .i64 (0)), (.int .i64 (0)), (.int .i64 (0))] by have := ((Calm.Blk.new _ _ #[(.int .i64 (0)), (.int .i64 (0)), (.int .i64 (0)), (.int .i64 (0))]).alloc _).below h7; simpa using this)
  have KO_7 := Lib.hid (show Blk w7 (w6.heap.size + 1 + 1 + 1 + 1) #[(.int .i64 (0)), (.int .i64 (0)), (.int .i64 (0)), (.int .i64 (0))] by have := (Calm.Blk.new _ _ #[(.int .i64 (0)), (.int .i64 (0)), (.int .i64 (0)), (.int .i64 (0))]).below h7; simpa using this)
  clear h7 hB6 KD_6 Km_6 Kz_6 Kx_6 Ko_6 fD_0 fD_1 fD_2 fD_3 fD_4 fD_5 fD_l fD_f fD_l0_1 fD_l0_2 fD_l0_3 fD_l0_4 fD_l0_5 fD_l0_6
  go_wp2_with (go_at_call 22; refine (HRO.out _).mono ?_; rintro r w8 ⟨rfl, h8⟩; refine Hid.out ?_)
  unfold Hid
  have hB8 := hB7.trans (h8.mono hB7.size)
  have KD_8 := Lib.hid (show Blk w8 (w.heap.size) #[(.int .i64 (d1)), (.int .i64 (d2)), (.int .i64 (d3)), (.int .i64 (d4)), (.int .i64 (d5)), (.int .i64 (d6))] from KD_7.out.below h8)
  have Km_8 := Lib.hid (show Blk w8 (w2.heap.size) #[(.int .i64 (m1)), (.int .i64 (m2))] from Km_7.out.below h8)
  have Kz_8 := Lib.hid (show Blk w8 (w3.heap.size) #[(.int .i64 (z1)), (.int .i64 (z2)), (.int .i64 (z3)), (.int .i64 (z4))] from Kz_7.out.below h8)
  have Kx_8 := Lib.hid (show Blk w8 (w4.heap.size) #[(.int .i64 (x1)), (.int .i64 (x2)), (.int .i64 (x3)), (.int .i64 (x4))] from Kx_7.out.below h8)
  have Ko_8 := Lib.hid (show Blk w8 (w5.heap.size) #[(.int .i64 (o1)), (.int .i64 (o2)), (.int .i64 (o3)), (.int .i64 (o4))] from Ko_7.out.below h8)
  have KM_8 := Lib.hid (show Blk w8 (w6.heap.size + 1) #[(.int .i64 (0)), (.int .i64 (0))] from KM_7.out.below h8)
  have KZ_8 := Lib.hid (show Blk w8 (w6.heap.size + 1 + 1) #[(.int .i64 (0)), (.int .i64 (0)), (.int .i64 (0)), (.int .i64 (0))] from KZ_7.out.below h8)
  have KX_8 := Lib.hid (show Blk w8 (w6.heap.size + 1 + 1 + 1) #[(.int .i64 (0)), (.int .i64 (0)), (.int .i64 (0)), (.int .i64 (0))] from KX_7.out.below h8)
  have KO_8 := Lib.hid (show Blk w8 (w6.heap.size + 1 + 1 + 1 + 1) #[(.int .i64 (0)), (.int .i64 (0)), (.int .i64 (0)), (.int .i64 (0))] from KO_7.out.below h8)
  clear h8 hB7 KD_7 Km_7 Kz_7 Kx_7 Ko_7 KM_7 KZ_7 KX_7 KO_7
  have fM_0 := KM_8.out.cell 0 (.int .i64 (0)) rfl
  have fM_1 := KM_8.out.cell 1 (.int .i64 (0)) rfl
  have fM_l := KM_8.out.lt
  have fM_f := KM_8.out.f
  have fM_l0 : w6.heap.size < w8.heap.size := by omega
  have fM_l0_1 : w6.heap.size < w8.heap.size + 1 := by omega
  have fM_l0_2 : w6.heap.size < w8.heap.size + 1 + 1 := by omega
  have fM_l1_1 : w6.heap.size + 1 < w8.heap.size + 1 := by omega
  have fM_l1_2 : w6.heap.size + 1 < w8.heap.size + 1 + 1 := by omega
  have fZ_0 := KZ_8.out.cell 0 (.int .i64 (0)) rfl
  have fZ_1 := KZ_8.out.cell 1 (.int .i64 (0)) rfl
  have fZ_2 := KZ_8.out.cell 2 (.int .i64 (0)) rfl
  have fZ_3 := KZ_8.out.cell 3 (.int .i64 (0)) rfl
  have fZ_l := KZ_8.out.lt
  have fZ_f := KZ_8.out.f
  have fZ_l0 : w6.heap.size < w8.heap.size := by omega
  have fZ_l1 : w6.heap.size + 1 < w8.heap.size := by omega
  have fZ_l0_1 : w6.heap.size < w8.heap.size + 1 := by omega
  have fZ_l0_2 : w6.heap.size < w8.heap.size + 1 + 1 := by omega
  have fZ_l1_1 : w6.heap.size + 1 < w8.heap.size + 1 := by omega
  have fZ_l1_2 : w6.heap.size + 1 < w8.heap.size + 1 + 1 := by omega
  have fZ_l2_1 : w6.heap.size + 1 + 1 < w8.heap.size + 1 := by omega
  have fZ_l2_2 : w6.heap.size + 1 + 1 < w8.heap.size + 1 + 1 := by omega
  have fX_0 := KX_8.out.cell 0 (.int .i64 (0)) rfl
  have fX_1 := KX_8.out.cell 1 (.int .i64 (0)) rfl
  have fX_2 := KX_8.out.cell 2 (.int .i64 (0)) rfl
  have fX_3 := KX_8.out.cell 3 (.int .i64 (0)) rfl
  have fX_l := KX_8.out.lt
  have fX_f := KX_8.out.f
  have fX_l0 : w6.heap.size < w8.heap.size := by omega
  have fX_l1 : w6.heap.size + 1 < w8.heap.size := by omega
  have fX_l2 : w6.heap.size + 1 + 1 < w8.heap.size := by omega
  have fX_l0_1 : w6.heap.size < w8.heap.size + 1 := by omega
  have fX_l0_2 : w6.heap.size < w8.heap.size + 1 + 1 := by omega
  have fX_l1_1 : w6.heap.size + 1 < w8.heap.size + 1 := by omega
  have fX_l1_2 : w6.heap.size + 1 < w8.heap.size + 1 + 1 := by omega
  have fX_l2_1 : w6.heap.size + 1 + 1 < w8.heap.size + 1 := by omega
  have fX_l2_2 : w6.heap.size + 1 + 1 < w8.heap.size + 1 + 1 := by omega
  have fX_l3_1 : w6.heap.size + 1 + 1 + 1 < w8.heap.size + 1 := by omega
  have fX_l3_2 : w6.heap.size + 1 + 1 + 1 < w8.heap.size + 1 + 1 := by omega
  have fO_0 := KO_8.out.cell 0 (.int .i64 (0)) rfl
  have fO_1 := KO_8.out.cell 1 (.int .i64 (0)) rfl
  have fO_2 := KO_8.out.cell 2 (.int .i64 (0)) rfl
  have fO_3 := KO_8.out.cell 3 (.int .i64 (0)) rfl
  have fO_l := KO_8.out.lt
  have fO_f := KO_8.out.f
  have fO_l0 : w6.heap.size < w8.heap.size := by omega
  have fO_l1 : w6.heap.size + 1 < w8.heap.size := by omega
  have fO_l2 : w6.heap.size + 1 + 1 < w8.heap.size := by omega
  have fO_l3 : w6.heap.size + 1 + 1 + 1 < w8.heap.size := by omega
  have fO_l0_1 : w6.heap.size < w8.heap.size + 1 := by omega
  have fO_l0_2 : w6.heap.size < w8.heap.size + 1 + 1 := by omega
  have fO_l1_1 : w6.heap.size + 1 < w8.heap.size + 1 := by omega
  have fO_l1_2 : w6.heap.size + 1 < w8.heap.size + 1 + 1 := by omega
  have fO_l2_1 : w6.heap.size + 1 + 1 < w8.heap.size + 1 := by omega
  have fO_l2_2 : w6.heap.size + 1 + 1 < w8.heap.size + 1 + 1 := by omega
  have fO_l3_1 : w6.heap.size + 1 + 1 + 1 < w8.heap.size + 1 := by omega
  have fO_l3_2 : w6.heap.size + 1 + 1 + 1 < w8.heap.size + 1 + 1 := by omega
  have fO_l4_1 : w6.heap.size + 1 + 1 + 1 + 1 < w8.heap.size + 1 := by omega
  have fO_l4_2 : w6.heap.size + 1 + 1 + 1 + 1 < w8.heap.size + 1 + 1 := by omega
  go_wp2
  refine name_world ?_
  intro w9 e9
  have hB9 : Below w.heap.size w w9 := e9.symm ▸ (st4_below (st4_below (st4_below (st2_below hB8 (by omega) (.int .i64 (m1)) (.int .i64 (m2))) (by omega) (.int .i64 (z1)) (.int .i64 (z2)) (.int .i64 (z3)) (.int .i64 (z4))) (by omega) (.int .i64 (x1)) (.int .i64 (x2)) (.int .i64 (x3)) (.int .i64 (x4))) (by omega) (.int .i64 (o1)) (.int .i64 (o2)) (.int .i64 (o3)) (.int .i64 (o4)))
  have KD_9 := Lib.hid (show Blk w9 (w.heap.size) #[(.int .i64 (d1)), (.int .i64 (d2)), (.int .i64 (d3)), (.int .i64 (d4)), (.int .i64 (d5)), (.int .i64 (d6))] from e9.symm ▸ (st4_far (st4_far (st4_far (st2_far KD_8.out (by omega) (.int .i64 (m1)) (.int .i64 (m2))) (by omega) (.int .i64 (z1)) (.int .i64 (z2)) (.int .i64 (z3)) (.int .i64 (z4))) (by omega) (.int .i64 (x1)) (.int .i64 (x2)) (.int .i64 (x3)) (.int .i64 (x4))) (by omega) (.int .i64 (o1)) (.int .i64 (o2)) (.int .i64 (o3)) (.int .i64 (o4))))
  have Km_9 := Lib.hid (show Blk w9 (w2.heap.size) #[(.int .i64 (m1)), (.int .i64 (m2))] from e9.symm ▸ (st4_far (st4_far (st4_far (st2_far Km_8.out (by omega) (.int .i64 (m1)) (.int .i64 (m2))) (by omega) (.int .i64 (z1)) (.int .i64 (z2)) (.int .i64 (z3)) (.int .i64 (z4))) (by omega) (.int .i64 (x1)) (.int .i64 (x2)) (.int .i64 (x3)) (.int .i64 (x4))) (by omega) (.int .i64 (o1)) (.int .i64 (o2)) (.int .i64 (o3)) (.int .i64 (o4))))
  have Kz_9 := Lib.hid (show Blk w9 (w3.heap.size) #[(.int .i64 (z1)), (.int .i64 (z2)), (.int .i64 (z3)), (.int .i64 (z4))] from e9.symm ▸ (st4_far (st4_far (st4_far (st2_far Kz_8.out (by omega) (.int .i64 (m1)) (.int .i64 (m2))) (by omega) (.int .i64 (z1)) (.int .i64 (z2)) (.int .i64 (z3)) (.int .i64 (z4))) (by omega) (.int .i64 (x1)) (.int .i64 (x2)) (.int .i64 (x3)) (.int .i64 (x4))) (by omega) (.int .i64 (o1)) (.int .i64 (o2)) (.int .i64 (o3)) (.int .i64 (o4))))
  have Kx_9 := Lib.hid (show Blk w9 (w4.heap.size) #[(.int .i64 (x1)), (.int .i64 (x2)), (.int .i64 (x3)), (.int .i64 (x4))] from e9.symm ▸ (st4_far (st4_far (st4_far (st2_far Kx_8.out (by omega) (.int .i64 (m1)) (.int .i64 (m2))) (by omega) (.int .i64 (z1)) (.int .i64 (z2)) (.int .i64 (z3)) (.int .i64 (z4))) (by omega) (.int .i64 (x1)) (.int .i64 (x2)) (.int .i64 (x3)) (.int .i64 (x4))) (by omega) (.int .i64 (o1)) (.int .i64 (o2)) (.int .i64 (o3)) (.int .i64 (o4))))
  have Ko_9 := Lib.hid (show Blk w9 (w5.heap.size) #[(.int .i64 (o1)), (.int .i64 (o2)), (.int .i64 (o3)), (.int .i64 (o4))] from e9.symm ▸ (st4_far (st4_far (st4_far (st2_far Ko_8.out (by omega) (.int .i64 (m1)) (.int .i64 (m2))) (by omega) (.int .i64 (z1)) (.int .i64 (z2)) (.int .i64 (z3)) (.int .i64 (z4))) (by omega) (.int .i64 (x1)) (.int .i64 (x2)) (.int .i64 (x3)) (.int .i64 (x4))) (by omega) (.int .i64 (o1)) (.int .i64 (o2)) (.int .i64 (o3)) (.int .i64 (o4))))
  have KM_9 := Lib.hid (show Blk w9 (w6.heap.size + 1) #[(.int .i64 (m1)), (.int .i64 (m2))] from e9.symm ▸ (st4_far (st4_far (st4_far (st2_blk KM_8.out (.int .i64 (m1)) (.int .i64 (m2))) (by omega) (.int .i64 (z1)) (.int .i64 (z2)) (.int .i64 (z3)) (.int .i64 (z4))) (by omega) (.int .i64 (x1)) (.int .i64 (x2)) (.int .i64 (x3)) (.int .i64 (x4))) (by omega) (.int .i64 (o1)) (.int .i64 (o2)) (.int .i64 (o3)) (.int .i64 (o4))))
  have KZ_9 := Lib.hid (show Blk w9 (w6.heap.size + 1 + 1) #[(.int .i64 (z1)), (.int .i64 (z2)), (.int .i64 (z3)), (.int .i64 (z4))] from e9.symm ▸ (st4_far (st4_far (st4_blk (st2_far KZ_8.out (by omega) (.int .i64 (m1)) (.int .i64 (m2))) (.int .i64 (z1)) (.int .i64 (z2)) (.int .i64 (z3)) (.int .i64 (z4))) (by omega) (.int .i64 (x1)) (.int .i64 (x2)) (.int .i64 (x3)) (.int .i64 (x4))) (by omega) (.int .i64 (o1)) (.int .i64 (o2)) (.int .i64 (o3)) (.int .i64 (o4))))
  have KX_9 := Lib.hid (show Blk w9 (w6.heap.size + 1 + 1 + 1) #[(.int .i64 (x1)), (.int .i64 (x2)), (.int .i64 (x3)), (.int .i64 (x4))] from e9.symm ▸ (st4_far (st4_blk (st4_far (st2_far KX_8.out (by omega) (.int .i64 (m1)) (.int .i64 (m2))) (by omega) (.int .i64 (z1)) (.int .i64 (z2)) (.int .i64 (z3)) (.int .i64 (z4))) (.int .i64 (x1)) (.int .i64 (x2)) (.int .i64 (x3)) (.int .i64 (x4))) (by omega) (.int .i64 (o1)) (.int .i64 (o2)) (.int .i64 (o3)) (.int .i64 (o4))))
  have KO_9 := Lib.hid (show Blk w9 (w6.heap.size + 1 + 1 + 1 + 1) #[(.int .i64 (o1)), (.int .i64 (o2)), (.int .i64 (o3)), (.int .i64 (o4))] from e9.symm ▸ (st4_blk (st4_far (st4_far (st2_far KO_8.out (by omega) (.int .i64 (m1)) (.int .i64 (m2))) (by omega) (.int .i64 (z1)) (.int .i64 (z2)) (.int .i64 (z3)) (.int .i64 (z4))) (by omega) (.int .i64 (x1)) (.int .i64 (x2)) (.int .i64 (x3)) (.int .i64 (x4))) (.int .i64 (o1)) (.int .i64 (o2)) (.int .i64 (o3)) (.int .i64 (o4))))
  clear e9 hB8 KD_8 Km_8 Kz_8 Kx_8 Ko_8 KM_8 KZ_8 KX_8 KO_8 fM_0 fM_1 fM_l fM_f fM_l0 fM_l0_1 fM_l0_2 fM_l1_1 fM_l1_2 fZ_0 fZ_1 fZ_2 fZ_3 fZ_l fZ_f fZ_l0 fZ_l1 fZ_l0_1 fZ_l0_2 fZ_l1_1 fZ_l1_2 fZ_l2_1 fZ_l2_2 fX_0 fX_1 fX_2 fX_3 fX_l fX_f fX_l0 fX_l1 fX_l2 fX_l0_1 fX_l0_2 fX_l1_1 fX_l1_2 fX_l2_1 fX_l2_2 fX_l3_1 fX_l3_2 fO_0 fO_1 fO_2 fO_3 fO_l fO_f fO_l0 fO_l1 fO_l2 fO_l3 fO_l0_1 fO_l0_2 fO_l1_1 fO_l1_2 fO_l2_1 fO_l2_2 fO_l3_1 fO_l3_2 fO_l4_1 fO_l4_2
  have fD_0 := KD_9.out.cell 0 (.int .i64 (d1)) rfl
  have fD_1 := KD_9.out.cell 1 (.int .i64 (d2)) rfl
  have fD_2 := KD_9.out.cell 2 (.int .i64 (d3)) rfl
  have fD_3 := KD_9.out.cell 3 (.int .i64 (d4)) rfl
  have fD_4 := KD_9.out.cell 4 (.int .i64 (d5)) rfl
  have fD_5 := KD_9.out.cell 5 (.int .i64 (d6)) rfl
  have fD_l := KD_9.out.lt
  have fm_0 := Km_9.out.cell 0 (.int .i64 (m1)) rfl
  have fm_1 := Km_9.out.cell 1 (.int .i64 (m2)) rfl
  have fm_l := Km_9.out.lt
  have fM_0 := KM_9.out.cell 0 (.int .i64 (m1)) rfl
  have fM_1 := KM_9.out.cell 1 (.int .i64 (m2)) rfl
  have fM_l := KM_9.out.lt
  have fz_0 := Kz_9.out.cell 0 (.int .i64 (z1)) rfl
  have fz_1 := Kz_9.out.cell 1 (.int .i64 (z2)) rfl
  have fz_2 := Kz_9.out.cell 2 (.int .i64 (z3)) rfl
  have fz_3 := Kz_9.out.cell 3 (.int .i64 (z4)) rfl
  have fz_l := Kz_9.out.lt
  have fZ_0 := KZ_9.out.cell 0 (.int .i64 (z1)) rfl
  have fZ_1 := KZ_9.out.cell 1 (.int .i64 (z2)) rfl
  have fZ_2 := KZ_9.out.cell 2 (.int .i64 (z3)) rfl
  have fZ_3 := KZ_9.out.cell 3 (.int .i64 (z4)) rfl
  have fZ_l := KZ_9.out.lt
  have fx_0 := Kx_9.out.cell 0 (.int .i64 (x1)) rfl
  have fx_1 := Kx_9.out.cell 1 (.int .i64 (x2)) rfl
  have fx_2 := Kx_9.out.cell 2 (.int .i64 (x3)) rfl
  have fx_3 := Kx_9.out.cell 3 (.int .i64 (x4)) rfl
  have fx_l := Kx_9.out.lt
  have fX_0 := KX_9.out.cell 0 (.int .i64 (x1)) rfl
  have fX_1 := KX_9.out.cell 1 (.int .i64 (x2)) rfl
  have fX_2 := KX_9.out.cell 2 (.int .i64 (x3)) rfl
  have fX_3 := KX_9.out.cell 3 (.int .i64 (x4)) rfl
  have fX_l := KX_9.out.lt
  have fo_0 := Ko_9.out.cell 0 (.int .i64 (o1)) rfl
  have fo_1 := Ko_9.out.cell 1 (.int .i64 (o2)) rfl
  have fo_2 := Ko_9.out.cell 2 (.int .i64 (o3)) rfl
  have fo_3 := Ko_9.out.cell 3 (.int .i64 (o4)) rfl
  have fo_l := Ko_9.out.lt
  have fO_0 := KO_9.out.cell 0 (.int .i64 (o1)) rfl
  have fO_1 := KO_9.out.cell 1 (.int .i64 (o2)) rfl
  have fO_2 := KO_9.out.cell 2 (.int .i64 (o3)) rfl
  have fO_3 := KO_9.out.cell 3 (.int .i64 (o4)) rfl
  have fO_l := KO_9.out.lt
  have hBX := hB9
  clear HMec HImp HExc HOut HW HF HRM HRI HRE HRO
  refine Rel.region3 36 (by kernel_rfl) (by kernel_rfl) (by kernel_rfl) ?_
  simp only [List.take_succ_cons, List.take_zero, List.drop_succ_cons, List.drop_zero, List.filterMap_cons, List.filterMap_nil]
  (apply Rel.op3; (focus (first | exact Rel.gno rfl | exact Rel.gyes _ true _ rfl rfl rfl | exact Rel.gyes _ false _ rfl rfl rfl)); (focus (intro a W hb hd hbase; obtain ⟨hc, hf⟩ := bcell hb; clear hb hf; simp [Rel.deps, Rel.dep1, Rel.ons, Region.binds, Act.eval] at hd; simp only [Act.eval, List.mem_cons, List.not_mem_nil, not_or, and_imp, or_false, Array.getD_eq_getD_getElem?] at hbase; go_simp; (try go_bits); (try rfl); done)); (try simp only [List.nil_append, List.cons_append]))
  (apply Rel.call3; (focus (first | exact Rel.gno rfl | exact Rel.gyes _ true _ rfl rfl rfl | exact Rel.gyes _ false _ rfl rfl rfl)); (focus (intro a W hb hd hbase; obtain ⟨hc, hf⟩ := bcell hb; clear hb hf; simp [Rel.deps, Rel.dep1, Rel.ons, Region.binds, Act.eval] at hd; simp only [Act.eval, List.mem_cons, List.not_mem_nil, not_or, and_imp, or_false, Array.getD_eq_getD_getElem?] at hbase; go_simp; refine ⟨?_, ?_⟩; rfl; rfl)); (focus (intro W hb; go_at_call 23; exact HPD.out _ (hL.below (hBX.trans (hb.mono hBX.size))))); (try simp only [List.nil_append, List.cons_append]))
  (apply Rel.op3; (focus (first | exact Rel.gno rfl | exact Rel.gyes _ true _ rfl rfl rfl | exact Rel.gyes _ false _ rfl rfl rfl)); (focus (intro a W hb hd hbase; obtain ⟨hc, hf⟩ := bcell hb; clear hb hf; simp [Rel.deps, Rel.dep1, Rel.ons, Region.binds, Act.eval] at hd; simp only [Act.eval, List.mem_cons, List.not_mem_nil, not_or, and_imp, or_false, Array.getD_eq_getD_getElem?] at hbase; go_simp; (try go_bits); (try rfl); done)); (try simp only [List.nil_append, List.cons_append]))
  (apply Rel.call3; (focus (first | exact Rel.gno rfl | exact Rel.gyes _ true _ rfl rfl rfl | exact Rel.gyes _ false _ rfl rfl rfl)); (focus (intro a W hb hd hbase; obtain ⟨hc, hf⟩ := bcell hb; clear hb hf; simp [Rel.deps, Rel.dep1, Rel.ons, Region.binds, Act.eval] at hd; simp only [Act.eval, List.mem_cons, List.not_mem_nil, not_or, and_imp, or_false, Array.getD_eq_getD_getElem?] at hbase; go_simp; refine ⟨?_, ?_⟩; rfl; rfl)); (focus (intro W hb; go_at_call 17; exact HBad.out _)); (try simp only [List.nil_append, List.cons_append]))
  (apply Rel.op3 (.bool true); (focus (first | exact Rel.gno rfl | exact Rel.gyes _ true _ rfl rfl rfl | exact Rel.gyes _ false _ rfl rfl rfl)); (focus (intro a W hb hd hbase; obtain ⟨hc, hf⟩ := bcell hb; clear hb hf; simp [Rel.deps, Rel.dep1, Rel.ons, Region.binds, Act.eval] at hd; simp only [Act.eval, List.mem_cons, List.not_mem_nil, not_or, and_imp, or_false, Array.getD_eq_getD_getElem?] at hbase; go_simp; (try go_bits); (try rfl); done)); (try simp only [List.nil_append, List.cons_append]))
  (apply Rel.op3; (focus (first | exact Rel.gno rfl | exact Rel.gyes _ true _ rfl rfl rfl | exact Rel.gyes _ false _ rfl rfl rfl)); (focus (intro a W hb hd hbase; obtain ⟨hc, hf⟩ := bcell hb; clear hb hf; simp [Rel.deps, Rel.dep1, Rel.ons, Region.binds, Act.eval] at hd; simp only [Act.eval, List.mem_cons, List.not_mem_nil, not_or, and_imp, or_false, Array.getD_eq_getD_getElem?] at hbase; go_simp; (try go_bits); (try rfl); done)); (try simp only [List.nil_append, List.cons_append]))
  (apply Rel.op3; (focus (first | exact Rel.gno rfl | exact Rel.gyes _ true _ rfl rfl rfl | exact Rel.gyes _ false _ rfl rfl rfl)); (focus (intro a W hb hd hbase; obtain ⟨hc, hf⟩ := bcell hb; clear hb hf; simp [Rel.deps, Rel.dep1, Rel.ons, Region.binds, Act.eval] at hd; simp only [Act.eval, List.mem_cons, List.not_mem_nil, not_or, and_imp, or_false, Array.getD_eq_getD_getElem?] at hbase; go_simp; (try go_bits); (try rfl); done)); (try simp only [List.nil_append, List.cons_append]))
  (apply Rel.op3; (focus (first | exact Rel.gno rfl | exact Rel.gyes _ true _ rfl rfl rfl | exact Rel.gyes _ false _ rfl rfl rfl)); (focus (intro a W hb hd hbase; obtain ⟨hc, hf⟩ := bcell hb; clear hb hf; simp [Rel.deps, Rel.dep1, Rel.ons, Region.binds, Act.eval] at hd; simp only [Act.eval, List.mem_cons, List.not_mem_nil, not_or, and_imp, or_false, Array.getD_eq_getD_getElem?] at hbase; go_simp; (try go_bits); (try rfl); done)); (try simp only [List.nil_append, List.cons_append]))
  (apply Rel.op3 (.bool true); (focus (first | exact Rel.gno rfl | exact Rel.gyes _ true _ rfl rfl rfl | exact Rel.gyes _ false _ rfl rfl rfl)); (focus (intro a W hb hd hbase; obtain ⟨hc, hf⟩ := bcell hb; clear hb hf; simp [Rel.deps, Rel.dep1, Rel.ons, Region.binds, Act.eval] at hd; simp only [Act.eval, List.mem_cons, List.not_mem_nil, not_or, and_imp, or_false, Array.getD_eq_getD_getElem?] at hbase; go_simp; (try go_bits); (try rfl); done)); (try simp only [List.nil_append, List.cons_append]))
  (apply Rel.op3; (focus (first | exact Rel.gno rfl | exact Rel.gyes _ true _ rfl rfl rfl | exact Rel.gyes _ false _ rfl rfl rfl)); (focus (intro a W hb hd hbase; obtain ⟨hc, hf⟩ := bcell hb; clear hb hf; simp [Rel.deps, Rel.dep1, Rel.ons, Region.binds, Act.eval] at hd; simp only [Act.eval, List.mem_cons, List.not_mem_nil, not_or, and_imp, or_false, Array.getD_eq_getD_getElem?] at hbase; go_simp; (try go_bits); (try rfl); done)); (try simp only [List.nil_append, List.cons_append]))
  (apply Rel.op3; (focus (first | exact Rel.gno rfl | exact Rel.gyes _ true _ rfl rfl rfl | exact Rel.gyes _ false _ rfl rfl rfl)); (focus (intro a W hb hd hbase; obtain ⟨hc, hf⟩ := bcell hb; clear hb hf; simp [Rel.deps, Rel.dep1, Rel.ons, Region.binds, Act.eval] at hd; simp only [Act.eval, List.mem_cons, List.not_mem_nil, not_or, and_imp, or_false, Array.getD_eq_getD_getElem?] at hbase; go_simp; (try go_bits); (try rfl); done)); (try simp only [List.nil_append, List.cons_append]))
  (apply Rel.op3; (focus (first | exact Rel.gno rfl | exact Rel.gyes _ true _ rfl rfl rfl | exact Rel.gyes _ false _ rfl rfl rfl)); (focus (intro a W hb hd hbase; obtain ⟨hc, hf⟩ := bcell hb; clear hb hf; simp [Rel.deps, Rel.dep1, Rel.ons, Region.binds, Act.eval] at hd; simp only [Act.eval, List.mem_cons, List.not_mem_nil, not_or, and_imp, or_false, Array.getD_eq_getD_getElem?] at hbase; go_simp; (try go_bits); (try rfl); done)); (try simp only [List.nil_append, List.cons_append]))
  (apply Rel.op3; (focus (first | exact Rel.gno rfl | exact Rel.gyes _ true _ rfl rfl rfl | exact Rel.gyes _ false _ rfl rfl rfl)); (focus (intro a W hb hd hbase; obtain ⟨hc, hf⟩ := bcell hb; clear hb hf; simp [Rel.deps, Rel.dep1, Rel.ons, Region.binds, Act.eval] at hd; simp only [Act.eval, List.mem_cons, List.not_mem_nil, not_or, and_imp, or_false, Array.getD_eq_getD_getElem?] at hbase; go_simp; (try go_bits); (try rfl); done)); (try simp only [List.nil_append, List.cons_append]))
  (apply Rel.op3 (.bool true); (focus (first | exact Rel.gno rfl | exact Rel.gyes _ true _ rfl rfl rfl | exact Rel.gyes _ false _ rfl rfl rfl)); (focus (intro a W hb hd hbase; obtain ⟨hc, hf⟩ := bcell hb; clear hb hf; simp [Rel.deps, Rel.dep1, Rel.ons, Region.binds, Act.eval] at hd; simp only [Act.eval, List.mem_cons, List.not_mem_nil, not_or, and_imp, or_false, Array.getD_eq_getD_getElem?] at hbase; go_simp; (try go_bits); (try rfl); done)); (try simp only [List.nil_append, List.cons_append]))
  (apply Rel.op3; (focus (first | exact Rel.gno rfl | exact Rel.gyes _ true _ rfl rfl rfl | exact Rel.gyes _ false _ rfl rfl rfl)); (focus (intro a W hb hd hbase; obtain ⟨hc, hf⟩ := bcell hb; clear hb hf; simp [Rel.deps, Rel.dep1, Rel.ons, Region.binds, Act.eval] at hd; simp only [Act.eval, List.mem_cons, List.not_mem_nil, not_or, and_imp, or_false, Array.getD_eq_getD_getElem?] at hbase; go_simp; (try go_bits); (try rfl); done)); (try simp only [List.nil_append, List.cons_append]))
  (apply Rel.op3; (focus (first | exact Rel.gno rfl | exact Rel.gyes _ true _ rfl rfl rfl | exact Rel.gyes _ false _ rfl rfl rfl)); (focus (intro a W hb hd hbase; obtain ⟨hc, hf⟩ := bcell hb; clear hb hf; simp [Rel.deps, Rel.dep1, Rel.ons, Region.binds, Act.eval] at hd; simp only [Act.eval, List.mem_cons, List.not_mem_nil, not_or, and_imp, or_false, Array.getD_eq_getD_getElem?] at hbase; go_simp; (try go_bits); (try rfl); done)); (try simp only [List.nil_append, List.cons_append]))
  (apply Rel.op3; (focus (first | exact Rel.gno rfl | exact Rel.gyes _ true _ rfl rfl rfl | exact Rel.gyes _ false _ rfl rfl rfl)); (focus (intro a W hb hd hbase; obtain ⟨hc, hf⟩ := bcell hb; clear hb hf; simp [Rel.deps, Rel.dep1, Rel.ons, Region.binds, Act.eval] at hd; simp only [Act.eval, List.mem_cons, List.not_mem_nil, not_or, and_imp, or_false, Array.getD_eq_getD_getElem?] at hbase; go_simp; (try go_bits); (try rfl); done)); (try simp only [List.nil_append, List.cons_append]))
  (apply Rel.op3; (focus (first | exact Rel.gno rfl | exact Rel.gyes _ true _ rfl rfl rfl | exact Rel.gyes _ false _ rfl rfl rfl)); (focus (intro a W hb hd hbase; obtain ⟨hc, hf⟩ := bcell hb; clear hb hf; simp [Rel.deps, Rel.dep1, Rel.ons, Region.binds, Act.eval] at hd; simp only [Act.eval, List.mem_cons, List.not_mem_nil, not_or, and_imp, or_false, Array.getD_eq_getD_getElem?] at hbase; go_simp; (try go_bits); (try rfl); done)); (try simp only [List.nil_append, List.cons_append]))
  (apply Rel.op3; (focus (first | exact Rel.gno rfl | exact Rel.gyes _ true _ rfl rfl rfl | exact Rel.gyes _ false _ rfl rfl rfl)); (focus (intro a W hb hd hbase; obtain ⟨hc, hf⟩ := bcell hb; clear hb hf; simp [Rel.deps, Rel.dep1, Rel.ons, Region.binds, Act.eval] at hd; simp only [Act.eval, List.mem_cons, List.not_mem_nil, not_or, and_imp, or_false, Array.getD_eq_getD_getElem?] at hbase; go_simp; (try go_bits); (try rfl); done)); (try simp only [List.nil_append, List.cons_append]))
  (apply Rel.op3; (focus (first | exact Rel.gno rfl | exact Rel.gyes _ true _ rfl rfl rfl | exact Rel.gyes _ false _ rfl rfl rfl)); (focus (intro a W hb hd hbase; obtain ⟨hc, hf⟩ := bcell hb; clear hb hf; simp [Rel.deps, Rel.dep1, Rel.ons, Region.binds, Act.eval] at hd; simp only [Act.eval, List.mem_cons, List.not_mem_nil, not_or, and_imp, or_false, Array.getD_eq_getD_getElem?] at hbase; go_simp; (try go_bits); (try rfl); done)); (try simp only [List.nil_append, List.cons_append]))
  (apply Rel.call3; (focus (first | exact Rel.gno rfl | exact Rel.gyes _ true _ rfl rfl rfl | exact Rel.gyes _ false _ rfl rfl rfl)); (focus (intro a W hb hd hbase; obtain ⟨hc, hf⟩ := bcell hb; clear hb hf; simp [Rel.deps, Rel.dep1, Rel.ons, Region.binds, Act.eval] at hd; simp only [Act.eval, List.mem_cons, List.not_mem_nil, not_or, and_imp, or_false, Array.getD_eq_getD_getElem?] at hbase; go_simp; refine ⟨?_, ?_⟩; rfl; rfl)); (focus (intro W hb; go_at_call 24; exact HQ1.out _)); (try simp only [List.nil_append, List.cons_append]))
  (apply Rel.op3; (focus (first | exact Rel.gno rfl | exact Rel.gyes _ true _ rfl rfl rfl | exact Rel.gyes _ false _ rfl rfl rfl)); (focus (intro a W hb hd hbase; obtain ⟨hc, hf⟩ := bcell hb; clear hb hf; simp [Rel.deps, Rel.dep1, Rel.ons, Region.binds, Act.eval] at hd; simp only [Act.eval, List.mem_cons, List.not_mem_nil, not_or, and_imp, or_false, Array.getD_eq_getD_getElem?] at hbase; go_simp; (try go_bits); (try rfl); done)); (try simp only [List.nil_append, List.cons_append]))
  (apply Rel.op3; (focus (first | exact Rel.gno rfl | exact Rel.gyes _ true _ rfl rfl rfl | exact Rel.gyes _ false _ rfl rfl rfl)); (focus (intro a W hb hd hbase; obtain ⟨hc, hf⟩ := bcell hb; clear hb hf; simp [Rel.deps, Rel.dep1, Rel.ons, Region.binds, Act.eval] at hd; simp only [Act.eval, List.mem_cons, List.not_mem_nil, not_or, and_imp, or_false, Array.getD_eq_getD_getElem?] at hbase; go_simp; (try go_bits); (try rfl); done)); (try simp only [List.nil_append, List.cons_append]))
  (apply Rel.op3; (focus (first | exact Rel.gno rfl | exact Rel.gyes _ true _ rfl rfl rfl | exact Rel.gyes _ false _ rfl rfl rfl)); (focus (intro a W hb hd hbase; obtain ⟨hc, hf⟩ := bcell hb; clear hb hf; simp [Rel.deps, Rel.dep1, Rel.ons, Region.binds, Act.eval] at hd; simp only [Act.eval, List.mem_cons, List.not_mem_nil, not_or, and_imp, or_false, Array.getD_eq_getD_getElem?] at hbase; go_simp; (try go_bits); (try rfl); done)); (try simp only [List.nil_append, List.cons_append]))
  (apply Rel.op3; (focus (first | exact Rel.gno rfl | exact Rel.gyes _ true _ rfl rfl rfl | exact Rel.gyes _ false _ rfl rfl rfl)); (focus (intro a W hb hd hbase; obtain ⟨hc, hf⟩ := bcell hb; clear hb hf; simp [Rel.deps, Rel.dep1, Rel.ons, Region.binds, Act.eval] at hd; simp only [Act.eval, List.mem_cons, List.not_mem_nil, not_or, and_imp, or_false, Array.getD_eq_getD_getElem?] at hbase; go_simp; (try go_bits); (try rfl); done)); (try simp only [List.nil_append, List.cons_append]))
  (apply Rel.op3; (focus (first | exact Rel.gno rfl | exact Rel.gyes _ true _ rfl rfl rfl | exact Rel.gyes _ false _ rfl rfl rfl)); (focus (intro a W hb hd hbase; obtain ⟨hc, hf⟩ := bcell hb; clear hb hf; simp [Rel.deps, Rel.dep1, Rel.ons, Region.binds, Act.eval] at hd; simp only [Act.eval, List.mem_cons, List.not_mem_nil, not_or, and_imp, or_false, Array.getD_eq_getD_getElem?] at hbase; go_simp; (try go_bits); (try rfl); done)); (try simp only [List.nil_append, List.cons_append]))
  (apply Rel.op3; (focus (first | exact Rel.gno rfl | exact Rel.gyes _ true _ rfl rfl rfl | exact Rel.gyes _ false _ rfl rfl rfl)); (focus (intro a W hb hd hbase; obtain ⟨hc, hf⟩ := bcell hb; clear hb hf; simp [Rel.deps, Rel.dep1, Rel.ons, Region.binds, Act.eval] at hd; simp only [Act.eval, List.mem_cons, List.not_mem_nil, not_or, and_imp, or_false, Array.getD_eq_getD_getElem?] at hbase; go_simp; (try go_bits); (try rfl); done)); (try simp only [List.nil_append, List.cons_append]))
  (apply Rel.call3; (focus (first | exact Rel.gno rfl | exact Rel.gyes _ true _ rfl rfl rfl | exact Rel.gyes _ false _ rfl rfl rfl)); (focus (intro a W hb hd hbase; obtain ⟨hc, hf⟩ := bcell hb; clear hb hf; simp [Rel.deps, Rel.dep1, Rel.ons, Region.binds, Act.eval] at hd; simp only [Act.eval, List.mem_cons, List.not_mem_nil, not_or, and_imp, or_false, Array.getD_eq_getD_getElem?] at hbase; go_simp; refine ⟨?_, ?_⟩; rfl; rfl)); (focus (intro W hb; go_at_call 24; exact HQ2.out _)); (try simp only [List.nil_append, List.cons_append]))
  (apply Rel.op3; (focus (first | exact Rel.gno rfl | exact Rel.gyes _ true _ rfl rfl rfl | exact Rel.gyes _ false _ rfl rfl rfl)); (focus (intro a W hb hd hbase; obtain ⟨hc, hf⟩ := bcell hb; clear hb hf; simp [Rel.deps, Rel.dep1, Rel.ons, Region.binds, Act.eval] at hd; simp only [Act.eval, List.mem_cons, List.not_mem_nil, not_or, and_imp, or_false, Array.getD_eq_getD_getElem?] at hbase; go_simp; (try go_bits); (try rfl); done)); (try simp only [List.nil_append, List.cons_append]))
  (apply Rel.op3; (focus (first | exact Rel.gno rfl | exact Rel.gyes _ true _ rfl rfl rfl | exact Rel.gyes _ false _ rfl rfl rfl)); (focus (intro a W hb hd hbase; obtain ⟨hc, hf⟩ := bcell hb; clear hb hf; simp [Rel.deps, Rel.dep1, Rel.ons, Region.binds, Act.eval] at hd; simp only [Act.eval, List.mem_cons, List.not_mem_nil, not_or, and_imp, or_false, Array.getD_eq_getD_getElem?] at hbase; go_simp; (try go_bits); (try rfl); done)); (try simp only [List.nil_append, List.cons_append]))
  (apply Rel.op3; (focus (first | exact Rel.gno rfl | exact Rel.gyes _ true _ rfl rfl rfl | exact Rel.gyes _ false _ rfl rfl rfl)); (focus (intro a W hb hd hbase; obtain ⟨hc, hf⟩ := bcell hb; clear hb hf; simp [Rel.deps, Rel.dep1, Rel.ons, Region.binds, Act.eval] at hd; simp only [Act.eval, List.mem_cons, List.not_mem_nil, not_or, and_imp, or_false, Array.getD_eq_getD_getElem?] at hbase; go_simp; (try go_bits); (try rfl); done)); (try simp only [List.nil_append, List.cons_append]))
  (apply Rel.op3; (focus (first | exact Rel.gno rfl | exact Rel.gyes _ true _ rfl rfl rfl | exact Rel.gyes _ false _ rfl rfl rfl)); (focus (intro a W hb hd hbase; obtain ⟨hc, hf⟩ := bcell hb; clear hb hf; simp [Rel.deps, Rel.dep1, Rel.ons, Region.binds, Act.eval] at hd; simp only [Act.eval, List.mem_cons, List.not_mem_nil, not_or, and_imp, or_false, Array.getD_eq_getD_getElem?] at hbase; go_simp; (try go_bits); (try rfl); done)); (try simp only [List.nil_append, List.cons_append]))
  (apply Rel.op3; (focus (first | exact Rel.gno rfl | exact Rel.gyes _ true _ rfl rfl rfl | exact Rel.gyes _ false _ rfl rfl rfl)); (focus (intro a W hb hd hbase; obtain ⟨hc, hf⟩ := bcell hb; clear hb hf; simp [Rel.deps, Rel.dep1, Rel.ons, Region.binds, Act.eval] at hd; simp only [Act.eval, List.mem_cons, List.not_mem_nil, not_or, and_imp, or_false, Array.getD_eq_getD_getElem?] at hbase; go_simp; (try go_bits); (try rfl); done)); (try simp only [List.nil_append, List.cons_append]))
  (apply Rel.op3; (focus (first | exact Rel.gno rfl | exact Rel.gyes _ true _ rfl rfl rfl | exact Rel.gyes _ false _ rfl rfl rfl)); (focus (intro a W hb hd hbase; obtain ⟨hc, hf⟩ := bcell hb; clear hb hf; simp [Rel.deps, Rel.dep1, Rel.ons, Region.binds, Act.eval] at hd; simp only [Act.eval, List.mem_cons, List.not_mem_nil, not_or, and_imp, or_false, Array.getD_eq_getD_getElem?] at hbase; go_simp; (try go_bits); (try rfl); done)); (try simp only [List.nil_append, List.cons_append]))
  (apply Rel.call3; (focus (first | exact Rel.gno rfl | exact Rel.gyes _ true _ rfl rfl rfl | exact Rel.gyes _ false _ rfl rfl rfl)); (focus (intro a W hb hd hbase; obtain ⟨hc, hf⟩ := bcell hb; clear hb hf; simp [Rel.deps, Rel.dep1, Rel.ons, Region.binds, Act.eval] at hd; simp only [Act.eval, List.mem_cons, List.not_mem_nil, not_or, and_imp, or_false, Array.getD_eq_getD_getElem?] at hbase; go_simp; refine ⟨?_, ?_⟩; rfl; rfl)); (focus (intro W hb; go_at_call 24; exact HQ3.out _)); (try simp only [List.nil_append, List.cons_append]))
  (apply Rel.op3; (focus (first | exact Rel.gno rfl | exact Rel.gyes _ true _ rfl rfl rfl | exact Rel.gyes _ false _ rfl rfl rfl)); (focus (intro a W hb hd hbase; obtain ⟨hc, hf⟩ := bcell hb; clear hb hf; simp [Rel.deps, Rel.dep1, Rel.ons, Region.binds, Act.eval] at hd; simp only [Act.eval, List.mem_cons, List.not_mem_nil, not_or, and_imp, or_false, Array.getD_eq_getD_getElem?] at hbase; go_simp; (try go_bits); (try rfl); done)); (try simp only [List.nil_append, List.cons_append]))
  refine Rel.done3 ?_
  intro x w10 h10 hx
  simp only [Rel.facts, Nat.zero_add, Nat.reduceAdd] at hx
  obtain ⟨e0, e1, e2, e3, e4, e5, e6, e7, e8, e9, e10, e11, e12, e13, e14, e15, e16, e17, e18, e19, e20, e21, e22, e23, e24, e25, e26, e27, e28, e29, e30, e31, e32, e33, e34, e35, _⟩ := hx
  simp only [Rel.fill, Nat.zero_add, Nat.reduceAdd, e0, e1, e2, e3, e4, e5, e6, e7, e8, e9, e10, e11, e12, e13, e14, e15, e16, e17, e18, e19, e20, e21, e22, e23, e24, e25, e26, e27, e28, e29, e30, e31, e32, e33, e34, e35]
  simp only [Act.put, List.setIfInBounds_toArray, List.set_cons_zero, List.set_cons_succ]
  clear e0 e1 e2 e3 e4 e5 e6 e7 e8 e9 e10 e11 e12 e13 e14 e15 e16 e17 e18 e19 e20 e21 e22 e23 e24 e25 e26 e27 e28 e29 e30 e31 e32 e33 e34 e35
  have hB10 := hB9.trans (h10.mono hB9.size)
  have KD_10 := Lib.hid (show Blk w10 (w.heap.size) #[(.int .i64 (d1)), (.int .i64 (d2)), (.int .i64 (d3)), (.int .i64 (d4)), (.int .i64 (d5)), (.int .i64 (d6))] from KD_9.out.below h10)
  have Km_10 := Lib.hid (show Blk w10 (w2.heap.size) #[(.int .i64 (m1)), (.int .i64 (m2))] from Km_9.out.below h10)
  have Kz_10 := Lib.hid (show Blk w10 (w3.heap.size) #[(.int .i64 (z1)), (.int .i64 (z2)), (.int .i64 (z3)), (.int .i64 (z4))] from Kz_9.out.below h10)
  have Kx_10 := Lib.hid (show Blk w10 (w4.heap.size) #[(.int .i64 (x1)), (.int .i64 (x2)), (.int .i64 (x3)), (.int .i64 (x4))] from Kx_9.out.below h10)
  have Ko_10 := Lib.hid (show Blk w10 (w5.heap.size) #[(.int .i64 (o1)), (.int .i64 (o2)), (.int .i64 (o3)), (.int .i64 (o4))] from Ko_9.out.below h10)
  have KM_10 := Lib.hid (show Blk w10 (w6.heap.size + 1) #[(.int .i64 (m1)), (.int .i64 (m2))] from KM_9.out.below h10)
  have KZ_10 := Lib.hid (show Blk w10 (w6.heap.size + 1 + 1) #[(.int .i64 (z1)), (.int .i64 (z2)), (.int .i64 (z3)), (.int .i64 (z4))] from KZ_9.out.below h10)
  have KX_10 := Lib.hid (show Blk w10 (w6.heap.size + 1 + 1 + 1) #[(.int .i64 (x1)), (.int .i64 (x2)), (.int .i64 (x3)), (.int .i64 (x4))] from KX_9.out.below h10)
  have KO_10 := Lib.hid (show Blk w10 (w6.heap.size + 1 + 1 + 1 + 1) #[(.int .i64 (o1)), (.int .i64 (o2)), (.int .i64 (o3)), (.int .i64 (o4))] from KO_9.out.below h10)
  clear h10 hB9 KD_9 Km_9 Kz_9 Kx_9 Ko_9 KM_9 KZ_9 KX_9 KO_9 fD_0 fD_1 fD_2 fD_3 fD_4 fD_5 fD_l fm_0 fm_1 fm_l fM_0 fM_1 fM_l fz_0 fz_1 fz_2 fz_3 fz_l fZ_0 fZ_1 fZ_2 fZ_3 fZ_l fx_0 fx_1 fx_2 fx_3 fx_l fX_0 fX_1 fX_2 fX_3 fX_l fo_0 fo_1 fo_2 fo_3 fo_l fO_0 fO_1 fO_2 fO_3 fO_l
  go_wp2
  go_ret
  exact ⟨by first | rfl | (simp; done), hB10⟩
end Go.Proofs.YtpkldjlljoledaaDoor
