/- Part 22 of the texts of the claim: Law_0110. -/
import Derived.Test.YtpkldjlljoledaaDoorLw15

/- The walk of DriverLaws, one of sixteen cases. -/
namespace Go.Proofs.YtpkldjlljoledaaDoor
open Go.RowKit
open Calm (bcell Blk)
set_option maxRecDepth 100000 in
set_option maxHeartbeats 16000000 in
theorem law_0110 (d1 d2 d3 d4 d5 d6 x1 q0 n1 n2 a1 a2 y1 y2 e1 e2 t1 t2 s1 v1 v2 v3 v4 : Int) (w : World) (hL : Lim w)
    (HCD : Hid (∀ W : World, Calls Tryd.prog 17 #[.agg #[(.int .i64 (d1)), (.int .i64 (d2)), (.int .i64 (d3)), (.int .i64 (d4)), (.int .i64 (d5)), (.int .i64 (d6))]] W fun r w' => r = .returned ((.int .i64 (0))) ∧ Below W.heap.size W w'))
    (HCB : Hid (∀ W : World, Calls Tryd.prog 29 #[.agg #[(.int .i64 (x1)), (.int .i64 (0)), (.int .i64 (0)), (.int .i64 (0))]] W fun r w' => r = .returned ((.int .i64 (0))) ∧ Below W.heap.size W w'))
    (HW : Hid (∀ W : World, Calls Tryd.prog 18 #[(.int .i64 (q0))] W fun r w' => r = .returned (.int .i64 (0)) ∧ W = w'))
    (HImp : Hid (∀ W : World, Lim W → Calls Tryd.prog 13 #[.agg #[(.int .i64 (d1)), (.int .i64 (d2)), (.int .i64 (d3)), (.int .i64 (d4)), (.int .i64 (d5)), (.int .i64 (d6))], (.int .i64 (q0))] W fun r w' => r = .returned (.tuple #[.agg #[(.int .i64 (n1)), (.int .i64 (n2)), (.int .i64 (a1)), (.int .i64 (a2))], (.int .i64 (0))]) ∧ Below W.heap.size W w'))
    (HExc : Hid (∀ W : World, Lim W → Calls Tryd.prog 14 #[.agg #[(.int .i64 (d1)), (.int .i64 (d2)), (.int .i64 (d3)), (.int .i64 (d4)), (.int .i64 (d5)), (.int .i64 (d6))], (.int .i64 (q0))] W fun r w' => r = .returned (.tuple #[.agg #[(.int .i64 (d3)), (.int .i64 (0)), (.int .i64 (n1)), (.int .i64 (n2))], (.int .i64 (0))]) ∧ Below W.heap.size W w'))
    (HOut : Hid (∀ W : World, Lim W → Calls Tryd.prog 15 #[.agg #[(.int .i64 (d1)), (.int .i64 (d2)), (.int .i64 (d3)), (.int .i64 (d4)), (.int .i64 (d5)), (.int .i64 (d6))], (.int .i64 (q0))] W fun r w' => r = .returned (.tuple #[.agg #[(.int .i64 (-q0 * q0 * d3)), (.int .i64 (0)), (.int .i64 (n1)), (.int .i64 (n2))], (.int .i64 (0))]) ∧ Below W.heap.size W w'))
    (HBx : Hid (∀ W : World, Lim W → Calls Tryd.prog 25 #[.agg #[(.int .i64 (d1)), (.int .i64 (d2)), (.int .i64 (d3)), (.int .i64 (d4)), (.int .i64 (d5)), (.int .i64 (d6))], .agg #[(.int .i64 (x1)), (.int .i64 (0)), (.int .i64 (0)), (.int .i64 (0))], (.int .i64 (q0))] W fun r w' => r = .returned (.tuple #[.agg #[(.int .i64 (y1)), (.int .i64 (y2)), (.int .i64 (e1)), (.int .i64 (e2))], (.int .i64 (0))]) ∧ Below W.heap.size W w'))
    (HMv : Hid (∀ W : World, Lim W → Calls Tryd.prog 27 #[.agg #[(.int .i64 (d1)), (.int .i64 (d2)), (.int .i64 (d3)), (.int .i64 (d4)), (.int .i64 (d5)), (.int .i64 (d6))], .agg #[(.int .i64 (x1)), (.int .i64 (0)), (.int .i64 (0)), (.int .i64 (0))], (.int .i64 (q0))] W fun r w' => r = .returned (.tuple #[.agg #[(.int .i64 (d3)), (.int .i64 (0)), (.int .i64 (y1)), (.int .i64 (y2)), (.int .i64 (0)), (.int .i64 (0)), (.int .i64 (1)), (.int .i64 (0))], (.int .i64 (0))]) ∧ Below W.heap.size W w'))
    (HRd : Hid (∀ W : World, Lim W → Calls Tryd.prog 26 #[.agg #[(.int .i64 (d1)), (.int .i64 (d2)), (.int .i64 (d3)), (.int .i64 (d4)), (.int .i64 (d5)), (.int .i64 (d6))], .agg #[(.int .i64 (x1)), (.int .i64 (0)), (.int .i64 (0)), (.int .i64 (0))], (.int .i64 (q0))] W fun r w' => r = .returned (.tuple #[.agg #[(.int .i64 (-q0 * q0 * d3)), (.int .i64 (0)), (.int .i64 (y1)), (.int .i64 (y2))], (.int .i64 (0))]) ∧ Below W.heap.size W w'))
    (HS1 : Hid (∀ W : World, Calls Tryd.prog 51 #[.agg #[(.int .i64 (n1)), (.int .i64 (n2)), (.int .i64 (a1)), (.int .i64 (a2))]] W fun r w' => r = .returned (.bool true) ∧ Below W.heap.size W w'))
    (HS2 : Hid (∀ W : World, Calls Tryd.prog 51 #[.agg #[(.int .i64 (d3)), (.int .i64 (0)), (.int .i64 (n1)), (.int .i64 (n2))]] W fun r w' => r = .returned (.bool true) ∧ Below W.heap.size W w'))
    (HS3 : Hid (∀ W : World, Calls Tryd.prog 51 #[.agg #[(.int .i64 (-q0 * q0 * d3)), (.int .i64 (0)), (.int .i64 (n1)), (.int .i64 (n2))]] W fun r w' => r = .returned (.bool true) ∧ Below W.heap.size W w'))
    (HS4 : Hid (∀ W : World, Calls Tryd.prog 51 #[.agg #[(.int .i64 (y1)), (.int .i64 (y2)), (.int .i64 (e1)), (.int .i64 (e2))]] W fun r w' => r = .returned (.bool true) ∧ Below W.heap.size W w'))
    (HS5 : Hid (∀ W : World, Calls Tryd.prog 51 #[.agg #[(.int .i64 (d3)), (.int .i64 (0)), (.int .i64 (y1)), (.int .i64 (y2))]] W fun r w' => r = .returned (.bool true) ∧ Below W.heap.size W w'))
    (HS6 : Hid (∀ W : World, Calls Tryd.prog 51 #[.agg #[(.int .i64 (0)), (.int .i64 (0)), (.int .i64 (1)), (.int .i64 (0))]] W fun r w' => r = .returned (.bool true) ∧ Below W.heap.size W w'))
    (HS7 : Hid (∀ W : World, Calls Tryd.prog 51 #[.agg #[(.int .i64 (-q0 * q0 * d3)), (.int .i64 (0)), (.int .i64 (y1)), (.int .i64 (y2))]] W fun r w' => r = .returned (.bool true) ∧ Below W.heap.size W w'))
    (ha : ¬ a2 = 0)
    (hn : ¬ n1 = 0)
    (c1 : -64 ≤ -q0 * q0 ∧ -q0 * q0 ≤ 64)
    (c0 : 1 ≤ q0 ∧ q0 ≤ 8)
    (c2 : -1280 ≤ -q0 * q0 * d3 ∧ -q0 * q0 * d3 ≤ 1280)
    (HCj : Hid (∀ W : World, Calls Tryd.prog 53 #[.agg #[(.int .i64 (a1)), (.int .i64 (a2))]] W fun r w' => r = .returned (.agg #[(.int .i64 (a1)), (.int .i64 (-a2))]) ∧ Below W.heap.size W w'))
    (HTm : Hid (∀ W : World, Calls Tryd.prog 52 #[.agg #[(.int .i64 (n1)), (.int .i64 (n2))], .agg #[(.int .i64 (a1)), (.int .i64 (-a2))]] W fun r w' => r = .returned (.agg #[(.int .i64 (t1)), (.int .i64 (t2))]) ∧ Below W.heap.size W w'))
    (HSq : Hid (∀ W : World, Calls Tryd.prog 54 #[.agg #[(.int .i64 (a1)), (.int .i64 (a2))]] W fun r w' => r = .returned ((.int .i64 (s1))) ∧ Below W.heap.size W w'))
    (hs : 0 ≤ d1 * s1 ∧ d1 * s1 ≤ t1 ∧ d1 * s1 ≤ 1000000000000)
    (c3 : 0 ≤ q0 * q0 ∧ q0 * q0 ≤ 64)
    (c4 : 0 ≤ q0 * q0 * d4 ∧ q0 * q0 * d4 ≤ 6400)
    (c5 : 0 ≤ q0 * d6 ∧ q0 * d6 ≤ 800)
    (c6 : 1 ≤ d5 ∧ d5 ≤ 5000)
    (c7 : 1 ≤ x1 ∧ x1 ≤ 5000)
    (hK : q0 * q0 * d4 ≤ 5000)
    (hC : d5 + x1 ≤ 5000)
    (HMe : Hid (∀ W : World, Lim W → Calls Tryd.prog 12 #[.agg #[(.int .i64 (d1)), (.int .i64 (d2)), (.int .i64 (d3)), (.int .i64 (d4)), (.int .i64 (q0 * q0 * d4)), (.int .i64 (d6))], (.int .i64 (q0))] W fun r w' => r = .returned (.tuple #[.agg #[(.int .i64 (0)), (.int .i64 (q0 * d6))], (.int .i64 (0))]) ∧ Below W.heap.size W w'))
    (HCl : Hid (∀ W : World, Lim W → Calls Tryd.prog 36 #[.agg #[(.int .i64 (d1)), (.int .i64 (d2)), (.int .i64 (d3)), (.int .i64 (d4)), (.int .i64 (d5)), (.int .i64 (d6))], (.int .i64 (x1))] W fun r w' => r = .returned (.tuple #[.agg #[(.int .i64 (d1)), (.int .i64 (d2)), (.int .i64 (d3)), (.int .i64 (d4)), (.int .i64 (d5 + x1)), (.int .i64 (d6))], (.int .i64 (0))]) ∧ Below W.heap.size W w'))
    (HIm2 : Hid (∀ W : World, Lim W → Calls Tryd.prog 13 #[.agg #[(.int .i64 (d1)), (.int .i64 (d2)), (.int .i64 (d3)), (.int .i64 (d4)), (.int .i64 (d5 + x1)), (.int .i64 (d6))], (.int .i64 (q0))] W fun r w' => r = .returned (.tuple #[.agg #[(.int .i64 (v1)), (.int .i64 (v2)), (.int .i64 (v3)), (.int .i64 (v4))], (.int .i64 (0))]) ∧ Below W.heap.size W w'))
    (HBx2 : Hid (∀ W : World, Lim W → Calls Tryd.prog 25 #[.agg #[(.int .i64 (d1)), (.int .i64 (d2)), (.int .i64 (d3)), (.int .i64 (d4)), (.int .i64 (d5)), (.int .i64 (d6))], .agg #[(.int .i64 (x1)), (.int .i64 (0)), (.int .i64 (0)), (.int .i64 (0))], (.int .i64 (q0))] W fun r w' => r = .returned (.tuple #[.agg #[(.int .i64 (v1)), (.int .i64 (v2)), (.int .i64 (v3)), (.int .i64 (v4))], (.int .i64 (0))]) ∧ Below W.heap.size W w'))
    : Calls Tryd.prog 7 #[.agg #[(.int .i64 (d1)), (.int .i64 (d2)), (.int .i64 (d3)), (.int .i64 (d4)), (.int .i64 (d5)), (.int .i64 (d6))], .agg #[(.int .i64 (x1)), (.int .i64 (0)), (.int .i64 (0)), (.int .i64 (0))], (.int .i64 (q0))] w fun r w' => r = .returned (.bool true) ∧ Below w.heap.size w w' := by
  have hB0 := Below.refl w.heap.size w
  go_enter Tryd.func7, Tryd.ntmps7
  go_wp2_with (go_at_call 11; refine (awake_any _ (hL.below ((hB0.alloc hB0.size _).alloc (Nat.le_trans hB0.size (by simp; try omega)) _))).mono ?_; rintro r w1 ⟨rfl, h1⟩; refine Hid.out ?_)
  unfold Hid
  have hB1 := ((hB0.alloc hB0.size _).alloc (Nat.le_trans hB0.size (by simp; try omega)) _).trans (h1.mono (Nat.le_trans hB0.size (by simp; try omega)))
  have KD_1 := Lib.hid (show Blk w1 (w.heap.size) #[(.int .i64 (d1)), (.int .i64 (d2)), (.int .i64 (d3)), (.int .i64 (d4)), (.int .i64 (d5)), (.int .i64 (d6))] from ((Calm.Blk.new _ _ #[(.int .i64 (d1)), (.int .i64 (d2)), (.int .i64 (d3)), (.int .i64 (d4)), (.int .i64 (d5)), (.int .i64 (d6))]).alloc _).below h1)
  have KX_1 := Lib.hid (show Blk w1 (w.heap.size + 1) #[(.int .i64 (x1)), (.int .i64 (0)), (.int .i64 (0)), (.int .i64 (0))] by have := (Calm.Blk.new _ _ #[(.int .i64 (x1)), (.int .i64 (0)), (.int .i64 (0)), (.int .i64 (0))]).below h1; simpa using this)
  clear h1 hB0
  obtain ⟨fD_0, fD_1, fD_2, fD_3, fD_4, fD_5, fD_l, fD_f⟩ := KD_1.out.o6
  have fD_l0_1 : w.heap.size < w1.heap.size + 1 := by omega
  have fD_l0_2 : w.heap.size < w1.heap.size + 1 + 1 := by omega
  go_wp2_with (go_at_call 17; refine (HCD.out _).mono ?_; rintro r w2 ⟨rfl, h2⟩; refine Hid.out ?_)
  unfold Hid
  have hB2 := hB1.trans (h2.mono hB1.size)
  have KD_2 := Lib.hid (KD_1.out.below h2)
  have KX_2 := Lib.hid (KX_1.out.below h2)
  clear h2 hB1 KD_1 KX_1 fD_0 fD_1 fD_2 fD_3 fD_4 fD_5 fD_l fD_f fD_l0_1 fD_l0_2
  obtain ⟨fX_0, fX_1, fX_2, fX_3, fX_l, fX_f⟩ := KX_2.out.o4
  have fX_l0 : w.heap.size < w2.heap.size := by omega
  have fX_l0_1 : w.heap.size < w2.heap.size + 1 := by omega
  have fX_l1_1 : w.heap.size + 1 < w2.heap.size + 1 := by omega
  go_wp2_with (go_at_call 29; refine (HCB.out _).mono ?_; rintro r w3 ⟨rfl, h3⟩; refine Hid.out ?_)
  unfold Hid
  have hB3 := hB2.trans (h3.mono hB2.size)
  have KD_3 := Lib.hid (KD_2.out.below h3)
  have KX_3 := Lib.hid (KX_2.out.below h3)
  clear h3 hB2 KD_2 KX_2 fX_0 fX_1 fX_2 fX_3 fX_l fX_f fX_l0 fX_l0_1 fX_l1_1
  obtain ⟨fD_0, fD_1, fD_2, fD_3, fD_4, fD_5, fD_l, fD_f⟩ := KD_3.out.o6
  have fD_l0_1 : w.heap.size < w3.heap.size + 1 := by omega
  go_wp2_with (first | (go_at_call 18; refine (HW.out _).mono ?_; rintro r wq ⟨rfl, rfl⟩) | (go_at_call 13; refine (HImp.out _ (hL.below hB3)).mono ?_; rintro r w4 ⟨rfl, h4⟩; refine Hid.out ?_))
  unfold Hid
  have hB4 := hB3.trans (h4.mono hB3.size)
  have KD_4 := Lib.hid (KD_3.out.below h4)
  have KX_4 := Lib.hid (KX_3.out.below h4)
  clear h4 hB3 KD_3 KX_3 fD_0 fD_1 fD_2 fD_3 fD_4 fD_5 fD_l fD_f fD_l0_1
  obtain ⟨fD_0, fD_1, fD_2, fD_3, fD_4, fD_5, fD_l, fD_f⟩ := KD_4.out.o6
  have fD_l0_1 : w.heap.size < w4.heap.size + 1 := by omega
  go_wp2_with (go_at_call 14; refine (HExc.out _ (hL.below (hB4.alloc hB4.size _))).mono ?_; rintro r w5 ⟨rfl, h5⟩; refine Hid.out ?_)
  unfold Hid
  have hB5 := (hB4.alloc hB4.size _).trans (h5.mono (Nat.le_trans hB4.size (by simp; try omega)))
  have oD_5 : w.heap.size < w4.heap.size := KD_4.out.lt
  have oX_5 : w.heap.size + 1 < w4.heap.size := KX_4.out.lt
  have KD_5 := Lib.hid ((KD_4.out.alloc _).below h5)
  have KX_5 := Lib.hid ((KX_4.out.alloc _).below h5)
  have Kz_5 := Lib.hid (show Blk w5 (w4.heap.size) #[(.int .i64 (n1)), (.int .i64 (n2)), (.int .i64 (a1)), (.int .i64 (a2))] from (Calm.Blk.new _ _ #[(.int .i64 (n1)), (.int .i64 (n2)), (.int .i64 (a1)), (.int .i64 (a2))]).below h5)
  clear h5 hB4 KD_4 KX_4 fD_0 fD_1 fD_2 fD_3 fD_4 fD_5 fD_l fD_f fD_l0_1
  obtain ⟨fD_0, fD_1, fD_2, fD_3, fD_4, fD_5, fD_l, fD_f⟩ := KD_5.out.o6
  have fD_l0_1 : w.heap.size < w5.heap.size + 1 := by omega
  go_wp2_with (go_at_call 15; refine (HOut.out _ (hL.below (hB5.alloc hB5.size _))).mono ?_; rintro r w6 ⟨rfl, h6⟩; refine Hid.out ?_)
  unfold Hid
  have hB6 := (hB5.alloc hB5.size _).trans (h6.mono (Nat.le_trans hB5.size (by simp; try omega)))
  have oD_6 : w.heap.size < w5.heap.size := KD_5.out.lt
  have oX_6 : w.heap.size + 1 < w5.heap.size := KX_5.out.lt
  have oz_6 : w4.heap.size < w5.heap.size := Kz_5.out.lt
  have KD_6 := Lib.hid ((KD_5.out.alloc _).below h6)
  have KX_6 := Lib.hid ((KX_5.out.alloc _).below h6)
  have Kz_6 := Lib.hid ((Kz_5.out.alloc _).below h6)
  have Kx_6 := Lib.hid (show Blk w6 (w5.heap.size) #[(.int .i64 (d3)), (.int .i64 (0)), (.int .i64 (n1)), (.int .i64 (n2))] from (Calm.Blk.new _ _ #[(.int .i64 (d3)), (.int .i64 (0)), (.int .i64 (n1)), (.int .i64 (n2))]).below h6)
  clear h6 hB5 KD_5 KX_5 Kz_5 fD_0 fD_1 fD_2 fD_3 fD_4 fD_5 fD_l fD_f fD_l0_1
  obtain ⟨fD_0, fD_1, fD_2, fD_3, fD_4, fD_5, fD_l, fD_f⟩ := KD_6.out.o6
  have fD_l0_1 : w.heap.size < w6.heap.size + 1 := by omega
  obtain ⟨fX_0, fX_1, fX_2, fX_3, fX_l, fX_f⟩ := KX_6.out.o4
  have fX_l0 : w.heap.size < w6.heap.size := by omega
  have fX_l0_1 : w.heap.size < w6.heap.size + 1 := by omega
  have fX_l1_1 : w.heap.size + 1 < w6.heap.size + 1 := by omega
  go_wp2_with (go_at_call 25; refine (HBx.out _ (hL.below (hB6.alloc hB6.size _))).mono ?_; rintro r w7 ⟨rfl, h7⟩; refine Hid.out ?_)
  unfold Hid
  have hB7 := (hB6.alloc hB6.size _).trans (h7.mono (Nat.le_trans hB6.size (by simp; try omega)))
  have oD_7 : w.heap.size < w6.heap.size := KD_6.out.lt
  have oX_7 : w.heap.size + 1 < w6.heap.size := KX_6.out.lt
  have oz_7 : w4.heap.size < w6.heap.size := Kz_6.out.lt
  have ox_7 : w5.heap.size < w6.heap.size := Kx_6.out.lt
  have KD_7 := Lib.hid ((KD_6.out.alloc _).below h7)
  have KX_7 := Lib.hid ((KX_6.out.alloc _).below h7)
  have Kz_7 := Lib.hid ((Kz_6.out.alloc _).below h7)
  have Kx_7 := Lib.hid ((Kx_6.out.alloc _).below h7)
  have Ko_7 := Lib.hid (show Blk w7 (w6.heap.size) #[(.int .i64 (-q0 * q0 * d3)), (.int .i64 (0)), (.int .i64 (n1)), (.int .i64 (n2))] from (Calm.Blk.new _ _ #[(.int .i64 (-q0 * q0 * d3)), (.int .i64 (0)), (.int .i64 (n1)), (.int .i64 (n2))]).below h7)
  clear h7 hB6 KD_6 KX_6 Kz_6 Kx_6 fD_0 fD_1 fD_2 fD_3 fD_4 fD_5 fD_l fD_f fD_l0_1 fX_0 fX_1 fX_2 fX_3 fX_l fX_f fX_l0 fX_l0_1 fX_l1_1
  obtain ⟨fD_0, fD_1, fD_2, fD_3, fD_4, fD_5, fD_l, fD_f⟩ := KD_7.out.o6
  have fD_l0_1 : w.heap.size < w7.heap.size + 1 := by omega
  obtain ⟨fX_0, fX_1, fX_2, fX_3, fX_l, fX_f⟩ := KX_7.out.o4
  have fX_l0 : w.heap.size < w7.heap.size := by omega
  have fX_l0_1 : w.heap.size < w7.heap.size + 1 := by omega
  have fX_l1_1 : w.heap.size + 1 < w7.heap.size + 1 := by omega
  go_wp2_with (go_at_call 27; refine (HMv.out _ (hL.below (hB7.alloc hB7.size _))).mono ?_; rintro r w8 ⟨rfl, h8⟩; refine Hid.out ?_)
  unfold Hid
  have hB8 := (hB7.alloc hB7.size _).trans (h8.mono (Nat.le_trans hB7.size (by simp; try omega)))
  have oD_8 : w.heap.size < w7.heap.size := KD_7.out.lt
  have oX_8 : w.heap.size + 1 < w7.heap.size := KX_7.out.lt
  have oz_8 : w4.heap.size < w7.heap.size := Kz_7.out.lt
  have ox_8 : w5.heap.size < w7.heap.size := Kx_7.out.lt
  have oo_8 : w6.heap.size < w7.heap.size := Ko_7.out.lt
  have KD_8 := Lib.hid ((KD_7.out.alloc _).below h8)
  have KX_8 := Lib.hid ((KX_7.out.alloc _).below h8)
  have Kz_8 := Lib.hid ((Kz_7.out.alloc _).below h8)
  have Kx_8 := Lib.hid ((Kx_7.out.alloc _).below h8)
  have Ko_8 := Lib.hid ((Ko_7.out.alloc _).below h8)
  have Ky_8 := Lib.hid (show Blk w8 (w7.heap.size) #[(.int .i64 (y1)), (.int .i64 (y2)), (.int .i64 (e1)), (.int .i64 (e2))] from (Calm.Blk.new _ _ #[(.int .i64 (y1)), (.int .i64 (y2)), (.int .i64 (e1)), (.int .i64 (e2))]).below h8)
  clear h8 hB7 KD_7 KX_7 Kz_7 Kx_7 Ko_7 fD_0 fD_1 fD_2 fD_3 fD_4 fD_5 fD_l fD_f fD_l0_1 fX_0 fX_1 fX_2 fX_3 fX_l fX_f fX_l0 fX_l0_1 fX_l1_1
  obtain ⟨fD_0, fD_1, fD_2, fD_3, fD_4, fD_5, fD_l, fD_f⟩ := KD_8.out.o6
  have fD_l0_1 : w.heap.size < w8.heap.size + 1 := by omega
  obtain ⟨fX_0, fX_1, fX_2, fX_3, fX_l, fX_f⟩ := KX_8.out.o4
  have fX_l0 : w.heap.size < w8.heap.size := by omega
  have fX_l0_1 : w.heap.size < w8.heap.size + 1 := by omega
  have fX_l1_1 : w.heap.size + 1 < w8.heap.size + 1 := by omega
  go_wp2_with (go_at_call 26; refine (HRd.out _ (hL.below (hB8.alloc hB8.size _))).mono ?_; rintro r w9 ⟨rfl, h9⟩; refine Hid.out ?_)
  unfold Hid
  have hB9 := (hB8.alloc hB8.size _).trans (h9.mono (Nat.le_trans hB8.size (by simp; try omega)))
  have oD_9 : w.heap.size < w8.heap.size := KD_8.out.lt
  have oX_9 : w.heap.size + 1 < w8.heap.size := KX_8.out.lt
  have oz_9 : w4.heap.size < w8.heap.size := Kz_8.out.lt
  have ox_9 : w5.heap.size < w8.heap.size := Kx_8.out.lt
  have oo_9 : w6.heap.size < w8.heap.size := Ko_8.out.lt
  have oy_9 : w7.heap.size < w8.heap.size := Ky_8.out.lt
  have KD_9 := Lib.hid ((KD_8.out.alloc _).below h9)
  have KX_9 := Lib.hid ((KX_8.out.alloc _).below h9)
  have Kz_9 := Lib.hid ((Kz_8.out.alloc _).below h9)
  have Kx_9 := Lib.hid ((Kx_8.out.alloc _).below h9)
  have Ko_9 := Lib.hid ((Ko_8.out.alloc _).below h9)
  have Ky_9 := Lib.hid ((Ky_8.out.alloc _).below h9)
  have Km_9 := Lib.hid (show Blk w9 (w8.heap.size) #[(.int .i64 (d3)), (.int .i64 (0)), (.int .i64 (y1)), (.int .i64 (y2)), (.int .i64 (0)), (.int .i64 (0)), (.int .i64 (1)), (.int .i64 (0))] from (Calm.Blk.new _ _ #[(.int .i64 (d3)), (.int .i64 (0)), (.int .i64 (y1)), (.int .i64 (y2)), (.int .i64 (0)), (.int .i64 (0)), (.int .i64 (1)), (.int .i64 (0))]).below h9)
  clear h9 hB8 KD_8 KX_8 Kz_8 Kx_8 Ko_8 Ky_8 fD_0 fD_1 fD_2 fD_3 fD_4 fD_5 fD_l fD_f fD_l0_1 fX_0 fX_1 fX_2 fX_3 fX_l fX_f fX_l0 fX_l0_1 fX_l1_1
  obtain ⟨fz_0, fz_1, fz_2, fz_3, fz_l, fz_f⟩ := Kz_9.out.o4
  have fz_l0_1 : w4.heap.size < w9.heap.size + 1 := by omega
  go_wp2_with (go_at_call 51; refine (HS1.out _).mono ?_; rintro r w10 ⟨rfl, h10⟩; refine Hid.out ?_)
  unfold Hid
  have hB10 := (hB9.alloc hB9.size _).trans (h10.mono (Nat.le_trans hB9.size (by simp; try omega)))
  have oD_10 : w.heap.size < w9.heap.size := KD_9.out.lt
  have oX_10 : w.heap.size + 1 < w9.heap.size := KX_9.out.lt
  have oz_10 : w4.heap.size < w9.heap.size := Kz_9.out.lt
  have ox_10 : w5.heap.size < w9.heap.size := Kx_9.out.lt
  have oo_10 : w6.heap.size < w9.heap.size := Ko_9.out.lt
  have oy_10 : w7.heap.size < w9.heap.size := Ky_9.out.lt
  have om_10 : w8.heap.size < w9.heap.size := Km_9.out.lt
  have KD_10 := Lib.hid ((KD_9.out.alloc _).below h10)
  have KX_10 := Lib.hid ((KX_9.out.alloc _).below h10)
  have Kz_10 := Lib.hid ((Kz_9.out.alloc _).below h10)
  have Kx_10 := Lib.hid ((Kx_9.out.alloc _).below h10)
  have Ko_10 := Lib.hid ((Ko_9.out.alloc _).below h10)
  have Ky_10 := Lib.hid ((Ky_9.out.alloc _).below h10)
  have Km_10 := Lib.hid ((Km_9.out.alloc _).below h10)
  have Kr_10 := Lib.hid (show Blk w10 (w9.heap.size) #[(.int .i64 (-q0 * q0 * d3)), (.int .i64 (0)), (.int .i64 (y1)), (.int .i64 (y2))] from (Calm.Blk.new _ _ #[(.int .i64 (-q0 * q0 * d3)), (.int .i64 (0)), (.int .i64 (y1)), (.int .i64 (y2))]).below h10)
  clear h10 hB9 KD_9 KX_9 Kz_9 Kx_9 Ko_9 Ky_9 Km_9 fz_0 fz_1 fz_2 fz_3 fz_l fz_f fz_l0_1
  obtain ⟨fx_0, fx_1, fx_2, fx_3, fx_l, fx_f⟩ := Kx_10.out.o4
  have fx_l0_1 : w5.heap.size < w10.heap.size + 1 := by omega
  go_wp2_with (go_at_call 51; refine (HS2.out _).mono ?_; rintro r w11 ⟨rfl, h11⟩; refine Hid.out ?_)
  unfold Hid
  have hB11 := hB10.trans (h11.mono hB10.size)
  have KD_11 := Lib.hid (KD_10.out.below h11)
  have KX_11 := Lib.hid (KX_10.out.below h11)
  have Kz_11 := Lib.hid (Kz_10.out.below h11)
  have Kx_11 := Lib.hid (Kx_10.out.below h11)
  have Ko_11 := Lib.hid (Ko_10.out.below h11)
  have Ky_11 := Lib.hid (Ky_10.out.below h11)
  have Km_11 := Lib.hid (Km_10.out.below h11)
  have Kr_11 := Lib.hid (Kr_10.out.below h11)
  clear h11 hB10 KD_10 KX_10 Kz_10 Kx_10 Ko_10 Ky_10 Km_10 Kr_10 fx_0 fx_1 fx_2 fx_3 fx_l fx_f fx_l0_1
  obtain ⟨fo_0, fo_1, fo_2, fo_3, fo_l, fo_f⟩ := Ko_11.out.o4
  have fo_l0_1 : w6.heap.size < w11.heap.size + 1 := by omega
  go_wp2_with (go_at_call 51; refine (HS3.out _).mono ?_; rintro r w12 ⟨rfl, h12⟩; refine Hid.out ?_)
  unfold Hid
  have hB12 := hB11.trans (h12.mono hB11.size)
  have KD_12 := Lib.hid (KD_11.out.below h12)
  have KX_12 := Lib.hid (KX_11.out.below h12)
  have Kz_12 := Lib.hid (Kz_11.out.below h12)
  have Kx_12 := Lib.hid (Kx_11.out.below h12)
  have Ko_12 := Lib.hid (Ko_11.out.below h12)
  have Ky_12 := Lib.hid (Ky_11.out.below h12)
  have Km_12 := Lib.hid (Km_11.out.below h12)
  have Kr_12 := Lib.hid (Kr_11.out.below h12)
  clear h12 hB11 KD_11 KX_11 Kz_11 Kx_11 Ko_11 Ky_11 Km_11 Kr_11 fo_0 fo_1 fo_2 fo_3 fo_l fo_f fo_l0_1
  obtain ⟨fy_0, fy_1, fy_2, fy_3, fy_l, fy_f⟩ := Ky_12.out.o4
  have fy_l0_1 : w7.heap.size < w12.heap.size + 1 := by omega
  go_wp2_with (go_at_call 51; refine (HS4.out _).mono ?_; rintro r w13 ⟨rfl, h13⟩; refine Hid.out ?_)
  unfold Hid
  have hB13 := hB12.trans (h13.mono hB12.size)
  have KD_13 := Lib.hid (KD_12.out.below h13)
  have KX_13 := Lib.hid (KX_12.out.below h13)
  have Kz_13 := Lib.hid (Kz_12.out.below h13)
  have Kx_13 := Lib.hid (Kx_12.out.below h13)
  have Ko_13 := Lib.hid (Ko_12.out.below h13)
  have Ky_13 := Lib.hid (Ky_12.out.below h13)
  have Km_13 := Lib.hid (Km_12.out.below h13)
  have Kr_13 := Lib.hid (Kr_12.out.below h13)
  clear h13 hB12 KD_12 KX_12 Kz_12 Kx_12 Ko_12 Ky_12 Km_12 Kr_12 fy_0 fy_1 fy_2 fy_3 fy_l fy_f fy_l0_1
  obtain ⟨fm_0, fm_1, fm_2, fm_3, fm_4, fm_5, fm_6, fm_7, fm_l, fm_f⟩ := Km_13.out.o8
  have fm_l0_1 : w8.heap.size < w13.heap.size + 1 := by omega
  go_wp2_with (go_at_call 51; refine (HS5.out _).mono ?_; rintro r w14 ⟨rfl, h14⟩; refine Hid.out ?_)
  unfold Hid
  have hB14 := hB13.trans (h14.mono hB13.size)
  have KD_14 := Lib.hid (KD_13.out.below h14)
  have KX_14 := Lib.hid (KX_13.out.below h14)
  have Kz_14 := Lib.hid (Kz_13.out.below h14)
  have Kx_14 := Lib.hid (Kx_13.out.below h14)
  have Ko_14 := Lib.hid (Ko_13.out.below h14)
  have Ky_14 := Lib.hid (Ky_13.out.below h14)
  have Km_14 := Lib.hid (Km_13.out.below h14)
  have Kr_14 := Lib.hid (Kr_13.out.below h14)
  clear h14 hB13 KD_13 KX_13 Kz_13 Kx_13 Ko_13 Ky_13 Km_13 Kr_13 fm_0 fm_1 fm_2 fm_3 fm_4 fm_5 fm_6 fm_7 fm_l fm_f fm_l0_1
  obtain ⟨fm_0, fm_1, fm_2, fm_3, fm_4, fm_5, fm_6, fm_7, fm_l, fm_f⟩ := Km_14.out.o8
  have fm_l0_1 : w8.heap.size < w14.heap.size + 1 := by omega
  go_wp2_with (go_at_call 51; refine (HS6.out _).mono ?_; rintro r w15 ⟨rfl, h15⟩; refine Hid.out ?_)
  unfold Hid
  have hB15 := hB14.trans (h15.mono hB14.size)
  have KD_15 := Lib.hid (KD_14.out.below h15)
  have KX_15 := Lib.hid (KX_14.out.below h15)
  have Kz_15 := Lib.hid (Kz_14.out.below h15)
  have Kx_15 := Lib.hid (Kx_14.out.below h15)
  have Ko_15 := Lib.hid (Ko_14.out.below h15)
  have Ky_15 := Lib.hid (Ky_14.out.below h15)
  have Km_15 := Lib.hid (Km_14.out.below h15)
  have Kr_15 := Lib.hid (Kr_14.out.below h15)
  clear h15 hB14 KD_14 KX_14 Kz_14 Kx_14 Ko_14 Ky_14 Km_14 Kr_14 fm_0 fm_1 fm_2 fm_3 fm_4 fm_5 fm_6 fm_7 fm_l fm_f fm_l0_1
  obtain ⟨fr_0, fr_1, fr_2, fr_3, fr_l, fr_f⟩ := Kr_15.out.o4
  have fr_l0_1 : w9.heap.size < w15.heap.size + 1 := by omega
  go_wp2_with (go_at_call 51; refine (HS7.out _).mono ?_; rintro r w16 ⟨rfl, h16⟩; refine Hid.out ?_)
  unfold Hid
  have hB16 := hB15.trans (h16.mono hB15.size)
  have KD_16 := Lib.hid (KD_15.out.below h16)
  have KX_16 := Lib.hid (KX_15.out.below h16)
  have Kz_16 := Lib.hid (Kz_15.out.below h16)
  have Kx_16 := Lib.hid (Kx_15.out.below h16)
  have Ko_16 := Lib.hid (Ko_15.out.below h16)
  have Ky_16 := Lib.hid (Ky_15.out.below h16)
  have Km_16 := Lib.hid (Km_15.out.below h16)
  have Kr_16 := Lib.hid (Kr_15.out.below h16)
  clear h16 hB15 KD_15 KX_15 Kz_15 Kx_15 Ko_15 Ky_15 Km_15 Kr_15 fr_0 fr_1 fr_2 fr_3 fr_l fr_f fr_l0_1
  obtain ⟨fz_0, fz_1, fz_2, fz_3, fz_l, fz_f⟩ := Kz_16.out.o4
  have fz_l0_1 : w4.heap.size < w16.heap.size + 1 := by omega
  obtain ⟨fx_0, fx_1, fx_2, fx_3, fx_l, fx_f⟩ := Kx_16.out.o4
  have fx_l0_1 : w5.heap.size < w16.heap.size + 1 := by omega
  obtain ⟨fo_0, fo_1, fo_2, fo_3, fo_l, fo_f⟩ := Ko_16.out.o4
  have fo_l0_1 : w6.heap.size < w16.heap.size + 1 := by omega
  obtain ⟨fy_0, fy_1, fy_2, fy_3, fy_l, fy_f⟩ := Ky_16.out.o4
  have fy_l0_1 : w7.heap.size < w16.heap.size + 1 := by omega
  obtain ⟨fm_0, fm_1, fm_2, fm_3, fm_4, fm_5, fm_6, fm_7, fm_l, fm_f⟩ := Km_16.out.o8
  have fm_l0_1 : w8.heap.size < w16.heap.size + 1 := by omega
  go_wp2
  refine name_world ?_
  intro w17 e17
  have hB17 : Below w.heap.size w w17 := e17.symm ▸ hB16
  have KD_17 := Lib.hid (show Blk w17 (w.heap.size) #[(.int .i64 (d1)), (.int .i64 (d2)), (.int .i64 (d3)), (.int .i64 (d4)), (.int .i64 (d5)), (.int .i64 (d6))] from e17.symm ▸ KD_16.out)
  have KX_17 := Lib.hid (show Blk w17 (w.heap.size + 1) #[(.int .i64 (x1)), (.int .i64 (0)), (.int .i64 (0)), (.int .i64 (0))] from e17.symm ▸ KX_16.out)
  have Kz_17 := Lib.hid (show Blk w17 (w4.heap.size) #[(.int .i64 (n1)), (.int .i64 (n2)), (.int .i64 (a1)), (.int .i64 (a2))] from e17.symm ▸ Kz_16.out)
  have Kx_17 := Lib.hid (show Blk w17 (w5.heap.size) #[(.int .i64 (d3)), (.int .i64 (0)), (.int .i64 (n1)), (.int .i64 (n2))] from e17.symm ▸ Kx_16.out)
  have Ko_17 := Lib.hid (show Blk w17 (w6.heap.size) #[(.int .i64 (-q0 * q0 * d3)), (.int .i64 (0)), (.int .i64 (n1)), (.int .i64 (n2))] from e17.symm ▸ Ko_16.out)
  have Ky_17 := Lib.hid (show Blk w17 (w7.heap.size) #[(.int .i64 (y1)), (.int .i64 (y2)), (.int .i64 (e1)), (.int .i64 (e2))] from e17.symm ▸ Ky_16.out)
  have Km_17 := Lib.hid (show Blk w17 (w8.heap.size) #[(.int .i64 (d3)), (.int .i64 (0)), (.int .i64 (y1)), (.int .i64 (y2)), (.int .i64 (0)), (.int .i64 (0)), (.int .i64 (1)), (.int .i64 (0))] from e17.symm ▸ Km_16.out)
  have Kr_17 := Lib.hid (show Blk w17 (w9.heap.size) #[(.int .i64 (-q0 * q0 * d3)), (.int .i64 (0)), (.int .i64 (y1)), (.int .i64 (y2))] from e17.symm ▸ Kr_16.out)
  clear e17 hB16 KD_16 KX_16 Kz_16 Kx_16 Ko_16 Ky_16 Km_16 Kr_16 fz_0 fz_1 fz_2 fz_3 fz_l fz_f fz_l0_1 fx_0 fx_1 fx_2 fx_3 fx_l fx_f fx_l0_1 fo_0 fo_1 fo_2 fo_3 fo_l fo_f fo_l0_1 fy_0 fy_1 fy_2 fy_3 fy_l fy_f fy_l0_1 fm_0 fm_1 fm_2 fm_3 fm_4 fm_5 fm_6 fm_7 fm_l fm_f fm_l0_1
  obtain ⟨fD_0, fD_1, fD_2, fD_3, fD_4, fD_5, fD_l, -⟩ := KD_17.out.o6
  obtain ⟨fz_0, fz_1, fz_2, fz_3, fz_l, -⟩ := Kz_17.out.o4
  refine Rel.region3 13 (by kernel_rfl) (by kernel_rfl) (by kernel_rfl) ?_
  simp only [List.take_succ_cons, List.take_zero, List.drop_succ_cons, List.drop_zero, List.filterMap_cons, List.filterMap_nil]
  iterate 4 (apply Rel.op3; (focus (first | exact Rel.gno rfl | exact Rel.gyes _ true _ rfl rfl rfl | exact Rel.gyes _ false _ rfl rfl rfl)); (focus (intro a W hb hd hbase; obtain ⟨hc, hf⟩ := bcell hb; clear hb hf; simp [Rel.deps, Rel.dep1, Rel.ons, Region.binds, Act.eval] at hd; simp only [Act.eval, List.mem_cons, List.not_mem_nil, not_or, and_imp, or_false, Array.getD_eq_getD_getElem?] at hbase; go_simp; (try go_bits); (try rfl); done)); (try simp only [List.nil_append, List.cons_append]))
  (apply Rel.call3; (focus (first | exact Rel.gno rfl | exact Rel.gyes _ true _ rfl rfl rfl | exact Rel.gyes _ false _ rfl rfl rfl)); (focus (intro a W hb hd hbase; obtain ⟨hc, hf⟩ := bcell hb; clear hb hf; simp [Rel.deps, Rel.dep1, Rel.ons, Region.binds, Act.eval] at hd; simp only [Act.eval, List.mem_cons, List.not_mem_nil, not_or, and_imp, or_false, Array.getD_eq_getD_getElem?] at hbase; go_simp; refine ⟨?_, ?_⟩; rfl; rfl)); (focus (intro W hb; go_at_call 53; exact HCj.out _)); (try simp only [List.nil_append, List.cons_append]))
  (apply Rel.call3; (focus (first | exact Rel.gno rfl | exact Rel.gyes _ true _ rfl rfl rfl | exact Rel.gyes _ false _ rfl rfl rfl)); (focus (intro a W hb hd hbase; obtain ⟨hc, hf⟩ := bcell hb; clear hb hf; simp [Rel.deps, Rel.dep1, Rel.ons, Region.binds, Act.eval] at hd; simp only [Act.eval, List.mem_cons, List.not_mem_nil, not_or, and_imp, or_false, Array.getD_eq_getD_getElem?] at hbase; go_simp; refine ⟨?_, ?_⟩; rfl; rfl)); (focus (intro W hb; go_at_call 52; exact HTm.out _)); (try simp only [List.nil_append, List.cons_append]))
  iterate 5 (apply Rel.op3; (focus (first | exact Rel.gno rfl | exact Rel.gyes _ true _ rfl rfl rfl | exact Rel.gyes _ false _ rfl rfl rfl)); (focus (intro a W hb hd hbase; obtain ⟨hc, hf⟩ := bcell hb; clear hb hf; simp [Rel.deps, Rel.dep1, Rel.ons, Region.binds, Act.eval] at hd; simp only [Act.eval, List.mem_cons, List.not_mem_nil, not_or, and_imp, or_false, Array.getD_eq_getD_getElem?] at hbase; go_simp; (try go_bits); (try rfl); done)); (try simp only [List.nil_append, List.cons_append]))
  (apply Rel.call3; (focus (first | exact Rel.gno rfl | exact Rel.gyes _ true _ rfl rfl rfl | exact Rel.gyes _ false _ rfl rfl rfl)); (focus (intro a W hb hd hbase; obtain ⟨hc, hf⟩ := bcell hb; clear hb hf; simp [Rel.deps, Rel.dep1, Rel.ons, Region.binds, Act.eval] at hd; simp only [Act.eval, List.mem_cons, List.not_mem_nil, not_or, and_imp, or_false, Array.getD_eq_getD_getElem?] at hbase; go_simp; refine ⟨?_, ?_⟩; rfl; rfl)); (focus (intro W hb; go_at_call 54; exact HSq.out _)); (try simp only [List.nil_append, List.cons_append]))
  iterate 1 (apply Rel.op3; (focus (first | exact Rel.gno rfl | exact Rel.gyes _ true _ rfl rfl rfl | exact Rel.gyes _ false _ rfl rfl rfl)); (focus (intro a W hb hd hbase; obtain ⟨hc, hf⟩ := bcell hb; clear hb hf; simp [Rel.deps, Rel.dep1, Rel.ons, Region.binds, Act.eval] at hd; simp only [Act.eval, List.mem_cons, List.not_mem_nil, not_or, and_imp, or_false, Array.getD_eq_getD_getElem?] at hbase; go_simp; (try go_bits); (try rfl); done)); (try simp only [List.nil_append, List.cons_append]))
  refine Rel.done3 ?_
  intro x w18 h18 hx
  simp only [Rel.facts, Nat.zero_add, Nat.reduceAdd] at hx
  obtain ⟨e0, e1, e2, e3, e4, e5, e6, e7, e8, e9, e10, e11, e12, _⟩ := hx
  simp only [Rel.fill, Nat.zero_add, Nat.reduceAdd, e0, e1, e2, e3, e4, e5, e6, e7, e8, e9, e10, e11, e12]
  simp only [Act.put, List.setIfInBounds_toArray, List.set_cons_zero, List.set_cons_succ]
  clear e0 e1 e2 e3 e4 e5 e6 e7 e8 e9 e10 e11 e12
  have hB18 := hB17.trans (h18.mono hB17.size)
  have KD_18 := Lib.hid (KD_17.out.below h18)
  have KX_18 := Lib.hid (KX_17.out.below h18)
  have Kz_18 := Lib.hid (Kz_17.out.below h18)
  have Kx_18 := Lib.hid (Kx_17.out.below h18)
  have Ko_18 := Lib.hid (Ko_17.out.below h18)
  have Ky_18 := Lib.hid (Ky_17.out.below h18)
  have Km_18 := Lib.hid (Km_17.out.below h18)
  have Kr_18 := Lib.hid (Kr_17.out.below h18)
  clear h18 hB17 KD_17 KX_17 Kz_17 Kx_17 Ko_17 Ky_17 Km_17 Kr_17 fD_0 fD_1 fD_2 fD_3 fD_4 fD_5 fD_l fz_0 fz_1 fz_2 fz_3 fz_l
  clear Kz_18 Kx_18 Ko_18 Ky_18
  obtain ⟨fD_0, fD_1, fD_2, fD_3, fD_4, fD_5, fD_l, fD_f⟩ := KD_18.out.o6
  have fD_l0_1 : w.heap.size < w18.heap.size + 1 := by omega
  obtain ⟨fX_0, fX_1, fX_2, fX_3, fX_l, fX_f⟩ := KX_18.out.o4
  have fX_l0 : w.heap.size < w18.heap.size := by omega
  have fX_l0_1 : w.heap.size < w18.heap.size + 1 := by omega
  have fX_l1_1 : w.heap.size + 1 < w18.heap.size + 1 := by omega
  go_wp2_with (go_at_call 12; refine (HMe.out _ (hL.below (hB18.alloc hB18.size _))).mono ?_; rintro r w19 ⟨rfl, h19⟩; refine Hid.out ?_)
  unfold Hid
  have hB19 := (hB18.alloc hB18.size _).trans (h19.mono (Nat.le_trans hB18.size (by simp; try omega)))
  have oD_19 : w.heap.size < w18.heap.size := KD_18.out.lt
  have oX_19 : w.heap.size + 1 < w18.heap.size := KX_18.out.lt
  have om_19 : w8.heap.size < w18.heap.size := Km_18.out.lt
  have or_19 : w9.heap.size < w18.heap.size := Kr_18.out.lt
  have KD_19 := Lib.hid ((KD_18.out.alloc _).below h19)
  have KX_19 := Lib.hid ((KX_18.out.alloc _).below h19)
  have Km_19 := Lib.hid ((Km_18.out.alloc _).below h19)
  have Kr_19 := Lib.hid ((Kr_18.out.alloc _).below h19)
  clear h19 hB18 KD_18 KX_18 Km_18 Kr_18 fD_0 fD_1 fD_2 fD_3 fD_4 fD_5 fD_l fD_f fD_l0_1 fX_0 fX_1 fX_2 fX_3 fX_l fX_f fX_l0 fX_l0_1 fX_l1_1
  obtain ⟨fD_0, fD_1, fD_2, fD_3, fD_4, fD_5, fD_l, fD_f⟩ := KD_19.out.o6
  have fD_l0_1 : w.heap.size < w19.heap.size + 1 := by omega
  obtain ⟨fX_0, fX_1, fX_2, fX_3, fX_l, fX_f⟩ := KX_19.out.o4
  have fX_l0 : w.heap.size < w19.heap.size := by omega
  have fX_l0_1 : w.heap.size < w19.heap.size + 1 := by omega
  have fX_l1_1 : w.heap.size + 1 < w19.heap.size + 1 := by omega
  go_wp2_with (go_at_call 36; refine (HCl.out _ (hL.below (hB19.alloc hB19.size _))).mono ?_; rintro r w20 ⟨rfl, h20⟩; refine Hid.out ?_)
  unfold Hid
  have hB20 := (hB19.alloc hB19.size _).trans (h20.mono (Nat.le_trans hB19.size (by simp; try omega)))
  have oD_20 : w.heap.size < w19.heap.size := KD_19.out.lt
  have oX_20 : w.heap.size + 1 < w19.heap.size := KX_19.out.lt
  have om_20 : w8.heap.size < w19.heap.size := Km_19.out.lt
  have or_20 : w9.heap.size < w19.heap.size := Kr_19.out.lt
  have KD_20 := Lib.hid ((KD_19.out.alloc _).below h20)
  have KX_20 := Lib.hid ((KX_19.out.alloc _).below h20)
  have Km_20 := Lib.hid ((Km_19.out.alloc _).below h20)
  have Kr_20 := Lib.hid ((Kr_19.out.alloc _).below h20)
  clear h20 hB19 KD_19 KX_19 Km_19 Kr_19 fD_0 fD_1 fD_2 fD_3 fD_4 fD_5 fD_l fD_f fD_l0_1 fX_0 fX_1 fX_2 fX_3 fX_l fX_f fX_l0 fX_l0_1 fX_l1_1
  obtain ⟨fD_0, fD_1, fD_2, fD_3, fD_4, fD_5, fD_l, fD_f⟩ := KD_20.out.o6
  have fD_l0_1 : w.heap.size < w20.heap.size + 1 := by omega
  obtain ⟨fX_0, fX_1, fX_2, fX_3, fX_l, fX_f⟩ := KX_20.out.o4
  have fX_l0 : w.heap.size < w20.heap.size := by omega
  have fX_l0_1 : w.heap.size < w20.heap.size + 1 := by omega
  have fX_l1_1 : w.heap.size + 1 < w20.heap.size + 1 := by omega
  go_wp2_with (go_at_call 13; refine (HIm2.out _ (hL.below (hB20.alloc hB20.size _))).mono ?_; rintro r w21 ⟨rfl, h21⟩; refine Hid.out ?_)
  unfold Hid
  have hB21 := (hB20.alloc hB20.size _).trans (h21.mono (Nat.le_trans hB20.size (by simp; try omega)))
  have oD_21 : w.heap.size < w20.heap.size := KD_20.out.lt
  have oX_21 : w.heap.size + 1 < w20.heap.size := KX_20.out.lt
  have om_21 : w8.heap.size < w20.heap.size := Km_20.out.lt
  have or_21 : w9.heap.size < w20.heap.size := Kr_20.out.lt
  have KD_21 := Lib.hid ((KD_20.out.alloc _).below h21)
  have KX_21 := Lib.hid ((KX_20.out.alloc _).below h21)
  have Km_21 := Lib.hid ((Km_20.out.alloc _).below h21)
  have Kr_21 := Lib.hid ((Kr_20.out.alloc _).below h21)
  clear h21 hB20 KD_20 KX_20 Km_20 Kr_20 fD_0 fD_1 fD_2 fD_3 fD_4 fD_5 fD_l fD_f fD_l0_1 fX_0 fX_1 fX_2 fX_3 fX_l fX_f fX_l0 fX_l0_1 fX_l1_1
  obtain ⟨fD_0, fD_1, fD_2, fD_3, fD_4, fD_5, fD_l, fD_f⟩ := KD_21.out.o6
  have fD_l0_1 : w.heap.size < w21.heap.size + 1 := by omega
  obtain ⟨fX_0, fX_1, fX_2, fX_3, fX_l, fX_f⟩ := KX_21.out.o4
  have fX_l0 : w.heap.size < w21.heap.size := by omega
  have fX_l0_1 : w.heap.size < w21.heap.size + 1 := by omega
  have fX_l1_1 : w.heap.size + 1 < w21.heap.size + 1 := by omega
  go_wp2_with (go_at_call 25; refine (HBx2.out _ (hL.below (hB21.alloc hB21.size _))).mono ?_; rintro r w22 ⟨rfl, h22⟩; refine Hid.out ?_)
  unfold Hid
  have hB22 := (hB21.alloc hB21.size _).trans (h22.mono (Nat.le_trans hB21.size (by simp; try omega)))
  have oD_22 : w.heap.size < w21.heap.size := KD_21.out.lt
  have oX_22 : w.heap.size + 1 < w21.heap.size := KX_21.out.lt
  have om_22 : w8.heap.size < w21.heap.size := Km_21.out.lt
  have or_22 : w9.heap.size < w21.heap.size := Kr_21.out.lt
  have KD_22 := Lib.hid ((KD_21.out.alloc _).below h22)
  have KX_22 := Lib.hid ((KX_21.out.alloc _).below h22)
  have Km_22 := Lib.hid ((Km_21.out.alloc _).below h22)
  have Kr_22 := Lib.hid ((Kr_21.out.alloc _).below h22)
  have Ku_22 := Lib.hid (show Blk w22 (w21.heap.size) #[(.int .i64 (v1)), (.int .i64 (v2)), (.int .i64 (v3)), (.int .i64 (v4))] from (Calm.Blk.new _ _ #[(.int .i64 (v1)), (.int .i64 (v2)), (.int .i64 (v3)), (.int .i64 (v4))]).below h22)
  clear h22 hB21 KD_21 KX_21 Km_21 Kr_21 fD_0 fD_1 fD_2 fD_3 fD_4 fD_5 fD_l fD_f fD_l0_1 fX_0 fX_1 fX_2 fX_3 fX_l fX_f fX_l0 fX_l0_1 fX_l1_1
  obtain ⟨fu_0, fu_1, fu_2, fu_3, fu_l, fu_f⟩ := Ku_22.out.o4
  have fu_l0_1 : w21.heap.size < w22.heap.size + 1 := by omega
  obtain ⟨fX_0, fX_1, fX_2, fX_3, fX_l, fX_f⟩ := KX_22.out.o4
  have fX_l0 : w.heap.size < w22.heap.size := by omega
  have fX_l0_1 : w.heap.size < w22.heap.size + 1 := by omega
  have fX_l1_1 : w.heap.size + 1 < w22.heap.size + 1 := by omega
  obtain ⟨fm_0, fm_1, fm_2, fm_3, fm_4, fm_5, fm_6, fm_7, fm_l, fm_f⟩ := Km_22.out.o8
  have fm_l0_1 : w8.heap.size < w22.heap.size + 1 := by omega
  go_wp2
  refine name_world ?_
  intro w23 e23
  have hB23 : Below w.heap.size w w23 := e23.symm ▸ (hB22.alloc hB22.size _)
  have oD_23 : w.heap.size < w22.heap.size := KD_22.out.lt
  have oX_23 : w.heap.size + 1 < w22.heap.size := KX_22.out.lt
  have om_23 : w8.heap.size < w22.heap.size := Km_22.out.lt
  have or_23 : w9.heap.size < w22.heap.size := Kr_22.out.lt
  have ou_23 : w21.heap.size < w22.heap.size := Ku_22.out.lt
  have KD_23 := Lib.hid (show Blk w23 (w.heap.size) #[(.int .i64 (d1)), (.int .i64 (d2)), (.int .i64 (d3)), (.int .i64 (d4)), (.int .i64 (d5)), (.int .i64 (d6))] from e23.symm ▸ (KD_22.out.alloc _))
  have KX_23 := Lib.hid (show Blk w23 (w.heap.size + 1) #[(.int .i64 (x1)), (.int .i64 (0)), (.int .i64 (0)), (.int .i64 (0))] from e23.symm ▸ (KX_22.out.alloc _))
  have Km_23 := Lib.hid (show Blk w23 (w8.heap.size) #[(.int .i64 (d3)), (.int .i64 (0)), (.int .i64 (y1)), (.int .i64 (y2)), (.int .i64 (0)), (.int .i64 (0)), (.int .i64 (1)), (.int .i64 (0))] from e23.symm ▸ (Km_22.out.alloc _))
  have Kr_23 := Lib.hid (show Blk w23 (w9.heap.size) #[(.int .i64 (-q0 * q0 * d3)), (.int .i64 (0)), (.int .i64 (y1)), (.int .i64 (y2))] from e23.symm ▸ (Kr_22.out.alloc _))
  have Ku_23 := Lib.hid (show Blk w23 (w21.heap.size) #[(.int .i64 (v1)), (.int .i64 (v2)), (.int .i64 (v3)), (.int .i64 (v4))] from e23.symm ▸ (Ku_22.out.alloc _))
  have z23 : w22.heap.size + 1 ≤ w23.heap.size := by rw [e23]; simp
  clear e23 hB22 KD_22 KX_22 Km_22 Kr_22 Ku_22 fu_0 fu_1 fu_2 fu_3 fu_l fu_f fu_l0_1 fX_0 fX_1 fX_2 fX_3 fX_l fX_f fX_l0 fX_l0_1 fX_l1_1 fm_0 fm_1 fm_2 fm_3 fm_4 fm_5 fm_6 fm_7 fm_l fm_f fm_l0_1
  obtain ⟨fm_0, fm_1, fm_2, fm_3, fm_4, fm_5, fm_6, fm_7, fm_l, -⟩ := Km_23.out.o8
  obtain ⟨fr_0, fr_1, fr_2, fr_3, fr_l, -⟩ := Kr_23.out.o4
  refine Rel.region3 36 (by kernel_rfl) (by kernel_rfl) (by kernel_rfl) ?_
  simp only [List.take_succ_cons, List.take_zero, List.drop_succ_cons, List.drop_zero, List.filterMap_cons, List.filterMap_nil]
  iterate 2 (apply Rel.op3; (focus (first | exact Rel.gno rfl | exact Rel.gyes _ true _ rfl rfl rfl | exact Rel.gyes _ false _ rfl rfl rfl)); (focus (intro a W hb hd hbase; obtain ⟨hc, hf⟩ := bcell hb; clear hb hf; simp [Rel.deps, Rel.dep1, Rel.ons, Region.binds, Act.eval] at hd; simp only [Act.eval, List.mem_cons, List.not_mem_nil, not_or, and_imp, or_false, Array.getD_eq_getD_getElem?] at hbase; go_simp; (try go_bits); (try rfl); done)); (try simp only [List.nil_append, List.cons_append]))
  (apply Rel.call3; (focus (first | exact Rel.gno rfl | exact Rel.gyes _ true _ rfl rfl rfl | exact Rel.gyes _ false _ rfl rfl rfl)); (focus (intro a W hb hd hbase; obtain ⟨hc, hf⟩ := bcell hb; clear hb hf; simp [Rel.deps, Rel.dep1, Rel.ons, Region.binds, Act.eval] at hd; simp only [Act.eval, List.mem_cons, List.not_mem_nil, not_or, and_imp, or_false, Array.getD_eq_getD_getElem?] at hbase; go_simp; refine ⟨?_, ?_⟩; rfl; rfl)); (focus (intro W hb; go_at_call 55; exact pair_any 0 0 1 0 _)); (try simp only [List.nil_append, List.cons_append]))
  (apply Rel.op3 (.bool true); (focus (first | exact Rel.gno rfl | exact Rel.gyes _ true _ rfl rfl rfl | exact Rel.gyes _ false _ rfl rfl rfl)); (focus (intro a W hb hd hbase; obtain ⟨hc, hf⟩ := bcell hb; clear hb hf; simp [Rel.deps, Rel.dep1, Rel.ons, Region.binds, Act.eval] at hd; simp only [Act.eval, List.mem_cons, List.not_mem_nil, not_or, and_imp, or_false, Array.getD_eq_getD_getElem?] at hbase; go_simp; (try go_bits); (try rfl); done)); (try simp only [List.nil_append, List.cons_append]))
  iterate 22 (apply Rel.op3; (focus (first | exact Rel.gno rfl | exact Rel.gyes _ true _ rfl rfl rfl | exact Rel.gyes _ false _ rfl rfl rfl)); (focus (intro a W hb hd hbase; obtain ⟨hc, hf⟩ := bcell hb; clear hb hf; simp [Rel.deps, Rel.dep1, Rel.ons, Region.binds, Act.eval] at hd; simp only [Act.eval, List.mem_cons, List.not_mem_nil, not_or, and_imp, or_false, Array.getD_eq_getD_getElem?] at hbase; go_simp; (try go_bits); (try rfl); done)); (try simp only [List.nil_append, List.cons_append]))
  (apply Rel.op3 (.bool true); (focus (first | exact Rel.gno rfl | exact Rel.gyes _ true _ rfl rfl rfl | exact Rel.gyes _ false _ rfl rfl rfl)); (focus (intro a W hb hd hbase; obtain ⟨hc, hf⟩ := bcell hb; clear hb hf; simp [Rel.deps, Rel.dep1, Rel.ons, Region.binds, Act.eval] at hd; simp only [Act.eval, List.mem_cons, List.not_mem_nil, not_or, and_imp, or_false, Array.getD_eq_getD_getElem?] at hbase; go_simp; (try go_bits); (try rfl); done)); (try simp only [List.nil_append, List.cons_append]))
  iterate 7 (apply Rel.op3; (focus (first | exact Rel.gno rfl | exact Rel.gyes _ true _ rfl rfl rfl | exact Rel.gyes _ false _ rfl rfl rfl)); (focus (intro a W hb hd hbase; obtain ⟨hc, hf⟩ := bcell hb; clear hb hf; simp [Rel.deps, Rel.dep1, Rel.ons, Region.binds, Act.eval] at hd; simp only [Act.eval, List.mem_cons, List.not_mem_nil, not_or, and_imp, or_false, Array.getD_eq_getD_getElem?] at hbase; go_simp; (try go_bits); (try rfl); done)); (try simp only [List.nil_append, List.cons_append]))
  (apply Rel.op3 (.bool true); (focus (first | exact Rel.gno rfl | exact Rel.gyes _ true _ rfl rfl rfl | exact Rel.gyes _ false _ rfl rfl rfl)); (focus (intro a W hb hd hbase; obtain ⟨hc, hf⟩ := bcell hb; clear hb hf; simp [Rel.deps, Rel.dep1, Rel.ons, Region.binds, Act.eval] at hd; simp only [Act.eval, List.mem_cons, List.not_mem_nil, not_or, and_imp, or_false, Array.getD_eq_getD_getElem?] at hbase; go_simp; (try go_bits); (try rfl); done)); (try simp only [List.nil_append, List.cons_append]))
  iterate 1 (apply Rel.op3; (focus (first | exact Rel.gno rfl | exact Rel.gyes _ true _ rfl rfl rfl | exact Rel.gyes _ false _ rfl rfl rfl)); (focus (intro a W hb hd hbase; obtain ⟨hc, hf⟩ := bcell hb; clear hb hf; simp [Rel.deps, Rel.dep1, Rel.ons, Region.binds, Act.eval] at hd; simp only [Act.eval, List.mem_cons, List.not_mem_nil, not_or, and_imp, or_false, Array.getD_eq_getD_getElem?] at hbase; go_simp; (try go_bits); (try rfl); done)); (try simp only [List.nil_append, List.cons_append]))
  refine Rel.done3 ?_
  intro x w24 h24 hx
  simp only [Rel.facts, Nat.zero_add, Nat.reduceAdd] at hx
  obtain ⟨e0, e1, e2, e3, e4, e5, e6, e7, e8, e9, e10, e11, e12, e13, e14, e15, e16, e17, e18, e19, e20, e21, e22, e23, e24, e25, e26, e27, e28, e29, e30, e31, e32, e33, e34, e35, _⟩ := hx
  simp only [Rel.fill, Nat.zero_add, Nat.reduceAdd, e0, e1, e2, e3, e4, e5, e6, e7, e8, e9, e10, e11, e12, e13, e14, e15, e16, e17, e18, e19, e20, e21, e22, e23, e24, e25, e26, e27, e28, e29, e30, e31, e32, e33, e34, e35]
  simp only [Act.put, List.setIfInBounds_toArray, List.set_cons_zero, List.set_cons_succ]
  clear e0 e1 e2 e3 e4 e5 e6 e7 e8 e9 e10 e11 e12 e13 e14 e15 e16 e17 e18 e19 e20 e21 e22 e23 e24 e25 e26 e27 e28 e29 e30 e31 e32 e33 e34 e35
  have hB24 := hB23.trans (h24.mono hB23.size)
  have KD_24 := Lib.hid (KD_23.out.below h24)
  have KX_24 := Lib.hid (KX_23.out.below h24)
  have Km_24 := Lib.hid (Km_23.out.below h24)
  have Kr_24 := Lib.hid (Kr_23.out.below h24)
  have Ku_24 := Lib.hid (Ku_23.out.below h24)
  clear h24 hB23 KD_23 KX_23 Km_23 Kr_23 Ku_23 fm_0 fm_1 fm_2 fm_3 fm_4 fm_5 fm_6 fm_7 fm_l fr_0 fr_1 fr_2 fr_3 fr_l
  go_wp2
  go_ret
  exact ⟨by first | rfl | (simp; done), hB24⟩
end Go.Proofs.YtpkldjlljoledaaDoor
