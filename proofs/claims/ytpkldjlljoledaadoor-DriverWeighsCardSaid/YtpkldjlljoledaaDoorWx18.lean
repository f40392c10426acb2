/- Part 18 of the texts of the claim: Wei_20, Wei_21, WeiAll, WeiRow. -/
import Derived.Test.YtpkldjlljoledaaDoorWx16
import Derived.Test.YtpkldjlljoledaaDoorWx17
import Derived.Test.YtpkldjlljoledaaDoorWx2

/- The walk of DriverWeighs, one of six cases. -/
namespace Go.Proofs.YtpkldjlljoledaaDoor
open Go.RowKit
open Calm (bcell Blk)
set_option maxRecDepth 100000 in
set_option maxHeartbeats 16000000 in
theorem wei_20 (d1 d2 d3 d4 d5 d6 ad k1 k2 k3 k4 k5 k6 f1 f2 g1 g2 : Int) (w : World) (hL : Lim w)
    (HCD : Hid (∀ W : World, Calls Tryd.prog 17 #[.agg #[(.int .i64 (d1)), (.int .i64 (d2)), (.int .i64 (d3)), (.int .i64 (d4)), (.int .i64 (d5)), (.int .i64 (d6))]] W fun r w' => r = .returned ((.int .i64 (0))) ∧ Below W.heap.size W w'))
    (HQ : Hid (∀ W : World, Lim W → Calls Tryd.prog 38 #[.agg #[(.int .i64 (d1)), (.int .i64 (d2)), (.int .i64 (d3)), (.int .i64 (d4)), (.int .i64 (d5)), (.int .i64 (d6))]] W fun r w' => r = .returned (.tuple #[.agg #[(.int .i64 (k1)), (.int .i64 (k2)), (.int .i64 (k3)), (.int .i64 (k4)), (.int .i64 (k5)), (.int .i64 (k6))], (.int .i64 (0))]) ∧ Below W.heap.size W w'))
    (HR1 : Hid (∀ W : World, Lim W → Calls Tryd.prog 37 #[.agg #[(.int .i64 (d1)), (.int .i64 (d2)), (.int .i64 (d3)), (.int .i64 (d4)), (.int .i64 (d5)), (.int .i64 (d6))]] W fun r w' => r = .returned (.tuple #[.agg #[(.int .i64 (f1)), (.int .i64 (f2))], (.int .i64 (0))]) ∧ Below W.heap.size W w'))
    (HR2 : Hid (∀ W : World, Lim W → Calls Tryd.prog 37 #[.agg #[(.int .i64 (d1)), (.int .i64 (d2)), (.int .i64 (d3)), (.int .i64 (d4 + (1 + ad % 100))), (.int .i64 (d5)), (.int .i64 (d6))]] W fun r w' => r = .returned (.tuple #[.agg #[(.int .i64 (g1)), (.int .i64 (g2))], (.int .i64 (0))]) ∧ Below W.heap.size W w'))
    (HT1 : Hid (∀ W : World, Calls Tryd.prog 41 #[.agg #[(.int .i64 (f1)), (.int .i64 (f2))]] W fun r w' => r = .returned ((.int .i64 (0))) ∧ Below W.heap.size W w'))
    (HT2 : Hid (∀ W : World, Calls Tryd.prog 41 #[.agg #[(.int .i64 (g1)), (.int .i64 (g2))]] W fun r w' => r = .returned ((.int .i64 (0))) ∧ Below W.heap.size W w'))
    (HW : Hid (∀ W : World, Calls Tryd.prog 39 #[.agg #[(.int .i64 (f1)), (.int .i64 (f2))], .agg #[(.int .i64 (g1)), (.int .i64 (g2))], (.int .i64 (1 + ad % 100))] W fun r w' => r = .returned (.tuple #[.agg #[(.int .i64 (d4)), (.int .i64 (1))], .agg #[(.int .i64 (d5)), (.int .i64 (1))], (.int .i64 (0))]) ∧ Below W.heap.size W w'))
    (ha : 0 ≤ ad ∧ ad ≤ 255)
    (q1 : 1 ≤ d1 ∧ d1 ≤ 50)
    (q3 : 1 ≤ d3 ∧ d3 ≤ 20)
    (q4 : 1 ≤ d4 ∧ d4 ≤ 100)
    (b1 : 1 ≤ k1 ∧ k1 ≤ 2147483648)
    (b2 : 1 ≤ k2 ∧ k2 ≤ 2147483648)
    (b3 : 1 ≤ k3 ∧ k3 ≤ 2147483648)
    (b4 : 1 ≤ k4 ∧ k4 ≤ 2147483648)
    (b5 : 1 ≤ k5 ∧ k5 ≤ 2147483648)
    (b6 : 1 ≤ k6 ∧ k6 ≤ 2147483648)
    (p1 : 0 ≤ k5 * k2 ∧ k5 * k2 ≤ k1 * k6 ∧ k1 * k6 ≤ 1000000000000000000)
    (p2 : 0 ≤ k5 * k4 ∧ k5 * k4 ≤ k3 * k6 ∧ k3 * k6 ≤ 1000000000000000000)
    (hX : 4 * d1 ≤ 50 ∧ 20 < 2 * d3)
    (hY : d4 + (1 + ad % 100) ≤ 100)
    : Calls Tryd.prog 8 #[.agg #[(.int .i64 (d1)), (.int .i64 (d2)), (.int .i64 (d3)), (.int .i64 (d4)), (.int .i64 (d5)), (.int .i64 (d6))], .int .u8 ad] w fun r w' => r = .returned (.bool true) ∧ Below w.heap.size w w' := by
  have hB0 := Below.refl w.heap.size w
  go_enter Tryd.func8, Tryd.ntmps8
  go_wp2_with (go_at_call 11; refine (awake_any _ (hL.below (hB0.alloc hB0.size _))).mono ?_; rintro r w1 ⟨rfl, h1⟩; refine Hid.out ?_)
  unfold Hid
  have hB1 := (hB0.alloc hB0.size _).trans (h1.mono (Nat.le_trans hB0.size (by simp; try omega)))
  have KD_1 := Lib.hid (show Blk w1 (w.heap.size) #[(.int .i64 (d1)), (.int .i64 (d2)), (.int .i64 (d3)), (.int .i64 (d4)), (.int .i64 (d5)), (.int .i64 (d6))] from (Calm.Blk.new _ _ #[(.int .i64 (d1)), (.int .i64 (d2)), (.int .i64 (d3)), (.int .i64 (d4)), (.int .i64 (d5)), (.int .i64 (d6))]).below h1)
  clear h1 hB0
  have fD_0 := KD_1.out.cell 0 (.int .i64 (d1)) rfl
  have fD_1 := KD_1.out.cell 1 (.int .i64 (d2)) rfl
  have fD_2 := KD_1.out.cell 2 (.int .i64 (d3)) rfl
  have fD_3 := KD_1.out.cell 3 (.int .i64 (d4)) rfl
  have fD_4 := KD_1.out.cell 4 (.int .i64 (d5)) rfl
  have fD_5 := KD_1.out.cell 5 (.int .i64 (d6)) rfl
  have fD_l := KD_1.out.lt
  have fD_f := KD_1.out.f
  have fD_l0_1 : w.heap.size < w1.heap.size + 1 := by omega
  have fD_l0_2 : w.heap.size < w1.heap.size + 1 + 1 := by omega
  go_wp2_with (go_at_call 17; refine (HCD.out _).mono ?_; rintro r w2 ⟨rfl, h2⟩; refine Hid.out ?_)
  unfold Hid
  have hB2 := hB1.trans (h2.mono hB1.size)
  have KD_2 := Lib.hid (show Blk w2 (w.heap.size) #[(.int .i64 (d1)), (.int .i64 (d2)), (.int .i64 (d3)), (.int .i64 (d4)), (.int .i64 (d5)), (.int .i64 (d6))] from KD_1.out.below h2)
  clear h2 hB1 KD_1 fD_0 fD_1 fD_2 fD_3 fD_4 fD_5 fD_l fD_f fD_l0_1 fD_l0_2
  have fD_0 := KD_2.out.cell 0 (.int .i64 (d1)) rfl
  have fD_1 := KD_2.out.cell 1 (.int .i64 (d2)) rfl
  have fD_2 := KD_2.out.cell 2 (.int .i64 (d3)) rfl
  have fD_3 := KD_2.out.cell 3 (.int .i64 (d4)) rfl
  have fD_4 := KD_2.out.cell 4 (.int .i64 (d5)) rfl
  have fD_5 := KD_2.out.cell 5 (.int .i64 (d6)) rfl
  have fD_l := KD_2.out.lt
  have fD_f := KD_2.out.f
  have fD_l0_1 : w.heap.size < w2.heap.size + 1 := by omega
  have fD_l0_2 : w.heap.size < w2.heap.size + 1 + 1 := by omega
  go_wp2_with (go_at_call 38; refine (HQ.out _ (hL.below hB2)).mono ?_; rintro r w3 ⟨rfl, h3⟩; refine Hid.out ?_)
  unfold Hid
  have hB3 := hB2.trans (h3.mono hB2.size)
  have KD_3 := Lib.hid (show Blk w3 (w.heap.size) #[(.int .i64 (d1)), (.int .i64 (d2)), (.int .i64 (d3)), (.int .i64 (d4)), (.int .i64 (d5)), (.int .i64 (d6))] from KD_2.out.below h3)
  clear h3 hB2 KD_2 fD_0 fD_1 fD_2 fD_3 fD_4 fD_5 fD_l fD_f fD_l0_1 fD_l0_2
  go_wp2
  refine name_world ?_
  intro w4 e4
  have hB4 : Below w.heap.size w w4 := e4.symm ▸ (hB3.alloc hB3.size _)
  have oD_4 : w.heap.size < w3.heap.size := KD_3.out.lt
  have KD_4 := Lib.hid (show Blk w4 (w.heap.size) #[(.int .i64 (d1)), (.int .i64 (d2)), (.int .i64 (d3)), (.int .i64 (d4)), (.int .i64 (d5)), (.int .i64 (d6))] from e4.symm ▸ (KD_3.out.alloc _))
  have Kk_4 := Lib.hid (show Blk w4 (w3.heap.size) #[(.int .i64 (k1)), (.int .i64 (k2)), (.int .i64 (k3)), (.int .i64 (k4)), (.int .i64 (k5)), (.int .i64 (k6))] from e4.symm ▸ (Calm.Blk.new _ _ #[(.int .i64 (k1)), (.int .i64 (k2)), (.int .i64 (k3)), (.int .i64 (k4)), (.int .i64 (k5)), (.int .i64 (k6))]))
  have z4 : w3.heap.size + 1 ≤ w4.heap.size := by rw [e4]; simp
  clear e4 hB3 KD_3
  go_loopw [41] (fun i wr => ∃ k : Int, 0 ≤ k ∧ k ≤ 3 ∧ i = (.int .i64 (k)) ∧ Blk wr (w.heap.size) #[(.int .i64 (d1)), (.int .i64 (d2)), (.int .i64 (d3)), (.int .i64 (d4)), (.int .i64 (d5)), (.int .i64 (d6))] ∧ Blk wr (w3.heap.size) #[(.int .i64 (k1)), (.int .i64 (k2)), (.int .i64 (k3)), (.int .i64 (k4)), (.int .i64 (k5)), (.int .i64 (k6))] ∧ Below w.heap.size w wr) (fun i _ => 3 - (intOf i).toNat)
  case atStart => exact ⟨0, by omega, by omega, rfl, KD_4.out, Kk_4.out, hB4⟩
  case round =>
    clear KD_4 Kk_4 hB4
    obtain ⟨k, hk0, hk, rfl, hD, hK, hB⟩ := hrel
    have HD := Lib.hid hD
    have HK := Lib.hid hK
    clear hD hK
    have hkk : k = 0 ∨ k = 1 ∨ k = 2 ∨ k = 3 := by omega
    rcases hkk with rfl | rfl | rfl | rfl
    · have ix := wix0 k1 k2 k3 k4 k5 k6
      go_wp2
      go_roundw
      case rel => exact ⟨1, by omega, by omega, rfl, HD.out.alloc _, HK.out.alloc _, hB.alloc hB.size _⟩
      case measure => simp [intOf]
    · have ix := wix1 k1 k2 k3 k4 k5 k6
      go_wp2
      go_roundw
      case rel => exact ⟨2, by omega, by omega, rfl, HD.out.alloc _, HK.out.alloc _, hB.alloc hB.size _⟩
      case measure => simp [intOf]
    · have ix := wix2 k1 k2 k3 k4 k5 k6
      go_wp2
      go_roundw
      case rel => exact ⟨3, by omega, by omega, rfl, HD.out.alloc _, HK.out.alloc _, hB.alloc hB.size _⟩
      case measure => simp [intOf]
    · have hB9 := hB
      clear hB
      have fD_0 := HD.out.cell 0 (.int .i64 (d1)) rfl
      have fD_1 := HD.out.cell 1 (.int .i64 (d2)) rfl
      have fD_2 := HD.out.cell 2 (.int .i64 (d3)) rfl
      have fD_3 := HD.out.cell 3 (.int .i64 (d4)) rfl
      have fD_4 := HD.out.cell 4 (.int .i64 (d5)) rfl
      have fD_5 := HD.out.cell 5 (.int .i64 (d6)) rfl
      have fD_l := HD.out.lt
      have fD_f := HD.out.f
      have fD_l0_1 : w.heap.size < wr.heap.size + 1 := by omega
      have fD_l0_2 : w.heap.size < wr.heap.size + 1 + 1 := by omega
      have fD_l0_3 : w.heap.size < wr.heap.size + 1 + 1 + 1 := by omega
      have fk_0 := HK.out.cell 0 (.int .i64 (k1)) rfl
      have fk_1 := HK.out.cell 1 (.int .i64 (k2)) rfl
      have fk_2 := HK.out.cell 2 (.int .i64 (k3)) rfl
      have fk_3 := HK.out.cell 3 (.int .i64 (k4)) rfl
      have fk_4 := HK.out.cell 4 (.int .i64 (k5)) rfl
      have fk_5 := HK.out.cell 5 (.int .i64 (k6)) rfl
      have fk_l := HK.out.lt
      have fk_f := HK.out.f
      have fk_l0_1 : w3.heap.size < wr.heap.size + 1 := by omega
      have fk_l0_2 : w3.heap.size < wr.heap.size + 1 + 1 := by omega
      have fk_l0_3 : w3.heap.size < wr.heap.size + 1 + 1 + 1 := by omega
      go_wp2_with (go_at_call 37; refine (HR1.out _ (hL.below (hB9.alloc hB9.size _))).mono ?_; rintro r w5 ⟨rfl, h5⟩; refine Hid.out ?_)
      unfold Hid
      have hB5 := (hB9.alloc hB9.size _).trans (h5.mono (Nat.le_trans hB9.size (by simp; try omega)))
      have oD_5 : w.heap.size < wr.heap.size := HD.out.lt
      have ok_5 : w3.heap.size < wr.heap.size := HK.out.lt
      have KD_5 := Lib.hid (show Blk w5 (w.heap.size) #[(.int .i64 (d1)), (.int .i64 (d2)), (.int .i64 (d3)), (.int .i64 (d4)), (.int .i64 (d5)), (.int .i64 (d6))] from (HD.out.alloc _).below h5)
      have Kk_5 := Lib.hid (show Blk w5 (w3.heap.size) #[(.int .i64 (k1)), (.int .i64 (k2)), (.int .i64 (k3)), (.int .i64 (k4)), (.int .i64 (k5)), (.int .i64 (k6))] from (HK.out.alloc _).below h5)
      have Kl_5 := Lib.hid (show Blk w5 (wr.heap.size) #[(.int .i64 (d1)), (.int .i64 (d2)), (.int .i64 (d3)), (.int .i64 (d4 + (1 + ad % 100))), (.int .i64 (d5)), (.int .i64 (d6))] from (Calm.Blk.new _ _ #[(.int .i64 (d1)), (.int .i64 (d2)), (.int .i64 (d3)), (.int .i64 (d4 + (1 + ad % 100))), (.int .i64 (d5)), (.int .i64 (d6))]).below h5)
      clear h5 hB9 HD HK fD_0 fD_1 fD_2 fD_3 fD_4 fD_5 fD_l fD_f fD_l0_1 fD_l0_2 fD_l0_3 fk_0 fk_1 fk_2 fk_3 fk_4 fk_5 fk_l fk_f fk_l0_1 fk_l0_2 fk_l0_3
      have fl_0 := Kl_5.out.cell 0 (.int .i64 (d1)) rfl
      have fl_1 := Kl_5.out.cell 1 (.int .i64 (d2)) rfl
      have fl_2 := Kl_5.out.cell 2 (.int .i64 (d3)) rfl
      have fl_3 := Kl_5.out.cell 3 (.int .i64 (d4 + (1 + ad % 100))) rfl
      have fl_4 := Kl_5.out.cell 4 (.int .i64 (d5)) rfl
      have fl_5 := Kl_5.out.cell 5 (.int .i64 (d6)) rfl
      have fl_l := Kl_5.out.lt
      have fl_f := Kl_5.out.f
      have fl_l0_1 : wr.heap.size < w5.heap.size + 1 := by omega
      have fl_l0_2 : wr.heap.size < w5.heap.size + 1 + 1 := by omega
      go_wp2_with (go_at_call 37; refine (HR2.out _ (hL.below (hB5.alloc hB5.size _))).mono ?_; rintro r w6 ⟨rfl, h6⟩; refine Hid.out ?_)
      unfold Hid
      have hB6 := (hB5.alloc hB5.size _).trans (h6.mono (Nat.le_trans hB5.size (by simp; try omega)))
      have oD_6 : w.heap.size < w5.heap.size := KD_5.out.lt
      have ok_6 : w3.heap.size < w5.heap.size := Kk_5.out.lt
      have ol_6 : wr.heap.size < w5.heap.size := Kl_5.out.lt
      have KD_6 := Lib.hid (show Blk w6 (w.heap.size) #[(.int .i64 (d1)), (.int .i64 (d2)), (.int .i64 (d3)), (.int .i64 (d4)), (.int .i64 (d5)), (.int .i64 (d6))] from (KD_5.out.alloc _).below h6)
      have Kk_6 := Lib.hid (show Blk w6 (w3.heap.size) #[(.int .i64 (k1)), (.int .i64 (k2)), (.int .i64 (k3)), (.int .i64 (k4)), (.int .i64 (k5)), (.int .i64 (k6))] from (Kk_5.out.alloc _).below h6)
      have Kl_6 := Lib.hid (show Blk w6 (wr.heap.size) #[(.int .i64 (d1)), (.int .i64 (d2)), (.int .i64 (d3)), (.int .i64 (d4 + (1 + ad % 100))), (.int .i64 (d5)), (.int .i64 (d6))] from (Kl_5.out.alloc _).below h6)
      have Kf_6 := Lib.hid (show Blk w6 (w5.heap.size) #[(.int .i64 (f1)), (.int .i64 (f2))] from (Calm.Blk.new _ _ #[(.int .i64 (f1)), (.int .i64 (f2))]).below h6)
      clear h6 hB5 KD_5 Kk_5 Kl_5 fl_0 fl_1 fl_2 fl_3 fl_4 fl_5 fl_l fl_f fl_l0_1 fl_l0_2
      have ff_0 := Kf_6.out.cell 0 (.int .i64 (f1)) rfl
      have ff_1 := Kf_6.out.cell 1 (.int .i64 (f2)) rfl
      have ff_l := Kf_6.out.lt
      have ff_f := Kf_6.out.f
      have ff_l0_1 : w5.heap.size < w6.heap.size + 1 := by omega
      have ff_l0_2 : w5.heap.size < w6.heap.size + 1 + 1 := by omega
      go_wp2_with (go_at_call 41; refine (HT1.out _).mono ?_; rintro r w7 ⟨rfl, h7⟩; refine Hid.out ?_)
      unfold Hid
      have hB7 := (hB6.alloc hB6.size _).trans (h7.mono (Nat.le_trans hB6.size (by simp; try omega)))
      have oD_7 : w.heap.size < w6.heap.size := KD_6.out.lt
      have ok_7 : w3.heap.size < w6.heap.size := Kk_6.out.lt
      have ol_7 : wr.heap.size < w6.heap.size := Kl_6.out.lt
      have of_7 : w5.heap.size < w6.heap.size := Kf_6.out.lt
      have KD_7 := Lib.hid (show Blk w7 (w.heap.size) #[(.int .i64 (d1)), (.int .i64 (d2)), (.int .i64 (d3)), (.int .i64 (d4)), (.int .i64 (d5)), (.int .i64 (d6))] from (KD_6.out.alloc _).below h7)
      have Kk_7 := Lib.hid (show Blk w7 (w3.heap.size) #[(.int .i64 (k1)), (.int .i64 (k2)), (.int .i64 (k3)), (.int .i64 (k4)), (.int .i64 (k5)), (.int .i64 (k6))] from (Kk_6.out.alloc _).below h7)
      have Kl_7 := Lib.hid (show Blk w7 (wr.heap.size) #[(.int .i64 (d1)), (.int .i64 (d2)), (.int .i64 (d3)), (.int .i64 (d4 + (1 + ad % 100))), (.int .i64 (d5)), (.int .i64 (d6))] from (Kl_6.out.alloc _).below h7)
      have Kf_7 := Lib.hid (show Blk w7 (w5.heap.size) #[(.int .i64 (f1)), (.int .i64 (f2))] from (Kf_6.out.alloc _).below h7)
      have Kg_7 := Lib.hid (show Blk w7 (w6.heap.size) #[(.int .i64 (g1)), (.int .i64 (g2))] from (Calm.Blk.new _ _ #[(.int .i64 (g1)), (.int .i64 (g2))]).below h7)
      clear h7 hB6 KD_6 Kk_6 Kl_6 Kf_6 ff_0 ff_1 ff_l ff_f ff_l0_1 ff_l0_2
      have ff_0 := Kf_7.out.cell 0 (.int .i64 (f1)) rfl
      have ff_1 := Kf_7.out.cell 1 (.int .i64 (f2)) rfl
      have ff_l := Kf_7.out.lt
      have ff_f := Kf_7.out.f
      have ff_l0_1 : w5.heap.size < w7.heap.size + 1 := by omega
      have ff_l0_2 : w5.heap.size < w7.heap.size + 1 + 1 := by omega
      have fg_0 := Kg_7.out.cell 0 (.int .i64 (g1)) rfl
      have fg_1 := Kg_7.out.cell 1 (.int .i64 (g2)) rfl
      have fg_l := Kg_7.out.lt
      have fg_f := Kg_7.out.f
      have fg_l0_1 : w6.heap.size < w7.heap.size + 1 := by omega
      have fg_l0_2 : w6.heap.size < w7.heap.size + 1 + 1 := by omega
      go_wp2_with (go_at_call 41; refine (HT2.out _).mono ?_; rintro r w8 ⟨rfl, h8⟩; refine Hid.out ?_)
      unfold Hid
      have hB8 := hB7.trans (h8.mono hB7.size)
      have KD_8 := Lib.hid (show Blk w8 (w.heap.size) #[(.int .i64 (d1)), (.int .i64 (d2)), (.int .i64 (d3)), (.int .i64 (d4)), (.int .i64 (d5)), (.int .i64 (d6))] from KD_7.out.below h8)
      have Kk_8 := Lib.hid (show Blk w8 (w3.heap.size) #[(.int .i64 (k1)), (.int .i64 (k2)), (.int .i64 (k3)), (.int .i64 (k4)), (.int .i64 (k5)), (.int .i64 (k6))] from Kk_7.out.below h8)
      have Kl_8 := Lib.hid (show Blk w8 (wr.heap.size) #[(.int .i64 (d1)), (.int .i64 (d2)), (.int .i64 (d3)), (.int .i64 (d4 + (1 + ad % 100))), (.int .i64 (d5)), (.int .i64 (d6))] from Kl_7.out.below h8)
      have Kf_8 := Lib.hid (show Blk w8 (w5.heap.size) #[(.int .i64 (f1)), (.int .i64 (f2))] from Kf_7.out.below h8)
      have Kg_8 := Lib.hid (show Blk w8 (w6.heap.size) #[(.int .i64 (g1)), (.int .i64 (g2))] from Kg_7.out.below h8)
      clear h8 hB7 KD_7 Kk_7 Kl_7 Kf_7 Kg_7 ff_0 ff_1 ff_l ff_f ff_l0_1 ff_l0_2 fg_0 fg_1 fg_l fg_f fg_l0_1 fg_l0_2
      have ff_0 := Kf_8.out.cell 0 (.int .i64 (f1)) rfl
      have ff_1 := Kf_8.out.cell 1 (.int .i64 (f2)) rfl
      have ff_l := Kf_8.out.lt
      have ff_f := Kf_8.out.f
      have ff_l0_1 : w5.heap.size < w8.heap.size + 1 := by omega
      have ff_l0_2 : w5.heap.size < w8.heap.size + 1 + 1 := by omega
      have fg_0 := Kg_8.out.cell 0 (.int .i64 (g1)) rfl
      have fg_1 := Kg_8.out.cell 1 (.int .i64 (g2)) rfl
      have fg_l := Kg_8.out.lt
      have fg_f := Kg_8.out.f
      have fg_l0_1 : w6.heap.size < w8.heap.size + 1 := by omega
      have fg_l0_2 : w6.heap.size < w8.heap.size + 1 + 1 := by omega
      go_wp2_with (go_at_call 39; refine (HW.out _).mono ?_; rintro r w9 ⟨rfl, h9⟩; refine Hid.out ?_)
      unfold Hid
      have hB9 := hB8.trans (h9.mono hB8.size)
      have KD_9 := Lib.hid (show Blk w9 (w.heap.size) #[(.int .i64 (d1)), (.int .i64 (d2)), (.int .i64 (d3)), (.int .i64 (d4)), (.int .i64 (d5)), (.int .i64 (d6))] from KD_8.out.below h9)
      have Kk_9 := Lib.hid (show Blk w9 (w3.heap.size) #[(.int .i64 (k1)), (.int .i64 (k2)), (.int .i64 (k3)), (.int .i64 (k4)), (.int .i64 (k5)), (.int .i64 (k6))] from Kk_8.out.below h9)
      have Kl_9 := Lib.hid (show Blk w9 (wr.heap.size) #[(.int .i64 (d1)), (.int .i64 (d2)), (.int .i64 (d3)), (.int .i64 (d4 + (1 + ad % 100))), (.int .i64 (d5)), (.int .i64 (d6))] from Kl_8.out.below h9)
      have Kf_9 := Lib.hid (show Blk w9 (w5.heap.size) #[(.int .i64 (f1)), (.int .i64 (f2))] from Kf_8.out.below h9)
      have Kg_9 := Lib.hid (show Blk w9 (w6.heap.size) #[(.int .i64 (g1)), (.int .i64 (g2))] from Kg_8.out.below h9)
      clear h9 hB8 KD_8 Kk_8 Kl_8 Kf_8 Kg_8 ff_0 ff_1 ff_l ff_f ff_l0_1 ff_l0_2 fg_0 fg_1 fg_l fg_f fg_l0_1 fg_l0_2
      have fD_0 := KD_9.out.cell 0 (.int .i64 (d1)) rfl
      have fD_1 := KD_9.out.cell 1 (.int .i64 (d2)) rfl
      have fD_2 := KD_9.out.cell 2 (.int .i64 (d3)) rfl
      have fD_3 := KD_9.out.cell 3 (.int .i64 (d4)) rfl
      have fD_4 := KD_9.out.cell 4 (.int .i64 (d5)) rfl
      have fD_5 := KD_9.out.cell 5 (.int .i64 (d6)) rfl
      have fD_l := KD_9.out.lt
      have fD_f := KD_9.out.f
      have fD_l0_1 : w.heap.size < w9.heap.size + 1 := by omega
      have fD_l0_2 : w.heap.size < w9.heap.size + 1 + 1 := by omega
      have fD_l0_3 : w.heap.size < w9.heap.size + 1 + 1 + 1 := by omega
      go_wp2
      go_ret
      exact ⟨by first | rfl | (simp; done), ((hB9.alloc hB9.size _).alloc (Nat.le_trans hB9.size (by simp; try omega)) _)⟩
end Go.Proofs.YtpkldjlljoledaaDoor

/- The walk of DriverWeighs, one of six cases. -/
namespace Go.Proofs.YtpkldjlljoledaaDoor
open Go.RowKit
open Calm (bcell Blk)
set_option maxRecDepth 100000 in
set_option maxHeartbeats 16000000 in
theorem wei_21 (d1 d2 d3 d4 d5 d6 ad k1 k2 k3 k4 k5 k6 : Int) (w : World) (hL : Lim w)
    (HCD : Hid (∀ W : World, Calls Tryd.prog 17 #[.agg #[(.int .i64 (d1)), (.int .i64 (d2)), (.int .i64 (d3)), (.int .i64 (d4)), (.int .i64 (d5)), (.int .i64 (d6))]] W fun r w' => r = .returned ((.int .i64 (0))) ∧ Below W.heap.size W w'))
    (HQ : Hid (∀ W : World, Lim W → Calls Tryd.prog 38 #[.agg #[(.int .i64 (d1)), (.int .i64 (d2)), (.int .i64 (d3)), (.int .i64 (d4)), (.int .i64 (d5)), (.int .i64 (d6))]] W fun r w' => r = .returned (.tuple #[.agg #[(.int .i64 (k1)), (.int .i64 (k2)), (.int .i64 (k3)), (.int .i64 (k4)), (.int .i64 (k5)), (.int .i64 (k6))], (.int .i64 (0))]) ∧ Below W.heap.size W w'))
    (ha : 0 ≤ ad ∧ ad ≤ 255)
    (q1 : 1 ≤ d1 ∧ d1 ≤ 50)
    (q3 : 1 ≤ d3 ∧ d3 ≤ 20)
    (q4 : 1 ≤ d4 ∧ d4 ≤ 100)
    (b1 : 1 ≤ k1 ∧ k1 ≤ 2147483648)
    (b2 : 1 ≤ k2 ∧ k2 ≤ 2147483648)
    (b3 : 1 ≤ k3 ∧ k3 ≤ 2147483648)
    (b4 : 1 ≤ k4 ∧ k4 ≤ 2147483648)
    (b5 : 1 ≤ k5 ∧ k5 ≤ 2147483648)
    (b6 : 1 ≤ k6 ∧ k6 ≤ 2147483648)
    (p1 : 0 ≤ k5 * k2 ∧ k5 * k2 ≤ k1 * k6 ∧ k1 * k6 ≤ 1000000000000000000)
    (p2 : 0 ≤ k5 * k4 ∧ k5 * k4 ≤ k3 * k6 ∧ k3 * k6 ≤ 1000000000000000000)
    (hX : 4 * d1 ≤ 50 ∧ 20 < 2 * d3)
    (hY : 100 < d4 + (1 + ad % 100))
    : Calls Tryd.prog 8 #[.agg #[(.int .i64 (d1)), (.int .i64 (d2)), (.int .i64 (d3)), (.int .i64 (d4)), (.int .i64 (d5)), (.int .i64 (d6))], .int .u8 ad] w fun r w' => r = .returned (.bool true) ∧ Below w.heap.size w w' := by
  have hB0 := Below.refl w.heap.size w
  go_enter Tryd.func8, Tryd.ntmps8
  go_wp2_with (go_at_call 11; refine (awake_any _ (hL.below (hB0.alloc hB0.size _))).mono ?_; rintro r w1 ⟨rfl, h1⟩; refine Hid.out ?_)
  unfold Hid
  have hB1 := (hB0.alloc hB0.size _).trans (h1.mono (Nat.le_trans hB0.size (by simp; try omega)))
  have KD_1 := Lib.hid (show Blk w1 (w.heap.size) #[(.int .i64 (d1)), (.int .i64 (d2)), (.int .i64 (d3)), (.int .i64 (d4)), (.int .i64 (d5)), (.int .i64 (d6))] from (Calm.Blk.new _ _ #[(.int .i64 (d1)), (.int .i64 (d2)), (.int .i64 (d3)), (.int .i64 (d4)), (.int .i64 (d5)), (.int .i64 (d6))]).below h1)
  clear h1 hB0
  have fD_0 := KD_1.out.cell 0 (.int .i64 (d1)) rfl
  have fD_1 := KD_1.out.cell 1 (.int .i64 (d2)) rfl
  have fD_2 := KD_1.out.cell 2 (.int .i64 (d3)) rfl
  have fD_3 := KD_1.out.cell 3 (.int .i64 (d4)) rfl
  have fD_4 := KD_1.out.cell 4 (.int .i64 (d5)) rfl
  have fD_5 := KD_1.out.cell 5 (.int .i64 (d6)) rfl
  have fD_l := KD_1.out.lt
  have fD_f := KD_1.out.f
  have fD_l0_1 : w.heap.size < w1.heap.size + 1 := by omega
  have fD_l0_2 : w.heap.size < w1.heap.size + 1 + 1 := by omega
  go_wp2_with (go_at_call 17; refine (HCD.out _).mono ?_; rintro r w2 ⟨rfl, h2⟩; refine Hid.out ?_)
  unfold Hid
  have hB2 := hB1.trans (h2.mono hB1.size)
  have KD_2 := Lib.hid (show Blk w2 (w.heap.size) #[(.int .i64 (d1)), (.int .i64 (d2)), (.int .i64 (d3)), (.int .i64 (d4)), (.int .i64 (d5)), (.int .i64 (d6))] from KD_1.out.below h2)
  clear h2 hB1 KD_1 fD_0 fD_1 fD_2 fD_3 fD_4 fD_5 fD_l fD_f fD_l0_1 fD_l0_2
  have fD_0 := KD_2.out.cell 0 (.int .i64 (d1)) rfl
  have fD_1 := KD_2.out.cell 1 (.int .i64 (d2)) rfl
  have fD_2 := KD_2.out.cell 2 (.int .i64 (d3)) rfl
  have fD_3 := KD_2.out.cell 3 (.int .i64 (d4)) rfl
  have fD_4 := KD_2.out.cell 4 (.int .i64 (d5)) rfl
  have fD_5 := KD_2.out.cell 5 (.int .i64 (d6)) rfl
  have fD_l := KD_2.out.lt
  have fD_f := KD_2.out.f
  have fD_l0_1 : w.heap.size < w2.heap.size + 1 := by omega
  have fD_l0_2 : w.heap.size < w2.heap.size + 1 + 1 := by omega
  go_wp2_with (go_at_call 38; refine (HQ.out _ (hL.below hB2)).mono ?_; rintro r w3 ⟨rfl, h3⟩; refine Hid.out ?_)
  unfold Hid
  have hB3 := hB2.trans (h3.mono hB2.size)
  have KD_3 := Lib.hid (show Blk w3 (w.heap.size) #[(.int .i64 (d1)), (.int .i64 (d2)), (.int .i64 (d3)), (.int .i64 (d4)), (.int .i64 (d5)), (.int .i64 (d6))] from KD_2.out.below h3)
  clear h3 hB2 KD_2 fD_0 fD_1 fD_2 fD_3 fD_4 fD_5 fD_l fD_f fD_l0_1 fD_l0_2
  go_wp2
  refine name_world ?_
  intro w4 e4
  have hB4 : Below w.heap.size w w4 := e4.symm ▸ (hB3.alloc hB3.size _)
  have oD_4 : w.heap.size < w3.heap.size := KD_3.out.lt
  have KD_4 := Lib.hid (show Blk w4 (w.heap.size) #[(.int .i64 (d1)), (.int .i64 (d2)), (.int .i64 (d3)), (.int .i64 (d4)), (.int .i64 (d5)), (.int .i64 (d6))] from e4.symm ▸ (KD_3.out.alloc _))
  have Kk_4 := Lib.hid (show Blk w4 (w3.heap.size) #[(.int .i64 (k1)), (.int .i64 (k2)), (.int .i64 (k3)), (.int .i64 (k4)), (.int .i64 (k5)), (.int .i64 (k6))] from e4.symm ▸ (Calm.Blk.new _ _ #[(.int .i64 (k1)), (.int .i64 (k2)), (.int .i64 (k3)), (.int .i64 (k4)), (.int .i64 (k5)), (.int .i64 (k6))]))
  have z4 : w3.heap.size + 1 ≤ w4.heap.size := by rw [e4]; simp
  clear e4 hB3 KD_3
  go_loopw [41] (fun i wr => ∃ k : Int, 0 ≤ k ∧ k ≤ 3 ∧ i = (.int .i64 (k)) ∧ Blk wr (w.heap.size) #[(.int .i64 (d1)), (.int .i64 (d2)), (.int .i64 (d3)), (.int .i64 (d4)), (.int .i64 (d5)), (.int .i64 (d6))] ∧ Blk wr (w3.heap.size) #[(.int .i64 (k1)), (.int .i64 (k2)), (.int .i64 (k3)), (.int .i64 (k4)), (.int .i64 (k5)), (.int .i64 (k6))] ∧ Below w.heap.size w wr) (fun i _ => 3 - (intOf i).toNat)
  case atStart => exact ⟨0, by omega, by omega, rfl, KD_4.out, Kk_4.out, hB4⟩
  case round =>
    clear KD_4 Kk_4 hB4
    obtain ⟨k, hk0, hk, rfl, hD, hK, hB⟩ := hrel
    have HD := Lib.hid hD
    have HK := Lib.hid hK
    clear hD hK
    have hkk : k = 0 ∨ k = 1 ∨ k = 2 ∨ k = 3 := by omega
    rcases hkk with rfl | rfl | rfl | rfl
    · have ix := wix0 k1 k2 k3 k4 k5 k6
      go_wp2
      go_roundw
      case rel => exact ⟨1, by omega, by omega, rfl, HD.out.alloc _, HK.out.alloc _, hB.alloc hB.size _⟩
      case measure => simp [intOf]
    · have ix := wix1 k1 k2 k3 k4 k5 k6
      go_wp2
      go_roundw
      case rel => exact ⟨2, by omega, by omega, rfl, HD.out.alloc _, HK.out.alloc _, hB.alloc hB.size _⟩
      case measure => simp [intOf]
    · have ix := wix2 k1 k2 k3 k4 k5 k6
      go_wp2
      go_roundw
      case rel => exact ⟨3, by omega, by omega, rfl, HD.out.alloc _, HK.out.alloc _, hB.alloc hB.size _⟩
      case measure => simp [intOf]
    · have hB9 := hB
      clear hB
      have fD_0 := HD.out.cell 0 (.int .i64 (d1)) rfl
      have fD_1 := HD.out.cell 1 (.int .i64 (d2)) rfl
      have fD_2 := HD.out.cell 2 (.int .i64 (d3)) rfl
      have fD_3 := HD.out.cell 3 (.int .i64 (d4)) rfl
      have fD_4 := HD.out.cell 4 (.int .i64 (d5)) rfl
      have fD_5 := HD.out.cell 5 (.int .i64 (d6)) rfl
      have fD_l := HD.out.lt
      have fD_f := HD.out.f
      have fD_l0_1 : w.heap.size < wr.heap.size + 1 := by omega
      have fD_l0_2 : w.heap.size < wr.heap.size + 1 + 1 := by omega
      have fD_l0_3 : w.heap.size < wr.heap.size + 1 + 1 + 1 := by omega
      have fk_0 := HK.out.cell 0 (.int .i64 (k1)) rfl
      have fk_1 := HK.out.cell 1 (.int .i64 (k2)) rfl
      have fk_2 := HK.out.cell 2 (.int .i64 (k3)) rfl
      have fk_3 := HK.out.cell 3 (.int .i64 (k4)) rfl
      have fk_4 := HK.out.cell 4 (.int .i64 (k5)) rfl
      have fk_5 := HK.out.cell 5 (.int .i64 (k6)) rfl
      have fk_l := HK.out.lt
      have fk_f := HK.out.f
      have fk_l0_1 : w3.heap.size < wr.heap.size + 1 := by omega
      have fk_l0_2 : w3.heap.size < wr.heap.size + 1 + 1 := by omega
      have fk_l0_3 : w3.heap.size < wr.heap.size + 1 + 1 + 1 := by omega
      go_wp2
      go_ret
      exact ⟨by first | rfl | (simp; done), hB9⟩
end Go.Proofs.YtpkldjlljoledaaDoor

/- DriverWeighs answers yes, whatever its arguments. -/
namespace Go.Proofs.YtpkldjlljoledaaDoor
open Go.RowKit
open Calm (bcell Blk)

set_option maxRecDepth 100000 in
set_option maxHeartbeats 4000000 in
theorem wei_bad (d1 d2 d3 d4 d5 d6 ad : Int) (w : World) (hL : Lim w) (h : ¬ drvErr d1 d2 d3 d4 d5 d6 = 0) :
    Calls Tryd.prog 8 #[.agg #[(.int .i64 (d1)), (.int .i64 (d2)), (.int .i64 (d3)), (.int .i64 (d4)), (.int .i64 (d5)), (.int .i64 (d6))], .int .u8 ad] w fun r w' => r = .returned (.bool true) ∧ Below w.heap.size w w' := by
  obtain ⟨e, he⟩ : ∃ e, e = drvErr d1 d2 d3 d4 d5 d6 := ⟨_, rfl⟩
  have HCD : Hid (∀ W : World, Calls Tryd.prog 17 #[.agg #[(.int .i64 (d1)), (.int .i64 (d2)), (.int .i64 (d3)), (.int .i64 (d4)), (.int .i64 (d5)), (.int .i64 (d6))]] W fun r w' => r = .returned (.int .i64 (e)) ∧ Below W.heap.size W w') := by
    rw [he]; exact fun W => refCheckDriver_any d1 d2 d3 d4 d5 d6 W
  rw [← he] at h
  clear he
  go_enter Tryd.func8, Tryd.ntmps8
  go_wp2_with (go_at_call 11; refine (awake_any _ (hL.below (by (repeat (first | (with_reducible exact Below.refl _ _) | ((with_reducible refine Below.setCell ?_ ?_ _); rotate_left 1; focus (first | (simp; done) | (simp; omega) | (simp at *; omega))) | ((with_reducible refine Below.alloc ?_ ?_ _); rotate_left 1; focus (first | (simp; done) | (simp; omega) | (simp at *; omega))) | (with_reducible refine Below.drew ?_) | ((with_reducible refine Calm.step (by assumption) ?_ ?_); rotate_left 1; focus (first | (simp; done) | (simp; omega) | (simp at *; omega)))))))).mono ?_; rintro r w1 ⟨rfl, h1⟩; refine Hid.out ?_)
  unfold Hid
  have B1 : Below w.heap.size w w1 := ((Below.refl _ _).alloc (Nat.le_refl _) _).trans (h1.mono (by simp))
  have K1 := Lib.hid ((Calm.Blk.new w _ #[(.int .i64 (d1)), (.int .i64 (d2)), (.int .i64 (d3)), (.int .i64 (d4)), (.int .i64 (d5)), (.int .i64 (d6))]).below h1)
  clear h1
  have f0 := K1.out.cell 0 (.int .i64 (d1)) rfl
  have f1 := K1.out.cell 1 (.int .i64 (d2)) rfl
  have f2 := K1.out.cell 2 (.int .i64 (d3)) rfl
  have f3 := K1.out.cell 3 (.int .i64 (d4)) rfl
  have f4 := K1.out.cell 4 (.int .i64 (d5)) rfl
  have f5 := K1.out.cell 5 (.int .i64 (d6)) rfl
  have fl := K1.out.lt
  go_wp2_with (go_at_call 17; refine (HCD.out _).mono ?_; rintro r w2 ⟨rfl, h2⟩; refine Hid.out ?_)
  unfold Hid
  have B2 := B1.trans (h2.mono B1.size)
  clear h2 f0 f1 f2 f3 f4 f5 fl K1
  go_wp2_with (go_at_call 11; refine (awake_any _ (hL.below B2)).mono ?_; rintro r w3 ⟨rfl, h3⟩)
  go_ret
  exact ⟨by first | rfl | (simp; done), B2.trans (h3.mono B2.size)⟩

theorem DriverWeighs_any (d1 d2 d3 d4 d5 d6 ad : Int) (w : World) (ha : 0 ≤ ad ∧ ad ≤ 255) (hL : Lim w) :
    Calls Tryd.prog 8 #[.agg #[(.int .i64 (d1)), (.int .i64 (d2)), (.int .i64 (d3)), (.int .i64 (d4)), (.int .i64 (d5)), (.int .i64 (d6))], .int .u8 ad] w fun r w' => r = .returned (.bool true) ∧ Below w.heap.size w w' := by
  by_cases h : drvErr d1 d2 d3 d4 d5 d6 = 0
  · obtain ⟨a1, a2, a3, a4, a5, a6⟩ := drvErr_zero h
    obtain ⟨⟨x1, x2⟩, ⟨y1, y2⟩, ⟨z1, z2⟩, ⟨u1, u2⟩, ⟨v1, v2⟩⟩ := qual_bd a1 a3 a4 a5 a6
    have HCD : ∀ W : World, Calls Tryd.prog 17 #[.agg #[(.int .i64 (d1)), (.int .i64 (d2)), (.int .i64 (d3)), (.int .i64 (d4)), (.int .i64 (d5)), (.int .i64 (d6))]] W fun r w' => r = .returned (.int .i64 (0)) ∧ Below W.heap.size W w' := fun W => by
      have := refCheckDriver_any d1 d2 d3 d4 d5 d6 W
      rwa [h] at this
    have HQ := fun (W : World) (hW : Lim W) => quality_ok d1 d2 d3 d4 d5 d6 W hW h
    obtain ⟨⟨b11, b12⟩, ⟨b21, b22⟩⟩ := low_le x1 y1
    obtain ⟨⟨b31, b32⟩, ⟨b41, b42⟩⟩ := low_le z1 u1
    obtain ⟨⟨b51, b52⟩, ⟨b61, b62⟩⟩ := low_le z1 v1
    obtain ⟨c1, c2⟩ := qual_cross a1 a3 a4 a5 a6
    have HQO : 4 * d1 ≤ 50 ∧ 2 * d3 ≤ 20 → ∀ (W : World), Lim W → Calls Tryd.prog 38 #[.agg #[(.int .i64 (4 * d1)), (.int .i64 (d2)), (.int .i64 (2 * d3)), (.int .i64 (d4)), (.int .i64 (d5)), (.int .i64 (d6))]] W fun r w' => r = .returned (.tuple #[.agg #[(.int .i64 (lowN (d5 * d4) (d6 * d6))), (.int .i64 (lowD (d5 * d4) (d6 * d6))), (.int .i64 (lowN (d5 * d4 * d1 * d1) (d3 * d3 * (d3 * d3)))), (.int .i64 (lowD (d5 * d4 * d1 * d1) (d3 * d3 * (d3 * d3)))),
        (.int .i64 (lowN (d5 * d4 * (4 * d1) * (4 * d1)) ((d6 * (4 * d1) + 2 * d3 * (2 * d3)) * (d6 * (4 * d1) + 2 * d3 * (2 * d3))))), (.int .i64 (lowD (d5 * d4 * (4 * d1) * (4 * d1)) ((d6 * (4 * d1) + 2 * d3 * (2 * d3)) * (d6 * (4 * d1) + 2 * d3 * (2 * d3)))))], (.int .i64 (0))]) ∧ Below W.heap.size W w' := fun hX W hW => by
      have := quality_ok (4 * d1) d2 (2 * d3) d4 d5 d6 W hW (drvErr_of (by omega))
      obtain ⟨o1, o2⟩ := qual_other a1 a3 a4 a5
      rwa [o1, o2] at this
    have HR1 := fun (W : World) (hW : Lim W) => resonance_ok d1 d2 d3 d4 d5 d6 W hW h
    have HT1 : ∀ W : World, Calls Tryd.prog 41 #[.agg #[(.int .i64 (lowN d5 d4)), (.int .i64 (lowD d5 d4))]] W fun r w' => r = .returned (.int .i64 (0)) ∧ Below W.heap.size W w' := fun W => by
      have := refCheckTerm_any (lowN d5 d4) (lowD d5 d4) W
      rwa [low_term (by omega) (by omega) (by omega) (by omega)] at this
    generalize lowN (d5 * d4) (d6 * d6) = k1 at *
    generalize lowD (d5 * d4) (d6 * d6) = k2 at *
    generalize lowN (d5 * d4 * d1 * d1) (d3 * d3 * (d3 * d3)) = k3 at *
    generalize lowD (d5 * d4 * d1 * d1) (d3 * d3 * (d3 * d3)) = k4 at *
    generalize lowN (d5 * d4 * d1 * d1) ((d6 * d1 + d3 * d3) * (d6 * d1 + d3 * d3)) = k5 at *
    generalize lowD (d5 * d4 * d1 * d1) ((d6 * d1 + d3 * d3) * (d6 * d1 + d3 * d3)) = k6 at *
    have q1 : 1 ≤ k1 ∧ k1 ≤ 2147483648 := by omega
    have q2 : 1 ≤ k2 ∧ k2 ≤ 2147483648 := by omega
    have q3 : 1 ≤ k3 ∧ k3 ≤ 2147483648 := by omega
    have q4 : 1 ≤ k4 ∧ k4 ≤ 2147483648 := by omega
    have q5 : 1 ≤ k5 ∧ k5 ≤ 2147483648 := by omega
    have q6 : 1 ≤ k6 ∧ k6 ≤ 2147483648 := by omega
    have p1 : 0 ≤ k5 * k2 ∧ k5 * k2 ≤ k1 * k6 ∧ k1 * k6 ≤ 1000000000000000000 := by
      have := rng_mul q5 q2
      have := rng_mul (a := k1) (A := 500000) (b := k6) (B := 29160000) (by omega) (by omega)
      omega
    have p2 : 0 ≤ k5 * k4 ∧ k5 * k4 ≤ k3 * k6 ∧ k3 * k6 ≤ 1000000000000000000 := by
      have := rng_mul q5 q4
      have := rng_mul (a := k3) (A := 1250000000) (b := k6) (B := 29160000) (by omega) (by omega)
      omega
    by_cases hY : 100 < d4 + (1 + ad % 100)
    · by_cases hX : 4 * d1 ≤ 50 ∧ 2 * d3 ≤ 20
      · exact wei_01 d1 d2 d3 d4 d5 d6 ad k1 k2 k3 k4 k5 k6 _ _ w hL (Lib.hid HCD) (Lib.hid HQ) (Lib.hid (HQO hX)) ha a1 a3 a4 q1 q2 q3 q4 q5 q6 p1 p2 hX hY
      · by_cases hZ : 50 < 4 * d1
        · exact wei_11 d1 d2 d3 d4 d5 d6 ad k1 k2 k3 k4 k5 k6 w hL (Lib.hid HCD) (Lib.hid HQ) ha a1 a3 a4 q1 q2 q3 q4 q5 q6 p1 p2 hZ hY
        · exact wei_21 d1 d2 d3 d4 d5 d6 ad k1 k2 k3 k4 k5 k6 w hL (Lib.hid HCD) (Lib.hid HQ) ha a1 a3 a4 q1 q2 q3 q4 q5 q6 p1 p2 (by omega) hY
    · have hY' : d4 + (1 + ad % 100) ≤ 100 := by omega
      have hm : 1 ≤ 1 + ad % 100 := by omega
      have HR2 := fun (W : World) (hW : Lim W) => resonance_ok d1 d2 d3 (d4 + (1 + ad % 100)) d5 d6 W hW (drvErr_of (by omega))
      have HT2 : ∀ W : World, Calls Tryd.prog 41 #[.agg #[(.int .i64 (lowN d5 (d4 + (1 + ad % 100)))), (.int .i64 (lowD d5 (d4 + (1 + ad % 100))))]] W fun r w' => r = .returned (.int .i64 (0)) ∧ Below W.heap.size W w' := fun W => by
        have := refCheckTerm_any (lowN d5 (d4 + (1 + ad % 100))) (lowD d5 (d4 + (1 + ad % 100))) W
        rwa [low_term (by omega) (by omega) (by omega) (by omega)] at this
      obtain ⟨hw, ho, ⟨r1, r2⟩, ⟨r3, r4⟩⟩ := weigh_back a5 a4.1 hm hY'
      have HW : ∀ W : World, Calls Tryd.prog 39 #[.agg #[(.int .i64 (lowN d5 d4)), (.int .i64 (lowD d5 d4))], .agg #[(.int .i64 (lowN d5 (d4 + (1 + ad % 100)))), (.int .i64 (lowD d5 (d4 + (1 + ad % 100))))], (.int .i64 (1 + ad % 100))] W fun r w' => r = .returned (.tuple #[.agg #[(.int .i64 (d4)), (.int .i64 (1))], .agg #[(.int .i64 (d5)), (.int .i64 (1))], (.int .i64 (0))]) ∧ Below W.heap.size W w' := fun W => by
        have := weighed_ok _ _ _ _ _ W hw ho
        rwa [r1, r2, r3, r4] at this
      by_cases hX : 4 * d1 ≤ 50 ∧ 2 * d3 ≤ 20
      · exact wei_00 d1 d2 d3 d4 d5 d6 ad k1 k2 k3 k4 k5 k6 _ _ _ _ _ _ w hL (Lib.hid HCD) (Lib.hid HQ) (Lib.hid (HQO hX)) (Lib.hid HR1) (Lib.hid HR2) (Lib.hid HT1) (Lib.hid HT2) (Lib.hid HW) ha a1 a3 a4 q1 q2 q3 q4 q5 q6 p1 p2 hX hY'
      · by_cases hZ : 50 < 4 * d1
        · exact wei_10 d1 d2 d3 d4 d5 d6 ad k1 k2 k3 k4 k5 k6 _ _ _ _ w hL (Lib.hid HCD) (Lib.hid HQ) (Lib.hid HR1) (Lib.hid HR2) (Lib.hid HT1) (Lib.hid HT2) (Lib.hid HW) ha a1 a3 a4 q1 q2 q3 q4 q5 q6 p1 p2 hZ hY'
        · exact wei_20 d1 d2 d3 d4 d5 d6 ad k1 k2 k3 k4 k5 k6 _ _ _ _ w hL (Lib.hid HCD) (Lib.hid HQ) (Lib.hid HR1) (Lib.hid HR2) (Lib.hid HT1) (Lib.hid HT2) (Lib.hid HW) ha a1 a3 a4 q1 q2 q3 q4 q5 q6 p1 p2 (by omega) hY'
  · exact wei_bad d1 d2 d3 d4 d5 d6 ad w hL h
end Go.Proofs.YtpkldjlljoledaaDoor

/- DriverWeighs: the row and its card. -/
namespace Go.Proofs.YtpkldjlljoledaaDoor.driverWeighs
open Go.ChangeShapes Go.WideShapes Go.ChangeAt Go.RowKit Go.Flat
open Calm (bcell)

set_option maxRecDepth 100000 in
theorem contract (H : Type) (enc : TypeId × Value → H) (W : World) (base : Nat) (args : Array Value) (ds gs : List (DataW H)) (before : List MemPlace)
    (hval : ∀ (j : Nat) t v, Tryd.f8.params[j]? = some t → args[j]? = some v → Value.okWide Tryd.prog W .any base t v)
    (hW : DataW.Whole enc Tryd.prog Tryd.f8.params.toList Rows.driverWeighsSpec.vars false W args.toList ds gs before) (hL : laidMetH Tryd.prog laidList W) :
    Calls Tryd.prog 8 args W fun e W' => ∃ v, e = .returned v ∧ Rows.driverWeighsSpec.post enc Tryd.prog Tryd.f8 false true false false W args v W' := by
  have hW' := hW
  have hlt : ∀ p ∈ before, p.block < W.heap.size := fun p hp => hW.lt p hp
  obtain ⟨p, q, hA0, hV, rfl, hfz, hnd⟩ := hW
  have hA : DataW.TrodAll enc Tryd.prog W 0 (fun _ => true) true Tryd.f8.params.toList args.toList ds p := hA0
  rw [Tryd.params8] at hA hval
  obtain ⟨v0, v1, d0, d1, p0, p1, rfl, rfl, rfl, h0, h1⟩ := trodAll_two hA
  obtain ⟨rfl, rfl⟩ := trodVars_none hV
  obtain ⟨z0, hz0, rfl, rfl⟩ := open_ints 3 Tryd.underlying23 (by kernel_rfl) (hval 0 _ _ rfl rfl) h0
  rw [show Tryd.prog.cellsOf 23 = 6 by kernel_rfl] at hz0
  obtain ⟨ad, rfl, rfl, rfl, wfad⟩ := open_int Tryd.underlying5 (hval 1 _ _ rfl rfl) h1
  match z0, hz0 with
  | [d1, d2, d3, d4, d5, d6], _ =>
  refine (DriverWeighs_any d1 d2 d3 d4 d5 d6 ad W (bounds_u8 wfad) (lim_of_laid hL)).mono fun e W' ⟨he, hb⟩ => ?_
  subst he
  refine ⟨_, rfl, post_of_below (pa := [] ++ []) (pv := []) hW' (fun _ _ _ => trodAll_cons_mk (shut_bool Tryd.underlying4 _) trodAll_mk0) (fun sp hs => ?_) (fun _ _ => rfl) rfl hb (ok_one (by kernel_rfl) rfl (okWide_bool_mk Tryd.underlying4 _))⟩
  exact trodAll_below laidOut hb (by rw [Tryd.params8]; exact of_decide_eq_true (by kernel_rfl)) hA0 (fun x hx => hlt x (List.mem_append_left _ hx)) (fun x hx => hs x (List.mem_append_left _ hx))

/-- the witness: nothing but zeros. -/
noncomputable def wit : Array Value := #[.agg #[(.int .i64 (0)), (.int .i64 (0)), (.int .i64 (0)), (.int .i64 (0)), (.int .i64 (0)), (.int .i64 (0))], (.int .u8 0)]
theorem reads (os : Os) {H : Type} (enc : TypeId × Value → H) : ∃ ds places, DataW.whole enc Tryd.prog ((World.doorLaid Tryd.prog 35 os).forCall (fun _ _ => 0) ⟨#[], wit, []⟩).memory Tryd.f8.params.toList Rows.driverWeighsSpec.vars false wit.toList 8 = some (ds, [], places) :=
  ⟨[.agg (List.replicate 6 (.lit (.int .i64 0))), .lit (.int .u8 0)], [], by kernel_rfl⟩

set_option maxRecDepth 100000 in
theorem lifted (os : Os) (started : os.Started) (H : Type) (enc : TypeId × Value → H) (F : Stop.Interp) :
    ReturnsInHanded {} Tryd.checked os 8 .any ((OpenSpec.ofChange Rows.driverWeighsSpec).preRow enc Tryd.prog Tryd.f8 Rows.driverWeighsRow.domain false Rows.driverWeighsRow.laid) (((OpenSpec.ofChange Rows.driverWeighsSpec).at F).post enc Tryd.prog Tryd.f8 false true false false) := by
  obtain ⟨ds, places, hx⟩ := reads os enc
  refine returnsInHanded_of_row (C := Tryd.checked) (s := OpenSpec.ofChange Rows.driverWeighsSpec) own started (by kernel_rfl) Tryd.func8
    (witness_row_at (enc := enc) (C := Tryd.checked) false (World.doorLaid Tryd.prog 35 os) wit rfl (door_vars os _) (door_rest os _) (by kernel_rfl)
      (OpenSpec.preRow_of_cond 8 hx (by kernel_rfl) (fun k hk => by cases hk) (by kernel_rfl) (laid_met os _))) ?_
  intro W base args ds gs before hval hW _ _ _ hL _ _
  exact contract H enc W base args ds gs before hval hW hL

theorem said : Rows.DriverWeighsSaid :=
  OpenClaim.holds_of_cond 8 Tryd.f8 rfl rfl rfl rfl rfl rfl rfl ⟨rfl, rfl, rfl, rfl, rfl⟩ rfl rfl rfl rfl rfl (by kernel_rfl) Tryd.func8 (by kernel_rfl)
    (of_decide_eq_true (by kernel_rfl)) (by unfold Func.isWrapper; first | (rw [if_pos (by decide +kernel)]; kernel_rfl) | (rw [if_neg (by decide +kernel)]; exact ⟨rfl, rfl⟩))
    (fun os started H enc _ F => by rw [OpenClaim.pre_eq_preRow]; exact lifted os started H enc F)

theorem plain (f : FuncId) (fn : Func) (hf : Tryd.pinned.checked.prog.funcNamed "woofer/wooferlaw03.DriverWeighs" = some f) (hfn : Tryd.pinned.checked.prog.funcs[f]? = some fn) :
    false = Tryd.pinned.checked.prog.looks [] ∧ ∀ (j : Nat) t, fn.params[j]? = some t → Tryd.pinned.checked.prog.wantsStandIn t = false := by
  obtain rfl : f = 8 := Option.some.inj ((show Tryd.prog.funcNamed "woofer/wooferlaw03.DriverWeighs" = some 8 by kernel_rfl).symm.trans hf) |>.symm
  obtain rfl : fn = Tryd.f8 := (Option.some.inj (Tryd.func8.symm.trans hfn)).symm
  refine ⟨by kernel_rfl, fun j t ht => ?_⟩
  rw [Tryd.params8] at ht
  have hall : ∀ t ∈ (#[23, 5] : Array TypeId), Tryd.prog.wantsStandIn t = false := of_decide_eq_true (by kernel_rfl)
  exact hall t (Array.mem_of_getElem? ht)

theorem card : Rows.DriverWeighsCardSaid :=
  Claim7.holds_tied_plain_at .later [] _ _ _ _ said (fun _ h => by cases h) (by kernel_rfl) (fun _ h => by cases h) driverWeighs_row_tie rfl ⟨rfl, rfl⟩ (by kernel_rfl) rfl plain (by kernel_rfl)
end Go.Proofs.YtpkldjlljoledaaDoor.driverWeighs
