/- Part 24 of the texts of the claim: Fig100. -/
import Derived.Test.YtpkldjlljoledaaDoorFx21

/- The walk of DriverFigures, one of six cases. -/
namespace Go.Proofs.YtpkldjlljoledaaDoor
open Go.RowKit
open Calm (bcell Blk)
set_option maxRecDepth 100000 in
set_option maxHeartbeats 16000000 in
theorem fig_100 (d1 d2 d3 d4 d5 d6 x f1 f2 l1 l2 ad rx one r1 r2 k1 k2 k3 k4 k5 k6 m1 m2 s1 s2 e4 : Int) (w : World) (hL : Lim w)
    (HClo : Hid (∀ W : World, Lim W → Calls Tryd.prog 36 #[.agg #[(.int .i64 (d1)), (.int .i64 (d2)), (.int .i64 (d3)), (.int .i64 (d4)), (.int .i64 (d5)), (.int .i64 (d6))], (.int .i64 (x))] W fun r w' => r = .returned (.tuple #[.agg #[(.int .i64 (0)), (.int .i64 (0)), (.int .i64 (0)), (.int .i64 (0)), (.int .i64 (0)), (.int .i64 (0))], (.int .i64 (one))]) ∧ Below W.heap.size W w'))
    (HRes : Hid (∀ W : World, Lim W → Calls Tryd.prog 37 #[.agg #[(.int .i64 (d1)), (.int .i64 (d2)), (.int .i64 (d3)), (.int .i64 (d4)), (.int .i64 (d5)), (.int .i64 (d6))]] W fun r w' => r = .returned (.tuple #[.agg #[(.int .i64 (r1)), (.int .i64 (r2))], (.int .i64 (0))]) ∧ Below W.heap.size W w'))
    (HQua : Hid (∀ W : World, Lim W → Calls Tryd.prog 38 #[.agg #[(.int .i64 (d1)), (.int .i64 (d2)), (.int .i64 (d3)), (.int .i64 (d4)), (.int .i64 (d5)), (.int .i64 (d6))]] W fun r w' => r = .returned (.tuple #[.agg #[(.int .i64 (k1)), (.int .i64 (k2)), (.int .i64 (k3)), (.int .i64 (k4)), (.int .i64 (k5)), (.int .i64 (k6))], (.int .i64 (0))]) ∧ Below W.heap.size W w'))
    (HWei : Hid (∀ W : World, Calls Tryd.prog 39 #[.agg #[(.int .i64 (f1)), (.int .i64 (f2))], .agg #[(.int .i64 (l1)), (.int .i64 (l2))], (.int .i64 (ad))] W fun r w' => r = .returned (.tuple #[.agg #[(.int .i64 (m1)), (.int .i64 (m2))], .agg #[(.int .i64 (s1)), (.int .i64 (s2))], (.int .i64 (e4))]) ∧ Below W.heap.size W w'))
    (HBad : Hid (∀ W : World, Calls Tryd.prog 17 #[.agg #[(.int .i64 (d1)), (.int .i64 (d2)), (.int .i64 (d3)), (.int .i64 (d4)), (.int .i64 (d5)), (.int .i64 (d6))]] W fun r w' => r = .returned ((.int .i64 (0))) ∧ Below W.heap.size W w'))
    (HRx : Hid (∀ W : World, Calls Tryd.prog 40 #[(.int .i64 (x)), (.int .i64 (0)), (.int .i64 (5000))] W fun r w' => r = .returned (.int .i64 (rx)) ∧ W = w'))
    (HF1 : Hid (∀ W : World, Calls Tryd.prog 16 #[.slice (some ⟨W.heap.size, 0, none⟩) 2 2] (W.alloc (.cells #[(.int .i64 (0)), (.int .i64 (rx))] 3)) fun r w' => r = .returned (.int .i64 (one)) ∧ W.alloc (.cells #[(.int .i64 (0)), (.int .i64 (rx))] 3) = w'))
    (HF3 : Hid (∀ W : World, Calls Tryd.prog 16 #[.slice (some ⟨W.heap.size, 0, none⟩) 3 3] (W.alloc (.cells #[(.int .i64 (termErr f1 f2)), (.int .i64 (termErr l1 l2)), (.int .i64 (rangeErr ad 1 100))] 3)) fun r w' => r = .returned (.int .i64 (0)) ∧ W.alloc (.cells #[(.int .i64 (termErr f1 f2)), (.int .i64 (termErr l1 l2)), (.int .i64 (rangeErr ad 1 100))] 3) = w'))
    (HRR : Hid (∀ W : World, Calls Tryd.prog 43 #[.agg #[(.int .i64 (d1)), (.int .i64 (d2)), (.int .i64 (d3)), (.int .i64 (d4)), (.int .i64 (d5)), (.int .i64 (d6))]] W fun r w' => r = .returned (.agg #[(.int .i64 (r1)), (.int .i64 (r2))]) ∧ Below W.heap.size W w'))
    (HRQ : Hid (∀ W : World, Calls Tryd.prog 44 #[.agg #[(.int .i64 (d1)), (.int .i64 (d2)), (.int .i64 (d3)), (.int .i64 (d4)), (.int .i64 (d5)), (.int .i64 (d6))]] W fun r w' => r = .returned (.agg #[(.int .i64 (k1)), (.int .i64 (k2)), (.int .i64 (k3)), (.int .i64 (k4)), (.int .i64 (k5)), (.int .i64 (k6))]) ∧ Below W.heap.size W w'))
    (HRW : Hid (∀ W : World, Calls Tryd.prog 45 #[.agg #[(.int .i64 (f1)), (.int .i64 (f2))], .agg #[(.int .i64 (l1)), (.int .i64 (l2))], (.int .i64 (ad))] W fun r w' => r = .returned (.tuple #[.agg #[(.int .i64 (m1)), (.int .i64 (m2))], .agg #[(.int .i64 (s1)), (.int .i64 (s2))], (.int .i64 (e4))]) ∧ Below W.heap.size W w'))
    (HQ1 : Hid (∀ W : World, Calls Tryd.prog 35 #[.agg #[(.int .i64 (r1)), (.int .i64 (r2))], (.int .i64 (0)), (.int .i64 (0)), .agg #[(.int .i64 (r1)), (.int .i64 (r2))]] W fun r w' => r = .returned (.bool true) ∧ Below W.heap.size W w'))
    (HQ2 : Hid (∀ W : World, Calls Tryd.prog 35 #[.agg #[(.int .i64 (m1)), (.int .i64 (m2))], (.int .i64 (e4)), (.int .i64 (e4)), .agg #[(.int .i64 (m1)), (.int .i64 (m2))]] W fun r w' => r = .returned (.bool true) ∧ Below W.heap.size W w'))
    (HQ3 : Hid (∀ W : World, Calls Tryd.prog 35 #[.agg #[(.int .i64 (s1)), (.int .i64 (s2))], (.int .i64 (e4)), (.int .i64 (e4)), .agg #[(.int .i64 (s1)), (.int .i64 (s2))]] W fun r w' => r = .returned (.bool true) ∧ Below W.heap.size W w'))
    (hone : ¬ one = 0)
    : Calls Tryd.prog 5 #[.agg #[(.int .i64 (d1)), (.int .i64 (d2)), (.int .i64 (d3)), (.int .i64 (d4)), (.int .i64 (d5)), (.int .i64 (d6))], .agg #[(.int .i64 (x)), (.int .i64 (f1)), (.int .i64 (f2)), (.int .i64 (l1)), (.int .i64 (l2)), (.int .i64 (ad))]] w fun r w' => r = .returned (.bool true) ∧ Below w.heap.size w w' := by
  have hB0 := Below.refl w.heap.size w
  have hq70 := eq70
  go_enter Tryd.func5, Tryd.ntmps5
  go_wp2_with (go_at_call 11; refine (awake_any _ (hL.below ((hB0.alloc hB0.size _).alloc (Nat.le_trans hB0.size (by simp; try omega)) _))).mono ?_; rintro r w1 ⟨rfl, h1⟩; refine Hid.out ?_)
  unfold Hid
  have hB1 := ((hB0.alloc hB0.size _).alloc (Nat.le_trans hB0.size (by simp; try omega)) _).trans (h1.mono (Nat.le_trans hB0.size (by simp; try omega)))
  have KD_1 := Lib.hid (show Blk w1 (w.heap.size) #[(.int .i64 (d1)), (.int .i64 (d2)), (.int .i64 (d3)), (.int .i64 (d4)), (.int .i64 (d5)), (.int .i64 (d6))] from ((Calm.Blk.new _ _ #[(.int .i64 (d1)), (.int .i64 (d2)), (.int .i64 (d3)), (.int .i64 (d4)), (.int .i64 (d5)), (.int .i64 (d6))]).alloc _).below h1)
  have KX_1 := Lib.hid (show Blk w1 (w.heap.size + 1) #[(.int .i64 (x)), (.int .i64 (f1)), (.int .i64 (f2)), (.int .i64 (l1)), (.int .i64 (l2)), (.int .i64 (ad))] by have := (Calm.Blk.new _ _ #[(.int .i64 (x)), (.int .i64 (f1)), (.int .i64 (f2)), (.int .i64 (l1)), (.int .i64 (l2)), (.int .i64 (ad))]).below h1; simpa using this)
  clear h1 hB0
  have fD_0 := KD_1.out.cell 0 (.int .i64 (d1)) rfl
  have fD_1 := KD_1.out.cell 1 (.int .i64 (d2)) rfl
  have fD_2 := KD_1.out.cell 2 (.int .i64 (d3)) rfl
  have fD_3 := KD_1.out.cell 3 (.int .i64 (d4)) rfl
  have fD_4 := KD_1.out.cell 4 (.int .i64 (d5)) rfl
  have fD_5 := KD_1.out.cell 5 (.int .i64 (d6)) rfl
  have fD_l := KD_1.out.lt
  have fD_f := KD_1.out.f
  have fD_l0_1 : w.heap.size < w1.heap.size + 1 := by omega
  have fD_l0_2 : w.heap.size < w1.heap.size + 1 + 1 := by omega
  have fX_0 := KX_1.out.cell 0 (.int .i64 (x)) rfl
  have fX_1 := KX_1.out.cell 1 (.int .i64 (f1)) rfl
  have fX_2 := KX_1.out.cell 2 (.int .i64 (f2)) rfl
  have fX_3 := KX_1.out.cell 3 (.int .i64 (l1)) rfl
  have fX_4 := KX_1.out.cell 4 (.int .i64 (l2)) rfl
  have fX_5 := KX_1.out.cell 5 (.int .i64 (ad)) rfl
  have fX_l := KX_1.out.lt
  have fX_f := KX_1.out.f
  have fX_l0 : w.heap.size < w1.heap.size := by omega
  have fX_l0_1 : w.heap.size < w1.heap.size + 1 := by omega
  have fX_l0_2 : w.heap.size < w1.heap.size + 1 + 1 := by omega
  have fX_l1_1 : w.heap.size + 1 < w1.heap.size + 1 := by omega
  have fX_l1_2 : w.heap.size + 1 < w1.heap.size + 1 + 1 := by omega
  go_wp2_with (go_at_call 36; refine (HClo.out _ (hL.below hB1)).mono ?_; rintro r w2 ⟨rfl, h2⟩; refine Hid.out ?_)
  unfold Hid
  have hB2 := hB1.trans (h2.mono hB1.size)
  have KD_2 := Lib.hid (show Blk w2 (w.heap.size) #[(.int .i64 (d1)), (.int .i64 (d2)), (.int .i64 (d3)), (.int .i64 (d4)), (.int .i64 (d5)), (.int .i64 (d6))] from KD_1.out.below h2)
  have KX_2 := Lib.hid (show Blk w2 (w.heap.size + 1) #[(.int .i64 (x)), (.int .i64 (f1)), (.int .i64 (f2)), (.int .i64 (l1)), (.int .i64 (l2)), (.int .i64 (ad))] from KX_1.out.below h2)
  clear h2 hB1 KD_1 KX_1 fD_0 fD_1 fD_2 fD_3 fD_4 fD_5 fD_l fD_f fD_l0_1 fD_l0_2 fX_0 fX_1 fX_2 fX_3 fX_4 fX_5 fX_l fX_f fX_l0 fX_l0_1 fX_l0_2 fX_l1_1 fX_l1_2
  have fD_0 := KD_2.out.cell 0 (.int .i64 (d1)) rfl
  have fD_1 := KD_2.out.cell 1 (.int .i64 (d2)) rfl
  have fD_2 := KD_2.out.cell 2 (.int .i64 (d3)) rfl
  have fD_3 := KD_2.out.cell 3 (.int .i64 (d4)) rfl
  have fD_4 := KD_2.out.cell 4 (.int .i64 (d5)) rfl
  have fD_5 := KD_2.out.cell 5 (.int .i64 (d6)) rfl
  have fD_l := KD_2.out.lt
  have fD_f := KD_2.out.f
  have fD_l0_1 : w.heap.size < w2.heap.size + 1 := by omega
  have fD_l0_2 : w.heap.size < w2.heap.size + 1 + 1 := by omega
  go_wp2_with (go_at_call 37; refine (HRes.out _ (hL.below (hB2.alloc hB2.size _))).mono ?_; rintro r w3 ⟨rfl, h3⟩; refine Hid.out ?_)
  unfold Hid
  have hB3 := (hB2.alloc hB2.size _).trans (h3.mono (Nat.le_trans hB2.size (by simp; try omega)))
  have oD_3 : w.heap.size < w2.heap.size := KD_2.out.lt
  have oX_3 : w.heap.size + 1 < w2.heap.size := KX_2.out.lt
  have KD_3 := Lib.hid (show Blk w3 (w.heap.size) #[(.int .i64 (d1)), (.int .i64 (d2)), (.int .i64 (d3)), (.int .i64 (d4)), (.int .i64 (d5)), (.int .i64 (d6))] from (KD_2.out.alloc _).below h3)
  have KX_3 := Lib.hid (show Blk w3 (w.heap.size + 1) #[(.int .i64 (x)), (.int .i64 (f1)), (.int .i64 (f2)), (.int .i64 (l1)), (.int .i64 (l2)), (.int .i64 (ad))] from (KX_2.out.alloc _).below h3)
  have Kc_3 := Lib.hid (show Blk w3 (w2.heap.size) #[(.int .i64 (0)), (.int .i64 (0)), (.int .i64 (0)), (.int .i64 (0)), (.int .i64 (0)), (.int .i64 (0))] from (Calm.Blk.new _ _ #[(.int .i64 (0)), (.int .i64 (0)), (.int .i64 (0)), (.int .i64 (0)), (.int .i64 (0)), (.int .i64 (0))]).below h3)
  clear h3 hB2 KD_2 KX_2 fD_0 fD_1 fD_2 fD_3 fD_4 fD_5 fD_l fD_f fD_l0_1 fD_l0_2
  have fD_0 := KD_3.out.cell 0 (.int .i64 (d1)) rfl
  have fD_1 := KD_3.out.cell 1 (.int .i64 (d2)) rfl
  have fD_2 := KD_3.out.cell 2 (.int .i64 (d3)) rfl
  have fD_3 := KD_3.out.cell 3 (.int .i64 (d4)) rfl
  have fD_4 := KD_3.out.cell 4 (.int .i64 (d5)) rfl
  have fD_5 := KD_3.out.cell 5 (.int .i64 (d6)) rfl
  have fD_l := KD_3.out.lt
  have fD_f := KD_3.out.f
  have fD_l0_1 : w.heap.size < w3.heap.size + 1 := by omega
  have fD_l0_2 : w.heap.size < w3.heap.size + 1 + 1 := by omega
  go_wp2_with (go_at_call 38; refine (HQua.out _ (hL.below (hB3.alloc hB3.size _))).mono ?_; rintro r w4 ⟨rfl, h4⟩; refine Hid.out ?_)
  unfold Hid
  have hB4 := (hB3.alloc hB3.size _).trans (h4.mono (Nat.le_trans hB3.size (by simp; try omega)))
  have oD_4 : w.heap.size < w3.heap.size := KD_3.out.lt
  have oX_4 : w.heap.size + 1 < w3.heap.size := KX_3.out.lt
  have oc_4 : w2.heap.size < w3.heap.size := Kc_3.out.lt
  have KD_4 := Lib.hid (show Blk w4 (w.heap.size) #[(.int .i64 (d1)), (.int .i64 (d2)), (.int .i64 (d3)), (.int .i64 (d4)), (.int .i64 (d5)), (.int .i64 (d6))] from (KD_3.out.alloc _).below h4)
  have KX_4 := Lib.hid (show Blk w4 (w.heap.size + 1) #[(.int .i64 (x)), (.int .i64 (f1)), (.int .i64 (f2)), (.int .i64 (l1)), (.int .i64 (l2)), (.int .i64 (ad))] from (KX_3.out.alloc _).below h4)
  have Kc_4 := Lib.hid (show Blk w4 (w2.heap.size) #[(.int .i64 (0)), (.int .i64 (0)), (.int .i64 (0)), (.int .i64 (0)), (.int .i64 (0)), (.int .i64 (0))] from (Kc_3.out.alloc _).below h4)
  have Kr_4 := Lib.hid (show Blk w4 (w3.heap.size) #[(.int .i64 (r1)), (.int .i64 (r2))] from (Calm.Blk.new _ _ #[(.int .i64 (r1)), (.int .i64 (r2))]).below h4)
  clear h4 hB3 KD_3 KX_3 Kc_3 fD_0 fD_1 fD_2 fD_3 fD_4 fD_5 fD_l fD_f fD_l0_1 fD_l0_2
  have fX_0 := KX_4.out.cell 0 (.int .i64 (x)) rfl
  have fX_1 := KX_4.out.cell 1 (.int .i64 (f1)) rfl
  have fX_2 := KX_4.out.cell 2 (.int .i64 (f2)) rfl
  have fX_3 := KX_4.out.cell 3 (.int .i64 (l1)) rfl
  have fX_4 := KX_4.out.cell 4 (.int .i64 (l2)) rfl
  have fX_5 := KX_4.out.cell 5 (.int .i64 (ad)) rfl
  have fX_l := KX_4.out.lt
  have fX_f := KX_4.out.f
  have fX_l0 : w.heap.size < w4.heap.size := by omega
  have fX_l0_1 : w.heap.size < w4.heap.size + 1 := by omega
  have fX_l0_2 : w.heap.size < w4.heap.size + 1 + 1 := by omega
  have fX_l1_1 : w.heap.size + 1 < w4.heap.size + 1 := by omega
  have fX_l1_2 : w.heap.size + 1 < w4.heap.size + 1 + 1 := by omega
  go_wp2_with (go_at_call 39; refine (HWei.out _).mono ?_; rintro r w5 ⟨rfl, h5⟩; refine Hid.out ?_)
  unfold Hid
  have hB5 := (hB4.alloc hB4.size _).trans (h5.mono (Nat.le_trans hB4.size (by simp; try omega)))
  have oD_5 : w.heap.size < w4.heap.size := KD_4.out.lt
  have oX_5 : w.heap.size + 1 < w4.heap.size := KX_4.out.lt
  have oc_5 : w2.heap.size < w4.heap.size := Kc_4.out.lt
  have or_5 : w3.heap.size < w4.heap.size := Kr_4.out.lt
  have KD_5 := Lib.hid (show Blk w5 (w.heap.size) #[(.int .i64 (d1)), (.int .i64 (d2)), (.int .i64 (d3)), (.int .i64 (d4)), (.int .i64 (d5)), (.int .i64 (d6))] from (KD_4.out.alloc _).below h5)
  have KX_5 := Lib.hid (show Blk w5 (w.heap.size + 1) #[(.int .i64 (x)), (.int .i64 (f1)), (.int .i64 (f2)), (.int .i64 (l1)), (.int .i64 (l2)), (.int .i64 (ad))] from (KX_4.out.alloc _).below h5)
  have Kc_5 := Lib.hid (show Blk w5 (w2.heap.size) #[(.int .i64 (0)), (.int .i64 (0)), (.int .i64 (0)), (.int .i64 (0)), (.int .i64 (0)), (.int .i64 (0))] from (Kc_4.out.alloc _).below h5)
  have Kr_5 := Lib.hid (show Blk w5 (w3.heap.size) #[(.int .i64 (r1)), (.int .i64 (r2))] from (Kr_4.out.alloc _).below h5)
  have Kk_5 := Lib.hid (show Blk w5 (w4.heap.size) #[(.int .i64 (k1)), (.int .i64 (k2)), (.int .i64 (k3)), (.int .i64 (k4)), (.int .i64 (k5)), (.int .i64 (k6))] from (Calm.Blk.new _ _ #[(.int .i64 (k1)), (.int .i64 (k2)), (.int .i64 (k3)), (.int .i64 (k4)), (.int .i64 (k5)), (.int .i64 (k6))]).below h5)
  clear h5 hB4 KD_4 KX_4 Kc_4 Kr_4 fX_0 fX_1 fX_2 fX_3 fX_4 fX_5 fX_l fX_f fX_l0 fX_l0_1 fX_l0_2 fX_l1_1 fX_l1_2
  have fD_0 := KD_5.out.cell 0 (.int .i64 (d1)) rfl
  have fD_1 := KD_5.out.cell 1 (.int .i64 (d2)) rfl
  have fD_2 := KD_5.out.cell 2 (.int .i64 (d3)) rfl
  have fD_3 := KD_5.out.cell 3 (.int .i64 (d4)) rfl
  have fD_4 := KD_5.out.cell 4 (.int .i64 (d5)) rfl
  have fD_5 := KD_5.out.cell 5 (.int .i64 (d6)) rfl
  have fD_l := KD_5.out.lt
  have fD_f := KD_5.out.f
  have fD_l0_1 : w.heap.size < w5.heap.size + 1 := by omega
  have fD_l0_2 : w.heap.size < w5.heap.size + 1 + 1 := by omega
  go_wp2_with (go_at_call 17; refine (HBad.out _).mono ?_; rintro r w6 ⟨rfl, h6⟩; refine Hid.out ?_)
  unfold Hid
  have hB6 := ((hB5.alloc hB5.size _).alloc (Nat.le_trans hB5.size (by simp; try omega)) _).trans (h6.mono (Nat.le_trans hB5.size (by simp; try omega)))
  have oD_6 : w.heap.size < w5.heap.size := KD_5.out.lt
  have oX_6 : w.heap.size + 1 < w5.heap.size := KX_5.out.lt
  have oc_6 : w2.heap.size < w5.heap.size := Kc_5.out.lt
  have or_6 : w3.heap.size < w5.heap.size := Kr_5.out.lt
  have ok_6 : w4.heap.size < w5.heap.size := Kk_5.out.lt
  have KD_6 := Lib.hid (show Blk w6 (w.heap.size) #[(.int .i64 (d1)), (.int .i64 (d2)), (.int .i64 (d3)), (.int .i64 (d4)), (.int .i64 (d5)), (.int .i64 (d6))] from ((KD_5.out.alloc _).alloc _).below h6)
  have KX_6 := Lib.hid (show Blk w6 (w.heap.size + 1) #[(.int .i64 (x)), (.int .i64 (f1)), (.int .i64 (f2)), (.int .i64 (l1)), (.int .i64 (l2)), (.int .i64 (ad))] from ((KX_5.out.alloc _).alloc _).below h6)
  have Kc_6 := Lib.hid (show Blk w6 (w2.heap.size) #[(.int .i64 (0)), (.int .i64 (0)), (.int .i64 (0)), (.int .i64 (0)), (.int .i64 (0)), (.int .i64 (0))] from ((Kc_5.out.alloc _).alloc _).below h6)
  have Kr_6 := Lib.hid (show Blk w6 (w3.heap.size) #[(.int .i64 (r1)), (.int .i64 (r2))] from ((Kr_5.out.alloc _).alloc _).below h6)
  have Kk_6 := Lib.hid (show Blk w6 (w4.heap.size) #[(.int .i64 (k1)), (.int .i64 (k2)), (.int .i64 (k3)), (.int .i64 (k4)), (.int .i64 (k5)), (.int .i64 (k6))] from ((Kk_5.out.alloc _).alloc _).below h6)
  have Km_6 := Lib.hid (show Blk w6 (w5.heap.size) #[(.int .i64 (m1)), (.int .i64 (m2))] from ((Calm.Blk.new _ _ #[(.int .i64 (m1)), (.int .i64 (m2))]).alloc _).below h6)
  have Ks_6 := Lib.hid (show Blk w6 (w5.heap.size + 1) #[(.int .i64 (s1)), (.int .i64 (s2))] by have := (Calm.Blk.new _ _ #[(.int .i64 (s1)), (.int .i64 (s2))]).below h6; simpa using this)
  clear h6 hB5 KD_5 KX_5 Kc_5 Kr_5 Kk_5 fD_0 fD_1 fD_2 fD_3 fD_4 fD_5 fD_l fD_f fD_l0_1 fD_l0_2
  have fX_0 := KX_6.out.cell 0 (.int .i64 (x)) rfl
  have fX_1 := KX_6.out.cell 1 (.int .i64 (f1)) rfl
  have fX_2 := KX_6.out.cell 2 (.int .i64 (f2)) rfl
  have fX_3 := KX_6.out.cell 3 (.int .i64 (l1)) rfl
  have fX_4 := KX_6.out.cell 4 (.int .i64 (l2)) rfl
  have fX_5 := KX_6.out.cell 5 (.int .i64 (ad)) rfl
  have fX_l := KX_6.out.lt
  have fX_f := KX_6.out.f
  have fX_l0 : w.heap.size < w6.heap.size := by omega
  have fX_l0_1 : w.heap.size < w6.heap.size + 1 := by omega
  have fX_l0_2 : w.heap.size < w6.heap.size + 1 + 1 := by omega
  have fX_l1_1 : w.heap.size + 1 < w6.heap.size + 1 := by omega
  have fX_l1_2 : w.heap.size + 1 < w6.heap.size + 1 + 1 := by omega
  go_wp2_with (first | (go_at_call 40; refine (HRx.out _).mono ?_; rintro r wq ⟨rfl, rfl⟩) | (go_at_call 16; refine (HF1.out _).mono ?_; rintro r wq ⟨rfl, rfl⟩))
  refine Calm.tail_below 9 (by kernel_rfl) (by kernel_rfl) ?_
  simp only [List.take_succ_cons, List.take_zero, List.drop_succ_cons, List.drop_zero]
  repeat (first | (first | (apply Calm.op_move; (focus rfl); (focus (first | exact .inl rfl | exact .inr rfl)); (focus ((try simp only [Act.eval, Array.getD_eq_getD_getElem?, List.getElem?_toArray, List.getElem?_cons_succ, List.getElem?_cons_zero, Option.getD_some]); rfl)); (try simp only [Act.put, List.setIfInBounds_toArray, List.set_cons_zero, List.set_cons_succ])) | (apply Calm.op_not; (focus rfl); (try simp only [Act.put, List.setIfInBounds_toArray, List.set_cons_zero, List.set_cons_succ])) | (apply Calm.op; (focus rfl); (focus (intro W hb; obtain ⟨hc, hf⟩ := bcell hb; clear hb hf; go_simp; (try go_bits); (try rfl); done)); (try simp only [Act.put, List.setIfInBounds_toArray, List.set_cons_zero, List.set_cons_succ]))) | (apply Calm.op_call; (focus rfl); (focus (intro W hb; obtain ⟨hc, hf⟩ := bcell hb; clear hb hf; go_simp; refine ⟨?_, ?_⟩; rfl; rfl)); (focus (intro W hb; first | (go_at_call 41; exact Calm.call_below hb (refCheckTerm_any _ _ _)) | (go_at_call 40; exact Calm.call_same hb (checkRange_any _ _ _ _)))); (try simp only [Act.put, List.setIfInBounds_toArray, List.set_cons_zero, List.set_cons_succ])))
  refine wpQuiet_nil ?_
  intro w7 h7
  have hB7 := (hB6.alloc hB6.size _).trans (h7.mono (Nat.le_trans hB6.size (by simp; try omega)))
  have oD_7 : w.heap.size < w6.heap.size := KD_6.out.lt
  have oX_7 : w.heap.size + 1 < w6.heap.size := KX_6.out.lt
  have oc_7 : w2.heap.size < w6.heap.size := Kc_6.out.lt
  have or_7 : w3.heap.size < w6.heap.size := Kr_6.out.lt
  have ok_7 : w4.heap.size < w6.heap.size := Kk_6.out.lt
  have om_7 : w5.heap.size < w6.heap.size := Km_6.out.lt
  have os_7 : w5.heap.size + 1 < w6.heap.size := Ks_6.out.lt
  have KD_7 := Lib.hid (show Blk w7 (w.heap.size) #[(.int .i64 (d1)), (.int .i64 (d2)), (.int .i64 (d3)), (.int .i64 (d4)), (.int .i64 (d5)), (.int .i64 (d6))] from (KD_6.out.alloc _).below h7)
  have KX_7 := Lib.hid (show Blk w7 (w.heap.size + 1) #[(.int .i64 (x)), (.int .i64 (f1)), (.int .i64 (f2)), (.int .i64 (l1)), (.int .i64 (l2)), (.int .i64 (ad))] from (KX_6.out.alloc _).below h7)
  have Kc_7 := Lib.hid (show Blk w7 (w2.heap.size) #[(.int .i64 (0)), (.int .i64 (0)), (.int .i64 (0)), (.int .i64 (0)), (.int .i64 (0)), (.int .i64 (0))] from (Kc_6.out.alloc _).below h7)
  have Kr_7 := Lib.hid (show Blk w7 (w3.heap.size) #[(.int .i64 (r1)), (.int .i64 (r2))] from (Kr_6.out.alloc _).below h7)
  have Kk_7 := Lib.hid (show Blk w7 (w4.heap.size) #[(.int .i64 (k1)), (.int .i64 (k2)), (.int .i64 (k3)), (.int .i64 (k4)), (.int .i64 (k5)), (.int .i64 (k6))] from (Kk_6.out.alloc _).below h7)
  have Km_7 := Lib.hid (show Blk w7 (w5.heap.size) #[(.int .i64 (m1)), (.int .i64 (m2))] from (Km_6.out.alloc _).below h7)
  have Ks_7 := Lib.hid (show Blk w7 (w5.heap.size + 1) #[(.int .i64 (s1)), (.int .i64 (s2))] from (Ks_6.out.alloc _).below h7)
  clear h7 hB6 KD_6 KX_6 Kc_6 Kr_6 Kk_6 Km_6 Ks_6 fX_0 fX_1 fX_2 fX_3 fX_4 fX_5 fX_l fX_f fX_l0 fX_l0_1 fX_l0_2 fX_l1_1 fX_l1_2
  have fD_0 := KD_7.out.cell 0 (.int .i64 (d1)) rfl
  have fD_1 := KD_7.out.cell 1 (.int .i64 (d2)) rfl
  have fD_2 := KD_7.out.cell 2 (.int .i64 (d3)) rfl
  have fD_3 := KD_7.out.cell 3 (.int .i64 (d4)) rfl
  have fD_4 := KD_7.out.cell 4 (.int .i64 (d5)) rfl
  have fD_5 := KD_7.out.cell 5 (.int .i64 (d6)) rfl
  have fD_l := KD_7.out.lt
  have fD_f := KD_7.out.f
  have fD_l0_1 : w.heap.size < w7.heap.size + 1 := by omega
  have fD_l0_2 : w.heap.size < w7.heap.size + 1 + 1 := by omega
  have fD_l0_3 : w.heap.size < w7.heap.size + 1 + 1 + 1 := by omega
  have fD_l0_4 : w.heap.size < w7.heap.size + 1 + 1 + 1 + 1 := by omega
  have fD_l0_5 : w.heap.size < w7.heap.size + 1 + 1 + 1 + 1 + 1 := by omega
  have fD_l0_6 : w.heap.size < w7.heap.size + 1 + 1 + 1 + 1 + 1 + 1 := by omega
  go_wp2_with (go_at_call 16; refine (HF3.out _).mono ?_; rintro r wq ⟨rfl, rfl⟩)
  refine Calm.tail_below 4 (by kernel_rfl) (by kernel_rfl) ?_
  simp only [List.take_succ_cons, List.take_zero, List.drop_succ_cons, List.drop_zero]
  repeat (first | (first | (apply Calm.op_move; (focus rfl); (focus (first | exact .inl rfl | exact .inr rfl)); (focus ((try simp only [Act.eval, Array.getD_eq_getD_getElem?, List.getElem?_toArray, List.getElem?_cons_succ, List.getElem?_cons_zero, Option.getD_some]); rfl)); (try simp only [Act.put, List.setIfInBounds_toArray, List.set_cons_zero, List.set_cons_succ])) | (apply Calm.op_not; (focus rfl); (try simp only [Act.put, List.setIfInBounds_toArray, List.set_cons_zero, List.set_cons_succ])) | (apply Calm.op; (focus rfl); (focus (intro W hb; obtain ⟨hc, hf⟩ := bcell hb; clear hb hf; go_simp; (try go_bits); (try rfl); done)); (try simp only [Act.put, List.setIfInBounds_toArray, List.set_cons_zero, List.set_cons_succ]))) | (apply Calm.op_call; (focus rfl); (focus (intro W hb; obtain ⟨hc, hf⟩ := bcell hb; clear hb hf; go_simp; refine ⟨?_, ?_⟩; rfl; rfl)); (focus (intro W hb; first | (go_at_call 43; exact Calm.call_below hb (HRR.out _)) | (go_at_call 44; exact Calm.call_below hb (HRQ.out _)))); (try simp only [Act.put, List.setIfInBounds_toArray, List.set_cons_zero, List.set_cons_succ])))
  refine wpQuiet_nil ?_
  intro w8 h8
  have hB8 := ((((((hB7.alloc hB7.size _).alloc (Nat.le_trans hB7.size (by simp; try omega)) _).alloc (Nat.le_trans hB7.size (by simp; try omega)) _).alloc (Nat.le_trans hB7.size (by simp; try omega)) _).alloc (Nat.le_trans hB7.size (by simp; try omega)) _).alloc (Nat.le_trans hB7.size (by simp; try omega)) _).trans (h8.mono (Nat.le_trans hB7.size (by simp; try omega)))
  have oD_8 : w.heap.size < w7.heap.size := KD_7.out.lt
  have oX_8 : w.heap.size + 1 < w7.heap.size := KX_7.out.lt
  have oc_8 : w2.heap.size < w7.heap.size := Kc_7.out.lt
  have or_8 : w3.heap.size < w7.heap.size := Kr_7.out.lt
  have ok_8 : w4.heap.size < w7.heap.size := Kk_7.out.lt
  have om_8 : w5.heap.size < w7.heap.size := Km_7.out.lt
  have os_8 : w5.heap.size + 1 < w7.heap.size := Ks_7.out.lt
  have KD_8 := Lib.hid (show Blk w8 (w.heap.size) #[(.int .i64 (d1)), (.int .i64 (d2)), (.int .i64 (d3)), (.int .i64 (d4)), (.int .i64 (d5)), (.int .i64 (d6))] from ((((((KD_7.out.alloc _).alloc _).alloc _).alloc _).alloc _).alloc _).below h8)
  have KX_8 := Lib.hid (show Blk w8 (w.heap.size + 1) #[(.int .i64 (x)), (.int .i64 (f1)), (.int .i64 (f2)), (.int .i64 (l1)), (.int .i64 (l2)), (.int .i64 (ad))] from ((((((KX_7.out.alloc _).alloc _).alloc _).alloc _).alloc _).alloc _).below h8)
  have Kc_8 := Lib.hid (show Blk w8 (w2.heap.size) #[(.int .i64 (0)), (.int .i64 (0)), (.int .i64 (0)), (.int .i64 (0)), (.int .i64 (0)), (.int .i64 (0))] from ((((((Kc_7.out.alloc _).alloc _).alloc _).alloc _).alloc _).alloc _).below h8)
  have Kr_8 := Lib.hid (show Blk w8 (w3.heap.size) #[(.int .i64 (r1)), (.int .i64 (r2))] from ((((((Kr_7.out.alloc _).alloc _).alloc _).alloc _).alloc _).alloc _).below h8)
  have Kk_8 := Lib.hid (show Blk w8 (w4.heap.size) #[(.int .i64 (k1)), (.int .i64 (k2)), (.int .i64 (k3)), (.int .i64 (k4)), (.int .i64 (k5)), (.int .i64 (k6))] from ((((((Kk_7.out.alloc _).alloc _).alloc _).alloc _).alloc _).alloc _).below h8)
  have Km_8 := Lib.hid (show Blk w8 (w5.heap.size) #[(.int .i64 (m1)), (.int .i64 (m2))] from ((((((Km_7.out.alloc _).alloc _).alloc _).alloc _).alloc _).alloc _).below h8)
  have Ks_8 := Lib.hid (show Blk w8 (w5.heap.size + 1) #[(.int .i64 (s1)), (.int .i64 (s2))] from ((((((Ks_7.out.alloc _).alloc _).alloc _).alloc _).alloc _).alloc _).below h8)
  have KC_8 := Lib.hid (show Blk w8 (w7.heap.size + 1) #[(.int .i64 (0)), (.int .i64 (0)), (.int .i64 (0)), (.int .i64 (0)), (.int .i64 (0)), (.int .i64 (0))] by have := (((((Calm.Blk.new _ _ #[(.int .i64 (0)), (.int .i64 (0)), (.int .i64 (0)), (.int .i64 (0)), (.int .i64 (0)), (.int .i64 (0))]).alloc _).alloc _).alloc _).alloc _).below h8; simpa using this)
  have KR_8 := Lib.hid (show Blk w8 (w7.heap.size + 1 + 1) #[(.int .i64 (0)), (.int .i64 (0))] by have := ((((Calm.Blk.new _ _ #[(.int .i64 (0)), (.int .i64 (0))]).alloc _).alloc _).alloc _).below h8; simpa using this)
  have KM_8 := Lib.hid (show Blk w8 (w7.heap.size + 1 + 1 + 1) #[(.int .i64 (0)), (.int .i64 (0))] by have := (((Calm.Blk.new _ _ #[(.int .i64 (0)), (.int .i64 (0))]).alloc _).alloc _).below h8; simpa using this)
  have KS_8 := Lib.hid (show Blk w8 (w7.heap.size + 1 + 1 + 1 + 1) #[(.int .i64 (0)), (.int .i64 (0))] by have := ((Calm.Blk.new _ _ #[(.int .i64 (0)), (.int .i64 (0))]).alloc _).below h8; simpa using this)
  have KK_8 := Lib.hid (show Blk w8 (w7.heap.size + 1 + 1 + 1 + 1 + 1) #[(.int .i64 (0)), (.int .i64 (0)), (.int .i64 (0)), (.int .i64 (0)), (.int .i64 (0)), (.int .i64 (0))] by have := (Calm.Blk.new _ _ #[(.int .i64 (0)), (.int .i64 (0)), (.int .i64 (0)), (.int .i64 (0)), (.int .i64 (0)), (.int .i64 (0))]).below h8; simpa using this)
  clear h8 hB7 KD_7 KX_7 Kc_7 Kr_7 Kk_7 Km_7 Ks_7 fD_0 fD_1 fD_2 fD_3 fD_4 fD_5 fD_l fD_f fD_l0_1 fD_l0_2 fD_l0_3 fD_l0_4 fD_l0_5 fD_l0_6
  have fR_0 := KR_8.out.cell 0 (.int .i64 (0)) rfl
  have fR_1 := KR_8.out.cell 1 (.int .i64 (0)) rfl
  have fR_l := KR_8.out.lt
  have fR_f := KR_8.out.f
  have fR_l0 : w7.heap.size < w8.heap.size := by omega
  have fR_l1 : w7.heap.size + 1 < w8.heap.size := by omega
  have fR_l0_1 : w7.heap.size < w8.heap.size + 1 := by omega
  have fR_l0_2 : w7.heap.size < w8.heap.size + 1 + 1 := by omega
  have fR_l0_3 : w7.heap.size < w8.heap.size + 1 + 1 + 1 := by omega
  have fR_l0_4 : w7.heap.size < w8.heap.size + 1 + 1 + 1 + 1 := by omega
  have fR_l0_5 : w7.heap.size < w8.heap.size + 1 + 1 + 1 + 1 + 1 := by omega
  have fR_l0_6 : w7.heap.size < w8.heap.size + 1 + 1 + 1 + 1 + 1 + 1 := by omega
  have fR_l1_1 : w7.heap.size + 1 < w8.heap.size + 1 := by omega
  have fR_l1_2 : w7.heap.size + 1 < w8.heap.size + 1 + 1 := by omega
  have fR_l1_3 : w7.heap.size + 1 < w8.heap.size + 1 + 1 + 1 := by omega
  have fR_l1_4 : w7.heap.size + 1 < w8.heap.size + 1 + 1 + 1 + 1 := by omega
  have fR_l1_5 : w7.heap.size + 1 < w8.heap.size + 1 + 1 + 1 + 1 + 1 := by omega
  have fR_l1_6 : w7.heap.size + 1 < w8.heap.size + 1 + 1 + 1 + 1 + 1 + 1 := by omega
  have fR_l2_1 : w7.heap.size + 1 + 1 < w8.heap.size + 1 := by omega
  have fR_l2_2 : w7.heap.size + 1 + 1 < w8.heap.size + 1 + 1 := by omega
  have fR_l2_3 : w7.heap.size + 1 + 1 < w8.heap.size + 1 + 1 + 1 := by omega
  have fR_l2_4 : w7.heap.size + 1 + 1 < w8.heap.size + 1 + 1 + 1 + 1 := by omega
  have fR_l2_5 : w7.heap.size + 1 + 1 < w8.heap.size + 1 + 1 + 1 + 1 + 1 := by omega
  have fR_l2_6 : w7.heap.size + 1 + 1 < w8.heap.size + 1 + 1 + 1 + 1 + 1 + 1 := by omega
  have fK_0 := KK_8.out.cell 0 (.int .i64 (0)) rfl
  have fK_1 := KK_8.out.cell 1 (.int .i64 (0)) rfl
  have fK_2 := KK_8.out.cell 2 (.int .i64 (0)) rfl
  have fK_3 := KK_8.out.cell 3 (.int .i64 (0)) rfl
  have fK_4 := KK_8.out.cell 4 (.int .i64 (0)) rfl
  have fK_5 := KK_8.out.cell 5 (.int .i64 (0)) rfl
  have fK_l := KK_8.out.lt
  have fK_f := KK_8.out.f
  have fK_l0 : w7.heap.size < w8.heap.size := by omega
  have fK_l1 : w7.heap.size + 1 < w8.heap.size := by omega
  have fK_l2 : w7.heap.size + 1 + 1 < w8.heap.size := by omega
  have fK_l3 : w7.heap.size + 1 + 1 + 1 < w8.heap.size := by omega
  have fK_l4 : w7.heap.size + 1 + 1 + 1 + 1 < w8.heap.size := by omega
  have fK_l0_1 : w7.heap.size < w8.heap.size + 1 := by omega
  have fK_l0_2 : w7.heap.size < w8.heap.size + 1 + 1 := by omega
  have fK_l0_3 : w7.heap.size < w8.heap.size + 1 + 1 + 1 := by omega
  have fK_l0_4 : w7.heap.size < w8.heap.size + 1 + 1 + 1 + 1 := by omega
  have fK_l0_5 : w7.heap.size < w8.heap.size + 1 + 1 + 1 + 1 + 1 := by omega
  have fK_l0_6 : w7.heap.size < w8.heap.size + 1 + 1 + 1 + 1 + 1 + 1 := by omega
  have fK_l1_1 : w7.heap.size + 1 < w8.heap.size + 1 := by omega
  have fK_l1_2 : w7.heap.size + 1 < w8.heap.size + 1 + 1 := by omega
  have fK_l1_3 : w7.heap.size + 1 < w8.heap.size + 1 + 1 + 1 := by omega
  have fK_l1_4 : w7.heap.size + 1 < w8.heap.size + 1 + 1 + 1 + 1 := by omega
  have fK_l1_5 : w7.heap.size + 1 < w8.heap.size + 1 + 1 + 1 + 1 + 1 := by omega
  have fK_l1_6 : w7.heap.size + 1 < w8.heap.size + 1 + 1 + 1 + 1 + 1 + 1 := by omega
  have fK_l2_1 : w7.heap.size + 1 + 1 < w8.heap.size + 1 := by omega
  have fK_l2_2 : w7.heap.size + 1 + 1 < w8.heap.size + 1 + 1 := by omega
  have fK_l2_3 : w7.heap.size + 1 + 1 < w8.heap.size + 1 + 1 + 1 := by omega
  have fK_l2_4 : w7.heap.size + 1 + 1 < w8.heap.size + 1 + 1 + 1 + 1 := by omega
  have fK_l2_5 : w7.heap.size + 1 + 1 < w8.heap.size + 1 + 1 + 1 + 1 + 1 := by omega
  have fK_l2_6 : w7.heap.size + 1 + 1 < w8.heap.size + 1 + 1 + 1 + 1 + 1 + 1 := by omega
  have fK_l3_1 : w7.heap.size + 1 + 1 + 1 < w8.heap.size + 1 := by omega
  have fK_l3_2 : w7.heap.size + 1 + 1 + 1 < w8.heap.size + 1 + 1 := by omega
  have fK_l3_3 : w7.heap.size + 1 + 1 + 1 < w8.heap.size + 1 + 1 + 1 := by omega
  have fK_l3_4 : w7.heap.size + 1 + 1 + 1 < w8.heap.size + 1 + 1 + 1 + 1 := by omega
  have fK_l3_5 : w7.heap.size + 1 + 1 + 1 < w8.heap.size + 1 + 1 + 1 + 1 + 1 := by omega
  have fK_l3_6 : w7.heap.size + 1 + 1 + 1 < w8.heap.size + 1 + 1 + 1 + 1 + 1 + 1 := by omega
  have fK_l4_1 : w7.heap.size + 1 + 1 + 1 + 1 < w8.heap.size + 1 := by omega
  have fK_l4_2 : w7.heap.size + 1 + 1 + 1 + 1 < w8.heap.size + 1 + 1 := by omega
  have fK_l4_3 : w7.heap.size + 1 + 1 + 1 + 1 < w8.heap.size + 1 + 1 + 1 := by omega
  have fK_l4_4 : w7.heap.size + 1 + 1 + 1 + 1 < w8.heap.size + 1 + 1 + 1 + 1 := by omega
  have fK_l4_5 : w7.heap.size + 1 + 1 + 1 + 1 < w8.heap.size + 1 + 1 + 1 + 1 + 1 := by omega
  have fK_l4_6 : w7.heap.size + 1 + 1 + 1 + 1 < w8.heap.size + 1 + 1 + 1 + 1 + 1 + 1 := by omega
  have fK_l5_1 : w7.heap.size + 1 + 1 + 1 + 1 + 1 < w8.heap.size + 1 := by omega
  have fK_l5_2 : w7.heap.size + 1 + 1 + 1 + 1 + 1 < w8.heap.size + 1 + 1 := by omega
  have fK_l5_3 : w7.heap.size + 1 + 1 + 1 + 1 + 1 < w8.heap.size + 1 + 1 + 1 := by omega
  have fK_l5_4 : w7.heap.size + 1 + 1 + 1 + 1 + 1 < w8.heap.size + 1 + 1 + 1 + 1 := by omega
  have fK_l5_5 : w7.heap.size + 1 + 1 + 1 + 1 + 1 < w8.heap.size + 1 + 1 + 1 + 1 + 1 := by omega
  have fK_l5_6 : w7.heap.size + 1 + 1 + 1 + 1 + 1 < w8.heap.size + 1 + 1 + 1 + 1 + 1 + 1 := by omega
  have fX_0 := KX_8.out.cell 0 (.int .i64 (x)) rfl
  have fX_1 := KX_8.out.cell 1 (.int .i64 (f1)) rfl
  have fX_2 := KX_8.out.cell 2 (.int .i64 (f2)) rfl
  have fX_3 := KX_8.out.cell 3 (.int .i64 (l1)) rfl
  have fX_4 := KX_8.out.cell 4 (.int .i64 (l2)) rfl
  have fX_5 := KX_8.out.cell 5 (.int .i64 (ad)) rfl
  have fX_l := KX_8.out.lt
  have fX_f := KX_8.out.f
  have fX_l0 : w.heap.size < w8.heap.size := by omega
  have fX_l0_1 : w.heap.size < w8.heap.size + 1 := by omega
  have fX_l0_2 : w.heap.size < w8.heap.size + 1 + 1 := by omega
  have fX_l0_3 : w.heap.size < w8.heap.size + 1 + 1 + 1 := by omega
  have fX_l0_4 : w.heap.size < w8.heap.size + 1 + 1 + 1 + 1 := by omega
  have fX_l0_5 : w.heap.size < w8.heap.size + 1 + 1 + 1 + 1 + 1 := by omega
  have fX_l0_6 : w.heap.size < w8.heap.size + 1 + 1 + 1 + 1 + 1 + 1 := by omega
  have fX_l1_1 : w.heap.size + 1 < w8.heap.size + 1 := by omega
  have fX_l1_2 : w.heap.size + 1 < w8.heap.size + 1 + 1 := by omega
  have fX_l1_3 : w.heap.size + 1 < w8.heap.size + 1 + 1 + 1 := by omega
  have fX_l1_4 : w.heap.size + 1 < w8.heap.size + 1 + 1 + 1 + 1 := by omega
  have fX_l1_5 : w.heap.size + 1 < w8.heap.size + 1 + 1 + 1 + 1 + 1 := by omega
  have fX_l1_6 : w.heap.size + 1 < w8.heap.size + 1 + 1 + 1 + 1 + 1 + 1 := by omega
  have nXR0 : ¬ w7.heap.size + 1 + 1 = w.heap.size + 1 := by omega
  have mXR0 : ¬ w.heap.size + 1 = w7.heap.size + 1 + 1 := by omega
  have nXR1 : ¬ w7.heap.size + 1 = w.heap.size := by omega
  have mXR1 : ¬ w.heap.size = w7.heap.size + 1 := by omega
  have nXK0 : ¬ w7.heap.size + 1 + 1 + 1 + 1 + 1 = w.heap.size + 1 := by omega
  have mXK0 : ¬ w.heap.size + 1 = w7.heap.size + 1 + 1 + 1 + 1 + 1 := by omega
  have nXK1 : ¬ w7.heap.size + 1 + 1 + 1 + 1 = w.heap.size := by omega
  have mXK1 : ¬ w.heap.size = w7.heap.size + 1 + 1 + 1 + 1 := by omega
  go_wp2_with (go_at_call 45; refine (HRW.out _).mono ?_; rintro r w9 ⟨rfl, h9⟩; refine Hid.out ?_)
  unfold Hid
  have hB9 := (st6_below (st2_below hB8 (by omega) (.int .i64 (r1)) (.int .i64 (r2))) (by omega) (.int .i64 (k1)) (.int .i64 (k2)) (.int .i64 (k3)) (.int .i64 (k4)) (.int .i64 (k5)) (.int .i64 (k6))).trans (h9.mono (Nat.le_trans hB8.size (by simp; try omega)))
  have KD_9 := Lib.hid (show Blk w9 (w.heap.size) #[(.int .i64 (d1)), (.int .i64 (d2)), (.int .i64 (d3)), (.int .i64 (d4)), (.int .i64 (d5)), (.int .i64 (d6))] from (st6_far (st2_far KD_8.out (by omega) (.int .i64 (r1)) (.int .i64 (r2))) (by omega) (.int .i64 (k1)) (.int .i64 (k2)) (.int .i64 (k3)) (.int .i64 (k4)) (.int .i64 (k5)) (.int .i64 (k6))).below h9)
  have KX_9 := Lib.hid (show Blk w9 (w.heap.size + 1) #[(.int .i64 (x)), (.int .i64 (f1)), (.int .i64 (f2)), (.int .i64 (l1)), (.int .i64 (l2)), (.int .i64 (ad))] from (st6_far (st2_far KX_8.out (by omega) (.int .i64 (r1)) (.int .i64 (r2))) (by omega) (.int .i64 (k1)) (.int .i64 (k2)) (.int .i64 (k3)) (.int .i64 (k4)) (.int .i64 (k5)) (.int .i64 (k6))).below h9)
  have Kc_9 := Lib.hid (show Blk w9 (w2.heap.size) #[(.int .i64 (0)), (.int .i64 (0)), (.int .i64 (0)), (.int .i64 (0)), (.int .i64 (0)), (.int .i64 (0))] from (st6_far (st2_far Kc_8.out (by omega) (.int .i64 (r1)) (.int .i64 (r2))) (by omega) (.int .i64 (k1)) (.int .i64 (k2)) (.int .i64 (k3)) (.int .i64 (k4)) (.int .i64 (k5)) (.int .i64 (k6))).below h9)
  have Kr_9 := Lib.hid (show Blk w9 (w3.heap.size) #[(.int .i64 (r1)), (.int .i64 (r2))] from (st6_far (st2_far Kr_8.out (by omega) (.int .i64 (r1)) (.int .i64 (r2))) (by omega) (.int .i64 (k1)) (.int .i64 (k2)) (.int .i64 (k3)) (.int .i64 (k4)) (.int .i64 (k5)) (.int .i64 (k6))).below h9)
  have Kk_9 := Lib.hid (show Blk w9 (w4.heap.size) #[(.int .i64 (k1)), (.int .i64 (k2)), (.int .i64 (k3)), (.int .i64 (k4)), (.int .i64 (k5)), (.int .i64 (k6))] from (st6_far (st2_far Kk_8.out (by omega) (.int .i64 (r1)) (.int .i64 (r2))) (by omega) (.int .i64 (k1)) (.int .i64 (k2)) (.int .i64 (k3)) (.int .i64 (k4)) (.int .i64 (k5)) (.int .i64 (k6))).below h9)
  have Km_9 := Lib.hid (show Blk w9 (w5.heap.size) #[(.int .i64 (m1)), (.int .i64 (m2))] from (st6_far (st2_far Km_8.out (by omega) (.int .i64 (r1)) (.int .i64 (r2))) (by omega) (.int .i64 (k1)) (.int .i64 (k2)) (.int .i64 (k3)) (.int .i64 (k4)) (.int .i64 (k5)) (.int .i64 (k6))).below h9)
  have Ks_9 := Lib.hid (show Blk w9 (w5.heap.size + 1) #[(.int .i64 (s1)), (.int .i64 (s2))] from (st6_far (st2_far Ks_8.out (by omega) (.int .i64 (r1)) (.int .i64 (r2))) (by omega) (.int .i64 (k1)) (.int .i64 (k2)) (.int .i64 (k3)) (.int .i64 (k4)) (.int .i64 (k5)) (.int .i64 (k6))).below h9)
  have KC_9 := Lib.hid (show Blk w9 (w7.heap.size + 1) #[(.int .i64 (0)), (.int .i64 (0)), (.int .i64 (0)), (.int .i64 (0)), (.int .i64 (0)), (.int .i64 (0))] from (st6_far (st2_far KC_8.out (by omega) (.int .i64 (r1)) (.int .i64 (r2))) (by omega) (.int .i64 (k1)) (.int .i64 (k2)) (.int .i64 (k3)) (.int .i64 (k4)) (.int .i64 (k5)) (.int .i64 (k6))).below h9)
  have KR_9 := Lib.hid (show Blk w9 (w7.heap.size + 1 + 1) #[(.int .i64 (r1)), (.int .i64 (r2))] from (st6_far (st2_blk KR_8.out (.int .i64 (r1)) (.int .i64 (r2))) (by omega) (.int .i64 (k1)) (.int .i64 (k2)) (.int .i64 (k3)) (.int .i64 (k4)) (.int .i64 (k5)) (.int .i64 (k6))).below h9)
  have KM_9 := Lib.hid (show Blk w9 (w7.heap.size + 1 + 1 + 1) #[(.int .i64 (0)), (.int .i64 (0))] from (st6_far (st2_far KM_8.out (by omega) (.int .i64 (r1)) (.int .i64 (r2))) (by omega) (.int .i64 (k1)) (.int .i64 (k2)) (.int .i64 (k3)) (.int .i64 (k4)) (.int .i64 (k5)) (.int .i64 (k6))).below h9)
  have KS_9 := Lib.hid (show Blk w9 (w7.heap.size + 1 + 1 + 1 + 1) #[(.int .i64 (0)), (.int .i64 (0))] from (st6_far (st2_far KS_8.out (by omega) (.int .i64 (r1)) (.int .i64 (r2))) (by omega) (.int .i64 (k1)) (.int .i64 (k2)) (.int .i64 (k3)) (.int .i64 (k4)) (.int .i64 (k5)) (.int .i64 (k6))).below h9)
  have KK_9 := Lib.hid (show Blk w9 (w7.heap.size + 1 + 1 + 1 + 1 + 1) #[(.int .i64 (k1)), (.int .i64 (k2)), (.int .i64 (k3)), (.int .i64 (k4)), (.int .i64 (k5)), (.int .i64 (k6))] from (st6_blk (st2_far KK_8.out (by omega) (.int .i64 (r1)) (.int .i64 (r2))) (.int .i64 (k1)) (.int .i64 (k2)) (.int .i64 (k3)) (.int .i64 (k4)) (.int .i64 (k5)) (.int .i64 (k6))).below h9)
  clear h9 hB8 KD_8 KX_8 Kc_8 Kr_8 Kk_8 Km_8 Ks_8 KC_8 KR_8 KM_8 KS_8 KK_8 fR_0 fR_1 fR_l fR_f fR_l0 fR_l1 fR_l0_1 fR_l0_2 fR_l0_3 fR_l0_4 fR_l0_5 fR_l0_6 fR_l1_1 fR_l1_2 fR_l1_3 fR_l1_4 fR_l1_5 fR_l1_6 fR_l2_1 fR_l2_2 fR_l2_3 fR_l2_4 fR_l2_5 fR_l2_6 fK_0 fK_1 fK_2 fK_3 fK_4 fK_5 fK_l fK_f fK_l0 fK_l1 fK_l2 fK_l3 fK_l4 fK_l0_1 fK_l0_2 fK_l0_3 fK_l0_4 fK_l0_5 fK_l0_6 fK_l1_1 fK_l1_2 fK_l1_3 fK_l1_4 fK_l1_5 fK_l1_6 fK_l2_1 fK_l2_2 fK_l2_3 fK_l2_4 fK_l2_5 fK_l2_6 fK_l3_1 fK_l3_2 fK_l3_3 fK_l3_4 fK_l3_5 fK_l3_6 fK_l4_1 fK_l4_2 fK_l4_3 fK_l4_4 fK_l4_5 fK_l4_6 fK_l5_1 fK_l5_2 fK_l5_3 fK_l5_4 fK_l5_5 fK_l5_6 fX_0 fX_1 fX_2 fX_3 fX_4 fX_5 fX_l fX_f fX_l0 fX_l0_1 fX_l0_2 fX_l0_3 fX_l0_4 fX_l0_5 fX_l0_6 fX_l1_1 fX_l1_2 fX_l1_3 fX_l1_4 fX_l1_5 fX_l1_6 nXR0 mXR0 nXR1 mXR1 nXK0 mXK0 nXK1 mXK1
  have fM_0 := KM_9.out.cell 0 (.int .i64 (0)) rfl
  have fM_1 := KM_9.out.cell 1 (.int .i64 (0)) rfl
  have fM_l := KM_9.out.lt
  have fM_f := KM_9.out.f
  have fM_l0 : w7.heap.size < w9.heap.size := by omega
  have fM_l1 : w7.heap.size + 1 < w9.heap.size := by omega
  have fM_l2 : w7.heap.size + 1 + 1 < w9.heap.size := by omega
  have fM_l0_1 : w7.heap.size < w9.heap.size + 1 := by omega
  have fM_l0_2 : w7.heap.size < w9.heap.size + 1 + 1 := by omega
  have fM_l0_3 : w7.heap.size < w9.heap.size + 1 + 1 + 1 := by omega
  have fM_l0_4 : w7.heap.size < w9.heap.size + 1 + 1 + 1 + 1 := by omega
  have fM_l0_5 : w7.heap.size < w9.heap.size + 1 + 1 + 1 + 1 + 1 := by omega
  have fM_l0_6 : w7.heap.size < w9.heap.size + 1 + 1 + 1 + 1 + 1 + 1 := by omega
  have fM_l1_1 : w7.heap.size + 1 < w9.heap.size + 1 := by omega
  have fM_l1_2 : w7.heap.size + 1 < w9.heap.size + 1 + 1 := by omega
  have fM_l1_3 : w7.heap.size + 1 < w9.heap.size + 1 + 1 + 1 := by omega
  have fM_l1_4 : w7.heap.size + 1 < w9.heap.size + 1 + 1 + 1 + 1 := by omega
  have fM_l1_5 : w7.heap.size + 1 < w9.heap.size + 1 + 1 + 1 + 1 + 1 := by omega
  have fM_l1_6 : w7.heap.size + 1 < w9.heap.size + 1 + 1 + 1 + 1 + 1 + 1 := by omega
  have fM_l2_1 : w7.heap.size + 1 + 1 < w9.heap.size + 1 := by omega
  have fM_l2_2 : w7.heap.size + 1 + 1 < w9.heap.size + 1 + 1 := by omega
  have fM_l2_3 : w7.heap.size + 1 + 1 < w9.heap.size + 1 + 1 + 1 := by omega
  have fM_l2_4 : w7.heap.size + 1 + 1 < w9.heap.size + 1 + 1 + 1 + 1 := by omega
  have fM_l2_5 : w7.heap.size + 1 + 1 < w9.heap.size + 1 + 1 + 1 + 1 + 1 := by omega
  have fM_l2_6 : w7.heap.size + 1 + 1 < w9.heap.size + 1 + 1 + 1 + 1 + 1 + 1 := by omega
  have fM_l3_1 : w7.heap.size + 1 + 1 + 1 < w9.heap.size + 1 := by omega
  have fM_l3_2 : w7.heap.size + 1 + 1 + 1 < w9.heap.size + 1 + 1 := by omega
  have fM_l3_3 : w7.heap.size + 1 + 1 + 1 < w9.heap.size + 1 + 1 + 1 := by omega
  have fM_l3_4 : w7.heap.size + 1 + 1 + 1 < w9.heap.size + 1 + 1 + 1 + 1 := by omega
  have fM_l3_5 : w7.heap.size + 1 + 1 + 1 < w9.heap.size + 1 + 1 + 1 + 1 + 1 := by omega
  have fM_l3_6 : w7.heap.size + 1 + 1 + 1 < w9.heap.size + 1 + 1 + 1 + 1 + 1 + 1 := by omega
  have fS_0 := KS_9.out.cell 0 (.int .i64 (0)) rfl
  have fS_1 := KS_9.out.cell 1 (.int .i64 (0)) rfl
  have fS_l := KS_9.out.lt
  have fS_f := KS_9.out.f
  have fS_l0 : w7.heap.size < w9.heap.size := by omega
  have fS_l1 : w7.heap.size + 1 < w9.heap.size := by omega
  have fS_l2 : w7.heap.size + 1 + 1 < w9.heap.size := by omega
  have fS_l3 : w7.heap.size + 1 + 1 + 1 < w9.heap.size := by omega
  have fS_l0_1 : w7.heap.size < w9.heap.size + 1 := by omega
  have fS_l0_2 : w7.heap.size < w9.heap.size + 1 + 1 := by omega
  have fS_l0_3 : w7.heap.size < w9.heap.size + 1 + 1 + 1 := by omega
  have fS_l0_4 : w7.heap.size < w9.heap.size + 1 + 1 + 1 + 1 := by omega
  have fS_l0_5 : w7.heap.size < w9.heap.size + 1 + 1 + 1 + 1 + 1 := by omega
  have fS_l0_6 : w7.heap.size < w9.heap.size + 1 + 1 + 1 + 1 + 1 + 1 := by omega
  have fS_l1_1 : w7.heap.size + 1 < w9.heap.size + 1 := by omega
  have fS_l1_2 : w7.heap.size + 1 < w9.heap.size + 1 + 1 := by omega
  have fS_l1_3 : w7.heap.size + 1 < w9.heap.size + 1 + 1 + 1 := by omega
  have fS_l1_4 : w7.heap.size + 1 < w9.heap.size + 1 + 1 + 1 + 1 := by omega
  have fS_l1_5 : w7.heap.size + 1 < w9.heap.size + 1 + 1 + 1 + 1 + 1 := by omega
  have fS_l1_6 : w7.heap.size + 1 < w9.heap.size + 1 + 1 + 1 + 1 + 1 + 1 := by omega
  have fS_l2_1 : w7.heap.size + 1 + 1 < w9.heap.size + 1 := by omega
  have fS_l2_2 : w7.heap.size + 1 + 1 < w9.heap.size + 1 + 1 := by omega
  have fS_l2_3 : w7.heap.size + 1 + 1 < w9.heap.size + 1 + 1 + 1 := by omega
  have fS_l2_4 : w7.heap.size + 1 + 1 < w9.heap.size + 1 + 1 + 1 + 1 := by omega
  have fS_l2_5 : w7.heap.size + 1 + 1 < w9.heap.size + 1 + 1 + 1 + 1 + 1 := by omega
  have fS_l2_6 : w7.heap.size + 1 + 1 < w9.heap.size + 1 + 1 + 1 + 1 + 1 + 1 := by omega
  have fS_l3_1 : w7.heap.size + 1 + 1 + 1 < w9.heap.size + 1 := by omega
  have fS_l3_2 : w7.heap.size + 1 + 1 + 1 < w9.heap.size + 1 + 1 := by omega
  have fS_l3_3 : w7.heap.size + 1 + 1 + 1 < w9.heap.size + 1 + 1 + 1 := by omega
  have fS_l3_4 : w7.heap.size + 1 + 1 + 1 < w9.heap.size + 1 + 1 + 1 + 1 := by omega
  have fS_l3_5 : w7.heap.size + 1 + 1 + 1 < w9.heap.size + 1 + 1 + 1 + 1 + 1 := by omega
  have fS_l3_6 : w7.heap.size + 1 + 1 + 1 < w9.heap.size + 1 + 1 + 1 + 1 + 1 + 1 := by omega
  have fS_l4_1 : w7.heap.size + 1 + 1 + 1 + 1 < w9.heap.size + 1 := by omega
  have fS_l4_2 : w7.heap.size + 1 + 1 + 1 + 1 < w9.heap.size + 1 + 1 := by omega
  have fS_l4_3 : w7.heap.size + 1 + 1 + 1 + 1 < w9.heap.size + 1 + 1 + 1 := by omega
  have fS_l4_4 : w7.heap.size + 1 + 1 + 1 + 1 < w9.heap.size + 1 + 1 + 1 + 1 := by omega
  have fS_l4_5 : w7.heap.size + 1 + 1 + 1 + 1 < w9.heap.size + 1 + 1 + 1 + 1 + 1 := by omega
  have fS_l4_6 : w7.heap.size + 1 + 1 + 1 + 1 < w9.heap.size + 1 + 1 + 1 + 1 + 1 + 1 := by omega
  have fc_0 := Kc_9.out.cell 0 (.int .i64 (0)) rfl
  have fc_1 := Kc_9.out.cell 1 (.int .i64 (0)) rfl
  have fc_2 := Kc_9.out.cell 2 (.int .i64 (0)) rfl
  have fc_3 := Kc_9.out.cell 3 (.int .i64 (0)) rfl
  have fc_4 := Kc_9.out.cell 4 (.int .i64 (0)) rfl
  have fc_5 := Kc_9.out.cell 5 (.int .i64 (0)) rfl
  have fc_l := Kc_9.out.lt
  have fc_f := Kc_9.out.f
  have fc_l0_1 : w2.heap.size < w9.heap.size + 1 := by omega
  have fc_l0_2 : w2.heap.size < w9.heap.size + 1 + 1 := by omega
  have fc_l0_3 : w2.heap.size < w9.heap.size + 1 + 1 + 1 := by omega
  have fc_l0_4 : w2.heap.size < w9.heap.size + 1 + 1 + 1 + 1 := by omega
  have fc_l0_5 : w2.heap.size < w9.heap.size + 1 + 1 + 1 + 1 + 1 := by omega
  have fc_l0_6 : w2.heap.size < w9.heap.size + 1 + 1 + 1 + 1 + 1 + 1 := by omega
  have ncM0 : ¬ w7.heap.size + 1 + 1 + 1 = w2.heap.size := by omega
  have mcM0 : ¬ w2.heap.size = w7.heap.size + 1 + 1 + 1 := by omega
  have ncS0 : ¬ w7.heap.size + 1 + 1 + 1 + 1 = w2.heap.size := by omega
  have mcS0 : ¬ w2.heap.size = w7.heap.size + 1 + 1 + 1 + 1 := by omega
  have fC_0 := KC_9.out.cell 0 (.int .i64 (0)) rfl
  have fC_1 := KC_9.out.cell 1 (.int .i64 (0)) rfl
  have fC_2 := KC_9.out.cell 2 (.int .i64 (0)) rfl
  have fC_3 := KC_9.out.cell 3 (.int .i64 (0)) rfl
  have fC_4 := KC_9.out.cell 4 (.int .i64 (0)) rfl
  have fC_5 := KC_9.out.cell 5 (.int .i64 (0)) rfl
  have fC_l := KC_9.out.lt
  have fC_f := KC_9.out.f
  have fC_l0 : w7.heap.size < w9.heap.size := by omega
  have fC_l0_1 : w7.heap.size < w9.heap.size + 1 := by omega
  have fC_l0_2 : w7.heap.size < w9.heap.size + 1 + 1 := by omega
  have fC_l0_3 : w7.heap.size < w9.heap.size + 1 + 1 + 1 := by omega
  have fC_l0_4 : w7.heap.size < w9.heap.size + 1 + 1 + 1 + 1 := by omega
  have fC_l0_5 : w7.heap.size < w9.heap.size + 1 + 1 + 1 + 1 + 1 := by omega
  have fC_l0_6 : w7.heap.size < w9.heap.size + 1 + 1 + 1 + 1 + 1 + 1 := by omega
  have fC_l1_1 : w7.heap.size + 1 < w9.heap.size + 1 := by omega
  have fC_l1_2 : w7.heap.size + 1 < w9.heap.size + 1 + 1 := by omega
  have fC_l1_3 : w7.heap.size + 1 < w9.heap.size + 1 + 1 + 1 := by omega
  have fC_l1_4 : w7.heap.size + 1 < w9.heap.size + 1 + 1 + 1 + 1 := by omega
  have fC_l1_5 : w7.heap.size + 1 < w9.heap.size + 1 + 1 + 1 + 1 + 1 := by omega
  have fC_l1_6 : w7.heap.size + 1 < w9.heap.size + 1 + 1 + 1 + 1 + 1 + 1 := by omega
  have fr_0 := Kr_9.out.cell 0 (.int .i64 (r1)) rfl
  have fr_1 := Kr_9.out.cell 1 (.int .i64 (r2)) rfl
  have fr_l := Kr_9.out.lt
  have fr_f := Kr_9.out.f
  have fr_l0_1 : w3.heap.size < w9.heap.size + 1 := by omega
  have fr_l0_2 : w3.heap.size < w9.heap.size + 1 + 1 := by omega
  have fr_l0_3 : w3.heap.size < w9.heap.size + 1 + 1 + 1 := by omega
  have fr_l0_4 : w3.heap.size < w9.heap.size + 1 + 1 + 1 + 1 := by omega
  have fr_l0_5 : w3.heap.size < w9.heap.size + 1 + 1 + 1 + 1 + 1 := by omega
  have fr_l0_6 : w3.heap.size < w9.heap.size + 1 + 1 + 1 + 1 + 1 + 1 := by omega
  have nrM0 : ¬ w7.heap.size + 1 + 1 + 1 = w3.heap.size := by omega
  have mrM0 : ¬ w3.heap.size = w7.heap.size + 1 + 1 + 1 := by omega
  have nrS0 : ¬ w7.heap.size + 1 + 1 + 1 + 1 = w3.heap.size := by omega
  have mrS0 : ¬ w3.heap.size = w7.heap.size + 1 + 1 + 1 + 1 := by omega
  have fR_0 := KR_9.out.cell 0 (.int .i64 (r1)) rfl
  have fR_1 := KR_9.out.cell 1 (.int .i64 (r2)) rfl
  have fR_l := KR_9.out.lt
  have fR_f := KR_9.out.f
  have fR_l0 : w7.heap.size < w9.heap.size := by omega
  have fR_l1 : w7.heap.size + 1 < w9.heap.size := by omega
  have fR_l0_1 : w7.heap.size < w9.heap.size + 1 := by omega
  have fR_l0_2 : w7.heap.size < w9.heap.size + 1 + 1 := by omega
  have fR_l0_3 : w7.heap.size < w9.heap.size + 1 + 1 + 1 := by omega
  have fR_l0_4 : w7.heap.size < w9.heap.size + 1 + 1 + 1 + 1 := by omega
  have fR_l0_5 : w7.heap.size < w9.heap.size + 1 + 1 + 1 + 1 + 1 := by omega
  have fR_l0_6 : w7.heap.size < w9.heap.size + 1 + 1 + 1 + 1 + 1 + 1 := by omega
  have fR_l1_1 : w7.heap.size + 1 < w9.heap.size + 1 := by omega
  have fR_l1_2 : w7.heap.size + 1 < w9.heap.size + 1 + 1 := by omega
  have fR_l1_3 : w7.heap.size + 1 < w9.heap.size + 1 + 1 + 1 := by omega
  have fR_l1_4 : w7.heap.size + 1 < w9.heap.size + 1 + 1 + 1 + 1 := by omega
  have fR_l1_5 : w7.heap.size + 1 < w9.heap.size + 1 + 1 + 1 + 1 + 1 := by omega
  have fR_l1_6 : w7.heap.size + 1 < w9.heap.size + 1 + 1 + 1 + 1 + 1 + 1 := by omega
  have fR_l2_1 : w7.heap.size + 1 + 1 < w9.heap.size + 1 := by omega
  have fR_l2_2 : w7.heap.size + 1 + 1 < w9.heap.size + 1 + 1 := by omega
  have fR_l2_3 : w7.heap.size + 1 + 1 < w9.heap.size + 1 + 1 + 1 := by omega
  have fR_l2_4 : w7.heap.size + 1 + 1 < w9.heap.size + 1 + 1 + 1 + 1 := by omega
  have fR_l2_5 : w7.heap.size + 1 + 1 < w9.heap.size + 1 + 1 + 1 + 1 + 1 := by omega
  have fR_l2_6 : w7.heap.size + 1 + 1 < w9.heap.size + 1 + 1 + 1 + 1 + 1 + 1 := by omega
  have fk_0 := Kk_9.out.cell 0 (.int .i64 (k1)) rfl
  have fk_1 := Kk_9.out.cell 1 (.int .i64 (k2)) rfl
  have fk_2 := Kk_9.out.cell 2 (.int .i64 (k3)) rfl
  have fk_3 := Kk_9.out.cell 3 (.int .i64 (k4)) rfl
  have fk_4 := Kk_9.out.cell 4 (.int .i64 (k5)) rfl
  have fk_5 := Kk_9.out.cell 5 (.int .i64 (k6)) rfl
  have fk_l := Kk_9.out.lt
  have fk_f := Kk_9.out.f
  have fk_l0_1 : w4.heap.size < w9.heap.size + 1 := by omega
  have fk_l0_2 : w4.heap.size < w9.heap.size + 1 + 1 := by omega
  have fk_l0_3 : w4.heap.size < w9.heap.size + 1 + 1 + 1 := by omega
  have fk_l0_4 : w4.heap.size < w9.heap.size + 1 + 1 + 1 + 1 := by omega
  have fk_l0_5 : w4.heap.size < w9.heap.size + 1 + 1 + 1 + 1 + 1 := by omega
  have fk_l0_6 : w4.heap.size < w9.heap.size + 1 + 1 + 1 + 1 + 1 + 1 := by omega
  have nkM0 : ¬ w7.heap.size + 1 + 1 + 1 = w4.heap.size := by omega
  have mkM0 : ¬ w4.heap.size = w7.heap.size + 1 + 1 + 1 := by omega
  have nkS0 : ¬ w7.heap.size + 1 + 1 + 1 + 1 = w4.heap.size := by omega
  have mkS0 : ¬ w4.heap.size = w7.heap.size + 1 + 1 + 1 + 1 := by omega
  have fK_0 := KK_9.out.cell 0 (.int .i64 (k1)) rfl
  have fK_1 := KK_9.out.cell 1 (.int .i64 (k2)) rfl
  have fK_2 := KK_9.out.cell 2 (.int .i64 (k3)) rfl
  have fK_3 := KK_9.out.cell 3 (.int .i64 (k4)) rfl
  have fK_4 := KK_9.out.cell 4 (.int .i64 (k5)) rfl
  have fK_5 := KK_9.out.cell 5 (.int .i64 (k6)) rfl
  have fK_l := KK_9.out.lt
  have fK_f := KK_9.out.f
  have fK_l0 : w7.heap.size < w9.heap.size := by omega
  have fK_l1 : w7.heap.size + 1 < w9.heap.size := by omega
  have fK_l2 : w7.heap.size + 1 + 1 < w9.heap.size := by omega
  have fK_l3 : w7.heap.size + 1 + 1 + 1 < w9.heap.size := by omega
  have fK_l4 : w7.heap.size + 1 + 1 + 1 + 1 < w9.heap.size := by omega
  have fK_l0_1 : w7.heap.size < w9.heap.size + 1 := by omega
  have fK_l0_2 : w7.heap.size < w9.heap.size + 1 + 1 := by omega
  have fK_l0_3 : w7.heap.size < w9.heap.size + 1 + 1 + 1 := by omega
  have fK_l0_4 : w7.heap.size < w9.heap.size + 1 + 1 + 1 + 1 := by omega
  have fK_l0_5 : w7.heap.size < w9.heap.size + 1 + 1 + 1 + 1 + 1 := by omega
  have fK_l0_6 : w7.heap.size < w9.heap.size + 1 + 1 + 1 + 1 + 1 + 1 := by omega
  have fK_l1_1 : w7.heap.size + 1 < w9.heap.size + 1 := by omega
  have fK_l1_2 : w7.heap.size + 1 < w9.heap.size + 1 + 1 := by omega
  have fK_l1_3 : w7.heap.size + 1 < w9.heap.size + 1 + 1 + 1 := by omega
  have fK_l1_4 : w7.heap.size + 1 < w9.heap.size + 1 + 1 + 1 + 1 := by omega
  have fK_l1_5 : w7.heap.size + 1 < w9.heap.size + 1 + 1 + 1 + 1 + 1 := by omega
  have fK_l1_6 : w7.heap.size + 1 < w9.heap.size + 1 + 1 + 1 + 1 + 1 + 1 := by omega
  have fK_l2_1 : w7.heap.size + 1 + 1 < w9.heap.size + 1 := by omega
  have fK_l2_2 : w7.heap.size + 1 + 1 < w9.heap.size + 1 + 1 := by omega
  have fK_l2_3 : w7.heap.size + 1 + 1 < w9.heap.size + 1 + 1 + 1 := by omega
  have fK_l2_4 : w7.heap.size + 1 + 1 < w9.heap.size + 1 + 1 + 1 + 1 := by omega
  have fK_l2_5 : w7.heap.size + 1 + 1 < w9.heap.size + 1 + 1 + 1 + 1 + 1 := by omega
  have fK_l2_6 : w7.heap.size + 1 + 1 < w9.heap.size + 1 + 1 + 1 + 1 + 1 + 1 := by omega
  have fK_l3_1 : w7.heap.size + 1 + 1 + 1 < w9.heap.size + 1 := by omega
  have fK_l3_2 : w7.heap.size + 1 + 1 + 1 < w9.heap.size + 1 + 1 := by omega
  have fK_l3_3 : w7.heap.size + 1 + 1 + 1 < w9.heap.size + 1 + 1 + 1 := by omega
  have fK_l3_4 : w7.heap.size + 1 + 1 + 1 < w9.heap.size + 1 + 1 + 1 + 1 := by omega
  have fK_l3_5 : w7.heap.size + 1 + 1 + 1 < w9.heap.size + 1 + 1 + 1 + 1 + 1 := by omega
  have fK_l3_6 : w7.heap.size + 1 + 1 + 1 < w9.heap.size + 1 + 1 + 1 + 1 + 1 + 1 := by omega
  have fK_l4_1 : w7.heap.size + 1 + 1 + 1 + 1 < w9.heap.size + 1 := by omega
  have fK_l4_2 : w7.heap.size + 1 + 1 + 1 + 1 < w9.heap.size + 1 + 1 := by omega
  have fK_l4_3 : w7.heap.size + 1 + 1 + 1 + 1 < w9.heap.size + 1 + 1 + 1 := by omega
  have fK_l4_4 : w7.heap.size + 1 + 1 + 1 + 1 < w9.heap.size + 1 + 1 + 1 + 1 := by omega
  have fK_l4_5 : w7.heap.size + 1 + 1 + 1 + 1 < w9.heap.size + 1 + 1 + 1 + 1 + 1 := by omega
  have fK_l4_6 : w7.heap.size + 1 + 1 + 1 + 1 < w9.heap.size + 1 + 1 + 1 + 1 + 1 + 1 := by omega
  have fK_l5_1 : w7.heap.size + 1 + 1 + 1 + 1 + 1 < w9.heap.size + 1 := by omega
  have fK_l5_2 : w7.heap.size + 1 + 1 + 1 + 1 + 1 < w9.heap.size + 1 + 1 := by omega
  have fK_l5_3 : w7.heap.size + 1 + 1 + 1 + 1 + 1 < w9.heap.size + 1 + 1 + 1 := by omega
  have fK_l5_4 : w7.heap.size + 1 + 1 + 1 + 1 + 1 < w9.heap.size + 1 + 1 + 1 + 1 := by omega
  have fK_l5_5 : w7.heap.size + 1 + 1 + 1 + 1 + 1 < w9.heap.size + 1 + 1 + 1 + 1 + 1 := by omega
  have fK_l5_6 : w7.heap.size + 1 + 1 + 1 + 1 + 1 < w9.heap.size + 1 + 1 + 1 + 1 + 1 + 1 := by omega
  have fm_0 := Km_9.out.cell 0 (.int .i64 (m1)) rfl
  have fm_1 := Km_9.out.cell 1 (.int .i64 (m2)) rfl
  have fm_l := Km_9.out.lt
  have fm_f := Km_9.out.f
  have fm_l0_1 : w5.heap.size < w9.heap.size + 1 := by omega
  have fm_l0_2 : w5.heap.size < w9.heap.size + 1 + 1 := by omega
  have fm_l0_3 : w5.heap.size < w9.heap.size + 1 + 1 + 1 := by omega
  have fm_l0_4 : w5.heap.size < w9.heap.size + 1 + 1 + 1 + 1 := by omega
  have fm_l0_5 : w5.heap.size < w9.heap.size + 1 + 1 + 1 + 1 + 1 := by omega
  have fm_l0_6 : w5.heap.size < w9.heap.size + 1 + 1 + 1 + 1 + 1 + 1 := by omega
  have nmM0 : ¬ w7.heap.size + 1 + 1 + 1 = w5.heap.size := by omega
  have mmM0 : ¬ w5.heap.size = w7.heap.size + 1 + 1 + 1 := by omega
  have nmS0 : ¬ w7.heap.size + 1 + 1 + 1 + 1 = w5.heap.size := by omega
  have mmS0 : ¬ w5.heap.size = w7.heap.size + 1 + 1 + 1 + 1 := by omega
  have fs_0 := Ks_9.out.cell 0 (.int .i64 (s1)) rfl
  have fs_1 := Ks_9.out.cell 1 (.int .i64 (s2)) rfl
  have fs_l := Ks_9.out.lt
  have fs_f := Ks_9.out.f
  have fs_l0 : w5.heap.size < w9.heap.size := by omega
  have fs_l0_1 : w5.heap.size < w9.heap.size + 1 := by omega
  have fs_l0_2 : w5.heap.size < w9.heap.size + 1 + 1 := by omega
  have fs_l0_3 : w5.heap.size < w9.heap.size + 1 + 1 + 1 := by omega
  have fs_l0_4 : w5.heap.size < w9.heap.size + 1 + 1 + 1 + 1 := by omega
  have fs_l0_5 : w5.heap.size < w9.heap.size + 1 + 1 + 1 + 1 + 1 := by omega
  have fs_l0_6 : w5.heap.size < w9.heap.size + 1 + 1 + 1 + 1 + 1 + 1 := by omega
  have fs_l1_1 : w5.heap.size + 1 < w9.heap.size + 1 := by omega
  have fs_l1_2 : w5.heap.size + 1 < w9.heap.size + 1 + 1 := by omega
  have fs_l1_3 : w5.heap.size + 1 < w9.heap.size + 1 + 1 + 1 := by omega
  have fs_l1_4 : w5.heap.size + 1 < w9.heap.size + 1 + 1 + 1 + 1 := by omega
  have fs_l1_5 : w5.heap.size + 1 < w9.heap.size + 1 + 1 + 1 + 1 + 1 := by omega
  have fs_l1_6 : w5.heap.size + 1 < w9.heap.size + 1 + 1 + 1 + 1 + 1 + 1 := by omega
  have nsM0 : ¬ w7.heap.size + 1 + 1 + 1 = w5.heap.size + 1 := by omega
  have msM0 : ¬ w5.heap.size + 1 = w7.heap.size + 1 + 1 + 1 := by omega
  have nsM1 : ¬ w7.heap.size + 1 + 1 = w5.heap.size := by omega
  have msM1 : ¬ w5.heap.size = w7.heap.size + 1 + 1 := by omega
  have nsS0 : ¬ w7.heap.size + 1 + 1 + 1 + 1 = w5.heap.size + 1 := by omega
  have msS0 : ¬ w5.heap.size + 1 = w7.heap.size + 1 + 1 + 1 + 1 := by omega
  have nsS1 : ¬ w7.heap.size + 1 + 1 + 1 = w5.heap.size := by omega
  have msS1 : ¬ w5.heap.size = w7.heap.size + 1 + 1 + 1 := by omega
  go_wp2_with (go_at_call 35; refine (HQ1.out _).mono ?_; rintro r w10 ⟨rfl, h10⟩; refine Hid.out ?_)
  unfold Hid
  have hB10 := (st2_below (st2_below hB9 (by omega) (.int .i64 (m1)) (.int .i64 (m2))) (by omega) (.int .i64 (s1)) (.int .i64 (s2))).trans (h10.mono (Nat.le_trans hB9.size (by simp; try omega)))
  have KD_10 := Lib.hid (show Blk w10 (w.heap.size) #[(.int .i64 (d1)), (.int .i64 (d2)), (.int .i64 (d3)), (.int .i64 (d4)), (.int .i64 (d5)), (.int .i64 (d6))] from (st2_far (st2_far KD_9.out (by omega) (.int .i64 (m1)) (.int .i64 (m2))) (by omega) (.int .i64 (s1)) (.int .i64 (s2))).below h10)
  have KX_10 := Lib.hid (show Blk w10 (w.heap.size + 1) #[(.int .i64 (x)), (.int .i64 (f1)), (.int .i64 (f2)), (.int .i64 (l1)), (.int .i64 (l2)), (.int .i64 (ad))] from (st2_far (st2_far KX_9.out (by omega) (.int .i64 (m1)) (.int .i64 (m2))) (by omega) (.int .i64 (s1)) (.int .i64 (s2))).below h10)
  have Kc_10 := Lib.hid (show Blk w10 (w2.heap.size) #[(.int .i64 (0)), (.int .i64 (0)), (.int .i64 (0)), (.int .i64 (0)), (.int .i64 (0)), (.int .i64 (0))] from (st2_far (st2_far Kc_9.out (by omega) (.int .i64 (m1)) (.int .i64 (m2))) (by omega) (.int .i64 (s1)) (.int .i64 (s2))).below h10)
  have Kr_10 := Lib.hid (show Blk w10 (w3.heap.size) #[(.int .i64 (r1)), (.int .i64 (r2))] from (st2_far (st2_far Kr_9.out (by omega) (.int .i64 (m1)) (.int .i64 (m2))) (by omega) (.int .i64 (s1)) (.int .i64 (s2))).below h10)
  have Kk_10 := Lib.hid (show Blk w10 (w4.heap.size) #[(.int .i64 (k1)), (.int .i64 (k2)), (.int .i64 (k3)), (.int .i64 (k4)), (.int .i64 (k5)), (.int .i64 (k6))] from (st2_far (st2_far Kk_9.out (by omega) (.int .i64 (m1)) (.int .i64 (m2))) (by omega) (.int .i64 (s1)) (.int .i64 (s2))).below h10)
  have Km_10 := Lib.hid (show Blk w10 (w5.heap.size) #[(.int .i64 (m1)), (.int .i64 (m2))] from (st2_far (st2_far Km_9.out (by omega) (.int .i64 (m1)) (.int .i64 (m2))) (by omega) (.int .i64 (s1)) (.int .i64 (s2))).below h10)
  have Ks_10 := Lib.hid (show Blk w10 (w5.heap.size + 1) #[(.int .i64 (s1)), (.int .i64 (s2))] from (st2_far (st2_far Ks_9.out (by omega) (.int .i64 (m1)) (.int .i64 (m2))) (by omega) (.int .i64 (s1)) (.int .i64 (s2))).below h10)
  have KC_10 := Lib.hid (show Blk w10 (w7.heap.size + 1) #[(.int .i64 (0)), (.int .i64 (0)), (.int .i64 (0)), (.int .i64 (0)), (.int .i64 (0)), (.int .i64 (0))] from (st2_far (st2_far KC_9.out (by omega) (.int .i64 (m1)) (.int .i64 (m2))) (by omega) (.int .i64 (s1)) (.int .i64 (s2))).below h10)
  have KR_10 := Lib.hid (show Blk w10 (w7.heap.size + 1 + 1) #[(.int .i64 (r1)), (.int .i64 (r2))] from (st2_far (st2_far KR_9.out (by omega) (.int .i64 (m1)) (.int .i64 (m2))) (by omega) (.int .i64 (s1)) (.int .i64 (s2))).below h10)
  have KM_10 := Lib.hid (show Blk w10 (w7.heap.size + 1 + 1 + 1) #[(.int .i64 (m1)), (.int .i64 (m2))] from (st2_far (st2_blk KM_9.out (.int .i64 (m1)) (.int .i64 (m2))) (by omega) (.int .i64 (s1)) (.int .i64 (s2))).below h10)
  have KS_10 := Lib.hid (show Blk w10 (w7.heap.size + 1 + 1 + 1 + 1) #[(.int .i64 (s1)), (.int .i64 (s2))] from (st2_blk (st2_far KS_9.out (by omega) (.int .i64 (m1)) (.int .i64 (m2))) (.int .i64 (s1)) (.int .i64 (s2))).below h10)
  have KK_10 := Lib.hid (show Blk w10 (w7.heap.size + 1 + 1 + 1 + 1 + 1) #[(.int .i64 (k1)), (.int .i64 (k2)), (.int .i64 (k3)), (.int .i64 (k4)), (.int .i64 (k5)), (.int .i64 (k6))] from (st2_far (st2_far KK_9.out (by omega) (.int .i64 (m1)) (.int .i64 (m2))) (by omega) (.int .i64 (s1)) (.int .i64 (s2))).below h10)
  clear h10 hB9 KD_9 KX_9 Kc_9 Kr_9 Kk_9 Km_9 Ks_9 KC_9 KR_9 KM_9 KS_9 KK_9 fM_0 fM_1 fM_l fM_f fM_l0 fM_l1 fM_l2 fM_l0_1 fM_l0_2 fM_l0_3 fM_l0_4 fM_l0_5 fM_l0_6 fM_l1_1 fM_l1_2 fM_l1_3 fM_l1_4 fM_l1_5 fM_l1_6 fM_l2_1 fM_l2_2 fM_l2_3 fM_l2_4 fM_l2_5 fM_l2_6 fM_l3_1 fM_l3_2 fM_l3_3 fM_l3_4 fM_l3_5 fM_l3_6 fS_0 fS_1 fS_l fS_f fS_l0 fS_l1 fS_l2 fS_l3 fS_l0_1 fS_l0_2 fS_l0_3 fS_l0_4 fS_l0_5 fS_l0_6 fS_l1_1 fS_l1_2 fS_l1_3 fS_l1_4 fS_l1_5 fS_l1_6 fS_l2_1 fS_l2_2 fS_l2_3 fS_l2_4 fS_l2_5 fS_l2_6 fS_l3_1 fS_l3_2 fS_l3_3 fS_l3_4 fS_l3_5 fS_l3_6 fS_l4_1 fS_l4_2 fS_l4_3 fS_l4_4 fS_l4_5 fS_l4_6 fc_0 fc_1 fc_2 fc_3 fc_4 fc_5 fc_l fc_f fc_l0_1 fc_l0_2 fc_l0_3 fc_l0_4 fc_l0_5 fc_l0_6 ncM0 mcM0 ncS0 mcS0 fC_0 fC_1 fC_2 fC_3 fC_4 fC_5 fC_l fC_f fC_l0 fC_l0_1 fC_l0_2 fC_l0_3 fC_l0_4 fC_l0_5 fC_l0_6 fC_l1_1 fC_l1_2 fC_l1_3 fC_l1_4 fC_l1_5 fC_l1_6 fr_0 fr_1 fr_l fr_f fr_l0_1 fr_l0_2 fr_l0_3 fr_l0_4 fr_l0_5 fr_l0_6 nrM0 mrM0 nrS0 mrS0 fR_0 fR_1 fR_l fR_f fR_l0 fR_l1 fR_l0_1 fR_l0_2 fR_l0_3 fR_l0_4 fR_l0_5 fR_l0_6 fR_l1_1 fR_l1_2 fR_l1_3 fR_l1_4 fR_l1_5 fR_l1_6 fR_l2_1 fR_l2_2 fR_l2_3 fR_l2_4 fR_l2_5 fR_l2_6 fk_0 fk_1 fk_2 fk_3 fk_4 fk_5 fk_l fk_f fk_l0_1 fk_l0_2 fk_l0_3 fk_l0_4 fk_l0_5 fk_l0_6 nkM0 mkM0 nkS0 mkS0 fK_0 fK_1 fK_2 fK_3 fK_4 fK_5 fK_l fK_f fK_l0 fK_l1 fK_l2 fK_l3 fK_l4 fK_l0_1 fK_l0_2 fK_l0_3 fK_l0_4 fK_l0_5 fK_l0_6 fK_l1_1 fK_l1_2 fK_l1_3 fK_l1_4 fK_l1_5 fK_l1_6 fK_l2_1 fK_l2_2 fK_l2_3 fK_l2_4 fK_l2_5 fK_l2_6 fK_l3_1 fK_l3_2 fK_l3_3 fK_l3_4 fK_l3_5 fK_l3_6 fK_l4_1 fK_l4_2 fK_l4_3 fK_l4_4 fK_l4_5 fK_l4_6 fK_l5_1 fK_l5_2 fK_l5_3 fK_l5_4 fK_l5_5 fK_l5_6 fm_0 fm_1 fm_l fm_f fm_l0_1 fm_l0_2 fm_l0_3 fm_l0_4 fm_l0_5 fm_l0_6 nmM0 mmM0 nmS0 mmS0 fs_0 fs_1 fs_l fs_f fs_l0 fs_l0_1 fs_l0_2 fs_l0_3 fs_l0_4 fs_l0_5 fs_l0_6 fs_l1_1 fs_l1_2 fs_l1_3 fs_l1_4 fs_l1_5 fs_l1_6 nsM0 msM0 nsM1 msM1 nsS0 msS0 nsS1 msS1
  have fc_0 := Kc_10.out.cell 0 (.int .i64 (0)) rfl
  have fc_1 := Kc_10.out.cell 1 (.int .i64 (0)) rfl
  have fc_2 := Kc_10.out.cell 2 (.int .i64 (0)) rfl
  have fc_3 := Kc_10.out.cell 3 (.int .i64 (0)) rfl
  have fc_4 := Kc_10.out.cell 4 (.int .i64 (0)) rfl
  have fc_5 := Kc_10.out.cell 5 (.int .i64 (0)) rfl
  have fc_l := Kc_10.out.lt
  have fc_f := Kc_10.out.f
  have fc_l0_1 : w2.heap.size < w10.heap.size + 1 := by omega
  have fc_l0_2 : w2.heap.size < w10.heap.size + 1 + 1 := by omega
  have fc_l0_3 : w2.heap.size < w10.heap.size + 1 + 1 + 1 := by omega
  have fc_l0_4 : w2.heap.size < w10.heap.size + 1 + 1 + 1 + 1 := by omega
  have fc_l0_5 : w2.heap.size < w10.heap.size + 1 + 1 + 1 + 1 + 1 := by omega
  have fc_l0_6 : w2.heap.size < w10.heap.size + 1 + 1 + 1 + 1 + 1 + 1 := by omega
  have fC_0 := KC_10.out.cell 0 (.int .i64 (0)) rfl
  have fC_1 := KC_10.out.cell 1 (.int .i64 (0)) rfl
  have fC_2 := KC_10.out.cell 2 (.int .i64 (0)) rfl
  have fC_3 := KC_10.out.cell 3 (.int .i64 (0)) rfl
  have fC_4 := KC_10.out.cell 4 (.int .i64 (0)) rfl
  have fC_5 := KC_10.out.cell 5 (.int .i64 (0)) rfl
  have fC_l := KC_10.out.lt
  have fC_f := KC_10.out.f
  have fC_l0 : w7.heap.size < w10.heap.size := by omega
  have fC_l0_1 : w7.heap.size < w10.heap.size + 1 := by omega
  have fC_l0_2 : w7.heap.size < w10.heap.size + 1 + 1 := by omega
  have fC_l0_3 : w7.heap.size < w10.heap.size + 1 + 1 + 1 := by omega
  have fC_l0_4 : w7.heap.size < w10.heap.size + 1 + 1 + 1 + 1 := by omega
  have fC_l0_5 : w7.heap.size < w10.heap.size + 1 + 1 + 1 + 1 + 1 := by omega
  have fC_l0_6 : w7.heap.size < w10.heap.size + 1 + 1 + 1 + 1 + 1 + 1 := by omega
  have fC_l1_1 : w7.heap.size + 1 < w10.heap.size + 1 := by omega
  have fC_l1_2 : w7.heap.size + 1 < w10.heap.size + 1 + 1 := by omega
  have fC_l1_3 : w7.heap.size + 1 < w10.heap.size + 1 + 1 + 1 := by omega
  have fC_l1_4 : w7.heap.size + 1 < w10.heap.size + 1 + 1 + 1 + 1 := by omega
  have fC_l1_5 : w7.heap.size + 1 < w10.heap.size + 1 + 1 + 1 + 1 + 1 := by omega
  have fC_l1_6 : w7.heap.size + 1 < w10.heap.size + 1 + 1 + 1 + 1 + 1 + 1 := by omega
  have fr_0 := Kr_10.out.cell 0 (.int .i64 (r1)) rfl
  have fr_1 := Kr_10.out.cell 1 (.int .i64 (r2)) rfl
  have fr_l := Kr_10.out.lt
  have fr_f := Kr_10.out.f
  have fr_l0_1 : w3.heap.size < w10.heap.size + 1 := by omega
  have fr_l0_2 : w3.heap.size < w10.heap.size + 1 + 1 := by omega
  have fr_l0_3 : w3.heap.size < w10.heap.size + 1 + 1 + 1 := by omega
  have fr_l0_4 : w3.heap.size < w10.heap.size + 1 + 1 + 1 + 1 := by omega
  have fr_l0_5 : w3.heap.size < w10.heap.size + 1 + 1 + 1 + 1 + 1 := by omega
  have fr_l0_6 : w3.heap.size < w10.heap.size + 1 + 1 + 1 + 1 + 1 + 1 := by omega
  have fR_0 := KR_10.out.cell 0 (.int .i64 (r1)) rfl
  have fR_1 := KR_10.out.cell 1 (.int .i64 (r2)) rfl
  have fR_l := KR_10.out.lt
  have fR_f := KR_10.out.f
  have fR_l0 : w7.heap.size < w10.heap.size := by omega
  have fR_l1 : w7.heap.size + 1 < w10.heap.size := by omega
  have fR_l0_1 : w7.heap.size < w10.heap.size + 1 := by omega
  have fR_l0_2 : w7.heap.size < w10.heap.size + 1 + 1 := by omega
  have fR_l0_3 : w7.heap.size < w10.heap.size + 1 + 1 + 1 := by omega
  have fR_l0_4 : w7.heap.size < w10.heap.size + 1 + 1 + 1 + 1 := by omega
  have fR_l0_5 : w7.heap.size < w10.heap.size + 1 + 1 + 1 + 1 + 1 := by omega
  have fR_l0_6 : w7.heap.size < w10.heap.size + 1 + 1 + 1 + 1 + 1 + 1 := by omega
  have fR_l1_1 : w7.heap.size + 1 < w10.heap.size + 1 := by omega
  have fR_l1_2 : w7.heap.size + 1 < w10.heap.size + 1 + 1 := by omega
  have fR_l1_3 : w7.heap.size + 1 < w10.heap.size + 1 + 1 + 1 := by omega
  have fR_l1_4 : w7.heap.size + 1 < w10.heap.size + 1 + 1 + 1 + 1 := by omega
  have fR_l1_5 : w7.heap.size + 1 < w10.heap.size + 1 + 1 + 1 + 1 + 1 := by omega
  have fR_l1_6 : w7.heap.size + 1 < w10.heap.size + 1 + 1 + 1 + 1 + 1 + 1 := by omega
  have fR_l2_1 : w7.heap.size + 1 + 1 < w10.heap.size + 1 := by omega
  have fR_l2_2 : w7.heap.size + 1 + 1 < w10.heap.size + 1 + 1 := by omega
  have fR_l2_3 : w7.heap.size + 1 + 1 < w10.heap.size + 1 + 1 + 1 := by omega
  have fR_l2_4 : w7.heap.size + 1 + 1 < w10.heap.size + 1 + 1 + 1 + 1 := by omega
  have fR_l2_5 : w7.heap.size + 1 + 1 < w10.heap.size + 1 + 1 + 1 + 1 + 1 := by omega
  have fR_l2_6 : w7.heap.size + 1 + 1 < w10.heap.size + 1 + 1 + 1 + 1 + 1 + 1 := by omega
  have fk_0 := Kk_10.out.cell 0 (.int .i64 (k1)) rfl
  have fk_1 := Kk_10.out.cell 1 (.int .i64 (k2)) rfl
  have fk_2 := Kk_10.out.cell 2 (.int .i64 (k3)) rfl
  have fk_3 := Kk_10.out.cell 3 (.int .i64 (k4)) rfl
  have fk_4 := Kk_10.out.cell 4 (.int .i64 (k5)) rfl
  have fk_5 := Kk_10.out.cell 5 (.int .i64 (k6)) rfl
  have fk_l := Kk_10.out.lt
  have fk_f := Kk_10.out.f
  have fk_l0_1 : w4.heap.size < w10.heap.size + 1 := by omega
  have fk_l0_2 : w4.heap.size < w10.heap.size + 1 + 1 := by omega
  have fk_l0_3 : w4.heap.size < w10.heap.size + 1 + 1 + 1 := by omega
  have fk_l0_4 : w4.heap.size < w10.heap.size + 1 + 1 + 1 + 1 := by omega
  have fk_l0_5 : w4.heap.size < w10.heap.size + 1 + 1 + 1 + 1 + 1 := by omega
  have fk_l0_6 : w4.heap.size < w10.heap.size + 1 + 1 + 1 + 1 + 1 + 1 := by omega
  have fK_0 := KK_10.out.cell 0 (.int .i64 (k1)) rfl
  have fK_1 := KK_10.out.cell 1 (.int .i64 (k2)) rfl
  have fK_2 := KK_10.out.cell 2 (.int .i64 (k3)) rfl
  have fK_3 := KK_10.out.cell 3 (.int .i64 (k4)) rfl
  have fK_4 := KK_10.out.cell 4 (.int .i64 (k5)) rfl
  have fK_5 := KK_10.out.cell 5 (.int .i64 (k6)) rfl
  have fK_l := KK_10.out.lt
  have fK_f := KK_10.out.f
  have fK_l0 : w7.heap.size < w10.heap.size := by omega
  have fK_l1 : w7.heap.size + 1 < w10.heap.size := by omega
  have fK_l2 : w7.heap.size + 1 + 1 < w10.heap.size := by omega
  have fK_l3 : w7.heap.size + 1 + 1 + 1 < w10.heap.size := by omega
  have fK_l4 : w7.heap.size + 1 + 1 + 1 + 1 < w10.heap.size := by omega
  have fK_l0_1 : w7.heap.size < w10.heap.size + 1 := by omega
  have fK_l0_2 : w7.heap.size < w10.heap.size + 1 + 1 := by omega
  have fK_l0_3 : w7.heap.size < w10.heap.size + 1 + 1 + 1 := by omega
  have fK_l0_4 : w7.heap.size < w10.heap.size + 1 + 1 + 1 + 1 := by omega
  have fK_l0_5 : w7.heap.size < w10.heap.size + 1 + 1 + 1 + 1 + 1 := by omega
  have fK_l0_6 : w7.heap.size < w10.heap.size + 1 + 1 + 1 + 1 + 1 + 1 := by omega
  have fK_l1_1 : w7.heap.size + 1 < w10.heap.size + 1 := by omega
  have fK_l1_2 : w7.heap.size + 1 < w10.heap.size + 1 + 1 := by omega
  have fK_l1_3 : w7.heap.size + 1 < w10.heap.size + 1 + 1 + 1 := by omega
  have fK_l1_4 : w7.heap.size + 1 < w10.heap.size + 1 + 1 + 1 + 1 := by omega
  have fK_l1_5 : w7.heap.size + 1 < w10.heap.size + 1 + 1 + 1 + 1 + 1 := by omega
  have fK_l1_6 : w7.heap.size + 1 < w10.heap.size + 1 + 1 + 1 + 1 + 1 + 1 := by omega
  have fK_l2_1 : w7.heap.size + 1 + 1 < w10.heap.size + 1 := by omega
  have fK_l2_2 : w7.heap.size + 1 + 1 < w10.heap.size + 1 + 1 := by omega
  have fK_l2_3 : w7.heap.size + 1 + 1 < w10.heap.size + 1 + 1 + 1 := by omega
  have fK_l2_4 : w7.heap.size + 1 + 1 < w10.heap.size + 1 + 1 + 1 + 1 := by omega
  have fK_l2_5 : w7.heap.size + 1 + 1 < w10.heap.size + 1 + 1 + 1 + 1 + 1 := by omega
  have fK_l2_6 : w7.heap.size + 1 + 1 < w10.heap.size + 1 + 1 + 1 + 1 + 1 + 1 := by omega
  have fK_l3_1 : w7.heap.size + 1 + 1 + 1 < w10.heap.size + 1 := by omega
  have fK_l3_2 : w7.heap.size + 1 + 1 + 1 < w10.heap.size + 1 + 1 := by omega
  have fK_l3_3 : w7.heap.size + 1 + 1 + 1 < w10.heap.size + 1 + 1 + 1 := by omega
  have fK_l3_4 : w7.heap.size + 1 + 1 + 1 < w10.heap.size + 1 + 1 + 1 + 1 := by omega
  have fK_l3_5 : w7.heap.size + 1 + 1 + 1 < w10.heap.size + 1 + 1 + 1 + 1 + 1 := by omega
  have fK_l3_6 : w7.heap.size + 1 + 1 + 1 < w10.heap.size + 1 + 1 + 1 + 1 + 1 + 1 := by omega
  have fK_l4_1 : w7.heap.size + 1 + 1 + 1 + 1 < w10.heap.size + 1 := by omega
  have fK_l4_2 : w7.heap.size + 1 + 1 + 1 + 1 < w10.heap.size + 1 + 1 := by omega
  have fK_l4_3 : w7.heap.size + 1 + 1 + 1 + 1 < w10.heap.size + 1 + 1 + 1 := by omega
  have fK_l4_4 : w7.heap.size + 1 + 1 + 1 + 1 < w10.heap.size + 1 + 1 + 1 + 1 := by omega
  have fK_l4_5 : w7.heap.size + 1 + 1 + 1 + 1 < w10.heap.size + 1 + 1 + 1 + 1 + 1 := by omega
  have fK_l4_6 : w7.heap.size + 1 + 1 + 1 + 1 < w10.heap.size + 1 + 1 + 1 + 1 + 1 + 1 := by omega
  have fK_l5_1 : w7.heap.size + 1 + 1 + 1 + 1 + 1 < w10.heap.size + 1 := by omega
  have fK_l5_2 : w7.heap.size + 1 + 1 + 1 + 1 + 1 < w10.heap.size + 1 + 1 := by omega
  have fK_l5_3 : w7.heap.size + 1 + 1 + 1 + 1 + 1 < w10.heap.size + 1 + 1 + 1 := by omega
  have fK_l5_4 : w7.heap.size + 1 + 1 + 1 + 1 + 1 < w10.heap.size + 1 + 1 + 1 + 1 := by omega
  have fK_l5_5 : w7.heap.size + 1 + 1 + 1 + 1 + 1 < w10.heap.size + 1 + 1 + 1 + 1 + 1 := by omega
  have fK_l5_6 : w7.heap.size + 1 + 1 + 1 + 1 + 1 < w10.heap.size + 1 + 1 + 1 + 1 + 1 + 1 := by omega
  have fm_0 := Km_10.out.cell 0 (.int .i64 (m1)) rfl
  have fm_1 := Km_10.out.cell 1 (.int .i64 (m2)) rfl
  have fm_l := Km_10.out.lt
  have fm_f := Km_10.out.f
  have fm_l0_1 : w5.heap.size < w10.heap.size + 1 := by omega
  have fm_l0_2 : w5.heap.size < w10.heap.size + 1 + 1 := by omega
  have fm_l0_3 : w5.heap.size < w10.heap.size + 1 + 1 + 1 := by omega
  have fm_l0_4 : w5.heap.size < w10.heap.size + 1 + 1 + 1 + 1 := by omega
  have fm_l0_5 : w5.heap.size < w10.heap.size + 1 + 1 + 1 + 1 + 1 := by omega
  have fm_l0_6 : w5.heap.size < w10.heap.size + 1 + 1 + 1 + 1 + 1 + 1 := by omega
  have fM_0 := KM_10.out.cell 0 (.int .i64 (m1)) rfl
  have fM_1 := KM_10.out.cell 1 (.int .i64 (m2)) rfl
  have fM_l := KM_10.out.lt
  have fM_f := KM_10.out.f
  have fM_l0 : w7.heap.size < w10.heap.size := by omega
  have fM_l1 : w7.heap.size + 1 < w10.heap.size := by omega
  have fM_l2 : w7.heap.size + 1 + 1 < w10.heap.size := by omega
  have fM_l0_1 : w7.heap.size < w10.heap.size + 1 := by omega
  have fM_l0_2 : w7.heap.size < w10.heap.size + 1 + 1 := by omega
  have fM_l0_3 : w7.heap.size < w10.heap.size + 1 + 1 + 1 := by omega
  have fM_l0_4 : w7.heap.size < w10.heap.size + 1 + 1 + 1 + 1 := by omega
  have fM_l0_5 : w7.heap.size < w10.heap.size + 1 + 1 + 1 + 1 + 1 := by omega
  have fM_l0_6 : w7.heap.size < w10.heap.size + 1 + 1 + 1 + 1 + 1 + 1 := by omega
  have fM_l1_1 : w7.heap.size + 1 < w10.heap.size + 1 := by omega
  have fM_l1_2 : w7.heap.size + 1 < w10.heap.size + 1 + 1 := by omega
  have fM_l1_3 : w7.heap.size + 1 < w10.heap.size + 1 + 1 + 1 := by omega
  have fM_l1_4 : w7.heap.size + 1 < w10.heap.size + 1 + 1 + 1 + 1 := by omega
  have fM_l1_5 : w7.heap.size + 1 < w10.heap.size + 1 + 1 + 1 + 1 + 1 := by omega
  have fM_l1_6 : w7.heap.size + 1 < w10.heap.size + 1 + 1 + 1 + 1 + 1 + 1 := by omega
  have fM_l2_1 : w7.heap.size + 1 + 1 < w10.heap.size + 1 := by omega
  have fM_l2_2 : w7.heap.size + 1 + 1 < w10.heap.size + 1 + 1 := by omega
  have fM_l2_3 : w7.heap.size + 1 + 1 < w10.heap.size + 1 + 1 + 1 := by omega
  have fM_l2_4 : w7.heap.size + 1 + 1 < w10.heap.size + 1 + 1 + 1 + 1 := by omega
  have fM_l2_5 : w7.heap.size + 1 + 1 < w10.heap.size + 1 + 1 + 1 + 1 + 1 := by omega
  have fM_l2_6 : w7.heap.size + 1 + 1 < w10.heap.size + 1 + 1 + 1 + 1 + 1 + 1 := by omega
  have fM_l3_1 : w7.heap.size + 1 + 1 + 1 < w10.heap.size + 1 := by omega
  have fM_l3_2 : w7.heap.size + 1 + 1 + 1 < w10.heap.size + 1 + 1 := by omega
  have fM_l3_3 : w7.heap.size + 1 + 1 + 1 < w10.heap.size + 1 + 1 + 1 := by omega
  have fM_l3_4 : w7.heap.size + 1 + 1 + 1 < w10.heap.size + 1 + 1 + 1 + 1 := by omega
  have fM_l3_5 : w7.heap.size + 1 + 1 + 1 < w10.heap.size + 1 + 1 + 1 + 1 + 1 := by omega
  have fM_l3_6 : w7.heap.size + 1 + 1 + 1 < w10.heap.size + 1 + 1 + 1 + 1 + 1 + 1 := by omega
  have fs_0 := Ks_10.out.cell 0 (.int .i64 (s1)) rfl
  have fs_1 := Ks_10.out.cell 1 (.int .i64 (s2)) rfl
  have fs_l := Ks_10.out.lt
  have fs_f := Ks_10.out.f
  have fs_l0 : w5.heap.size < w10.heap.size := by omega
  have fs_l0_1 : w5.heap.size < w10.heap.size + 1 := by omega
  have fs_l0_2 : w5.heap.size < w10.heap.size + 1 + 1 := by omega
  have fs_l0_3 : w5.heap.size < w10.heap.size + 1 + 1 + 1 := by omega
  have fs_l0_4 : w5.heap.size < w10.heap.size + 1 + 1 + 1 + 1 := by omega
  have fs_l0_5 : w5.heap.size < w10.heap.size + 1 + 1 + 1 + 1 + 1 := by omega
  have fs_l0_6 : w5.heap.size < w10.heap.size + 1 + 1 + 1 + 1 + 1 + 1 := by omega
  have fs_l1_1 : w5.heap.size + 1 < w10.heap.size + 1 := by omega
  have fs_l1_2 : w5.heap.size + 1 < w10.heap.size + 1 + 1 := by omega
  have fs_l1_3 : w5.heap.size + 1 < w10.heap.size + 1 + 1 + 1 := by omega
  have fs_l1_4 : w5.heap.size + 1 < w10.heap.size + 1 + 1 + 1 + 1 := by omega
  have fs_l1_5 : w5.heap.size + 1 < w10.heap.size + 1 + 1 + 1 + 1 + 1 := by omega
  have fs_l1_6 : w5.heap.size + 1 < w10.heap.size + 1 + 1 + 1 + 1 + 1 + 1 := by omega
  have fS_0 := KS_10.out.cell 0 (.int .i64 (s1)) rfl
  have fS_1 := KS_10.out.cell 1 (.int .i64 (s2)) rfl
  have fS_l := KS_10.out.lt
  have fS_f := KS_10.out.f
  have fS_l0 : w7.heap.size < w10.heap.size := by omega
  have fS_l1 : w7.heap.size + 1 < w10.heap.size := by omega
  have fS_l2 : w7.heap.size + 1 + 1 < w10.heap.size := by omega
  have fS_l3 : w7.heap.size + 1 + 1 + 1 < w10.heap.size := by omega
  have fS_l0_1 : w7.heap.size < w10.heap.size + 1 := by omega
  have fS_l0_2 : w7.heap.size < w10.heap.size + 1 + 1 := by omega
  have fS_l0_3 : w7.heap.size < w10.heap.size + 1 + 1 + 1 := by omega
  have fS_l0_4 : w7.heap.size < w10.heap.size + 1 + 1 + 1 + 1 := by omega
  have fS_l0_5 : w7.heap.size < w10.heap.size + 1 + 1 + 1 + 1 + 1 := by omega
  have fS_l0_6 : w7.heap.size < w10.heap.size + 1 + 1 + 1 + 1 + 1 + 1 := by omega
  have fS_l1_1 : w7.heap.size + 1 < w10.heap.size + 1 := by omega
  have fS_l1_2 : w7.heap.size + 1 < w10.heap.size + 1 + 1 := by omega
  have fS_l1_3 : w7.heap.size + 1 < w10.heap.size + 1 + 1 + 1 := by omega
  have fS_l1_4 : w7.heap.size + 1 < w10.heap.size + 1 + 1 + 1 + 1 := by omega
  have fS_l1_5 : w7.heap.size + 1 < w10.heap.size + 1 + 1 + 1 + 1 + 1 := by omega
  have fS_l1_6 : w7.heap.size + 1 < w10.heap.size + 1 + 1 + 1 + 1 + 1 + 1 := by omega
  have fS_l2_1 : w7.heap.size + 1 + 1 < w10.heap.size + 1 := by omega
  have fS_l2_2 : w7.heap.size + 1 + 1 < w10.heap.size + 1 + 1 := by omega
  have fS_l2_3 : w7.heap.size + 1 + 1 < w10.heap.size + 1 + 1 + 1 := by omega
  have fS_l2_4 : w7.heap.size + 1 + 1 < w10.heap.size + 1 + 1 + 1 + 1 := by omega
  have fS_l2_5 : w7.heap.size + 1 + 1 < w10.heap.size + 1 + 1 + 1 + 1 + 1 := by omega
  have fS_l2_6 : w7.heap.size + 1 + 1 < w10.heap.size + 1 + 1 + 1 + 1 + 1 + 1 := by omega
  have fS_l3_1 : w7.heap.size + 1 + 1 + 1 < w10.heap.size + 1 := by omega
  have fS_l3_2 : w7.heap.size + 1 + 1 + 1 < w10.heap.size + 1 + 1 := by omega
  have fS_l3_3 : w7.heap.size + 1 + 1 + 1 < w10.heap.size + 1 + 1 + 1 := by omega
  have fS_l3_4 : w7.heap.size + 1 + 1 + 1 < w10.heap.size + 1 + 1 + 1 + 1 := by omega
  have fS_l3_5 : w7.heap.size + 1 + 1 + 1 < w10.heap.size + 1 + 1 + 1 + 1 + 1 := by omega
  have fS_l3_6 : w7.heap.size + 1 + 1 + 1 < w10.heap.size + 1 + 1 + 1 + 1 + 1 + 1 := by omega
  have fS_l4_1 : w7.heap.size + 1 + 1 + 1 + 1 < w10.heap.size + 1 := by omega
  have fS_l4_2 : w7.heap.size + 1 + 1 + 1 + 1 < w10.heap.size + 1 + 1 := by omega
  have fS_l4_3 : w7.heap.size + 1 + 1 + 1 + 1 < w10.heap.size + 1 + 1 + 1 := by omega
  have fS_l4_4 : w7.heap.size + 1 + 1 + 1 + 1 < w10.heap.size + 1 + 1 + 1 + 1 := by omega
  have fS_l4_5 : w7.heap.size + 1 + 1 + 1 + 1 < w10.heap.size + 1 + 1 + 1 + 1 + 1 := by omega
  have fS_l4_6 : w7.heap.size + 1 + 1 + 1 + 1 < w10.heap.size + 1 + 1 + 1 + 1 + 1 + 1 := by omega
  go_wp2_with (go_at_call 35; refine (HQ2.out _).mono ?_; rintro r w11 ⟨rfl, h11⟩; refine Hid.out ?_)
  unfold Hid
  have hB11 := hB10.trans (h11.mono hB10.size)
  have KD_11 := Lib.hid (show Blk w11 (w.heap.size) #[(.int .i64 (d1)), (.int .i64 (d2)), (.int .i64 (d3)), (.int .i64 (d4)), (.int .i64 (d5)), (.int .i64 (d6))] from KD_10.out.below h11)
  have KX_11 := Lib.hid (show Blk w11 (w.heap.size + 1) #[(.int .i64 (x)), (.int .i64 (f1)), (.int .i64 (f2)), (.int .i64 (l1)), (.int .i64 (l2)), (.int .i64 (ad))] from KX_10.out.below h11)
  have Kc_11 := Lib.hid (show Blk w11 (w2.heap.size) #[(.int .i64 (0)), (.int .i64 (0)), (.int .i64 (0)), (.int .i64 (0)), (.int .i64 (0)), (.int .i64 (0))] from Kc_10.out.below h11)
  have Kr_11 := Lib.hid (show Blk w11 (w3.heap.size) #[(.int .i64 (r1)), (.int .i64 (r2))] from Kr_10.out.below h11)
  have Kk_11 := Lib.hid (show Blk w11 (w4.heap.size) #[(.int .i64 (k1)), (.int .i64 (k2)), (.int .i64 (k3)), (.int .i64 (k4)), (.int .i64 (k5)), (.int .i64 (k6))] from Kk_10.out.below h11)
  have Km_11 := Lib.hid (show Blk w11 (w5.heap.size) #[(.int .i64 (m1)), (.int .i64 (m2))] from Km_10.out.below h11)
  have Ks_11 := Lib.hid (show Blk w11 (w5.heap.size + 1) #[(.int .i64 (s1)), (.int .i64 (s2))] from Ks_10.out.below h11)
  have KC_11 := Lib.hid (show Blk w11 (w7.heap.size + 1) #[(.int .i64 (0)), (.int .i64 (0)), (.int .i64 (0)), (.int .i64 (0)), (.int .i64 (0)), (.int .i64 (0))] from KC_10.out.below h11)
  have KR_11 := Lib.hid (show Blk w11 (w7.heap.size + 1 + 1) #[(.int .i64 (r1)), (.int .i64 (r2))] from KR_10.out.below h11)
  have KM_11 := Lib.hid (show Blk w11 (w7.heap.size + 1 + 1 + 1) #[(.int .i64 (m1)), (.int .i64 (m2))] from KM_10.out.below h11)
  have KS_11 := Lib.hid (show Blk w11 (w7.heap.size + 1 + 1 + 1 + 1) #[(.int .i64 (s1)), (.int .i64 (s2))] from KS_10.out.below h11)
  have KK_11 := Lib.hid (show Blk w11 (w7.heap.size + 1 + 1 + 1 + 1 + 1) #[(.int .i64 (k1)), (.int .i64 (k2)), (.int .i64 (k3)), (.int .i64 (k4)), (.int .i64 (k5)), (.int .i64 (k6))] from KK_10.out.below h11)
  clear h11 hB10 KD_10 KX_10 Kc_10 Kr_10 Kk_10 Km_10 Ks_10 KC_10 KR_10 KM_10 KS_10 KK_10 fc_0 fc_1 fc_2 fc_3 fc_4 fc_5 fc_l fc_f fc_l0_1 fc_l0_2 fc_l0_3 fc_l0_4 fc_l0_5 fc_l0_6 fC_0 fC_1 fC_2 fC_3 fC_4 fC_5 fC_l fC_f fC_l0 fC_l0_1 fC_l0_2 fC_l0_3 fC_l0_4 fC_l0_5 fC_l0_6 fC_l1_1 fC_l1_2 fC_l1_3 fC_l1_4 fC_l1_5 fC_l1_6 fr_0 fr_1 fr_l fr_f fr_l0_1 fr_l0_2 fr_l0_3 fr_l0_4 fr_l0_5 fr_l0_6 fR_0 fR_1 fR_l fR_f fR_l0 fR_l1 fR_l0_1 fR_l0_2 fR_l0_3 fR_l0_4 fR_l0_5 fR_l0_6 fR_l1_1 fR_l1_2 fR_l1_3 fR_l1_4 fR_l1_5 fR_l1_6 fR_l2_1 fR_l2_2 fR_l2_3 fR_l2_4 fR_l2_5 fR_l2_6 fk_0 fk_1 fk_2 fk_3 fk_4 fk_5 fk_l fk_f fk_l0_1 fk_l0_2 fk_l0_3 fk_l0_4 fk_l0_5 fk_l0_6 fK_0 fK_1 fK_2 fK_3 fK_4 fK_5 fK_l fK_f fK_l0 fK_l1 fK_l2 fK_l3 fK_l4 fK_l0_1 fK_l0_2 fK_l0_3 fK_l0_4 fK_l0_5 fK_l0_6 fK_l1_1 fK_l1_2 fK_l1_3 fK_l1_4 fK_l1_5 fK_l1_6 fK_l2_1 fK_l2_2 fK_l2_3 fK_l2_4 fK_l2_5 fK_l2_6 fK_l3_1 fK_l3_2 fK_l3_3 fK_l3_4 fK_l3_5 fK_l3_6 fK_l4_1 fK_l4_2 fK_l4_3 fK_l4_4 fK_l4_5 fK_l4_6 fK_l5_1 fK_l5_2 fK_l5_3 fK_l5_4 fK_l5_5 fK_l5_6 fm_0 fm_1 fm_l fm_f fm_l0_1 fm_l0_2 fm_l0_3 fm_l0_4 fm_l0_5 fm_l0_6 fM_0 fM_1 fM_l fM_f fM_l0 fM_l1 fM_l2 fM_l0_1 fM_l0_2 fM_l0_3 fM_l0_4 fM_l0_5 fM_l0_6 fM_l1_1 fM_l1_2 fM_l1_3 fM_l1_4 fM_l1_5 fM_l1_6 fM_l2_1 fM_l2_2 fM_l2_3 fM_l2_4 fM_l2_5 fM_l2_6 fM_l3_1 fM_l3_2 fM_l3_3 fM_l3_4 fM_l3_5 fM_l3_6 fs_0 fs_1 fs_l fs_f fs_l0 fs_l0_1 fs_l0_2 fs_l0_3 fs_l0_4 fs_l0_5 fs_l0_6 fs_l1_1 fs_l1_2 fs_l1_3 fs_l1_4 fs_l1_5 fs_l1_6 fS_0 fS_1 fS_l fS_f fS_l0 fS_l1 fS_l2 fS_l3 fS_l0_1 fS_l0_2 fS_l0_3 fS_l0_4 fS_l0_5 fS_l0_6 fS_l1_1 fS_l1_2 fS_l1_3 fS_l1_4 fS_l1_5 fS_l1_6 fS_l2_1 fS_l2_2 fS_l2_3 fS_l2_4 fS_l2_5 fS_l2_6 fS_l3_1 fS_l3_2 fS_l3_3 fS_l3_4 fS_l3_5 fS_l3_6 fS_l4_1 fS_l4_2 fS_l4_3 fS_l4_4 fS_l4_5 fS_l4_6
  have fc_0 := Kc_11.out.cell 0 (.int .i64 (0)) rfl
  have fc_1 := Kc_11.out.cell 1 (.int .i64 (0)) rfl
  have fc_2 := Kc_11.out.cell 2 (.int .i64 (0)) rfl
  have fc_3 := Kc_11.out.cell 3 (.int .i64 (0)) rfl
  have fc_4 := Kc_11.out.cell 4 (.int .i64 (0)) rfl
  have fc_5 := Kc_11.out.cell 5 (.int .i64 (0)) rfl
  have fc_l := Kc_11.out.lt
  have fc_f := Kc_11.out.f
  have fc_l0_1 : w2.heap.size < w11.heap.size + 1 := by omega
  have fc_l0_2 : w2.heap.size < w11.heap.size + 1 + 1 := by omega
  have fc_l0_3 : w2.heap.size < w11.heap.size + 1 + 1 + 1 := by omega
  have fc_l0_4 : w2.heap.size < w11.heap.size + 1 + 1 + 1 + 1 := by omega
  have fc_l0_5 : w2.heap.size < w11.heap.size + 1 + 1 + 1 + 1 + 1 := by omega
  have fc_l0_6 : w2.heap.size < w11.heap.size + 1 + 1 + 1 + 1 + 1 + 1 := by omega
  have fC_0 := KC_11.out.cell 0 (.int .i64 (0)) rfl
  have fC_1 := KC_11.out.cell 1 (.int .i64 (0)) rfl
  have fC_2 := KC_11.out.cell 2 (.int .i64 (0)) rfl
  have fC_3 := KC_11.out.cell 3 (.int .i64 (0)) rfl
  have fC_4 := KC_11.out.cell 4 (.int .i64 (0)) rfl
  have fC_5 := KC_11.out.cell 5 (.int .i64 (0)) rfl
  have fC_l := KC_11.out.lt
  have fC_f := KC_11.out.f
  have fC_l0 : w7.heap.size < w11.heap.size := by omega
  have fC_l0_1 : w7.heap.size < w11.heap.size + 1 := by omega
  have fC_l0_2 : w7.heap.size < w11.heap.size + 1 + 1 := by omega
  have fC_l0_3 : w7.heap.size < w11.heap.size + 1 + 1 + 1 := by omega
  have fC_l0_4 : w7.heap.size < w11.heap.size + 1 + 1 + 1 + 1 := by omega
  have fC_l0_5 : w7.heap.size < w11.heap.size + 1 + 1 + 1 + 1 + 1 := by omega
  have fC_l0_6 : w7.heap.size < w11.heap.size + 1 + 1 + 1 + 1 + 1 + 1 := by omega
  have fC_l1_1 : w7.heap.size + 1 < w11.heap.size + 1 := by omega
  have fC_l1_2 : w7.heap.size + 1 < w11.heap.size + 1 + 1 := by omega
  have fC_l1_3 : w7.heap.size + 1 < w11.heap.size + 1 + 1 + 1 := by omega
  have fC_l1_4 : w7.heap.size + 1 < w11.heap.size + 1 + 1 + 1 + 1 := by omega
  have fC_l1_5 : w7.heap.size + 1 < w11.heap.size + 1 + 1 + 1 + 1 + 1 := by omega
  have fC_l1_6 : w7.heap.size + 1 < w11.heap.size + 1 + 1 + 1 + 1 + 1 + 1 := by omega
  have fr_0 := Kr_11.out.cell 0 (.int .i64 (r1)) rfl
  have fr_1 := Kr_11.out.cell 1 (.int .i64 (r2)) rfl
  have fr_l := Kr_11.out.lt
  have fr_f := Kr_11.out.f
  have fr_l0_1 : w3.heap.size < w11.heap.size + 1 := by omega
  have fr_l0_2 : w3.heap.size < w11.heap.size + 1 + 1 := by omega
  have fr_l0_3 : w3.heap.size < w11.heap.size + 1 + 1 + 1 := by omega
  have fr_l0_4 : w3.heap.size < w11.heap.size + 1 + 1 + 1 + 1 := by omega
  have fr_l0_5 : w3.heap.size < w11.heap.size + 1 + 1 + 1 + 1 + 1 := by omega
  have fr_l0_6 : w3.heap.size < w11.heap.size + 1 + 1 + 1 + 1 + 1 + 1 := by omega
  have fR_0 := KR_11.out.cell 0 (.int .i64 (r1)) rfl
  have fR_1 := KR_11.out.cell 1 (.int .i64 (r2)) rfl
  have fR_l := KR_11.out.lt
  have fR_f := KR_11.out.f
  have fR_l0 : w7.heap.size < w11.heap.size := by omega
  have fR_l1 : w7.heap.size + 1 < w11.heap.size := by omega
  have fR_l0_1 : w7.heap.size < w11.heap.size + 1 := by omega
  have fR_l0_2 : w7.heap.size < w11.heap.size + 1 + 1 := by omega
  have fR_l0_3 : w7.heap.size < w11.heap.size + 1 + 1 + 1 := by omega
  have fR_l0_4 : w7.heap.size < w11.heap.size + 1 + 1 + 1 + 1 := by omega
  have fR_l0_5 : w7.heap.size < w11.heap.size + 1 + 1 + 1 + 1 + 1 := by omega
  have fR_l0_6 : w7.heap.size < w11.heap.size + 1 + 1 + 1 + 1 + 1 + 1 := by omega
  have fR_l1_1 : w7.heap.size + 1 < w11.heap.size + 1 := by omega
  have fR_l1_2 : w7.heap.size + 1 < w11.heap.size + 1 + 1 := by omega
  have fR_l1_3 : w7.heap.size + 1 < w11.heap.size + 1 + 1 + 1 := by omega
  have fR_l1_4 : w7.heap.size + 1 < w11.heap.size + 1 + 1 + 1 + 1 := by omega
  have fR_l1_5 : w7.heap.size + 1 < w11.heap.size + 1 + 1 + 1 + 1 + 1 := by omega
  have fR_l1_6 : w7.heap.size + 1 < w11.heap.size + 1 + 1 + 1 + 1 + 1 + 1 := by omega
  have fR_l2_1 : w7.heap.size + 1 + 1 < w11.heap.size + 1 := by omega
  have fR_l2_2 : w7.heap.size + 1 + 1 < w11.heap.size + 1 + 1 := by omega
  have fR_l2_3 : w7.heap.size + 1 + 1 < w11.heap.size + 1 + 1 + 1 := by omega
  have fR_l2_4 : w7.heap.size + 1 + 1 < w11.heap.size + 1 + 1 + 1 + 1 := by omega
  have fR_l2_5 : w7.heap.size + 1 + 1 < w11.heap.size + 1 + 1 + 1 + 1 + 1 := by omega
  have fR_l2_6 : w7.heap.size + 1 + 1 < w11.heap.size + 1 + 1 + 1 + 1 + 1 + 1 := by omega
  have fk_0 := Kk_11.out.cell 0 (.int .i64 (k1)) rfl
  have fk_1 := Kk_11.out.cell 1 (.int .i64 (k2)) rfl
  have fk_2 := Kk_11.out.cell 2 (.int .i64 (k3)) rfl
  have fk_3 := Kk_11.out.cell 3 (.int .i64 (k4)) rfl
  have fk_4 := Kk_11.out.cell 4 (.int .i64 (k5)) rfl
  have fk_5 := Kk_11.out.cell 5 (.int .i64 (k6)) rfl
  have fk_l := Kk_11.out.lt
  have fk_f := Kk_11.out.f
  have fk_l0_1 : w4.heap.size < w11.heap.size + 1 := by omega
  have fk_l0_2 : w4.heap.size < w11.heap.size + 1 + 1 := by omega
  have fk_l0_3 : w4.heap.size < w11.heap.size + 1 + 1 + 1 := by omega
  have fk_l0_4 : w4.heap.size < w11.heap.size + 1 + 1 + 1 + 1 := by omega
  have fk_l0_5 : w4.heap.size < w11.heap.size + 1 + 1 + 1 + 1 + 1 := by omega
  have fk_l0_6 : w4.heap.size < w11.heap.size + 1 + 1 + 1 + 1 + 1 + 1 := by omega
  have fK_0 := KK_11.out.cell 0 (.int .i64 (k1)) rfl
  have fK_1 := KK_11.out.cell 1 (.int .i64 (k2)) rfl
  have fK_2 := KK_11.out.cell 2 (.int .i64 (k3)) rfl
  have fK_3 := KK_11.out.cell 3 (.int .i64 (k4)) rfl
  have fK_4 := KK_11.out.cell 4 (.int .i64 (k5)) rfl
  have fK_5 := KK_11.out.cell 5 (.int .i64 (k6)) rfl
  have fK_l := KK_11.out.lt
  have fK_f := KK_11.out.f
  have fK_l0 : w7.heap.size < w11.heap.size := by omega
  have fK_l1 : w7.heap.size + 1 < w11.heap.size := by omega
  have fK_l2 : w7.heap.size + 1 + 1 < w11.heap.size := by omega
  have fK_l3 : w7.heap.size + 1 + 1 + 1 < w11.heap.size := by omega
  have fK_l4 : w7.heap.size + 1 + 1 + 1 + 1 < w11.heap.size := by omega
  have fK_l0_1 : w7.heap.size < w11.heap.size + 1 := by omega
  have fK_l0_2 : w7.heap.size < w11.heap.size + 1 + 1 := by omega
  have fK_l0_3 : w7.heap.size < w11.heap.size + 1 + 1 + 1 := by omega
  have fK_l0_4 : w7.heap.size < w11.heap.size + 1 + 1 + 1 + 1 := by omega
  have fK_l0_5 : w7.heap.size < w11.heap.size + 1 + 1 + 1 + 1 + 1 := by omega
  have fK_l0_6 : w7.heap.size < w11.heap.size + 1 + 1 + 1 + 1 + 1 + 1 := by omega
  have fK_l1_1 : w7.heap.size + 1 < w11.heap.size + 1 := by omega
  have fK_l1_2 : w7.heap.size + 1 < w11.heap.size + 1 + 1 := by omega
  have fK_l1_3 : w7.heap.size + 1 < w11.heap.size + 1 + 1 + 1 := by omega
  have fK_l1_4 : w7.heap.size + 1 < w11.heap.size + 1 + 1 + 1 + 1 := by omega
  have fK_l1_5 : w7.heap.size + 1 < w11.heap.size + 1 + 1 + 1 + 1 + 1 := by omega
  have fK_l1_6 : w7.heap.size + 1 < w11.heap.size + 1 + 1 + 1 + 1 + 1 + 1 := by omega
  have fK_l2_1 : w7.heap.size + 1 + 1 < w11.heap.size + 1 := by omega
  have fK_l2_2 : w7.heap.size + 1 + 1 < w11.heap.size + 1 + 1 := by omega
  have fK_l2_3 : w7.heap.size + 1 + 1 < w11.heap.size + 1 + 1 + 1 := by omega
  have fK_l2_4 : w7.heap.size + 1 + 1 < w11.heap.size + 1 + 1 + 1 + 1 := by omega
  have fK_l2_5 : w7.heap.size + 1 + 1 < w11.heap.size + 1 + 1 + 1 + 1 + 1 := by omega
  have fK_l2_6 : w7.heap.size + 1 + 1 < w11.heap.size + 1 + 1 + 1 + 1 + 1 + 1 := by omega
  have fK_l3_1 : w7.heap.size + 1 + 1 + 1 < w11.heap.size + 1 := by omega
  have fK_l3_2 : w7.heap.size + 1 + 1 + 1 < w11.heap.size + 1 + 1 := by omega
  have fK_l3_3 : w7.heap.size + 1 + 1 + 1 < w11.heap.size + 1 + 1 + 1 := by omega
  have fK_l3_4 : w7.heap.size + 1 + 1 + 1 < w11.heap.size + 1 + 1 + 1 + 1 := by omega
  have fK_l3_5 : w7.heap.size + 1 + 1 + 1 < w11.heap.size + 1 + 1 + 1 + 1 + 1 := by omega
  have fK_l3_6 : w7.heap.size + 1 + 1 + 1 < w11.heap.size + 1 + 1 + 1 + 1 + 1 + 1 := by omega
  have fK_l4_1 : w7.heap.size + 1 + 1 + 1 + 1 < w11.heap.size + 1 := by omega
  have fK_l4_2 : w7.heap.size + 1 + 1 + 1 + 1 < w11.heap.size + 1 + 1 := by omega
  have fK_l4_3 : w7.heap.size + 1 + 1 + 1 + 1 < w11.heap.size + 1 + 1 + 1 := by omega
  have fK_l4_4 : w7.heap.size + 1 + 1 + 1 + 1 < w11.heap.size + 1 + 1 + 1 + 1 := by omega
  have fK_l4_5 : w7.heap.size + 1 + 1 + 1 + 1 < w11.heap.size + 1 + 1 + 1 + 1 + 1 := by omega
  have fK_l4_6 : w7.heap.size + 1 + 1 + 1 + 1 < w11.heap.size + 1 + 1 + 1 + 1 + 1 + 1 := by omega
  have fK_l5_1 : w7.heap.size + 1 + 1 + 1 + 1 + 1 < w11.heap.size + 1 := by omega
  have fK_l5_2 : w7.heap.size + 1 + 1 + 1 + 1 + 1 < w11.heap.size + 1 + 1 := by omega
  have fK_l5_3 : w7.heap.size + 1 + 1 + 1 + 1 + 1 < w11.heap.size + 1 + 1 + 1 := by omega
  have fK_l5_4 : w7.heap.size + 1 + 1 + 1 + 1 + 1 < w11.heap.size + 1 + 1 + 1 + 1 := by omega
  have fK_l5_5 : w7.heap.size + 1 + 1 + 1 + 1 + 1 < w11.heap.size + 1 + 1 + 1 + 1 + 1 := by omega
  have fK_l5_6 : w7.heap.size + 1 + 1 + 1 + 1 + 1 < w11.heap.size + 1 + 1 + 1 + 1 + 1 + 1 := by omega
  have fm_0 := Km_11.out.cell 0 (.int .i64 (m1)) rfl
  have fm_1 := Km_11.out.cell 1 (.int .i64 (m2)) rfl
  have fm_l := Km_11.out.lt
  have fm_f := Km_11.out.f
  have fm_l0_1 : w5.heap.size < w11.heap.size + 1 := by omega
  have fm_l0_2 : w5.heap.size < w11.heap.size + 1 + 1 := by omega
  have fm_l0_3 : w5.heap.size < w11.heap.size + 1 + 1 + 1 := by omega
  have fm_l0_4 : w5.heap.size < w11.heap.size + 1 + 1 + 1 + 1 := by omega
  have fm_l0_5 : w5.heap.size < w11.heap.size + 1 + 1 + 1 + 1 + 1 := by omega
  have fm_l0_6 : w5.heap.size < w11.heap.size + 1 + 1 + 1 + 1 + 1 + 1 := by omega
  have fM_0 := KM_11.out.cell 0 (.int .i64 (m1)) rfl
  have fM_1 := KM_11.out.cell 1 (.int .i64 (m2)) rfl
  have fM_l := KM_11.out.lt
  have fM_f := KM_11.out.f
  have fM_l0 : w7.heap.size < w11.heap.size := by omega
  have fM_l1 : w7.heap.size + 1 < w11.heap.size := by omega
  have fM_l2 : w7.heap.size + 1 + 1 < w11.heap.size := by omega
  have fM_l0_1 : w7.heap.size < w11.heap.size + 1 := by omega
  have fM_l0_2 : w7.heap.size < w11.heap.size + 1 + 1 := by omega
  have fM_l0_3 : w7.heap.size < w11.heap.size + 1 + 1 + 1 := by omega
  have fM_l0_4 : w7.heap.size < w11.heap.size + 1 + 1 + 1 + 1 := by omega
  have fM_l0_5 : w7.heap.size < w11.heap.size + 1 + 1 + 1 + 1 + 1 := by omega
  have fM_l0_6 : w7.heap.size < w11.heap.size + 1 + 1 + 1 + 1 + 1 + 1 := by omega
  have fM_l1_1 : w7.heap.size + 1 < w11.heap.size + 1 := by omega
  have fM_l1_2 : w7.heap.size + 1 < w11.heap.size + 1 + 1 := by omega
  have fM_l1_3 : w7.heap.size + 1 < w11.heap.size + 1 + 1 + 1 := by omega
  have fM_l1_4 : w7.heap.size + 1 < w11.heap.size + 1 + 1 + 1 + 1 := by omega
  have fM_l1_5 : w7.heap.size + 1 < w11.heap.size + 1 + 1 + 1 + 1 + 1 := by omega
  have fM_l1_6 : w7.heap.size + 1 < w11.heap.size + 1 + 1 + 1 + 1 + 1 + 1 := by omega
  have fM_l2_1 : w7.heap.size + 1 + 1 < w11.heap.size + 1 := by omega
  have fM_l2_2 : w7.heap.size + 1 + 1 < w11.heap.size + 1 + 1 := by omega
  have fM_l2_3 : w7.heap.size + 1 + 1 < w11.heap.size + 1 + 1 + 1 := by omega
  have fM_l2_4 : w7.heap.size + 1 + 1 < w11.heap.size + 1 + 1 + 1 + 1 := by omega
  have fM_l2_5 : w7.heap.size + 1 + 1 < w11.heap.size + 1 + 1 + 1 + 1 + 1 := by omega
  have fM_l2_6 : w7.heap.size + 1 + 1 < w11.heap.size + 1 + 1 + 1 + 1 + 1 + 1 := by omega
  have fM_l3_1 : w7.heap.size + 1 + 1 + 1 < w11.heap.size + 1 := by omega
  have fM_l3_2 : w7.heap.size + 1 + 1 + 1 < w11.heap.size + 1 + 1 := by omega
  have fM_l3_3 : w7.heap.size + 1 + 1 + 1 < w11.heap.size + 1 + 1 + 1 := by omega
  have fM_l3_4 : w7.heap.size + 1 + 1 + 1 < w11.heap.size + 1 + 1 + 1 + 1 := by omega
  have fM_l3_5 : w7.heap.size + 1 + 1 + 1 < w11.heap.size + 1 + 1 + 1 + 1 + 1 := by omega
  have fM_l3_6 : w7.heap.size + 1 + 1 + 1 < w11.heap.size + 1 + 1 + 1 + 1 + 1 + 1 := by omega
  have fs_0 := Ks_11.out.cell 0 (.int .i64 (s1)) rfl
  have fs_1 := Ks_11.out.cell 1 (.int .i64 (s2)) rfl
  have fs_l := Ks_11.out.lt
  have fs_f := Ks_11.out.f
  have fs_l0 : w5.heap.size < w11.heap.size := by omega
  have fs_l0_1 : w5.heap.size < w11.heap.size + 1 := by omega
  have fs_l0_2 : w5.heap.size < w11.heap.size + 1 + 1 := by omega
  have fs_l0_3 : w5.heap.size < w11.heap.size + 1 + 1 + 1 := by omega
  have fs_l0_4 : w5.heap.size < w11.heap.size + 1 + 1 + 1 + 1 := by omega
  have fs_l0_5 : w5.heap.size < w11.heap.size + 1 + 1 + 1 + 1 + 1 := by omega
  have fs_l0_6 : w5.heap.size < w11.heap.size + 1 + 1 + 1 + 1 + 1 + 1 := by omega
  have fs_l1_1 : w5.heap.size + 1 < w11.heap.size + 1 := by omega
  have fs_l1_2 : w5.heap.size + 1 < w11.heap.size + 1 + 1 := by omega
  have fs_l1_3 : w5.heap.size + 1 < w11.heap.size + 1 + 1 + 1 := by omega
  have fs_l1_4 : w5.heap.size + 1 < w11.heap.size + 1 + 1 + 1 + 1 := by omega
  have fs_l1_5 : w5.heap.size + 1 < w11.heap.size + 1 + 1 + 1 + 1 + 1 := by omega
  have fs_l1_6 : w5.heap.size + 1 < w11.heap.size + 1 + 1 + 1 + 1 + 1 + 1 := by omega
  have fS_0 := KS_11.out.cell 0 (.int .i64 (s1)) rfl
  have fS_1 := KS_11.out.cell 1 (.int .i64 (s2)) rfl
  have fS_l := KS_11.out.lt
  have fS_f := KS_11.out.f
  have fS_l0 : w7.heap.size < w11.heap.size := by omega
  have fS_l1 : w7.heap.size + 1 < w11.heap.size := by omega
  have fS_l2 : w7.heap.size + 1 + 1 < w11.heap.size := by omega
  have fS_l3 : w7.heap.size + 1 + 1 + 1 < w11.heap.size := by omega
  have fS_l0_1 : w7.heap.size < w11.heap.size + 1 := by omega
  have fS_l0_2 : w7.heap.size < w11.heap.size + 1 + 1 := by omega
  have fS_l0_3 : w7.heap.size < w11.heap.size + 1 + 1 + 1 := by omega
  have fS_l0_4 : w7.heap.size < w11.heap.size + 1 + 1 + 1 + 1 := by omega
  have fS_l0_5 : w7.heap.size < w11.heap.size + 1 + 1 + 1 + 1 + 1 := by omega
  have fS_l0_6 : w7.heap.size < w11.heap.size + 1 + 1 + 1 + 1 + 1 + 1 := by omega
  have fS_l1_1 : w7.heap.size + 1 < w11.heap.size + 1 := by omega
  have fS_l1_2 : w7.heap.size + 1 < w11.heap.size + 1 + 1 := by omega
  have fS_l1_3 : w7.heap.size + 1 < w11.heap.size + 1 + 1 + 1 := by omega
  have fS_l1_4 : w7.heap.size + 1 < w11.heap.size + 1 + 1 + 1 + 1 := by omega
  have fS_l1_5 : w7.heap.size + 1 < w11.heap.size + 1 + 1 + 1 + 1 + 1 := by omega
  have fS_l1_6 : w7.heap.size + 1 < w11.heap.size + 1 + 1 + 1 + 1 + 1 + 1 := by omega
  have fS_l2_1 : w7.heap.size + 1 + 1 < w11.heap.size + 1 := by omega
  have fS_l2_2 : w7.heap.size + 1 + 1 < w11.heap.size + 1 + 1 := by omega
  have fS_l2_3 : w7.heap.size + 1 + 1 < w11.heap.size + 1 + 1 + 1 := by omega
  have fS_l2_4 : w7.heap.size + 1 + 1 < w11.heap.size + 1 + 1 + 1 + 1 := by omega
  have fS_l2_5 : w7.heap.size + 1 + 1 < w11.heap.size + 1 + 1 + 1 + 1 + 1 := by omega
  have fS_l2_6 : w7.heap.size + 1 + 1 < w11.heap.size + 1 + 1 + 1 + 1 + 1 + 1 := by omega
  have fS_l3_1 : w7.heap.size + 1 + 1 + 1 < w11.heap.size + 1 := by omega
  have fS_l3_2 : w7.heap.size + 1 + 1 + 1 < w11.heap.size + 1 + 1 := by omega
  have fS_l3_3 : w7.heap.size + 1 + 1 + 1 < w11.heap.size + 1 + 1 + 1 := by omega
  have fS_l3_4 : w7.heap.size + 1 + 1 + 1 < w11.heap.size + 1 + 1 + 1 + 1 := by omega
  have fS_l3_5 : w7.heap.size + 1 + 1 + 1 < w11.heap.size + 1 + 1 + 1 + 1 + 1 := by omega
  have fS_l3_6 : w7.heap.size + 1 + 1 + 1 < w11.heap.size + 1 + 1 + 1 + 1 + 1 + 1 := by omega
  have fS_l4_1 : w7.heap.size + 1 + 1 + 1 + 1 < w11.heap.size + 1 := by omega
  have fS_l4_2 : w7.heap.size + 1 + 1 + 1 + 1 < w11.heap.size + 1 + 1 := by omega
  have fS_l4_3 : w7.heap.size + 1 + 1 + 1 + 1 < w11.heap.size + 1 + 1 + 1 := by omega
  have fS_l4_4 : w7.heap.size + 1 + 1 + 1 + 1 < w11.heap.size + 1 + 1 + 1 + 1 := by omega
  have fS_l4_5 : w7.heap.size + 1 + 1 + 1 + 1 < w11.heap.size + 1 + 1 + 1 + 1 + 1 := by omega
  have fS_l4_6 : w7.heap.size + 1 + 1 + 1 + 1 < w11.heap.size + 1 + 1 + 1 + 1 + 1 + 1 := by omega
  go_wp2_with (go_at_call 35; refine (HQ3.out _).mono ?_; rintro r w12 ⟨rfl, h12⟩; refine Hid.out ?_)
  unfold Hid
  have hB12 := hB11.trans (h12.mono hB11.size)
  have KD_12 := Lib.hid (show Blk w12 (w.heap.size) #[(.int .i64 (d1)), (.int .i64 (d2)), (.int .i64 (d3)), (.int .i64 (d4)), (.int .i64 (d5)), (.int .i64 (d6))] from KD_11.out.below h12)
  have KX_12 := Lib.hid (show Blk w12 (w.heap.size + 1) #[(.int .i64 (x)), (.int .i64 (f1)), (.int .i64 (f2)), (.int .i64 (l1)), (.int .i64 (l2)), (.int .i64 (ad))] from KX_11.out.below h12)
  have Kc_12 := Lib.hid (show Blk w12 (w2.heap.size) #[(.int .i64 (0)), (.int .i64 (0)), (.int .i64 (0)), (.int .i64 (0)), (.int .i64 (0)), (.int .i64 (0))] from Kc_11.out.below h12)
  have Kr_12 := Lib.hid (show Blk w12 (w3.heap.size) #[(.int .i64 (r1)), (.int .i64 (r2))] from Kr_11.out.below h12)
  have Kk_12 := Lib.hid (show Blk w12 (w4.heap.size) #[(.int .i64 (k1)), (.int .i64 (k2)), (.int .i64 (k3)), (.int .i64 (k4)), (.int .i64 (k5)), (.int .i64 (k6))] from Kk_11.out.below h12)
  have Km_12 := Lib.hid (show Blk w12 (w5.heap.size) #[(.int .i64 (m1)), (.int .i64 (m2))] from Km_11.out.below h12)
  have Ks_12 := Lib.hid (show Blk w12 (w5.heap.size + 1) #[(.int .i64 (s1)), (.int .i64 (s2))] from Ks_11.out.below h12)
  have KC_12 := Lib.hid (show Blk w12 (w7.heap.size + 1) #[(.int .i64 (0)), (.int .i64 (0)), (.int .i64 (0)), (.int .i64 (0)), (.int .i64 (0)), (.int .i64 (0))] from KC_11.out.below h12)
  have KR_12 := Lib.hid (show Blk w12 (w7.heap.size + 1 + 1) #[(.int .i64 (r1)), (.int .i64 (r2))] from KR_11.out.below h12)
  have KM_12 := Lib.hid (show Blk w12 (w7.heap.size + 1 + 1 + 1) #[(.int .i64 (m1)), (.int .i64 (m2))] from KM_11.out.below h12)
  have KS_12 := Lib.hid (show Blk w12 (w7.heap.size + 1 + 1 + 1 + 1) #[(.int .i64 (s1)), (.int .i64 (s2))] from KS_11.out.below h12)
  have KK_12 := Lib.hid (show Blk w12 (w7.heap.size + 1 + 1 + 1 + 1 + 1) #[(.int .i64 (k1)), (.int .i64 (k2)), (.int .i64 (k3)), (.int .i64 (k4)), (.int .i64 (k5)), (.int .i64 (k6))] from KK_11.out.below h12)
  clear h12 hB11 KD_11 KX_11 Kc_11 Kr_11 Kk_11 Km_11 Ks_11 KC_11 KR_11 KM_11 KS_11 KK_11 fc_0 fc_1 fc_2 fc_3 fc_4 fc_5 fc_l fc_f fc_l0_1 fc_l0_2 fc_l0_3 fc_l0_4 fc_l0_5 fc_l0_6 fC_0 fC_1 fC_2 fC_3 fC_4 fC_5 fC_l fC_f fC_l0 fC_l0_1 fC_l0_2 fC_l0_3 fC_l0_4 fC_l0_5 fC_l0_6 fC_l1_1 fC_l1_2 fC_l1_3 fC_l1_4 fC_l1_5 fC_l1_6 fr_0 fr_1 fr_l fr_f fr_l0_1 fr_l0_2 fr_l0_3 fr_l0_4 fr_l0_5 fr_l0_6 fR_0 fR_1 fR_l fR_f fR_l0 fR_l1 fR_l0_1 fR_l0_2 fR_l0_3 fR_l0_4 fR_l0_5 fR_l0_6 fR_l1_1 fR_l1_2 fR_l1_3 fR_l1_4 fR_l1_5 fR_l1_6 fR_l2_1 fR_l2_2 fR_l2_3 fR_l2_4 fR_l2_5 fR_l2_6 fk_0 fk_1 fk_2 fk_3 fk_4 fk_5 fk_l fk_f fk_l0_1 fk_l0_2 fk_l0_3 fk_l0_4 fk_l0_5 fk_l0_6 fK_0 fK_1 fK_2 fK_3 fK_4 fK_5 fK_l fK_f fK_l0 fK_l1 fK_l2 fK_l3 fK_l4 fK_l0_1 fK_l0_2 fK_l0_3 fK_l0_4 fK_l0_5 fK_l0_6 fK_l1_1 fK_l1_2 fK_l1_3 fK_l1_4 fK_l1_5 fK_l1_6 fK_l2_1 fK_l2_2 fK_l2_3 fK_l2_4 fK_l2_5 fK_l2_6 fK_l3_1 fK_l3_2 fK_l3_3 fK_l3_4 fK_l3_5 fK_l3_6 fK_l4_1 fK_l4_2 fK_l4_3 fK_l4_4 fK_l4_5 fK_l4_6 fK_l5_1 fK_l5_2 fK_l5_3 fK_l5_4 fK_l5_5 fK_l5_6 fm_0 fm_1 fm_l fm_f fm_l0_1 fm_l0_2 fm_l0_3 fm_l0_4 fm_l0_5 fm_l0_6 fM_0 fM_1 fM_l fM_f fM_l0 fM_l1 fM_l2 fM_l0_1 fM_l0_2 fM_l0_3 fM_l0_4 fM_l0_5 fM_l0_6 fM_l1_1 fM_l1_2 fM_l1_3 fM_l1_4 fM_l1_5 fM_l1_6 fM_l2_1 fM_l2_2 fM_l2_3 fM_l2_4 fM_l2_5 fM_l2_6 fM_l3_1 fM_l3_2 fM_l3_3 fM_l3_4 fM_l3_5 fM_l3_6 fs_0 fs_1 fs_l fs_f fs_l0 fs_l0_1 fs_l0_2 fs_l0_3 fs_l0_4 fs_l0_5 fs_l0_6 fs_l1_1 fs_l1_2 fs_l1_3 fs_l1_4 fs_l1_5 fs_l1_6 fS_0 fS_1 fS_l fS_f fS_l0 fS_l1 fS_l2 fS_l3 fS_l0_1 fS_l0_2 fS_l0_3 fS_l0_4 fS_l0_5 fS_l0_6 fS_l1_1 fS_l1_2 fS_l1_3 fS_l1_4 fS_l1_5 fS_l1_6 fS_l2_1 fS_l2_2 fS_l2_3 fS_l2_4 fS_l2_5 fS_l2_6 fS_l3_1 fS_l3_2 fS_l3_3 fS_l3_4 fS_l3_5 fS_l3_6 fS_l4_1 fS_l4_2 fS_l4_3 fS_l4_4 fS_l4_5 fS_l4_6
  go_wp2
  go_ret
  exact ⟨by first | rfl | (simp; done), hB12⟩
end Go.Proofs.YtpkldjlljoledaaDoor
