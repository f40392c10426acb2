/- Part 32 of the texts of the claim: LawAll, LawRow. -/
import Derived.Test.YtpkldjlljoledaaDoorLw16
import Derived.Test.YtpkldjlljoledaaDoorLw17
import Derived.Test.YtpkldjlljoledaaDoorLw18
import Derived.Test.YtpkldjlljoledaaDoorLw19
import Derived.Test.YtpkldjlljoledaaDoorLw20
import Derived.Test.YtpkldjlljoledaaDoorLw21
import Derived.Test.YtpkldjlljoledaaDoorLw22
import Derived.Test.YtpkldjlljoledaaDoorLw23
import Derived.Test.YtpkldjlljoledaaDoorLw24
import Derived.Test.YtpkldjlljoledaaDoorLw25
import Derived.Test.YtpkldjlljoledaaDoorLw26
import Derived.Test.YtpkldjlljoledaaDoorLw27
import Derived.Test.YtpkldjlljoledaaDoorLw28
import Derived.Test.YtpkldjlljoledaaDoorLw29
import Derived.Test.YtpkldjlljoledaaDoorLw30
import Derived.Test.YtpkldjlljoledaaDoorLw31
import Derived.Test.YtpkldjlljoledaaDoorLw14
import Derived.Test.YtpkldjlljoledaaDoorLw5
import Derived.Test.YtpkldjlljoledaaDoorLw2

/- DriverLaws answers yes, whatever its arguments. -/
namespace Go.Proofs.YtpkldjlljoledaaDoor
open Go.RowKit
open Calm (bcell Blk)

set_option maxRecDepth 100000 in
set_option maxHeartbeats 4000000 in
theorem law_bad (d1 d2 d3 d4 d5 d6 x1 x2 x3 x4 q0 : Int) (w : World) (hL : Lim w) (de xe we : Int)
    (HCD : Hid (∀ W : World, Calls Tryd.prog 17 #[.agg #[(.int .i64 (d1)), (.int .i64 (d2)), (.int .i64 (d3)), (.int .i64 (d4)), (.int .i64 (d5)), (.int .i64 (d6))]] W fun r w' => r = .returned (.int .i64 (de)) ∧ Below W.heap.size W w'))
    (HCB : Hid (∀ W : World, Calls Tryd.prog 29 #[.agg #[(.int .i64 (x1)), (.int .i64 (x2)), (.int .i64 (x3)), (.int .i64 (x4))]] W fun r w' => r = .returned (.int .i64 (xe)) ∧ Below W.heap.size W w'))
    (HW : Hid (∀ W : World, Calls Tryd.prog 18 #[(.int .i64 (q0))] W fun r w' => r = .returned (.int .i64 (we)) ∧ W = w'))
    (h : ¬ de = 0 ∨ de = 0 ∧ ¬ xe = 0 ∨ de = 0 ∧ xe = 0 ∧ ¬ we = 0) :
    Calls Tryd.prog 7 #[.agg #[(.int .i64 (d1)), (.int .i64 (d2)), (.int .i64 (d3)), (.int .i64 (d4)), (.int .i64 (d5)), (.int .i64 (d6))], .agg #[(.int .i64 (x1)), (.int .i64 (x2)), (.int .i64 (x3)), (.int .i64 (x4))], (.int .i64 (q0))] w fun r w' => r = .returned (.bool true) ∧ Below w.heap.size w w' := by
  rcases h with h | ⟨h0, h⟩ | ⟨h0, h1, h⟩
  · have hB0 := Below.refl w.heap.size w
    go_enter Tryd.func7, Tryd.ntmps7
    go_wp2_with (go_at_call 11; refine (awake_any _ (hL.below ((hB0.alloc hB0.size _).alloc (Nat.le_trans hB0.size (by simp; try omega)) _))).mono ?_; rintro r w1 ⟨rfl, h1⟩; refine Hid.out ?_)
    unfold Hid
    have hB1 := ((hB0.alloc hB0.size _).alloc (Nat.le_trans hB0.size (by simp; try omega)) _).trans (h1.mono (Nat.le_trans hB0.size (by simp; try omega)))
    have KD_1 := Lib.hid (show Blk w1 (w.heap.size) #[(.int .i64 (d1)), (.int .i64 (d2)), (.int .i64 (d3)), (.int .i64 (d4)), (.int .i64 (d5)), (.int .i64 (d6))] from ((Calm.Blk.new _ _ #[(.int .i64 (d1)), (.int .i64 (d2)), (.int .i64 (d3)), (.int .i64 (d4)), (.int .i64 (d5)), (.int .i64 (d6))]).alloc _).below h1)
    have KX_1 := Lib.hid (show Blk w1 (w.heap.size + 1) #[(.int .i64 (x1)), (.int .i64 (x2)), (.int .i64 (x3)), (.int .i64 (x4))] by have := (Calm.Blk.new _ _ #[(.int .i64 (x1)), (.int .i64 (x2)), (.int .i64 (x3)), (.int .i64 (x4))]).below h1; simpa using this)
    clear h1 hB0
    obtain ⟨fD_0, fD_1, fD_2, fD_3, fD_4, fD_5, fD_l, fD_f⟩ := KD_1.out.o6
    have fD_l0_1 : w.heap.size < w1.heap.size + 1 := by omega
    have fD_l0_2 : w.heap.size < w1.heap.size + 1 + 1 := by omega
    go_wp2_with (go_at_call 17; refine (HCD.out _).mono ?_; rintro r w2 ⟨rfl, h2⟩; refine Hid.out ?_)
    unfold Hid
    have hB2 := hB1.trans (h2.mono hB1.size)
    have KD_2 := Lib.hid (KD_1.out.below h2)
    have KX_2 := Lib.hid (KX_1.out.below h2)
    clear h2 hB1 KD_1 KX_1 fD_0 fD_1 fD_2 fD_3 fD_4 fD_5 fD_l fD_f fD_l0_1 fD_l0_2
    go_wp2_with (go_at_call 11; refine (awake_any _ (hL.below hB2)).mono ?_; rintro r w3 ⟨rfl, h3⟩; refine Hid.out ?_)
    unfold Hid
    have hB3 := hB2.trans (h3.mono hB2.size)
    have KD_3 := Lib.hid (KD_2.out.below h3)
    have KX_3 := Lib.hid (KX_2.out.below h3)
    clear h3 hB2 KD_2 KX_2
    go_wp2
    go_ret
    exact ⟨by first | rfl | (simp; done), hB3⟩
  · subst h0
    have hB0 := Below.refl w.heap.size w
    go_enter Tryd.func7, Tryd.ntmps7
    go_wp2_with (go_at_call 11; refine (awake_any _ (hL.below ((hB0.alloc hB0.size _).alloc (Nat.le_trans hB0.size (by simp; try omega)) _))).mono ?_; rintro r w1 ⟨rfl, h1⟩; refine Hid.out ?_)
    unfold Hid
    have hB1 := ((hB0.alloc hB0.size _).alloc (Nat.le_trans hB0.size (by simp; try omega)) _).trans (h1.mono (Nat.le_trans hB0.size (by simp; try omega)))
    have KD_1 := Lib.hid (show Blk w1 (w.heap.size) #[(.int .i64 (d1)), (.int .i64 (d2)), (.int .i64 (d3)), (.int .i64 (d4)), (.int .i64 (d5)), (.int .i64 (d6))] from ((Calm.Blk.new _ _ #[(.int .i64 (d1)), (.int .i64 (d2)), (.int .i64 (d3)), (.int .i64 (d4)), (.int .i64 (d5)), (.int .i64 (d6))]).alloc _).below h1)
    have KX_1 := Lib.hid (show Blk w1 (w.heap.size + 1) #[(.int .i64 (x1)), (.int .i64 (x2)), (.int .i64 (x3)), (.int .i64 (x4))] by have := (Calm.Blk.new _ _ #[(.int .i64 (x1)), (.int .i64 (x2)), (.int .i64 (x3)), (.int .i64 (x4))]).below h1; simpa using this)
    clear h1 hB0
    obtain ⟨fD_0, fD_1, fD_2, fD_3, fD_4, fD_5, fD_l, fD_f⟩ := KD_1.out.o6
    have fD_l0_1 : w.heap.size < w1.heap.size + 1 := by omega
    have fD_l0_2 : w.heap.size < w1.heap.size + 1 + 1 := by omega
    go_wp2_with (go_at_call 17; refine (HCD.out _).mono ?_; rintro r w2 ⟨rfl, h2⟩; refine Hid.out ?_)
    unfold Hid
    have hB2 := hB1.trans (h2.mono hB1.size)
    have KD_2 := Lib.hid (KD_1.out.below h2)
    have KX_2 := Lib.hid (KX_1.out.below h2)
    clear h2 hB1 KD_1 KX_1 fD_0 fD_1 fD_2 fD_3 fD_4 fD_5 fD_l fD_f fD_l0_1 fD_l0_2
    obtain ⟨fX_0, fX_1, fX_2, fX_3, fX_l, fX_f⟩ := KX_2.out.o4
    have fX_l0 : w.heap.size < w2.heap.size := by omega
    have fX_l0_1 : w.heap.size < w2.heap.size + 1 := by omega
    have fX_l0_2 : w.heap.size < w2.heap.size + 1 + 1 := by omega
    have fX_l1_1 : w.heap.size + 1 < w2.heap.size + 1 := by omega
    have fX_l1_2 : w.heap.size + 1 < w2.heap.size + 1 + 1 := by omega
    go_wp2_with (go_at_call 29; refine (HCB.out _).mono ?_; rintro r w3 ⟨rfl, h3⟩; refine Hid.out ?_)
    unfold Hid
    have hB3 := hB2.trans (h3.mono hB2.size)
    have KD_3 := Lib.hid (KD_2.out.below h3)
    have KX_3 := Lib.hid (KX_2.out.below h3)
    clear h3 hB2 KD_2 KX_2 fX_0 fX_1 fX_2 fX_3 fX_l fX_f fX_l0 fX_l0_1 fX_l0_2 fX_l1_1 fX_l1_2
    go_wp2_with (go_at_call 11; refine (awake_any _ (hL.below hB3)).mono ?_; rintro r w4 ⟨rfl, h4⟩; refine Hid.out ?_)
    unfold Hid
    have hB4 := hB3.trans (h4.mono hB3.size)
    have KD_4 := Lib.hid (KD_3.out.below h4)
    have KX_4 := Lib.hid (KX_3.out.below h4)
    clear h4 hB3 KD_3 KX_3
    go_wp2
    go_ret
    exact ⟨by first | rfl | (simp; done), hB4⟩
  · subst h0
    subst h1
    have hB0 := Below.refl w.heap.size w
    go_enter Tryd.func7, Tryd.ntmps7
    go_wp2_with (go_at_call 11; refine (awake_any _ (hL.below ((hB0.alloc hB0.size _).alloc (Nat.le_trans hB0.size (by simp; try omega)) _))).mono ?_; rintro r w1 ⟨rfl, h1⟩; refine Hid.out ?_)
    unfold Hid
    have hB1 := ((hB0.alloc hB0.size _).alloc (Nat.le_trans hB0.size (by simp; try omega)) _).trans (h1.mono (Nat.le_trans hB0.size (by simp; try omega)))
    have KD_1 := Lib.hid (show Blk w1 (w.heap.size) #[(.int .i64 (d1)), (.int .i64 (d2)), (.int .i64 (d3)), (.int .i64 (d4)), (.int .i64 (d5)), (.int .i64 (d6))] from ((Calm.Blk.new _ _ #[(.int .i64 (d1)), (.int .i64 (d2)), (.int .i64 (d3)), (.int .i64 (d4)), (.int .i64 (d5)), (.int .i64 (d6))]).alloc _).below h1)
    have KX_1 := Lib.hid (show Blk w1 (w.heap.size + 1) #[(.int .i64 (x1)), (.int .i64 (x2)), (.int .i64 (x3)), (.int .i64 (x4))] by have := (Calm.Blk.new _ _ #[(.int .i64 (x1)), (.int .i64 (x2)), (.int .i64 (x3)), (.int .i64 (x4))]).below h1; simpa using this)
    clear h1 hB0
    obtain ⟨fD_0, fD_1, fD_2, fD_3, fD_4, fD_5, fD_l, fD_f⟩ := KD_1.out.o6
    have fD_l0_1 : w.heap.size < w1.heap.size + 1 := by omega
    have fD_l0_2 : w.heap.size < w1.heap.size + 1 + 1 := by omega
    go_wp2_with (go_at_call 17; refine (HCD.out _).mono ?_; rintro r w2 ⟨rfl, h2⟩; refine Hid.out ?_)
    unfold Hid
    have hB2 := hB1.trans (h2.mono hB1.size)
    have KD_2 := Lib.hid (KD_1.out.below h2)
    have KX_2 := Lib.hid (KX_1.out.below h2)
    clear h2 hB1 KD_1 KX_1 fD_0 fD_1 fD_2 fD_3 fD_4 fD_5 fD_l fD_f fD_l0_1 fD_l0_2
    obtain ⟨fX_0, fX_1, fX_2, fX_3, fX_l, fX_f⟩ := KX_2.out.o4
    have fX_l0 : w.heap.size < w2.heap.size := by omega
    have fX_l0_1 : w.heap.size < w2.heap.size + 1 := by omega
    have fX_l0_2 : w.heap.size < w2.heap.size + 1 + 1 := by omega
    have fX_l1_1 : w.heap.size + 1 < w2.heap.size + 1 := by omega
    have fX_l1_2 : w.heap.size + 1 < w2.heap.size + 1 + 1 := by omega
    go_wp2_with (go_at_call 29; refine (HCB.out _).mono ?_; rintro r w3 ⟨rfl, h3⟩; refine Hid.out ?_)
    unfold Hid
    have hB3 := hB2.trans (h3.mono hB2.size)
    have KD_3 := Lib.hid (KD_2.out.below h3)
    have KX_3 := Lib.hid (KX_2.out.below h3)
    clear h3 hB2 KD_2 KX_2 fX_0 fX_1 fX_2 fX_3 fX_l fX_f fX_l0 fX_l0_1 fX_l0_2 fX_l1_1 fX_l1_2
    go_wp2_with (first | (go_at_call 18; refine (HW.out _).mono ?_; rintro r wq ⟨rfl, rfl⟩) | (go_at_call 11; refine (awake_any _ (hL.below hB3)).mono ?_; rintro r w4 ⟨rfl, h4⟩; refine Hid.out ?_))
    unfold Hid
    have hB4 := hB3.trans (h4.mono hB3.size)
    have KD_4 := Lib.hid (KD_3.out.below h4)
    have KX_4 := Lib.hid (KX_3.out.below h4)
    clear h4 hB3 KD_3 KX_3
    go_wp2
    go_ret
    exact ⟨by first | rfl | (simp; done), hB4⟩

/-- the bounds that a law's walk asks for, and the rest that does not depend on the box. -/
theorem law_pre (d1 d2 d3 d4 d5 d6 q0 : Int) (hF : Fit d1 d2 d3 d4 d5 d6 q0) :
    (¬ mIm d6 q0 = 0) ∧ (-64 ≤ -q0 * q0 ∧ -q0 * q0 ≤ 64) ∧ (1 ≤ q0 ∧ q0 ≤ 8) ∧ (-1280 ≤ -q0 * q0 * d3 ∧ -q0 * q0 * d3 ≤ 1280) ∧
    (0 ≤ d1 * (mRe d5 d4 q0 * mRe d5 d4 q0 + mIm d6 q0 * mIm d6 q0) ∧ d1 * (mRe d5 d4 q0 * mRe d5 d4 q0 + mIm d6 q0 * mIm d6 q0) ≤ tRe (nRe d1 d2 d3 d4 d5 d6 q0) (nIm d1 d2 d3 d4 d5 d6 q0) (mRe d5 d4 q0) (-mIm d6 q0) ∧ d1 * (mRe d5 d4 q0 * mRe d5 d4 q0 + mIm d6 q0 * mIm d6 q0) ≤ 1000000000000) ∧
    (0 ≤ q0 * q0 ∧ q0 * q0 ≤ 64) ∧ (1 ≤ q0 * q0 * d4 ∧ q0 * q0 * d4 ≤ 6400) ∧ (1 ≤ q0 * d6 ∧ q0 * d6 ≤ 800) := by
  obtain ⟨m1, m2⟩ := hF.mech
  have g1 := hF.re
  have g3 := hF.bl
  have g4 := hF.ma
  have g6 := hF.lo
  have g7 := hF.w
  have k1 := rng_mul g7 g7
  have k2 := rng_mul k1 g4
  have k3 := rng_mul g7 g6
  have k4 := rng_mul k1 g3
  have e : -q0 * q0 = -(q0 * q0) := Int.neg_mul ..
  have e2 : -q0 * q0 * d3 = -(q0 * q0 * d3) := by rw [e, Int.neg_mul]
  have s1 := m1.mul m1 (by omega)
  have s2 := m2.mul m2 (by omega)
  have z1 : 0 ≤ mRe d5 d4 q0 * mRe d5 d4 q0 := by
    rcases Int.le_total 0 (mRe d5 d4 q0) with h | h
    · exact Int.mul_nonneg h h
    · exact Int.mul_nonneg_of_nonpos_of_nonpos h h
  have z2 : mIm d6 q0 = q0 * d6 := rfl
  have hl := law_real (re := d1) (le := d2) (bl := d3) (ma := d4) (st := d5) (lo := d6) (w := q0) (by omega) (by omega)
  rw [Int.zero_sub] at hl
  have hz : 0 ≤ mIm d6 q0 * mIm d6 q0 := by rw [z2]; exact Int.mul_nonneg (by omega) (by omega)
  unfold Bd at s1 s2
  have hd : d1 * (mRe d5 d4 q0 * mRe d5 d4 q0 + mIm d6 q0 * mIm d6 q0) ≤ 50 * (mRe d5 d4 q0 * mRe d5 d4 q0 + mIm d6 q0 * mIm d6 q0) := Int.mul_le_mul_of_nonneg_right g1.2 (by omega)
  have hd0 : 0 ≤ d1 * (mRe d5 d4 q0 * mRe d5 d4 q0 + mIm d6 q0 * mIm d6 q0) := Int.mul_nonneg (by omega) (by omega)
  refine ⟨by rw [z2]; omega, by omega, g7, by omega, ⟨hd0, hl, by omega⟩, by omega, by omega, by omega⟩


set_option maxHeartbeats 2000000 in
theorem law_ok0 (d1 d2 d3 d4 d5 d6 x1 q0 : Int) (w : World) (hL : Lim w) (h : drvbErr d1 d2 d3 d4 d5 d6 x1 0 0 0 q0 = 0) :
    Calls Tryd.prog 7 #[.agg #[(.int .i64 (d1)), (.int .i64 (d2)), (.int .i64 (d3)), (.int .i64 (d4)), (.int .i64 (d5)), (.int .i64 (d6))], .agg #[(.int .i64 (x1)), (.int .i64 (0)), (.int .i64 (0)), (.int .i64 (0))], (.int .i64 (q0))] w fun r w' => r = .returned (.bool true) ∧ Below w.heap.size w w' := by
  obtain ⟨hde, hxe, hq⟩ := drvb_zero h
  obtain ⟨hF, hFs, hx1⟩ := drvb_fit h
  have hn : drvnErr d1 d2 d3 d4 d5 d6 q0 = 0 := firstOf_eq_zero.2 (by simp only [List.mem_cons, List.not_mem_nil, or_false, forall_eq_or_imp, forall_eq, rangeErr_zero]; exact ⟨hde, hq⟩)
  obtain ⟨a1, a2, a3, a4, a5, a6⟩ := drvErr_zero hde
  obtain ⟨ha, c1, c0, c2, hs, c3, c4, c5⟩ := law_pre d1 d2 d3 d4 d5 d6 q0 hF
  obtain ⟨m1, m2⟩ := hF.mech
  obtain ⟨n1, n2⟩ := hF.num
  have HCD : ∀ W : World, Calls Tryd.prog 17 #[.agg #[(.int .i64 (d1)), (.int .i64 (d2)), (.int .i64 (d3)), (.int .i64 (d4)), (.int .i64 (d5)), (.int .i64 (d6))]] W fun r w' => r = .returned (.int .i64 (0)) ∧ Below W.heap.size W w' := fun W => by
    have := refCheckDriver_any d1 d2 d3 d4 d5 d6 W
    rwa [hde] at this
  have HCB : ∀ W : World, Calls Tryd.prog 29 #[.agg #[(.int .i64 (x1)), (.int .i64 (0)), (.int .i64 (0)), (.int .i64 (0))]] W fun r w' => r = .returned (.int .i64 (0)) ∧ Below W.heap.size W w' := fun W => by
    have := refCheckBox_any x1 0 0 0 W
    rwa [hxe] at this
  have HW : ∀ W : World, Calls Tryd.prog 18 #[(.int .i64 (q0))] W fun r w' => r = .returned (.int .i64 (0)) ∧ W = w' := fun W => by
    have := refCheckW_any q0 W
    rwa [rangeErr_zero.2 hq] at this
  have HImp := fun (W : World) (hW : Lim W) => Impedance_ok d1 d2 d3 d4 d5 d6 q0 W hW hn
  have HExc := fun (W : World) (hW : Lim W) => Excursion_ok d1 d2 d3 d4 d5 d6 q0 W hW hn
  have HOut := fun (W : World) (hW : Lim W) => Output_ok d1 d2 d3 d4 d5 d6 q0 W hW hn
  have HBx := fun (W : World) (hW : Lim W) => Boxed_shut d1 d2 d3 d4 d5 d6 x1 q0 W hW h
  have HMv := fun (W : World) (hW : Lim W) => Moved_shut d1 d2 d3 d4 d5 d6 x1 q0 W hW h
  have HRd := fun (W : World) (hW : Lim W) => Radiated_shut d1 d2 d3 d4 d5 d6 x1 q0 W hW h
  obtain ⟨v1, v2⟩ := hFs.mech
  obtain ⟨w1, w2⟩ := hFs.num
  have HS4 := fun W : World => small_any (nRe d1 d2 d3 d4 (d5 + x1) d6 q0) (nIm d1 d2 d3 d4 (d5 + x1) d6 q0) (mRe (d5 + x1) d4 q0) (mIm d6 q0) W (w1.wide (by omega)) (w2.wide (by omega)) (v1.wide (by omega)) (v2.wide (by omega))
  have HS5 := fun W : World => small_any d3 0 (nRe d1 d2 d3 d4 (d5 + x1) d6 q0) (nIm d1 d2 d3 d4 (d5 + x1) d6 q0) W ⟨by omega, by omega⟩ ⟨by omega, by omega⟩ (w1.wide (by omega)) (w2.wide (by omega))
  have HS6 := fun W : World => small_any 0 0 1 0 W ⟨by omega, by omega⟩ ⟨by omega, by omega⟩ ⟨by omega, by omega⟩ ⟨by omega, by omega⟩
  have HS7 := fun W : World => small_any (-q0 * q0 * d3) 0 (nRe d1 d2 d3 d4 (d5 + x1) d6 q0) (nIm d1 d2 d3 d4 (d5 + x1) d6 q0) W ⟨by omega, by omega⟩ ⟨by omega, by omega⟩ (w1.wide (by omega)) (w2.wide (by omega))
  have HS1 := fun W : World => small_any (nRe d1 d2 d3 d4 d5 d6 q0) (nIm d1 d2 d3 d4 d5 d6 q0) (mRe d5 d4 q0) (mIm d6 q0) W (n1.wide (by omega)) (n2.wide (by omega)) (m1.wide (by omega)) (m2.wide (by omega))
  have HS2 := fun W : World => small_any d3 0 (nRe d1 d2 d3 d4 d5 d6 q0) (nIm d1 d2 d3 d4 d5 d6 q0) W ⟨by omega, by omega⟩ ⟨by omega, by omega⟩ (n1.wide (by omega)) (n2.wide (by omega))
  have HS3 := fun W : World => small_any (-q0 * q0 * d3) 0 (nRe d1 d2 d3 d4 d5 d6 q0) (nIm d1 d2 d3 d4 d5 d6 q0) W ⟨by omega, by omega⟩ ⟨by omega, by omega⟩ (n1.wide (by omega)) (n2.wide (by omega))
  have HCj : ∀ W : World, Calls Tryd.prog 53 #[.agg #[(.int .i64 (mRe d5 d4 q0)), (.int .i64 (mIm d6 q0))]] W fun r w' => r = .returned (.agg #[(.int .i64 (mRe d5 d4 q0)), (.int .i64 (-mIm d6 q0))]) ∧ Below W.heap.size W w' := fun W => by
    have := qConj_any (mRe d5 d4 q0) (mIm d6 q0) W (m2.wide (by omega))
    rwa [Int.zero_sub] at this
  have HTm := fun W : World => qTimes_wide (nRe d1 d2 d3 d4 d5 d6 q0) (nIm d1 d2 d3 d4 d5 d6 q0) (mRe d5 d4 q0) (-mIm d6 q0) W (n1.wide (by omega)) (n2.wide (by omega)) (m1.wide (by omega)) ⟨by have := m2.2; omega, by have := m2.1; omega⟩
  have HSq := fun W : World => qSquare_any (mRe d5 d4 q0) (mIm d6 q0) W (m1.wide (by omega)) (m2.wide (by omega))
  have hce : closedErr d1 d2 d3 d4 d5 d6 x1 = 0 := firstOf_eq_zero.2 (by simp only [List.mem_cons, List.not_mem_nil, or_false, forall_eq_or_imp, forall_eq, rangeErr_zero]; exact ⟨hde, by omega⟩)
  have HMe : q0 * q0 * d4 ≤ 5000 → ∀ W : World, Lim W → Calls Tryd.prog 12 #[.agg #[(.int .i64 (d1)), (.int .i64 (d2)), (.int .i64 (d3)), (.int .i64 (d4)), (.int .i64 (q0 * q0 * d4)), (.int .i64 (d6))], (.int .i64 (q0))] W fun r w' => r = .returned (.tuple #[.agg #[(.int .i64 (0)), (.int .i64 (q0 * d6))], (.int .i64 (0))]) ∧ Below W.heap.size W w' := fun hK W hW => by
    have := Mechanics_ok d1 d2 d3 d4 (q0 * q0 * d4) d6 q0 W hW (firstOf_eq_zero.2 (by simp only [List.mem_cons, List.not_mem_nil, or_false, forall_eq_or_imp, forall_eq, rangeErr_zero]; exact ⟨drvErr_of ⟨a1, a2, a3, a4, by omega, a6⟩, hq⟩))
    rwa [law_still] at this
  have HIm2 : d5 + x1 ≤ 5000 → ∀ W : World, Lim W → Calls Tryd.prog 13 #[.agg #[(.int .i64 (d1)), (.int .i64 (d2)), (.int .i64 (d3)), (.int .i64 (d4)), (.int .i64 (d5 + x1)), (.int .i64 (d6))], (.int .i64 (q0))] W fun r w' => r = .returned (.tuple #[.agg #[(.int .i64 (nRe d1 d2 d3 d4 (d5 + x1) d6 q0)), (.int .i64 (nIm d1 d2 d3 d4 (d5 + x1) d6 q0)), (.int .i64 (mRe (d5 + x1) d4 q0)), (.int .i64 (mIm d6 q0))], (.int .i64 (0))]) ∧ Below W.heap.size W w' := fun hC W hW =>
    Impedance_ok d1 d2 d3 d4 (d5 + x1) d6 q0 W hW (firstOf_eq_zero.2 (by simp only [List.mem_cons, List.not_mem_nil, or_false, forall_eq_or_imp, forall_eq, rangeErr_zero]; exact ⟨drvErr_of ⟨a1, a2, a3, a4, by omega, a6⟩, hq⟩))
  have hb0 : drvbErr d1 d2 d3 d4 d5 d6 x1 0 0 0 q0 = 0 := firstOf_eq_zero.2 (by simp only [List.mem_cons, List.not_mem_nil, or_false, forall_eq_or_imp, forall_eq, rangeErr_zero]; exact ⟨hde, by unfold boxErr; simp [rangeErr_zero.2 hx1], hq⟩)
  have HBx2 := fun (W : World) (hW : Lim W) => Boxed_shut d1 d2 d3 d4 d5 d6 x1 q0 W hW hb0
  have hnn := law_num (re := d1) (le := d2) (bl := d3) (ma := d4) (st := d5) (lo := d6) (w := q0) (by omega) (by omega) (by omega)
  generalize nRe d1 d2 d3 d4 d5 d6 q0 = N1 at *
  by_cases hN : N1 = 0
  · subst hN
    have hn2 : ¬ nIm d1 d2 d3 d4 d5 d6 q0 = 0 := fun hh => hnn ⟨rfl, hh⟩
    by_cases hK : q0 * q0 * d4 ≤ 5000
    · by_cases hC : d5 + x1 ≤ 5000
      · exact law_0111 d1 d2 d3 d4 d5 d6 x1 q0 _ _ _ _ _ _ _ _ _ _ _ _ _ _ w hL (Lib.hid HCD) (Lib.hid HCB) (Lib.hid HW) (Lib.hid HImp) (Lib.hid HExc) (Lib.hid HOut) (Lib.hid HBx) (Lib.hid HMv) (Lib.hid HRd) (Lib.hid HS1) (Lib.hid HS2) (Lib.hid HS3) (Lib.hid HS4) (Lib.hid HS5) (Lib.hid HS6) (Lib.hid HS7) ha hn2 c1 c0 c2 (Lib.hid HCj) (Lib.hid HTm) (Lib.hid HSq) hs c3 ⟨by omega, c4.2⟩ ⟨by omega, c5.2⟩ a5 hx1 hK hC (Lib.hid (HMe hK)) (Lib.hid (fun W hW => closed_ok d1 d2 d3 d4 d5 d6 x1 W hW hce (by omega))) (Lib.hid (HIm2 hC)) (Lib.hid HBx2)
      · exact law_0101 d1 d2 d3 d4 d5 d6 x1 q0 _ _ _ _ _ _ _ _ _ _ w hL (Lib.hid HCD) (Lib.hid HCB) (Lib.hid HW) (Lib.hid HImp) (Lib.hid HExc) (Lib.hid HOut) (Lib.hid HBx) (Lib.hid HMv) (Lib.hid HRd) (Lib.hid HS1) (Lib.hid HS2) (Lib.hid HS3) (Lib.hid HS4) (Lib.hid HS5) (Lib.hid HS6) (Lib.hid HS7) ha hn2 c1 c0 c2 (Lib.hid HCj) (Lib.hid HTm) (Lib.hid HSq) hs c3 ⟨by omega, c4.2⟩ ⟨by omega, c5.2⟩ a5 hx1 hK (by omega) (Lib.hid (HMe hK)) (Lib.hid (fun W hW => closed_far d1 d2 d3 d4 d5 d6 x1 W hW hce (by omega)))
    · by_cases hC : d5 + x1 ≤ 5000
      · exact law_0011 d1 d2 d3 d4 d5 d6 x1 q0 _ _ _ _ _ _ _ _ _ _ _ _ _ _ w hL (Lib.hid HCD) (Lib.hid HCB) (Lib.hid HW) (Lib.hid HImp) (Lib.hid HExc) (Lib.hid HOut) (Lib.hid HBx) (Lib.hid HMv) (Lib.hid HRd) (Lib.hid HS1) (Lib.hid HS2) (Lib.hid HS3) (Lib.hid HS4) (Lib.hid HS5) (Lib.hid HS6) (Lib.hid HS7) ha hn2 c1 c0 c2 (Lib.hid HCj) (Lib.hid HTm) (Lib.hid HSq) hs c3 ⟨by omega, c4.2⟩ ⟨by omega, c5.2⟩ a5 hx1 (by omega) hC (Lib.hid (fun W hW => closed_ok d1 d2 d3 d4 d5 d6 x1 W hW hce (by omega))) (Lib.hid (HIm2 hC)) (Lib.hid HBx2)
      · exact law_0001 d1 d2 d3 d4 d5 d6 x1 q0 _ _ _ _ _ _ _ _ _ _ w hL (Lib.hid HCD) (Lib.hid HCB) (Lib.hid HW) (Lib.hid HImp) (Lib.hid HExc) (Lib.hid HOut) (Lib.hid HBx) (Lib.hid HMv) (Lib.hid HRd) (Lib.hid HS1) (Lib.hid HS2) (Lib.hid HS3) (Lib.hid HS4) (Lib.hid HS5) (Lib.hid HS6) (Lib.hid HS7) ha hn2 c1 c0 c2 (Lib.hid HCj) (Lib.hid HTm) (Lib.hid HSq) hs c3 ⟨by omega, c4.2⟩ ⟨by omega, c5.2⟩ a5 hx1 (by omega) (by omega) (Lib.hid (fun W hW => closed_far d1 d2 d3 d4 d5 d6 x1 W hW hce (by omega)))
  · by_cases hK : q0 * q0 * d4 ≤ 5000
    · by_cases hC : d5 + x1 ≤ 5000
      · exact law_0110 d1 d2 d3 d4 d5 d6 x1 q0 _ _ _ _ _ _ _ _ _ _ _ _ _ _ _ w hL (Lib.hid HCD) (Lib.hid HCB) (Lib.hid HW) (Lib.hid HImp) (Lib.hid HExc) (Lib.hid HOut) (Lib.hid HBx) (Lib.hid HMv) (Lib.hid HRd) (Lib.hid HS1) (Lib.hid HS2) (Lib.hid HS3) (Lib.hid HS4) (Lib.hid HS5) (Lib.hid HS6) (Lib.hid HS7) ha hN c1 c0 c2 (Lib.hid HCj) (Lib.hid HTm) (Lib.hid HSq) hs c3 ⟨by omega, c4.2⟩ ⟨by omega, c5.2⟩ a5 hx1 hK hC (Lib.hid (HMe hK)) (Lib.hid (fun W hW => closed_ok d1 d2 d3 d4 d5 d6 x1 W hW hce (by omega))) (Lib.hid (HIm2 hC)) (Lib.hid HBx2)
      · exact law_0100 d1 d2 d3 d4 d5 d6 x1 q0 _ _ _ _ _ _ _ _ _ _ _ w hL (Lib.hid HCD) (Lib.hid HCB) (Lib.hid HW) (Lib.hid HImp) (Lib.hid HExc) (Lib.hid HOut) (Lib.hid HBx) (Lib.hid HMv) (Lib.hid HRd) (Lib.hid HS1) (Lib.hid HS2) (Lib.hid HS3) (Lib.hid HS4) (Lib.hid HS5) (Lib.hid HS6) (Lib.hid HS7) ha hN c1 c0 c2 (Lib.hid HCj) (Lib.hid HTm) (Lib.hid HSq) hs c3 ⟨by omega, c4.2⟩ ⟨by omega, c5.2⟩ a5 hx1 hK (by omega) (Lib.hid (HMe hK)) (Lib.hid (fun W hW => closed_far d1 d2 d3 d4 d5 d6 x1 W hW hce (by omega)))
    · by_cases hC : d5 + x1 ≤ 5000
      · exact law_0010 d1 d2 d3 d4 d5 d6 x1 q0 _ _ _ _ _ _ _ _ _ _ _ _ _ _ _ w hL (Lib.hid HCD) (Lib.hid HCB) (Lib.hid HW) (Lib.hid HImp) (Lib.hid HExc) (Lib.hid HOut) (Lib.hid HBx) (Lib.hid HMv) (Lib.hid HRd) (Lib.hid HS1) (Lib.hid HS2) (Lib.hid HS3) (Lib.hid HS4) (Lib.hid HS5) (Lib.hid HS6) (Lib.hid HS7) ha hN c1 c0 c2 (Lib.hid HCj) (Lib.hid HTm) (Lib.hid HSq) hs c3 ⟨by omega, c4.2⟩ ⟨by omega, c5.2⟩ a5 hx1 (by omega) hC (Lib.hid (fun W hW => closed_ok d1 d2 d3 d4 d5 d6 x1 W hW hce (by omega))) (Lib.hid (HIm2 hC)) (Lib.hid HBx2)
      · exact law_0000 d1 d2 d3 d4 d5 d6 x1 q0 _ _ _ _ _ _ _ _ _ _ _ w hL (Lib.hid HCD) (Lib.hid HCB) (Lib.hid HW) (Lib.hid HImp) (Lib.hid HExc) (Lib.hid HOut) (Lib.hid HBx) (Lib.hid HMv) (Lib.hid HRd) (Lib.hid HS1) (Lib.hid HS2) (Lib.hid HS3) (Lib.hid HS4) (Lib.hid HS5) (Lib.hid HS6) (Lib.hid HS7) ha hN c1 c0 c2 (Lib.hid HCj) (Lib.hid HTm) (Lib.hid HSq) hs c3 ⟨by omega, c4.2⟩ ⟨by omega, c5.2⟩ a5 hx1 (by omega) (by omega) (Lib.hid (fun W hW => closed_far d1 d2 d3 d4 d5 d6 x1 W hW hce (by omega)))

set_option maxHeartbeats 2000000 in
theorem law_ok1 (d1 d2 d3 d4 d5 d6 x1 x2 x3 x4 q0 : Int) (w : World) (hL : Lim w) (h : drvbErr d1 d2 d3 d4 d5 d6 x1 x2 x3 x4 q0 = 0) (hm : ¬ x2 = 0) :
    Calls Tryd.prog 7 #[.agg #[(.int .i64 (d1)), (.int .i64 (d2)), (.int .i64 (d3)), (.int .i64 (d4)), (.int .i64 (d5)), (.int .i64 (d6))], .agg #[(.int .i64 (x1)), (.int .i64 (x2)), (.int .i64 (x3)), (.int .i64 (x4))], (.int .i64 (q0))] w fun r w' => r = .returned (.bool true) ∧ Below w.heap.size w w' := by
  obtain ⟨hde, hxe, hq⟩ := drvb_zero h
  obtain ⟨hF, hFs, hx1⟩ := drvb_fit h
  have hn : drvnErr d1 d2 d3 d4 d5 d6 q0 = 0 := firstOf_eq_zero.2 (by simp only [List.mem_cons, List.not_mem_nil, or_false, forall_eq_or_imp, forall_eq, rangeErr_zero]; exact ⟨hde, hq⟩)
  obtain ⟨a1, a2, a3, a4, a5, a6⟩ := drvErr_zero hde
  obtain ⟨ha, c1, c0, c2, hs, c3, c4, c5⟩ := law_pre d1 d2 d3 d4 d5 d6 q0 hF
  obtain ⟨m1, m2⟩ := hF.mech
  obtain ⟨n1, n2⟩ := hF.num
  have HCD : ∀ W : World, Calls Tryd.prog 17 #[.agg #[(.int .i64 (d1)), (.int .i64 (d2)), (.int .i64 (d3)), (.int .i64 (d4)), (.int .i64 (d5)), (.int .i64 (d6))]] W fun r w' => r = .returned (.int .i64 (0)) ∧ Below W.heap.size W w' := fun W => by
    have := refCheckDriver_any d1 d2 d3 d4 d5 d6 W
    rwa [hde] at this
  have HCB : ∀ W : World, Calls Tryd.prog 29 #[.agg #[(.int .i64 (x1)), (.int .i64 (x2)), (.int .i64 (x3)), (.int .i64 (x4))]] W fun r w' => r = .returned (.int .i64 (0)) ∧ Below W.heap.size W w' := fun W => by
    have := refCheckBox_any x1 x2 x3 x4 W
    rwa [hxe] at this
  have HW : ∀ W : World, Calls Tryd.prog 18 #[(.int .i64 (q0))] W fun r w' => r = .returned (.int .i64 (0)) ∧ W = w' := fun W => by
    have := refCheckW_any q0 W
    rwa [rangeErr_zero.2 hq] at this
  have HImp := fun (W : World) (hW : Lim W) => Impedance_ok d1 d2 d3 d4 d5 d6 q0 W hW hn
  have HExc := fun (W : World) (hW : Lim W) => Excursion_ok d1 d2 d3 d4 d5 d6 q0 W hW hn
  have HOut := fun (W : World) (hW : Lim W) => Output_ok d1 d2 d3 d4 d5 d6 q0 W hW hn
  have HBx := fun (W : World) (hW : Lim W) => Boxed_port d1 d2 d3 d4 d5 d6 x1 x2 x3 x4 q0 W hW h hm
  have HMv := fun (W : World) (hW : Lim W) => Moved_port d1 d2 d3 d4 d5 d6 x1 x2 x3 x4 q0 W hW h hm
  have HRd : ∀ W : World, Lim W → Calls Tryd.prog 26 #[.agg #[(.int .i64 (d1)), (.int .i64 (d2)), (.int .i64 (d3)), (.int .i64 (d4)), (.int .i64 (d5)), (.int .i64 (d6))], .agg #[(.int .i64 (x1)), (.int .i64 (x2)), (.int .i64 (x3)), (.int .i64 (x4))], (.int .i64 (q0))] W fun r w' => r = .returned (.tuple #[.agg #[(.int .i64 (-q0 * q0 * (d3 * aRe x1 x2 x3 q0 - d3 * x1))), (.int .i64 (-q0 * q0 * (d3 * aIm x4 q0 - 0))), (.int .i64 (wRe d1 d2 d3 d4 d5 d6 x1 x2 x3 x4 q0)), (.int .i64 (wIm d1 d2 d3 d4 d5 d6 x1 x2 x3 x4 q0))], (.int .i64 (0))]) ∧ Below W.heap.size W w' := fun W hW => by
    have := Radiated_port d1 d2 d3 d4 d5 d6 x1 x2 x3 x4 q0 W hW h hm
    rwa [← (law_port x1 x2 x3 x4 d3 q0).1, ← (law_port x1 x2 x3 x4 d3 q0).2] at this
  have hB := drvb_fitB h hm
  obtain ⟨p1, p2, p3, p4, p5, p6, p7, p8, p9, p10⟩ := box_bds hF hB
  have r1 : Bd 80 d1 := ⟨by omega, by omega⟩
  have r2 : Bd 80 (q0 * d2) := (show Bd 8 q0 from ⟨by omega, by omega⟩).mul (show Bd 10 d2 from ⟨by omega, by omega⟩) (by omega)
  have r3 : Bd 3200 (q0 * d3 * d3) := ((show Bd 8 q0 from ⟨by omega, by omega⟩).mul (show Bd 20 d3 from ⟨by omega, by omega⟩) (by omega)).mul (show Bd 20 d3 from ⟨by omega, by omega⟩) (by omega)
  have r4 : Bd 3200 0 := ⟨by omega, by omega⟩
  have t1 := tRe_bd r1 r2 p9 p10 (by omega)
  have t2 := tIm_bd r1 r2 p9 p10 (by omega)
  have t3 := tRe_bd r4 r3 p3 p4 (by omega)
  have t4 := tIm_bd r4 r3 p3 p4 (by omega)
  have w1 : Bd 400000000000 (wRe d1 d2 d3 d4 d5 d6 x1 x2 x3 x4 q0) := ⟨by have := t1.1; have := t3.1; unfold wRe eRe pl; omega, by have := t1.2; have := t3.2; unfold wRe eRe pl; omega⟩
  have w2 : Bd 400000000000 (wIm d1 d2 d3 d4 d5 d6 x1 x2 x3 x4 q0) := ⟨by have := t2.1; have := t4.1; unfold wIm eIm pl; omega, by have := t2.2; have := t4.2; unfold wIm eIm pl; omega⟩
  have r0 : Bd 20 d3 := ⟨by omega, by omega⟩
  have s1 := r0.mul p3 (by omega)
  have s2 := r0.mul p4 (by omega)
  have s3 : Bd 100000 (d3 * x1) := (r0.mul (show Bd 5000 x1 from ⟨by omega, by omega⟩) (by omega)).wide (by omega)
  have q64 : Bd 64 (-q0 * q0) := ⟨c1.1, c1.2⟩
  have u1 : Bd 600000 (d3 * aRe x1 x2 x3 q0 - d3 * x1) := ⟨by have := s1.1; have := s3.2; omega, by have := s1.2; have := s3.1; omega⟩
  have u2 : Bd 600000 (d3 * aIm x4 q0 - 0) := ⟨by have := s2.1; omega, by have := s2.2; omega⟩
  have f1 := q64.mul u1 (by omega)
  have f2 := q64.mul u2 (by omega)
  have HLs := fun W : World => qLess_any (d3 * aRe x1 x2 x3 q0) (d3 * aIm x4 q0) (d3 * x1) 0 W (s1.wide (by omega)) (s2.wide (by omega)) (s3.wide (by omega)) ⟨by omega, by omega⟩
  have HS4 := fun W : World => small_any (wRe d1 d2 d3 d4 d5 d6 x1 x2 x3 x4 q0) (wIm d1 d2 d3 d4 d5 d6 x1 x2 x3 x4 q0) (lRe d4 d5 d6 x1 x2 x3 x4 q0) (lIm d4 d5 d6 x1 x2 x3 x4 q0) W (w1.wide (by omega)) (w2.wide (by omega)) (p9.wide (by omega)) (p10.wide (by omega))
  have HS5 := fun W : World => small_any (d3 * aRe x1 x2 x3 q0) (d3 * aIm x4 q0) (wRe d1 d2 d3 d4 d5 d6 x1 x2 x3 x4 q0) (wIm d1 d2 d3 d4 d5 d6 x1 x2 x3 x4 q0) W (s1.wide (by omega)) (s2.wide (by omega)) (w1.wide (by omega)) (w2.wide (by omega))
  have HS6 := fun W : World => small_any (d3 * x1) 0 (wRe d1 d2 d3 d4 d5 d6 x1 x2 x3 x4 q0) (wIm d1 d2 d3 d4 d5 d6 x1 x2 x3 x4 q0) W (s3.wide (by omega)) ⟨by omega, by omega⟩ (w1.wide (by omega)) (w2.wide (by omega))
  have HS7 := fun W : World => small_any (-q0 * q0 * (d3 * aRe x1 x2 x3 q0 - d3 * x1)) (-q0 * q0 * (d3 * aIm x4 q0 - 0)) (wRe d1 d2 d3 d4 d5 d6 x1 x2 x3 x4 q0) (wIm d1 d2 d3 d4 d5 d6 x1 x2 x3 x4 q0) W (f1.wide (by omega)) (f2.wide (by omega)) (w1.wide (by omega)) (w2.wide (by omega))
  have HS1 := fun W : World => small_any (nRe d1 d2 d3 d4 d5 d6 q0) (nIm d1 d2 d3 d4 d5 d6 q0) (mRe d5 d4 q0) (mIm d6 q0) W (n1.wide (by omega)) (n2.wide (by omega)) (m1.wide (by omega)) (m2.wide (by omega))
  have HS2 := fun W : World => small_any d3 0 (nRe d1 d2 d3 d4 d5 d6 q0) (nIm d1 d2 d3 d4 d5 d6 q0) W ⟨by omega, by omega⟩ ⟨by omega, by omega⟩ (n1.wide (by omega)) (n2.wide (by omega))
  have HS3 := fun W : World => small_any (-q0 * q0 * d3) 0 (nRe d1 d2 d3 d4 d5 d6 q0) (nIm d1 d2 d3 d4 d5 d6 q0) W ⟨by omega, by omega⟩ ⟨by omega, by omega⟩ (n1.wide (by omega)) (n2.wide (by omega))
  have HCj : ∀ W : World, Calls Tryd.prog 53 #[.agg #[(.int .i64 (mRe d5 d4 q0)), (.int .i64 (mIm d6 q0))]] W fun r w' => r = .returned (.agg #[(.int .i64 (mRe d5 d4 q0)), (.int .i64 (-mIm d6 q0))]) ∧ Below W.heap.size W w' := fun W => by
    have := qConj_any (mRe d5 d4 q0) (mIm d6 q0) W (m2.wide (by omega))
    rwa [Int.zero_sub] at this
  have HTm := fun W : World => qTimes_wide (nRe d1 d2 d3 d4 d5 d6 q0) (nIm d1 d2 d3 d4 d5 d6 q0) (mRe d5 d4 q0) (-mIm d6 q0) W (n1.wide (by omega)) (n2.wide (by omega)) (m1.wide (by omega)) ⟨by have := m2.2; omega, by have := m2.1; omega⟩
  have HSq := fun W : World => qSquare_any (mRe d5 d4 q0) (mIm d6 q0) W (m1.wide (by omega)) (m2.wide (by omega))
  have hce : closedErr d1 d2 d3 d4 d5 d6 x1 = 0 := firstOf_eq_zero.2 (by simp only [List.mem_cons, List.not_mem_nil, or_false, forall_eq_or_imp, forall_eq, rangeErr_zero]; exact ⟨hde, by omega⟩)
  have HMe : q0 * q0 * d4 ≤ 5000 → ∀ W : World, Lim W → Calls Tryd.prog 12 #[.agg #[(.int .i64 (d1)), (.int .i64 (d2)), (.int .i64 (d3)), (.int .i64 (d4)), (.int .i64 (q0 * q0 * d4)), (.int .i64 (d6))], (.int .i64 (q0))] W fun r w' => r = .returned (.tuple #[.agg #[(.int .i64 (0)), (.int .i64 (q0 * d6))], (.int .i64 (0))]) ∧ Below W.heap.size W w' := fun hK W hW => by
    have := Mechanics_ok d1 d2 d3 d4 (q0 * q0 * d4) d6 q0 W hW (firstOf_eq_zero.2 (by simp only [List.mem_cons, List.not_mem_nil, or_false, forall_eq_or_imp, forall_eq, rangeErr_zero]; exact ⟨drvErr_of ⟨a1, a2, a3, a4, by omega, a6⟩, hq⟩))
    rwa [law_still] at this
  have HIm2 : d5 + x1 ≤ 5000 → ∀ W : World, Lim W → Calls Tryd.prog 13 #[.agg #[(.int .i64 (d1)), (.int .i64 (d2)), (.int .i64 (d3)), (.int .i64 (d4)), (.int .i64 (d5 + x1)), (.int .i64 (d6))], (.int .i64 (q0))] W fun r w' => r = .returned (.tuple #[.agg #[(.int .i64 (nRe d1 d2 d3 d4 (d5 + x1) d6 q0)), (.int .i64 (nIm d1 d2 d3 d4 (d5 + x1) d6 q0)), (.int .i64 (mRe (d5 + x1) d4 q0)), (.int .i64 (mIm d6 q0))], (.int .i64 (0))]) ∧ Below W.heap.size W w' := fun hC W hW =>
    Impedance_ok d1 d2 d3 d4 (d5 + x1) d6 q0 W hW (firstOf_eq_zero.2 (by simp only [List.mem_cons, List.not_mem_nil, or_false, forall_eq_or_imp, forall_eq, rangeErr_zero]; exact ⟨drvErr_of ⟨a1, a2, a3, a4, by omega, a6⟩, hq⟩))
  have hb0 : drvbErr d1 d2 d3 d4 d5 d6 x1 0 0 0 q0 = 0 := firstOf_eq_zero.2 (by simp only [List.mem_cons, List.not_mem_nil, or_false, forall_eq_or_imp, forall_eq, rangeErr_zero]; exact ⟨hde, by unfold boxErr; simp [rangeErr_zero.2 hx1], hq⟩)
  have HBx2 := fun (W : World) (hW : Lim W) => Boxed_shut d1 d2 d3 d4 d5 d6 x1 q0 W hW hb0
  have hnn := law_num (re := d1) (le := d2) (bl := d3) (ma := d4) (st := d5) (lo := d6) (w := q0) (by omega) (by omega) (by omega)
  generalize nRe d1 d2 d3 d4 d5 d6 q0 = N1 at *
  by_cases hN : N1 = 0
  · subst hN
    have hn2 : ¬ nIm d1 d2 d3 d4 d5 d6 q0 = 0 := fun hh => hnn ⟨rfl, hh⟩
    by_cases hK : q0 * q0 * d4 ≤ 5000
    · by_cases hC : d5 + x1 ≤ 5000
      · exact law_1111 d1 d2 d3 d4 d5 d6 x1 x2 x3 x4 q0 _ _ _ _ _ _ _ _ _ _ _ _ _ _ _ _ _ _ _ w hL (Lib.hid HCD) (Lib.hid HCB) (Lib.hid HW) (Lib.hid HImp) (Lib.hid HExc) (Lib.hid HOut) (Lib.hid HBx) (Lib.hid HMv) (Lib.hid HRd) (Lib.hid HS1) (Lib.hid HS2) (Lib.hid HS3) (Lib.hid HS4) (Lib.hid HS5) (Lib.hid HS6) (Lib.hid HS7) ha hn2 c1 c0 c2 (Lib.hid HCj) (Lib.hid HTm) (Lib.hid HSq) hs c3 ⟨by omega, c4.2⟩ ⟨by omega, c5.2⟩ a5 hx1 hK hC (Lib.hid (HMe hK)) (Lib.hid (fun W hW => closed_ok d1 d2 d3 d4 d5 d6 x1 W hW hce (by omega))) (Lib.hid (HIm2 hC)) (Lib.hid HBx2) (Lib.hid HLs) hm ⟨by have := f1.1; omega, by have := f1.2; omega⟩ ⟨by have := f2.1; omega, by have := f2.2; omega⟩
      · exact law_1101 d1 d2 d3 d4 d5 d6 x1 x2 x3 x4 q0 _ _ _ _ _ _ _ _ _ _ _ _ _ _ _ w hL (Lib.hid HCD) (Lib.hid HCB) (Lib.hid HW) (Lib.hid HImp) (Lib.hid HExc) (Lib.hid HOut) (Lib.hid HBx) (Lib.hid HMv) (Lib.hid HRd) (Lib.hid HS1) (Lib.hid HS2) (Lib.hid HS3) (Lib.hid HS4) (Lib.hid HS5) (Lib.hid HS6) (Lib.hid HS7) ha hn2 c1 c0 c2 (Lib.hid HCj) (Lib.hid HTm) (Lib.hid HSq) hs c3 ⟨by omega, c4.2⟩ ⟨by omega, c5.2⟩ a5 hx1 hK (by omega) (Lib.hid (HMe hK)) (Lib.hid (fun W hW => closed_far d1 d2 d3 d4 d5 d6 x1 W hW hce (by omega))) (Lib.hid HLs) hm ⟨by have := f1.1; omega, by have := f1.2; omega⟩ ⟨by have := f2.1; omega, by have := f2.2; omega⟩
    · by_cases hC : d5 + x1 ≤ 5000
      · exact law_1011 d1 d2 d3 d4 d5 d6 x1 x2 x3 x4 q0 _ _ _ _ _ _ _ _ _ _ _ _ _ _ _ _ _ _ _ w hL (Lib.hid HCD) (Lib.hid HCB) (Lib.hid HW) (Lib.hid HImp) (Lib.hid HExc) (Lib.hid HOut) (Lib.hid HBx) (Lib.hid HMv) (Lib.hid HRd) (Lib.hid HS1) (Lib.hid HS2) (Lib.hid HS3) (Lib.hid HS4) (Lib.hid HS5) (Lib.hid HS6) (Lib.hid HS7) ha hn2 c1 c0 c2 (Lib.hid HCj) (Lib.hid HTm) (Lib.hid HSq) hs c3 ⟨by omega, c4.2⟩ ⟨by omega, c5.2⟩ a5 hx1 (by omega) hC (Lib.hid (fun W hW => closed_ok d1 d2 d3 d4 d5 d6 x1 W hW hce (by omega))) (Lib.hid (HIm2 hC)) (Lib.hid HBx2) (Lib.hid HLs) hm ⟨by have := f1.1; omega, by have := f1.2; omega⟩ ⟨by have := f2.1; omega, by have := f2.2; omega⟩
      · exact law_1001 d1 d2 d3 d4 d5 d6 x1 x2 x3 x4 q0 _ _ _ _ _ _ _ _ _ _ _ _ _ _ _ w hL (Lib.hid HCD) (Lib.hid HCB) (Lib.hid HW) (Lib.hid HImp) (Lib.hid HExc) (Lib.hid HOut) (Lib.hid HBx) (Lib.hid HMv) (Lib.hid HRd) (Lib.hid HS1) (Lib.hid HS2) (Lib.hid HS3) (Lib.hid HS4) (Lib.hid HS5) (Lib.hid HS6) (Lib.hid HS7) ha hn2 c1 c0 c2 (Lib.hid HCj) (Lib.hid HTm) (Lib.hid HSq) hs c3 ⟨by omega, c4.2⟩ ⟨by omega, c5.2⟩ a5 hx1 (by omega) (by omega) (Lib.hid (fun W hW => closed_far d1 d2 d3 d4 d5 d6 x1 W hW hce (by omega))) (Lib.hid HLs) hm ⟨by have := f1.1; omega, by have := f1.2; omega⟩ ⟨by have := f2.1; omega, by have := f2.2; omega⟩
  · by_cases hK : q0 * q0 * d4 ≤ 5000
    · by_cases hC : d5 + x1 ≤ 5000
      · exact law_1110 d1 d2 d3 d4 d5 d6 x1 x2 x3 x4 q0 _ _ _ _ _ _ _ _ _ _ _ _ _ _ _ _ _ _ _ _ w hL (Lib.hid HCD) (Lib.hid HCB) (Lib.hid HW) (Lib.hid HImp) (Lib.hid HExc) (Lib.hid HOut) (Lib.hid HBx) (Lib.hid HMv) (Lib.hid HRd) (Lib.hid HS1) (Lib.hid HS2) (Lib.hid HS3) (Lib.hid HS4) (Lib.hid HS5) (Lib.hid HS6) (Lib.hid HS7) ha hN c1 c0 c2 (Lib.hid HCj) (Lib.hid HTm) (Lib.hid HSq) hs c3 ⟨by omega, c4.2⟩ ⟨by omega, c5.2⟩ a5 hx1 hK hC (Lib.hid (HMe hK)) (Lib.hid (fun W hW => closed_ok d1 d2 d3 d4 d5 d6 x1 W hW hce (by omega))) (Lib.hid (HIm2 hC)) (Lib.hid HBx2) (Lib.hid HLs) hm ⟨by have := f1.1; omega, by have := f1.2; omega⟩ ⟨by have := f2.1; omega, by have := f2.2; omega⟩
      · exact law_1100 d1 d2 d3 d4 d5 d6 x1 x2 x3 x4 q0 _ _ _ _ _ _ _ _ _ _ _ _ _ _ _ _ w hL (Lib.hid HCD) (Lib.hid HCB) (Lib.hid HW) (Lib.hid HImp) (Lib.hid HExc) (Lib.hid HOut) (Lib.hid HBx) (Lib.hid HMv) (Lib.hid HRd) (Lib.hid HS1) (Lib.hid HS2) (Lib.hid HS3) (Lib.hid HS4) (Lib.hid HS5) (Lib.hid HS6) (Lib.hid HS7) ha hN c1 c0 c2 (Lib.hid HCj) (Lib.hid HTm) (Lib.hid HSq) hs c3 ⟨by omega, c4.2⟩ ⟨by omega, c5.2⟩ a5 hx1 hK (by omega) (Lib.hid (HMe hK)) (Lib.hid (fun W hW => closed_far d1 d2 d3 d4 d5 d6 x1 W hW hce (by omega))) (Lib.hid HLs) hm ⟨by have := f1.1; omega, by have := f1.2; omega⟩ ⟨by have := f2.1; omega, by have := f2.2; omega⟩
    · by_cases hC : d5 + x1 ≤ 5000
      · exact law_1010 d1 d2 d3 d4 d5 d6 x1 x2 x3 x4 q0 _ _ _ _ _ _ _ _ _ _ _ _ _ _ _ _ _ _ _ _ w hL (Lib.hid HCD) (Lib.hid HCB) (Lib.hid HW) (Lib.hid HImp) (Lib.hid HExc) (Lib.hid HOut) (Lib.hid HBx) (Lib.hid HMv) (Lib.hid HRd) (Lib.hid HS1) (Lib.hid HS2) (Lib.hid HS3) (Lib.hid HS4) (Lib.hid HS5) (Lib.hid HS6) (Lib.hid HS7) ha hN c1 c0 c2 (Lib.hid HCj) (Lib.hid HTm) (Lib.hid HSq) hs c3 ⟨by omega, c4.2⟩ ⟨by omega, c5.2⟩ a5 hx1 (by omega) hC (Lib.hid (fun W hW => closed_ok d1 d2 d3 d4 d5 d6 x1 W hW hce (by omega))) (Lib.hid (HIm2 hC)) (Lib.hid HBx2) (Lib.hid HLs) hm ⟨by have := f1.1; omega, by have := f1.2; omega⟩ ⟨by have := f2.1; omega, by have := f2.2; omega⟩
      · exact law_1000 d1 d2 d3 d4 d5 d6 x1 x2 x3 x4 q0 _ _ _ _ _ _ _ _ _ _ _ _ _ _ _ _ w hL (Lib.hid HCD) (Lib.hid HCB) (Lib.hid HW) (Lib.hid HImp) (Lib.hid HExc) (Lib.hid HOut) (Lib.hid HBx) (Lib.hid HMv) (Lib.hid HRd) (Lib.hid HS1) (Lib.hid HS2) (Lib.hid HS3) (Lib.hid HS4) (Lib.hid HS5) (Lib.hid HS6) (Lib.hid HS7) ha hN c1 c0 c2 (Lib.hid HCj) (Lib.hid HTm) (Lib.hid HSq) hs c3 ⟨by omega, c4.2⟩ ⟨by omega, c5.2⟩ a5 hx1 (by omega) (by omega) (Lib.hid (fun W hW => closed_far d1 d2 d3 d4 d5 d6 x1 W hW hce (by omega))) (Lib.hid HLs) hm ⟨by have := f1.1; omega, by have := f1.2; omega⟩ ⟨by have := f2.1; omega, by have := f2.2; omega⟩

theorem DriverLaws_any (d1 d2 d3 d4 d5 d6 x1 x2 x3 x4 q0 : Int) (w : World) (hL : Lim w) :
    Calls Tryd.prog 7 #[.agg #[(.int .i64 (d1)), (.int .i64 (d2)), (.int .i64 (d3)), (.int .i64 (d4)), (.int .i64 (d5)), (.int .i64 (d6))], .agg #[(.int .i64 (x1)), (.int .i64 (x2)), (.int .i64 (x3)), (.int .i64 (x4))], (.int .i64 (q0))] w fun r w' => r = .returned (.bool true) ∧ Below w.heap.size w w' := by
  by_cases h : drvbErr d1 d2 d3 d4 d5 d6 x1 x2 x3 x4 q0 = 0
  · by_cases hm : x2 = 0
    · subst hm
      obtain ⟨rfl, rfl⟩ := drvb_shut h
      exact law_ok0 d1 d2 d3 d4 d5 d6 x1 q0 w hL h
    · exact law_ok1 d1 d2 d3 d4 d5 d6 x1 x2 x3 x4 q0 w hL h hm
  · refine law_bad d1 d2 d3 d4 d5 d6 x1 x2 x3 x4 q0 w hL _ _ _ (Lib.hid fun W => refCheckDriver_any d1 d2 d3 d4 d5 d6 W) (Lib.hid fun W => refCheckBox_any x1 x2 x3 x4 W) (Lib.hid fun W => refCheckW_any q0 W) ?_
    by_cases e1 : drvErr d1 d2 d3 d4 d5 d6 = 0
    · by_cases e2 : boxErr x1 x2 x3 x4 = 0
      · exact .inr (.inr ⟨e1, e2, fun e3 => h (firstOf_eq_zero.2 (by simp only [List.mem_cons, List.not_mem_nil, or_false, forall_eq_or_imp, forall_eq]; exact ⟨e1, e2, e3⟩))⟩)
      · exact .inr (.inl ⟨e1, e2⟩)
    · exact .inl e1
end Go.Proofs.YtpkldjlljoledaaDoor

/- DriverLaws: the row and its card. -/
namespace Go.Proofs.YtpkldjlljoledaaDoor.driverLaws
open Go.ChangeShapes Go.WideShapes Go.ChangeAt Go.RowKit Go.Flat
open Calm (bcell)

set_option maxRecDepth 100000 in
theorem contract (H : Type) (enc : TypeId × Value → H) (W : World) (base : Nat) (args : Array Value) (ds gs : List (DataW H)) (before : List MemPlace)
    (hval : ∀ (j : Nat) t v, Tryd.f7.params[j]? = some t → args[j]? = some v → Value.okWide Tryd.prog W .any base t v)
    (hW : DataW.Whole enc Tryd.prog Tryd.f7.params.toList Rows.driverLawsSpec.vars false W args.toList ds gs before) (hL : laidMetH Tryd.prog laidList W) :
    Calls Tryd.prog 7 args W fun e W' => ∃ v, e = .returned v ∧ Rows.driverLawsSpec.post enc Tryd.prog Tryd.f7 false true false false W args v W' := by
  have hW' := hW
  have hlt : ∀ p ∈ before, p.block < W.heap.size := fun p hp => hW.lt p hp
  obtain ⟨p, q, hA0, hV, rfl, hfz, hnd⟩ := hW
  have hA : DataW.TrodAll enc Tryd.prog W 0 (fun _ => true) true Tryd.f7.params.toList args.toList ds p := hA0
  rw [Tryd.params7] at hA hval
  obtain ⟨v0, v1, v2, d0, d1, d2, p0, p1, p2, rfl, rfl, rfl, h0, h1, h2⟩ := trodAll_three hA
  obtain ⟨rfl, rfl⟩ := trodVars_none hV
  obtain ⟨z0, hz0, rfl, rfl⟩ := open_ints 3 Tryd.underlying23 (by kernel_rfl) (hval 0 _ _ rfl rfl) h0
  rw [show Tryd.prog.cellsOf 23 = 6 by kernel_rfl] at hz0
  obtain ⟨z1, hz1, rfl, rfl⟩ := open_ints 3 Tryd.underlying46 (by kernel_rfl) (hval 1 _ _ rfl rfl) h1
  rw [show Tryd.prog.cellsOf 46 = 4 by kernel_rfl] at hz1
  obtain ⟨q, rfl, rfl, rfl, _⟩ := open_int Tryd.underlying3 (hval 2 _ _ rfl rfl) h2
  match z0, hz0 with
  | [d1, d2, d3, d4, d5, d6], _ =>
  match z1, hz1 with
  | [x1, x2, x3, x4], _ =>
  refine (DriverLaws_any d1 d2 d3 d4 d5 d6 x1 x2 x3 x4 q W (lim_of_laid hL)).mono fun e W' ⟨he, hb⟩ => ?_
  subst he
  refine ⟨_, rfl, post_of_below (pa := [] ++ [] ++ []) (pv := []) hW' (fun _ _ _ => trodAll_cons_mk (shut_bool Tryd.underlying4 _) trodAll_mk0) (fun sp hs => ?_) (fun _ _ => rfl) rfl hb (ok_one (by kernel_rfl) rfl (okWide_bool_mk Tryd.underlying4 _))⟩
  exact trodAll_below laidOut hb (by rw [Tryd.params7]; exact of_decide_eq_true (by kernel_rfl)) hA0 (fun x hx => hlt x (List.mem_append_left _ hx)) (fun x hx => hs x (List.mem_append_left _ hx))

/-- the witness: nothing but zeros. -/
noncomputable def wit : Array Value := #[.agg #[(.int .i64 (0)), (.int .i64 (0)), (.int .i64 (0)), (.int .i64 (0)), (.int .i64 (0)), (.int .i64 (0))], .agg #[(.int .i64 (0)), (.int .i64 (0)), (.int .i64 (0)), (.int .i64 (0))], (.int .i64 (0))]
theorem reads (os : Os) {H : Type} (enc : TypeId × Value → H) : ∃ ds places, DataW.whole enc Tryd.prog ((World.doorLaid Tryd.prog 35 os).forCall (fun _ _ => 0) ⟨#[], wit, []⟩).memory Tryd.f7.params.toList Rows.driverLawsSpec.vars false wit.toList 8 = some (ds, [], places) :=
  ⟨[.agg (List.replicate 6 (.lit (.int .i64 0))), .agg (List.replicate 4 (.lit (.int .i64 0))), .lit (.int .i64 0)], [], by kernel_rfl⟩

set_option maxRecDepth 100000 in
theorem lifted (os : Os) (started : os.Started) (H : Type) (enc : TypeId × Value → H) (F : Stop.Interp) :
    ReturnsInHanded {} Tryd.checked os 7 .any ((OpenSpec.ofChange Rows.driverLawsSpec).preRow enc Tryd.prog Tryd.f7 Rows.driverLawsRow.domain false Rows.driverLawsRow.laid) (((OpenSpec.ofChange Rows.driverLawsSpec).at F).post enc Tryd.prog Tryd.f7 false true false false) := by
  obtain ⟨ds, places, hx⟩ := reads os enc
  refine returnsInHanded_of_row (C := Tryd.checked) (s := OpenSpec.ofChange Rows.driverLawsSpec) own started (by kernel_rfl) Tryd.func7
    (witness_row_at (enc := enc) (C := Tryd.checked) false (World.doorLaid Tryd.prog 35 os) wit rfl (door_vars os _) (door_rest os _) (by kernel_rfl)
      (OpenSpec.preRow_of_cond 8 hx (by kernel_rfl) (fun k hk => by cases hk) (by kernel_rfl) (laid_met os _))) ?_
  intro W base args ds gs before hval hW _ _ _ hL _ _
  exact contract H enc W base args ds gs before hval hW hL

theorem said : Rows.DriverLawsSaid :=
  OpenClaim.holds_of_cond 7 Tryd.f7 rfl rfl rfl rfl rfl rfl rfl ⟨rfl, rfl, rfl, rfl, rfl⟩ rfl rfl rfl rfl rfl (by kernel_rfl) Tryd.func7 (by kernel_rfl)
    (of_decide_eq_true (by kernel_rfl)) (by unfold Func.isWrapper; first | (rw [if_pos (by decide +kernel)]; kernel_rfl) | (rw [if_neg (by decide +kernel)]; exact ⟨rfl, rfl⟩))
    (fun os started H enc _ F => by rw [OpenClaim.pre_eq_preRow]; exact lifted os started H enc F)

theorem plain (f : FuncId) (fn : Func) (hf : Tryd.pinned.checked.prog.funcNamed "woofer/wooferlaw03.DriverLaws" = some f) (hfn : Tryd.pinned.checked.prog.funcs[f]? = some fn) :
    false = Tryd.pinned.checked.prog.looks [] ∧ ∀ (j : Nat) t, fn.params[j]? = some t → Tryd.pinned.checked.prog.wantsStandIn t = false := by
  obtain rfl : f = 7 := Option.some.inj ((show Tryd.prog.funcNamed "woofer/wooferlaw03.DriverLaws" = some 7 by kernel_rfl).symm.trans hf) |>.symm
  obtain rfl : fn = Tryd.f7 := (Option.some.inj (Tryd.func7.symm.trans hfn)).symm
  refine ⟨by kernel_rfl, fun j t ht => ?_⟩
  rw [Tryd.params7] at ht
  have hall : ∀ t ∈ (#[23, 46, 3] : Array TypeId), Tryd.prog.wantsStandIn t = false := of_decide_eq_true (by kernel_rfl)
  exact hall t (Array.mem_of_getElem? ht)

theorem card : Rows.DriverLawsCardSaid :=
  Claim7.holds_tied_plain_at .later [] _ _ _ _ said (fun _ h => by cases h) (by kernel_rfl) (fun _ h => by cases h) driverLaws_row_tie rfl ⟨rfl, rfl⟩ (by kernel_rfl) rfl plain (by kernel_rfl)
end Go.Proofs.YtpkldjlljoledaaDoor.driverLaws
