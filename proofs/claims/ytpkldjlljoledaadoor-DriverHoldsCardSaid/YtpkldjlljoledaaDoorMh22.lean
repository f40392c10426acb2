/- Part 22 of the texts of the claim: HoN, HoAll, HoRow. -/
import Derived.Test.YtpkldjlljoledaaDoorMh18
import Derived.Test.YtpkldjlljoledaaDoorMh12
import Derived.Test.YtpkldjlljoledaaDoorMh13
import Derived.Test.YtpkldjlljoledaaDoorMh21
import Derived.Test.YtpkldjlljoledaaDoorMh2
import Derived.Test.YtpkldjlljoledaaDoorMh8
import Derived.Laws.IdiomArrays

/- DriverHolds answers yes where one of its guards does not hold. -/
namespace Go.Proofs.YtpkldjlljoledaaDoor
open Go.RowKit
open Calm (bcell Blk)
set_option maxRecDepth 100000 in
set_option maxHeartbeats 16000000 in
theorem holds_no1 (re le bl ma st lo mm kk rr a0 a1 a2 a3 CE SE RE : Int) (ws : List Int) (zs : List (Int × Int × Int)) (m n nd c c2 : Nat) (A A2 : Option Addr) (w : World) (hL : Lim w) (HC : Hid (RCells w A2 zs)) (HW : Hid (Cells w A ws))
    (HCC : Hid (∀ W : World, Calls Tryd.prog 57 #[.agg #[(.int .i64 (re)), (.int .i64 (le)), (.int .i64 (bl)), (.int .i64 (ma)), (.int .i64 (st)), (.int .i64 (lo)), (.int .i64 (mm)), (.int .i64 (kk)), (.int .i64 (rr))]] W fun r w' => r = .returned ((.int .i64 (CE))) ∧ Below W.heap.size W w'))
    
    (hCE : ¬ CE = 0) : Calls Tryd.prog 10 #[.agg #[(.int .i64 (re)), (.int .i64 (le)), (.int .i64 (bl)), (.int .i64 (ma)), (.int .i64 (st)), (.int .i64 (lo)), (.int .i64 (mm)), (.int .i64 (kk)), (.int .i64 (rr))], .slice A m c2, .agg #[.slice A2 n c, .int .u8 a0, .int .u8 a1, .int .u8 a2, .int .u8 a3]] w fun r w' => r = .returned (.bool true) ∧ Below w.heap.size w w' := by
  have hB0 := Below.refl w.heap.size w
  have q1 : (CE == 0) = false := by simpa using hCE
  go_enter Tryd.func10, Tryd.ntmps10
  go_wp2_with (go_at_call 11; refine (awake_any _ (hL.below ((hB0.alloc hB0.size _).alloc (Nat.le_trans hB0.size (by simp; try omega)) _))).mono ?_; rintro r w1 ⟨rfl, h1⟩; refine Hid.out ?_)
  unfold Hid
  have hB1 := ((hB0.alloc hB0.size _).alloc (Nat.le_trans hB0.size (by simp; try omega)) _).trans (h1.mono (Nat.le_trans hB0.size (by simp; try omega)))
  have KC_1 := Lib.hid (show Blk w1 (w.heap.size) #[(.int .i64 (re)), (.int .i64 (le)), (.int .i64 (bl)), (.int .i64 (ma)), (.int .i64 (st)), (.int .i64 (lo)), (.int .i64 (mm)), (.int .i64 (kk)), (.int .i64 (rr))] from ((Calm.Blk.new _ _ #[(.int .i64 (re)), (.int .i64 (le)), (.int .i64 (bl)), (.int .i64 (ma)), (.int .i64 (st)), (.int .i64 (lo)), (.int .i64 (mm)), (.int .i64 (kk)), (.int .i64 (rr))]).alloc _).below h1)
  have KX_1 := Lib.hid (show Blk w1 (w.heap.size + 1) #[.slice A2 n c, .int .u8 a0, .int .u8 a1, .int .u8 a2, .int .u8 a3] by have := (Calm.Blk.new _ _ #[.slice A2 n c, .int .u8 a0, .int .u8 a1, .int .u8 a2, .int .u8 a3]).below h1; simpa using this)
  clear h1 hB0
  obtain ⟨fC_0, fC_1, fC_2, fC_3, fC_4, fC_5, fC_6, fC_7, fC_8, fC_l, fC_f⟩ := KC_1.out.o9
  have fC_l0_1 : w.heap.size < w1.heap.size + 1 := by omega
  have fC_l0_2 : w.heap.size < w1.heap.size + 1 + 1 := by omega
  obtain ⟨fX_0, fX_1, fX_2, fX_3, fX_4, fX_l, fX_f⟩ := KX_1.out.o5
  have fX_l0 : w.heap.size < w1.heap.size := by omega
  have fX_l0_1 : w.heap.size < w1.heap.size + 1 := by omega
  have fX_l0_2 : w.heap.size < w1.heap.size + 1 + 1 := by omega
  have fX_l1_1 : w.heap.size + 1 < w1.heap.size + 1 := by omega
  have fX_l1_2 : w.heap.size + 1 < w1.heap.size + 1 + 1 := by omega
  go_wp2_with (go_at_call 57; refine (HCC.out _).mono ?_; rintro r w2 ⟨rfl, h2⟩; refine Hid.out ?_)
  unfold Hid
  have hB2 := hB1.trans (h2.mono hB1.size)
  have KC_2 := Lib.hid (KC_1.out.below h2)
  have KX_2 := Lib.hid (KX_1.out.below h2)
  clear h2 hB1 KC_1 KX_1 fC_0 fC_1 fC_2 fC_3 fC_4 fC_5 fC_6 fC_7 fC_8 fC_l fC_f fC_l0_1 fC_l0_2 fX_0 fX_1 fX_2 fX_3 fX_4 fX_l fX_f fX_l0 fX_l0_1 fX_l0_2 fX_l1_1 fX_l1_2
  obtain ⟨fC_0, fC_1, fC_2, fC_3, fC_4, fC_5, fC_6, fC_7, fC_8, fC_l, fC_f⟩ := KC_2.out.o9
  have fC_l0_1 : w.heap.size < w2.heap.size + 1 := by omega
  have fC_l0_2 : w.heap.size < w2.heap.size + 1 + 1 := by omega
  obtain ⟨fX_0, fX_1, fX_2, fX_3, fX_4, fX_l, fX_f⟩ := KX_2.out.o5
  have fX_l0 : w.heap.size < w2.heap.size := by omega
  have fX_l0_1 : w.heap.size < w2.heap.size + 1 := by omega
  have fX_l0_2 : w.heap.size < w2.heap.size + 1 + 1 := by omega
  have fX_l1_1 : w.heap.size + 1 < w2.heap.size + 1 := by omega
  have fX_l1_2 : w.heap.size + 1 < w2.heap.size + 1 + 1 := by omega
  go_wp2_with (go_at_call 11; refine (awake_any _ (hL.below hB2)).mono ?_; rintro r w3 ⟨rfl, h3⟩; refine Hid.out ?_)
  unfold Hid
  have hB3 := hB2.trans (h3.mono hB2.size)
  have KC_3 := Lib.hid (KC_2.out.below h3)
  have KX_3 := Lib.hid (KX_2.out.below h3)
  clear h3 hB2 KC_2 KX_2 fC_0 fC_1 fC_2 fC_3 fC_4 fC_5 fC_6 fC_7 fC_8 fC_l fC_f fC_l0_1 fC_l0_2 fX_0 fX_1 fX_2 fX_3 fX_4 fX_l fX_f fX_l0 fX_l0_1 fX_l0_2 fX_l1_1 fX_l1_2
  go_wp2
  go_ret
  exact ⟨by first | rfl | (simp; done), hB3⟩
set_option maxRecDepth 100000 in
set_option maxHeartbeats 16000000 in
theorem holds_no2 (re le bl ma st lo mm kk rr a0 a1 a2 a3 CE SE RE : Int) (ws : List Int) (zs : List (Int × Int × Int)) (m n nd c c2 : Nat) (A A2 : Option Addr) (w : World) (hL : Lim w) (HC : Hid (RCells w A2 zs)) (HW : Hid (Cells w A ws))
    (HCC : Hid (∀ W : World, Calls Tryd.prog 57 #[.agg #[(.int .i64 (re)), (.int .i64 (le)), (.int .i64 (bl)), (.int .i64 (ma)), (.int .i64 (st)), (.int .i64 (lo)), (.int .i64 (mm)), (.int .i64 (kk)), (.int .i64 (rr))]] W fun r w' => r = .returned ((.int .i64 (0))) ∧ Below W.heap.size W w'))
    (HAl : Hid (∀ W : World, Calls Tryd.prog 58 #[.agg #[(.int .i64 (re)), (.int .i64 (le)), (.int .i64 (bl)), (.int .i64 (ma)), (.int .i64 (st)), (.int .i64 (lo)), (.int .i64 (mm)), (.int .i64 (kk)), (.int .i64 (rr))]] W fun r w' => ∃ B e, r = .returned (.slice B nd e) ∧ Below W.heap.size W w'))
    (h60 : 60 < nd) : Calls Tryd.prog 10 #[.agg #[(.int .i64 (re)), (.int .i64 (le)), (.int .i64 (bl)), (.int .i64 (ma)), (.int .i64 (st)), (.int .i64 (lo)), (.int .i64 (mm)), (.int .i64 (kk)), (.int .i64 (rr))], .slice A m c2, .agg #[.slice A2 n c, .int .u8 a0, .int .u8 a1, .int .u8 a2, .int .u8 a3]] w fun r w' => r = .returned (.bool true) ∧ Below w.heap.size w w' := by
  have hB0 := Below.refl w.heap.size w
  go_enter Tryd.func10, Tryd.ntmps10
  go_wp2_with (go_at_call 11; refine (awake_any _ (hL.below ((hB0.alloc hB0.size _).alloc (Nat.le_trans hB0.size (by simp; try omega)) _))).mono ?_; rintro r w1 ⟨rfl, h1⟩; refine Hid.out ?_)
  unfold Hid
  have hB1 := ((hB0.alloc hB0.size _).alloc (Nat.le_trans hB0.size (by simp; try omega)) _).trans (h1.mono (Nat.le_trans hB0.size (by simp; try omega)))
  have KC_1 := Lib.hid (show Blk w1 (w.heap.size) #[(.int .i64 (re)), (.int .i64 (le)), (.int .i64 (bl)), (.int .i64 (ma)), (.int .i64 (st)), (.int .i64 (lo)), (.int .i64 (mm)), (.int .i64 (kk)), (.int .i64 (rr))] from ((Calm.Blk.new _ _ #[(.int .i64 (re)), (.int .i64 (le)), (.int .i64 (bl)), (.int .i64 (ma)), (.int .i64 (st)), (.int .i64 (lo)), (.int .i64 (mm)), (.int .i64 (kk)), (.int .i64 (rr))]).alloc _).below h1)
  have KX_1 := Lib.hid (show Blk w1 (w.heap.size + 1) #[.slice A2 n c, .int .u8 a0, .int .u8 a1, .int .u8 a2, .int .u8 a3] by have := (Calm.Blk.new _ _ #[.slice A2 n c, .int .u8 a0, .int .u8 a1, .int .u8 a2, .int .u8 a3]).below h1; simpa using this)
  clear h1 hB0
  obtain ⟨fC_0, fC_1, fC_2, fC_3, fC_4, fC_5, fC_6, fC_7, fC_8, fC_l, fC_f⟩ := KC_1.out.o9
  have fC_l0_1 : w.heap.size < w1.heap.size + 1 := by omega
  have fC_l0_2 : w.heap.size < w1.heap.size + 1 + 1 := by omega
  obtain ⟨fX_0, fX_1, fX_2, fX_3, fX_4, fX_l, fX_f⟩ := KX_1.out.o5
  have fX_l0 : w.heap.size < w1.heap.size := by omega
  have fX_l0_1 : w.heap.size < w1.heap.size + 1 := by omega
  have fX_l0_2 : w.heap.size < w1.heap.size + 1 + 1 := by omega
  have fX_l1_1 : w.heap.size + 1 < w1.heap.size + 1 := by omega
  have fX_l1_2 : w.heap.size + 1 < w1.heap.size + 1 + 1 := by omega
  go_wp2_with (go_at_call 57; refine (HCC.out _).mono ?_; rintro r w2 ⟨rfl, h2⟩; refine Hid.out ?_)
  unfold Hid
  have hB2 := hB1.trans (h2.mono hB1.size)
  have KC_2 := Lib.hid (KC_1.out.below h2)
  have KX_2 := Lib.hid (KX_1.out.below h2)
  clear h2 hB1 KC_1 KX_1 fC_0 fC_1 fC_2 fC_3 fC_4 fC_5 fC_6 fC_7 fC_8 fC_l fC_f fC_l0_1 fC_l0_2 fX_0 fX_1 fX_2 fX_3 fX_4 fX_l fX_f fX_l0 fX_l0_1 fX_l0_2 fX_l1_1 fX_l1_2
  obtain ⟨fC_0, fC_1, fC_2, fC_3, fC_4, fC_5, fC_6, fC_7, fC_8, fC_l, fC_f⟩ := KC_2.out.o9
  have fC_l0_1 : w.heap.size < w2.heap.size + 1 := by omega
  have fC_l0_2 : w.heap.size < w2.heap.size + 1 + 1 := by omega
  obtain ⟨fX_0, fX_1, fX_2, fX_3, fX_4, fX_l, fX_f⟩ := KX_2.out.o5
  have fX_l0 : w.heap.size < w2.heap.size := by omega
  have fX_l0_1 : w.heap.size < w2.heap.size + 1 := by omega
  have fX_l0_2 : w.heap.size < w2.heap.size + 1 + 1 := by omega
  have fX_l1_1 : w.heap.size + 1 < w2.heap.size + 1 := by omega
  have fX_l1_2 : w.heap.size + 1 < w2.heap.size + 1 + 1 := by omega
  go_wp2_with (go_at_call 58; refine (HAl.out _).mono ?_; rintro r w3 ⟨AB, ae, rfl, h3⟩; refine Hid.out ?_)
  unfold Hid
  have hB3 := hB2.trans (h3.mono hB2.size)
  have KC_3 := Lib.hid (KC_2.out.below h3)
  have KX_3 := Lib.hid (KX_2.out.below h3)
  clear h3 hB2 KC_2 KX_2 fC_0 fC_1 fC_2 fC_3 fC_4 fC_5 fC_6 fC_7 fC_8 fC_l fC_f fC_l0_1 fC_l0_2 fX_0 fX_1 fX_2 fX_3 fX_4 fX_l fX_f fX_l0 fX_l0_1 fX_l0_2 fX_l1_1 fX_l1_2
  obtain ⟨fC_0, fC_1, fC_2, fC_3, fC_4, fC_5, fC_6, fC_7, fC_8, fC_l, fC_f⟩ := KC_3.out.o9
  have fC_l0_1 : w.heap.size < w3.heap.size + 1 := by omega
  have fC_l0_2 : w.heap.size < w3.heap.size + 1 + 1 := by omega
  obtain ⟨fX_0, fX_1, fX_2, fX_3, fX_4, fX_l, fX_f⟩ := KX_3.out.o5
  have fX_l0 : w.heap.size < w3.heap.size := by omega
  have fX_l0_1 : w.heap.size < w3.heap.size + 1 := by omega
  have fX_l0_2 : w.heap.size < w3.heap.size + 1 + 1 := by omega
  have fX_l1_1 : w.heap.size + 1 < w3.heap.size + 1 := by omega
  have fX_l1_2 : w.heap.size + 1 < w3.heap.size + 1 + 1 := by omega
  go_wp2_with (go_at_call 11; refine (awake_any _ (hL.below hB3)).mono ?_; rintro r w4 ⟨rfl, h4⟩; refine Hid.out ?_)
  unfold Hid
  have hB4 := hB3.trans (h4.mono hB3.size)
  have KC_4 := Lib.hid (KC_3.out.below h4)
  have KX_4 := Lib.hid (KX_3.out.below h4)
  clear h4 hB3 KC_3 KX_3 fC_0 fC_1 fC_2 fC_3 fC_4 fC_5 fC_6 fC_7 fC_8 fC_l fC_f fC_l0_1 fC_l0_2 fX_0 fX_1 fX_2 fX_3 fX_4 fX_l fX_f fX_l0 fX_l0_1 fX_l0_2 fX_l1_1 fX_l1_2
  go_wp2
  go_ret
  exact ⟨by first | rfl | (simp; done), hB4⟩
set_option maxRecDepth 100000 in
set_option maxHeartbeats 16000000 in
theorem holds_no3 (re le bl ma st lo mm kk rr a0 a1 a2 a3 CE SE RE : Int) (ws : List Int) (zs : List (Int × Int × Int)) (m n nd c c2 : Nat) (A A2 : Option Addr) (w : World) (hL : Lim w) (HC : Hid (RCells w A2 zs)) (HW : Hid (Cells w A ws))
    (HCC : Hid (∀ W : World, Calls Tryd.prog 57 #[.agg #[(.int .i64 (re)), (.int .i64 (le)), (.int .i64 (bl)), (.int .i64 (ma)), (.int .i64 (st)), (.int .i64 (lo)), (.int .i64 (mm)), (.int .i64 (kk)), (.int .i64 (rr))]] W fun r w' => r = .returned ((.int .i64 (0))) ∧ Below W.heap.size W w'))
    (HAl : Hid (∀ W : World, Calls Tryd.prog 58 #[.agg #[(.int .i64 (re)), (.int .i64 (le)), (.int .i64 (bl)), (.int .i64 (ma)), (.int .i64 (st)), (.int .i64 (lo)), (.int .i64 (mm)), (.int .i64 (kk)), (.int .i64 (rr))]] W fun r w' => ∃ B e, r = .returned (.slice B nd e) ∧ Below W.heap.size W w'))
    (h60 : nd ≤ 60) (hm3 : 3 < m) : Calls Tryd.prog 10 #[.agg #[(.int .i64 (re)), (.int .i64 (le)), (.int .i64 (bl)), (.int .i64 (ma)), (.int .i64 (st)), (.int .i64 (lo)), (.int .i64 (mm)), (.int .i64 (kk)), (.int .i64 (rr))], .slice A m c2, .agg #[.slice A2 n c, .int .u8 a0, .int .u8 a1, .int .u8 a2, .int .u8 a3]] w fun r w' => r = .returned (.bool true) ∧ Below w.heap.size w w' := by
  have hB0 := Below.refl w.heap.size w
  go_enter Tryd.func10, Tryd.ntmps10
  go_wp2_with (go_at_call 11; refine (awake_any _ (hL.below ((hB0.alloc hB0.size _).alloc (Nat.le_trans hB0.size (by simp; try omega)) _))).mono ?_; rintro r w1 ⟨rfl, h1⟩; refine Hid.out ?_)
  unfold Hid
  have hB1 := ((hB0.alloc hB0.size _).alloc (Nat.le_trans hB0.size (by simp; try omega)) _).trans (h1.mono (Nat.le_trans hB0.size (by simp; try omega)))
  have KC_1 := Lib.hid (show Blk w1 (w.heap.size) #[(.int .i64 (re)), (.int .i64 (le)), (.int .i64 (bl)), (.int .i64 (ma)), (.int .i64 (st)), (.int .i64 (lo)), (.int .i64 (mm)), (.int .i64 (kk)), (.int .i64 (rr))] from ((Calm.Blk.new _ _ #[(.int .i64 (re)), (.int .i64 (le)), (.int .i64 (bl)), (.int .i64 (ma)), (.int .i64 (st)), (.int .i64 (lo)), (.int .i64 (mm)), (.int .i64 (kk)), (.int .i64 (rr))]).alloc _).below h1)
  have KX_1 := Lib.hid (show Blk w1 (w.heap.size + 1) #[.slice A2 n c, .int .u8 a0, .int .u8 a1, .int .u8 a2, .int .u8 a3] by have := (Calm.Blk.new _ _ #[.slice A2 n c, .int .u8 a0, .int .u8 a1, .int .u8 a2, .int .u8 a3]).below h1; simpa using this)
  clear h1 hB0
  obtain ⟨fC_0, fC_1, fC_2, fC_3, fC_4, fC_5, fC_6, fC_7, fC_8, fC_l, fC_f⟩ := KC_1.out.o9
  have fC_l0_1 : w.heap.size < w1.heap.size + 1 := by omega
  have fC_l0_2 : w.heap.size < w1.heap.size + 1 + 1 := by omega
  obtain ⟨fX_0, fX_1, fX_2, fX_3, fX_4, fX_l, fX_f⟩ := KX_1.out.o5
  have fX_l0 : w.heap.size < w1.heap.size := by omega
  have fX_l0_1 : w.heap.size < w1.heap.size + 1 := by omega
  have fX_l0_2 : w.heap.size < w1.heap.size + 1 + 1 := by omega
  have fX_l1_1 : w.heap.size + 1 < w1.heap.size + 1 := by omega
  have fX_l1_2 : w.heap.size + 1 < w1.heap.size + 1 + 1 := by omega
  go_wp2_with (go_at_call 57; refine (HCC.out _).mono ?_; rintro r w2 ⟨rfl, h2⟩; refine Hid.out ?_)
  unfold Hid
  have hB2 := hB1.trans (h2.mono hB1.size)
  have KC_2 := Lib.hid (KC_1.out.below h2)
  have KX_2 := Lib.hid (KX_1.out.below h2)
  clear h2 hB1 KC_1 KX_1 fC_0 fC_1 fC_2 fC_3 fC_4 fC_5 fC_6 fC_7 fC_8 fC_l fC_f fC_l0_1 fC_l0_2 fX_0 fX_1 fX_2 fX_3 fX_4 fX_l fX_f fX_l0 fX_l0_1 fX_l0_2 fX_l1_1 fX_l1_2
  obtain ⟨fC_0, fC_1, fC_2, fC_3, fC_4, fC_5, fC_6, fC_7, fC_8, fC_l, fC_f⟩ := KC_2.out.o9
  have fC_l0_1 : w.heap.size < w2.heap.size + 1 := by omega
  have fC_l0_2 : w.heap.size < w2.heap.size + 1 + 1 := by omega
  obtain ⟨fX_0, fX_1, fX_2, fX_3, fX_4, fX_l, fX_f⟩ := KX_2.out.o5
  have fX_l0 : w.heap.size < w2.heap.size := by omega
  have fX_l0_1 : w.heap.size < w2.heap.size + 1 := by omega
  have fX_l0_2 : w.heap.size < w2.heap.size + 1 + 1 := by omega
  have fX_l1_1 : w.heap.size + 1 < w2.heap.size + 1 := by omega
  have fX_l1_2 : w.heap.size + 1 < w2.heap.size + 1 + 1 := by omega
  go_wp2_with (go_at_call 58; refine (HAl.out _).mono ?_; rintro r w3 ⟨AB, ae, rfl, h3⟩; refine Hid.out ?_)
  unfold Hid
  have hB3 := hB2.trans (h3.mono hB2.size)
  have KC_3 := Lib.hid (KC_2.out.below h3)
  have KX_3 := Lib.hid (KX_2.out.below h3)
  clear h3 hB2 KC_2 KX_2 fC_0 fC_1 fC_2 fC_3 fC_4 fC_5 fC_6 fC_7 fC_8 fC_l fC_f fC_l0_1 fC_l0_2 fX_0 fX_1 fX_2 fX_3 fX_4 fX_l fX_f fX_l0 fX_l0_1 fX_l0_2 fX_l1_1 fX_l1_2
  obtain ⟨fC_0, fC_1, fC_2, fC_3, fC_4, fC_5, fC_6, fC_7, fC_8, fC_l, fC_f⟩ := KC_3.out.o9
  have fC_l0_1 : w.heap.size < w3.heap.size + 1 := by omega
  have fC_l0_2 : w.heap.size < w3.heap.size + 1 + 1 := by omega
  obtain ⟨fX_0, fX_1, fX_2, fX_3, fX_4, fX_l, fX_f⟩ := KX_3.out.o5
  have fX_l0 : w.heap.size < w3.heap.size := by omega
  have fX_l0_1 : w.heap.size < w3.heap.size + 1 := by omega
  have fX_l0_2 : w.heap.size < w3.heap.size + 1 + 1 := by omega
  have fX_l1_1 : w.heap.size + 1 < w3.heap.size + 1 := by omega
  have fX_l1_2 : w.heap.size + 1 < w3.heap.size + 1 + 1 := by omega
  go_wp2_with (go_at_call 11; refine (awake_any _ (hL.below hB3)).mono ?_; rintro r w4 ⟨rfl, h4⟩; refine Hid.out ?_)
  unfold Hid
  have hB4 := hB3.trans (h4.mono hB3.size)
  have KC_4 := Lib.hid (KC_3.out.below h4)
  have KX_4 := Lib.hid (KX_3.out.below h4)
  clear h4 hB3 KC_3 KX_3 fC_0 fC_1 fC_2 fC_3 fC_4 fC_5 fC_6 fC_7 fC_8 fC_l fC_f fC_l0_1 fC_l0_2 fX_0 fX_1 fX_2 fX_3 fX_4 fX_l fX_f fX_l0 fX_l0_1 fX_l0_2 fX_l1_1 fX_l1_2
  go_wp2
  go_ret
  exact ⟨by first | rfl | (simp; done), hB4⟩
set_option maxRecDepth 100000 in
set_option maxHeartbeats 16000000 in
theorem holds_no4 (re le bl ma st lo mm kk rr a0 a1 a2 a3 CE SE RE : Int) (ws : List Int) (zs : List (Int × Int × Int)) (m n nd c c2 : Nat) (A A2 : Option Addr) (w : World) (hL : Lim w) (HC : Hid (RCells w A2 zs)) (HW : Hid (Cells w A ws))
    (HCC : Hid (∀ W : World, Calls Tryd.prog 57 #[.agg #[(.int .i64 (re)), (.int .i64 (le)), (.int .i64 (bl)), (.int .i64 (ma)), (.int .i64 (st)), (.int .i64 (lo)), (.int .i64 (mm)), (.int .i64 (kk)), (.int .i64 (rr))]] W fun r w' => r = .returned ((.int .i64 (0))) ∧ Below W.heap.size W w'))
    (HAl : Hid (∀ W : World, Calls Tryd.prog 58 #[.agg #[(.int .i64 (re)), (.int .i64 (le)), (.int .i64 (bl)), (.int .i64 (ma)), (.int .i64 (st)), (.int .i64 (lo)), (.int .i64 (mm)), (.int .i64 (kk)), (.int .i64 (rr))]] W fun r w' => ∃ B e, r = .returned (.slice B nd e) ∧ Below W.heap.size W w'))
    (HCS : Hid (∀ W : World, Cells W A ws → Calls Tryd.prog 59 #[.slice A m c2] W fun r w' => r = .returned (.int .i64 (SE)) ∧ Below W.heap.size W w'))
    (h60 : nd ≤ 60) (hm3 : m ≤ 3) (hSE : ¬ SE = 0) : Calls Tryd.prog 10 #[.agg #[(.int .i64 (re)), (.int .i64 (le)), (.int .i64 (bl)), (.int .i64 (ma)), (.int .i64 (st)), (.int .i64 (lo)), (.int .i64 (mm)), (.int .i64 (kk)), (.int .i64 (rr))], .slice A m c2, .agg #[.slice A2 n c, .int .u8 a0, .int .u8 a1, .int .u8 a2, .int .u8 a3]] w fun r w' => r = .returned (.bool true) ∧ Below w.heap.size w w' := by
  have hB0 := Below.refl w.heap.size w
  have q1 : (SE == 0) = false := by simpa using hSE
  go_enter Tryd.func10, Tryd.ntmps10
  go_wp2_with (go_at_call 11; refine (awake_any _ (hL.below ((hB0.alloc hB0.size _).alloc (Nat.le_trans hB0.size (by simp; try omega)) _))).mono ?_; rintro r w1 ⟨rfl, h1⟩; refine Hid.out ?_)
  unfold Hid
  have hB1 := ((hB0.alloc hB0.size _).alloc (Nat.le_trans hB0.size (by simp; try omega)) _).trans (h1.mono (Nat.le_trans hB0.size (by simp; try omega)))
  have KC_1 := Lib.hid (show Blk w1 (w.heap.size) #[(.int .i64 (re)), (.int .i64 (le)), (.int .i64 (bl)), (.int .i64 (ma)), (.int .i64 (st)), (.int .i64 (lo)), (.int .i64 (mm)), (.int .i64 (kk)), (.int .i64 (rr))] from ((Calm.Blk.new _ _ #[(.int .i64 (re)), (.int .i64 (le)), (.int .i64 (bl)), (.int .i64 (ma)), (.int .i64 (st)), (.int .i64 (lo)), (.int .i64 (mm)), (.int .i64 (kk)), (.int .i64 (rr))]).alloc _).below h1)
  have KX_1 := Lib.hid (show Blk w1 (w.heap.size + 1) #[.slice A2 n c, .int .u8 a0, .int .u8 a1, .int .u8 a2, .int .u8 a3] by have := (Calm.Blk.new _ _ #[.slice A2 n c, .int .u8 a0, .int .u8 a1, .int .u8 a2, .int .u8 a3]).below h1; simpa using this)
  clear h1 hB0
  obtain ⟨fC_0, fC_1, fC_2, fC_3, fC_4, fC_5, fC_6, fC_7, fC_8, fC_l, fC_f⟩ := KC_1.out.o9
  have fC_l0_1 : w.heap.size < w1.heap.size + 1 := by omega
  have fC_l0_2 : w.heap.size < w1.heap.size + 1 + 1 := by omega
  obtain ⟨fX_0, fX_1, fX_2, fX_3, fX_4, fX_l, fX_f⟩ := KX_1.out.o5
  have fX_l0 : w.heap.size < w1.heap.size := by omega
  have fX_l0_1 : w.heap.size < w1.heap.size + 1 := by omega
  have fX_l0_2 : w.heap.size < w1.heap.size + 1 + 1 := by omega
  have fX_l1_1 : w.heap.size + 1 < w1.heap.size + 1 := by omega
  have fX_l1_2 : w.heap.size + 1 < w1.heap.size + 1 + 1 := by omega
  go_wp2_with (go_at_call 57; refine (HCC.out _).mono ?_; rintro r w2 ⟨rfl, h2⟩; refine Hid.out ?_)
  unfold Hid
  have hB2 := hB1.trans (h2.mono hB1.size)
  have KC_2 := Lib.hid (KC_1.out.below h2)
  have KX_2 := Lib.hid (KX_1.out.below h2)
  clear h2 hB1 KC_1 KX_1 fC_0 fC_1 fC_2 fC_3 fC_4 fC_5 fC_6 fC_7 fC_8 fC_l fC_f fC_l0_1 fC_l0_2 fX_0 fX_1 fX_2 fX_3 fX_4 fX_l fX_f fX_l0 fX_l0_1 fX_l0_2 fX_l1_1 fX_l1_2
  obtain ⟨fC_0, fC_1, fC_2, fC_3, fC_4, fC_5, fC_6, fC_7, fC_8, fC_l, fC_f⟩ := KC_2.out.o9
  have fC_l0_1 : w.heap.size < w2.heap.size + 1 := by omega
  have fC_l0_2 : w.heap.size < w2.heap.size + 1 + 1 := by omega
  obtain ⟨fX_0, fX_1, fX_2, fX_3, fX_4, fX_l, fX_f⟩ := KX_2.out.o5
  have fX_l0 : w.heap.size < w2.heap.size := by omega
  have fX_l0_1 : w.heap.size < w2.heap.size + 1 := by omega
  have fX_l0_2 : w.heap.size < w2.heap.size + 1 + 1 := by omega
  have fX_l1_1 : w.heap.size + 1 < w2.heap.size + 1 := by omega
  have fX_l1_2 : w.heap.size + 1 < w2.heap.size + 1 + 1 := by omega
  go_wp2_with (go_at_call 58; refine (HAl.out _).mono ?_; rintro r w3 ⟨AB, ae, rfl, h3⟩; refine Hid.out ?_)
  unfold Hid
  have hB3 := hB2.trans (h3.mono hB2.size)
  have KC_3 := Lib.hid (KC_2.out.below h3)
  have KX_3 := Lib.hid (KX_2.out.below h3)
  clear h3 hB2 KC_2 KX_2 fC_0 fC_1 fC_2 fC_3 fC_4 fC_5 fC_6 fC_7 fC_8 fC_l fC_f fC_l0_1 fC_l0_2 fX_0 fX_1 fX_2 fX_3 fX_4 fX_l fX_f fX_l0 fX_l0_1 fX_l0_2 fX_l1_1 fX_l1_2
  obtain ⟨fC_0, fC_1, fC_2, fC_3, fC_4, fC_5, fC_6, fC_7, fC_8, fC_l, fC_f⟩ := KC_3.out.o9
  have fC_l0_1 : w.heap.size < w3.heap.size + 1 := by omega
  have fC_l0_2 : w.heap.size < w3.heap.size + 1 + 1 := by omega
  obtain ⟨fX_0, fX_1, fX_2, fX_3, fX_4, fX_l, fX_f⟩ := KX_3.out.o5
  have fX_l0 : w.heap.size < w3.heap.size := by omega
  have fX_l0_1 : w.heap.size < w3.heap.size + 1 := by omega
  have fX_l0_2 : w.heap.size < w3.heap.size + 1 + 1 := by omega
  have fX_l1_1 : w.heap.size + 1 < w3.heap.size + 1 := by omega
  have fX_l1_2 : w.heap.size + 1 < w3.heap.size + 1 + 1 := by omega
  go_wp2_with (go_at_call 59; refine (HCS.out _ (HW.out.below hB3)).mono ?_; rintro r w4 ⟨rfl, h4⟩; refine Hid.out ?_)
  unfold Hid
  have hB4 := hB3.trans (h4.mono hB3.size)
  have KC_4 := Lib.hid (KC_3.out.below h4)
  have KX_4 := Lib.hid (KX_3.out.below h4)
  clear h4 hB3 KC_3 KX_3 fC_0 fC_1 fC_2 fC_3 fC_4 fC_5 fC_6 fC_7 fC_8 fC_l fC_f fC_l0_1 fC_l0_2 fX_0 fX_1 fX_2 fX_3 fX_4 fX_l fX_f fX_l0 fX_l0_1 fX_l0_2 fX_l1_1 fX_l1_2
  obtain ⟨fC_0, fC_1, fC_2, fC_3, fC_4, fC_5, fC_6, fC_7, fC_8, fC_l, fC_f⟩ := KC_4.out.o9
  have fC_l0_1 : w.heap.size < w4.heap.size + 1 := by omega
  have fC_l0_2 : w.heap.size < w4.heap.size + 1 + 1 := by omega
  obtain ⟨fX_0, fX_1, fX_2, fX_3, fX_4, fX_l, fX_f⟩ := KX_4.out.o5
  have fX_l0 : w.heap.size < w4.heap.size := by omega
  have fX_l0_1 : w.heap.size < w4.heap.size + 1 := by omega
  have fX_l0_2 : w.heap.size < w4.heap.size + 1 + 1 := by omega
  have fX_l1_1 : w.heap.size + 1 < w4.heap.size + 1 := by omega
  have fX_l1_2 : w.heap.size + 1 < w4.heap.size + 1 + 1 := by omega
  go_wp2_with (go_at_call 11; refine (awake_any _ (hL.below hB4)).mono ?_; rintro r w5 ⟨rfl, h5⟩; refine Hid.out ?_)
  unfold Hid
  have hB5 := hB4.trans (h5.mono hB4.size)
  have KC_5 := Lib.hid (KC_4.out.below h5)
  have KX_5 := Lib.hid (KX_4.out.below h5)
  clear h5 hB4 KC_4 KX_4 fC_0 fC_1 fC_2 fC_3 fC_4 fC_5 fC_6 fC_7 fC_8 fC_l fC_f fC_l0_1 fC_l0_2 fX_0 fX_1 fX_2 fX_3 fX_4 fX_l fX_f fX_l0 fX_l0_1 fX_l0_2 fX_l1_1 fX_l1_2
  go_wp2
  go_ret
  exact ⟨by first | rfl | (simp; done), hB5⟩
set_option maxRecDepth 100000 in
set_option maxHeartbeats 16000000 in
theorem holds_no5 (re le bl ma st lo mm kk rr a0 a1 a2 a3 CE SE RE : Int) (ws : List Int) (zs : List (Int × Int × Int)) (m n nd c c2 : Nat) (A A2 : Option Addr) (w : World) (hL : Lim w) (HC : Hid (RCells w A2 zs)) (HW : Hid (Cells w A ws))
    (HCC : Hid (∀ W : World, Calls Tryd.prog 57 #[.agg #[(.int .i64 (re)), (.int .i64 (le)), (.int .i64 (bl)), (.int .i64 (ma)), (.int .i64 (st)), (.int .i64 (lo)), (.int .i64 (mm)), (.int .i64 (kk)), (.int .i64 (rr))]] W fun r w' => r = .returned ((.int .i64 (0))) ∧ Below W.heap.size W w'))
    (HAl : Hid (∀ W : World, Calls Tryd.prog 58 #[.agg #[(.int .i64 (re)), (.int .i64 (le)), (.int .i64 (bl)), (.int .i64 (ma)), (.int .i64 (st)), (.int .i64 (lo)), (.int .i64 (mm)), (.int .i64 (kk)), (.int .i64 (rr))]] W fun r w' => ∃ B e, r = .returned (.slice B nd e) ∧ Below W.heap.size W w'))
    (HCS : Hid (∀ W : World, Cells W A ws → Calls Tryd.prog 59 #[.slice A m c2] W fun r w' => r = .returned (.int .i64 (0)) ∧ Below W.heap.size W w'))
    (HCR : Hid (∀ (W : World) (B : Option Addr) (e : Nat), RCells W B zs → Calls Tryd.prog 60 #[.slice B n e] W fun r w' => r = .returned (.int .i64 (RE)) ∧ Below W.heap.size W w'))
    (h60 : nd ≤ 60) (hm3 : m ≤ 3) (hRE : ¬ RE = 0) : Calls Tryd.prog 10 #[.agg #[(.int .i64 (re)), (.int .i64 (le)), (.int .i64 (bl)), (.int .i64 (ma)), (.int .i64 (st)), (.int .i64 (lo)), (.int .i64 (mm)), (.int .i64 (kk)), (.int .i64 (rr))], .slice A m c2, .agg #[.slice A2 n c, .int .u8 a0, .int .u8 a1, .int .u8 a2, .int .u8 a3]] w fun r w' => r = .returned (.bool true) ∧ Below w.heap.size w w' := by
  have hB0 := Below.refl w.heap.size w
  have q1 : (RE == 0) = false := by simpa using hRE
  go_enter Tryd.func10, Tryd.ntmps10
  go_wp2_with (go_at_call 11; refine (awake_any _ (hL.below ((hB0.alloc hB0.size _).alloc (Nat.le_trans hB0.size (by simp; try omega)) _))).mono ?_; rintro r w1 ⟨rfl, h1⟩; refine Hid.out ?_)
  unfold Hid
  have hB1 := ((hB0.alloc hB0.size _).alloc (Nat.le_trans hB0.size (by simp; try omega)) _).trans (h1.mono (Nat.le_trans hB0.size (by simp; try omega)))
  have KC_1 := Lib.hid (show Blk w1 (w.heap.size) #[(.int .i64 (re)), (.int .i64 (le)), (.int .i64 (bl)), (.int .i64 (ma)), (.int .i64 (st)), (.int .i64 (lo)), (.int .i64 (mm)), (.int .i64 (kk)), (.int .i64 (rr))] from ((Calm.Blk.new _ _ #[(.int .i64 (re)), (.int .i64 (le)), (.int .i64 (bl)), (.int .i64 (ma)), (.int .i64 (st)), (.int .i64 (lo)), (.int .i64 (mm)), (.int .i64 (kk)), (.int .i64 (rr))]).alloc _).below h1)
  have KX_1 := Lib.hid (show Blk w1 (w.heap.size + 1) #[.slice A2 n c, .int .u8 a0, .int .u8 a1, .int .u8 a2, .int .u8 a3] by have := (Calm.Blk.new _ _ #[.slice A2 n c, .int .u8 a0, .int .u8 a1, .int .u8 a2, .int .u8 a3]).below h1; simpa using this)
  clear h1 hB0
  obtain ⟨fC_0, fC_1, fC_2, fC_3, fC_4, fC_5, fC_6, fC_7, fC_8, fC_l, fC_f⟩ := KC_1.out.o9
  have fC_l0_1 : w.heap.size < w1.heap.size + 1 := by omega
  have fC_l0_2 : w.heap.size < w1.heap.size + 1 + 1 := by omega
  obtain ⟨fX_0, fX_1, fX_2, fX_3, fX_4, fX_l, fX_f⟩ := KX_1.out.o5
  have fX_l0 : w.heap.size < w1.heap.size := by omega
  have fX_l0_1 : w.heap.size < w1.heap.size + 1 := by omega
  have fX_l0_2 : w.heap.size < w1.heap.size + 1 + 1 := by omega
  have fX_l1_1 : w.heap.size + 1 < w1.heap.size + 1 := by omega
  have fX_l1_2 : w.heap.size + 1 < w1.heap.size + 1 + 1 := by omega
  go_wp2_with (go_at_call 57; refine (HCC.out _).mono ?_; rintro r w2 ⟨rfl, h2⟩; refine Hid.out ?_)
  unfold Hid
  have hB2 := hB1.trans (h2.mono hB1.size)
  have KC_2 := Lib.hid (KC_1.out.below h2)
  have KX_2 := Lib.hid (KX_1.out.below h2)
  clear h2 hB1 KC_1 KX_1 fC_0 fC_1 fC_2 fC_3 fC_4 fC_5 fC_6 fC_7 fC_8 fC_l fC_f fC_l0_1 fC_l0_2 fX_0 fX_1 fX_2 fX_3 fX_4 fX_l fX_f fX_l0 fX_l0_1 fX_l0_2 fX_l1_1 fX_l1_2
  obtain ⟨fC_0, fC_1, fC_2, fC_3, fC_4, fC_5, fC_6, fC_7, fC_8, fC_l, fC_f⟩ := KC_2.out.o9
  have fC_l0_1 : w.heap.size < w2.heap.size + 1 := by omega
  have fC_l0_2 : w.heap.size < w2.heap.size + 1 + 1 := by omega
  obtain ⟨fX_0, fX_1, fX_2, fX_3, fX_4, fX_l, fX_f⟩ := KX_2.out.o5
  have fX_l0 : w.heap.size < w2.heap.size := by omega
  have fX_l0_1 : w.heap.size < w2.heap.size + 1 := by omega
  have fX_l0_2 : w.heap.size < w2.heap.size + 1 + 1 := by omega
  have fX_l1_1 : w.heap.size + 1 < w2.heap.size + 1 := by omega
  have fX_l1_2 : w.heap.size + 1 < w2.heap.size + 1 + 1 := by omega
  go_wp2_with (go_at_call 58; refine (HAl.out _).mono ?_; rintro r w3 ⟨AB, ae, rfl, h3⟩; refine Hid.out ?_)
  unfold Hid
  have hB3 := hB2.trans (h3.mono hB2.size)
  have KC_3 := Lib.hid (KC_2.out.below h3)
  have KX_3 := Lib.hid (KX_2.out.below h3)
  clear h3 hB2 KC_2 KX_2 fC_0 fC_1 fC_2 fC_3 fC_4 fC_5 fC_6 fC_7 fC_8 fC_l fC_f fC_l0_1 fC_l0_2 fX_0 fX_1 fX_2 fX_3 fX_4 fX_l fX_f fX_l0 fX_l0_1 fX_l0_2 fX_l1_1 fX_l1_2
  obtain ⟨fC_0, fC_1, fC_2, fC_3, fC_4, fC_5, fC_6, fC_7, fC_8, fC_l, fC_f⟩ := KC_3.out.o9
  have fC_l0_1 : w.heap.size < w3.heap.size + 1 := by omega
  have fC_l0_2 : w.heap.size < w3.heap.size + 1 + 1 := by omega
  obtain ⟨fX_0, fX_1, fX_2, fX_3, fX_4, fX_l, fX_f⟩ := KX_3.out.o5
  have fX_l0 : w.heap.size < w3.heap.size := by omega
  have fX_l0_1 : w.heap.size < w3.heap.size + 1 := by omega
  have fX_l0_2 : w.heap.size < w3.heap.size + 1 + 1 := by omega
  have fX_l1_1 : w.heap.size + 1 < w3.heap.size + 1 := by omega
  have fX_l1_2 : w.heap.size + 1 < w3.heap.size + 1 + 1 := by omega
  go_wp2_with (go_at_call 59; refine (HCS.out _ (HW.out.below hB3)).mono ?_; rintro r w4 ⟨rfl, h4⟩; refine Hid.out ?_)
  unfold Hid
  have hB4 := hB3.trans (h4.mono hB3.size)
  have KC_4 := Lib.hid (KC_3.out.below h4)
  have KX_4 := Lib.hid (KX_3.out.below h4)
  clear h4 hB3 KC_3 KX_3 fC_0 fC_1 fC_2 fC_3 fC_4 fC_5 fC_6 fC_7 fC_8 fC_l fC_f fC_l0_1 fC_l0_2 fX_0 fX_1 fX_2 fX_3 fX_4 fX_l fX_f fX_l0 fX_l0_1 fX_l0_2 fX_l1_1 fX_l1_2
  obtain ⟨fC_0, fC_1, fC_2, fC_3, fC_4, fC_5, fC_6, fC_7, fC_8, fC_l, fC_f⟩ := KC_4.out.o9
  have fC_l0_1 : w.heap.size < w4.heap.size + 1 := by omega
  have fC_l0_2 : w.heap.size < w4.heap.size + 1 + 1 := by omega
  obtain ⟨fX_0, fX_1, fX_2, fX_3, fX_4, fX_l, fX_f⟩ := KX_4.out.o5
  have fX_l0 : w.heap.size < w4.heap.size := by omega
  have fX_l0_1 : w.heap.size < w4.heap.size + 1 := by omega
  have fX_l0_2 : w.heap.size < w4.heap.size + 1 + 1 := by omega
  have fX_l1_1 : w.heap.size + 1 < w4.heap.size + 1 := by omega
  have fX_l1_2 : w.heap.size + 1 < w4.heap.size + 1 + 1 := by omega
  go_wp2_with (go_at_call 60; refine (HCR.out _ _ _ (HC.out.below hB4)).mono ?_; rintro r w5 ⟨rfl, h5⟩; refine Hid.out ?_)
  unfold Hid
  have hB5 := hB4.trans (h5.mono hB4.size)
  have KC_5 := Lib.hid (KC_4.out.below h5)
  have KX_5 := Lib.hid (KX_4.out.below h5)
  clear h5 hB4 KC_4 KX_4 fC_0 fC_1 fC_2 fC_3 fC_4 fC_5 fC_6 fC_7 fC_8 fC_l fC_f fC_l0_1 fC_l0_2 fX_0 fX_1 fX_2 fX_3 fX_4 fX_l fX_f fX_l0 fX_l0_1 fX_l0_2 fX_l1_1 fX_l1_2
  obtain ⟨fC_0, fC_1, fC_2, fC_3, fC_4, fC_5, fC_6, fC_7, fC_8, fC_l, fC_f⟩ := KC_5.out.o9
  have fC_l0_1 : w.heap.size < w5.heap.size + 1 := by omega
  have fC_l0_2 : w.heap.size < w5.heap.size + 1 + 1 := by omega
  obtain ⟨fX_0, fX_1, fX_2, fX_3, fX_4, fX_l, fX_f⟩ := KX_5.out.o5
  have fX_l0 : w.heap.size < w5.heap.size := by omega
  have fX_l0_1 : w.heap.size < w5.heap.size + 1 := by omega
  have fX_l0_2 : w.heap.size < w5.heap.size + 1 + 1 := by omega
  have fX_l1_1 : w.heap.size + 1 < w5.heap.size + 1 := by omega
  have fX_l1_2 : w.heap.size + 1 < w5.heap.size + 1 + 1 := by omega
  go_wp2_with (go_at_call 11; refine (awake_any _ (hL.below hB5)).mono ?_; rintro r w6 ⟨rfl, h6⟩; refine Hid.out ?_)
  unfold Hid
  have hB6 := hB5.trans (h6.mono hB5.size)
  have KC_6 := Lib.hid (KC_5.out.below h6)
  have KX_6 := Lib.hid (KX_5.out.below h6)
  clear h6 hB5 KC_5 KX_5 fC_0 fC_1 fC_2 fC_3 fC_4 fC_5 fC_6 fC_7 fC_8 fC_l fC_f fC_l0_1 fC_l0_2 fX_0 fX_1 fX_2 fX_3 fX_4 fX_l fX_f fX_l0 fX_l0_1 fX_l0_2 fX_l1_1 fX_l1_2
  go_wp2
  go_ret
  exact ⟨by first | rfl | (simp; done), hB6⟩
set_option maxRecDepth 100000 in
set_option maxHeartbeats 16000000 in
theorem holds_no6 (re le bl ma st lo mm kk rr a0 a1 a2 a3 CE SE RE : Int) (ws : List Int) (zs : List (Int × Int × Int)) (m n nd c c2 : Nat) (A A2 : Option Addr) (w : World) (hL : Lim w) (HC : Hid (RCells w A2 zs)) (HW : Hid (Cells w A ws))
    (HCC : Hid (∀ W : World, Calls Tryd.prog 57 #[.agg #[(.int .i64 (re)), (.int .i64 (le)), (.int .i64 (bl)), (.int .i64 (ma)), (.int .i64 (st)), (.int .i64 (lo)), (.int .i64 (mm)), (.int .i64 (kk)), (.int .i64 (rr))]] W fun r w' => r = .returned ((.int .i64 (0))) ∧ Below W.heap.size W w'))
    (HAl : Hid (∀ W : World, Calls Tryd.prog 58 #[.agg #[(.int .i64 (re)), (.int .i64 (le)), (.int .i64 (bl)), (.int .i64 (ma)), (.int .i64 (st)), (.int .i64 (lo)), (.int .i64 (mm)), (.int .i64 (kk)), (.int .i64 (rr))]] W fun r w' => ∃ B e, r = .returned (.slice B nd e) ∧ Below W.heap.size W w'))
    (HCS : Hid (∀ W : World, Cells W A ws → Calls Tryd.prog 59 #[.slice A m c2] W fun r w' => r = .returned (.int .i64 (0)) ∧ Below W.heap.size W w'))
    (HCR : Hid (∀ (W : World) (B : Option Addr) (e : Nat), RCells W B zs → Calls Tryd.prog 60 #[.slice B n e] W fun r w' => r = .returned (.int .i64 (0)) ∧ Below W.heap.size W w'))
    (h60 : nd ≤ 60) (hm3 : m ≤ 3) (hn3 : 3 < n) : Calls Tryd.prog 10 #[.agg #[(.int .i64 (re)), (.int .i64 (le)), (.int .i64 (bl)), (.int .i64 (ma)), (.int .i64 (st)), (.int .i64 (lo)), (.int .i64 (mm)), (.int .i64 (kk)), (.int .i64 (rr))], .slice A m c2, .agg #[.slice A2 n c, .int .u8 a0, .int .u8 a1, .int .u8 a2, .int .u8 a3]] w fun r w' => r = .returned (.bool true) ∧ Below w.heap.size w w' := by
  have hB0 := Below.refl w.heap.size w
  go_enter Tryd.func10, Tryd.ntmps10
  go_wp2_with (go_at_call 11; refine (awake_any _ (hL.below ((hB0.alloc hB0.size _).alloc (Nat.le_trans hB0.size (by simp; try omega)) _))).mono ?_; rintro r w1 ⟨rfl, h1⟩; refine Hid.out ?_)
  unfold Hid
  have hB1 := ((hB0.alloc hB0.size _).alloc (Nat.le_trans hB0.size (by simp; try omega)) _).trans (h1.mono (Nat.le_trans hB0.size (by simp; try omega)))
  have KC_1 := Lib.hid (show Blk w1 (w.heap.size) #[(.int .i64 (re)), (.int .i64 (le)), (.int .i64 (bl)), (.int .i64 (ma)), (.int .i64 (st)), (.int .i64 (lo)), (.int .i64 (mm)), (.int .i64 (kk)), (.int .i64 (rr))] from ((Calm.Blk.new _ _ #[(.int .i64 (re)), (.int .i64 (le)), (.int .i64 (bl)), (.int .i64 (ma)), (.int .i64 (st)), (.int .i64 (lo)), (.int .i64 (mm)), (.int .i64 (kk)), (.int .i64 (rr))]).alloc _).below h1)
  have KX_1 := Lib.hid (show Blk w1 (w.heap.size + 1) #[.slice A2 n c, .int .u8 a0, .int .u8 a1, .int .u8 a2, .int .u8 a3] by have := (Calm.Blk.new _ _ #[.slice A2 n c, .int .u8 a0, .int .u8 a1, .int .u8 a2, .int .u8 a3]).below h1; simpa using this)
  clear h1 hB0
  obtain ⟨fC_0, fC_1, fC_2, fC_3, fC_4, fC_5, fC_6, fC_7, fC_8, fC_l, fC_f⟩ := KC_1.out.o9
  have fC_l0_1 : w.heap.size < w1.heap.size + 1 := by omega
  have fC_l0_2 : w.heap.size < w1.heap.size + 1 + 1 := by omega
  obtain ⟨fX_0, fX_1, fX_2, fX_3, fX_4, fX_l, fX_f⟩ := KX_1.out.o5
  have fX_l0 : w.heap.size < w1.heap.size := by omega
  have fX_l0_1 : w.heap.size < w1.heap.size + 1 := by omega
  have fX_l0_2 : w.heap.size < w1.heap.size + 1 + 1 := by omega
  have fX_l1_1 : w.heap.size + 1 < w1.heap.size + 1 := by omega
  have fX_l1_2 : w.heap.size + 1 < w1.heap.size + 1 + 1 := by omega
  go_wp2_with (go_at_call 57; refine (HCC.out _).mono ?_; rintro r w2 ⟨rfl, h2⟩; refine Hid.out ?_)
  unfold Hid
  have hB2 := hB1.trans (h2.mono hB1.size)
  have KC_2 := Lib.hid (KC_1.out.below h2)
  have KX_2 := Lib.hid (KX_1.out.below h2)
  clear h2 hB1 KC_1 KX_1 fC_0 fC_1 fC_2 fC_3 fC_4 fC_5 fC_6 fC_7 fC_8 fC_l fC_f fC_l0_1 fC_l0_2 fX_0 fX_1 fX_2 fX_3 fX_4 fX_l fX_f fX_l0 fX_l0_1 fX_l0_2 fX_l1_1 fX_l1_2
  obtain ⟨fC_0, fC_1, fC_2, fC_3, fC_4, fC_5, fC_6, fC_7, fC_8, fC_l, fC_f⟩ := KC_2.out.o9
  have fC_l0_1 : w.heap.size < w2.heap.size + 1 := by omega
  have fC_l0_2 : w.heap.size < w2.heap.size + 1 + 1 := by omega
  obtain ⟨fX_0, fX_1, fX_2, fX_3, fX_4, fX_l, fX_f⟩ := KX_2.out.o5
  have fX_l0 : w.heap.size < w2.heap.size := by omega
  have fX_l0_1 : w.heap.size < w2.heap.size + 1 := by omega
  have fX_l0_2 : w.heap.size < w2.heap.size + 1 + 1 := by omega
  have fX_l1_1 : w.heap.size + 1 < w2.heap.size + 1 := by omega
  have fX_l1_2 : w.heap.size + 1 < w2.heap.size + 1 + 1 := by omega
  go_wp2_with (go_at_call 58; refine (HAl.out _).mono ?_; rintro r w3 ⟨AB, ae, rfl, h3⟩; refine Hid.out ?_)
  unfold Hid
  have hB3 := hB2.trans (h3.mono hB2.size)
  have KC_3 := Lib.hid (KC_2.out.below h3)
  have KX_3 := Lib.hid (KX_2.out.below h3)
  clear h3 hB2 KC_2 KX_2 fC_0 fC_1 fC_2 fC_3 fC_4 fC_5 fC_6 fC_7 fC_8 fC_l fC_f fC_l0_1 fC_l0_2 fX_0 fX_1 fX_2 fX_3 fX_4 fX_l fX_f fX_l0 fX_l0_1 fX_l0_2 fX_l1_1 fX_l1_2
  obtain ⟨fC_0, fC_1, fC_2, fC_3, fC_4, fC_5, fC_6, fC_7, fC_8, fC_l, fC_f⟩ := KC_3.out.o9
  have fC_l0_1 : w.heap.size < w3.heap.size + 1 := by omega
  have fC_l0_2 : w.heap.size < w3.heap.size + 1 + 1 := by omega
  obtain ⟨fX_0, fX_1, fX_2, fX_3, fX_4, fX_l, fX_f⟩ := KX_3.out.o5
  have fX_l0 : w.heap.size < w3.heap.size := by omega
  have fX_l0_1 : w.heap.size < w3.heap.size + 1 := by omega
  have fX_l0_2 : w.heap.size < w3.heap.size + 1 + 1 := by omega
  have fX_l1_1 : w.heap.size + 1 < w3.heap.size + 1 := by omega
  have fX_l1_2 : w.heap.size + 1 < w3.heap.size + 1 + 1 := by omega
  go_wp2_with (go_at_call 59; refine (HCS.out _ (HW.out.below hB3)).mono ?_; rintro r w4 ⟨rfl, h4⟩; refine Hid.out ?_)
  unfold Hid
  have hB4 := hB3.trans (h4.mono hB3.size)
  have KC_4 := Lib.hid (KC_3.out.below h4)
  have KX_4 := Lib.hid (KX_3.out.below h4)
  clear h4 hB3 KC_3 KX_3 fC_0 fC_1 fC_2 fC_3 fC_4 fC_5 fC_6 fC_7 fC_8 fC_l fC_f fC_l0_1 fC_l0_2 fX_0 fX_1 fX_2 fX_3 fX_4 fX_l fX_f fX_l0 fX_l0_1 fX_l0_2 fX_l1_1 fX_l1_2
  obtain ⟨fC_0, fC_1, fC_2, fC_3, fC_4, fC_5, fC_6, fC_7, fC_8, fC_l, fC_f⟩ := KC_4.out.o9
  have fC_l0_1 : w.heap.size < w4.heap.size + 1 := by omega
  have fC_l0_2 : w.heap.size < w4.heap.size + 1 + 1 := by omega
  obtain ⟨fX_0, fX_1, fX_2, fX_3, fX_4, fX_l, fX_f⟩ := KX_4.out.o5
  have fX_l0 : w.heap.size < w4.heap.size := by omega
  have fX_l0_1 : w.heap.size < w4.heap.size + 1 := by omega
  have fX_l0_2 : w.heap.size < w4.heap.size + 1 + 1 := by omega
  have fX_l1_1 : w.heap.size + 1 < w4.heap.size + 1 := by omega
  have fX_l1_2 : w.heap.size + 1 < w4.heap.size + 1 + 1 := by omega
  go_wp2_with (go_at_call 60; refine (HCR.out _ _ _ (HC.out.below hB4)).mono ?_; rintro r w5 ⟨rfl, h5⟩; refine Hid.out ?_)
  unfold Hid
  have hB5 := hB4.trans (h5.mono hB4.size)
  have KC_5 := Lib.hid (KC_4.out.below h5)
  have KX_5 := Lib.hid (KX_4.out.below h5)
  clear h5 hB4 KC_4 KX_4 fC_0 fC_1 fC_2 fC_3 fC_4 fC_5 fC_6 fC_7 fC_8 fC_l fC_f fC_l0_1 fC_l0_2 fX_0 fX_1 fX_2 fX_3 fX_4 fX_l fX_f fX_l0 fX_l0_1 fX_l0_2 fX_l1_1 fX_l1_2
  obtain ⟨fC_0, fC_1, fC_2, fC_3, fC_4, fC_5, fC_6, fC_7, fC_8, fC_l, fC_f⟩ := KC_5.out.o9
  have fC_l0_1 : w.heap.size < w5.heap.size + 1 := by omega
  have fC_l0_2 : w.heap.size < w5.heap.size + 1 + 1 := by omega
  obtain ⟨fX_0, fX_1, fX_2, fX_3, fX_4, fX_l, fX_f⟩ := KX_5.out.o5
  have fX_l0 : w.heap.size < w5.heap.size := by omega
  have fX_l0_1 : w.heap.size < w5.heap.size + 1 := by omega
  have fX_l0_2 : w.heap.size < w5.heap.size + 1 + 1 := by omega
  have fX_l1_1 : w.heap.size + 1 < w5.heap.size + 1 := by omega
  have fX_l1_2 : w.heap.size + 1 < w5.heap.size + 1 + 1 := by omega
  go_wp2_with (go_at_call 11; refine (awake_any _ (hL.below hB5)).mono ?_; rintro r w6 ⟨rfl, h6⟩; refine Hid.out ?_)
  unfold Hid
  have hB6 := hB5.trans (h6.mono hB5.size)
  have KC_6 := Lib.hid (KC_5.out.below h6)
  have KX_6 := Lib.hid (KX_5.out.below h6)
  clear h6 hB5 KC_5 KX_5 fC_0 fC_1 fC_2 fC_3 fC_4 fC_5 fC_6 fC_7 fC_8 fC_l fC_f fC_l0_1 fC_l0_2 fX_0 fX_1 fX_2 fX_3 fX_4 fX_l fX_f fX_l0 fX_l0_1 fX_l0_2 fX_l1_1 fX_l1_2
  go_wp2
  go_ret
  exact ⟨by first | rfl | (simp; done), hB6⟩
end Go.Proofs.YtpkldjlljoledaaDoor

/- DriverHolds answers yes, whatever its arguments. -/
namespace Go.Proofs.YtpkldjlljoledaaDoor
open Go.RowKit
theorem sweepL_length (re le bl x0 x1 x2 p : Int) (ws : List Int) : (sweepL re le bl x0 x1 x2 p ws).length = ws.length := by
  unfold sweepL; exact List.length_map _
theorem k_all {re le bl ma st lo mm kk rr : Int} {nd : Nat} (hc : classErr re le bl ma st lo mm kk rr = 0) (hn : nd = (drvs ma st lo mm kk rr).length) :
    Hid (∀ W : World, Calls Tryd.prog 58 #[.agg #[(.int .i64 (re)), (.int .i64 (le)), (.int .i64 (bl)), (.int .i64 (ma)), (.int .i64 (st)), (.int .i64 (lo)), (.int .i64 (mm)), (.int .i64 (kk)), (.int .i64 (rr))]] W fun r w' => ∃ B e, r = .returned (.slice B nd e) ∧ Below W.heap.size W w') := by
  subst hn
  exact Lib.hid (fun W => (refAll_any re le bl ma st lo mm kk rr W hc).mono fun _ _ ⟨B, e, h1, _, h3⟩ => ⟨B, e, h1, h3⟩)

set_option maxRecDepth 100000 in
theorem DriverHolds_any (re le bl ma st lo mm kk rr a0 a1 a2 a3 : Int) (ws : List Int) (zs : List (Int × Int × Int)) (c2 c : Nat) (A A2 : Option Addr) (w : World) (hL : Lim w) (hW : Cells w A ws) (hC : RCells w A2 zs)
    (hu : (0 ≤ a0 ∧ a0 ≤ 255) ∧ (0 ≤ a1 ∧ a1 ≤ 255) ∧ (0 ≤ a2 ∧ a2 ≤ 255) ∧ (0 ≤ a3 ∧ a3 ≤ 255)) :
    Calls Tryd.prog 10 #[.agg #[(.int .i64 (re)), (.int .i64 (le)), (.int .i64 (bl)), (.int .i64 (ma)), (.int .i64 (st)), (.int .i64 (lo)), (.int .i64 (mm)), (.int .i64 (kk)), (.int .i64 (rr))], .slice A ws.length c2, .agg #[.slice A2 zs.length c, .int .u8 a0, .int .u8 a1, .int .u8 a2, .int .u8 a3]] w fun r w' => r = .returned (.bool true) ∧ Below w.heap.size w w' := by
  have HC := Lib.hid hC
  have HW := Lib.hid hW
  have HCC := Lib.hid (fun W : World => refCheckClass_any re le bl ma st lo mm kk rr W)
  have HCS := Lib.hid (fun (W : World) (k : Cells W A ws) => refCheckSweep_any A ws c2 W k)
  have HCR := Lib.hid (fun (W : World) (B : Option Addr) (e : Nat) (k : RCells W B zs) => refCheckReadings_any B zs e W k)
  by_cases hc : classErr re le bl ma st lo mm kk rr = 0
  rotate_left
  · exact holds_no1 re le bl ma st lo mm kk rr a0 a1 a2 a3 _ 0 0 ws zs _ _ 0 c c2 A A2 w hL HC HW HCC hc
  rw [hc] at HCC
  obtain ⟨nd, hnd⟩ : ∃ nd, nd = (drvs ma st lo mm kk rr).length := ⟨_, rfl⟩
  have HAl := k_all hc hnd
  by_cases h60 : nd ≤ 60
  rotate_left
  · exact holds_no2 re le bl ma st lo mm kk rr a0 a1 a2 a3 0 0 0 ws zs _ _ nd c c2 A A2 w hL HC HW HCC HAl (by omega)
  by_cases hm : ws.length ≤ 3
  rotate_left
  · exact holds_no3 re le bl ma st lo mm kk rr a0 a1 a2 a3 0 0 0 ws zs _ _ nd c c2 A A2 w hL HC HW HCC HAl h60 (by omega)
  by_cases hs : swErr ws = 0
  rotate_left
  · exact holds_no4 re le bl ma st lo mm kk rr a0 a1 a2 a3 0 _ 0 ws zs _ _ nd c c2 A A2 w hL HC HW HCC HAl HCS h60 hm hs
  rw [hs] at HCS
  by_cases hr : readsErr zs = 0
  rotate_left
  · exact holds_no5 re le bl ma st lo mm kk rr a0 a1 a2 a3 0 0 _ ws zs _ _ nd c c2 A A2 w hL HC HW HCC HAl HCS HCR h60 hm hr
  rw [hr] at HCR
  by_cases hn : zs.length ≤ 3
  rotate_left
  · exact holds_no6 re le bl ma st lo mm kk rr a0 a1 a2 a3 0 0 0 ws zs _ _ nd c c2 A A2 w hL HC HW HCC HAl HCS HCR h60 hm (by omega)
  obtain ⟨h1, _⟩ := classErr_zero hc
  obtain ⟨hd, ⟨q1, q2⟩, ⟨q3, q4⟩, ⟨q5, q6⟩⟩ := class_zero h1
  obtain ⟨_, _, _, r1, r2, r3⟩ := drvErr_zero hd
  obtain ⟨⟨u0, v0⟩, ⟨u1, v1⟩, ⟨u2, v2⟩, ⟨u3, v3⟩⟩ := hu
  obtain ⟨_, hw⟩ := swErr_zero hs
  have hx : (ma + a0 % (mm - ma + 1), st + a1 % (kk - st + 1), lo + a2 % (rr - lo + 1)) ∈ drvs ma st lo mm kk rr := by
    have e0 := Int.emod_nonneg a0 (show mm - ma + 1 ≠ 0 by omega)
    have e1 := Int.emod_nonneg a1 (show kk - st + 1 ≠ 0 by omega)
    have e2 := Int.emod_nonneg a2 (show rr - lo + 1 ≠ 0 by omega)
    have f0 := Int.emod_lt_of_pos a0 (show 0 < mm - ma + 1 by omega)
    have f1 := Int.emod_lt_of_pos a1 (show 0 < kk - st + 1 by omega)
    have f2 := Int.emod_lt_of_pos a2 (show 0 < rr - lo + 1 by omega)
    exact drvs_mem ⟨by simp only []; omega, by simp only []; omega⟩ ⟨by simp only []; omega, by simp only []; omega⟩ ⟨by simp only []; omega, by simp only []; omega⟩
  obtain ⟨x0, hx0⟩ : ∃ x, ma + a0 % (mm - ma + 1) = x := ⟨_, rfl⟩
  obtain ⟨x1, hx1⟩ : ∃ x, st + a1 % (kk - st + 1) = x := ⟨_, rfl⟩
  obtain ⟨x2, hx2⟩ : ∃ x, lo + a2 % (rr - lo + 1) = x := ⟨_, rfl⟩
  rw [hx0, hx1, hx2] at hx
  obtain ⟨p, hp⟩ : ∃ p, a3 % 50 = p := ⟨_, rfl⟩
  have hp0 : 0 ≤ p ∧ p ≤ 49 := by omega
  have hdx := drv_ok hc hx
  have hS := sweepL_length re le bl x0 x1 x2 p ws
  have hT := sweepL_length re le bl x0 x1 x2 (p + 1) ws
  have okS := sweepL_ok hdx hw (show 0 ≤ p ∧ p ≤ 50 by omega)
  have okT := sweepL_ok hdx hw (show 0 ≤ p + 1 ∧ p + 1 ≤ 50 by omega)
  have rS := readsErr_of okS (by rw [hS]; omega)
  have rT := readsErr_of okT (by rw [hT]; omega)
  have HSwS := k_sweep hdx hs (show 0 ≤ p ∧ p ≤ 50 by omega) rfl rfl
  have HSwT := k_sweep hdx hs (show 0 ≤ p + 1 ∧ p + 1 ≤ 50 by omega) rfl rfl
  have hsub := reg_wider hc hx hw hp0
  have hin := reg_holds hc hx hw (show 0 ≤ p ∧ p ≤ 50 by omega)
  obtain ⟨S, hSe⟩ : ∃ S, S = sweepL re le bl x0 x1 x2 p ws := ⟨_, rfl⟩
  obtain ⟨T, hTe⟩ : ∃ T, T = sweepL re le bl x0 x1 x2 (p + 1) ws := ⟨_, rfl⟩
  rw [← hSe] at hS okS rS HSwS hin hsub
  rw [← hTe] at hT okT rT HSwT hsub
  have hall := fun z (hz : z ∈ S ++ zs) => (List.mem_append.1 hz).elim (okS z) ((readsErr_all hr).2 z)
  have hZl : (S ++ zs).length = ws.length + zs.length := by rw [List.length_append, hS]
  have rZ := readsErr_of hall (by omega)
  have hne : drvs ma st lo mm kk rr ≠ [] := fun e => by rw [e] at hx; cases hx
  obtain ⟨cf1, cf2⟩ := conf_holds (re := re) (le := le) (bl := bl) (zs := S ++ zs) (by omega) hne
  have lenS := regD_len re le bl ma st lo mm kk rr S
  have lenT := regD_len re le bl ma st lo mm kk rr T
  have lenZ := regD_len re le bl ma st lo mm kk rr (S ++ zs)
  have key : ∃ (E : Int) (l : List Nat), ((confF re le bl (S ++ zs) (drvs ma st lo mm kk rr) (2 ^ (S ++ zs).length) = none ∧ E = 7 ∧ l = []) ∨ ∃ b, confF re le bl (S ++ zs) (drvs ma st lo mm kk rr) (2 ^ (S ++ zs).length) = some b ∧ E = 0 ∧ l = memL b) ∧
      Hid ((0 < (regD re le bl ma st lo mm kk rr (S ++ zs)).length ∧ E = 7) ∨ ((regD re le bl ma st lo mm kk rr (S ++ zs)).length = 0 ∧ E = 0 ∧ 0 < l.length ∧ l.length ≤ ws.length + zs.length ∧ Hid (l.length = l.length) ∧ Hid (Inc (ws.length + zs.length) 0 l) ∧
        Hid (∀ n : Int, -1 ≤ n → n < l.length → ∀ (W : World) (B : Option Addr) (e : Nat), Lim W → RCells W B (someL (S ++ zs) (skipL l n l.length)) → Calls Tryd.prog 63 #[.agg #[(.int .i64 (re)), (.int .i64 (le)), (.int .i64 (bl)), (.int .i64 (ma)), (.int .i64 (st)), (.int .i64 (lo)), (.int .i64 (mm)), (.int .i64 (kk)), (.int .i64 (rr))], .slice B (skipL l n l.length).length e] W fun r w' => ∃ B' e' q, r = .returned (.tuple #[.slice B' q e', (.int .i64 (0))]) ∧ (q = 0 ↔ n < 0) ∧ q ≤ 1000000 ∧ Below W.heap.size W w'))) := by
    by_cases hz : regD re le bl ma st lo mm kk rr (S ++ zs) = []
    · obtain ⟨b, b1, b2, b3, b4⟩ := cf2 hz
      refine ⟨0, memL b, .inr ⟨b, b1, rfl, rfl⟩, Lib.hid (.inr ⟨by rw [hz]; rfl, rfl, by omega, by have := b2.len; omega, Lib.hid rfl, Lib.hid (by rw [← hZl]; exact b2), Lib.hid fun n n1 n2 W B e hLW k => ?_⟩)⟩
      have hI2 := b2.sub (skipL_sub (memL b) n)
      have hlt : ∀ i ∈ skipL (memL b) n (memL b).length, i < (S ++ zs).length := fun i hi => (hI2.mem i hi).2
      have rI := readsErr_of (someL_ok hall hlt) (by unfold someL; rw [List.length_map]; have := hI2.len; omega)
      have lenI := regD_len re le bl ma st lo mm kk rr (someL (S ++ zs) (skipL (memL b) n (memL b).length))
      have hreg := (k_region (m := (skipL (memL b) n (memL b).length).length) hc rI (by unfold someL; rw [List.length_map]) rfl rfl (by omega)).out W B e hLW k
      refine hreg.mono fun r w' ⟨B', e', h1, _, h3⟩ => ⟨B', e', _, h1, ?_, by omega, h3⟩
      rw [List.length_eq_zero_iff]
      exact b4 n n1 n2
    · refine ⟨7, [], .inl ⟨cf1 hz, rfl, rfl⟩, Lib.hid (.inl ⟨?_, rfl⟩)⟩
      exact List.length_pos_iff.2 hz
  obtain ⟨E, l, hkey, HCASE⟩ := key
  exact holds_a re le bl ma st lo mm kk rr a0 a1 a2 a3 x0 x1 x2 p E l ws zs S T _ _ (S ++ zs) _ ws.length zs.length nd _ _ c c2 (ws.length + zs.length) l.length _ A A2 w hL hm hn h60 (Lib.hid rfl) HC HW
    HCC HAl HCS HCR (k_told hS.symm (by omega)) (k_told hT.symm (by omega)) (k_check hS.symm rS) (k_check hT.symm rT) (k_region hc rS hS.symm rfl rfl (by omega)) (k_region hc rT hT.symm rfl rfl (by omega))
    (Lib.hid hS.symm) (Lib.hid hT.symm) (by omega) (by omega) hsub.length_le HSwS HSwT hx0 hx1 hx2 hp ⟨⟨u0, v0⟩, ⟨u1, v1⟩, ⟨u2, v2⟩, ⟨u3, v3⟩⟩ (Lib.hid rfl) (Lib.hid rfl) (Lib.hid hsub) (Lib.hid hin) (k_explains hc rS hS.symm rfl)
    (Lib.hid rfl) (Lib.hid rfl) (Lib.hid rfl) (by omega) (by omega) (k_readings rfl (by omega)) (k_conflict hc rZ hZl.symm (by omega) hkey) (k_region hc rZ hZl.symm rfl rfl (by omega)) HCASE
    ⟨⟨⟨r1.1, by omega⟩, by omega⟩, ⟨⟨r2.1, by omega⟩, by omega⟩, ⟨⟨r3.1, by omega⟩, by omega⟩⟩
end Go.Proofs.YtpkldjlljoledaaDoor

/- DriverHolds: the row and its card. -/
namespace Go.Proofs.YtpkldjlljoledaaDoor.driverHolds
open Go.ChangeShapes Go.WideShapes Go.ChangeAt Go.RowKit Go.Flat
open Calm (bcell)

set_option maxRecDepth 100000 in
/-- readings, opened: a slice of structs of three integers. -/
theorem open_rslice {H : Type} {enc : TypeId × Value → H} {w : World} {base : Nat} {r : Reach} {b0 : Nat} {sp : Nat → Bool} {held : Bool} {v : Value} {d : DataW H} {p : List MemPlace}
    (hv : Value.okWide Tryd.prog w r b0 102 v) (hd : DataW.Trod enc Tryd.prog w base sp held 102 v d p) :
    ∃ (A : Option Addr) (c : Nat) (zs : List (Int × Int × Int)), v = .slice A zs.length c ∧ RCells w A zs := by
  obtain ⟨a, len, cap, rfl⟩ := okWide_slice Tryd.underlying102 hv
  obtain ⟨fuel, hf⟩ := hd
  have hf' : DataW.trod enc Tryd.prog w base sp held fuel 102 [.slice a len cap] = some (d, p) := hf
  obtain ⟨A, c, zs, e, _, _, k⟩ := open_rcells 3 Tryd.underlying102 (by kernel_rfl) (by kernel_rfl) hf'
  exact ⟨A, c, zs, by simpa using e, k⟩

set_option maxRecDepth 100000 in
/-- frequencies, opened. -/
theorem open_freqs {H : Type} {enc : TypeId × Value → H} {w : World} {base : Nat} {r : Reach} {b0 : Nat} {sp : Nat → Bool} {held : Bool} {v : Value} {d : DataW H} {p : List MemPlace}
    (hv : Value.okWide Tryd.prog w r b0 38 v) (hd : DataW.Trod enc Tryd.prog w base sp held 38 v d p) :
    ∃ (A : Option Addr) (c : Nat) (ws : List Int), v = .slice A ws.length c ∧ Cells w A ws := by
  obtain ⟨a, len, cap, rfl⟩ := okWide_slice Tryd.underlying38 hv
  obtain ⟨fuel, hf⟩ := hd
  have hf' : DataW.trod enc Tryd.prog w base sp held fuel 38 [.slice a len cap] = some (d, p) := hf
  obtain ⟨A, c, ws, e, _, _, k⟩ := open_cells 3 Tryd.underlying38 (by kernel_rfl) (by kernel_rfl) hf'
  exact ⟨A, c, ws, by simpa using e, k⟩

set_option maxRecDepth 100000 in
/-- readings and four numbers, opened. -/
theorem open_other {H : Type} {enc : TypeId × Value → H} {w : World} {base : Nat} {r : Reach} {b0 : Nat} {sp : Nat → Bool} {held : Bool} {v : Value} {d : DataW H} {p : List MemPlace}
    (hv : Value.okWide Tryd.prog w r b0 105 v) (hd : DataW.Trod enc Tryd.prog w base sp held 105 v d p) :
    ∃ (A : Option Addr) (c : Nat) (zs : List (Int × Int × Int)) (a0 a1 a2 a3 : Int), v = .agg #[.slice A zs.length c, .int .u8 a0, .int .u8 a1, .int .u8 a2, .int .u8 a3] ∧ RCells w A zs ∧ (0 ≤ a0 ∧ a0 ≤ 255) ∧ (0 ≤ a1 ∧ a1 ≤ 255) ∧ (0 ≤ a2 ∧ a2 ≤ 255) ∧ (0 ≤ a3 ∧ a3 ≤ 255) := by
  obtain ⟨cs, rfl, hsz⟩ := okWide_struct Tryd.underlying105 hv
  obtain ⟨fuel, hf⟩ := hd
  obtain ⟨y0, y1, n, _, hl, h0, h1⟩ := trod_struct2 Tryd.underlying105 hf
  rw [show Tryd.prog.cellsOf 105 = 5 by kernel_rfl] at hsz
  obtain ⟨l⟩ := cs
  match l, hsz with
  | [u0, u1, u2, u3, u4], _ =>
  have h0' : DataW.trod enc Tryd.prog w base sp held n 102 [u0] = some y0 := h0
  have h1' : DataW.trod enc Tryd.prog w base sp held n 103 [u1, u2, u3, u4] = some y1 := h1
  obtain ⟨A1, c1, zs, e1, _, _, k1⟩ := open_rcells 3 Tryd.underlying102 (by kernel_rfl) (by kernel_rfl) h0'
  obtain ⟨x0, x1, x2, x3, n', _, g0, g1, g2, g3⟩ := trod_array4 Tryd.underlying103 (by kernel_rfl) h1'
  obtain ⟨a0, r0, _, b0⟩ := DataW.trod_int Tryd.underlying5 g0
  obtain ⟨a1, r1, _, b1⟩ := DataW.trod_int Tryd.underlying5 g1
  obtain ⟨a2, r2, _, b2⟩ := DataW.trod_int Tryd.underlying5 g2
  obtain ⟨a3, r3, _, b3⟩ := DataW.trod_int Tryd.underlying5 g3
  obtain rfl : u0 = _ := by simpa using e1
  obtain rfl : u1 = _ := by simpa using r0
  obtain rfl : u2 = _ := by simpa using r1
  obtain rfl : u3 = _ := by simpa using r2
  obtain rfl : u4 = _ := by simpa using r3
  exact ⟨A1, c1, zs, a0, a1, a2, a3, rfl, k1, bounds_u8 b0, bounds_u8 b1, bounds_u8 b2, bounds_u8 b3⟩

set_option maxRecDepth 100000 in
theorem contract (H : Type) (enc : TypeId × Value → H) (W : World) (base : Nat) (args : Array Value) (ds gs : List (DataW H)) (before : List MemPlace)
    (hval : ∀ (j : Nat) t v, Tryd.f10.params[j]? = some t → args[j]? = some v → Value.okWide Tryd.prog W .any base t v)
    (hW : DataW.Whole enc Tryd.prog Tryd.f10.params.toList Rows.driverHoldsSpec.vars false W args.toList ds gs before) (hL : laidMetH Tryd.prog laidList W) :
    Calls Tryd.prog 10 args W fun e W' => ∃ v, e = .returned v ∧ Rows.driverHoldsSpec.post enc Tryd.prog Tryd.f10 false true false false W args v W' := by
  have hW' := hW
  have hlt : ∀ p ∈ before, p.block < W.heap.size := fun p hp => hW.lt p hp
  obtain ⟨p, q, hA0, hV, rfl, hfz, hnd⟩ := hW
  have hA : DataW.TrodAll enc Tryd.prog W 0 (fun _ => true) true Tryd.f10.params.toList args.toList ds p := hA0
  rw [Tryd.params10] at hA hval
  obtain ⟨v0, v1, v2, d0, d1, d2, p0, p1, p2, rfl, rfl, rfl, h0, h1, h2⟩ := trodAll_three hA
  obtain ⟨rfl, rfl⟩ := trodVars_none hV
  obtain ⟨z0, hz0, rfl, rfl⟩ := open_ints 4 Tryd.underlying101 (by kernel_rfl) (hval 0 _ _ rfl rfl) h0
  rw [show Tryd.prog.cellsOf 101 = 9 by kernel_rfl] at hz0
  obtain ⟨A1, c1, ws, rfl, k1⟩ := open_freqs (hval 1 _ _ rfl rfl) h1
  obtain ⟨A2, c2, zs, a0, a1, a2, a3, rfl, k2, u0, u1, u2, u3⟩ := open_other (hval 2 _ _ rfl rfl) h2
  match z0, hz0 with
  | [d1, d2, d3, d4, d5, d6, d7, d8, d9], _ =>
  refine (DriverHolds_any d1 d2 d3 d4 d5 d6 d7 d8 d9 a0 a1 a2 a3 ws zs c1 c2 A1 A2 W (lim_of_laid hL) k1 k2 ⟨u0, u1, u2, u3⟩).mono fun e W' ⟨he, hb⟩ => ?_
  subst he
  refine ⟨_, rfl, post_of_below (pa := [] ++ p1 ++ p2) (pv := []) hW' (fun _ _ _ => trodAll_cons_mk (shut_bool Tryd.underlying4 _) trodAll_mk0) (fun sp hs => ?_) (fun _ _ => rfl) rfl hb (ok_one (by kernel_rfl) rfl (okWide_bool_mk Tryd.underlying4 _))⟩
  exact trodAll_below laidOut hb (by rw [Tryd.params10]; exact of_decide_eq_true (by kernel_rfl)) hA0 (fun x hx => hlt x (List.mem_append_left _ hx)) (fun x hx => hs x (List.mem_append_left _ hx))

/-- the witness: nothing. -/
noncomputable def wit : Array Value := #[.agg #[(.int .i64 (0)), (.int .i64 (0)), (.int .i64 (0)), (.int .i64 (0)), (.int .i64 (0)), (.int .i64 (0)), (.int .i64 (0)), (.int .i64 (0)), (.int .i64 (0))], .slice none 0 0, .agg #[.slice none 0 0, .int .u8 0, .int .u8 0, .int .u8 0, .int .u8 0]]
theorem reads (os : Os) {H : Type} (enc : TypeId × Value → H) : ∃ ds places, DataW.whole enc Tryd.prog ((World.doorLaid Tryd.prog 35 os).forCall (fun _ _ => 0) ⟨#[], wit, []⟩).memory Tryd.f10.params.toList Rows.driverHoldsSpec.vars false wit.toList 8 = some (ds, [], places) :=
  ⟨[.agg [.agg (List.replicate 6 (.lit (.int .i64 0))), .lit (.int .i64 0), .lit (.int .i64 0), .lit (.int .i64 0)], .nil, .agg [.nil, .agg (List.replicate 4 (.lit (.int .u8 0)))]], [], by kernel_rfl⟩

set_option maxRecDepth 100000 in
theorem lifted (os : Os) (started : os.Started) (H : Type) (enc : TypeId × Value → H) (F : Stop.Interp) :
    ReturnsInHanded {} Tryd.checked os 10 .any ((OpenSpec.ofChange Rows.driverHoldsSpec).preRow enc Tryd.prog Tryd.f10 Rows.driverHoldsRow.domain false Rows.driverHoldsRow.laid) (((OpenSpec.ofChange Rows.driverHoldsSpec).at F).post enc Tryd.prog Tryd.f10 false true false false) := by
  obtain ⟨ds, places, hx⟩ := reads os enc
  refine returnsInHanded_of_row (C := Tryd.checked) (s := OpenSpec.ofChange Rows.driverHoldsSpec) own started (by kernel_rfl) Tryd.func10
    (witness_row_at (enc := enc) (C := Tryd.checked) false (World.doorLaid Tryd.prog 35 os) wit rfl (door_vars os _) (door_rest os _) (by kernel_rfl)
      (OpenSpec.preRow_of_cond 8 hx (by kernel_rfl) (fun k hk => by cases hk) (by kernel_rfl) (laid_met os _))) ?_
  intro W base args ds gs before hval hW _ _ _ hL _ _
  exact contract H enc W base args ds gs before hval hW hL

theorem said : Rows.DriverHoldsSaid :=
  OpenClaim.holds_of_cond 10 Tryd.f10 rfl rfl rfl rfl rfl rfl rfl ⟨rfl, rfl, rfl, rfl, rfl⟩ rfl rfl rfl rfl rfl (by kernel_rfl) Tryd.func10 (by kernel_rfl)
    (of_decide_eq_true (by kernel_rfl)) (by unfold Func.isWrapper; first | (rw [if_pos (by decide +kernel)]; kernel_rfl) | (rw [if_neg (by decide +kernel)]; exact ⟨rfl, rfl⟩))
    (fun os started H enc _ F => by rw [OpenClaim.pre_eq_preRow]; exact lifted os started H enc F)

theorem plain (f : FuncId) (fn : Func) (hf : Tryd.pinned.checked.prog.funcNamed "woofer/wooferlaw03.DriverHolds" = some f) (hfn : Tryd.pinned.checked.prog.funcs[f]? = some fn) :
    false = Tryd.pinned.checked.prog.looks [] ∧ ∀ (j : Nat) t, fn.params[j]? = some t → Tryd.pinned.checked.prog.wantsStandIn t = false := by
  obtain rfl : f = 10 := Option.some.inj ((show Tryd.prog.funcNamed "woofer/wooferlaw03.DriverHolds" = some 10 by kernel_rfl).symm.trans hf) |>.symm
  obtain rfl : fn = Tryd.f10 := (Option.some.inj (Tryd.func10.symm.trans hfn)).symm
  refine ⟨by kernel_rfl, fun j t ht => ?_⟩
  rw [Tryd.params10] at ht
  have hall : ∀ t ∈ (#[101, 38, 105] : Array TypeId), Tryd.prog.wantsStandIn t = false := of_decide_eq_true (by kernel_rfl)
  exact hall t (Array.mem_of_getElem? ht)

theorem card : Rows.DriverHoldsCardSaid :=
  Claim7.holds_tied_plain_at .later [] _ _ _ _ said (fun _ h => by cases h) (by kernel_rfl) (fun _ h => by cases h) driverHolds_row_tie rfl ⟨rfl, rfl⟩ (by kernel_rfl) rfl plain (by kernel_rfl)
end Go.Proofs.YtpkldjlljoledaaDoor.driverHolds
