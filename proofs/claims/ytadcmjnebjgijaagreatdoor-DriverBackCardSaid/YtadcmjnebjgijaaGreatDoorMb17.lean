/- Part 17 of the texts of the claim: T12, T15, Flat, Laid. -/
import Derived.Test.YtadcmjnebjgijaaGreatDoorMb13
import Derived.Test.YtadcmjnebjgijaaGreatDoorMb16
import Derived.WalkKit
import Derived.ProofKit
import Derived.OpenShut
import Derived.Lib.LaidTab
import Derived.Below
import Derived.Carry
import Derived.ChangeSame
import Derived.Test.YtadcmjnebjgijaaGreatDoorCards
import Derived.Test.YtadcmjnebjgijaaGreatDoorTie
import Derived.Test.YtadcmjnebjgijaaGreatDoorMb3
import Derived.Deep.DeepHandedRow
import Derived.LaidMore

/- DriverTexts answers yes where its guard does not turn it away. -/
namespace Go.Proofs.YtadcmjnebjgijaaGreatDoor
open Go.RowKit
open Calm (bcell Blk)
theorem print_no (re le bl ma st lo : Int) (w : World) (hL : Lim w) (h : drvErr re le bl ma st lo ≠ 0) :
    Calls Tryz.prog 6 #[.agg #[(.int .i64 (re)), (.int .i64 (le)), (.int .i64 (bl)), (.int .i64 (ma)), (.int .i64 (st)), (.int .i64 (lo))]] w fun r w' => r = .returned (.tuple #[.string ⟨#[]⟩, (.int .i64 (drvErr re le bl ma st lo))]) ∧ Below w.heap.size w w' := by
  obtain ⟨D, hD⟩ : ∃ D, D = drvErr re le bl ma st lo := ⟨_, rfl⟩
  rw [← hD] at h ⊢
  have HD := Lib.hid hD
  have he0 : (D == 0) = false := by simpa using h
  clear hD
  have hB0 := Below.refl w.heap.size w
  go_enter Tryz.func6, Tryz.ntmps6
  go_wp2_with (go_at_call 31; refine (checkDriver_any re le bl ma st lo _ (hL.below (hB0.alloc hB0.size _))).mono ?_; rw [← HD.out]; rintro r w1 ⟨rfl, h1⟩; refine Hid.out ?_)
  unfold Hid
  have hB1 := (hB0.alloc hB0.size _).trans (h1.mono (by simp))
  go_wp2
  go_ret2
  exact ⟨rfl, hB1⟩

set_option maxRecDepth 100000 in
set_option maxHeartbeats 8000000 in
theorem texts_00 (re le bl ma st lo a b' c d e f E D : Int) (s t : ByteArray) (w : World) (hT : Tab w) (hs : s.size ≤ 100)  (HPr : Hid (∀ W : World, Tab W → Calls Tryz.prog 6 #[.agg #[(.int .i64 (re)), (.int .i64 (le)), (.int .i64 (bl)), (.int .i64 (ma)), (.int .i64 (st)), (.int .i64 (lo))]] W fun r w' => r = .returned (.tuple #[.string t, (.int .i64 (0))]) ∧ Below W.heap.size W w')) (HRp : Hid (∀ W : World, Calls Tryz.prog 9 #[.agg #[(.int .i64 (re)), (.int .i64 (le)), (.int .i64 (bl)), (.int .i64 (ma)), (.int .i64 (st)), (.int .i64 (lo))]] W fun r w' => r = .returned (.string t) ∧ Below W.heap.size W w'))
    (HCk : Hid (∀ W : World, Calls Tryz.prog 8 #[.agg #[(.int .i64 (re)), (.int .i64 (le)), (.int .i64 (bl)), (.int .i64 (ma)), (.int .i64 (st)), (.int .i64 (lo))]] W fun r w' => r = .returned ((.int .i64 (0))) ∧ Below W.heap.size W w'))
    (HPa : Hid (∀ W : World, Tab W → Calls Tryz.prog 7 #[.string s] W fun r w' => r = .returned (.tuple #[.agg #[(.int .i64 (a)), (.int .i64 (b')), (.int .i64 (c)), (.int .i64 (d)), (.int .i64 (e)), (.int .i64 (f))], (.int .i64 (E))]) ∧ Below W.heap.size W w'))
    (HPb : Hid (∀ W : World, Calls Tryz.prog 10 #[.string s] W fun r w' => r = .returned (.tuple #[.agg #[(.int .i64 (a)), (.int .i64 (b')), (.int .i64 (c)), (.int .i64 (d)), (.int .i64 (e)), (.int .i64 (f))], (.int .i64 (E))]) ∧ Below W.heap.size W w')) :
    Calls Tryz.prog 3 #[.agg #[(.int .i64 (re)), (.int .i64 (le)), (.int .i64 (bl)), (.int .i64 (ma)), (.int .i64 (st)), (.int .i64 (lo))], .string s] w fun r w' => r = .returned (.bool true) ∧ Below w.heap.size w w' := by
  have hB0 := Below.refl w.heap.size w
  have hL := hT.lim
  have q2 : ¬ (100 : Int) < (s.size : Int) := by omega
  go_enter Tryz.func3, Tryz.ntmps3
  go_wp2_with (go_at_call 5; refine (awake_any _ (hL.below (hB0.alloc hB0.size _))).mono ?_; rintro r w1 ⟨rfl, h1⟩; refine Hid.out ?_)
  unfold Hid
  have hB1 := (hB0.alloc hB0.size _).trans (h1.mono (Nat.le_trans hB0.size (by simp; try omega)))
  have KC_1 := Lib.hid (show Blk w1 (w.heap.size) #[(.int .i64 (re)), (.int .i64 (le)), (.int .i64 (bl)), (.int .i64 (ma)), (.int .i64 (st)), (.int .i64 (lo))] from (Calm.Blk.new _ _ #[(.int .i64 (re)), (.int .i64 (le)), (.int .i64 (bl)), (.int .i64 (ma)), (.int .i64 (st)), (.int .i64 (lo))]).below h1)
  clear h1 hB0
  obtain ⟨fC_0, fC_1, fC_2, fC_3, fC_4, fC_5, fC_l, fC_f⟩ := KC_1.out.o6
  have fC_l0_1 : w.heap.size < w1.heap.size + 1 := by omega
  have fC_l0_2 : w.heap.size < w1.heap.size + 1 + 1 := by omega
  go_wp2_with (go_at_call 6; refine (HPr.out _ (hT.below hB1)).mono ?_; rintro r w2 ⟨rfl, h2⟩; refine Hid.out ?_)
  unfold Hid
  have hB2 := hB1.trans (h2.mono hB1.size)
  have KC_2 := Lib.hid (KC_1.out.below h2)
  clear h2 hB1 KC_1 fC_0 fC_1 fC_2 fC_3 fC_4 fC_5 fC_l fC_f fC_l0_1 fC_l0_2
  go_wp2_with (go_at_call 7; refine (HPa.out _ (hT.below hB2)).mono ?_; rintro r w3 ⟨rfl, h3⟩; refine Hid.out ?_)
  unfold Hid
  have hB3 := hB2.trans (h3.mono hB2.size)
  have KC_3 := Lib.hid (KC_2.out.below h3)
  clear h3 hB2 KC_2
  obtain ⟨fC_0, fC_1, fC_2, fC_3, fC_4, fC_5, fC_l, fC_f⟩ := KC_3.out.o6
  have fC_l0_1 : w.heap.size < w3.heap.size + 1 := by omega
  have fC_l0_2 : w.heap.size < w3.heap.size + 1 + 1 := by omega
  go_wp2_with (go_at_call 8; refine (HCk.out _).mono ?_; rintro r w4 ⟨rfl, h4⟩; refine Hid.out ?_)
  unfold Hid
  have hB4 := (hB3.alloc hB3.size _).trans (h4.mono (Nat.le_trans hB3.size (by simp; try omega)))
  have oC_4 : w.heap.size < w3.heap.size := KC_3.out.lt
  have KC_4 := Lib.hid ((KC_3.out.alloc _).below h4)
  have KX_4 := Lib.hid (show Blk w4 (w3.heap.size) #[(.int .i64 (a)), (.int .i64 (b')), (.int .i64 (c)), (.int .i64 (d)), (.int .i64 (e)), (.int .i64 (f))] from (Calm.Blk.new _ _ #[(.int .i64 (a)), (.int .i64 (b')), (.int .i64 (c)), (.int .i64 (d)), (.int .i64 (e)), (.int .i64 (f))]).below h4)
  clear h4 hB3 KC_3 fC_0 fC_1 fC_2 fC_3 fC_4 fC_5 fC_l fC_f fC_l0_1 fC_l0_2
  obtain ⟨fC_0, fC_1, fC_2, fC_3, fC_4, fC_5, fC_l, fC_f⟩ := KC_4.out.o6
  have fC_l0_1 : w.heap.size < w4.heap.size + 1 := by omega
  have fC_l0_2 : w.heap.size < w4.heap.size + 1 + 1 := by omega
  go_wp2_with (go_at_call 9; refine (HRp.out _).mono ?_; rintro r w5 ⟨rfl, h5⟩; refine Hid.out ?_)
  unfold Hid
  have hB5 := hB4.trans (h5.mono hB4.size)
  have KC_5 := Lib.hid (KC_4.out.below h5)
  have KX_5 := Lib.hid (KX_4.out.below h5)
  clear h5 hB4 KC_4 KX_4 fC_0 fC_1 fC_2 fC_3 fC_4 fC_5 fC_l fC_f fC_l0_1 fC_l0_2
  go_wp2_with (go_at_call 10; refine (HPb.out _).mono ?_; rintro r w6 ⟨rfl, h6⟩; refine Hid.out ?_)
  unfold Hid
  have hB6 := hB5.trans (h6.mono hB5.size)
  have KC_6 := Lib.hid (KC_5.out.below h6)
  have KX_6 := Lib.hid (KX_5.out.below h6)
  clear h6 hB5 KC_5 KX_5
  obtain ⟨fX_0, fX_1, fX_2, fX_3, fX_4, fX_5, fX_l, fX_f⟩ := KX_6.out.o6
  have fX_l0_1 : w3.heap.size < w6.heap.size + 1 := by omega
  have fX_l0_2 : w3.heap.size < w6.heap.size + 1 + 1 := by omega
  have fx1 : w3.heap.size < w6.heap.size + 1 := by omega
  have fx2 : ¬ w3.heap.size = w6.heap.size := by omega
  have fx3 : ¬ w6.heap.size = w3.heap.size := by omega
  go_wp2
  go_ret
  exact ⟨by first | rfl | (simp; done), (hB6.alloc hB6.size _)⟩
set_option maxRecDepth 100000 in
set_option maxHeartbeats 8000000 in
theorem texts_01 (re le bl ma st lo a b' c d e f E D : Int) (s t : ByteArray) (w : World) (hT : Tab w) (hs : s.size ≤ 100) (h0 : ¬ D = 0) (HPr : Hid (∀ W : World, Tab W → Calls Tryz.prog 6 #[.agg #[(.int .i64 (re)), (.int .i64 (le)), (.int .i64 (bl)), (.int .i64 (ma)), (.int .i64 (st)), (.int .i64 (lo))]] W fun r w' => r = .returned (.tuple #[.string ⟨#[]⟩, (.int .i64 (D))]) ∧ Below W.heap.size W w')) 
    (HCk : Hid (∀ W : World, Calls Tryz.prog 8 #[.agg #[(.int .i64 (re)), (.int .i64 (le)), (.int .i64 (bl)), (.int .i64 (ma)), (.int .i64 (st)), (.int .i64 (lo))]] W fun r w' => r = .returned ((.int .i64 (D))) ∧ Below W.heap.size W w'))
    (HPa : Hid (∀ W : World, Tab W → Calls Tryz.prog 7 #[.string s] W fun r w' => r = .returned (.tuple #[.agg #[(.int .i64 (a)), (.int .i64 (b')), (.int .i64 (c)), (.int .i64 (d)), (.int .i64 (e)), (.int .i64 (f))], (.int .i64 (E))]) ∧ Below W.heap.size W w'))
    (HPb : Hid (∀ W : World, Calls Tryz.prog 10 #[.string s] W fun r w' => r = .returned (.tuple #[.agg #[(.int .i64 (a)), (.int .i64 (b')), (.int .i64 (c)), (.int .i64 (d)), (.int .i64 (e)), (.int .i64 (f))], (.int .i64 (E))]) ∧ Below W.heap.size W w')) :
    Calls Tryz.prog 3 #[.agg #[(.int .i64 (re)), (.int .i64 (le)), (.int .i64 (bl)), (.int .i64 (ma)), (.int .i64 (st)), (.int .i64 (lo))], .string s] w fun r w' => r = .returned (.bool true) ∧ Below w.heap.size w w' := by
  have hB0 := Below.refl w.heap.size w
  have hL := hT.lim
  have q2 : ¬ (100 : Int) < (s.size : Int) := by omega
  have q3 : (D == 0) = false := by simpa using h0
  go_enter Tryz.func3, Tryz.ntmps3
  go_wp2_with (go_at_call 5; refine (awake_any _ (hL.below (hB0.alloc hB0.size _))).mono ?_; rintro r w1 ⟨rfl, h1⟩; refine Hid.out ?_)
  unfold Hid
  have hB1 := (hB0.alloc hB0.size _).trans (h1.mono (Nat.le_trans hB0.size (by simp; try omega)))
  have KC_1 := Lib.hid (show Blk w1 (w.heap.size) #[(.int .i64 (re)), (.int .i64 (le)), (.int .i64 (bl)), (.int .i64 (ma)), (.int .i64 (st)), (.int .i64 (lo))] from (Calm.Blk.new _ _ #[(.int .i64 (re)), (.int .i64 (le)), (.int .i64 (bl)), (.int .i64 (ma)), (.int .i64 (st)), (.int .i64 (lo))]).below h1)
  clear h1 hB0
  obtain ⟨fC_0, fC_1, fC_2, fC_3, fC_4, fC_5, fC_l, fC_f⟩ := KC_1.out.o6
  have fC_l0_1 : w.heap.size < w1.heap.size + 1 := by omega
  have fC_l0_2 : w.heap.size < w1.heap.size + 1 + 1 := by omega
  go_wp2_with (go_at_call 6; refine (HPr.out _ (hT.below hB1)).mono ?_; rintro r w2 ⟨rfl, h2⟩; refine Hid.out ?_)
  unfold Hid
  have hB2 := hB1.trans (h2.mono hB1.size)
  have KC_2 := Lib.hid (KC_1.out.below h2)
  clear h2 hB1 KC_1 fC_0 fC_1 fC_2 fC_3 fC_4 fC_5 fC_l fC_f fC_l0_1 fC_l0_2
  go_wp2_with (go_at_call 7; refine (HPa.out _ (hT.below hB2)).mono ?_; rintro r w3 ⟨rfl, h3⟩; refine Hid.out ?_)
  unfold Hid
  have hB3 := hB2.trans (h3.mono hB2.size)
  have KC_3 := Lib.hid (KC_2.out.below h3)
  clear h3 hB2 KC_2
  obtain ⟨fC_0, fC_1, fC_2, fC_3, fC_4, fC_5, fC_l, fC_f⟩ := KC_3.out.o6
  have fC_l0_1 : w.heap.size < w3.heap.size + 1 := by omega
  have fC_l0_2 : w.heap.size < w3.heap.size + 1 + 1 := by omega
  go_wp2_with (go_at_call 8; refine (HCk.out _).mono ?_; rintro r w4 ⟨rfl, h4⟩; refine Hid.out ?_)
  unfold Hid
  have hB4 := (hB3.alloc hB3.size _).trans (h4.mono (Nat.le_trans hB3.size (by simp; try omega)))
  have oC_4 : w.heap.size < w3.heap.size := KC_3.out.lt
  have KC_4 := Lib.hid ((KC_3.out.alloc _).below h4)
  have KX_4 := Lib.hid (show Blk w4 (w3.heap.size) #[(.int .i64 (a)), (.int .i64 (b')), (.int .i64 (c)), (.int .i64 (d)), (.int .i64 (e)), (.int .i64 (f))] from (Calm.Blk.new _ _ #[(.int .i64 (a)), (.int .i64 (b')), (.int .i64 (c)), (.int .i64 (d)), (.int .i64 (e)), (.int .i64 (f))]).below h4)
  clear h4 hB3 KC_3 fC_0 fC_1 fC_2 fC_3 fC_4 fC_5 fC_l fC_f fC_l0_1 fC_l0_2
  go_wp2_with (go_at_call 10; refine (HPb.out _).mono ?_; rintro r w5 ⟨rfl, h5⟩; refine Hid.out ?_)
  unfold Hid
  have hB5 := hB4.trans (h5.mono hB4.size)
  have KC_5 := Lib.hid (KC_4.out.below h5)
  have KX_5 := Lib.hid (KX_4.out.below h5)
  clear h5 hB4 KC_4 KX_4
  obtain ⟨fX_0, fX_1, fX_2, fX_3, fX_4, fX_5, fX_l, fX_f⟩ := KX_5.out.o6
  have fX_l0_1 : w3.heap.size < w5.heap.size + 1 := by omega
  have fX_l0_2 : w3.heap.size < w5.heap.size + 1 + 1 := by omega
  have fx1 : w3.heap.size < w5.heap.size + 1 := by omega
  have fx2 : ¬ w3.heap.size = w5.heap.size := by omega
  have fx3 : ¬ w5.heap.size = w3.heap.size := by omega
  go_wp2
  go_ret
  exact ⟨by first | rfl | (simp; done), (hB5.alloc hB5.size _)⟩
set_option maxRecDepth 100000 in
set_option maxHeartbeats 8000000 in
theorem texts_10 (re le bl ma st lo a b' c d e f E D : Int) (s t : ByteArray) (w : World) (hT : Tab w) (hs : s.size = 4097)  (HPr : Hid (∀ W : World, Tab W → Calls Tryz.prog 6 #[.agg #[(.int .i64 (re)), (.int .i64 (le)), (.int .i64 (bl)), (.int .i64 (ma)), (.int .i64 (st)), (.int .i64 (lo))]] W fun r w' => r = .returned (.tuple #[.string t, (.int .i64 (0))]) ∧ Below W.heap.size W w')) (HRp : Hid (∀ W : World, Calls Tryz.prog 9 #[.agg #[(.int .i64 (re)), (.int .i64 (le)), (.int .i64 (bl)), (.int .i64 (ma)), (.int .i64 (st)), (.int .i64 (lo))]] W fun r w' => r = .returned (.string t) ∧ Below W.heap.size W w'))
    (HCk : Hid (∀ W : World, Calls Tryz.prog 8 #[.agg #[(.int .i64 (re)), (.int .i64 (le)), (.int .i64 (bl)), (.int .i64 (ma)), (.int .i64 (st)), (.int .i64 (lo))]] W fun r w' => r = .returned ((.int .i64 (0))) ∧ Below W.heap.size W w'))
    (HPa : Hid (∀ W : World, Tab W → Calls Tryz.prog 7 #[.string s] W fun r w' => r = .returned (.tuple #[.agg #[(.int .i64 (a)), (.int .i64 (b')), (.int .i64 (c)), (.int .i64 (d)), (.int .i64 (e)), (.int .i64 (f))], (.int .i64 (E))]) ∧ Below W.heap.size W w'))
    (HPb : Hid (∀ W : World, Calls Tryz.prog 10 #[.string s] W fun r w' => r = .returned (.tuple #[.agg #[(.int .i64 (a)), (.int .i64 (b')), (.int .i64 (c)), (.int .i64 (d)), (.int .i64 (e)), (.int .i64 (f))], (.int .i64 (E))]) ∧ Below W.heap.size W w')) :
    Calls Tryz.prog 3 #[.agg #[(.int .i64 (re)), (.int .i64 (le)), (.int .i64 (bl)), (.int .i64 (ma)), (.int .i64 (st)), (.int .i64 (lo))], .string s] w fun r w' => r = .returned (.bool true) ∧ Below w.heap.size w w' := by
  have hB0 := Below.refl w.heap.size w
  have hL := hT.lim
  have q1 : ((s.size : Int) == 4097) = true := by simpa using (by omega : (s.size : Int) = 4097)
  have q2 : (100 : Int) < (s.size : Int) := by omega
  have HS := Lib.hid hs; clear hs
  go_enter Tryz.func3, Tryz.ntmps3
  go_wp2_with (go_at_call 5; refine (awake_any _ (hL.below (hB0.alloc hB0.size _))).mono ?_; rintro r w1 ⟨rfl, h1⟩; refine Hid.out ?_)
  unfold Hid
  have hB1 := (hB0.alloc hB0.size _).trans (h1.mono (Nat.le_trans hB0.size (by simp; try omega)))
  have KC_1 := Lib.hid (show Blk w1 (w.heap.size) #[(.int .i64 (re)), (.int .i64 (le)), (.int .i64 (bl)), (.int .i64 (ma)), (.int .i64 (st)), (.int .i64 (lo))] from (Calm.Blk.new _ _ #[(.int .i64 (re)), (.int .i64 (le)), (.int .i64 (bl)), (.int .i64 (ma)), (.int .i64 (st)), (.int .i64 (lo))]).below h1)
  clear h1 hB0
  obtain ⟨fC_0, fC_1, fC_2, fC_3, fC_4, fC_5, fC_l, fC_f⟩ := KC_1.out.o6
  have fC_l0_1 : w.heap.size < w1.heap.size + 1 := by omega
  have fC_l0_2 : w.heap.size < w1.heap.size + 1 + 1 := by omega
  go_wp2_with (go_at_call 6; refine (HPr.out _ (hT.below hB1)).mono ?_; rintro r w2 ⟨rfl, h2⟩; refine Hid.out ?_)
  unfold Hid
  have hB2 := hB1.trans (h2.mono hB1.size)
  have KC_2 := Lib.hid (KC_1.out.below h2)
  clear h2 hB1 KC_1 fC_0 fC_1 fC_2 fC_3 fC_4 fC_5 fC_l fC_f fC_l0_1 fC_l0_2
  go_wp2_with (go_at_call 7; refine (HPa.out _ (hT.below hB2)).mono ?_; rintro r w3 ⟨rfl, h3⟩; refine Hid.out ?_)
  unfold Hid
  have hB3 := hB2.trans (h3.mono hB2.size)
  have KC_3 := Lib.hid (KC_2.out.below h3)
  clear h3 hB2 KC_2
  obtain ⟨fC_0, fC_1, fC_2, fC_3, fC_4, fC_5, fC_l, fC_f⟩ := KC_3.out.o6
  have fC_l0_1 : w.heap.size < w3.heap.size + 1 := by omega
  have fC_l0_2 : w.heap.size < w3.heap.size + 1 + 1 := by omega
  go_wp2_with (go_at_call 8; refine (HCk.out _).mono ?_; rintro r w4 ⟨rfl, h4⟩; refine Hid.out ?_)
  unfold Hid
  have hB4 := (hB3.alloc hB3.size _).trans (h4.mono (Nat.le_trans hB3.size (by simp; try omega)))
  have oC_4 : w.heap.size < w3.heap.size := KC_3.out.lt
  have KC_4 := Lib.hid ((KC_3.out.alloc _).below h4)
  have KX_4 := Lib.hid (show Blk w4 (w3.heap.size) #[(.int .i64 (a)), (.int .i64 (b')), (.int .i64 (c)), (.int .i64 (d)), (.int .i64 (e)), (.int .i64 (f))] from (Calm.Blk.new _ _ #[(.int .i64 (a)), (.int .i64 (b')), (.int .i64 (c)), (.int .i64 (d)), (.int .i64 (e)), (.int .i64 (f))]).below h4)
  clear h4 hB3 KC_3 fC_0 fC_1 fC_2 fC_3 fC_4 fC_5 fC_l fC_f fC_l0_1 fC_l0_2
  obtain ⟨fC_0, fC_1, fC_2, fC_3, fC_4, fC_5, fC_l, fC_f⟩ := KC_4.out.o6
  have fC_l0_1 : w.heap.size < w4.heap.size + 1 := by omega
  have fC_l0_2 : w.heap.size < w4.heap.size + 1 + 1 := by omega
  go_wp2_with (go_at_call 9; refine (HRp.out _).mono ?_; rintro r w5 ⟨rfl, h5⟩; refine Hid.out ?_)
  unfold Hid
  have hB5 := hB4.trans (h5.mono hB4.size)
  have KC_5 := Lib.hid (KC_4.out.below h5)
  have KX_5 := Lib.hid (KX_4.out.below h5)
  clear h5 hB4 KC_4 KX_4 fC_0 fC_1 fC_2 fC_3 fC_4 fC_5 fC_l fC_f fC_l0_1 fC_l0_2
  go_wp2_with (go_at_call 10; refine (HPb.out _).mono ?_; rintro r w6 ⟨rfl, h6⟩; refine Hid.out ?_)
  unfold Hid
  have hB6 := hB5.trans (h6.mono hB5.size)
  have KC_6 := Lib.hid (KC_5.out.below h6)
  have KX_6 := Lib.hid (KX_5.out.below h6)
  clear h6 hB5 KC_5 KX_5
  obtain ⟨fX_0, fX_1, fX_2, fX_3, fX_4, fX_5, fX_l, fX_f⟩ := KX_6.out.o6
  have fX_l0_1 : w3.heap.size < w6.heap.size + 1 := by omega
  have fX_l0_2 : w3.heap.size < w6.heap.size + 1 + 1 := by omega
  have fx1 : w3.heap.size < w6.heap.size + 1 := by omega
  have fx2 : ¬ w3.heap.size = w6.heap.size := by omega
  have fx3 : ¬ w6.heap.size = w3.heap.size := by omega
  go_wp2
  go_ret
  exact ⟨by first | rfl | (simp; done), (hB6.alloc hB6.size _)⟩
set_option maxRecDepth 100000 in
set_option maxHeartbeats 8000000 in
theorem texts_11 (re le bl ma st lo a b' c d e f E D : Int) (s t : ByteArray) (w : World) (hT : Tab w) (hs : s.size = 4097) (h0 : ¬ D = 0) (HPr : Hid (∀ W : World, Tab W → Calls Tryz.prog 6 #[.agg #[(.int .i64 (re)), (.int .i64 (le)), (.int .i64 (bl)), (.int .i64 (ma)), (.int .i64 (st)), (.int .i64 (lo))]] W fun r w' => r = .returned (.tuple #[.string ⟨#[]⟩, (.int .i64 (D))]) ∧ Below W.heap.size W w')) 
    (HCk : Hid (∀ W : World, Calls Tryz.prog 8 #[.agg #[(.int .i64 (re)), (.int .i64 (le)), (.int .i64 (bl)), (.int .i64 (ma)), (.int .i64 (st)), (.int .i64 (lo))]] W fun r w' => r = .returned ((.int .i64 (D))) ∧ Below W.heap.size W w'))
    (HPa : Hid (∀ W : World, Tab W → Calls Tryz.prog 7 #[.string s] W fun r w' => r = .returned (.tuple #[.agg #[(.int .i64 (a)), (.int .i64 (b')), (.int .i64 (c)), (.int .i64 (d)), (.int .i64 (e)), (.int .i64 (f))], (.int .i64 (E))]) ∧ Below W.heap.size W w'))
    (HPb : Hid (∀ W : World, Calls Tryz.prog 10 #[.string s] W fun r w' => r = .returned (.tuple #[.agg #[(.int .i64 (a)), (.int .i64 (b')), (.int .i64 (c)), (.int .i64 (d)), (.int .i64 (e)), (.int .i64 (f))], (.int .i64 (E))]) ∧ Below W.heap.size W w')) :
    Calls Tryz.prog 3 #[.agg #[(.int .i64 (re)), (.int .i64 (le)), (.int .i64 (bl)), (.int .i64 (ma)), (.int .i64 (st)), (.int .i64 (lo))], .string s] w fun r w' => r = .returned (.bool true) ∧ Below w.heap.size w w' := by
  have hB0 := Below.refl w.heap.size w
  have hL := hT.lim
  have q1 : ((s.size : Int) == 4097) = true := by simpa using (by omega : (s.size : Int) = 4097)
  have q2 : (100 : Int) < (s.size : Int) := by omega
  have HS := Lib.hid hs; clear hs
  have q3 : (D == 0) = false := by simpa using h0
  go_enter Tryz.func3, Tryz.ntmps3
  go_wp2_with (go_at_call 5; refine (awake_any _ (hL.below (hB0.alloc hB0.size _))).mono ?_; rintro r w1 ⟨rfl, h1⟩; refine Hid.out ?_)
  unfold Hid
  have hB1 := (hB0.alloc hB0.size _).trans (h1.mono (Nat.le_trans hB0.size (by simp; try omega)))
  have KC_1 := Lib.hid (show Blk w1 (w.heap.size) #[(.int .i64 (re)), (.int .i64 (le)), (.int .i64 (bl)), (.int .i64 (ma)), (.int .i64 (st)), (.int .i64 (lo))] from (Calm.Blk.new _ _ #[(.int .i64 (re)), (.int .i64 (le)), (.int .i64 (bl)), (.int .i64 (ma)), (.int .i64 (st)), (.int .i64 (lo))]).below h1)
  clear h1 hB0
  obtain ⟨fC_0, fC_1, fC_2, fC_3, fC_4, fC_5, fC_l, fC_f⟩ := KC_1.out.o6
  have fC_l0_1 : w.heap.size < w1.heap.size + 1 := by omega
  have fC_l0_2 : w.heap.size < w1.heap.size + 1 + 1 := by omega
  go_wp2_with (go_at_call 6; refine (HPr.out _ (hT.below hB1)).mono ?_; rintro r w2 ⟨rfl, h2⟩; refine Hid.out ?_)
  unfold Hid
  have hB2 := hB1.trans (h2.mono hB1.size)
  have KC_2 := Lib.hid (KC_1.out.below h2)
  clear h2 hB1 KC_1 fC_0 fC_1 fC_2 fC_3 fC_4 fC_5 fC_l fC_f fC_l0_1 fC_l0_2
  go_wp2_with (go_at_call 7; refine (HPa.out _ (hT.below hB2)).mono ?_; rintro r w3 ⟨rfl, h3⟩; refine Hid.out ?_)
  unfold Hid
  have hB3 := hB2.trans (h3.mono hB2.size)
  have KC_3 := Lib.hid (KC_2.out.below h3)
  clear h3 hB2 KC_2
  obtain ⟨fC_0, fC_1, fC_2, fC_3, fC_4, fC_5, fC_l, fC_f⟩ := KC_3.out.o6
  have fC_l0_1 : w.heap.size < w3.heap.size + 1 := by omega
  have fC_l0_2 : w.heap.size < w3.heap.size + 1 + 1 := by omega
  go_wp2_with (go_at_call 8; refine (HCk.out _).mono ?_; rintro r w4 ⟨rfl, h4⟩; refine Hid.out ?_)
  unfold Hid
  have hB4 := (hB3.alloc hB3.size _).trans (h4.mono (Nat.le_trans hB3.size (by simp; try omega)))
  have oC_4 : w.heap.size < w3.heap.size := KC_3.out.lt
  have KC_4 := Lib.hid ((KC_3.out.alloc _).below h4)
  have KX_4 := Lib.hid (show Blk w4 (w3.heap.size) #[(.int .i64 (a)), (.int .i64 (b')), (.int .i64 (c)), (.int .i64 (d)), (.int .i64 (e)), (.int .i64 (f))] from (Calm.Blk.new _ _ #[(.int .i64 (a)), (.int .i64 (b')), (.int .i64 (c)), (.int .i64 (d)), (.int .i64 (e)), (.int .i64 (f))]).below h4)
  clear h4 hB3 KC_3 fC_0 fC_1 fC_2 fC_3 fC_4 fC_5 fC_l fC_f fC_l0_1 fC_l0_2
  go_wp2_with (go_at_call 10; refine (HPb.out _).mono ?_; rintro r w5 ⟨rfl, h5⟩; refine Hid.out ?_)
  unfold Hid
  have hB5 := hB4.trans (h5.mono hB4.size)
  have KC_5 := Lib.hid (KC_4.out.below h5)
  have KX_5 := Lib.hid (KX_4.out.below h5)
  clear h5 hB4 KC_4 KX_4
  obtain ⟨fX_0, fX_1, fX_2, fX_3, fX_4, fX_5, fX_l, fX_f⟩ := KX_5.out.o6
  have fX_l0_1 : w3.heap.size < w5.heap.size + 1 := by omega
  have fX_l0_2 : w3.heap.size < w5.heap.size + 1 + 1 := by omega
  have fx1 : w3.heap.size < w5.heap.size + 1 := by omega
  have fx2 : ¬ w3.heap.size = w5.heap.size := by omega
  have fx3 : ¬ w5.heap.size = w3.heap.size := by omega
  go_wp2
  go_ret
  exact ⟨by first | rfl | (simp; done), (hB5.alloc hB5.size _)⟩
end Go.Proofs.YtadcmjnebjgijaaGreatDoor

/- DriverBack: its walks. -/
namespace Go.Proofs.YtadcmjnebjgijaaGreatDoor
open Go.RowKit
open Calm (bcell Blk)
set_option maxRecDepth 100000 in
set_option maxHeartbeats 8000000 in
theorem back_no0 (re le bl ma st lo D : Int) (s : ByteArray) (w : World) (hL : Lim w) (h0 : ¬ D = 0) (HCk : Hid (∀ W : World, Calls Tryz.prog 8 #[.agg #[(.int .i64 (re)), (.int .i64 (le)), (.int .i64 (bl)), (.int .i64 (ma)), (.int .i64 (st)), (.int .i64 (lo))]] W fun r w' => r = .returned ((.int .i64 (D))) ∧ Below W.heap.size W w')) :
    Calls Tryz.prog 4 #[.agg #[(.int .i64 (re)), (.int .i64 (le)), (.int .i64 (bl)), (.int .i64 (ma)), (.int .i64 (st)), (.int .i64 (lo))], .string s] w (fun r w' => r = .returned (.bool true) ∧ Below w.heap.size w w') := by
  have hB0 := Below.refl w.heap.size w
  have q3 : (D == 0) = false := by simpa using h0
  go_enter Tryz.func4, Tryz.ntmps4
  go_wp2_with (go_at_call 5; refine (awake_any _ (hL.below (hB0.alloc hB0.size _))).mono ?_; rintro r w1 ⟨rfl, h1⟩; refine Hid.out ?_)
  unfold Hid
  have hB1 := (hB0.alloc hB0.size _).trans (h1.mono (Nat.le_trans hB0.size (by simp; try omega)))
  have KC_1 := Lib.hid (show Blk w1 (w.heap.size) #[(.int .i64 (re)), (.int .i64 (le)), (.int .i64 (bl)), (.int .i64 (ma)), (.int .i64 (st)), (.int .i64 (lo))] from (Calm.Blk.new _ _ #[(.int .i64 (re)), (.int .i64 (le)), (.int .i64 (bl)), (.int .i64 (ma)), (.int .i64 (st)), (.int .i64 (lo))]).below h1)
  clear h1 hB0
  obtain ⟨fC_0, fC_1, fC_2, fC_3, fC_4, fC_5, fC_l, fC_f⟩ := KC_1.out.o6
  have fC_l0_1 : w.heap.size < w1.heap.size + 1 := by omega
  have fC_l0_2 : w.heap.size < w1.heap.size + 1 + 1 := by omega
  go_wp2_with (go_at_call 8; refine (HCk.out _).mono ?_; rintro r w2 ⟨rfl, h2⟩; refine Hid.out ?_)
  unfold Hid
  have hB2 := hB1.trans (h2.mono hB1.size)
  have KC_2 := Lib.hid (KC_1.out.below h2)
  clear h2 hB1 KC_1 fC_0 fC_1 fC_2 fC_3 fC_4 fC_5 fC_l fC_f fC_l0_1 fC_l0_2
  go_wp2_with (go_at_call 5; refine (awake_any _ (hL.below hB2)).mono ?_; rintro r w3 ⟨rfl, h3⟩; refine Hid.out ?_)
  unfold Hid
  have hB3 := hB2.trans (h3.mono hB2.size)
  have KC_3 := Lib.hid (KC_2.out.below h3)
  clear h3 hB2 KC_2
  go_wp2
  go_ret
  exact ⟨by first | rfl | (simp; done), hB3⟩
set_option maxRecDepth 100000 in
set_option maxHeartbeats 8000000 in
theorem back_no1 (re le bl ma st lo D : Int) (s : ByteArray) (w : World) (hL : Lim w) (hs : 100 < s.size) (HCk : Hid (∀ W : World, Calls Tryz.prog 8 #[.agg #[(.int .i64 (re)), (.int .i64 (le)), (.int .i64 (bl)), (.int .i64 (ma)), (.int .i64 (st)), (.int .i64 (lo))]] W fun r w' => r = .returned ((.int .i64 (0))) ∧ Below W.heap.size W w')) :
    Calls Tryz.prog 4 #[.agg #[(.int .i64 (re)), (.int .i64 (le)), (.int .i64 (bl)), (.int .i64 (ma)), (.int .i64 (st)), (.int .i64 (lo))], .string s] w (fun r w' => r = .returned (.bool true) ∧ Below w.heap.size w w') := by
  have hB0 := Below.refl w.heap.size w
  have q2 : (100 : Int) < (s.size : Int) := by omega
  go_enter Tryz.func4, Tryz.ntmps4
  go_wp2_with (go_at_call 5; refine (awake_any _ (hL.below (hB0.alloc hB0.size _))).mono ?_; rintro r w1 ⟨rfl, h1⟩; refine Hid.out ?_)
  unfold Hid
  have hB1 := (hB0.alloc hB0.size _).trans (h1.mono (Nat.le_trans hB0.size (by simp; try omega)))
  have KC_1 := Lib.hid (show Blk w1 (w.heap.size) #[(.int .i64 (re)), (.int .i64 (le)), (.int .i64 (bl)), (.int .i64 (ma)), (.int .i64 (st)), (.int .i64 (lo))] from (Calm.Blk.new _ _ #[(.int .i64 (re)), (.int .i64 (le)), (.int .i64 (bl)), (.int .i64 (ma)), (.int .i64 (st)), (.int .i64 (lo))]).below h1)
  clear h1 hB0
  obtain ⟨fC_0, fC_1, fC_2, fC_3, fC_4, fC_5, fC_l, fC_f⟩ := KC_1.out.o6
  have fC_l0_1 : w.heap.size < w1.heap.size + 1 := by omega
  have fC_l0_2 : w.heap.size < w1.heap.size + 1 + 1 := by omega
  go_wp2_with (go_at_call 8; refine (HCk.out _).mono ?_; rintro r w2 ⟨rfl, h2⟩; refine Hid.out ?_)
  unfold Hid
  have hB2 := hB1.trans (h2.mono hB1.size)
  have KC_2 := Lib.hid (KC_1.out.below h2)
  clear h2 hB1 KC_1 fC_0 fC_1 fC_2 fC_3 fC_4 fC_5 fC_l fC_f fC_l0_1 fC_l0_2
  go_wp2_with (go_at_call 5; refine (awake_any _ (hL.below hB2)).mono ?_; rintro r w3 ⟨rfl, h3⟩; refine Hid.out ?_)
  unfold Hid
  have hB3 := hB2.trans (h3.mono hB2.size)
  have KC_3 := Lib.hid (KC_2.out.below h3)
  clear h3 hB2 KC_2
  go_wp2
  go_ret
  exact ⟨by first | rfl | (simp; done), hB3⟩
set_option maxRecDepth 100000 in
set_option maxHeartbeats 8000000 in
theorem back_bad (re le bl ma st lo a b' c d e f E : Int) (s t : ByteArray) (w : World) (hT : Tab w) (hs : s.size ≤ 100) (ht : t.size ≤ 1000) (hE : ¬ E = 0)
    (HCk : Hid (∀ W : World, Calls Tryz.prog 8 #[.agg #[(.int .i64 (re)), (.int .i64 (le)), (.int .i64 (bl)), (.int .i64 (ma)), (.int .i64 (st)), (.int .i64 (lo))]] W fun r w' => r = .returned ((.int .i64 (0))) ∧ Below W.heap.size W w'))
    (HPr : Hid (∀ W : World, Tab W → Calls Tryz.prog 6 #[.agg #[(.int .i64 (re)), (.int .i64 (le)), (.int .i64 (bl)), (.int .i64 (ma)), (.int .i64 (st)), (.int .i64 (lo))]] W fun r w' => r = .returned (.tuple #[.string t, (.int .i64 (0))]) ∧ Below W.heap.size W w'))
    (HP1 : Hid (∀ W : World, Tab W → Calls Tryz.prog 7 #[.string t] W fun r w' => r = .returned (.tuple #[.agg #[(.int .i64 (re)), (.int .i64 (le)), (.int .i64 (bl)), (.int .i64 (ma)), (.int .i64 (st)), (.int .i64 (lo))], (.int .i64 (0))]) ∧ Below W.heap.size W w'))
    (HP2 : Hid (∀ W : World, Tab W → Calls Tryz.prog 7 #[.string (t ++ ⟨#[10]⟩)] W fun r w' => r = .returned (.tuple #[.agg #[(.int .i64 (0)), (.int .i64 (0)), (.int .i64 (0)), (.int .i64 (0)), (.int .i64 (0)), (.int .i64 (0))], (.int .i64 (26))]) ∧ Below W.heap.size W w'))
    (HPs : Hid (∀ W : World, Tab W → Calls Tryz.prog 7 #[.string s] W fun r w' => r = .returned (.tuple #[.agg #[(.int .i64 (a)), (.int .i64 (b')), (.int .i64 (c)), (.int .i64 (d)), (.int .i64 (e)), (.int .i64 (f))], (.int .i64 (E))]) ∧ Below W.heap.size W w'))
     :
    Calls Tryz.prog 4 #[.agg #[(.int .i64 (re)), (.int .i64 (le)), (.int .i64 (bl)), (.int .i64 (ma)), (.int .i64 (st)), (.int .i64 (lo))], .string s] w (fun r w' => r = .returned (.bool true) ∧ Below w.heap.size w w') := by
  have hB0 := Below.refl w.heap.size w
  have hL := hT.lim
  have q2 : ¬ (100 : Int) < (s.size : Int) := by omega
  have q4 : ¬ 9223372036854775807 < t.size + 1 := by omega
  have q3 : (E == 0) = false := by simpa using hE
  go_enter Tryz.func4, Tryz.ntmps4
  go_wp2_with (go_at_call 5; refine (awake_any _ (hL.below (hB0.alloc hB0.size _))).mono ?_; rintro r w1 ⟨rfl, h1⟩; refine Hid.out ?_)
  unfold Hid
  have hB1 := (hB0.alloc hB0.size _).trans (h1.mono (Nat.le_trans hB0.size (by simp; try omega)))
  have KC_1 := Lib.hid (show Blk w1 (w.heap.size) #[(.int .i64 (re)), (.int .i64 (le)), (.int .i64 (bl)), (.int .i64 (ma)), (.int .i64 (st)), (.int .i64 (lo))] from (Calm.Blk.new _ _ #[(.int .i64 (re)), (.int .i64 (le)), (.int .i64 (bl)), (.int .i64 (ma)), (.int .i64 (st)), (.int .i64 (lo))]).below h1)
  clear h1 hB0
  obtain ⟨fC_0, fC_1, fC_2, fC_3, fC_4, fC_5, fC_l, fC_f⟩ := KC_1.out.o6
  have fC_l0_1 : w.heap.size < w1.heap.size + 1 := by omega
  have fC_l0_2 : w.heap.size < w1.heap.size + 1 + 1 := by omega
  go_wp2_with (go_at_call 8; refine (HCk.out _).mono ?_; rintro r w2 ⟨rfl, h2⟩; refine Hid.out ?_)
  unfold Hid
  have hB2 := hB1.trans (h2.mono hB1.size)
  have KC_2 := Lib.hid (KC_1.out.below h2)
  clear h2 hB1 KC_1 fC_0 fC_1 fC_2 fC_3 fC_4 fC_5 fC_l fC_f fC_l0_1 fC_l0_2
  obtain ⟨fC_0, fC_1, fC_2, fC_3, fC_4, fC_5, fC_l, fC_f⟩ := KC_2.out.o6
  have fC_l0_1 : w.heap.size < w2.heap.size + 1 := by omega
  have fC_l0_2 : w.heap.size < w2.heap.size + 1 + 1 := by omega
  go_wp2_with (go_at_call 6; refine (HPr.out _ (hT.below hB2)).mono ?_; rintro r w3 ⟨rfl, h3⟩; refine Hid.out ?_)
  unfold Hid
  have hB3 := hB2.trans (h3.mono hB2.size)
  have KC_3 := Lib.hid (KC_2.out.below h3)
  clear h3 hB2 KC_2 fC_0 fC_1 fC_2 fC_3 fC_4 fC_5 fC_l fC_f fC_l0_1 fC_l0_2
  go_wp2_with (go_at_call 7; refine (HP1.out _ (hT.below hB3)).mono ?_; rintro r w4 ⟨rfl, h4⟩; refine Hid.out ?_)
  unfold Hid
  have hB4 := hB3.trans (h4.mono hB3.size)
  have KC_4 := Lib.hid (KC_3.out.below h4)
  clear h4 hB3 KC_3
  go_wp2_with (go_at_call 7; refine (HP2.out _ (hT.below (hB4.alloc hB4.size _))).mono ?_; rintro r w5 ⟨rfl, h5⟩; refine Hid.out ?_)
  unfold Hid
  have hB5 := (hB4.alloc hB4.size _).trans (h5.mono (Nat.le_trans hB4.size (by simp; try omega)))
  have oC_5 : w.heap.size < w4.heap.size := KC_4.out.lt
  have KC_5 := Lib.hid ((KC_4.out.alloc _).below h5)
  have KX_5 := Lib.hid (show Blk w5 (w4.heap.size) #[(.int .i64 (re)), (.int .i64 (le)), (.int .i64 (bl)), (.int .i64 (ma)), (.int .i64 (st)), (.int .i64 (lo))] from (Calm.Blk.new _ _ #[(.int .i64 (re)), (.int .i64 (le)), (.int .i64 (bl)), (.int .i64 (ma)), (.int .i64 (st)), (.int .i64 (lo))]).below h5)
  clear h5 hB4 KC_4
  go_wp2_with (go_at_call 7; refine (HPs.out _ (hT.below (hB5.alloc hB5.size _))).mono ?_; rintro r w6 ⟨rfl, h6⟩; refine Hid.out ?_)
  unfold Hid
  have hB6 := (hB5.alloc hB5.size _).trans (h6.mono (Nat.le_trans hB5.size (by simp; try omega)))
  have oC_6 : w.heap.size < w5.heap.size := KC_5.out.lt
  have oX_6 : w4.heap.size < w5.heap.size := KX_5.out.lt
  have KC_6 := Lib.hid ((KC_5.out.alloc _).below h6)
  have KX_6 := Lib.hid ((KX_5.out.alloc _).below h6)
  clear h6 hB5 KC_5 KX_5
  obtain ⟨fC_0, fC_1, fC_2, fC_3, fC_4, fC_5, fC_l, fC_f⟩ := KC_6.out.o6
  have fC_l0_1 : w.heap.size < w6.heap.size + 1 := by omega
  have fC_l0_2 : w.heap.size < w6.heap.size + 1 + 1 := by omega
  obtain ⟨fX_0, fX_1, fX_2, fX_3, fX_4, fX_5, fX_l, fX_f⟩ := KX_6.out.o6
  have fX_l0_1 : w4.heap.size < w6.heap.size + 1 := by omega
  have fX_l0_2 : w4.heap.size < w6.heap.size + 1 + 1 := by omega
  have yC1 : w.heap.size < w6.heap.size + 1 := by omega
  have yC2 : ¬ w.heap.size = w6.heap.size := by omega
  have yC3 : ¬ w6.heap.size = w.heap.size := by omega
  have yX1 : w4.heap.size < w6.heap.size + 1 := by omega
  have yX2 : ¬ w4.heap.size = w6.heap.size := by omega
  have yX3 : ¬ w6.heap.size = w4.heap.size := by omega
  go_wp2
  go_ret
  exact ⟨by first | rfl | (simp; done), (hB6.alloc hB6.size _)⟩
set_option maxRecDepth 100000 in
set_option maxHeartbeats 8000000 in
theorem back_ok (re le bl ma st lo a b' c d e f E : Int) (s t : ByteArray) (w : World) (hT : Tab w) (hs : s.size ≤ 100) (ht : t.size ≤ 1000) 
    (HCk : Hid (∀ W : World, Calls Tryz.prog 8 #[.agg #[(.int .i64 (re)), (.int .i64 (le)), (.int .i64 (bl)), (.int .i64 (ma)), (.int .i64 (st)), (.int .i64 (lo))]] W fun r w' => r = .returned ((.int .i64 (0))) ∧ Below W.heap.size W w'))
    (HPr : Hid (∀ W : World, Tab W → Calls Tryz.prog 6 #[.agg #[(.int .i64 (re)), (.int .i64 (le)), (.int .i64 (bl)), (.int .i64 (ma)), (.int .i64 (st)), (.int .i64 (lo))]] W fun r w' => r = .returned (.tuple #[.string t, (.int .i64 (0))]) ∧ Below W.heap.size W w'))
    (HP1 : Hid (∀ W : World, Tab W → Calls Tryz.prog 7 #[.string t] W fun r w' => r = .returned (.tuple #[.agg #[(.int .i64 (re)), (.int .i64 (le)), (.int .i64 (bl)), (.int .i64 (ma)), (.int .i64 (st)), (.int .i64 (lo))], (.int .i64 (0))]) ∧ Below W.heap.size W w'))
    (HP2 : Hid (∀ W : World, Tab W → Calls Tryz.prog 7 #[.string (t ++ ⟨#[10]⟩)] W fun r w' => r = .returned (.tuple #[.agg #[(.int .i64 (0)), (.int .i64 (0)), (.int .i64 (0)), (.int .i64 (0)), (.int .i64 (0)), (.int .i64 (0))], (.int .i64 (26))]) ∧ Below W.heap.size W w'))
    (HPs : Hid (∀ W : World, Tab W → Calls Tryz.prog 7 #[.string s] W fun r w' => r = .returned (.tuple #[.agg #[(.int .i64 (a)), (.int .i64 (b')), (.int .i64 (c)), (.int .i64 (d)), (.int .i64 (e)), (.int .i64 (f))], (.int .i64 (0))]) ∧ Below W.heap.size W w'))
    (HPy : Hid (∀ W : World, Tab W → Calls Tryz.prog 6 #[.agg #[(.int .i64 (a)), (.int .i64 (b')), (.int .i64 (c)), (.int .i64 (d)), (.int .i64 (e)), (.int .i64 (f))]] W fun r w' => r = .returned (.tuple #[.string s, (.int .i64 (0))]) ∧ Below W.heap.size W w')) :
    Calls Tryz.prog 4 #[.agg #[(.int .i64 (re)), (.int .i64 (le)), (.int .i64 (bl)), (.int .i64 (ma)), (.int .i64 (st)), (.int .i64 (lo))], .string s] w (fun r w' => r = .returned (.bool true) ∧ Below w.heap.size w w') := by
  have hB0 := Below.refl w.heap.size w
  have hL := hT.lim
  have q2 : ¬ (100 : Int) < (s.size : Int) := by omega
  have q4 : ¬ 9223372036854775807 < t.size + 1 := by omega
  go_enter Tryz.func4, Tryz.ntmps4
  go_wp2_with (go_at_call 5; refine (awake_any _ (hL.below (hB0.alloc hB0.size _))).mono ?_; rintro r w1 ⟨rfl, h1⟩; refine Hid.out ?_)
  unfold Hid
  have hB1 := (hB0.alloc hB0.size _).trans (h1.mono (Nat.le_trans hB0.size (by simp; try omega)))
  have KC_1 := Lib.hid (show Blk w1 (w.heap.size) #[(.int .i64 (re)), (.int .i64 (le)), (.int .i64 (bl)), (.int .i64 (ma)), (.int .i64 (st)), (.int .i64 (lo))] from (Calm.Blk.new _ _ #[(.int .i64 (re)), (.int .i64 (le)), (.int .i64 (bl)), (.int .i64 (ma)), (.int .i64 (st)), (.int .i64 (lo))]).below h1)
  clear h1 hB0
  obtain ⟨fC_0, fC_1, fC_2, fC_3, fC_4, fC_5, fC_l, fC_f⟩ := KC_1.out.o6
  have fC_l0_1 : w.heap.size < w1.heap.size + 1 := by omega
  have fC_l0_2 : w.heap.size < w1.heap.size + 1 + 1 := by omega
  go_wp2_with (go_at_call 8; refine (HCk.out _).mono ?_; rintro r w2 ⟨rfl, h2⟩; refine Hid.out ?_)
  unfold Hid
  have hB2 := hB1.trans (h2.mono hB1.size)
  have KC_2 := Lib.hid (KC_1.out.below h2)
  clear h2 hB1 KC_1 fC_0 fC_1 fC_2 fC_3 fC_4 fC_5 fC_l fC_f fC_l0_1 fC_l0_2
  obtain ⟨fC_0, fC_1, fC_2, fC_3, fC_4, fC_5, fC_l, fC_f⟩ := KC_2.out.o6
  have fC_l0_1 : w.heap.size < w2.heap.size + 1 := by omega
  have fC_l0_2 : w.heap.size < w2.heap.size + 1 + 1 := by omega
  go_wp2_with (go_at_call 6; refine (HPr.out _ (hT.below hB2)).mono ?_; rintro r w3 ⟨rfl, h3⟩; refine Hid.out ?_)
  unfold Hid
  have hB3 := hB2.trans (h3.mono hB2.size)
  have KC_3 := Lib.hid (KC_2.out.below h3)
  clear h3 hB2 KC_2 fC_0 fC_1 fC_2 fC_3 fC_4 fC_5 fC_l fC_f fC_l0_1 fC_l0_2
  go_wp2_with (go_at_call 7; refine (HP1.out _ (hT.below hB3)).mono ?_; rintro r w4 ⟨rfl, h4⟩; refine Hid.out ?_)
  unfold Hid
  have hB4 := hB3.trans (h4.mono hB3.size)
  have KC_4 := Lib.hid (KC_3.out.below h4)
  clear h4 hB3 KC_3
  go_wp2_with (go_at_call 7; refine (HP2.out _ (hT.below (hB4.alloc hB4.size _))).mono ?_; rintro r w5 ⟨rfl, h5⟩; refine Hid.out ?_)
  unfold Hid
  have hB5 := (hB4.alloc hB4.size _).trans (h5.mono (Nat.le_trans hB4.size (by simp; try omega)))
  have oC_5 : w.heap.size < w4.heap.size := KC_4.out.lt
  have KC_5 := Lib.hid ((KC_4.out.alloc _).below h5)
  have KX_5 := Lib.hid (show Blk w5 (w4.heap.size) #[(.int .i64 (re)), (.int .i64 (le)), (.int .i64 (bl)), (.int .i64 (ma)), (.int .i64 (st)), (.int .i64 (lo))] from (Calm.Blk.new _ _ #[(.int .i64 (re)), (.int .i64 (le)), (.int .i64 (bl)), (.int .i64 (ma)), (.int .i64 (st)), (.int .i64 (lo))]).below h5)
  clear h5 hB4 KC_4
  go_wp2_with (go_at_call 7; refine (HPs.out _ (hT.below (hB5.alloc hB5.size _))).mono ?_; rintro r w6 ⟨rfl, h6⟩; refine Hid.out ?_)
  unfold Hid
  have hB6 := (hB5.alloc hB5.size _).trans (h6.mono (Nat.le_trans hB5.size (by simp; try omega)))
  have oC_6 : w.heap.size < w5.heap.size := KC_5.out.lt
  have oX_6 : w4.heap.size < w5.heap.size := KX_5.out.lt
  have KC_6 := Lib.hid ((KC_5.out.alloc _).below h6)
  have KX_6 := Lib.hid ((KX_5.out.alloc _).below h6)
  clear h6 hB5 KC_5 KX_5
  go_wp2_with (go_at_call 6; refine (HPy.out _ (hT.below (hB6.alloc hB6.size _))).mono ?_; rintro r w7 ⟨rfl, h7⟩; refine Hid.out ?_)
  unfold Hid
  have hB7 := (hB6.alloc hB6.size _).trans (h7.mono (Nat.le_trans hB6.size (by simp; try omega)))
  have oC_7 : w.heap.size < w6.heap.size := KC_6.out.lt
  have oX_7 : w4.heap.size < w6.heap.size := KX_6.out.lt
  have KC_7 := Lib.hid ((KC_6.out.alloc _).below h7)
  have KX_7 := Lib.hid ((KX_6.out.alloc _).below h7)
  have KY_7 := Lib.hid (show Blk w7 (w6.heap.size) #[(.int .i64 (a)), (.int .i64 (b')), (.int .i64 (c)), (.int .i64 (d)), (.int .i64 (e)), (.int .i64 (f))] from (Calm.Blk.new _ _ #[(.int .i64 (a)), (.int .i64 (b')), (.int .i64 (c)), (.int .i64 (d)), (.int .i64 (e)), (.int .i64 (f))]).below h7)
  clear h7 hB6 KC_6 KX_6
  obtain ⟨fC_0, fC_1, fC_2, fC_3, fC_4, fC_5, fC_l, fC_f⟩ := KC_7.out.o6
  have fC_l0_1 : w.heap.size < w7.heap.size + 1 := by omega
  have fC_l0_2 : w.heap.size < w7.heap.size + 1 + 1 := by omega
  obtain ⟨fX_0, fX_1, fX_2, fX_3, fX_4, fX_5, fX_l, fX_f⟩ := KX_7.out.o6
  have fX_l0_1 : w4.heap.size < w7.heap.size + 1 := by omega
  have fX_l0_2 : w4.heap.size < w7.heap.size + 1 + 1 := by omega
  go_wp2
  go_ret
  exact ⟨by first | rfl | (simp; done), hB7⟩
end Go.Proofs.YtadcmjnebjgijaaGreatDoor

/- A value of integers alone (structs and arrays of integers, nested): its cells are its integers, one behind another. And the row's last step under 'Below'. Of no program. -/
namespace Go.Flat
open Go.ChangeShapes Go.WideShapes Go.RowKit

def sideB : List (Nat × Nat) → Nat → Nat → Bool
  | [], off, tot => off == tot
  | (o, c) :: l, off, tot => o == off && sideB l (off + c) tot
/-- the type is made of integers alone, lying side by side. -/
def intsB (P : Program) : Nat → TypeId → Bool
  | 0, _ => false
  | n + 1, t => match P.underlying t with
    | some (.int .i64) => true
    | some (.struct fs) => sideB (fs.toList.map fun f => (f.offset, P.cellsOf f.type)) 0 (P.cellsOf t) && fs.toList.all fun f => intsB P n f.type
    | some (.array k e) => sideB ((List.range k).map fun i => (i * P.cellsOf e, P.cellsOf e)) 0 (P.cellsOf t) && intsB P n e
    | _ => false
/-- the integers of a datum. -/
def flat {H : Type} : Nat → DataW H → List Int
  | 0, _ => []
  | n + 1, .agg ds => ds.flatMap (flat n)
  | _ + 1, .lit (.int _ z) => [z]
  | _ + 1, _ => []

theorem side_cells {cs : List Value} : ∀ (l : List (Nat × Nat)) (zs : List (List Int)) (off : Nat), sideB l off cs.length = true → zs.length = l.length →
    (∀ (i o c : Nat), l[i]? = some (o, c) → ∃ z, zs[i]? = some z ∧ (cs.drop o).take c = z.map (Value.int .i64)) → cs.drop off = zs.flatten.map (Value.int .i64)
  | [], zs, off, hs, hl, _ => by
    obtain rfl : zs = [] := by simpa using hl
    have : off = cs.length := by simpa [sideB] using hs
    subst this
    simp
  | (o, c) :: l, zs, off, hs, hl, hf => by
    obtain ⟨z, zs', rfl⟩ : ∃ z zs', zs = z :: zs' := by
      cases zs with
      | nil => simp at hl
      | cons z zs' => exact ⟨z, zs', rfl⟩
    simp only [sideB, Bool.and_eq_true, beq_iff_eq] at hs
    obtain ⟨rfl, hs⟩ := hs
    obtain ⟨z', hz', h0⟩ := hf 0 o c rfl
    obtain rfl : z = z' := by simpa using hz'
    have ih := side_cells l zs' (o + c) hs (by simpa using hl) (fun i o' c' h => by simpa using hf (i + 1) o' c' (by simpa using h))
    calc cs.drop o = (cs.drop o).take c ++ (cs.drop o).drop c := (List.take_append_drop _ _).symm
      _ = _ := by rw [h0, List.drop_drop, ih]; simp

theorem cells_of_ints {H : Type} {enc : TypeId × Value → H} {P : Program} {w : World} {base : Nat} {sp : Nat → Bool} {held : Bool} :
    ∀ (m : Nat) {fuel : Nat} {t : TypeId} {cs : List Value} {x : DataW H × List MemPlace}, intsB P m t = true → DataW.trod enc P w base sp held fuel t cs = some x → cs = (flat m x.1).map (Value.int .i64) ∧ x.2 = []
  | 0, _, _, _, _, h, _ => by simp [intsB] at h
  | m + 1, fuel, t, cs, x, h, hx => by
    unfold intsB at h
    split at h
    · rename_i ht
      obtain ⟨z, rfl, rfl, _⟩ := DataW.trod_int ht hx
      exact ⟨rfl, rfl⟩
    · rename_i fs ht
      obtain ⟨xs, n, _, rfl, hl, hxl, hf⟩ := DataW.trod_struct ht hx
      simp only [Bool.and_eq_true, List.all_eq_true] at h
      obtain ⟨hs, hi⟩ := h
      have key : ∀ (i : Nat) (f : Field) (y : DataW H × List MemPlace), fs.toList[i]? = some f → xs[i]? = some y → (cs.drop f.offset).take (P.cellsOf f.type) = (flat m y.1).map (Value.int .i64) ∧ y.2 = [] := fun i f y hfi hy =>
        cells_of_ints m (hi f (List.mem_of_getElem? hfi)) ((hf i f (by simpa using hfi)).trans hy)
      have hlen : xs.length = fs.toList.length := by simpa using hxl
      refine ⟨?_, ?_⟩
      · have := side_cells (cs := cs) (fs.toList.map fun f => (f.offset, P.cellsOf f.type)) (xs.map fun y => flat m y.1) 0 (by rw [hl]; exact hs) (by simpa using hxl) (fun i o c hi' => by
          simp only [List.getElem?_map, Option.map_eq_some_iff] at hi'
          obtain ⟨f, hf1, hf2⟩ := hi'
          have hlt : i < xs.length := hlen ▸ (List.getElem?_eq_some_iff.1 hf1).1
          have hy : xs[i]? = some xs[i] := List.getElem?_eq_getElem hlt
          simp only [Prod.mk.injEq] at hf2
          obtain ⟨rfl, rfl⟩ := hf2
          exact ⟨_, by simp [hy], (key i f _ hf1 hy).1⟩)
        rw [List.drop_zero] at this
        refine this.trans ?_
        simp [flat, List.flatMap, List.map_map, Function.comp_def]
      · simp only [List.flatMap_eq_nil_iff]
        intro y hy
        obtain ⟨i, hi'⟩ := List.getElem?_of_mem hy
        have hlt : i < fs.toList.length := hlen ▸ (List.getElem?_eq_some_iff.1 hi').1
        exact (key i _ y (List.getElem?_eq_getElem hlt) hi').2
    · rename_i k e ht
      simp only [Bool.and_eq_true] at h
      obtain ⟨hs, hi⟩ := h
      cases fuel with
      | zero => simp [DataW.trod] at hx
      | succ fuel =>
        simp only [DataW.trod, ht] at hx
        split at hx
        · rename_i hl
          obtain ⟨xs, hm, rfl⟩ := Option.map_eq_some_iff.1 hx
          have hxl : xs.length = k := by simpa using Lib.mapM_length hm
          have key : ∀ (i : Nat) (y : DataW H × List MemPlace), xs[i]? = some y → (cs.drop (i * P.cellsOf e)).take (P.cellsOf e) = (flat m y.1).map (Value.int .i64) ∧ y.2 = [] := fun i y hy => by
            have hlt : i < k := hxl ▸ (List.getElem?_eq_some_iff.1 hy).1
            obtain ⟨b, hb, hf⟩ := Lib.mapM_at hm i i (by simp [hlt])
            obtain rfl := Option.some.inj (hy.symm.trans hb)
            exact cells_of_ints m hi hf
          refine ⟨?_, ?_⟩
          · have := side_cells (cs := cs) ((List.range k).map fun i => (i * P.cellsOf e, P.cellsOf e)) (xs.map fun y => flat m y.1) 0 (by rw [hl]; exact hs) (by simpa using hxl) (fun i o c hi' => by
              simp only [List.getElem?_map, Option.map_eq_some_iff] at hi'
              obtain ⟨j, hj1, hj2⟩ := hi'
              have hlt : i < k := by simpa using (List.getElem?_eq_some_iff.1 hj1).1
              obtain rfl : i = j := by simpa [hlt] using hj1
              have hy : xs[i]? = some (xs[i]'(by omega)) := List.getElem?_eq_getElem (by omega)
              simp only [Prod.mk.injEq] at hj2
              obtain ⟨rfl, rfl⟩ := hj2
              exact ⟨_, by simp [hy], (key i _ hy).1⟩)
            rw [List.drop_zero] at this
            refine this.trans ?_
            simp [flat, List.flatMap, List.map_map, Function.comp_def]
          · simp only [List.flatMap_eq_nil_iff]
            intro y hy
            obtain ⟨i, hi'⟩ := List.getElem?_of_mem hy
            exact (key i y hi').2
        · cases hx
    · cases h

/-- an argument that is a struct of integers alone. -/
theorem open_ints {H : Type} {enc : TypeId × Value → H} {P : Program} {w : World} {base : Nat} {sp : Nat → Bool} {held : Bool} (m : Nat) {r : Reach} {b0 : Nat} {t : TypeId} {fs : Array Field} {v : Value} {d : DataW H} {p : List MemPlace}
    (ht : P.underlying t = some (.struct fs)) (h : intsB P m t = true) (hv : Value.okWide P w r b0 t v) (hd : DataW.Trod enc P w base sp held t v d p) :
    ∃ zs : List Int, zs.length = P.cellsOf t ∧ v = .agg (zs.map (Value.int .i64)).toArray ∧ p = [] := by
  obtain ⟨cs, rfl, hsz⟩ := okWide_struct ht hv
  obtain ⟨fuel, hf⟩ := hd
  obtain ⟨h1, h2⟩ := cells_of_ints m h hf
  have hcs : cs.toList = (flat m d).map (Value.int .i64) := h1
  refine ⟨flat m d, ?_, ?_, h2⟩
  · have := congrArg List.length hcs
    simp at this
    omega
  · rw [← hcs]

section
variable {H : Type} {enc : TypeId × Value → H} {P : Program}
theorem post_of_below {f : Func} {s : ChangeSpec} {apart fresh handsOn again : Bool} {W W' : World} {args : Array Value} {v : Value} {ds gs : List (DataW H)} {before pa pv : List MemPlace}
    (hW : DataW.Whole enc P f.params.toList s.vars apart W args.toList ds gs before)
    (hres : ∀ (b : Nat) (sp : Nat → Bool) (hd : Bool), DataW.TrodAll enc P W' b sp hd f.resultTypes.toList (v.resultList f.resultTypes.size) (s.fn H (ds ++ gs)).results [])
    (hargs : ∀ sp : Nat → Bool, (∀ p ∈ before, sp p.block = true) → DataW.TrodAll enc P W' 0 sp true f.params.toList args.toList (s.fn H (ds ++ gs)).args pa)
    (hvars : ∀ sp : Nat → Bool, (∀ p ∈ before, sp p.block = true) → DataW.TrodVars enc P W' sp s.vars (s.fn H (ds ++ gs)).vars pv)
    (hps : before = pa ++ pv) (hb : Below W.heap.size W W')
    (hok : ∀ (j : Nat) (t : TypeId) (r : Value), f.resultTypes[j]? = some t → (v.resultList f.resultTypes.size)[j]? = some r → Value.okWide P W' .any 0 t r) :
    s.post enc P f apart fresh handsOn again W args v W' := by
  have hlt : ∀ p ∈ before, p.block < W.heap.size := fun p hp => hW.lt p hp
  have hold : ∀ p ∈ before, (fun b => decide (b < W.heap.size)) p.block = true := fun p hp => by simpa using hlt p hp
  refine ⟨ds, gs, before, [], pa, pv, hW, hres _ _ _, hargs _ hold, hvars _ hold, World.keptBut_mono (fun p hp => ⟨hp, ?_⟩) (hb.frame (· ∈ before)), fun _ => ?_⟩
  · rw [hps, List.mem_append] at hp
    exact Or.inr hp
  · obtain ⟨_, _, _, _, _, hz, hn⟩ := hW
    refine ⟨hok, _, _, ([] ++ pa) ++ pv, ⟨[] ++ pa, pv, trodAll_append (hargs _ (fun _ _ => rfl)) (hres _ _ _), hvars _ (fun _ _ => rfl), rfl, ?_, ?_⟩, ?_⟩
    · intro b off hp
      have hin : MemPlace.cell b off ∈ before := by rw [hps]; simpa using hp
      rw [hb.frozen (hlt _ hin)]
      exact hz b off hin
    · intro ha
      have := hn ha
      rw [hps] at this
      simpa using this
    · intro p hp _
      rw [hps]
      simpa using hp
end

/-- every argument reads behind the call as before it, if below the heap's old size nothing has turned. -/
theorem trodAll_below {H : Type} {enc : TypeId × Value → H} {P : Program} (hl : laidOutB P = true) {W W' : World} (hb : Below W.heap.size W W') {sp : Nat → Bool} :
    ∀ {ts : List TypeId} {vs : List Value} {ds : List (DataW H)} {ps : List MemPlace}, (∀ t ∈ ts, P.readableRec t = true ∧ t < P.types.size) → DataW.TrodAll enc P W 0 (fun _ => true) true ts vs ds ps → (∀ p ∈ ps, p.block < W.heap.size) → (∀ p ∈ ps, sp p.block = true) →
    DataW.TrodAll enc P W' 0 sp true ts vs ds ps
  | [], [], [], _, _, h, _, _ => h
  | t :: ts, v :: vs, d :: ds, _, ht, ⟨p, q, h, hr, rfl⟩, hlt, hs => by
    have h1 := ht t (by simp)
    exact ⟨p, q, WideElems.Trod_stays hl h1.1 h1.2 h (fun x hx => hb.same (hlt x (by simp [hx]))) (fun x hx => hs x (by simp [hx])), trodAll_below hl hb (fun t' h' => ht t' (by simp [h'])) hr (fun x hx => hlt x (by simp [hx])) (fun x hx => hs x (by simp [hx])), rfl⟩
end Go.Flat

/- What the rows' list gives: the table of the limits. A world for the witnesses. -/
namespace Go.Proofs.YtadcmjnebjgijaaGreatDoor
open Go.ChangeShapes Go.WideShapes Go.ChangeAt Go.RowKit
open Calm (bcell)

/-- the rows' list. -/
noncomputable def laidList : List (String × DataW Unit) := [("math/bits.deBruijn32tab", Rows.laid_math_bits_deBruijn32tab), ("math/bits.deBruijn64tab", Rows.laid_math_bits_deBruijn64tab), ("internal/strconv.uint64pow10", Rows.laid_internal_strconv_uint64pow10), ("woofer/driver.limits", Rows.laid_woofer_driver_limits)]
theorem own : ownKnob Tryz.prog.godebug = none := by kernel_rfl
theorem laidOut : laidOutB Tryz.prog = true := by kernel_rfl
theorem gLim : Tryz.prog.globalNamed "woofer/driver.limits" = some 0 := by kernel_rfl
theorem gLimInts : (Tryz.prog.globals[0]?).map (fun g => Flat.intsB Tryz.prog 3 g.type) = some true := by kernel_rfl

set_option maxRecDepth 100000 in
theorem lim_of_laid {W : World} (h : laidMetH Tryz.prog laidList W) : Lim W := by
  obtain ⟨ps, hl, _, _⟩ : laidMet Tryz.prog laidList W := h
  obtain ⟨_, _, _, _, _, _, _, _, _, _, hl, _⟩ := hl
  obtain ⟨_, _, _, _, _, _, _, _, _, _, hl, _⟩ := hl
  obtain ⟨_, _, _, _, _, _, _, _, _, _, hl, _⟩ := hl
  obtain ⟨g, t, cs, fuel, p, q, hg, ht, hv, hd, _, _⟩ := hl
  obtain rfl := Option.some.inj (gLim.symm.trans hg)
  have hi : Flat.intsB Tryz.prog 3 t = true := by
    have := gLimInts
    cases hgl : Tryz.prog.globals[0]? with
    | none => rw [hgl] at this; cases this
    | some gl =>
      rw [hgl] at this ht
      simp only [Option.map_some, Option.some.injEq] at this ht
      rwa [← ht]
  have hcs : cs.toList = [1, 50, 0, 10, 1, 20, 1, 100, 1, 5000, 1, 100].map (Value.int .i64) := (Flat.cells_of_ints 3 hi hd).1
  have hc : ∀ (i : Nat) (v : Value), cs[i]? = some v → W.cell? ⟨0, i, none⟩ = some v := fun i v hi => (World.var?_cell gLim hv i).trans hi
  have ha : cs = #[(.int .i64 (1)), (.int .i64 (50)), (.int .i64 (0)), (.int .i64 (10)), (.int .i64 (1)), (.int .i64 (20)), (.int .i64 (1)), (.int .i64 (100)), (.int .i64 (1)), (.int .i64 (5000)), (.int .i64 (1)), (.int .i64 (100))] := by
    apply Array.toList_inj.1
    exact hcs
  clear hcs hv
  subst ha
  have h0 := hc 0 _ rfl
  refine ⟨?_, h0, hc 1 _ rfl, hc 2 _ rfl, hc 3 _ rfl, hc 4 _ rfl, hc 5 _ rfl, hc 6 _ rfl, hc 7 _ rfl, hc 8 _ rfl, hc 9 _ rfl, hc 10 _ rfl, hc 11 _ rfl⟩
  rcases Nat.lt_or_ge 0 W.heap.size with h' | h'
  · exact h'
  · unfold World.cell? at h0
    rw [show W.heap[(⟨0, 0, none⟩ : Addr).block]? = none from Array.getElem?_eq_none h'] at h0
    cases h0

theorem laid_met (os : Os) (args : Array Value) : laidMetH Tryz.prog laidList ((World.doorLaid Tryz.prog 150 os).forCall (fun _ _ => 0) ⟨#[], args, []⟩).memory :=
  laidMet_of_run' 8 (by kernel_rfl) (by kernel_rfl)
theorem door_vars (os : Os) (args : Array Value) : ((World.doorLaid Tryz.prog 150 os).forCall (fun _ _ => 0) ⟨#[], args, []⟩).variablesB Tryz.prog = true := by kernel_rfl
theorem door_rest (os : Os) (args : Array Value) : (((World.doorLaid Tryz.prog 150 os).forCall (fun _ _ => 0) ⟨#[], args, []⟩).heap.toList.drop Tryz.prog.globals.size).take ((begin Tryz.prog (fun _ _ => 0) default).world.heap.size - Tryz.prog.globals.size) =
      (begin Tryz.prog (fun _ _ => 0) default).world.heap.toList.drop Tryz.prog.globals.size := by kernel_rfl
end Go.Proofs.YtadcmjnebjgijaaGreatDoor
