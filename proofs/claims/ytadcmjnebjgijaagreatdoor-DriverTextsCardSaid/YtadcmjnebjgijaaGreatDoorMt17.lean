/- Part 17 of the texts of the claim: T12, Flat, Laid, T13, TxRow. -/
import Derived.Test.YtadcmjnebjgijaaGreatDoorMt13
import Derived.Test.YtadcmjnebjgijaaGreatDoorMt16
import Derived.WalkKit
import Derived.ProofKit
import Derived.OpenShut
import Derived.Lib.LaidTab
import Derived.Below
import Derived.Carry
import Derived.ChangeSame
import Derived.Test.YtadcmjnebjgijaaGreatDoorCards
import Derived.Test.YtadcmjnebjgijaaGreatDoorTie
import Derived.Test.YtadcmjnebjgijaaGreatDoorMt3
import Derived.Deep.DeepHandedRow
import Derived.LaidMore
import Derived.Shelf.Vars

/- DriverTexts answers yes where its guard does not turn it away. -/
namespace Go.Proofs.YtadcmjnebjgijaaGreatDoor
open Go.RowKit
open Calm (bcell Blk)
theorem print_no (re le bl ma st lo : Int) (w : World) (hL : Lim w) (h : drvErr re le bl ma st lo ≠ 0) :
    Calls Tryz.prog 6 #[.agg #[(.int .i64 (re)), (.int .i64 (le)), (.int .i64 (bl)), (.int .i64 (ma)), (.int .i64 (st)), (.int .i64 (lo))]] w fun r w' => r = .returned (.tuple #[.string ⟨#[]⟩, (.int .i64 (drvErr re le bl ma st lo))]) ∧ Below w.heap.size w w' := by
  obtain ⟨D, hD⟩ : ∃ D, D = drvErr re le bl ma st lo := ⟨_, rfl⟩
  rw [← hD] at h ⊢
  have HD := Lib.hid hD
  have he0 : (D == 0) = false := by simpa using h
  clear hD
  have hB0 := Below.refl w.heap.size w
  go_enter Tryz.func6, Tryz.ntmps6
  go_wp2_with (go_at_call 31; refine (checkDriver_any re le bl ma st lo _ (hL.below (hB0.alloc hB0.size _))).mono ?_; rw [← HD.out]; rintro r w1 ⟨rfl, h1⟩; refine Hid.out ?_)
  unfold Hid
  have hB1 := (hB0.alloc hB0.size _).trans (h1.mono (by simp))
  go_wp2
  go_ret2
  exact ⟨rfl, hB1⟩

set_option maxRecDepth 100000 in
set_option maxHeartbeats 8000000 in
theorem texts_00 (re le bl ma st lo a b' c d e f E D : Int) (s t : ByteArray) (w : World) (hT : Tab w) (hs : s.size ≤ 100)  (HPr : Hid (∀ W : World, Tab W → Calls Tryz.prog 6 #[.agg #[(.int .i64 (re)), (.int .i64 (le)), (.int .i64 (bl)), (.int .i64 (ma)), (.int .i64 (st)), (.int .i64 (lo))]] W fun r w' => r = .returned (.tuple #[.string t, (.int .i64 (0))]) ∧ Below W.heap.size W w')) (HRp : Hid (∀ W : World, Calls Tryz.prog 9 #[.agg #[(.int .i64 (re)), (.int .i64 (le)), (.int .i64 (bl)), (.int .i64 (ma)), (.int .i64 (st)), (.int .i64 (lo))]] W fun r w' => r = .returned (.string t) ∧ Below W.heap.size W w'))
    (HCk : Hid (∀ W : World, Calls Tryz.prog 8 #[.agg #[(.int .i64 (re)), (.int .i64 (le)), (.int .i64 (bl)), (.int .i64 (ma)), (.int .i64 (st)), (.int .i64 (lo))]] W fun r w' => r = .returned ((.int .i64 (0))) ∧ Below W.heap.size W w'))
    (HPa : Hid (∀ W : World, Tab W → Calls Tryz.prog 7 #[.string s] W fun r w' => r = .returned (.tuple #[.agg #[(.int .i64 (a)), (.int .i64 (b')), (.int .i64 (c)), (.int .i64 (d)), (.int .i64 (e)), (.int .i64 (f))], (.int .i64 (E))]) ∧ Below W.heap.size W w'))
    (HPb : Hid (∀ W : World, Calls Tryz.prog 10 #[.string s] W fun r w' => r = .returned (.tuple #[.agg #[(.int .i64 (a)), (.int .i64 (b')), (.int .i64 (c)), (.int .i64 (d)), (.int .i64 (e)), (.int .i64 (f))], (.int .i64 (E))]) ∧ Below W.heap.size W w')) :
    Calls Tryz.prog 3 #[.agg #[(.int .i64 (re)), (.int .i64 (le)), (.int .i64 (bl)), (.int .i64 (ma)), (.int .i64 (st)), (.int .i64 (lo))], .string s] w fun r w' => r = .returned (.bool true) ∧ Below w.heap.size w w' := by
  have hB0 := Below.refl w.heap.size w
  have hL := hT.lim
  have q2 : ¬ (100 : Int) < (s.size : Int) := by omega
  go_enter Tryz.func3, Tryz.ntmps3
  go_wp2_with (go_at_call 5; refine (awake_any _ (hL.below (hB0.alloc hB0.size _))).mono ?_; rintro r w1 ⟨rfl, h1⟩; refine Hid.out ?_)
  unfold Hid
  have hB1 := (hB0.alloc hB0.size _).trans (h1.mono (Nat.le_trans hB0.size (by simp; try omega)))
  have KC_1 := Lib.hid (show Blk w1 (w.heap.size) #[(.int .i64 (re)), (.int .i64 (le)), (.int .i64 (bl)), (.int .i64 (ma)), (.int .i64 (st)), (.int .i64 (lo))] from (Calm.Blk.new _ _ #[(.int .i64 (re)), (.int .i64 (le)), (.int .i64 (bl)), (.int .i64 (ma)), (.int .i64 (st)), (.int .i64 (lo))]).below h1)
  clear h1 hB0
  obtain ⟨fC_0, fC_1, fC_2, fC_3, fC_4, fC_5, fC_l, fC_f⟩ := KC_1.out.o6
  have fC_l0_1 : w.heap.size < w1.heap.size + 1 := by omega
  have fC_l0_2 : w.heap.size < w1.heap.size + 1 + 1 := by omega
  go_wp2_with (go_at_call 6; refine (HPr.out _ (hT.below hB1)).mono ?_; rintro r w2 ⟨rfl, h2⟩; refine Hid.out ?_)
  unfold Hid
  have hB2 := hB1.trans (h2.mono hB1.size)
  have KC_2 := Lib.hid (KC_1.out.below h2)
  clear h2 hB1 KC_1 fC_0 fC_1 fC_2 fC_3 fC_4 fC_5 fC_l fC_f fC_l0_1 fC_l0_2
  go_wp2_with (go_at_call 7; refine (HPa.out _ (hT.below hB2)).mono ?_; rintro r w3 ⟨rfl, h3⟩; refine Hid.out ?_)
  unfold Hid
  have hB3 := hB2.trans (h3.mono hB2.size)
  have KC_3 := Lib.hid (KC_2.out.below h3)
  clear h3 hB2 KC_2
  obtain ⟨fC_0, fC_1, fC_2, fC_3, fC_4, fC_5, fC_l, fC_f⟩ := KC_3.out.o6
  have fC_l0_1 : w.heap.size < w3.heap.size + 1 := by omega
  have fC_l0_2 : w.heap.size < w3.heap.size + 1 + 1 := by omega
  go_wp2_with (go_at_call 8; refine (HCk.out _).mono ?_; rintro r w4 ⟨rfl, h4⟩; refine Hid.out ?_)
  unfold Hid
  have hB4 := (hB3.alloc hB3.size _).trans (h4.mono (Nat.le_trans hB3.size (by simp; try omega)))
  have oC_4 : w.heap.size < w3.heap.size := KC_3.out.lt
  have KC_4 := Lib.hid ((KC_3.out.alloc _).below h4)
  have KX_4 := Lib.hid (show Blk w4 (w3.heap.size) #[(.int .i64 (a)), (.int .i64 (b')), (.int .i64 (c)), (.int .i64 (d)), (.int .i64 (e)), (.int .i64 (f))] from (Calm.Blk.new _ _ #[(.int .i64 (a)), (.int .i64 (b')), (.int .i64 (c)), (.int .i64 (d)), (.int .i64 (e)), (.int .i64 (f))]).below h4)
  clear h4 hB3 KC_3 fC_0 fC_1 fC_2 fC_3 fC_4 fC_5 fC_l fC_f fC_l0_1 fC_l0_2
  obtain ⟨fC_0, fC_1, fC_2, fC_3, fC_4, fC_5, fC_l, fC_f⟩ := KC_4.out.o6
  have fC_l0_1 : w.heap.size < w4.heap.size + 1 := by omega
  have fC_l0_2 : w.heap.size < w4.heap.size + 1 + 1 := by omega
  go_wp2_with (go_at_call 9; refine (HRp.out _).mono ?_; rintro r w5 ⟨rfl, h5⟩; refine Hid.out ?_)
  unfold Hid
  have hB5 := hB4.trans (h5.mono hB4.size)
  have KC_5 := Lib.hid (KC_4.out.below h5)
  have KX_5 := Lib.hid (KX_4.out.below h5)
  clear h5 hB4 KC_4 KX_4 fC_0 fC_1 fC_2 fC_3 fC_4 fC_5 fC_l fC_f fC_l0_1 fC_l0_2
  go_wp2_with (go_at_call 10; refine (HPb.out _).mono ?_; rintro r w6 ⟨rfl, h6⟩; refine Hid.out ?_)
  unfold Hid
  have hB6 := hB5.trans (h6.mono hB5.size)
  have KC_6 := Lib.hid (KC_5.out.below h6)
  have KX_6 := Lib.hid (KX_5.out.below h6)
  clear h6 hB5 KC_5 KX_5
  obtain ⟨fX_0, fX_1, fX_2, fX_3, fX_4, fX_5, fX_l, fX_f⟩ := KX_6.out.o6
  have fX_l0_1 : w3.heap.size < w6.heap.size + 1 := by omega
  have fX_l0_2 : w3.heap.size < w6.heap.size + 1 + 1 := by omega
  have fx1 : w3.heap.size < w6.heap.size + 1 := by omega
  have fx2 : ¬ w3.heap.size = w6.heap.size := by omega
  have fx3 : ¬ w6.heap.size = w3.heap.size := by omega
  go_wp2
  go_ret
  exact ⟨by first | rfl | (simp; done), (hB6.alloc hB6.size _)⟩
set_option maxRecDepth 100000 in
set_option maxHeartbeats 8000000 in
theorem texts_01 (re le bl ma st lo a b' c d e f E D : Int) (s t : ByteArray) (w : World) (hT : Tab w) (hs : s.size ≤ 100) (h0 : ¬ D = 0) (HPr : Hid (∀ W : World, Tab W → Calls Tryz.prog 6 #[.agg #[(.int .i64 (re)), (.int .i64 (le)), (.int .i64 (bl)), (.int .i64 (ma)), (.int .i64 (st)), (.int .i64 (lo))]] W fun r w' => r = .returned (.tuple #[.string ⟨#[]⟩, (.int .i64 (D))]) ∧ Below W.heap.size W w')) 
    (HCk : Hid (∀ W : World, Calls Tryz.prog 8 #[.agg #[(.int .i64 (re)), (.int .i64 (le)), (.int .i64 (bl)), (.int .i64 (ma)), (.int .i64 (st)), (.int .i64 (lo))]] W fun r w' => r = .returned ((.int .i64 (D))) ∧ Below W.heap.size W w'))
    (HPa : Hid (∀ W : World, Tab W → Calls Tryz.prog 7 #[.string s] W fun r w' => r = .returned (.tuple #[.agg #[(.int .i64 (a)), (.int .i64 (b')), (.int .i64 (c)), (.int .i64 (d)), (.int .i64 (e)), (.int .i64 (f))], (.int .i64 (E))]) ∧ Below W.heap.size W w'))
    (HPb : Hid (∀ W : World, Calls Tryz.prog 10 #[.string s] W fun r w' => r = .returned (.tuple #[.agg #[(.int .i64 (a)), (.int .i64 (b')), (.int .i64 (c)), (.int .i64 (d)), (.int .i64 (e)), (.int .i64 (f))], (.int .i64 (E))]) ∧ Below W.heap.size W w')) :
    Calls Tryz.prog 3 #[.agg #[(.int .i64 (re)), (.int .i64 (le)), (.int .i64 (bl)), (.int .i64 (ma)), (.int .i64 (st)), (.int .i64 (lo))], .string s] w fun r w' => r = .returned (.bool true) ∧ Below w.heap.size w w' := by
  have hB0 := Below.refl w.heap.size w
  have hL := hT.lim
  have q2 : ¬ (100 : Int) < (s.size : Int) := by omega
  have q3 : (D == 0) = false := by simpa using h0
  go_enter Tryz.func3, Tryz.ntmps3
  go_wp2_with (go_at_call 5; refine (awake_any _ (hL.below (hB0.alloc hB0.size _))).mono ?_; rintro r w1 ⟨rfl, h1⟩; refine Hid.out ?_)
  unfold Hid
  have hB1 := (hB0.alloc hB0.size _).trans (h1.mono (Nat.le_trans hB0.size (by simp; try omega)))
  have KC_1 := Lib.hid (show Blk w1 (w.heap.size) #[(.int .i64 (re)), (.int .i64 (le)), (.int .i64 (bl)), (.int .i64 (ma)), (.int .i64 (st)), (.int .i64 (lo))] from (Calm.Blk.new _ _ #[(.int .i64 (re)), (.int .i64 (le)), (.int .i64 (bl)), (.int .i64 (ma)), (.int .i64 (st)), (.int .i64 (lo))]).below h1)
  clear h1 hB0
  obtain ⟨fC_0, fC_1, fC_2, fC_3, fC_4, fC_5, fC_l, fC_f⟩ := KC_1.out.o6
  have fC_l0_1 : w.heap.size < w1.heap.size + 1 := by omega
  have fC_l0_2 : w.heap.size < w1.heap.size + 1 + 1 := by omega
  go_wp2_with (go_at_call 6; refine (HPr.out _ (hT.below hB1)).mono ?_; rintro r w2 ⟨rfl, h2⟩; refine Hid.out ?_)
  unfold Hid
  have hB2 := hB1.trans (h2.mono hB1.size)
  have KC_2 := Lib.hid (KC_1.out.below h2)
  clear h2 hB1 KC_1 fC_0 fC_1 fC_2 fC_3 fC_4 fC_5 fC_l fC_f fC_l0_1 fC_l0_2
  go_wp2_with (go_at_call 7; refine (HPa.out _ (hT.below hB2)).mono ?_; rintro r w3 ⟨rfl, h3⟩; refine Hid.out ?_)
  unfold Hid
  have hB3 := hB2.trans (h3.mono hB2.size)
  have KC_3 := Lib.hid (KC_2.out.below h3)
  clear h3 hB2 KC_2
  obtain ⟨fC_0, fC_1, fC_2, fC_3, fC_4, fC_5, fC_l, fC_f⟩ := KC_3.out.o6
  have fC_l0_1 : w.heap.size < w3.heap.size + 1 := by omega
  have fC_l0_2 : w.heap.size < w3.heap.size + 1 + 1 := by omega
  go_wp2_with (go_at_call 8; refine (HCk.out _).mono ?_; rintro r w4 ⟨rfl, h4⟩; refine Hid.out ?_)
  unfold Hid
  have hB4 := (hB3.alloc hB3.size _).trans (h4.mono (Nat.le_trans hB3.size (by simp; try omega)))
  have oC_4 : w.heap.size < w3.heap.size := KC_3.out.lt
  have KC_4 := Lib.hid ((KC_3.out.alloc _).below h4)
  have KX_4 := Lib.hid (show Blk w4 (w3.heap.size) #[(.int .i64 (a)), (.int .i64 (b')), (.int .i64 (c)), (.int .i64 (d)), (.int .i64 (e)), (.int .i64 (f))] from (Calm.Blk.new _ _ #[(.int .i64 (a)), (.int .i64 (b')), (.int .i64 (c)), (.int .i64 (d)), (.int .i64 (e)), (.int .i64 (f))]).below h4)
  clear h4 hB3 KC_3 fC_0 fC_1 fC_2 fC_3 fC_4 fC_5 fC_l fC_f fC_l0_1 fC_l0_2
  go_wp2_with (go_at_call 10; refine (HPb.out _).mono ?_; rintro r w5 ⟨rfl, h5⟩; refine Hid.out ?_)
  unfold Hid
  have hB5 := hB4.trans (h5.mono hB4.size)
  have KC_5 := Lib.hid (KC_4.out.below h5)
  have KX_5 := Lib.hid (KX_4.out.below h5)
  clear h5 hB4 KC_4 KX_4
  obtain ⟨fX_0, fX_1, fX_2, fX_3, fX_4, fX_5, fX_l, fX_f⟩ := KX_5.out.o6
  have fX_l0_1 : w3.heap.size < w5.heap.size + 1 := by omega
  have fX_l0_2 : w3.heap.size < w5.heap.size + 1 + 1 := by omega
  have fx1 : w3.heap.size < w5.heap.size + 1 := by omega
  have fx2 : ¬ w3.heap.size = w5.heap.size := by omega
  have fx3 : ¬ w5.heap.size = w3.heap.size := by omega
  go_wp2
  go_ret
  exact ⟨by first | rfl | (simp; done), (hB5.alloc hB5.size _)⟩
set_option maxRecDepth 100000 in
set_option maxHeartbeats 8000000 in
theorem texts_10 (re le bl ma st lo a b' c d e f E D : Int) (s t : ByteArray) (w : World) (hT : Tab w) (hs : s.size = 4097)  (HPr : Hid (∀ W : World, Tab W → Calls Tryz.prog 6 #[.agg #[(.int .i64 (re)), (.int .i64 (le)), (.int .i64 (bl)), (.int .i64 (ma)), (.int .i64 (st)), (.int .i64 (lo))]] W fun r w' => r = .returned (.tuple #[.string t, (.int .i64 (0))]) ∧ Below W.heap.size W w')) (HRp : Hid (∀ W : World, Calls Tryz.prog 9 #[.agg #[(.int .i64 (re)), (.int .i64 (le)), (.int .i64 (bl)), (.int .i64 (ma)), (.int .i64 (st)), (.int .i64 (lo))]] W fun r w' => r = .returned (.string t) ∧ Below W.heap.size W w'))
    (HCk : Hid (∀ W : World, Calls Tryz.prog 8 #[.agg #[(.int .i64 (re)), (.int .i64 (le)), (.int .i64 (bl)), (.int .i64 (ma)), (.int .i64 (st)), (.int .i64 (lo))]] W fun r w' => r = .returned ((.int .i64 (0))) ∧ Below W.heap.size W w'))
    (HPa : Hid (∀ W : World, Tab W → Calls Tryz.prog 7 #[.string s] W fun r w' => r = .returned (.tuple #[.agg #[(.int .i64 (a)), (.int .i64 (b')), (.int .i64 (c)), (.int .i64 (d)), (.int .i64 (e)), (.int .i64 (f))], (.int .i64 (E))]) ∧ Below W.heap.size W w'))
    (HPb : Hid (∀ W : World, Calls Tryz.prog 10 #[.string s] W fun r w' => r = .returned (.tuple #[.agg #[(.int .i64 (a)), (.int .i64 (b')), (.int .i64 (c)), (.int .i64 (d)), (.int .i64 (e)), (.int .i64 (f))], (.int .i64 (E))]) ∧ Below W.heap.size W w')) :
    Calls Tryz.prog 3 #[.agg #[(.int .i64 (re)), (.int .i64 (le)), (.int .i64 (bl)), (.int .i64 (ma)), (.int .i64 (st)), (.int .i64 (lo))], .string s] w fun r w' => r = .returned (.bool true) ∧ Below w.heap.size w w' := by
  have hB0 := Below.refl w.heap.size w
  have hL := hT.lim
  have q1 : ((s.size : Int) == 4097) = true := by simpa using (by omega : (s.size : Int) = 4097)
  have q2 : (100 : Int) < (s.size : Int) := by omega
  have HS := Lib.hid hs; clear hs
  go_enter Tryz.func3, Tryz.ntmps3
  go_wp2_with (go_at_call 5; refine (awake_any _ (hL.below (hB0.alloc hB0.size _))).mono ?_; rintro r w1 ⟨rfl, h1⟩; refine Hid.out ?_)
  unfold Hid
  have hB1 := (hB0.alloc hB0.size _).trans (h1.mono (Nat.le_trans hB0.size (by simp; try omega)))
  have KC_1 := Lib.hid (show Blk w1 (w.heap.size) #[(.int .i64 (re)), (.int .i64 (le)), (.int .i64 (bl)), (.int .i64 (ma)), (.int .i64 (st)), (.int .i64 (lo))] from (Calm.Blk.new _ _ #[(.int .i64 (re)), (.int .i64 (le)), (.int .i64 (bl)), (.int .i64 (ma)), (.int .i64 (st)), (.int .i64 (lo))]).below h1)
  clear h1 hB0
  obtain ⟨fC_0, fC_1, fC_2, fC_3, fC_4, fC_5, fC_l, fC_f⟩ := KC_1.out.o6
  have fC_l0_1 : w.heap.size < w1.heap.size + 1 := by omega
  have fC_l0_2 : w.heap.size < w1.heap.size + 1 + 1 := by omega
  go_wp2_with (go_at_call 6; refine (HPr.out _ (hT.below hB1)).mono ?_; rintro r w2 ⟨rfl, h2⟩; refine Hid.out ?_)
  unfold Hid
  have hB2 := hB1.trans (h2.mono hB1.size)
  have KC_2 := Lib.hid (KC_1.out.below h2)
  clear h2 hB1 KC_1 fC_0 fC_1 fC_2 fC_3 fC_4 fC_5 fC_l fC_f fC_l0_1 fC_l0_2
  go_wp2_with (go_at_call 7; refine (HPa.out _ (hT.below hB2)).mono ?_; rintro r w3 ⟨rfl, h3⟩; refine Hid.out ?_)
  unfold Hid
  have hB3 := hB2.trans (h3.mono hB2.size)
  have KC_3 := Lib.hid (KC_2.out.below h3)
  clear h3 hB2 KC_2
  obtain ⟨fC_0, fC_1, fC_2, fC_3, fC_4, fC_5, fC_l, fC_f⟩ := KC_3.out.o6
  have fC_l0_1 : w.heap.size < w3.heap.size + 1 := by omega
  have fC_l0_2 : w.heap.size < w3.heap.size + 1 + 1 := by omega
  go_wp2_with (go_at_call 8; refine (HCk.out _).mono ?_; rintro r w4 ⟨rfl, h4⟩; refine Hid.out ?_)
  unfold Hid
  have hB4 := (hB3.alloc hB3.size _).trans (h4.mono (Nat.le_trans hB3.size (by simp; try omega)))
  have oC_4 : w.heap.size < w3.heap.size := KC_3.out.lt
  have KC_4 := Lib.hid ((KC_3.out.alloc _).below h4)
  have KX_4 := Lib.hid (show Blk w4 (w3.heap.size) #[(.int .i64 (a)), (.int .i64 (b')), (.int .i64 (c)), (.int .i64 (d)), (.int .i64 (e)), (.int .i64 (f))] from (Calm.Blk.new _ _ #[(.int .i64 (a)), (.int .i64 (b')), (.int .i64 (c)), (.int .i64 (d)), (.int .i64 (e)), (.int .i64 (f))]).below h4)
  clear h4 hB3 KC_3 fC_0 fC_1 fC_2 fC_3 fC_4 fC_5 fC_l fC_f fC_l0_1 fC_l0_2
  obtain ⟨fC_0, fC_1, fC_2, fC_3, fC_4, fC_5, fC_l, fC_f⟩ := KC_4.out.o6
  have fC_l0_1 : w.heap.size < w4.heap.size + 1 := by omega
  have fC_l0_2 : w.heap.size < w4.heap.size + 1 + 1 := by omega
  go_wp2_with (go_at_call 9; refine (HRp.out _).mono ?_; rintro r w5 ⟨rfl, h5⟩; refine Hid.out ?_)
  unfold Hid
  have hB5 := hB4.trans (h5.mono hB4.size)
  have KC_5 := Lib.hid (KC_4.out.below h5)
  have KX_5 := Lib.hid (KX_4.out.below h5)
  clear h5 hB4 KC_4 KX_4 fC_0 fC_1 fC_2 fC_3 fC_4 fC_5 fC_l fC_f fC_l0_1 fC_l0_2
  go_wp2_with (go_at_call 10; refine (HPb.out _).mono ?_; rintro r w6 ⟨rfl, h6⟩; refine Hid.out ?_)
  unfold Hid
  have hB6 := hB5.trans (h6.mono hB5.size)
  have KC_6 := Lib.hid (KC_5.out.below h6)
  have KX_6 := Lib.hid (KX_5.out.below h6)
  clear h6 hB5 KC_5 KX_5
  obtain ⟨fX_0, fX_1, fX_2, fX_3, fX_4, fX_5, fX_l, fX_f⟩ := KX_6.out.o6
  have fX_l0_1 : w3.heap.size < w6.heap.size + 1 := by omega
  have fX_l0_2 : w3.heap.size < w6.heap.size + 1 + 1 := by omega
  have fx1 : w3.heap.size < w6.heap.size + 1 := by omega
  have fx2 : ¬ w3.heap.size = w6.heap.size := by omega
  have fx3 : ¬ w6.heap.size = w3.heap.size := by omega
  go_wp2
  go_ret
  exact ⟨by first | rfl | (simp; done), (hB6.alloc hB6.size _)⟩
set_option maxRecDepth 100000 in
set_option maxHeartbeats 8000000 in
theorem texts_11 (re le bl ma st lo a b' c d e f E D : Int) (s t : ByteArray) (w : World) (hT : Tab w) (hs : s.size = 4097) (h0 : ¬ D = 0) (HPr : Hid (∀ W : World, Tab W → Calls Tryz.prog 6 #[.agg #[(.int .i64 (re)), (.int .i64 (le)), (.int .i64 (bl)), (.int .i64 (ma)), (.int .i64 (st)), (.int .i64 (lo))]] W fun r w' => r = .returned (.tuple #[.string ⟨#[]⟩, (.int .i64 (D))]) ∧ Below W.heap.size W w')) 
    (HCk : Hid (∀ W : World, Calls Tryz.prog 8 #[.agg #[(.int .i64 (re)), (.int .i64 (le)), (.int .i64 (bl)), (.int .i64 (ma)), (.int .i64 (st)), (.int .i64 (lo))]] W fun r w' => r = .returned ((.int .i64 (D))) ∧ Below W.heap.size W w'))
    (HPa : Hid (∀ W : World, Tab W → Calls Tryz.prog 7 #[.string s] W fun r w' => r = .returned (.tuple #[.agg #[(.int .i64 (a)), (.int .i64 (b')), (.int .i64 (c)), (.int .i64 (d)), (.int .i64 (e)), (.int .i64 (f))], (.int .i64 (E))]) ∧ Below W.heap.size W w'))
    (HPb : Hid (∀ W : World, Calls Tryz.prog 10 #[.string s] W fun r w' => r = .returned (.tuple #[.agg #[(.int .i64 (a)), (.int .i64 (b')), (.int .i64 (c)), (.int .i64 (d)), (.int .i64 (e)), (.int .i64 (f))], (.int .i64 (E))]) ∧ Below W.heap.size W w')) :
    Calls Tryz.prog 3 #[.agg #[(.int .i64 (re)), (.int .i64 (le)), (.int .i64 (bl)), (.int .i64 (ma)), (.int .i64 (st)), (.int .i64 (lo))], .string s] w fun r w' => r = .returned (.bool true) ∧ Below w.heap.size w w' := by
  have hB0 := Below.refl w.heap.size w
  have hL := hT.lim
  have q1 : ((s.size : Int) == 4097) = true := by simpa using (by omega : (s.size : Int) = 4097)
  have q2 : (100 : Int) < (s.size : Int) := by omega
  have HS := Lib.hid hs; clear hs
  have q3 : (D == 0) = false := by simpa using h0
  go_enter Tryz.func3, Tryz.ntmps3
  go_wp2_with (go_at_call 5; refine (awake_any _ (hL.below (hB0.alloc hB0.size _))).mono ?_; rintro r w1 ⟨rfl, h1⟩; refine Hid.out ?_)
  unfold Hid
  have hB1 := (hB0.alloc hB0.size _).trans (h1.mono (Nat.le_trans hB0.size (by simp; try omega)))
  have KC_1 := Lib.hid (show Blk w1 (w.heap.size) #[(.int .i64 (re)), (.int .i64 (le)), (.int .i64 (bl)), (.int .i64 (ma)), (.int .i64 (st)), (.int .i64 (lo))] from (Calm.Blk.new _ _ #[(.int .i64 (re)), (.int .i64 (le)), (.int .i64 (bl)), (.int .i64 (ma)), (.int .i64 (st)), (.int .i64 (lo))]).below h1)
  clear h1 hB0
  obtain ⟨fC_0, fC_1, fC_2, fC_3, fC_4, fC_5, fC_l, fC_f⟩ := KC_1.out.o6
  have fC_l0_1 : w.heap.size < w1.heap.size + 1 := by omega
  have fC_l0_2 : w.heap.size < w1.heap.size + 1 + 1 := by omega
  go_wp2_with (go_at_call 6; refine (HPr.out _ (hT.below hB1)).mono ?_; rintro r w2 ⟨rfl, h2⟩; refine Hid.out ?_)
  unfold Hid
  have hB2 := hB1.trans (h2.mono hB1.size)
  have KC_2 := Lib.hid (KC_1.out.below h2)
  clear h2 hB1 KC_1 fC_0 fC_1 fC_2 fC_3 fC_4 fC_5 fC_l fC_f fC_l0_1 fC_l0_2
  go_wp2_with (go_at_call 7; refine (HPa.out _ (hT.below hB2)).mono ?_; rintro r w3 ⟨rfl, h3⟩; refine Hid.out ?_)
  unfold Hid
  have hB3 := hB2.trans (h3.mono hB2.size)
  have KC_3 := Lib.hid (KC_2.out.below h3)
  clear h3 hB2 KC_2
  obtain ⟨fC_0, fC_1, fC_2, fC_3, fC_4, fC_5, fC_l, fC_f⟩ := KC_3.out.o6
  have fC_l0_1 : w.heap.size < w3.heap.size + 1 := by omega
  have fC_l0_2 : w.heap.size < w3.heap.size + 1 + 1 := by omega
  go_wp2_with (go_at_call 8; refine (HCk.out _).mono ?_; rintro r w4 ⟨rfl, h4⟩; refine Hid.out ?_)
  unfold Hid
  have hB4 := (hB3.alloc hB3.size _).trans (h4.mono (Nat.le_trans hB3.size (by simp; try omega)))
  have oC_4 : w.heap.size < w3.heap.size := KC_3.out.lt
  have KC_4 := Lib.hid ((KC_3.out.alloc _).below h4)
  have KX_4 := Lib.hid (show Blk w4 (w3.heap.size) #[(.int .i64 (a)), (.int .i64 (b')), (.int .i64 (c)), (.int .i64 (d)), (.int .i64 (e)), (.int .i64 (f))] from (Calm.Blk.new _ _ #[(.int .i64 (a)), (.int .i64 (b')), (.int .i64 (c)), (.int .i64 (d)), (.int .i64 (e)), (.int .i64 (f))]).below h4)
  clear h4 hB3 KC_3 fC_0 fC_1 fC_2 fC_3 fC_4 fC_5 fC_l fC_f fC_l0_1 fC_l0_2
  go_wp2_with (go_at_call 10; refine (HPb.out _).mono ?_; rintro r w5 ⟨rfl, h5⟩; refine Hid.out ?_)
  unfold Hid
  have hB5 := hB4.trans (h5.mono hB4.size)
  have KC_5 := Lib.hid (KC_4.out.below h5)
  have KX_5 := Lib.hid (KX_4.out.below h5)
  clear h5 hB4 KC_4 KX_4
  obtain ⟨fX_0, fX_1, fX_2, fX_3, fX_4, fX_5, fX_l, fX_f⟩ := KX_5.out.o6
  have fX_l0_1 : w3.heap.size < w5.heap.size + 1 := by omega
  have fX_l0_2 : w3.heap.size < w5.heap.size + 1 + 1 := by omega
  have fx1 : w3.heap.size < w5.heap.size + 1 := by omega
  have fx2 : ¬ w3.heap.size = w5.heap.size := by omega
  have fx3 : ¬ w5.heap.size = w3.heap.size := by omega
  go_wp2
  go_ret
  exact ⟨by first | rfl | (simp; done), (hB5.alloc hB5.size _)⟩
end Go.Proofs.YtadcmjnebjgijaaGreatDoor

/- A value of integers alone (structs and arrays of integers, nested): its cells are its integers, one behind another. And the row's last step under 'Below'. Of no program. -/
namespace Go.Flat
open Go.ChangeShapes Go.WideShapes Go.RowKit

def sideB : List (Nat × Nat) → Nat → Nat → Bool
  | [], off, tot => off == tot
  | (o, c) :: l, off, tot => o == off && sideB l (off + c) tot
/-- the type is made of integers alone, lying side by side. -/
def intsB (P : Program) : Nat → TypeId → Bool
  | 0, _ => false
  | n + 1, t => match P.underlying t with
    | some (.int .i64) => true
    | some (.struct fs) => sideB (fs.toList.map fun f => (f.offset, P.cellsOf f.type)) 0 (P.cellsOf t) && fs.toList.all fun f => intsB P n f.type
    | some (.array k e) => sideB ((List.range k).map fun i => (i * P.cellsOf e, P.cellsOf e)) 0 (P.cellsOf t) && intsB P n e
    | _ => false
/-- the integers of a datum. -/
def flat {H : Type} : Nat → DataW H → List Int
  | 0, _ => []
  | n + 1, .agg ds => ds.flatMap (flat n)
  | _ + 1, .lit (.int _ z) => [z]
  | _ + 1, _ => []

theorem side_cells {cs : List Value} : ∀ (l : List (Nat × Nat)) (zs : List (List Int)) (off : Nat), sideB l off cs.length = true → zs.length = l.length →
    (∀ (i o c : Nat), l[i]? = some (o, c) → ∃ z, zs[i]? = some z ∧ (cs.drop o).take c = z.map (Value.int .i64)) → cs.drop off = zs.flatten.map (Value.int .i64)
  | [], zs, off, hs, hl, _ => by
    obtain rfl : zs = [] := by simpa using hl
    have : off = cs.length := by simpa [sideB] using hs
    subst this
    simp
  | (o, c) :: l, zs, off, hs, hl, hf => by
    obtain ⟨z, zs', rfl⟩ : ∃ z zs', zs = z :: zs' := by
      cases zs with
      | nil => simp at hl
      | cons z zs' => exact ⟨z, zs', rfl⟩
    simp only [sideB, Bool.and_eq_true, beq_iff_eq] at hs
    obtain ⟨rfl, hs⟩ := hs
    obtain ⟨z', hz', h0⟩ := hf 0 o c rfl
    obtain rfl : z = z' := by simpa using hz'
    have ih := side_cells l zs' (o + c) hs (by simpa using hl) (fun i o' c' h => by simpa using hf (i + 1) o' c' (by simpa using h))
    calc cs.drop o = (cs.drop o).take c ++ (cs.drop o).drop c := (List.take_append_drop _ _).symm
      _ = _ := by rw [h0, List.drop_drop, ih]; simp

theorem cells_of_ints {H : Type} {enc : TypeId × Value → H} {P : Program} {w : World} {base : Nat} {sp : Nat → Bool} {held : Bool} :
    ∀ (m : Nat) {fuel : Nat} {t : TypeId} {cs : List Value} {x : DataW H × List MemPlace}, intsB P m t = true → DataW.trod enc P w base sp held fuel t cs = some x → cs = (flat m x.1).map (Value.int .i64) ∧ x.2 = []
  | 0, _, _, _, _, h, _ => by simp [intsB] at h
  | m + 1, fuel, t, cs, x, h, hx => by
    unfold intsB at h
    split at h
    · rename_i ht
      obtain ⟨z, rfl, rfl, _⟩ := DataW.trod_int ht hx
      exact ⟨rfl, rfl⟩
    · rename_i fs ht
      obtain ⟨xs, n, _, rfl, hl, hxl, hf⟩ := DataW.trod_struct ht hx
      simp only [Bool.and_eq_true, List.all_eq_true] at h
      obtain ⟨hs, hi⟩ := h
      have key : ∀ (i : Nat) (f : Field) (y : DataW H × List MemPlace), fs.toList[i]? = some f → xs[i]? = some y → (cs.drop f.offset).take (P.cellsOf f.type) = (flat m y.1).map (Value.int .i64) ∧ y.2 = [] := fun i f y hfi hy =>
        cells_of_ints m (hi f (List.mem_of_getElem? hfi)) ((hf i f (by simpa using hfi)).trans hy)
      have hlen : xs.length = fs.toList.length := by simpa using hxl
      refine ⟨?_, ?_⟩
      · have := side_cells (cs := cs) (fs.toList.map fun f => (f.offset, P.cellsOf f.type)) (xs.map fun y => flat m y.1) 0 (by rw [hl]; exact hs) (by simpa using hxl) (fun i o c hi' => by
          simp only [List.getElem?_map, Option.map_eq_some_iff] at hi'
          obtain ⟨f, hf1, hf2⟩ := hi'
          have hlt : i < xs.length := hlen ▸ (List.getElem?_eq_some_iff.1 hf1).1
          have hy : xs[i]? = some xs[i] := List.getElem?_eq_getElem hlt
          simp only [Prod.mk.injEq] at hf2
          obtain ⟨rfl, rfl⟩ := hf2
          exact ⟨_, by simp [hy], (key i f _ hf1 hy).1⟩)
        rw [List.drop_zero] at this
        refine this.trans ?_
        simp [flat, List.flatMap, List.map_map, Function.comp_def]
      · simp only [List.flatMap_eq_nil_iff]
        intro y hy
        obtain ⟨i, hi'⟩ := List.getElem?_of_mem hy
        have hlt : i < fs.toList.length := hlen ▸ (List.getElem?_eq_some_iff.1 hi').1
        exact (key i _ y (List.getElem?_eq_getElem hlt) hi').2
    · rename_i k e ht
      simp only [Bool.and_eq_true] at h
      obtain ⟨hs, hi⟩ := h
      cases fuel with
      | zero => simp [DataW.trod] at hx
      | succ fuel =>
        simp only [DataW.trod, ht] at hx
        split at hx
        · rename_i hl
          obtain ⟨xs, hm, rfl⟩ := Option.map_eq_some_iff.1 hx
          have hxl : xs.length = k := by simpa using Lib.mapM_length hm
          have key : ∀ (i : Nat) (y : DataW H × List MemPlace), xs[i]? = some y → (cs.drop (i * P.cellsOf e)).take (P.cellsOf e) = (flat m y.1).map (Value.int .i64) ∧ y.2 = [] := fun i y hy => by
            have hlt : i < k := hxl ▸ (List.getElem?_eq_some_iff.1 hy).1
            obtain ⟨b, hb, hf⟩ := Lib.mapM_at hm i i (by simp [hlt])
            obtain rfl := Option.some.inj (hy.symm.trans hb)
            exact cells_of_ints m hi hf
          refine ⟨?_, ?_⟩
          · have := side_cells (cs := cs) ((List.range k).map fun i => (i * P.cellsOf e, P.cellsOf e)) (xs.map fun y => flat m y.1) 0 (by rw [hl]; exact hs) (by simpa using hxl) (fun i o c hi' => by
              simp only [List.getElem?_map, Option.map_eq_some_iff] at hi'
              obtain ⟨j, hj1, hj2⟩ := hi'
              have hlt : i < k := by simpa using (List.getElem?_eq_some_iff.1 hj1).1
              obtain rfl : i = j := by simpa [hlt] using hj1
              have hy : xs[i]? = some (xs[i]'(by omega)) := List.getElem?_eq_getElem (by omega)
              simp only [Prod.mk.injEq] at hj2
              obtain ⟨rfl, rfl⟩ := hj2
              exact ⟨_, by simp [hy], (key i _ hy).1⟩)
            rw [List.drop_zero] at this
            refine this.trans ?_
            simp [flat, List.flatMap, List.map_map, Function.comp_def]
          · simp only [List.flatMap_eq_nil_iff]
            intro y hy
            obtain ⟨i, hi'⟩ := List.getElem?_of_mem hy
            exact (key i y hi').2
        · cases hx
    · cases h

/-- an argument that is a struct of integers alone. -/
theorem open_ints {H : Type} {enc : TypeId × Value → H} {P : Program} {w : World} {base : Nat} {sp : Nat → Bool} {held : Bool} (m : Nat) {r : Reach} {b0 : Nat} {t : TypeId} {fs : Array Field} {v : Value} {d : DataW H} {p : List MemPlace}
    (ht : P.underlying t = some (.struct fs)) (h : intsB P m t = true) (hv : Value.okWide P w r b0 t v) (hd : DataW.Trod enc P w base sp held t v d p) :
    ∃ zs : List Int, zs.length = P.cellsOf t ∧ v = .agg (zs.map (Value.int .i64)).toArray ∧ p = [] := by
  obtain ⟨cs, rfl, hsz⟩ := okWide_struct ht hv
  obtain ⟨fuel, hf⟩ := hd
  obtain ⟨h1, h2⟩ := cells_of_ints m h hf
  have hcs : cs.toList = (flat m d).map (Value.int .i64) := h1
  refine ⟨flat m d, ?_, ?_, h2⟩
  · have := congrArg List.length hcs
    simp at this
    omega
  · rw [← hcs]

section
variable {H : Type} {enc : TypeId × Value → H} {P : Program}
theorem post_of_below {f : Func} {s : ChangeSpec} {apart fresh handsOn again : Bool} {W W' : World} {args : Array Value} {v : Value} {ds gs : List (DataW H)} {before pa pv : List MemPlace}
    (hW : DataW.Whole enc P f.params.toList s.vars apart W args.toList ds gs before)
    (hres : ∀ (b : Nat) (sp : Nat → Bool) (hd : Bool), DataW.TrodAll enc P W' b sp hd f.resultTypes.toList (v.resultList f.resultTypes.size) (s.fn H (ds ++ gs)).results [])
    (hargs : ∀ sp : Nat → Bool, (∀ p ∈ before, sp p.block = true) → DataW.TrodAll enc P W' 0 sp true f.params.toList args.toList (s.fn H (ds ++ gs)).args pa)
    (hvars : ∀ sp : Nat → Bool, (∀ p ∈ before, sp p.block = true) → DataW.TrodVars enc P W' sp s.vars (s.fn H (ds ++ gs)).vars pv)
    (hps : before = pa ++ pv) (hb : Below W.heap.size W W')
    (hok : ∀ (j : Nat) (t : TypeId) (r : Value), f.resultTypes[j]? = some t → (v.resultList f.resultTypes.size)[j]? = some r → Value.okWide P W' .any 0 t r) :
    s.post enc P f apart fresh handsOn again W args v W' := by
  have hlt : ∀ p ∈ before, p.block < W.heap.size := fun p hp => hW.lt p hp
  have hold : ∀ p ∈ before, (fun b => decide (b < W.heap.size)) p.block = true := fun p hp => by simpa using hlt p hp
  refine ⟨ds, gs, before, [], pa, pv, hW, hres _ _ _, hargs _ hold, hvars _ hold, World.keptBut_mono (fun p hp => ⟨hp, ?_⟩) (hb.frame (· ∈ before)), fun _ => ?_⟩
  · rw [hps, List.mem_append] at hp
    exact Or.inr hp
  · obtain ⟨_, _, _, _, _, hz, hn⟩ := hW
    refine ⟨hok, _, _, ([] ++ pa) ++ pv, ⟨[] ++ pa, pv, trodAll_append (hargs _ (fun _ _ => rfl)) (hres _ _ _), hvars _ (fun _ _ => rfl), rfl, ?_, ?_⟩, ?_⟩
    · intro b off hp
      have hin : MemPlace.cell b off ∈ before := by rw [hps]; simpa using hp
      rw [hb.frozen (hlt _ hin)]
      exact hz b off hin
    · intro ha
      have := hn ha
      rw [hps] at this
      simpa using this
    · intro p hp _
      rw [hps]
      simpa using hp
end

/-- every argument reads behind the call as before it, if below the heap's old size nothing has turned. -/
theorem trodAll_below {H : Type} {enc : TypeId × Value → H} {P : Program} (hl : laidOutB P = true) {W W' : World} (hb : Below W.heap.size W W') {sp : Nat → Bool} :
    ∀ {ts : List TypeId} {vs : List Value} {ds : List (DataW H)} {ps : List MemPlace}, (∀ t ∈ ts, P.readableRec t = true ∧ t < P.types.size) → DataW.TrodAll enc P W 0 (fun _ => true) true ts vs ds ps → (∀ p ∈ ps, p.block < W.heap.size) → (∀ p ∈ ps, sp p.block = true) →
    DataW.TrodAll enc P W' 0 sp true ts vs ds ps
  | [], [], [], _, _, h, _, _ => h
  | t :: ts, v :: vs, d :: ds, _, ht, ⟨p, q, h, hr, rfl⟩, hlt, hs => by
    have h1 := ht t (by simp)
    exact ⟨p, q, WideElems.Trod_stays hl h1.1 h1.2 h (fun x hx => hb.same (hlt x (by simp [hx]))) (fun x hx => hs x (by simp [hx])), trodAll_below hl hb (fun t' h' => ht t' (by simp [h'])) hr (fun x hx => hlt x (by simp [hx])) (fun x hx => hs x (by simp [hx])), rfl⟩
end Go.Flat

/- What the rows' list gives: the table of the limits. A world for the witnesses. -/
namespace Go.Proofs.YtadcmjnebjgijaaGreatDoor
open Go.ChangeShapes Go.WideShapes Go.ChangeAt Go.RowKit
open Calm (bcell)

/-- the rows' list. -/
noncomputable def laidList : List (String × DataW Unit) := [("math/bits.deBruijn32tab", Rows.laid_math_bits_deBruijn32tab), ("math/bits.deBruijn64tab", Rows.laid_math_bits_deBruijn64tab), ("internal/strconv.uint64pow10", Rows.laid_internal_strconv_uint64pow10), ("woofer/driver.limits", Rows.laid_woofer_driver_limits)]
theorem own : ownKnob Tryz.prog.godebug = none := by kernel_rfl
theorem laidOut : laidOutB Tryz.prog = true := by kernel_rfl
theorem gLim : Tryz.prog.globalNamed "woofer/driver.limits" = some 0 := by kernel_rfl
theorem gLimInts : (Tryz.prog.globals[0]?).map (fun g => Flat.intsB Tryz.prog 3 g.type) = some true := by kernel_rfl

set_option maxRecDepth 100000 in
theorem lim_of_laid {W : World} (h : laidMetH Tryz.prog laidList W) : Lim W := by
  obtain ⟨ps, hl, _, _⟩ : laidMet Tryz.prog laidList W := h
  obtain ⟨_, _, _, _, _, _, _, _, _, _, hl, _⟩ := hl
  obtain ⟨_, _, _, _, _, _, _, _, _, _, hl, _⟩ := hl
  obtain ⟨_, _, _, _, _, _, _, _, _, _, hl, _⟩ := hl
  obtain ⟨g, t, cs, fuel, p, q, hg, ht, hv, hd, _, _⟩ := hl
  obtain rfl := Option.some.inj (gLim.symm.trans hg)
  have hi : Flat.intsB Tryz.prog 3 t = true := by
    have := gLimInts
    cases hgl : Tryz.prog.globals[0]? with
    | none => rw [hgl] at this; cases this
    | some gl =>
      rw [hgl] at this ht
      simp only [Option.map_some, Option.some.injEq] at this ht
      rwa [← ht]
  have hcs : cs.toList = [1, 50, 0, 10, 1, 20, 1, 100, 1, 5000, 1, 100].map (Value.int .i64) := (Flat.cells_of_ints 3 hi hd).1
  have hc : ∀ (i : Nat) (v : Value), cs[i]? = some v → W.cell? ⟨0, i, none⟩ = some v := fun i v hi => (World.var?_cell gLim hv i).trans hi
  have ha : cs = #[(.int .i64 (1)), (.int .i64 (50)), (.int .i64 (0)), (.int .i64 (10)), (.int .i64 (1)), (.int .i64 (20)), (.int .i64 (1)), (.int .i64 (100)), (.int .i64 (1)), (.int .i64 (5000)), (.int .i64 (1)), (.int .i64 (100))] := by
    apply Array.toList_inj.1
    exact hcs
  clear hcs hv
  subst ha
  have h0 := hc 0 _ rfl
  refine ⟨?_, h0, hc 1 _ rfl, hc 2 _ rfl, hc 3 _ rfl, hc 4 _ rfl, hc 5 _ rfl, hc 6 _ rfl, hc 7 _ rfl, hc 8 _ rfl, hc 9 _ rfl, hc 10 _ rfl, hc 11 _ rfl⟩
  rcases Nat.lt_or_ge 0 W.heap.size with h' | h'
  · exact h'
  · unfold World.cell? at h0
    rw [show W.heap[(⟨0, 0, none⟩ : Addr).block]? = none from Array.getElem?_eq_none h'] at h0
    cases h0

theorem laid_met (os : Os) (args : Array Value) : laidMetH Tryz.prog laidList ((World.doorLaid Tryz.prog 150 os).forCall (fun _ _ => 0) ⟨#[], args, []⟩).memory :=
  laidMet_of_run' 8 (by kernel_rfl) (by kernel_rfl)
theorem door_vars (os : Os) (args : Array Value) : ((World.doorLaid Tryz.prog 150 os).forCall (fun _ _ => 0) ⟨#[], args, []⟩).variablesB Tryz.prog = true := by kernel_rfl
theorem door_rest (os : Os) (args : Array Value) : (((World.doorLaid Tryz.prog 150 os).forCall (fun _ _ => 0) ⟨#[], args, []⟩).heap.toList.drop Tryz.prog.globals.size).take ((begin Tryz.prog (fun _ _ => 0) default).world.heap.size - Tryz.prog.globals.size) =
      (begin Tryz.prog (fun _ _ => 0) default).world.heap.toList.drop Tryz.prog.globals.size := by kernel_rfl
end Go.Proofs.YtadcmjnebjgijaaGreatDoor

/- DriverTexts answers yes, whatever its arguments. What the rows' list gives. -/
namespace Go.Proofs.YtadcmjnebjgijaaGreatDoor
open Go.ChangeShapes Go.WideShapes Go.ChangeAt Go.RowKit
open Go.Lib
open Calm (bcell)
set_option maxRecDepth 100000 in
set_option maxHeartbeats 4000000 in
theorem texts_no (re le bl ma st lo : Int) (s : ByteArray) (w : World) (hL : Lim w) (hs : 100 < s.size) (hs2 : ¬ s.size = 4097) :
    Calls Tryz.prog 3 #[.agg #[(.int .i64 (re)), (.int .i64 (le)), (.int .i64 (bl)), (.int .i64 (ma)), (.int .i64 (st)), (.int .i64 (lo))], .string s] w fun r w' => r = .returned (.bool true) ∧ Below w.heap.size w w' := by
  have hB0 := Below.refl w.heap.size w
  have q1 : ((s.size : Int) == 4097) = false := beq_eq_false_iff_ne.2 (by omega)
  have q2 : (100 : Int) < (s.size : Int) := by omega
  have q3 : ¬ (s.size : Int) = 4097 := by omega
  go_enter Tryz.func3, Tryz.ntmps3
  go_wp2_with (go_at_call 5; refine (awake_any _ (hL.below (hB0.alloc hB0.size _))).mono ?_; rintro r w1 ⟨rfl, h1⟩; refine Hid.out ?_)
  unfold Hid
  have hB1 := (hB0.alloc hB0.size _).trans (h1.mono (by simp))
  go_wp2_with (go_at_call 5; refine (awake_any _ (hL.below hB1)).mono ?_; rintro r w2 ⟨rfl, h2⟩; refine Hid.out ?_)
  unfold Hid
  go_wp2
  go_ret
  exact ⟨by first | rfl | (simp; done), hB1.trans (h2.mono hB1.size)⟩
theorem nat_of {x : Int} (h : 0 ≤ x) : ∃ n : Nat, x = n := ⟨x.toNat, by omega⟩
theorem DriverTexts_any (re le bl ma st lo : Int) (s : ByteArray) (w : World) (hT : Tab w) :
    Calls Tryz.prog 3 #[.agg #[(.int .i64 (re)), (.int .i64 (le)), (.int .i64 (bl)), (.int .i64 (ma)), (.int .i64 (st)), (.int .i64 (lo))], .string s] w fun r w' => r = .returned (.bool true) ∧ Below w.heap.size w w' := by
  by_cases hno : 100 < s.size ∧ ¬ s.size = 4097
  · exact texts_no re le bl ma st lo s w hT.lim hno.1 hno.2
  obtain ⟨a, b, c, d, e, f, E, hP⟩ := pres_ex s.data.toList
  have HPa := Lib.hid (fun (W : World) (h : Tab W) => parse_any hP s rfl W h)
  have HPb := Lib.hid (fun W : World => rparse_any hP s rfl W)
  have HCk := Lib.hid (fun W : World => refCheckDriver_any re le bl ma st lo W)
  by_cases h0 : drvErr re le bl ma st lo = 0
  · have HPr := Lib.hid (fun (W : World) (h : Tab W) => print_ok re le bl ma st lo W h h0)
    have HRp : Hid (∀ W : World, Calls Tryz.prog 9 #[.agg #[(.int .i64 (re)), (.int .i64 (le)), (.int .i64 (bl)), (.int .i64 (ma)), (.int .i64 (st)), (.int .i64 (lo))]] W fun r w' => r = .returned (.string ⟨(txtP [re, le, bl, ma, st, lo] 6).toArray⟩) ∧ Below W.heap.size W w') := by
      obtain ⟨⟨p1, q1⟩, ⟨p2, q2⟩, ⟨p3, q3⟩, ⟨p4, q4⟩, ⟨p5, q5⟩, ⟨p6, q6⟩⟩ := drvErr_zero h0
      obtain ⟨n1, rfl⟩ := nat_of (show 0 ≤ re by omega)
      obtain ⟨n2, rfl⟩ := nat_of (show 0 ≤ le by omega)
      obtain ⟨n3, rfl⟩ := nat_of (show 0 ≤ bl by omega)
      obtain ⟨n4, rfl⟩ := nat_of (show 0 ≤ ma by omega)
      obtain ⟨n5, rfl⟩ := nat_of (show 0 ≤ st by omega)
      obtain ⟨n6, rfl⟩ := nat_of (show 0 ≤ lo by omega)
      exact Lib.hid fun W => rprint_ok n1 n2 n3 n4 n5 n6 W (dec_len (by omega)) (dec_len (by omega)) (dec_len (by omega)) (dec_len (by omega)) (dec_len (by omega)) (dec_len (by omega)) (by omega) (by omega) (by omega) (by omega) (by omega) (by omega)
    rw [h0] at HCk
    by_cases h1 : s.size ≤ 100
    · exact texts_00 re le bl ma st lo a b c d e f E 0 s _ w hT h1 HPr HRp HCk HPa HPb
    · exact texts_10 re le bl ma st lo a b c d e f E 0 s _ w hT (Classical.byContradiction fun h => hno ⟨by omega, h⟩) HPr HRp HCk HPa HPb
  · have HPr := Lib.hid (fun (W : World) (h : Tab W) => print_no re le bl ma st lo W h.lim h0)
    by_cases h1 : s.size ≤ 100
    · exact texts_01 re le bl ma st lo a b c d e f E _ s s w hT h1 h0 HPr HCk HPa HPb
    · exact texts_11 re le bl ma st lo a b c d e f E _ s s w hT (Classical.byContradiction fun h => hno ⟨by omega, h⟩) h0 HPr HCk HPa HPb

/-- the list of the rows over texts. -/
noncomputable def laidText : List (String × DataW Unit) := [("math/bits.deBruijn32tab", Rows.laid_math_bits_deBruijn32tab), ("math/bits.deBruijn64tab", Rows.laid_math_bits_deBruijn64tab), ("internal/strconv.uint64pow10", Rows.laid_internal_strconv_uint64pow10), ("unicode/utf8.acceptRanges", Rows.laid_unicode_utf8_acceptRanges), ("strconv.ErrRange", Rows.laid_strconv_ErrRange), ("strconv.ErrSyntax", Rows.laid_strconv_ErrSyntax), ("woofer/driver.limits", Rows.laid_woofer_driver_limits), ("unicode/utf8.first", Rows.laid_unicode_utf8_first)]
theorem iface_of_trod {H : Type} {enc : TypeId × Value → H} {P : Program} {W : World} {base : Nat} {sp : Nat → Bool} {fuel : Nat} {t : TypeId} {ms : Array (String × TypeId)} {cs : List Value} {n : String} {d : DataW H} {p : List MemPlace} (ht : P.underlying t = some (.interface ms))
    (h : DataW.trod enc P W base sp false fuel t cs = some (.iface n d, p)) : ∃ u v, cs = [.iface u v] := by
  cases fuel with
  | zero => simp [DataW.trod] at h
  | succ k =>
    match cs, h with
    | [], h => simp [DataW.trod, ht] at h
    | [v], h => cases v <;> first | exact ⟨_, _, rfl⟩ | (simp [DataW.trod, ht] at h)
    | _ :: _ :: _, h => simp [DataW.trod, ht] at h
theorem tySyn : (Tryz.prog.globals[5]?).map (·.type) = some 147 := by kernel_rfl
theorem tyRng : (Tryz.prog.globals[6]?).map (·.type) = some 147 := by kernel_rfl
theorem tyPow : (Tryz.prog.globals[1]?).map (·.type) = some 164 := by kernel_rfl
set_option maxRecDepth 100000 in
theorem tab_of_laid {W : World} (h : laidMetH Tryz.prog laidText W) (hsh : W.ShapedOpen Tryz.prog) : Tab W := by
  obtain ⟨ps, hl, _, _⟩ : laidMet Tryz.prog laidText W := h
  obtain ⟨_, _, _, _, _, _, _, _, _, _, hl, _⟩ := hl
  obtain ⟨_, _, _, _, _, _, _, _, _, _, hl, _⟩ := hl
  obtain ⟨g2, t2, cs2, fuel2, p2, _, hg2, ht2, hv2, hd2, hl, _⟩ := hl
  obtain ⟨_, _, _, _, _, _, _, _, _, _, hl, _⟩ := hl
  obtain ⟨g4, t4, cs4, fuel4, p4, _, hg4, ht4, hv4, hd4, hl, _⟩ := hl
  obtain ⟨g5, t5, cs5, fuel5, p5, _, hg5, ht5, hv5, hd5, hl, _⟩ := hl
  obtain ⟨g, t, cs, fuel, p, q, hg, ht, hv, hd, _, _⟩ := hl
  have hlim : Lim W := by
    obtain rfl := Option.some.inj (gLim.symm.trans hg)
    have hi : Flat.intsB Tryz.prog 3 t = true := by
      have := gLimInts
      cases hgl : Tryz.prog.globals[0]? with
      | none => rw [hgl] at this; cases this
      | some gl =>
        rw [hgl] at this ht
        simp only [Option.map_some, Option.some.injEq] at this ht
        rwa [← ht]
    have hcs : cs.toList = [1, 50, 0, 10, 1, 20, 1, 100, 1, 5000, 1, 100].map (Value.int .i64) := (Flat.cells_of_ints 3 hi hd).1
    have hc : ∀ (i : Nat) (v : Value), cs[i]? = some v → W.cell? ⟨0, i, none⟩ = some v := fun i v hi => (World.var?_cell gLim hv i).trans hi
    have ha : cs = #[(.int .i64 (1)), (.int .i64 (50)), (.int .i64 (0)), (.int .i64 (10)), (.int .i64 (1)), (.int .i64 (20)), (.int .i64 (1)), (.int .i64 (100)), (.int .i64 (1)), (.int .i64 (5000)), (.int .i64 (1)), (.int .i64 (100))] := by
      apply Array.toList_inj.1
      exact hcs
    have hlt := var_lt gLim hv
    clear hcs hv
    subst ha
    exact ⟨hlt, hc 0 _ rfl, hc 1 _ rfl, hc 2 _ rfl, hc 3 _ rfl, hc 4 _ rfl, hc 5 _ rfl, hc 6 _ rfl, hc 7 _ rfl, hc 8 _ rfl, hc 9 _ rfl, hc 10 _ rfl, hc 11 _ rfl⟩
  have hpow : Lib.TabIs Tryz.prog W "internal/strconv.uint64pow10" .u64 Lib.pow10Tab := by
    obtain rfl := Option.some.inj (gPow.symm.trans hg2)
    obtain rfl := Option.some.inj (tyPow.symm.trans ht2)
    have e : (Rows.laid_internal_strconv_uint64pow10 : DataW Unit) = Lib.tabData .u64 Lib.pow10Tab := by kernel_rfl
    rw [e] at hd2
    unfold Lib.TabIs
    rw [hv2, ← Lib.cells_of_tab Tryz.underlying164 Tryz.underlying151 (by kernel_rfl) (by kernel_rfl) hd2]
  have h4 : ∃ tp x, W.var? Tryz.prog "strconv.ErrRange" = some #[.iface tp x] := by
    obtain rfl := Option.some.inj (gRng.symm.trans hg4)
    obtain rfl := Option.some.inj (tyRng.symm.trans ht4)
    obtain ⟨u, v, e⟩ := iface_of_trod Tryz.underlying147 hd4
    exact ⟨u, v, by rw [hv4, show cs4 = #[.iface u v] from Array.toList_inj.1 e]⟩
  have h5 : ∃ tp x, W.var? Tryz.prog "strconv.ErrSyntax" = some #[.iface tp x] := by
    obtain rfl := Option.some.inj (gSyn.symm.trans hg5)
    obtain rfl := Option.some.inj (tySyn.symm.trans ht5)
    obtain ⟨u, v, e⟩ := iface_of_trod Tryz.underlying147 hd5
    exact ⟨u, v, by rw [hv5, show cs5 = #[.iface u v] from Array.toList_inj.1 e]⟩
  obtain ⟨m, hm⟩ := cell_of_shapedOpen_int (P := Tryz.prog) (g := 2) (t := 3) (zero := #[(.int .i64 (0))]) (k := .i64) hsh (of_decide_eq_true (by kernel_rfl)) (by kernel_rfl) rfl (by kernel_rfl) (by kernel_rfl) Tryz.underlying3
  refine ⟨hlim, hpow, h5, h4, ?_, m, hm⟩
  rcases Nat.lt_or_ge 2 W.heap.size with h' | h'
  · exact h'
  · unfold World.cell? at hm
    rw [show W.heap[(⟨2, 0, none⟩ : Addr).block]? = none from Array.getElem?_eq_none h'] at hm
    cases hm
/-- the cells of a table of numbers. -/
def cellsData : DataW Unit → Array Value
  | .agg l => (l.map fun x => match x with | .lit (.int k n) => Value.int k n | _ => undef).toArray
  | _ => #[]
/-- the door's world, the library's table laid in it. -/
noncomputable def textDoor (os : Os) : World :=
  let w0 := World.doorLaid Tryz.prog 150 os
  { w0 with heap := w0.heap.modify 3 fun
      | .cells _ t frozen => .cells (cellsData Rows.laid_unicode_utf8_first) t frozen
      | o => o }
theorem laid_text_met (os : Os) (args : Array Value) : laidMetH Tryz.prog laidText ((textDoor os).forCall (fun _ _ => 0) ⟨#[], args, []⟩).memory :=
  laidMet_of_run' 8 (by kernel_rfl) (by kernel_rfl)
theorem text_vars (os : Os) (args : Array Value) : ((textDoor os).forCall (fun _ _ => 0) ⟨#[], args, []⟩).variablesB Tryz.prog = true := by kernel_rfl
theorem text_rest (os : Os) (args : Array Value) : (((textDoor os).forCall (fun _ _ => 0) ⟨#[], args, []⟩).heap.toList.drop Tryz.prog.globals.size).take ((begin Tryz.prog (fun _ _ => 0) default).world.heap.size - Tryz.prog.globals.size) =
      (begin Tryz.prog (fun _ _ => 0) default).world.heap.toList.drop Tryz.prog.globals.size := by kernel_rfl
end Go.Proofs.YtadcmjnebjgijaaGreatDoor

/- DriverTexts: the row and its card. -/
namespace Go.Proofs.YtadcmjnebjgijaaGreatDoor.driverTexts
open Go.ChangeShapes Go.WideShapes Go.ChangeAt Go.RowKit Go.Flat
open Go.ChangeMaps (open_string shut_string)
open Calm (bcell)

set_option maxRecDepth 100000 in
theorem contract (H : Type) (enc : TypeId × Value → H) (W : World) (base : Nat) (args : Array Value) (ds gs : List (DataW H)) (before : List MemPlace)
    (hval : ∀ (j : Nat) t v, Tryz.f3.params[j]? = some t → args[j]? = some v → Value.okWide Tryz.prog W .any base t v)
    (hW : DataW.Whole enc Tryz.prog Tryz.f3.params.toList Rows.driverTextsSpec.vars false W args.toList ds gs before) (hL : laidMetH Tryz.prog laidText W) (hsh : W.ShapedOpen Tryz.prog) :
    Calls Tryz.prog 3 args W fun e W' => ∃ v, e = .returned v ∧ Rows.driverTextsSpec.post enc Tryz.prog Tryz.f3 false true false false W args v W' := by
  have hW' := hW
  have hlt : ∀ p ∈ before, p.block < W.heap.size := fun p hp => hW.lt p hp
  obtain ⟨p, q, hA0, hV, rfl, hfz, hnd⟩ := hW
  have hA : DataW.TrodAll enc Tryz.prog W 0 (fun _ => true) true Tryz.f3.params.toList args.toList ds p := hA0
  rw [Tryz.params3] at hA hval
  obtain ⟨v0, v1, d0, d1, p0, p1, rfl, rfl, rfl, h0, h1⟩ := trodAll_two hA
  obtain ⟨rfl, rfl⟩ := trodVars_none hV
  obtain ⟨z0, hz0, rfl, rfl⟩ := open_ints 4 Tryz.underlying23 (by kernel_rfl) (hval 0 _ _ rfl rfl) h0
  rw [show Tryz.prog.cellsOf 23 = 6 by kernel_rfl] at hz0
  obtain ⟨s, rfl, rfl, rfl, _⟩ := open_string Tryz.underlying9 (hval 1 _ _ rfl rfl) h1
  match z0, hz0 with
  | [d1, d2, d3, d4, d5, d6], _ =>
  refine (DriverTexts_any d1 d2 d3 d4 d5 d6 s W (tab_of_laid hL hsh)).mono fun e W' ⟨he, hb⟩ => ?_
  subst he
  refine ⟨_, rfl, post_of_below (pa := [] ++ []) (pv := []) hW' (fun _ _ _ => trodAll_cons_mk (shut_bool Tryz.underlying4 _) trodAll_mk0) (fun sp hs => ?_) (fun _ _ => rfl) rfl hb (ok_one (by kernel_rfl) rfl (okWide_bool_mk Tryz.underlying4 _))⟩
  exact trodAll_below laidOut hb (by rw [Tryz.params3]; exact of_decide_eq_true (by kernel_rfl)) hA0 (fun x hx => hlt x (List.mem_append_left _ hx)) (fun x hx => hs x (List.mem_append_left _ hx))

/-- the witness: nothing. -/
noncomputable def wit : Array Value := #[.agg #[(.int .i64 (0)), (.int .i64 (0)), (.int .i64 (0)), (.int .i64 (0)), (.int .i64 (0)), (.int .i64 (0))], .string ⟨#[]⟩]
theorem reads (os : Os) {H : Type} (enc : TypeId × Value → H) : ∃ ds places, DataW.whole enc Tryz.prog ((textDoor os).forCall (fun _ _ => 0) ⟨#[], wit, []⟩).memory Tryz.f3.params.toList Rows.driverTextsSpec.vars false wit.toList 8 = some (ds, [], places) :=
  ⟨[.agg (List.replicate 6 (.lit (.int .i64 0))), .lit (.string [])], [], by kernel_rfl⟩

set_option maxRecDepth 100000 in
theorem lifted (os : Os) (started : os.Started) (H : Type) (enc : TypeId × Value → H) (F : Stop.Interp) :
    ReturnsInHanded {} Tryz.checked os 3 .any ((OpenSpec.ofChange Rows.driverTextsSpec).preRow enc Tryz.prog Tryz.f3 Rows.driverTextsRow.domain false Rows.driverTextsRow.laid) (((OpenSpec.ofChange Rows.driverTextsSpec).at F).post enc Tryz.prog Tryz.f3 false true false false) := by
  obtain ⟨ds, places, hx⟩ := reads os enc
  refine returnsInHanded_of_row (C := Tryz.checked) (s := OpenSpec.ofChange Rows.driverTextsSpec) own started (by kernel_rfl) Tryz.func3
    (witness_row_at (enc := enc) (C := Tryz.checked) false (textDoor os) wit rfl (text_vars os _) (text_rest os _) (by kernel_rfl)
      (OpenSpec.preRow_of_cond 8 hx (by kernel_rfl) (fun k hk => by cases hk) (by kernel_rfl) (laid_text_met os _))) ?_
  intro W base args ds gs before hval hW _ _ _ hL hsh _
  exact contract H enc W base args ds gs before hval hW hL hsh

theorem said : Rows.DriverTextsSaid :=
  OpenClaim.holds_of_cond 3 Tryz.f3 rfl rfl rfl rfl rfl rfl rfl ⟨rfl, rfl, rfl, rfl, rfl⟩ rfl rfl rfl rfl rfl (by kernel_rfl) Tryz.func3 (by kernel_rfl)
    (of_decide_eq_true (by kernel_rfl)) (by unfold Func.isWrapper; first | (rw [if_pos (by decide +kernel)]; kernel_rfl) | (rw [if_neg (by decide +kernel)]; exact ⟨rfl, rfl⟩))
    (fun os started H enc _ F => by rw [OpenClaim.pre_eq_preRow]; exact lifted os started H enc F)

theorem plain (f : FuncId) (fn : Func) (hf : Tryz.pinned.checked.prog.funcNamed "woofer/wooferlaw03.DriverTexts" = some f) (hfn : Tryz.pinned.checked.prog.funcs[f]? = some fn) :
    true = Tryz.pinned.checked.prog.looks [] ∧ ∀ (j : Nat) t, fn.params[j]? = some t → Tryz.pinned.checked.prog.wantsStandIn t = false := by
  obtain rfl : f = 3 := Option.some.inj ((show Tryz.prog.funcNamed "woofer/wooferlaw03.DriverTexts" = some 3 by kernel_rfl).symm.trans hf) |>.symm
  obtain rfl : fn = Tryz.f3 := (Option.some.inj (Tryz.func3.symm.trans hfn)).symm
  refine ⟨by kernel_rfl, fun j t ht => ?_⟩
  rw [Tryz.params3] at ht
  have hall : ∀ t ∈ (#[23, 9] : Array TypeId), Tryz.prog.wantsStandIn t = false := of_decide_eq_true (by kernel_rfl)
  exact hall t (Array.mem_of_getElem? ht)

theorem card : Rows.DriverTextsCardSaid :=
  Claim7.holds_tied_plain_at .later [] _ _ _ _ said (fun _ h => by cases h) (by kernel_rfl) (fun _ h => by cases h) driverTexts_row_tie rfl ⟨rfl, rfl⟩ (by kernel_rfl) rfl plain (by kernel_rfl)
end Go.Proofs.YtadcmjnebjgijaaGreatDoor.driverTexts
