/- Part 8 of the texts of the claim: B5, B6, Slab, Rel2, Iter, Drv, It1. -/
import Derived.Test.YtpkldjlljoledaaDoorMh7
import Derived.Test.YtpkldjlljoledaaDoorMh2
import Derived.Deep.Slices
import Derived.Test.YtpkldjlljoledaaDoorMh4
import Derived.RangeFuncNested
import Derived.RangeFuncBound
import Derived.RangeFuncCalls
import Derived.RangeFuncLeaves
import Derived.Test.YtpkldjlljoledaaDoorMh1
import Derived.Lib.Hide
import Derived.Shelf.Abstract
import Derived.WalkKit
import Derived.OwnWalkIn
import Derived.TacticsInMore
import Derived.LoopNIn
import Derived.LoopIn

/- Contracts of package driver's checks of readings and classes. -/
namespace Go.Proofs.YtpkldjlljoledaaDoor
open Go.RowKit
open Calm (bcell Blk)

/-- the first error of a reading. -/
def readErr (a b c : Int) : Int := firstOf [rangeErr a 1 8, rangeErr b 0 1000000, rangeErr c 0 1000000, if c < b then 11 else 0]
set_option maxHeartbeats 2000000 in
theorem readCheck_any (a b c : Int) (w : World) :
    Calls Tryd.prog 115 #[.agg #[(.int .i64 (a)), (.int .i64 (b)), (.int .i64 (c))]] w fun r w' => r = .returned (.int .i64 (readErr a b c)) ∧ Below w.heap.size w w' := by
  by_cases h : c < b
  · have hE : readErr a b c = firstOf [rangeErr a 1 8, rangeErr b 0 1000000, rangeErr c 0 1000000, 11] := by unfold readErr; rw [if_pos h]
    rw [hE]
    clear hE
    go_enter Tryd.func115, Tryd.ntmps115
    go_wp2
    refine Calm.tail_below 15 (by kernel_rfl) (by kernel_rfl) ?_
    simp only [List.take_succ_cons, List.take_zero, List.drop_succ_cons, List.drop_zero]
    repeat (first | (first | (apply Calm.op_move; (focus rfl); (focus (first | exact .inl rfl | exact .inr rfl)); (focus ((try simp only [Act.eval, Array.getD_eq_getD_getElem?, List.getElem?_toArray, List.getElem?_cons_succ, List.getElem?_cons_zero, Option.getD_some]); rfl)); (try simp only [Act.put, List.setIfInBounds_toArray, List.set_cons_zero, List.set_cons_succ])) | (apply Calm.op_not; (focus rfl); (try simp only [Act.put, List.setIfInBounds_toArray, List.set_cons_zero, List.set_cons_succ])) | (apply Calm.op; (focus rfl); (focus (intro W hb; obtain ⟨hc, hf⟩ := bcell hb; clear hb hf; go_simp; (try go_bits); (try rfl); done)); (try simp only [Act.put, List.setIfInBounds_toArray, List.set_cons_zero, List.set_cons_succ]))) | (apply Calm.op_call; (focus rfl); (focus (intro W hb; obtain ⟨hc, hf⟩ := bcell hb; clear hb hf; go_simp; refine ⟨?_, ?_⟩; rfl; rfl)); (focus (intro W hb; first | (go_at_call 97; exact Calm.call_same hb (checkW_any _ _)) | (go_at_call 80; exact Calm.call_same hb (within_any _ _ _ _)) | (go_at_call 87; exact Calm.call_same hb (when_any _ _ _)))); (try simp only [Act.put, List.setIfInBounds_toArray, List.set_cons_zero, List.set_cons_succ])))
    refine wpQuiet_nil ?_
    intro w1 hb
    obtain ⟨hbc, hbf⟩ := bcell hb
    have hbz := hb.size
    (try simp at hbz)
    (try have hbz0 : w.heap.size < w1.heap.size := by omega)
    (try have hbz1 : w.heap.size + 1 < w1.heap.size := by omega)
    (try have hbz2 : w.heap.size + 1 + 1 < w1.heap.size := by omega)
    (try have hbz3 : w.heap.size + 1 + 1 + 1 < w1.heap.size := by omega)
    (try have hbz4 : w.heap.size + 1 + 1 + 1 + 1 < w1.heap.size := by omega)
    (try have hbz5 : w.heap.size + 1 + 1 + 1 + 1 + 1 < w1.heap.size := by omega)
    go_wp2_with (first | (go_at_call 86; refine (first4_any _ _ _ _ _).mono ?_; rintro r w1 ⟨rfl, rfl⟩))
    go_ret
    refine ⟨by first | rfl | (simp; done), ?_⟩
    repeat (first | (with_reducible exact Below.refl _ _) | ((with_reducible refine Below.setCell ?_ ?_ _); rotate_left 1; focus (first | (simp; done) | (simp; omega) | (simp at *; omega))) | ((with_reducible refine Below.alloc ?_ ?_ _); rotate_left 1; focus (first | (simp; done) | (simp; omega) | (simp at *; omega))) | (with_reducible refine Below.drew ?_) | ((with_reducible refine Calm.step (by assumption) ?_ ?_); rotate_left 1; focus (first | (simp; done) | (simp; omega) | (simp at *; omega))))
  · have hE : readErr a b c = firstOf [rangeErr a 1 8, rangeErr b 0 1000000, rangeErr c 0 1000000, 0] := by unfold readErr; rw [if_neg h]
    rw [hE]
    clear hE
    go_enter Tryd.func115, Tryd.ntmps115
    go_wp2
    refine Calm.tail_below 15 (by kernel_rfl) (by kernel_rfl) ?_
    simp only [List.take_succ_cons, List.take_zero, List.drop_succ_cons, List.drop_zero]
    repeat (first | (first | (apply Calm.op_move; (focus rfl); (focus (first | exact .inl rfl | exact .inr rfl)); (focus ((try simp only [Act.eval, Array.getD_eq_getD_getElem?, List.getElem?_toArray, List.getElem?_cons_succ, List.getElem?_cons_zero, Option.getD_some]); rfl)); (try simp only [Act.put, List.setIfInBounds_toArray, List.set_cons_zero, List.set_cons_succ])) | (apply Calm.op_not; (focus rfl); (try simp only [Act.put, List.setIfInBounds_toArray, List.set_cons_zero, List.set_cons_succ])) | (apply Calm.op; (focus rfl); (focus (intro W hb; obtain ⟨hc, hf⟩ := bcell hb; clear hb hf; go_simp; (try go_bits); (try rfl); done)); (try simp only [Act.put, List.setIfInBounds_toArray, List.set_cons_zero, List.set_cons_succ]))) | (apply Calm.op_call; (focus rfl); (focus (intro W hb; obtain ⟨hc, hf⟩ := bcell hb; clear hb hf; go_simp; refine ⟨?_, ?_⟩; rfl; rfl)); (focus (intro W hb; first | (go_at_call 97; exact Calm.call_same hb (checkW_any _ _)) | (go_at_call 80; exact Calm.call_same hb (within_any _ _ _ _)) | (go_at_call 87; exact Calm.call_same hb (when_any _ _ _)))); (try simp only [Act.put, List.setIfInBounds_toArray, List.set_cons_zero, List.set_cons_succ])))
    refine wpQuiet_nil ?_
    intro w1 hb
    obtain ⟨hbc, hbf⟩ := bcell hb
    have hbz := hb.size
    (try simp at hbz)
    (try have hbz0 : w.heap.size < w1.heap.size := by omega)
    (try have hbz1 : w.heap.size + 1 < w1.heap.size := by omega)
    (try have hbz2 : w.heap.size + 1 + 1 < w1.heap.size := by omega)
    (try have hbz3 : w.heap.size + 1 + 1 + 1 < w1.heap.size := by omega)
    (try have hbz4 : w.heap.size + 1 + 1 + 1 + 1 < w1.heap.size := by omega)
    (try have hbz5 : w.heap.size + 1 + 1 + 1 + 1 + 1 < w1.heap.size := by omega)
    go_wp2_with (first | (go_at_call 86; refine (first4_any _ _ _ _ _).mono ?_; rintro r w1 ⟨rfl, rfl⟩))
    go_ret
    refine ⟨by first | rfl | (simp; done), ?_⟩
    repeat (first | (with_reducible exact Below.refl _ _) | ((with_reducible refine Below.setCell ?_ ?_ _); rotate_left 1; focus (first | (simp; done) | (simp; omega) | (simp at *; omega))) | ((with_reducible refine Below.alloc ?_ ?_ _); rotate_left 1; focus (first | (simp; done) | (simp; omega) | (simp at *; omega))) | (with_reducible refine Below.drew ?_) | ((with_reducible refine Calm.step (by assumption) ?_ ?_); rotate_left 1; focus (first | (simp; done) | (simp; omega) | (simp at *; omega))))

/-- the first error of a class, without the number of its drivers. -/
def classPre (re le bl ma st lo m k r : Int) : Int := firstOf [drvErr re le bl ma st lo, rangeErr m ma 100, rangeErr k st 5000, rangeErr r lo 100]
/-- the number of the drivers of a class. -/
def classN (ma st lo m k r : Int) : Int := (m - ma + 1) * (k - st + 1) * (r - lo + 1)
def classErr (re le bl ma st lo m k r : Int) : Int := if classPre re le bl ma st lo m k r = 0 then (if 4096 < classN ma st lo m k r then 4 else 0) else classPre re le bl ma st lo m k r
set_option maxHeartbeats 2000000 in
theorem checkClass_bad (re le bl ma st lo m k r : Int) (w : World) (hL : Lim w) (h : classPre re le bl ma st lo m k r ≠ 0) :
    Calls Tryd.prog 99 #[.agg #[(.int .i64 (re)), (.int .i64 (le)), (.int .i64 (bl)), (.int .i64 (ma)), (.int .i64 (st)), (.int .i64 (lo)), (.int .i64 (m)), (.int .i64 (k)), (.int .i64 (r))]] w fun x w' => x = .returned (.int .i64 (classPre re le bl ma st lo m k r)) ∧ Below w.heap.size w w' := by
  have h2 : firstOf [drvErr re le bl ma st lo, rangeErr m ma 100, rangeErr k st 5000, rangeErr r lo 100] ≠ 0 := h
  clear h
  go_enter Tryd.func99, Tryd.ntmps99
  go_wp2
  refine Calm.tail_below 17 (by kernel_rfl) (by kernel_rfl) ?_
  simp only [List.take_succ_cons, List.take_zero, List.drop_succ_cons, List.drop_zero]
  repeat (first | (first | (apply Calm.op_move; (focus rfl); (focus (first | exact .inl rfl | exact .inr rfl)); (focus ((try simp only [Act.eval, Array.getD_eq_getD_getElem?, List.getElem?_toArray, List.getElem?_cons_succ, List.getElem?_cons_zero, Option.getD_some]); rfl)); (try simp only [Act.put, List.setIfInBounds_toArray, List.set_cons_zero, List.set_cons_succ])) | (apply Calm.op_not; (focus rfl); (try simp only [Act.put, List.setIfInBounds_toArray, List.set_cons_zero, List.set_cons_succ])) | (apply Calm.op; (focus rfl); (focus (intro W hb; obtain ⟨hc, hf⟩ := bcell hb; clear hb hf; go_simp; (try go_bits); (try rfl); done)); (try simp only [Act.put, List.setIfInBounds_toArray, List.set_cons_zero, List.set_cons_succ]))) | (apply Calm.op_call; (focus rfl); (focus (intro W hb; obtain ⟨hc, hf⟩ := bcell hb; clear hb hf; go_simp; refine ⟨?_, ?_⟩; rfl; rfl)); (focus (intro W hb; first | (go_at_call 23; exact Calm.call_below hb (checkDriver_any _ _ _ _ _ _ _ (hL.below (by repeat (first | (with_reducible exact Below.refl _ _) | ((with_reducible refine Below.setCell ?_ ?_ _); rotate_left 1; focus (first | (simp; done) | (simp; omega) | (simp at *; omega))) | ((with_reducible refine Below.alloc ?_ ?_ _); rotate_left 1; focus (first | (simp; done) | (simp; omega) | (simp at *; omega))) | (with_reducible refine Below.drew ?_) | ((with_reducible refine Calm.step (by assumption) ?_ ?_); rotate_left 1; focus (first | (simp; done) | (simp; omega) | (simp at *; omega)))))))) | (go_at_call 80; exact Calm.call_same hb (within_any _ _ _ _)))); (try simp only [Act.put, List.setIfInBounds_toArray, List.set_cons_zero, List.set_cons_succ])))
  refine wpQuiet_nil ?_
  intro w1 hb
  obtain ⟨hbc, hbf⟩ := bcell hb
  have hbz := hb.size
  (try simp at hbz)
  (try have hbz0 : w.heap.size < w1.heap.size := by omega)
  (try have hbz1 : w.heap.size + 1 < w1.heap.size := by omega)
  (try have hbz2 : w.heap.size + 1 + 1 < w1.heap.size := by omega)
  (try have hbz3 : w.heap.size + 1 + 1 + 1 < w1.heap.size := by omega)
  (try have hbz4 : w.heap.size + 1 + 1 + 1 + 1 < w1.heap.size := by omega)
  (try have hbz5 : w.heap.size + 1 + 1 + 1 + 1 + 1 < w1.heap.size := by omega)
  go_wp2_with (first | (go_at_call 86; refine (first4_any _ _ _ _ _).mono ?_; rintro r w1 ⟨rfl, rfl⟩))
  go_ret
  refine ⟨by first | rfl | (simp; done), ?_⟩
  repeat (first | (with_reducible exact Below.refl _ _) | ((with_reducible refine Below.setCell ?_ ?_ _); rotate_left 1; focus (first | (simp; done) | (simp; omega) | (simp at *; omega))) | ((with_reducible refine Below.alloc ?_ ?_ _); rotate_left 1; focus (first | (simp; done) | (simp; omega) | (simp at *; omega))) | (with_reducible refine Below.drew ?_) | ((with_reducible refine Calm.step (by assumption) ?_ ?_); rotate_left 1; focus (first | (simp; done) | (simp; omega) | (simp at *; omega))))
theorem class_zero {re le bl ma st lo m k r : Int} (h : classPre re le bl ma st lo m k r = 0) : drvErr re le bl ma st lo = 0 ∧ (ma ≤ m ∧ m ≤ 100) ∧ (st ≤ k ∧ k ≤ 5000) ∧ (lo ≤ r ∧ r ≤ 100) := by
  unfold classPre at h
  have h := firstOf_eq_zero.1 h
  simp only [List.mem_cons, List.not_mem_nil, or_false, forall_eq_or_imp, forall_eq] at h
  exact ⟨h.1, rangeErr_zero.1 h.2.1, rangeErr_zero.1 h.2.2.1, rangeErr_zero.1 h.2.2.2⟩
set_option maxHeartbeats 2000000 in
theorem checkClass_ok (re le bl ma st lo m k r : Int) (w : World) (hL : Lim w) (h : classPre re le bl ma st lo m k r = 0) :
    Calls Tryd.prog 99 #[.agg #[(.int .i64 (re)), (.int .i64 (le)), (.int .i64 (bl)), (.int .i64 (ma)), (.int .i64 (st)), (.int .i64 (lo)), (.int .i64 (m)), (.int .i64 (k)), (.int .i64 (r))]] w fun x w' => x = .returned (.int .i64 (if 4096 < classN ma st lo m k r then 4 else 0)) ∧ Below w.heap.size w w' := by
  obtain ⟨hd, h1, h2, h3⟩ := class_zero h
  obtain ⟨_, _, _, d1, d2, d3⟩ := drvErr_zero hd
  have h4 : firstOf [drvErr re le bl ma st lo, rangeErr m ma 100, rangeErr k st 5000, rangeErr r lo 100] = 0 := h
  clear h hd
  have q1 : Bd 100 (m - ma + 1) := ⟨by omega, by omega⟩
  have q2 : Bd 5000 (k - st + 1) := ⟨by omega, by omega⟩
  have q3 : Bd 100 (r - lo + 1) := ⟨by omega, by omega⟩
  obtain ⟨e1, e2⟩ := q1.mul q2 (by omega)
  have q4 : Bd 500000 ((m - ma + 1) * (k - st + 1)) := ⟨by omega, by omega⟩
  obtain ⟨e3, e4⟩ := q4.mul q3 (by omega)
  clear q1 q2 q3 q4
  obtain ⟨⟨a1, a2⟩, ⟨a3, a4⟩, ⟨a5, a6⟩⟩ := And.intro h1 (And.intro h2 h3)
  obtain ⟨⟨a7, a8⟩, ⟨a9, b1⟩, ⟨b2, b3⟩⟩ := And.intro d1 (And.intro d2 d3)
  clear h1 h2 h3 d1 d2 d3
  by_cases hn : 4096 < classN ma st lo m k r
  · rw [if_pos hn]
    unfold classN at hn
    go_enter Tryd.func99, Tryd.ntmps99
    go_wp2
    refine Calm.tail_below 17 (by kernel_rfl) (by kernel_rfl) ?_
    simp only [List.take_succ_cons, List.take_zero, List.drop_succ_cons, List.drop_zero]
    repeat (first | (first | (apply Calm.op_move; (focus rfl); (focus (first | exact .inl rfl | exact .inr rfl)); (focus ((try simp only [Act.eval, Array.getD_eq_getD_getElem?, List.getElem?_toArray, List.getElem?_cons_succ, List.getElem?_cons_zero, Option.getD_some]); rfl)); (try simp only [Act.put, List.setIfInBounds_toArray, List.set_cons_zero, List.set_cons_succ])) | (apply Calm.op_not; (focus rfl); (try simp only [Act.put, List.setIfInBounds_toArray, List.set_cons_zero, List.set_cons_succ])) | (apply Calm.op; (focus rfl); (focus (intro W hb; obtain ⟨hc, hf⟩ := bcell hb; clear hb hf; go_simp; (try go_bits); (try rfl); done)); (try simp only [Act.put, List.setIfInBounds_toArray, List.set_cons_zero, List.set_cons_succ]))) | (apply Calm.op_call; (focus rfl); (focus (intro W hb; obtain ⟨hc, hf⟩ := bcell hb; clear hb hf; go_simp; refine ⟨?_, ?_⟩; rfl; rfl)); (focus (intro W hb; first | (go_at_call 23; exact Calm.call_below hb (checkDriver_any _ _ _ _ _ _ _ (hL.below (by repeat (first | (with_reducible exact Below.refl _ _) | ((with_reducible refine Below.setCell ?_ ?_ _); rotate_left 1; focus (first | (simp; done) | (simp; omega) | (simp at *; omega))) | ((with_reducible refine Below.alloc ?_ ?_ _); rotate_left 1; focus (first | (simp; done) | (simp; omega) | (simp at *; omega))) | (with_reducible refine Below.drew ?_) | ((with_reducible refine Calm.step (by assumption) ?_ ?_); rotate_left 1; focus (first | (simp; done) | (simp; omega) | (simp at *; omega)))))))) | (go_at_call 80; exact Calm.call_same hb (within_any _ _ _ _)))); (try simp only [Act.put, List.setIfInBounds_toArray, List.set_cons_zero, List.set_cons_succ])))
    refine wpQuiet_nil ?_
    intro w1 hb
    obtain ⟨hbc, hbf⟩ := bcell hb
    have hbz := hb.size
    (try simp at hbz)
    (try have hbz0 : w.heap.size < w1.heap.size := by omega)
    (try have hbz1 : w.heap.size + 1 < w1.heap.size := by omega)
    (try have hbz2 : w.heap.size + 1 + 1 < w1.heap.size := by omega)
    (try have hbz3 : w.heap.size + 1 + 1 + 1 < w1.heap.size := by omega)
    (try have hbz4 : w.heap.size + 1 + 1 + 1 + 1 < w1.heap.size := by omega)
    (try have hbz5 : w.heap.size + 1 + 1 + 1 + 1 + 1 < w1.heap.size := by omega)
    go_wp2_with (first | (go_at_call 86; refine (first4_any _ _ _ _ _).mono ?_; rintro r w1 ⟨rfl, rfl⟩) | (go_at_call 87; refine (when_any _ _ _).mono ?_; rintro r w1 ⟨rfl, rfl⟩))
    go_ret
    refine ⟨by first | rfl | (simp [hn]; done), ?_⟩
    repeat (first | (with_reducible exact Below.refl _ _) | ((with_reducible refine Below.setCell ?_ ?_ _); rotate_left 1; focus (first | (simp; done) | (simp; omega) | (simp at *; omega))) | ((with_reducible refine Below.alloc ?_ ?_ _); rotate_left 1; focus (first | (simp; done) | (simp; omega) | (simp at *; omega))) | (with_reducible refine Below.drew ?_) | ((with_reducible refine Calm.step (by assumption) ?_ ?_); rotate_left 1; focus (first | (simp; done) | (simp; omega) | (simp at *; omega))))
  · rw [if_neg hn]
    unfold classN at hn
    go_enter Tryd.func99, Tryd.ntmps99
    go_wp2
    refine Calm.tail_below 17 (by kernel_rfl) (by kernel_rfl) ?_
    simp only [List.take_succ_cons, List.take_zero, List.drop_succ_cons, List.drop_zero]
    repeat (first | (first | (apply Calm.op_move; (focus rfl); (focus (first | exact .inl rfl | exact .inr rfl)); (focus ((try simp only [Act.eval, Array.getD_eq_getD_getElem?, List.getElem?_toArray, List.getElem?_cons_succ, List.getElem?_cons_zero, Option.getD_some]); rfl)); (try simp only [Act.put, List.setIfInBounds_toArray, List.set_cons_zero, List.set_cons_succ])) | (apply Calm.op_not; (focus rfl); (try simp only [Act.put, List.setIfInBounds_toArray, List.set_cons_zero, List.set_cons_succ])) | (apply Calm.op; (focus rfl); (focus (intro W hb; obtain ⟨hc, hf⟩ := bcell hb; clear hb hf; go_simp; (try go_bits); (try rfl); done)); (try simp only [Act.put, List.setIfInBounds_toArray, List.set_cons_zero, List.set_cons_succ]))) | (apply Calm.op_call; (focus rfl); (focus (intro W hb; obtain ⟨hc, hf⟩ := bcell hb; clear hb hf; go_simp; refine ⟨?_, ?_⟩; rfl; rfl)); (focus (intro W hb; first | (go_at_call 23; exact Calm.call_below hb (checkDriver_any _ _ _ _ _ _ _ (hL.below (by repeat (first | (with_reducible exact Below.refl _ _) | ((with_reducible refine Below.setCell ?_ ?_ _); rotate_left 1; focus (first | (simp; done) | (simp; omega) | (simp at *; omega))) | ((with_reducible refine Below.alloc ?_ ?_ _); rotate_left 1; focus (first | (simp; done) | (simp; omega) | (simp at *; omega))) | (with_reducible refine Below.drew ?_) | ((with_reducible refine Calm.step (by assumption) ?_ ?_); rotate_left 1; focus (first | (simp; done) | (simp; omega) | (simp at *; omega)))))))) | (go_at_call 80; exact Calm.call_same hb (within_any _ _ _ _)))); (try simp only [Act.put, List.setIfInBounds_toArray, List.set_cons_zero, List.set_cons_succ])))
    refine wpQuiet_nil ?_
    intro w1 hb
    obtain ⟨hbc, hbf⟩ := bcell hb
    have hbz := hb.size
    (try simp at hbz)
    (try have hbz0 : w.heap.size < w1.heap.size := by omega)
    (try have hbz1 : w.heap.size + 1 < w1.heap.size := by omega)
    (try have hbz2 : w.heap.size + 1 + 1 < w1.heap.size := by omega)
    (try have hbz3 : w.heap.size + 1 + 1 + 1 < w1.heap.size := by omega)
    (try have hbz4 : w.heap.size + 1 + 1 + 1 + 1 < w1.heap.size := by omega)
    (try have hbz5 : w.heap.size + 1 + 1 + 1 + 1 + 1 < w1.heap.size := by omega)
    go_wp2_with (first | (go_at_call 86; refine (first4_any _ _ _ _ _).mono ?_; rintro r w1 ⟨rfl, rfl⟩) | (go_at_call 87; refine (when_any _ _ _).mono ?_; rintro r w1 ⟨rfl, rfl⟩))
    go_ret
    refine ⟨by first | rfl | (simp [hn]; done), ?_⟩
    repeat (first | (with_reducible exact Below.refl _ _) | ((with_reducible refine Below.setCell ?_ ?_ _); rotate_left 1; focus (first | (simp; done) | (simp; omega) | (simp at *; omega))) | ((with_reducible refine Below.alloc ?_ ?_ _); rotate_left 1; focus (first | (simp; done) | (simp; omega) | (simp at *; omega))) | (with_reducible refine Below.drew ?_) | ((with_reducible refine Calm.step (by assumption) ?_ ?_); rotate_left 1; focus (first | (simp; done) | (simp; omega) | (simp at *; omega))))
end Go.Proofs.YtpkldjlljoledaaDoor

/- Contract of package driver's CheckReadings. -/
namespace Go.Proofs.YtpkldjlljoledaaDoor
open Go.RowKit
open Calm (bcell Blk)

/-- the slice of these readings lies in memory (an empty one anywhere, or nowhere). -/
def RCells (w : World) (A : Option Addr) (zs : List (Int × Int × Int)) : Prop :=
  0 < zs.length → ∃ b off, A = some ⟨b, off, none⟩ ∧ b < w.heap.size ∧ ∀ k, k < zs.length → w.cell? ⟨b, off + k * 3, none⟩ = some (.int .i64 ((zs.getD k (0, 0, 0)).1)) ∧ w.cell? ⟨b, off + k * 3 + 1, none⟩ = some (.int .i64 ((zs.getD k (0, 0, 0)).2.1)) ∧ w.cell? ⟨b, off + k * 3 + 2, none⟩ = some (.int .i64 ((zs.getD k (0, 0, 0)).2.2))
theorem RCells.below {w w' : World} {A : Option Addr} {zs : List (Int × Int × Int)} (h : RCells w A zs) (hb : Below w.heap.size w w') : RCells w' A zs := by
  intro h0
  obtain ⟨b, off, hA, hl, hc⟩ := h h0
  refine ⟨b, off, hA, Nat.lt_of_lt_of_le hl hb.size, fun k hk => ?_⟩
  obtain ⟨h1, h2, h3⟩ := hc k hk
  exact ⟨(hb.cell (p := ⟨b, off + k * 3, none⟩) hl).trans h1, (hb.cell (p := ⟨b, off + k * 3 + 1, none⟩) hl).trans h2, (hb.cell (p := ⟨b, off + k * 3 + 2, none⟩) hl).trans h3⟩

/-- the first errors of readings, without their number. -/
def readErrs (zs : List (Int × Int × Int)) : List Int := zs.map fun r => readErr r.1 r.2.1 r.2.2
def readsErr (zs : List (Int × Int × Int)) : Int := if 32 < zs.length then 5 else firstOf (readErrs zs)

theorem checkReadings_long (A : Option Addr) (n c : Nat) (w : World) (h : 32 < n) (h2 : n ≤ 100000) :
    Calls Tryd.prog 100 #[.slice A n c] w fun r w' => r = .returned (.int .i64 (5)) ∧ w = w' := by
  go_enter Tryd.func100, Tryd.ntmps100
  go_wp2
  go_ret
  exact ⟨rfl, rfl⟩

set_option maxHeartbeats 2000000 in
theorem checkReadings_len (A : Option Addr) (zs : List (Int × Int × Int)) (c : Nat) (w : World) (hC : RCells w A zs) (h : zs.length ≤ 32) :
    Calls Tryd.prog 100 #[.slice A zs.length c] w fun r w' => r = .returned (.int .i64 (firstOf (readErrs zs))) ∧ Below w.heap.size w w' := by
  go_enter Tryd.func100, Tryd.ntmps100
  go_wp2
  go_loopw [11] (fun i wr => ∃ k : Nat, k ≤ zs.length ∧ i = (.int .i64 (k)) ∧ (∀ j, j < k → (readErrs zs).getD j 0 = 0) ∧ Below w.heap.size w wr) (fun i _ => zs.length - (intOf i).toNat)
  case atStart => exact ⟨0, Nat.zero_le _, rfl, fun j hj => by omega, Below.refl _ _⟩
  case round =>
    obtain ⟨k, hk, rfl, hz, hB⟩ := hrel
    have HZ := Lib.hid hz
    clear hz
    by_cases hlt : k < zs.length
    · obtain ⟨b, o, rfl, l1, k1⟩ := hC (by omega)
      obtain ⟨x1, x2, x3⟩ := k1 k hlt
      have x1 := (hB.cell (p := ⟨b, o + k * 3, none⟩) l1).trans x1
      have x2 := (hB.cell (p := ⟨b, o + k * 3 + 1, none⟩) l1).trans x2
      have x3 := (hB.cell (p := ⟨b, o + k * 3 + 2, none⟩) l1).trans x3
      have hE : (readErrs zs).getD k 0 = readErr (zs.getD k (0, 0, 0)).1 (zs.getD k (0, 0, 0)).2.1 (zs.getD k (0, 0, 0)).2.2 := by
        simp [readErrs, List.getD_eq_getElem?_getD, List.getElem?_map, List.getElem?_eq_getElem hlt]
      have HK := Lib.hid k1
      clear k1 hC
      obtain ⟨⟨x, y, z⟩, hx⟩ : ∃ x, x = zs.getD k (0, 0, 0) := ⟨_, rfl⟩
      rw [← hx] at x1 x2 x3 hE
      clear hx
      have hsz := hB.size
      simp only [] at x1 x2 x3 hE
      by_cases he : readErr x y z = 0
      · have HE := Lib.hid hE
        clear hE
        go_wp2_with (first | (go_at_call 115; refine (readCheck_any _ _ _ _).mono ?_; rintro r w1 ⟨rfl, hb⟩; obtain ⟨hc, hf⟩ := bcell hb; have hz := hb.size; (try simp at hz); (try have hz0 : w.heap.size < w1.heap.size := by omega); (try have hz1 : w.heap.size + 1 < w1.heap.size := by omega); (try have hz2 : w.heap.size + 1 + 1 < w1.heap.size := by omega); (try have hz3 : w.heap.size + 1 + 1 + 1 < w1.heap.size := by omega); (try have hz4 : w.heap.size + 1 + 1 + 1 + 1 < w1.heap.size := by omega); (try have hz5 : w.heap.size + 1 + 1 + 1 + 1 + 1 < w1.heap.size := by omega); (try have hz6 : w.heap.size + 1 + 1 + 1 + 1 + 1 + 1 < w1.heap.size := by omega)))
        go_roundw
        case rel => exact ⟨k + 1, by omega, by go_num, fun j hj => by
          rcases Nat.lt_or_ge j k with h | h
          · exact HZ.out j h
          · obtain rfl : j = k := by omega
            rw [HE.out, he], hB.trans (Below.mono (by (repeat (first | (with_reducible exact Below.refl _ _) | ((with_reducible refine Below.setCell ?_ ?_ _); rotate_left 1; focus (first | (simp; done) | (simp; omega) | (simp at *; omega))) | ((with_reducible refine Below.alloc ?_ ?_ _); rotate_left 1; focus (first | (simp; done) | (simp; omega) | (simp at *; omega))) | (with_reducible refine Below.drew ?_) | ((with_reducible refine Calm.step (by assumption) ?_ ?_); rotate_left 1; focus (first | (simp; done) | (simp; omega) | (simp at *; omega)))))) hsz)⟩
        case measure => simp [intOf]; omega
      · have HE := Lib.hid hE
        clear hE
        go_wp2_with (first | (go_at_call 115; refine (readCheck_any _ _ _ _).mono ?_; rintro r w1 ⟨rfl, hb⟩; obtain ⟨hc, hf⟩ := bcell hb; have hz := hb.size; (try simp at hz); (try have hz0 : w.heap.size < w1.heap.size := by omega); (try have hz1 : w.heap.size + 1 < w1.heap.size := by omega); (try have hz2 : w.heap.size + 1 + 1 < w1.heap.size := by omega); (try have hz3 : w.heap.size + 1 + 1 + 1 < w1.heap.size := by omega); (try have hz4 : w.heap.size + 1 + 1 + 1 + 1 < w1.heap.size := by omega); (try have hz5 : w.heap.size + 1 + 1 + 1 + 1 + 1 < w1.heap.size := by omega); (try have hz6 : w.heap.size + 1 + 1 + 1 + 1 + 1 + 1 < w1.heap.size := by omega)))
        go_ret
        refine ⟨ret_i ?_, hB.trans (Below.mono (by (repeat (first | (with_reducible exact Below.refl _ _) | ((with_reducible refine Below.setCell ?_ ?_ _); rotate_left 1; focus (first | (simp; done) | (simp; omega) | (simp at *; omega))) | ((with_reducible refine Below.alloc ?_ ?_ _); rotate_left 1; focus (first | (simp; done) | (simp; omega) | (simp at *; omega))) | (with_reducible refine Below.drew ?_) | ((with_reducible refine Calm.step (by assumption) ?_ ?_); rotate_left 1; focus (first | (simp; done) | (simp; omega) | (simp at *; omega)))))) hsz)⟩
        rw [firstOf_take HZ.out (by simpa [readErrs] using hlt) (by rw [HE.out]; exact he), HE.out]
    · go_wp2
      go_ret
      exact ⟨ret_i (firstOf_zero fun j hj => HZ.out j (by simp [readErrs] at hj; omega)).symm, hB⟩
end Go.Proofs.YtpkldjlljoledaaDoor

/- Arguments that are slices of integers, or of structs of integers: their cells. -/
namespace Go.Proofs.YtpkldjlljoledaaDoor
open Go.ChangeShapes Go.WideShapes Go.RowKit Go.Flat

section
variable {H : Type} {enc : TypeId × Value → H} {P : Program} {w : World} {base : Nat} {sp : Nat → Bool} {held : Bool}

theorem cell_lt {w : World} {b o : Nat} {v : Value} (h : w.cell? ⟨b, o, none⟩ = some v) : b < w.heap.size := by
  rcases Nat.lt_or_ge b w.heap.size with h' | h'
  · exact h'
  · unfold World.cell? at h
    rw [show w.heap[(⟨b, o, none⟩ : Addr).block]? = none from Array.getElem?_eq_none h'] at h
    cases h

/-- a slice whose elements are made of integers alone. -/
theorem open_slab (m : Nat) {t e : TypeId} {k : Nat} {fuel : Nat} {cs : List Value} {x : DataW H × List MemPlace} (ht : P.underlying t = some (.slice e)) (he : intsB P m e = true) (hk : P.cellsOf e = k) (hk0 : 0 < k)
    (h : DataW.trod enc P w base sp held fuel t cs = some x) :
    ∃ (A : Option Addr) (len cap : Nat) (zs : Nat → List Int), cs = [.slice A len cap] ∧ len ≤ cap ∧ cap ≤ maxLen ∧ (∀ i, i < len → (zs i).length = k) ∧
      (0 < len → ∃ b o, A = some ⟨b, o, none⟩ ∧ b < w.heap.size ∧ ∀ i j, i < len → j < k → w.cell? ⟨b, o + i * k + j, none⟩ = some (.int .i64 ((zs i).getD j 0))) := by
  subst hk
  rcases Deep.open_slice ht h with ⟨rfl, _⟩ | ⟨a, len, cap, m', n, D, Pl, rfl, _, h1, h2, h3, _, h4⟩
  · exact ⟨none, 0, 0, fun _ => [], rfl, Nat.le_refl _, Nat.zero_le _, fun i hi => by omega, fun h0 => by omega⟩
  · have hlm : len ≤ m' := by rw [h3]; split <;> omega
    obtain ⟨zs, hzs⟩ := Deep.choose_lt (n := len) (α := List Int) (p := fun i z => z.length = P.cellsOf e ∧ ∀ j, j < P.cellsOf e → w.cell? ((a.add (i * P.cellsOf e)).add j) = some (.int .i64 (z.getD j 0))) (fun i hi => by
      obtain ⟨cs', hc, hx⟩ := h4 i (by omega)
      obtain ⟨_, hl, hcell⟩ := World.cells?_some hc
      obtain ⟨hcs, _⟩ := cells_of_ints m he hx
      refine ⟨flat m (D i), ?_, fun j hj => ?_⟩
      · have := congrArg List.length hcs
        simp at this
        omega
      · rw [hcell j hj, hcs]
        have hj' : j < (flat m (D i)).length := by
          have := congrArg List.length hcs
          simp at this
          omega
        simp [List.getD, hj'])
    refine ⟨some a, len, cap, zs, rfl, h1, h2, fun i hi => (hzs i hi).1, fun h0 => ?_⟩
    obtain ⟨b, o, s⟩ := a
    have hs : s = none := by
      have := World.cell?_spot ((hzs 0 h0).2 0 hk0)
      simpa [Addr.add] using this
    subst hs
    refine ⟨b, o, rfl, ?_, fun i j hi hj => ?_⟩
    · have := (hzs 0 h0).2 0 hk0
      rw [add_plain, add_plain] at this
      exact cell_lt this
    · have := (hzs i hi).2 j hj
      rwa [add_plain, add_plain] at this

/-- a slice of integers. -/
theorem open_cells (m : Nat) {t e : TypeId} {fuel : Nat} {cs : List Value} {x : DataW H × List MemPlace} (ht : P.underlying t = some (.slice e)) (he : intsB P m e = true) (hk : P.cellsOf e = 1)
    (h : DataW.trod enc P w base sp held fuel t cs = some x) : ∃ (A : Option Addr) (cap : Nat) (zs : List Int), cs = [.slice A zs.length cap] ∧ zs.length ≤ cap ∧ cap ≤ maxLen ∧ Cells w A zs := by
  obtain ⟨A, len, cap, zs, rfl, h1, h2, _, h3⟩ := open_slab m ht he hk (by omega) h
  refine ⟨A, cap, (List.range len).map fun i => (zs i).getD 0 0, by simp, by simpa using h1, h2, fun h0 => ?_⟩
  obtain ⟨b, o, hA, hb, hc⟩ := h3 (by simpa using h0)
  refine ⟨b, o, hA, hb, fun k hk => ?_⟩
  have hk' : k < len := by simpa using hk
  have := hc k 0 hk' (by omega)
  simp only [Nat.mul_one, Nat.add_zero] at this
  rw [this]
  simp [List.getD, hk']

/-- a slice of structs of three integers. -/
theorem open_rcells (m : Nat) {t e : TypeId} {fuel : Nat} {cs : List Value} {x : DataW H × List MemPlace} (ht : P.underlying t = some (.slice e)) (he : intsB P m e = true) (hk : P.cellsOf e = 3)
    (h : DataW.trod enc P w base sp held fuel t cs = some x) : ∃ (A : Option Addr) (cap : Nat) (zs : List (Int × Int × Int)), cs = [.slice A zs.length cap] ∧ zs.length ≤ cap ∧ cap ≤ maxLen ∧ RCells w A zs := by
  obtain ⟨A, len, cap, zs, rfl, h1, h2, _, h3⟩ := open_slab m ht he hk (by omega) h
  refine ⟨A, cap, (List.range len).map fun i => ((zs i).getD 0 0, (zs i).getD 1 0, (zs i).getD 2 0), by simp, by simpa using h1, h2, fun h0 => ?_⟩
  obtain ⟨b, o, hA, hb, hc⟩ := h3 (by simpa using h0)
  refine ⟨b, o, hA, hb, fun k hk => ?_⟩
  have hk' : k < len := by simpa using hk
  have e0 := hc k 0 hk' (by omega)
  have e1 := hc k 1 hk' (by omega)
  have e2 := hc k 2 hk' (by omega)
  simp only [Nat.add_zero] at e0
  rw [e0, e1, e2]
  simp [List.getD, hk']
end
end Go.Proofs.YtpkldjlljoledaaDoor

/- More for regions whose head makes memory: a slice of its own. -/
namespace Go.Proofs.YtpkldjlljoledaaDoor.Rel
open Go.RowKit
variable {P : Program} {DS : List Tmp} {w0 : World} {a0 : Act} {T : Ctx → Prop} {Γ : Ctx} {o : Oper} {rest : List Oper}
/-- A new slice that holds just these cells. -/
def NewS (B n c : Nat) (cs : Array Value) : Know := fun u W => ∃ g, u = .slice (some ⟨g, 0, none⟩) n c ∧ B ≤ g ∧ Calm.Blk W g cs
theorem stable_newS (B n c : Nat) (cs : Array Value) : Stable (NewS B n c cs) := fun _ _ _ ⟨g, h1, h2, h3⟩ hb => ⟨g, h1, h2, h3.below hb⟩
theorem build (t : TypeId) (n c : Nat) (cs : Array Value) (hg : o.guard = none)
    (h : ∀ (a : Act) (W : World), Below w0.heap.size w0 W → deps Γ a W (o.after.toList.map (·.on)) → (∀ t, t ∉ DS → a.eval (.tmp t) = a0.eval (.tmp t)) → (execOp a.eval o).run P W = .ok (.value (.slice (some ⟨W.heap.size, 0, none⟩) n c)) (W.alloc (.cells cs t)))
    (hn : walk2 P DS w0 a0 T (Γ ++ [(o.dst, NewS w0.heap.size n c cs)]) rest) : walk2 P DS w0 a0 T Γ (o :: rest) :=
  ⟨_, stable_newS _ n c cs, hg, fun a W hb hd hbase K Q hK => by
    unfold Oper.wp
    rw [h a W hb hd hbase]
    exact hK _ _ ⟨_, rfl, hb.size, Calm.Blk.new W t cs⟩ ((Below.refl _ _).alloc (Nat.le_refl _) _), hn⟩
end Go.Proofs.YtpkldjlljoledaaDoor.Rel
namespace Go.Proofs.YtpkldjlljoledaaDoor.Calm
open Go.RowKit
theorem Blk.of {w w' : World} {B g : Nat} {cs : Array Value} (h : Blk w g cs) (hg : g < B) (hb : Below B w w') : Blk w' g cs :=
  ⟨Nat.lt_of_lt_of_le h.lt hb.size, fun i => (hb.cell (p := ⟨g, i, none⟩) hg).trans (h.c i), fun i => (hb.frozen (p := ⟨g, i, none⟩) hg).trans (h.f i)⟩
end Go.Proofs.YtpkldjlljoledaaDoor.Calm

/- The law of 'for x := range seq' over an iterator that keeps a variable of its own in cells; the body never leaves the loop. -/
namespace Go.Proofs.YtpkldjlljoledaaDoor
open Go.RowKit

/-- Whatever lies in a block of S lies as it lay. -/
def Same (S : Nat → Prop) (W W' : World) : Prop := ∀ k o, S k → W.heap[k]? = some o → W'.heap[k]? = some o
theorem Same.refl (S : Nat → Prop) (W : World) : Same S W W := fun _ _ _ h => h
theorem Same.trans {S : Nat → Prop} {A B C : World} (h : Same S A B) (k : Same S B C) : Same S A C := fun i o hi ho => k i o hi (h i o hi ho)
theorem Same.alloc {S : Nat → Prop} {W W' : World} (h : Same S W W') (o : Obj) : Same S W (W'.alloc o) := fun k o1 hk ho => by
  have h1 := h k o1 hk ho
  exact (Below.heap_alloc _ _ _ (Array.getElem?_eq_some_iff.1 h1).1).trans h1
theorem Same.setCell {S : Nat → Prop} {W W' : World} (h : Same S W W') {p : Addr} (hp : ¬ S p.block) (u : Value) : Same S W (W'.setCell p u) := fun k o1 hk ho =>
  (Below.heap_setCell _ _ _ _ (fun e => hp (e ▸ hk))).trans (h k o1 hk ho)
theorem Same.drew {S : Nat → Prop} {W W' : World} (h : Same S W W') : Same S W W'.drew := h
theorem Same.below {S : Nat → Prop} {W W' W2 : World} (h : Same S W W') {B : Nat} (hb : Below B W' W2) (hS : ∀ k, S k → k < B) : Same S W W2 := fun k o1 hk ho =>
  (hb.block k (hS k hk)).trans (h k o1 hk ho)
theorem Same.grown {S : Nat → Prop} {W W' W2 : World} {row : Option Nat} (h : Same S W W') (hg : W'.grownBy W2 row) (hr : ∀ k, row = some k → ¬ S k) : Same S W W2 := fun k o1 hk ho => by
  have h1 := h k o1 hk ho
  exact (hg.block k (Array.getElem?_eq_some_iff.1 h1).1 (fun e => hr k e.symm hk)).trans h1
theorem Same.eq {S : Nat → Prop} {W W' : World} (h : Same S W W') {k : Nat} (hk : S k) (hl : k < W.heap.size) : W'.heap[k]? = W.heap[k]? := by
  have e := Array.getElem?_eq_getElem hl
  rw [h k _ hk e, e]

/-- The contract of an iterator that is entered with a heap of the size W.heap.size and lays its own block there; block Cb is read. -/
def Iter {α : Type} (F : Fence) (n : Nat) (P : Program) (g : Nat) (lb : Array Value) (enc : α → Value) (all : List α) (Cb : Nat) (w : World) : Prop :=
  ∀ (l : Nat) (J : List α → World → Prop) (W : World), W.heap[Cb]? = w.heap[Cb]? → Cb < w.heap.size → w.heap.size ≤ W.heap.size →
    (∀ pre W1 o, J pre W1 → J pre (W1.alloc o)) →
    (∀ pre W1 i v, J pre W1 → J pre (W1.setCell ⟨W.heap.size, i, none⟩ v)) →
    (∀ pre x W1, J pre W1 → W.heap.size < W1.heap.size → W1.heap[Cb]? = w.heap[Cb]? → (∃ post, all = pre ++ x :: post) →
      YieldAt F (n - 1) P l #[enc x] W1 fun e W' => e = .returned (.bool true) ∧ J (pre ++ [x]) W' ∧ W'.heap[W.heap.size]? = W1.heap[W.heap.size]? ∧ W'.heap[Cb]? = W1.heap[Cb]?) →
    J [] W →
    CallsIn F n P g (#[.func (.yield l) #[] #[]] ++ lb) W fun e W' => (∃ v, e = .returned v) ∧ J all W'

/-- How a body that never leaves the loop may end. -/
def iterPost (S : Nat → Prop) (W : World) (I : World → Prop) : Exit → Act → World → Prop
  | .normal, _, W' => Same S W W' ∧ I W'
  | _, _, _ => False

/-- the blocks that a round must leave alone: the three of the loop, from B on, and Cb. -/
def roundS (Cb B : Nat) (k : Nat) : Prop := k = Cb ∨ k = B ∨ k = B + 1 ∨ k = B + 2

theorem range_iter {F : Fence} {n : Nat} {P : Program} {α : Type} {g : Operand} {ps : Array Tmp} {assign body : Code} {Q : Exit → Act → World → Prop} {a : Act} {w : World}
    (hro : F.round = none) (h1 : 1 ≤ n) {gf : Nat} {lb : Array Value} (hg : a.eval g = .func (.func gf) #[] lb) (hFg : F.fn gf) (eg : ∀ args w, (callFunc gf args).run P w = .ok (.enter gf args) w)
    {enc : α → Value} {all : List α} {Cb : Nat} (hC : Cb < w.heap.size) (hseq : Iter F (n - 1) P gf lb enc all Cb w) (hps : ps.size = 1)
    (I : List α → World → Prop) (hI : OwnFrom w.heap.size I) (hIs : ∀ pre W i v, I pre W → I pre (W.setCell ⟨w.heap.size + 2, i, none⟩ v)) (h0 : I [] w)
    (Ax : List α → α → Act → World → Prop) (hAx : ∀ pre x a', OwnFrom w.heap.size (fun (_ : Unit) W => Ax pre x a' W))
    (hassign : ∀ (l : Nat) (pre : List α) (x : α) (W : World), I pre W → (∃ post, all = pre ++ x :: post) → w.heap.size + 2 < W.heap.size → W.heap[Cb]? = w.heap[Cb]? →
      assign.wpIn (F.inRound l) (n - 1 - 1) P (Exit.then (fun a' W' => Same (roundS Cb w.heap.size) W W' ∧ Ax pre x a' W') (fun _ _ _ => False)) { tmps := (ps.zip #[enc x]).foldl (fun t (p, v) => t.setIfInBounds p v) a.tmps, defers := [] } W)
    (hbody : ∀ (l : Nat) (pre : List α) (x : α) (a' : Act) (W : World), Ax pre x a' W → (∃ post, all = pre ++ x :: post) → w.heap.size + 2 < W.heap.size → W.heap[Cb]? = w.heap[Cb]? →
      body.wpIn (F.inRound l) (n - 1 - 1) P (iterPost (roundS Cb w.heap.size) W (I (pre ++ [x]))) a' W)
    (hdone : ∀ (W : World), I all W → W.heap[w.heap.size]? = some (.deferred (some [])) → Q .normal { a with defers := { target := .collected w.heap.size, args := #[] } :: a.defers } W) :
    (Code.rangeFunc g ps assign body).wpIn F n P Q a w := by
  refine wpIn_rangeFunc ?_
  intro fn hfn
  rw [hro]
  obtain ⟨rec, hrec⟩ : ∃ rec : LoopState → Option Code → Loop, rec = fun st pe => { state := st, pending := pe, fn, tmps := a.tmps, params := ps, assign, body, defers := w.heap.size } := ⟨_, rfl⟩
  obtain ⟨W1, hW1⟩ : ∃ W1, (w.alloc (.deferred (some []))).alloc (.loop (rec .ready none)) = W1 := ⟨_, rfl⟩
  have hL1 : W1.heap[w.heap.size + 1]? = some (.loop (rec .ready none)) := by
    rw [← hW1]; have := World.alloc_heap_new (w.alloc (.deferred (some []))) (.loop (rec .ready none)); rwa [World.size_alloc] at this
  have hK1 : W1.heap[w.heap.size]? = some (.deferred (some [])) := by
    rw [← hW1]; exact (Below.heap_alloc _ _ _ (by simp)).trans (World.alloc_heap_new w _)
  have hI1 : I [] W1 := by rw [← hW1]; exact hI.alloc _ (hI.alloc _ h0)
  have hC1 : W1.heap[Cb]? = w.heap[Cb]? := by
    rw [← hW1, Below.heap_alloc _ _ _ (by simp; omega), Below.heap_alloc _ _ _ hC]
  have hs1 : W1.heap.size = w.heap.size + 2 := by rw [← hW1]; simp
  refine ⟨w.heap.size + 1, [{ target := .collected w.heap.size, args := #[] }], W1, { target := .fn (.func gf) lb, args := #[.func (.yield (w.heap.size + 1)) #[] #[]] }, W1, gf,
    #[.func (.yield (w.heap.size + 1)) #[] #[]] ++ lb, W1, ?_, ?_, ?_, ?_, fun _ => h1, ?_⟩
  · rw [← hW1, hrec]; exact run_enterLoop_outer _ _ _ _ _
  · simp only [resolve, hg]
    simp [go_sem]
  · intro f' hf'; simp [Target.leads] at hf'; subst hf'; exact hFg
  · simp [invoke, go_sem, eg]
  · refine (hseq (w.heap.size + 1)
      (fun pre W => I pre W ∧ W.heap[w.heap.size + 1]? = some (.loop (rec .ready none)) ∧ W.heap[w.heap.size]? = some (.deferred (some [])))
      W1 hC1 hC (by omega)
      (fun pre A o hs => ⟨hI.alloc _ hs.1, (Below.heap_alloc _ _ _ (Array.getElem?_eq_some_iff.1 hs.2.1).1).trans hs.2.1, (Below.heap_alloc _ _ _ (Array.getElem?_eq_some_iff.1 hs.2.2).1).trans hs.2.2⟩)
      (fun pre A i v hs => ⟨by rw [hs1]; exact hIs _ _ _ _ hs.1, (Below.heap_setCell _ _ _ _ (by rw [hs1]; intro e; simp at e)).trans hs.2.1, (Below.heap_setCell _ _ _ _ (by rw [hs1]; intro e; simp at e)).trans hs.2.2⟩)
      ?_ ⟨hI1, hL1, hK1⟩).mono ?_
    · -- ONE ROUND
      rintro pre x W ⟨hi, hl, hk⟩ hsz hcb hpost
      rw [hs1] at hsz ⊢
      have hlt : w.heap.size + 1 < W.heap.size := by omega
      have hy := run_yield (P := P) (args := #[enc x]) hl (by rw [hrec]; simp [hps])
      rw [hrec] at hy
      refine ⟨fn, _, assign, body, hy, roundIn_of_wpIn hfn (wpIn_mono (hassign _ pre x W hi hpost hsz hcb) ?_)⟩
      clear hy
      rintro e a' Wa hq
      cases e with
      | normal =>
        obtain ⟨hS, hax⟩ := hq
        have hl' := hS _ _ (.inr (.inr (.inl rfl))) hl
        have hk' := hS _ _ (.inr (.inl rfl)) hk
        have hsz' : w.heap.size + 2 < Wa.heap.size := by
          have := hS (w.heap.size + 2) _ (.inr (.inr (.inr rfl))) (Array.getElem?_eq_getElem hsz)
          exact (Array.getElem?_eq_some_iff.1 this).1
        have hcl : Cb < W.heap.size := by omega
        have hcb' : Wa.heap[Cb]? = w.heap[Cb]? := (hS.eq (.inl rfl) hcl).trans hcb
        have hD' : Wa.heap[w.heap.size + 2]? = W.heap[w.heap.size + 2]? := hS.eq (.inr (.inr (.inr rfl))) hsz
        refine ⟨_, run_beginRound hl' (by rw [hrec]), ?_⟩
        obtain ⟨Wb, hWb⟩ : ∃ Wb, Wa.putObj (w.heap.size + 1) (.loop { rec .ready none with state := .busy }) = Wb := ⟨_, rfl⟩
        have hl2 : Wb.heap[w.heap.size + 1]? = some (.loop { rec .ready none with state := .busy }) := by rw [← hWb]; exact World.putObj_heap_same (by omega)
        have hk2 : Wb.heap[w.heap.size]? = some (.deferred (some [])) := by rw [← hWb]; exact (World.putObj_heap_other (by omega)).trans hk'
        have hcb2 : Wb.heap[Cb]? = w.heap[Cb]? := by rw [← hWb]; exact (World.putObj_heap_other (by omega)).trans hcb'
        have hD2 : Wb.heap[w.heap.size + 2]? = W.heap[w.heap.size + 2]? := by rw [← hWb]; exact (World.putObj_heap_other (by omega)).trans hD'
        have hsz2 : w.heap.size + 2 < Wb.heap.size := by rw [← hWb]; simpa using hsz'
        have hax2 : Ax pre x a' Wb := by rw [← hWb]; exact (hAx pre x a').putObj (s := ()) _ hax (by omega) hl' rfl
        show body.wpIn _ _ _ _ _ (Wa.putObj (w.heap.size + 1) (.loop { rec .ready none with state := .busy }))
        rw [hWb]
        refine wpIn_mono (hbody _ pre x a' Wb hax2 hpost hsz2 hcb2) ?_
        rintro e a3 W3 hp
        cases e with
        | normal =>
          obtain ⟨hS3, hi3⟩ := hp
          have hl3 := hS3 _ _ (.inr (.inr (.inl rfl))) hl2
          have hk3 := hS3 _ _ (.inr (.inl rfl)) hk2
          have hr := run_endRound (P := P) none hl3
          have hC3 : W3.heap[Cb]? = W.heap[Cb]? := ((hS3.eq (.inl rfl) (by omega)).trans hcb2).trans hcb.symm
          have hD3 : W3.heap[w.heap.size + 2]? = W.heap[w.heap.size + 2]? := (hS3.eq (.inr (.inr (.inr rfl))) hsz2).trans hD2
          rw [hrec] at hr
          refine ⟨_, _, hr, rfl, ⟨hI.putObj _ hi3 (by omega) hl3 rfl, ?_, ?_⟩, ?_, ?_⟩
          · rw [hrec]; exact World.putObj_heap_same (Array.getElem?_eq_some_iff.1 hl3).1
          · exact (World.putObj_heap_other (by omega)).trans hk3
          · exact (World.putObj_heap_other (by omega)).trans hD3
          · exact (World.putObj_heap_other (by omega)).trans hC3
        | exit id => exact hp.elim
        | goto t => exact hp.elim
        | ret => exact hp.elim
        | panic ch => exact hp.elim
        | outgrown => exact hp.elim
      | exit id => exact hq.elim
      | goto t => exact hq.elim
      | ret => exact hq.elim
      | panic ch => exact hq.elim
      | outgrown => exact hq.elim
    · -- BEHIND THE ITERATOR
      rintro e W2 ⟨⟨v, rfl⟩, hi, hl, hk⟩
      exact ⟨none, _, by have := run_endLoop (P := P) hl (by rw [hrec]; simp); rw [hrec] at this; exact this, hdone _ (hI.putObj _ hi (by omega) hl rfl) ((World.putObj_heap_other (by omega)).trans hk)⟩
end Go.Proofs.YtpkldjlljoledaaDoor

/- The drivers of a class as a list: plain. -/
namespace Go.Proofs.YtpkldjlljoledaaDoor
open Go.RowKit

def rowL (ma st lo : Int) (k : Nat) : List (Int × Int × Int) := (List.range k).map fun (i : Nat) => (ma, st, lo + i)
def rowS (ma st lo : Int) (L k : Nat) : List (Int × Int × Int) := (List.range k).flatMap fun (j : Nat) => rowL ma (st + j) lo L
def rowM (ma st lo : Int) (S L k : Nat) : List (Int × Int × Int) := (List.range k).flatMap fun (i : Nat) => rowS (ma + i) st lo L S
theorem rowL_succ (ma st lo : Int) (k : Nat) : rowL ma st lo (k + 1) = rowL ma st lo k ++ [(ma, st, lo + k)] := by simp [rowL, List.range_succ]
theorem rowS_succ (ma st lo : Int) (L k : Nat) : rowS ma st lo L (k + 1) = rowS ma st lo L k ++ rowL ma (st + k) lo L := by simp [rowS, List.range_succ]
theorem rowM_succ (ma st lo : Int) (S L k : Nat) : rowM ma st lo S L (k + 1) = rowM ma st lo S L k ++ rowS (ma + k) st lo L S := by simp [rowM, List.range_succ]
theorem pre_of_succ {f : Nat → List (Int × Int × Int)} (h : ∀ k, ∃ t, f (k + 1) = f k ++ t) {a b : Nat} (hab : a ≤ b) : ∃ t, f b = f a ++ t := by
  induction hab with
  | refl => exact ⟨[], by simp⟩
  | step _ ih =>
    obtain ⟨t, ht⟩ := ih
    obtain ⟨t', ht'⟩ := h _
    exact ⟨t ++ t', by rw [ht', ht, List.append_assoc]⟩
theorem row_next (ma st lo : Int) (M S L i j k : Nat) (hi : i < M) (hj : j < S) (hk : k < L) :
    ∃ post, rowM ma st lo S L M = (rowM ma st lo S L i ++ rowS (ma + i) st lo L j ++ rowL (ma + i) (st + j) lo k) ++ (ma + i, st + j, lo + k) :: post := by
  obtain ⟨t1, h1⟩ := pre_of_succ (f := rowM ma st lo S L) (fun k => ⟨_, rowM_succ _ _ _ _ _ _⟩) (show i + 1 ≤ M from hi)
  obtain ⟨t2, h2⟩ := pre_of_succ (f := rowS (ma + i) st lo L) (fun k => ⟨_, rowS_succ _ _ _ _ _⟩) (show j + 1 ≤ S from hj)
  obtain ⟨t3, h3⟩ := pre_of_succ (f := rowL (ma + i) (st + j) lo) (fun k => ⟨_, rowL_succ _ _ _ _⟩) (show k + 1 ≤ L from hk)
  refine ⟨t3 ++ (t2 ++ t1), ?_⟩
  rw [h1, rowM_succ, h2, rowS_succ, h3, rowL_succ]
  simp
/-- the drivers of a class, in the order of the program. -/
def drvs (ma st lo m k r : Int) : List (Int × Int × Int) := rowM ma st lo (k + 1 - st).toNat (r + 1 - lo).toNat (m + 1 - ma).toNat
theorem mem_drvs {ma st lo m k r : Int} {x : Int × Int × Int} (h : x ∈ drvs ma st lo m k r) : (ma ≤ x.1 ∧ x.1 ≤ m) ∧ (st ≤ x.2.1 ∧ x.2.1 ≤ k) ∧ (lo ≤ x.2.2 ∧ x.2.2 ≤ r) := by
  simp only [drvs, rowM, rowS, rowL, List.mem_flatMap, List.mem_map, List.mem_range] at h
  obtain ⟨i, hi, j, hj, l, hl, rfl⟩ := h
  simp only
  omega
theorem drvs_len (ma st lo m k r : Int) : (drvs ma st lo m k r).length = (m + 1 - ma).toNat * ((k + 1 - st).toNat * (r + 1 - lo).toNat) := by
  have e : ∀ (l : List Nat) (n : Nat), (l.map fun _ => n).sum = l.length * n := by
    intro l n
    induction l with
    | nil => simp
    | cons a l ih => simp [ih, Nat.succ_mul, Nat.add_comm]
  simp [drvs, rowM, rowS, rowL, List.length_flatMap, e]
end Go.Proofs.YtpkldjlljoledaaDoor

/- Contracts of (Class).drivers and of the iterator that it hands out. -/
namespace Go.Proofs.YtpkldjlljoledaaDoor
open Go.RowKit
open Calm (bcell Blk)

theorem Calm.Blk.set {w : World} {g : Nat} {cs : Array Value} (h : Blk w g cs) {i : Nat} (hi : i < cs.size) (v : Value) : Blk (w.setCell ⟨g, i, none⟩ v) g (cs.setIfInBounds i v) := by
  refine ⟨by simpa using h.lt, fun j => ?_, fun j => by rw [World.frozen?_setCell]; exact h.f j⟩
  by_cases hj : j = i
  · subst hj
    rw [World.cell?_setCell_same' _ _ _ (by rw [h.c]; simp [hi])]
    simp [hi]
  · rw [World.cell?_setCell_other _ _ _ _ (by intro e; cases e; exact hj rfl), h.c]
    rw [Array.getElem?_setIfInBounds_ne (by omega)]
theorem Calm.Blk.of_block {w w' : World} {g : Nat} {cs : Array Value} (h : Blk w g cs) (e : w'.heap[g]? = w.heap[g]?) : Blk w' g cs := by
  refine ⟨?_, fun i => ?_, fun i => ?_⟩
  · have h1 := Array.getElem?_eq_getElem h.lt
    rw [h1] at e
    exact (Array.getElem?_eq_some_iff.1 e).1
  · exact (World.cell?_of_block (w := w) (a := ⟨g, i, none⟩) e).trans (h.c i)
  · exact (World.frozen?_of_block (w := w) (a := ⟨g, i, none⟩) e).trans (h.f i)

theorem drivers_any (re le bl ma st lo m k r : Int) (w : World) :
    Calls Tryd.prog 103 #[.agg #[(.int .i64 (re)), (.int .i64 (le)), (.int .i64 (bl)), (.int .i64 (ma)), (.int .i64 (st)), (.int .i64 (lo)), (.int .i64 (m)), (.int .i64 (k)), (.int .i64 (r))]] w fun e w' => e = .returned (.func (.func 118) #[] #[.pointer (some ⟨w.heap.size, 0, none⟩)]) ∧
      Below w.heap.size w w' ∧ Blk w' w.heap.size #[(.int .i64 (re)), (.int .i64 (le)), (.int .i64 (bl)), (.int .i64 (ma)), (.int .i64 (st)), (.int .i64 (lo)), (.int .i64 (m)), (.int .i64 (k)), (.int .i64 (r))] := by
  go_enter Tryd.func103, Tryd.ntmps103
  go_wp2
  go_ret
  exact ⟨by first | rfl | (simp; done), by (repeat (first | (with_reducible exact Below.refl _ _) | ((with_reducible refine Below.setCell ?_ ?_ _); rotate_left 1; focus (first | (simp; done) | (simp; omega) | (simp at *; omega))) | ((with_reducible refine Below.alloc ?_ ?_ _); rotate_left 1; focus (first | (simp; done) | (simp; omega) | (simp at *; omega))) | (with_reducible refine Below.drew ?_) | ((with_reducible refine Calm.step (by assumption) ?_ ?_); rotate_left 1; focus (first | (simp; done) | (simp; omega) | (simp at *; omega))))), by (repeat (first | ((with_reducible refine Blk.at_ ?_); focus (first | rfl | (simp; done) | (simp; omega))) | (with_reducible refine Blk.alloc ?_ _) | (with_reducible refine Blk.below ?_ (by with_reducible assumption)) | (with_reducible refine Blk.drew ?_)))⟩

/-- a driver of the class as the program hands it over. -/
def encD (re le bl : Int) (x : Int × Int × Int) : Value := .agg #[(.int .i64 (re)), (.int .i64 (le)), (.int .i64 (bl)), (.int .i64 (x.1)), (.int .i64 (x.2.1)), (.int .i64 (x.2.2))]

set_option maxRecDepth 100000 in
set_option maxHeartbeats 4000000 in
theorem drivers1_iter (re le bl ma st lo m k r : Int) (Cb : Nat) (w : World) (n : Nat) (h1 : (1 ≤ ma ∧ ma ≤ 100) ∧ (1 ≤ st ∧ st ≤ 5000) ∧ (1 ≤ lo ∧ lo ≤ 100)) (h2 : m ≤ 100 ∧ k ≤ 5000 ∧ r ≤ 100)
    (hK : Blk w Cb #[(.int .i64 (re)), (.int .i64 (le)), (.int .i64 (bl)), (.int .i64 (ma)), (.int .i64 (st)), (.int .i64 (lo)), (.int .i64 (m)), (.int .i64 (k)), (.int .i64 (r))]) :
    Iter Fence.wide n Tryd.prog 118 #[.pointer (some ⟨Cb, 0, none⟩)] (encD re le bl) (drvs ma st lo m k r) Cb w := by
  intro l J W hCW hCl hle hJa hJs hY h0
  have K := Calm.Blk.of_block hK hCW
  have hne : ¬ W.heap.size = Cb := by omega
  have hne2 : ¬ Cb = W.heap.size := by omega
  have hlt : Cb < W.heap.size := by omega
  have HCW := Lib.hid hCW
  have HJA := Lib.hid hJa
  have HJS := Lib.hid hJs
  have HK := Lib.hid hK
  clear hCW hJa hJs hK
  have c0 := K.cell 0 (.int .i64 (re)) rfl
  have c1 := K.cell 1 (.int .i64 (le)) rfl
  have c2 := K.cell 2 (.int .i64 (bl)) rfl
  have c3 := K.cell 3 (.int .i64 (ma)) rfl
  have c4 := K.cell 4 (.int .i64 (st)) rfl
  have c5 := K.cell 5 (.int .i64 (lo)) rfl
  have c6 := K.cell 6 (.int .i64 (m)) rfl
  have c7 := K.cell 7 (.int .i64 (k)) rfl
  have c8 := K.cell 8 (.int .i64 (r)) rfl
  refine callsIn_of_wp Tryd.func118 rfl trivial ?_ rfl
  simp only [Tryd.ntmps118, List.size_toArray, List.length_cons, List.length_nil, Nat.reduceAdd, Nat.reduceSub, Array.replicate_succ, Array.replicate_zero, List.push_toArray, List.append_toArray, List.nil_append, List.cons_append]
  obtain ⟨M, hM⟩ : ∃ M, M = (m + 1 - ma).toNat := ⟨_, rfl⟩
  obtain ⟨S, hS⟩ : ∃ S, S = (k + 1 - st).toNat := ⟨_, rfl⟩
  obtain ⟨L, hL⟩ : ∃ L, L = (r + 1 - lo).toNat := ⟨_, rfl⟩
  have hall : drvs ma st lo m k r = rowM ma st lo S L M := by rw [hM, hS, hL]; rfl
  rw [hall] at hY ⊢
  have HY := Lib.hid hY
  have HM := Lib.hid hM
  have HS := Lib.hid hS
  have HL := Lib.hid hL
  clear hall hM hS hL hY
  obtain ⟨⟨a1, a2⟩, ⟨a3, a4⟩, ⟨a5, a6⟩⟩ := h1
  obtain ⟨a7, a8, a9⟩ := h2
  have hM2 : (M : Int) ≤ 100 := by have := HM.out; omega
  have hS2 : (S : Int) ≤ 5000 := by have := HS.out; omega
  have hL2 : (L : Int) ≤ 100 := by have := HL.out; omega
  gi_wp2
  gi_loopw [10] (fun _ wr => ∃ (i : Nat) (x y : Int), i ≤ M ∧ Blk wr W.heap.size #[(.int .i64 (re)), (.int .i64 (le)), (.int .i64 (bl)), (.int .i64 (ma + i)), (.int .i64 (x)), (.int .i64 (y))] ∧ J (rowM ma st lo S L i) wr ∧ wr.heap[Cb]? = w.heap[Cb]?) (fun _ wr => (m + 1 - intOf ((wr.cell? ⟨W.heap.size, 3, none⟩).getD undef)).toNat)
  case atStart =>
    exact ⟨0, st, lo, Nat.zero_le _, by simpa using Blk.new _ _ _, by show J [] _; exact HJA.out _ _ _ h0, (Below.heap_alloc _ _ _ hlt).trans HCW.out⟩
  case round =>
    obtain ⟨i, x, y, hi, K1, hJ1, hC1⟩ := hrel
    have Kc1 := Calm.Blk.of_block HK.out hC1
    clear c0 c1 c2 c3 c4 c5 c6 c7 c8
    have d0 := K1.cell 0 (.int .i64 (re)) rfl
    have d1 := K1.cell 1 (.int .i64 (le)) rfl
    have d2 := K1.cell 2 (.int .i64 (bl)) rfl
    have d3 := K1.cell 3 (.int .i64 (ma + i)) rfl
    have d4 := K1.cell 4 (.int .i64 (x)) rfl
    have d5 := K1.cell 5 (.int .i64 (y)) rfl
    have c3 := Kc1.cell 3 (.int .i64 (ma)) rfl
    have c4 := Kc1.cell 4 (.int .i64 (st)) rfl
    have c5 := Kc1.cell 5 (.int .i64 (lo)) rfl
    have c6 := Kc1.cell 6 (.int .i64 (m)) rfl
    have c7 := Kc1.cell 7 (.int .i64 (k)) rfl
    have c8 := Kc1.cell 8 (.int .i64 (r)) rfl
    have df := K1.f
    by_cases hi2 : i < M
    · have hi3 : ma + i ≤ m := by have := HM.out; omega
      gi_wp2
      gi_loopw [23] (fun _ wr => ∃ (j : Nat) (y : Int), j ≤ S ∧ Blk wr W.heap.size #[(.int .i64 (re)), (.int .i64 (le)), (.int .i64 (bl)), (.int .i64 (ma + i)), (.int .i64 (st + j)), (.int .i64 (y))] ∧ J (rowM ma st lo S L i ++ rowS (ma + i) st lo L j) wr ∧ wr.heap[Cb]? = w.heap[Cb]?) (fun _ wr => (k + 1 - intOf ((wr.cell? ⟨W.heap.size, 4, none⟩).getD undef)).toNat)
      case atStart =>
        exact ⟨0, y, Nat.zero_le _, by simpa using K1.set (i := 4) (by simp) (.int .i64 (st)), by have := HJS.out _ _ 4 (.int .i64 (st)) hJ1; simpa [rowS] using this, (Below.heap_setCell _ _ _ _ hne2).trans hC1⟩
      case round =>
        obtain ⟨j, y2, hj, K2, hJ2, hC2⟩ := hrel
        have Kc2 := Calm.Blk.of_block HK.out hC2
        clear d0 d1 d2 d3 d4 d5 df c3 c4 c5 c6 c7 c8
        have d0 := K2.cell 0 (.int .i64 (re)) rfl
        have d1 := K2.cell 1 (.int .i64 (le)) rfl
        have d2 := K2.cell 2 (.int .i64 (bl)) rfl
        have d3 := K2.cell 3 (.int .i64 (ma + i)) rfl
        have d4 := K2.cell 4 (.int .i64 (st + j)) rfl
        have d5 := K2.cell 5 (.int .i64 (y2)) rfl
        have c3 := Kc2.cell 3 (.int .i64 (ma)) rfl
        have c4 := Kc2.cell 4 (.int .i64 (st)) rfl
        have c5 := Kc2.cell 5 (.int .i64 (lo)) rfl
        have c6 := Kc2.cell 6 (.int .i64 (m)) rfl
        have c7 := Kc2.cell 7 (.int .i64 (k)) rfl
        have c8 := Kc2.cell 8 (.int .i64 (r)) rfl
        have df := K2.f
        by_cases hj2 : j < S
        · have hj3 : st + j ≤ k := by have := HS.out; omega
          gi_wp2
          gi_loopw [36] (fun _ wr => ∃ kk : Nat, kk ≤ L ∧ Blk wr W.heap.size #[(.int .i64 (re)), (.int .i64 (le)), (.int .i64 (bl)), (.int .i64 (ma + i)), (.int .i64 (st + j)), (.int .i64 (lo + kk))] ∧ J (rowM ma st lo S L i ++ rowS (ma + i) st lo L j ++ rowL (ma + i) (st + j) lo kk) wr ∧ wr.heap[Cb]? = w.heap[Cb]?) (fun _ wr => (r + 1 - intOf ((wr.cell? ⟨W.heap.size, 5, none⟩).getD undef)).toNat)
          case atStart =>
            exact ⟨0, Nat.zero_le _, by simpa using K2.set (i := 5) (by simp) (.int .i64 (lo)), by have := HJS.out _ _ 5 (.int .i64 (lo)) hJ2; simpa [rowL] using this, (Below.heap_setCell _ _ _ _ hne2).trans hC2⟩
          case round =>
            obtain ⟨kk, hk, K3, hJ3, hC3⟩ := hrel
            have Kc3 := Calm.Blk.of_block HK.out hC3
            clear d0 d1 d2 d3 d4 d5 df c3 c4 c5 c6 c7 c8
            have d0 := K3.cell 0 (.int .i64 (re)) rfl
            have d1 := K3.cell 1 (.int .i64 (le)) rfl
            have d2 := K3.cell 2 (.int .i64 (bl)) rfl
            have d3 := K3.cell 3 (.int .i64 (ma + i)) rfl
            have d4 := K3.cell 4 (.int .i64 (st + j)) rfl
            have d5 := K3.cell 5 (.int .i64 (lo + kk)) rfl
            have c3 := Kc3.cell 3 (.int .i64 (ma)) rfl
            have c4 := Kc3.cell 4 (.int .i64 (st)) rfl
            have c5 := Kc3.cell 5 (.int .i64 (lo)) rfl
            have c6 := Kc3.cell 6 (.int .i64 (m)) rfl
            have c7 := Kc3.cell 7 (.int .i64 (k)) rfl
            have c8 := Kc3.cell 8 (.int .i64 (r)) rfl
            have df := K3.f
            by_cases hk2 : kk < L
            · have hk3 : lo + kk ≤ r := by have := HL.out; omega
              obtain ⟨fn, tmps, assign, body, hy, hR⟩ := HY.out _ (ma + i, st + j, lo + kk) wr hJ3 K3.lt hC3 (row_next ma st lo M S L i j kk hi2 hj2 hk2)
              dsimp only [encD] at hy
              gi_wp2
              refine ⟨fun h => by simp [Fence.wide] at h, hR.mono ?_⟩
              rintro e W3 ⟨rfl, hJ4, hD4, hC4⟩
              have K4 := Calm.Blk.of_block K3 hD4
              have hC5 := hC4.trans hC3
              have e1 : lo + ((kk + 1 : Nat) : Int) = lo + kk + 1 := by omega
              have HE1 := Lib.hid e1
              clear e1 d0 d1 d2 d3 d4 d5 df c3 c4 c5 c6 c7 c8
              have d5 := K4.cell 5 (.int .i64 (lo + kk)) rfl
              have df := K4.f
              gi_wp2
              go_roundw
              case rel =>
                refine ⟨kk + 1, by omega, ?_, ?_, (Below.heap_setCell _ _ _ _ hne2).trans hC5⟩
                · rw [HE1.out]; exact K4.set (i := 5) (by simp) (.int .i64 (lo + kk + 1))
                · rw [rowL_succ, ← List.append_assoc]; exact HJS.out _ _ _ _ hJ4
              case measure =>
                rw [(K4.set (i := 5) (by simp) (.int .i64 (lo + kk + 1))).c 5, K3.c 5]; simp [intOf]; omega
            · obtain rfl : kk = L := by omega
              have hk3 : ¬ lo + kk ≤ r := by have := HL.out; omega
              have e1 : st + ((j + 1 : Nat) : Int) = st + j + 1 := by omega
              have HE1 := Lib.hid e1
              clear e1
              gi_wp2
              go_roundw
              case rel =>
                refine ⟨j + 1, lo + kk, by omega, ?_, ?_, (Below.heap_setCell _ _ _ _ hne2).trans hC3⟩
                · rw [HE1.out]; exact K3.set (i := 4) (by simp) (.int .i64 (st + j + 1))
                · rw [rowS_succ, ← List.append_assoc]; exact HJS.out _ _ _ _ hJ3
              case measure =>
                rw [(K3.set (i := 4) (by simp) (.int .i64 (st + j + 1))).c 4, K2.c 4]; simp [intOf]; omega
        · obtain rfl : j = S := by omega
          have hj3 : ¬ st + j ≤ k := by have := HS.out; omega
          have e1 : ma + ((i + 1 : Nat) : Int) = ma + i + 1 := by omega
          have HE1 := Lib.hid e1
          clear e1
          gi_wp2
          go_roundw
          case rel =>
            refine ⟨i + 1, st + j, y2, by omega, ?_, ?_, (Below.heap_setCell _ _ _ _ hne2).trans hC2⟩
            · rw [HE1.out]; exact K2.set (i := 3) (by simp) (.int .i64 (ma + i + 1))
            · rw [rowM_succ]; exact HJS.out _ _ _ _ hJ2
          case measure =>
            rw [(K2.set (i := 3) (by simp) (.int .i64 (ma + i + 1))).c 3, K1.c 3]; simp [intOf]; omega
    · obtain rfl : i = M := by omega
      have hi3 : ¬ ma + i ≤ m := by have := HM.out; omega
      gi_wp2
      go_end0
      exact ⟨⟨_, rfl⟩, hJ1⟩
end Go.Proofs.YtpkldjlljoledaaDoor
