/- Part 11 of the texts of the claim: B5, B6, B1. -/
import Derived.Test.YtpkldjlljoledaaDoorNx10
import Derived.BigQuiet

/- Contracts of package driver's checks of readings and classes. -/
namespace Go.Proofs.YtpkldjlljoledaaDoor
open Go.RowKit
open Calm (bcell Blk)

/-- the first error of a reading. -/
def readErr (a b c : Int) : Int := firstOf [rangeErr a 1 8, rangeErr b 0 1000000, rangeErr c 0 1000000, if c < b then 11 else 0]
set_option maxHeartbeats 2000000 in
theorem readCheck_any (a b c : Int) (w : World) :
    Calls Tryd.prog 115 #[.agg #[(.int .i64 (a)), (.int .i64 (b)), (.int .i64 (c))]] w fun r w' => r = .returned (.int .i64 (readErr a b c)) ∧ Below w.heap.size w w' := by
  by_cases h : c < b
  · have hE : readErr a b c = firstOf [rangeErr a 1 8, rangeErr b 0 1000000, rangeErr c 0 1000000, 11] := by unfold readErr; rw [if_pos h]
    rw [hE]
    clear hE
    go_enter Tryd.func115, Tryd.ntmps115
    go_wp2
    refine Calm.tail_below 15 (by kernel_rfl) (by kernel_rfl) ?_
    simp only [List.take_succ_cons, List.take_zero, List.drop_succ_cons, List.drop_zero]
    repeat (first | (first | (apply Calm.op_move; (focus rfl); (focus (first | exact .inl rfl | exact .inr rfl)); (focus ((try simp only [Act.eval, Array.getD_eq_getD_getElem?, List.getElem?_toArray, List.getElem?_cons_succ, List.getElem?_cons_zero, Option.getD_some]); rfl)); (try simp only [Act.put, List.setIfInBounds_toArray, List.set_cons_zero, List.set_cons_succ])) | (apply Calm.op_not; (focus rfl); (try simp only [Act.put, List.setIfInBounds_toArray, List.set_cons_zero, List.set_cons_succ])) | (apply Calm.op; (focus rfl); (focus (intro W hb; obtain ⟨hc, hf⟩ := bcell hb; clear hb hf; go_simp; (try go_bits); (try rfl); done)); (try simp only [Act.put, List.setIfInBounds_toArray, List.set_cons_zero, List.set_cons_succ]))) | (apply Calm.op_call; (focus rfl); (focus (intro W hb; obtain ⟨hc, hf⟩ := bcell hb; clear hb hf; go_simp; refine ⟨?_, ?_⟩; rfl; rfl)); (focus (intro W hb; first | (go_at_call 97; exact Calm.call_same hb (checkW_any _ _)) | (go_at_call 80; exact Calm.call_same hb (within_any _ _ _ _)) | (go_at_call 87; exact Calm.call_same hb (when_any _ _ _)))); (try simp only [Act.put, List.setIfInBounds_toArray, List.set_cons_zero, List.set_cons_succ])))
    refine wpQuiet_nil ?_
    intro w1 hb
    obtain ⟨hbc, hbf⟩ := bcell hb
    have hbz := hb.size
    (try simp at hbz)
    (try have hbz0 : w.heap.size < w1.heap.size := by omega)
    (try have hbz1 : w.heap.size + 1 < w1.heap.size := by omega)
    (try have hbz2 : w.heap.size + 1 + 1 < w1.heap.size := by omega)
    (try have hbz3 : w.heap.size + 1 + 1 + 1 < w1.heap.size := by omega)
    (try have hbz4 : w.heap.size + 1 + 1 + 1 + 1 < w1.heap.size := by omega)
    (try have hbz5 : w.heap.size + 1 + 1 + 1 + 1 + 1 < w1.heap.size := by omega)
    go_wp2_with (first | (go_at_call 86; refine (first4_any _ _ _ _ _).mono ?_; rintro r w1 ⟨rfl, rfl⟩))
    go_ret
    refine ⟨by first | rfl | (simp; done), ?_⟩
    repeat (first | (with_reducible exact Below.refl _ _) | ((with_reducible refine Below.setCell ?_ ?_ _); rotate_left 1; focus (first | (simp; done) | (simp; omega) | (simp at *; omega))) | ((with_reducible refine Below.alloc ?_ ?_ _); rotate_left 1; focus (first | (simp; done) | (simp; omega) | (simp at *; omega))) | (with_reducible refine Below.drew ?_) | ((with_reducible refine Calm.step (by assumption) ?_ ?_); rotate_left 1; focus (first | (simp; done) | (simp; omega) | (simp at *; omega))))
  · have hE : readErr a b c = firstOf [rangeErr a 1 8, rangeErr b 0 1000000, rangeErr c 0 1000000, 0] := by unfold readErr; rw [if_neg h]
    rw [hE]
    clear hE
    go_enter Tryd.func115, Tryd.ntmps115
    go_wp2
    refine Calm.tail_below 15 (by kernel_rfl) (by kernel_rfl) ?_
    simp only [List.take_succ_cons, List.take_zero, List.drop_succ_cons, List.drop_zero]
    repeat (first | (first | (apply Calm.op_move; (focus rfl); (focus (first | exact .inl rfl | exact .inr rfl)); (focus ((try simp only [Act.eval, Array.getD_eq_getD_getElem?, List.getElem?_toArray, List.getElem?_cons_succ, List.getElem?_cons_zero, Option.getD_some]); rfl)); (try simp only [Act.put, List.setIfInBounds_toArray, List.set_cons_zero, List.set_cons_succ])) | (apply Calm.op_not; (focus rfl); (try simp only [Act.put, List.setIfInBounds_toArray, List.set_cons_zero, List.set_cons_succ])) | (apply Calm.op; (focus rfl); (focus (intro W hb; obtain ⟨hc, hf⟩ := bcell hb; clear hb hf; go_simp; (try go_bits); (try rfl); done)); (try simp only [Act.put, List.setIfInBounds_toArray, List.set_cons_zero, List.set_cons_succ]))) | (apply Calm.op_call; (focus rfl); (focus (intro W hb; obtain ⟨hc, hf⟩ := bcell hb; clear hb hf; go_simp; refine ⟨?_, ?_⟩; rfl; rfl)); (focus (intro W hb; first | (go_at_call 97; exact Calm.call_same hb (checkW_any _ _)) | (go_at_call 80; exact Calm.call_same hb (within_any _ _ _ _)) | (go_at_call 87; exact Calm.call_same hb (when_any _ _ _)))); (try simp only [Act.put, List.setIfInBounds_toArray, List.set_cons_zero, List.set_cons_succ])))
    refine wpQuiet_nil ?_
    intro w1 hb
    obtain ⟨hbc, hbf⟩ := bcell hb
    have hbz := hb.size
    (try simp at hbz)
    (try have hbz0 : w.heap.size < w1.heap.size := by omega)
    (try have hbz1 : w.heap.size + 1 < w1.heap.size := by omega)
    (try have hbz2 : w.heap.size + 1 + 1 < w1.heap.size := by omega)
    (try have hbz3 : w.heap.size + 1 + 1 + 1 < w1.heap.size := by omega)
    (try have hbz4 : w.heap.size + 1 + 1 + 1 + 1 < w1.heap.size := by omega)
    (try have hbz5 : w.heap.size + 1 + 1 + 1 + 1 + 1 < w1.heap.size := by omega)
    go_wp2_with (first | (go_at_call 86; refine (first4_any _ _ _ _ _).mono ?_; rintro r w1 ⟨rfl, rfl⟩))
    go_ret
    refine ⟨by first | rfl | (simp; done), ?_⟩
    repeat (first | (with_reducible exact Below.refl _ _) | ((with_reducible refine Below.setCell ?_ ?_ _); rotate_left 1; focus (first | (simp; done) | (simp; omega) | (simp at *; omega))) | ((with_reducible refine Below.alloc ?_ ?_ _); rotate_left 1; focus (first | (simp; done) | (simp; omega) | (simp at *; omega))) | (with_reducible refine Below.drew ?_) | ((with_reducible refine Calm.step (by assumption) ?_ ?_); rotate_left 1; focus (first | (simp; done) | (simp; omega) | (simp at *; omega))))

/-- the first error of a class, without the number of its drivers. -/
def classPre (re le bl ma st lo m k r : Int) : Int := firstOf [drvErr re le bl ma st lo, rangeErr m ma 100, rangeErr k st 5000, rangeErr r lo 100]
/-- the number of the drivers of a class. -/
def classN (ma st lo m k r : Int) : Int := (m - ma + 1) * (k - st + 1) * (r - lo + 1)
def classErr (re le bl ma st lo m k r : Int) : Int := if classPre re le bl ma st lo m k r = 0 then (if 4096 < classN ma st lo m k r then 4 else 0) else classPre re le bl ma st lo m k r
set_option maxHeartbeats 2000000 in
theorem checkClass_bad (re le bl ma st lo m k r : Int) (w : World) (hL : Lim w) (h : classPre re le bl ma st lo m k r ≠ 0) :
    Calls Tryd.prog 99 #[.agg #[(.int .i64 (re)), (.int .i64 (le)), (.int .i64 (bl)), (.int .i64 (ma)), (.int .i64 (st)), (.int .i64 (lo)), (.int .i64 (m)), (.int .i64 (k)), (.int .i64 (r))]] w fun x w' => x = .returned (.int .i64 (classPre re le bl ma st lo m k r)) ∧ Below w.heap.size w w' := by
  have h2 : firstOf [drvErr re le bl ma st lo, rangeErr m ma 100, rangeErr k st 5000, rangeErr r lo 100] ≠ 0 := h
  clear h
  go_enter Tryd.func99, Tryd.ntmps99
  go_wp2
  refine Calm.tail_below 17 (by kernel_rfl) (by kernel_rfl) ?_
  simp only [List.take_succ_cons, List.take_zero, List.drop_succ_cons, List.drop_zero]
  repeat (first | (first | (apply Calm.op_move; (focus rfl); (focus (first | exact .inl rfl | exact .inr rfl)); (focus ((try simp only [Act.eval, Array.getD_eq_getD_getElem?, List.getElem?_toArray, List.getElem?_cons_succ, List.getElem?_cons_zero, Option.getD_some]); rfl)); (try simp only [Act.put, List.setIfInBounds_toArray, List.set_cons_zero, List.set_cons_succ])) | (apply Calm.op_not; (focus rfl); (try simp only [Act.put, List.setIfInBounds_toArray, List.set_cons_zero, List.set_cons_succ])) | (apply Calm.op; (focus rfl); (focus (intro W hb; obtain ⟨hc, hf⟩ := bcell hb; clear hb hf; go_simp; (try go_bits); (try rfl); done)); (try simp only [Act.put, List.setIfInBounds_toArray, List.set_cons_zero, List.set_cons_succ]))) | (apply Calm.op_call; (focus rfl); (focus (intro W hb; obtain ⟨hc, hf⟩ := bcell hb; clear hb hf; go_simp; refine ⟨?_, ?_⟩; rfl; rfl)); (focus (intro W hb; first | (go_at_call 23; exact Calm.call_below hb (checkDriver_any _ _ _ _ _ _ _ (hL.below (by repeat (first | (with_reducible exact Below.refl _ _) | ((with_reducible refine Below.setCell ?_ ?_ _); rotate_left 1; focus (first | (simp; done) | (simp; omega) | (simp at *; omega))) | ((with_reducible refine Below.alloc ?_ ?_ _); rotate_left 1; focus (first | (simp; done) | (simp; omega) | (simp at *; omega))) | (with_reducible refine Below.drew ?_) | ((with_reducible refine Calm.step (by assumption) ?_ ?_); rotate_left 1; focus (first | (simp; done) | (simp; omega) | (simp at *; omega)))))))) | (go_at_call 80; exact Calm.call_same hb (within_any _ _ _ _)))); (try simp only [Act.put, List.setIfInBounds_toArray, List.set_cons_zero, List.set_cons_succ])))
  refine wpQuiet_nil ?_
  intro w1 hb
  obtain ⟨hbc, hbf⟩ := bcell hb
  have hbz := hb.size
  (try simp at hbz)
  (try have hbz0 : w.heap.size < w1.heap.size := by omega)
  (try have hbz1 : w.heap.size + 1 < w1.heap.size := by omega)
  (try have hbz2 : w.heap.size + 1 + 1 < w1.heap.size := by omega)
  (try have hbz3 : w.heap.size + 1 + 1 + 1 < w1.heap.size := by omega)
  (try have hbz4 : w.heap.size + 1 + 1 + 1 + 1 < w1.heap.size := by omega)
  (try have hbz5 : w.heap.size + 1 + 1 + 1 + 1 + 1 < w1.heap.size := by omega)
  go_wp2_with (first | (go_at_call 86; refine (first4_any _ _ _ _ _).mono ?_; rintro r w1 ⟨rfl, rfl⟩))
  go_ret
  refine ⟨by first | rfl | (simp; done), ?_⟩
  repeat (first | (with_reducible exact Below.refl _ _) | ((with_reducible refine Below.setCell ?_ ?_ _); rotate_left 1; focus (first | (simp; done) | (simp; omega) | (simp at *; omega))) | ((with_reducible refine Below.alloc ?_ ?_ _); rotate_left 1; focus (first | (simp; done) | (simp; omega) | (simp at *; omega))) | (with_reducible refine Below.drew ?_) | ((with_reducible refine Calm.step (by assumption) ?_ ?_); rotate_left 1; focus (first | (simp; done) | (simp; omega) | (simp at *; omega))))
theorem class_zero {re le bl ma st lo m k r : Int} (h : classPre re le bl ma st lo m k r = 0) : drvErr re le bl ma st lo = 0 ∧ (ma ≤ m ∧ m ≤ 100) ∧ (st ≤ k ∧ k ≤ 5000) ∧ (lo ≤ r ∧ r ≤ 100) := by
  unfold classPre at h
  have h := firstOf_eq_zero.1 h
  simp only [List.mem_cons, List.not_mem_nil, or_false, forall_eq_or_imp, forall_eq] at h
  exact ⟨h.1, rangeErr_zero.1 h.2.1, rangeErr_zero.1 h.2.2.1, rangeErr_zero.1 h.2.2.2⟩
set_option maxHeartbeats 2000000 in
theorem checkClass_ok (re le bl ma st lo m k r : Int) (w : World) (hL : Lim w) (h : classPre re le bl ma st lo m k r = 0) :
    Calls Tryd.prog 99 #[.agg #[(.int .i64 (re)), (.int .i64 (le)), (.int .i64 (bl)), (.int .i64 (ma)), (.int .i64 (st)), (.int .i64 (lo)), (.int .i64 (m)), (.int .i64 (k)), (.int .i64 (r))]] w fun x w' => x = .returned (.int .i64 (if 4096 < classN ma st lo m k r then 4 else 0)) ∧ Below w.heap.size w w' := by
  obtain ⟨hd, h1, h2, h3⟩ := class_zero h
  obtain ⟨_, _, _, d1, d2, d3⟩ := drvErr_zero hd
  have h4 : firstOf [drvErr re le bl ma st lo, rangeErr m ma 100, rangeErr k st 5000, rangeErr r lo 100] = 0 := h
  clear h hd
  have q1 : Bd 100 (m - ma + 1) := ⟨by omega, by omega⟩
  have q2 : Bd 5000 (k - st + 1) := ⟨by omega, by omega⟩
  have q3 : Bd 100 (r - lo + 1) := ⟨by omega, by omega⟩
  obtain ⟨e1, e2⟩ := q1.mul q2 (by omega)
  have q4 : Bd 500000 ((m - ma + 1) * (k - st + 1)) := ⟨by omega, by omega⟩
  obtain ⟨e3, e4⟩ := q4.mul q3 (by omega)
  clear q1 q2 q3 q4
  obtain ⟨⟨a1, a2⟩, ⟨a3, a4⟩, ⟨a5, a6⟩⟩ := And.intro h1 (And.intro h2 h3)
  obtain ⟨⟨a7, a8⟩, ⟨a9, b1⟩, ⟨b2, b3⟩⟩ := And.intro d1 (And.intro d2 d3)
  clear h1 h2 h3 d1 d2 d3
  by_cases hn : 4096 < classN ma st lo m k r
  · rw [if_pos hn]
    unfold classN at hn
    go_enter Tryd.func99, Tryd.ntmps99
    go_wp2
    refine Calm.tail_below 17 (by kernel_rfl) (by kernel_rfl) ?_
    simp only [List.take_succ_cons, List.take_zero, List.drop_succ_cons, List.drop_zero]
    repeat (first | (first | (apply Calm.op_move; (focus rfl); (focus (first | exact .inl rfl | exact .inr rfl)); (focus ((try simp only [Act.eval, Array.getD_eq_getD_getElem?, List.getElem?_toArray, List.getElem?_cons_succ, List.getElem?_cons_zero, Option.getD_some]); rfl)); (try simp only [Act.put, List.setIfInBounds_toArray, List.set_cons_zero, List.set_cons_succ])) | (apply Calm.op_not; (focus rfl); (try simp only [Act.put, List.setIfInBounds_toArray, List.set_cons_zero, List.set_cons_succ])) | (apply Calm.op; (focus rfl); (focus (intro W hb; obtain ⟨hc, hf⟩ := bcell hb; clear hb hf; go_simp; (try go_bits); (try rfl); done)); (try simp only [Act.put, List.setIfInBounds_toArray, List.set_cons_zero, List.set_cons_succ]))) | (apply Calm.op_call; (focus rfl); (focus (intro W hb; obtain ⟨hc, hf⟩ := bcell hb; clear hb hf; go_simp; refine ⟨?_, ?_⟩; rfl; rfl)); (focus (intro W hb; first | (go_at_call 23; exact Calm.call_below hb (checkDriver_any _ _ _ _ _ _ _ (hL.below (by repeat (first | (with_reducible exact Below.refl _ _) | ((with_reducible refine Below.setCell ?_ ?_ _); rotate_left 1; focus (first | (simp; done) | (simp; omega) | (simp at *; omega))) | ((with_reducible refine Below.alloc ?_ ?_ _); rotate_left 1; focus (first | (simp; done) | (simp; omega) | (simp at *; omega))) | (with_reducible refine Below.drew ?_) | ((with_reducible refine Calm.step (by assumption) ?_ ?_); rotate_left 1; focus (first | (simp; done) | (simp; omega) | (simp at *; omega)))))))) | (go_at_call 80; exact Calm.call_same hb (within_any _ _ _ _)))); (try simp only [Act.put, List.setIfInBounds_toArray, List.set_cons_zero, List.set_cons_succ])))
    refine wpQuiet_nil ?_
    intro w1 hb
    obtain ⟨hbc, hbf⟩ := bcell hb
    have hbz := hb.size
    (try simp at hbz)
    (try have hbz0 : w.heap.size < w1.heap.size := by omega)
    (try have hbz1 : w.heap.size + 1 < w1.heap.size := by omega)
    (try have hbz2 : w.heap.size + 1 + 1 < w1.heap.size := by omega)
    (try have hbz3 : w.heap.size + 1 + 1 + 1 < w1.heap.size := by omega)
    (try have hbz4 : w.heap.size + 1 + 1 + 1 + 1 < w1.heap.size := by omega)
    (try have hbz5 : w.heap.size + 1 + 1 + 1 + 1 + 1 < w1.heap.size := by omega)
    go_wp2_with (first | (go_at_call 86; refine (first4_any _ _ _ _ _).mono ?_; rintro r w1 ⟨rfl, rfl⟩) | (go_at_call 87; refine (when_any _ _ _).mono ?_; rintro r w1 ⟨rfl, rfl⟩))
    go_ret
    refine ⟨by first | rfl | (simp [hn]; done), ?_⟩
    repeat (first | (with_reducible exact Below.refl _ _) | ((with_reducible refine Below.setCell ?_ ?_ _); rotate_left 1; focus (first | (simp; done) | (simp; omega) | (simp at *; omega))) | ((with_reducible refine Below.alloc ?_ ?_ _); rotate_left 1; focus (first | (simp; done) | (simp; omega) | (simp at *; omega))) | (with_reducible refine Below.drew ?_) | ((with_reducible refine Calm.step (by assumption) ?_ ?_); rotate_left 1; focus (first | (simp; done) | (simp; omega) | (simp at *; omega))))
  · rw [if_neg hn]
    unfold classN at hn
    go_enter Tryd.func99, Tryd.ntmps99
    go_wp2
    refine Calm.tail_below 17 (by kernel_rfl) (by kernel_rfl) ?_
    simp only [List.take_succ_cons, List.take_zero, List.drop_succ_cons, List.drop_zero]
    repeat (first | (first | (apply Calm.op_move; (focus rfl); (focus (first | exact .inl rfl | exact .inr rfl)); (focus ((try simp only [Act.eval, Array.getD_eq_getD_getElem?, List.getElem?_toArray, List.getElem?_cons_succ, List.getElem?_cons_zero, Option.getD_some]); rfl)); (try simp only [Act.put, List.setIfInBounds_toArray, List.set_cons_zero, List.set_cons_succ])) | (apply Calm.op_not; (focus rfl); (try simp only [Act.put, List.setIfInBounds_toArray, List.set_cons_zero, List.set_cons_succ])) | (apply Calm.op; (focus rfl); (focus (intro W hb; obtain ⟨hc, hf⟩ := bcell hb; clear hb hf; go_simp; (try go_bits); (try rfl); done)); (try simp only [Act.put, List.setIfInBounds_toArray, List.set_cons_zero, List.set_cons_succ]))) | (apply Calm.op_call; (focus rfl); (focus (intro W hb; obtain ⟨hc, hf⟩ := bcell hb; clear hb hf; go_simp; refine ⟨?_, ?_⟩; rfl; rfl)); (focus (intro W hb; first | (go_at_call 23; exact Calm.call_below hb (checkDriver_any _ _ _ _ _ _ _ (hL.below (by repeat (first | (with_reducible exact Below.refl _ _) | ((with_reducible refine Below.setCell ?_ ?_ _); rotate_left 1; focus (first | (simp; done) | (simp; omega) | (simp at *; omega))) | ((with_reducible refine Below.alloc ?_ ?_ _); rotate_left 1; focus (first | (simp; done) | (simp; omega) | (simp at *; omega))) | (with_reducible refine Below.drew ?_) | ((with_reducible refine Calm.step (by assumption) ?_ ?_); rotate_left 1; focus (first | (simp; done) | (simp; omega) | (simp at *; omega)))))))) | (go_at_call 80; exact Calm.call_same hb (within_any _ _ _ _)))); (try simp only [Act.put, List.setIfInBounds_toArray, List.set_cons_zero, List.set_cons_succ])))
    refine wpQuiet_nil ?_
    intro w1 hb
    obtain ⟨hbc, hbf⟩ := bcell hb
    have hbz := hb.size
    (try simp at hbz)
    (try have hbz0 : w.heap.size < w1.heap.size := by omega)
    (try have hbz1 : w.heap.size + 1 < w1.heap.size := by omega)
    (try have hbz2 : w.heap.size + 1 + 1 < w1.heap.size := by omega)
    (try have hbz3 : w.heap.size + 1 + 1 + 1 < w1.heap.size := by omega)
    (try have hbz4 : w.heap.size + 1 + 1 + 1 + 1 < w1.heap.size := by omega)
    (try have hbz5 : w.heap.size + 1 + 1 + 1 + 1 + 1 < w1.heap.size := by omega)
    go_wp2_with (first | (go_at_call 86; refine (first4_any _ _ _ _ _).mono ?_; rintro r w1 ⟨rfl, rfl⟩) | (go_at_call 87; refine (when_any _ _ _).mono ?_; rintro r w1 ⟨rfl, rfl⟩))
    go_ret
    refine ⟨by first | rfl | (simp [hn]; done), ?_⟩
    repeat (first | (with_reducible exact Below.refl _ _) | ((with_reducible refine Below.setCell ?_ ?_ _); rotate_left 1; focus (first | (simp; done) | (simp; omega) | (simp at *; omega))) | ((with_reducible refine Below.alloc ?_ ?_ _); rotate_left 1; focus (first | (simp; done) | (simp; omega) | (simp at *; omega))) | (with_reducible refine Below.drew ?_) | ((with_reducible refine Calm.step (by assumption) ?_ ?_); rotate_left 1; focus (first | (simp; done) | (simp; omega) | (simp at *; omega))))
end Go.Proofs.YtpkldjlljoledaaDoor

/- Contract of package driver's CheckReadings. -/
namespace Go.Proofs.YtpkldjlljoledaaDoor
open Go.RowKit
open Calm (bcell Blk)

/-- the slice of these readings lies in memory (an empty one anywhere, or nowhere). -/
def RCells (w : World) (A : Option Addr) (zs : List (Int × Int × Int)) : Prop :=
  0 < zs.length → ∃ b off, A = some ⟨b, off, none⟩ ∧ b < w.heap.size ∧ ∀ k, k < zs.length → w.cell? ⟨b, off + k * 3, none⟩ = some (.int .i64 ((zs.getD k (0, 0, 0)).1)) ∧ w.cell? ⟨b, off + k * 3 + 1, none⟩ = some (.int .i64 ((zs.getD k (0, 0, 0)).2.1)) ∧ w.cell? ⟨b, off + k * 3 + 2, none⟩ = some (.int .i64 ((zs.getD k (0, 0, 0)).2.2))
theorem RCells.below {w w' : World} {A : Option Addr} {zs : List (Int × Int × Int)} (h : RCells w A zs) (hb : Below w.heap.size w w') : RCells w' A zs := by
  intro h0
  obtain ⟨b, off, hA, hl, hc⟩ := h h0
  refine ⟨b, off, hA, Nat.lt_of_lt_of_le hl hb.size, fun k hk => ?_⟩
  obtain ⟨h1, h2, h3⟩ := hc k hk
  exact ⟨(hb.cell (p := ⟨b, off + k * 3, none⟩) hl).trans h1, (hb.cell (p := ⟨b, off + k * 3 + 1, none⟩) hl).trans h2, (hb.cell (p := ⟨b, off + k * 3 + 2, none⟩) hl).trans h3⟩

/-- the first errors of readings, without their number. -/
def readErrs (zs : List (Int × Int × Int)) : List Int := zs.map fun r => readErr r.1 r.2.1 r.2.2
def readsErr (zs : List (Int × Int × Int)) : Int := if 32 < zs.length then 5 else firstOf (readErrs zs)

theorem checkReadings_long (A : Option Addr) (n c : Nat) (w : World) (h : 32 < n) (h2 : n ≤ 100000) :
    Calls Tryd.prog 100 #[.slice A n c] w fun r w' => r = .returned (.int .i64 (5)) ∧ w = w' := by
  go_enter Tryd.func100, Tryd.ntmps100
  go_wp2
  go_ret
  exact ⟨rfl, rfl⟩

set_option maxHeartbeats 2000000 in
theorem checkReadings_len (A : Option Addr) (zs : List (Int × Int × Int)) (c : Nat) (w : World) (hC : RCells w A zs) (h : zs.length ≤ 32) :
    Calls Tryd.prog 100 #[.slice A zs.length c] w fun r w' => r = .returned (.int .i64 (firstOf (readErrs zs))) ∧ Below w.heap.size w w' := by
  go_enter Tryd.func100, Tryd.ntmps100
  go_wp2
  go_loopw [11] (fun i wr => ∃ k : Nat, k ≤ zs.length ∧ i = (.int .i64 (k)) ∧ (∀ j, j < k → (readErrs zs).getD j 0 = 0) ∧ Below w.heap.size w wr) (fun i _ => zs.length - (intOf i).toNat)
  case atStart => exact ⟨0, Nat.zero_le _, rfl, fun j hj => by omega, Below.refl _ _⟩
  case round =>
    obtain ⟨k, hk, rfl, hz, hB⟩ := hrel
    have HZ := Lib.hid hz
    clear hz
    by_cases hlt : k < zs.length
    · obtain ⟨b, o, rfl, l1, k1⟩ := hC (by omega)
      obtain ⟨x1, x2, x3⟩ := k1 k hlt
      have x1 := (hB.cell (p := ⟨b, o + k * 3, none⟩) l1).trans x1
      have x2 := (hB.cell (p := ⟨b, o + k * 3 + 1, none⟩) l1).trans x2
      have x3 := (hB.cell (p := ⟨b, o + k * 3 + 2, none⟩) l1).trans x3
      have hE : (readErrs zs).getD k 0 = readErr (zs.getD k (0, 0, 0)).1 (zs.getD k (0, 0, 0)).2.1 (zs.getD k (0, 0, 0)).2.2 := by
        simp [readErrs, List.getD_eq_getElem?_getD, List.getElem?_map, List.getElem?_eq_getElem hlt]
      have HK := Lib.hid k1
      clear k1 hC
      obtain ⟨⟨x, y, z⟩, hx⟩ : ∃ x, x = zs.getD k (0, 0, 0) := ⟨_, rfl⟩
      rw [← hx] at x1 x2 x3 hE
      clear hx
      have hsz := hB.size
      simp only [] at x1 x2 x3 hE
      by_cases he : readErr x y z = 0
      · have HE := Lib.hid hE
        clear hE
        go_wp2_with (first | (go_at_call 115; refine (readCheck_any _ _ _ _).mono ?_; rintro r w1 ⟨rfl, hb⟩; obtain ⟨hc, hf⟩ := bcell hb; have hz := hb.size; (try simp at hz); (try have hz0 : w.heap.size < w1.heap.size := by omega); (try have hz1 : w.heap.size + 1 < w1.heap.size := by omega); (try have hz2 : w.heap.size + 1 + 1 < w1.heap.size := by omega); (try have hz3 : w.heap.size + 1 + 1 + 1 < w1.heap.size := by omega); (try have hz4 : w.heap.size + 1 + 1 + 1 + 1 < w1.heap.size := by omega); (try have hz5 : w.heap.size + 1 + 1 + 1 + 1 + 1 < w1.heap.size := by omega); (try have hz6 : w.heap.size + 1 + 1 + 1 + 1 + 1 + 1 < w1.heap.size := by omega)))
        go_roundw
        case rel => exact ⟨k + 1, by omega, by go_num, fun j hj => by
          rcases Nat.lt_or_ge j k with h | h
          · exact HZ.out j h
          · obtain rfl : j = k := by omega
            rw [HE.out, he], hB.trans (Below.mono (by (repeat (first | (with_reducible exact Below.refl _ _) | ((with_reducible refine Below.setCell ?_ ?_ _); rotate_left 1; focus (first | (simp; done) | (simp; omega) | (simp at *; omega))) | ((with_reducible refine Below.alloc ?_ ?_ _); rotate_left 1; focus (first | (simp; done) | (simp; omega) | (simp at *; omega))) | (with_reducible refine Below.drew ?_) | ((with_reducible refine Calm.step (by assumption) ?_ ?_); rotate_left 1; focus (first | (simp; done) | (simp; omega) | (simp at *; omega)))))) hsz)⟩
        case measure => simp [intOf]; omega
      · have HE := Lib.hid hE
        clear hE
        go_wp2_with (first | (go_at_call 115; refine (readCheck_any _ _ _ _).mono ?_; rintro r w1 ⟨rfl, hb⟩; obtain ⟨hc, hf⟩ := bcell hb; have hz := hb.size; (try simp at hz); (try have hz0 : w.heap.size < w1.heap.size := by omega); (try have hz1 : w.heap.size + 1 < w1.heap.size := by omega); (try have hz2 : w.heap.size + 1 + 1 < w1.heap.size := by omega); (try have hz3 : w.heap.size + 1 + 1 + 1 < w1.heap.size := by omega); (try have hz4 : w.heap.size + 1 + 1 + 1 + 1 < w1.heap.size := by omega); (try have hz5 : w.heap.size + 1 + 1 + 1 + 1 + 1 < w1.heap.size := by omega); (try have hz6 : w.heap.size + 1 + 1 + 1 + 1 + 1 + 1 < w1.heap.size := by omega)))
        go_ret
        refine ⟨ret_i ?_, hB.trans (Below.mono (by (repeat (first | (with_reducible exact Below.refl _ _) | ((with_reducible refine Below.setCell ?_ ?_ _); rotate_left 1; focus (first | (simp; done) | (simp; omega) | (simp at *; omega))) | ((with_reducible refine Below.alloc ?_ ?_ _); rotate_left 1; focus (first | (simp; done) | (simp; omega) | (simp at *; omega))) | (with_reducible refine Below.drew ?_) | ((with_reducible refine Calm.step (by assumption) ?_ ?_); rotate_left 1; focus (first | (simp; done) | (simp; omega) | (simp at *; omega)))))) hsz)⟩
        rw [firstOf_take HZ.out (by simpa [readErrs] using hlt) (by rw [HE.out]; exact he), HE.out]
    · go_wp2
      go_ret
      exact ⟨ret_i (firstOf_zero fun j hj => HZ.out j (by simp [readErrs] at hj; omega)).symm, hB⟩
end Go.Proofs.YtpkldjlljoledaaDoor

/- Contracts of package driver's curves. -/
namespace Go.Proofs.YtpkldjlljoledaaDoor
open Go.RowKit
open Calm (bcell Blk)

/-- the slice of these integers lies in memory (an empty one anywhere, or nowhere). -/
def Cells (w : World) (A : Option Addr) (zs : List Int) : Prop :=
  0 < zs.length → ∃ b off, A = some ⟨b, off, none⟩ ∧ b < w.heap.size ∧ ∀ k, k < zs.length → w.cell? ⟨b, off + k, none⟩ = some (.int .i64 (zs.getD k 0))
theorem Cells.below {w w' : World} {A : Option Addr} {zs : List Int} (h : Cells w A zs) (hb : Below w.heap.size w w') : Cells w' A zs := by
  intro h0
  obtain ⟨b, off, hA, hl, hc⟩ := h h0
  exact ⟨b, off, hA, Nat.lt_of_lt_of_le hl hb.size, fun k hk => (hb.cell (p := ⟨b, off + k, none⟩) hl).trans (hc k hk)⟩

def inR (x : Int) : Prop := 1 ≤ x ∧ x ≤ 999999999
/-- the error of a curve. -/
def curveErr (xs ys : List Int) : Int := if xs.length % 2 = 0 ∨ xs.length < 3 ∨ 33 < xs.length ∨ ys.length ≠ xs.length then 2 else if (∀ x ∈ xs, 1 ≤ x ∧ x ≤ 999999999) ∧ (∀ y ∈ ys, 1 ≤ y ∧ y ≤ 999999999) then 0 else 3

set_option maxHeartbeats 1000000 in
theorem checkCurve_shape (A1 A2 : Option Addr) (xs ys : List Int) (c1 c2 : Nat) (w : World) (h1 : xs.length ≤ 100000) (h2 : ys.length ≤ 100000) (h : xs.length % 2 = 0 ∨ xs.length < 3 ∨ 33 < xs.length ∨ ys.length ≠ xs.length) :
    Calls Tryd.prog 50 #[.agg #[.slice A1 xs.length c1, .slice A2 ys.length c2]] w fun r w' => r = .returned (.int .i64 (2)) ∧ Below w.heap.size w w' := by
  generalize xs.length = n at *
  generalize ys.length = m at *
  by_cases e1 : n % 2 = 0
  · clear h
    have f1 : ((n : Int) % 2 == 0) = true := by rw [beq_iff_eq]; omega
    go_enter Tryd.func50, Tryd.ntmps50
    go_wp2
    go_ret
    refine ⟨rfl, ?_⟩
    repeat (first | (with_reducible exact Below.refl _ _) | ((with_reducible refine Below.setCell ?_ ?_ _); rotate_left 1; focus (first | (simp; done) | (simp; omega) | (simp at *; omega))) | ((with_reducible refine Below.alloc ?_ ?_ _); rotate_left 1; focus (first | (simp; done) | (simp; omega) | (simp at *; omega))) | (with_reducible refine Below.drew ?_) | ((with_reducible refine Calm.step (by assumption) ?_ ?_); rotate_left 1; focus (first | (simp; done) | (simp; omega) | (simp at *; omega))))
  · have f1 : ((n : Int) % 2 == 0) = false := by rw [beq_eq_false_iff_ne]; omega
    by_cases e2 : n < 3
    · clear h e1
      go_enter Tryd.func50, Tryd.ntmps50
      go_wp2
      go_ret
      refine ⟨rfl, ?_⟩
      repeat (first | (with_reducible exact Below.refl _ _) | ((with_reducible refine Below.setCell ?_ ?_ _); rotate_left 1; focus (first | (simp; done) | (simp; omega) | (simp at *; omega))) | ((with_reducible refine Below.alloc ?_ ?_ _); rotate_left 1; focus (first | (simp; done) | (simp; omega) | (simp at *; omega))) | (with_reducible refine Below.drew ?_) | ((with_reducible refine Calm.step (by assumption) ?_ ?_); rotate_left 1; focus (first | (simp; done) | (simp; omega) | (simp at *; omega))))
    · by_cases e3 : 33 < n
      · clear h e1
        go_enter Tryd.func50, Tryd.ntmps50
        go_wp2
        go_ret
        refine ⟨rfl, ?_⟩
        repeat (first | (with_reducible exact Below.refl _ _) | ((with_reducible refine Below.setCell ?_ ?_ _); rotate_left 1; focus (first | (simp; done) | (simp; omega) | (simp at *; omega))) | ((with_reducible refine Below.alloc ?_ ?_ _); rotate_left 1; focus (first | (simp; done) | (simp; omega) | (simp at *; omega))) | (with_reducible refine Below.drew ?_) | ((with_reducible refine Calm.step (by assumption) ?_ ?_); rotate_left 1; focus (first | (simp; done) | (simp; omega) | (simp at *; omega))))
      · have e4 : ¬ m = n := by omega
        have f4 : ((m : Int) != n) = true := by rw [bne_iff_ne]; omega
        clear h e1
        go_enter Tryd.func50, Tryd.ntmps50
        go_wp2
        go_ret
        refine ⟨rfl, ?_⟩
        repeat (first | (with_reducible exact Below.refl _ _) | ((with_reducible refine Below.setCell ?_ ?_ _); rotate_left 1; focus (first | (simp; done) | (simp; omega) | (simp at *; omega))) | ((with_reducible refine Below.alloc ?_ ?_ _); rotate_left 1; focus (first | (simp; done) | (simp; omega) | (simp at *; omega))) | (with_reducible refine Below.drew ?_) | ((with_reducible refine Calm.step (by assumption) ?_ ?_); rotate_left 1; focus (first | (simp; done) | (simp; omega) | (simp at *; omega))))

theorem rangeErr3 {x : Int} (h : ¬ (1 ≤ x ∧ x ≤ 999999999)) : rangeErr x 1 999999999 = 3 := by
  rcases rangeErr_cases x 1 999999999 with ⟨h0, h1, h2⟩ | ⟨h0, _⟩
  · exact absurd ⟨h1, h2⟩ h
  · exact h0
theorem getD_mem {l : List Int} {k : Nat} (h : k < l.length) : l.getD k 0 ∈ l := by
  rw [List.getD_eq_getElem?_getD, List.getElem?_eq_getElem h]
  exact List.getElem_mem h
theorem mem_getD {l : List Int} {p : Int → Prop} (h : ∀ k, k < l.length → p (l.getD k 0)) : ∀ x ∈ l, p x := by
  intro x hx
  obtain ⟨k, hk, rfl⟩ := List.mem_iff_getElem.1 hx
  have := h k hk
  rwa [List.getD_eq_getElem?_getD, List.getElem?_eq_getElem hk] at this

set_option maxRecDepth 100000 in
set_option maxHeartbeats 8000000 in
theorem checkCurve_len (A1 A2 : Option Addr) (xs ys : List Int) (c1 c2 : Nat) (w : World) (hC1 : Cells w A1 xs) (hC2 : Cells w A2 ys) (h : ¬ (xs.length % 2 = 0 ∨ xs.length < 3 ∨ 33 < xs.length ∨ ys.length ≠ xs.length)) :
    Calls Tryd.prog 50 #[.agg #[.slice A1 xs.length c1, .slice A2 ys.length c2]] w fun r w' => r = .returned (.int .i64 (curveErr xs ys)) ∧ Below w.heap.size w w' := by
  have hlen : ys.length = xs.length := Classical.byContradiction fun hh => h (.inr (.inr (.inr hh)))
  have hE : curveErr xs ys = if (∀ x ∈ xs, 1 ≤ x ∧ x ≤ 999999999) ∧ (∀ y ∈ ys, 1 ≤ y ∧ y ≤ 999999999) then 0 else 3 := if_neg h
  have g1 : 3 ≤ xs.length ∧ xs.length ≤ 33 ∧ xs.length % 2 = 1 := by omega
  clear h
  obtain ⟨b1, o1, rfl, l1, k1⟩ := hC1 (by omega)
  obtain ⟨b2, o2, rfl, l2, k2⟩ := hC2 (by omega)
  obtain ⟨R, hR⟩ : ∃ R, R = curveErr xs ys := ⟨_, rfl⟩
  rw [← hR]
  have HE := Lib.hid (hR.trans hE)
  clear hR
  clear hE hC1 hC2
  rw [hlen] at k2 ⊢
  obtain ⟨n, hn⟩ : ∃ n, n = xs.length := ⟨_, rfl⟩
  rw [← hn] at g1 k1 k2 hlen ⊢
  have HN := Lib.hid hn
  clear hn
  have HL := Lib.hid hlen
  clear hlen
  obtain ⟨g2, g3, g4⟩ := g1
  have f1 : ((n : Int) % 2 == 0) = false := by rw [beq_eq_false_iff_ne]; omega
  go_enter Tryd.func50, Tryd.ntmps50
  go_wp2
  have k0 : Blk (w.alloc (.cells #[.slice (some ⟨b1, o1, none⟩) n c1, .slice (some ⟨b2, o2, none⟩) n c2] 88)) w.heap.size #[.slice (some ⟨b1, o1, none⟩) n c1, .slice (some ⟨b2, o2, none⟩) n c2] := Blk.at_ rfl
  have hb0 : Below w.heap.size w (w.alloc (.cells #[.slice (some ⟨b1, o1, none⟩) n c1, .slice (some ⟨b2, o2, none⟩) n c2] 88)) := (Below.refl _ _).alloc (Nat.le_refl _) _
  go_loopw [28] (fun i wr => ∃ k : Nat, k ≤ n ∧ i = (.int .i64 (k)) ∧ (∀ j, j < k → (1 ≤ xs.getD j 0 ∧ xs.getD j 0 ≤ 999999999) ∧ (1 ≤ ys.getD j 0 ∧ ys.getD j 0 ≤ 999999999)) ∧ Below w.heap.size w wr ∧ Blk wr w.heap.size #[.slice (some ⟨b1, o1, none⟩) n c1, .slice (some ⟨b2, o2, none⟩) n c2]) (fun i _ => n - (intOf i).toNat)
  case atStart => exact ⟨0, Nat.zero_le _, rfl, fun j hj => by omega, hb0, k0⟩
  case round =>
    clear k0 hb0
    obtain ⟨k, hk, rfl, hz, hB, hK⟩ := hrel
    have HZ := Lib.hid hz
    clear hz
    have d0 := hK.cell 0 _ rfl
    have d1 := hK.cell 1 _ rfl
    have dl := hK.lt
    by_cases hlt : k < n
    · have x1 : wr.cell? ⟨b1, o1 + k, none⟩ = some (.int .i64 (xs.getD k 0)) := (hB.cell (p := ⟨b1, o1 + k, none⟩) l1).trans (k1 k hlt)
      have x2 : wr.cell? ⟨b2, o2 + k, none⟩ = some (.int .i64 (ys.getD k 0)) := (hB.cell (p := ⟨b2, o2 + k, none⟩) l2).trans (k2 k hlt)
      have y1 : b1 < wr.heap.size := by omega
      have y2 : b2 < wr.heap.size := by omega
      clear k1 k2
      obtain ⟨x, hx⟩ : ∃ x, x = xs.getD k 0 := ⟨_, rfl⟩
      obtain ⟨y, hy⟩ : ∃ y, y = ys.getD k 0 := ⟨_, rfl⟩
      rw [← hx] at x1
      rw [← hy] at x2
      have HX := Lib.hid hx
      have HY := Lib.hid hy
      clear hx hy
      by_cases hok : (1 ≤ x ∧ x ≤ 999999999) ∧ (1 ≤ y ∧ y ≤ 999999999)
      · have e0 : firstOf [rangeErr x 1 999999999, rangeErr y 1 999999999] = 0 := by rw [rangeErr_in hok.1.1 hok.1.2, rangeErr_in hok.2.1 hok.2.2]; rfl
        have HO := Lib.hid hok
        clear hok
        go_wp2
        refine Calm.tail_below 12 (by kernel_rfl) (by kernel_rfl) ?_
        simp only [List.take_succ_cons, List.take_zero, List.drop_succ_cons, List.drop_zero]
        repeat (first | (first | (apply Calm.op_move; (focus rfl); (focus (first | exact .inl rfl | exact .inr rfl)); (focus ((try simp only [Act.eval, Array.getD_eq_getD_getElem?, List.getElem?_toArray, List.getElem?_cons_succ, List.getElem?_cons_zero, Option.getD_some]); rfl)); (try simp only [Act.put, List.setIfInBounds_toArray, List.set_cons_zero, List.set_cons_succ])) | (apply Calm.op_not; (focus rfl); (try simp only [Act.put, List.setIfInBounds_toArray, List.set_cons_zero, List.set_cons_succ])) | (apply Calm.op; (focus rfl); (focus (intro W hb; obtain ⟨hc, hf⟩ := bcell hb; clear hb hf; go_simp; (try go_bits); (try rfl); done)); (try simp only [Act.put, List.setIfInBounds_toArray, List.set_cons_zero, List.set_cons_succ]))) | (apply Calm.op_call; (focus rfl); (focus (intro W hb; obtain ⟨hc, hf⟩ := bcell hb; clear hb hf; go_simp; refine ⟨?_, ?_⟩; rfl; rfl)); (focus (intro W hb; first | (go_at_call 80; exact Calm.call_same hb (within_any _ _ _ _)))); (try simp only [Act.put, List.setIfInBounds_toArray, List.set_cons_zero, List.set_cons_succ])))
        refine wpQuiet_nil ?_
        intro w1 hb
        obtain ⟨hbc, hbf⟩ := bcell hb
        have hbz := hb.size
        (try simp at hbz)
        (try have hbz0 : w.heap.size < w1.heap.size := by omega)
        (try have hbz1 : w.heap.size + 1 < w1.heap.size := by omega)
        (try have hbz2 : w.heap.size + 1 + 1 < w1.heap.size := by omega)
        (try have hbz3 : w.heap.size + 1 + 1 + 1 < w1.heap.size := by omega)
        (try have hbz4 : w.heap.size + 1 + 1 + 1 + 1 < w1.heap.size := by omega)
        (try have hbz5 : w.heap.size + 1 + 1 + 1 + 1 + 1 < w1.heap.size := by omega)
        go_wp2_with (first | (go_at_call 86; refine (first2_any _ _ _).mono ?_; rintro r w1 ⟨rfl, rfl⟩))
        go_roundw
        case rel => exact ⟨k + 1, by omega, by go_num, fun j hj => by
          rcases Nat.lt_or_ge j k with h | h
          · exact HZ.out j h
          · obtain rfl : j = k := by omega
            rw [← HX.out, ← HY.out]
            exact HO.out, hB.trans (Below.mono (by (repeat (first | (with_reducible exact Below.refl _ _) | ((with_reducible refine Below.setCell ?_ ?_ _); rotate_left 1; focus (first | (simp; done) | (simp; omega) | (simp at *; omega))) | ((with_reducible refine Below.alloc ?_ ?_ _); rotate_left 1; focus (first | (simp; done) | (simp; omega) | (simp at *; omega))) | (with_reducible refine Below.drew ?_) | ((with_reducible refine Calm.step (by assumption) ?_ ?_); rotate_left 1; focus (first | (simp; done) | (simp; omega) | (simp at *; omega)))))) hB.size), hK.below (by (repeat (first | (with_reducible exact Below.refl _ _) | ((with_reducible refine Below.setCell ?_ ?_ _); rotate_left 1; focus (first | (simp; done) | (simp; omega) | (simp at *; omega))) | ((with_reducible refine Below.alloc ?_ ?_ _); rotate_left 1; focus (first | (simp; done) | (simp; omega) | (simp at *; omega))) | (with_reducible refine Below.drew ?_) | ((with_reducible refine Calm.step (by assumption) ?_ ?_); rotate_left 1; focus (first | (simp; done) | (simp; omega) | (simp at *; omega))))))⟩
        case measure => simp [intOf]; omega
      · have e0 : firstOf [rangeErr x 1 999999999, rangeErr y 1 999999999] = 3 := by
          by_cases hx : 1 ≤ x ∧ x ≤ 999999999
          · rw [rangeErr_in hx.1 hx.2, rangeErr3 (fun hh => hok ⟨hx, hh⟩)]; rfl
          · rw [rangeErr3 hx]; rfl
        have he : firstOf [rangeErr x 1 999999999, rangeErr y 1 999999999] ≠ 0 := by rw [e0]; decide
        have E0 := Lib.hid e0
        clear e0
        have HO := Lib.hid hok
        clear hok
        go_wp2
        refine Calm.tail_below 12 (by kernel_rfl) (by kernel_rfl) ?_
        simp only [List.take_succ_cons, List.take_zero, List.drop_succ_cons, List.drop_zero]
        repeat (first | (first | (apply Calm.op_move; (focus rfl); (focus (first | exact .inl rfl | exact .inr rfl)); (focus ((try simp only [Act.eval, Array.getD_eq_getD_getElem?, List.getElem?_toArray, List.getElem?_cons_succ, List.getElem?_cons_zero, Option.getD_some]); rfl)); (try simp only [Act.put, List.setIfInBounds_toArray, List.set_cons_zero, List.set_cons_succ])) | (apply Calm.op_not; (focus rfl); (try simp only [Act.put, List.setIfInBounds_toArray, List.set_cons_zero, List.set_cons_succ])) | (apply Calm.op; (focus rfl); (focus (intro W hb; obtain ⟨hc, hf⟩ := bcell hb; clear hb hf; go_simp; (try go_bits); (try rfl); done)); (try simp only [Act.put, List.setIfInBounds_toArray, List.set_cons_zero, List.set_cons_succ]))) | (apply Calm.op_call; (focus rfl); (focus (intro W hb; obtain ⟨hc, hf⟩ := bcell hb; clear hb hf; go_simp; refine ⟨?_, ?_⟩; rfl; rfl)); (focus (intro W hb; first | (go_at_call 80; exact Calm.call_same hb (within_any _ _ _ _)))); (try simp only [Act.put, List.setIfInBounds_toArray, List.set_cons_zero, List.set_cons_succ])))
        refine wpQuiet_nil ?_
        intro w1 hb
        obtain ⟨hbc, hbf⟩ := bcell hb
        have hbz := hb.size
        (try simp at hbz)
        (try have hbz0 : w.heap.size < w1.heap.size := by omega)
        (try have hbz1 : w.heap.size + 1 < w1.heap.size := by omega)
        (try have hbz2 : w.heap.size + 1 + 1 < w1.heap.size := by omega)
        (try have hbz3 : w.heap.size + 1 + 1 + 1 < w1.heap.size := by omega)
        (try have hbz4 : w.heap.size + 1 + 1 + 1 + 1 < w1.heap.size := by omega)
        (try have hbz5 : w.heap.size + 1 + 1 + 1 + 1 + 1 < w1.heap.size := by omega)
        go_wp2_with (first | (go_at_call 86; refine (first2_any _ _ _).mono ?_; rintro r w1 ⟨rfl, rfl⟩))
        go_ret
        refine ⟨ret_i (E0.out.trans (HE.out.trans (if_neg (fun hh => HO.out ⟨?_, ?_⟩))).symm), ?_⟩
        · rw [HX.out]; exact hh.1 _ (getD_mem (by rw [← HN.out]; exact hlt))
        · rw [HY.out]; exact hh.2 _ (getD_mem (by rw [HL.out]; exact hlt))
        · refine hB.trans (Below.mono ?_ hB.size)
          repeat (first | (with_reducible exact Below.refl _ _) | ((with_reducible refine Below.setCell ?_ ?_ _); rotate_left 1; focus (first | (simp; done) | (simp; omega) | (simp at *; omega))) | ((with_reducible refine Below.alloc ?_ ?_ _); rotate_left 1; focus (first | (simp; done) | (simp; omega) | (simp at *; omega))) | (with_reducible refine Below.drew ?_) | ((with_reducible refine Calm.step (by assumption) ?_ ?_); rotate_left 1; focus (first | (simp; done) | (simp; omega) | (simp at *; omega))))
    · clear k1 k2
      go_wp2
      go_ret
      refine ⟨ret_i (HE.out.trans (if_pos ⟨mem_getD fun j hj => ?_, mem_getD fun j hj => ?_⟩)).symm, hB⟩
      · exact (HZ.out j (by rw [← HN.out] at hj; omega)).1
      · exact (HZ.out j (by rw [HL.out] at hj; omega)).2
end Go.Proofs.YtpkldjlljoledaaDoor
