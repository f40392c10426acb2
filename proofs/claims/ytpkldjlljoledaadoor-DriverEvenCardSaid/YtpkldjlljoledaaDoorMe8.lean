/- Part 8 of the texts of the claim: B5, B6, Slab, Rel2, Rel3. -/
import Derived.Test.YtpkldjlljoledaaDoorMe7
import Derived.Test.YtpkldjlljoledaaDoorMe2
import Derived.Deep.Slices
import Derived.Test.YtpkldjlljoledaaDoorMe4
import Derived.ArgAppend

/- Contracts of package driver's checks of readings and classes. -/
namespace Go.Proofs.YtpkldjlljoledaaDoor
open Go.RowKit
open Calm (bcell Blk)

/-- the first error of a reading. -/
def readErr (a b c : Int) : Int := firstOf [rangeErr a 1 8, rangeErr b 0 1000000, rangeErr c 0 1000000, if c < b then 11 else 0]
set_option maxHeartbeats 2000000 in
theorem readCheck_any (a b c : Int) (w : World) :
    Calls Tryd.prog 115 #[.agg #[(.int .i64 (a)), (.int .i64 (b)), (.int .i64 (c))]] w fun r w' => r = .returned (.int .i64 (readErr a b c)) ∧ Below w.heap.size w w' := by
  by_cases h : c < b
  · have hE : readErr a b c = firstOf [rangeErr a 1 8, rangeErr b 0 1000000, rangeErr c 0 1000000, 11] := by unfold readErr; rw [if_pos h]
    rw [hE]
    clear hE
    go_enter Tryd.func115, Tryd.ntmps115
    go_wp2
    refine Calm.tail_below 15 (by kernel_rfl) (by kernel_rfl) ?_
    simp only [List.take_succ_cons, List.take_zero, List.drop_succ_cons, List.drop_zero]
    repeat (first | (first | (apply Calm.op_move; (focus rfl); (focus (first | exact .inl rfl | exact .inr rfl)); (focus ((try simp only [Act.eval, Array.getD_eq_getD_getElem?, List.getElem?_toArray, List.getElem?_cons_succ, List.getElem?_cons_zero, Option.getD_some]); rfl)); (try simp only [Act.put, List.setIfInBounds_toArray, List.set_cons_zero, List.set_cons_succ])) | (apply Calm.op_not; (focus rfl); (try simp only [Act.put, List.setIfInBounds_toArray, List.set_cons_zero, List.set_cons_succ])) | (apply Calm.op; (focus rfl); (focus (intro W hb; obtain ⟨hc, hf⟩ := bcell hb; clear hb hf; go_simp; (try go_bits); (try rfl); done)); (try simp only [Act.put, List.setIfInBounds_toArray, List.set_cons_zero, List.set_cons_succ]))) | (apply Calm.op_call; (focus rfl); (focus (intro W hb; obtain ⟨hc, hf⟩ := bcell hb; clear hb hf; go_simp; refine ⟨?_, ?_⟩; rfl; rfl)); (focus (intro W hb; first | (go_at_call 97; exact Calm.call_same hb (checkW_any _ _)) | (go_at_call 80; exact Calm.call_same hb (within_any _ _ _ _)) | (go_at_call 87; exact Calm.call_same hb (when_any _ _ _)))); (try simp only [Act.put, List.setIfInBounds_toArray, List.set_cons_zero, List.set_cons_succ])))
    refine wpQuiet_nil ?_
    intro w1 hb
    obtain ⟨hbc, hbf⟩ := bcell hb
    have hbz := hb.size
    (try simp at hbz)
    (try have hbz0 : w.heap.size < w1.heap.size := by omega)
    (try have hbz1 : w.heap.size + 1 < w1.heap.size := by omega)
    (try have hbz2 : w.heap.size + 1 + 1 < w1.heap.size := by omega)
    (try have hbz3 : w.heap.size + 1 + 1 + 1 < w1.heap.size := by omega)
    (try have hbz4 : w.heap.size + 1 + 1 + 1 + 1 < w1.heap.size := by omega)
    (try have hbz5 : w.heap.size + 1 + 1 + 1 + 1 + 1 < w1.heap.size := by omega)
    go_wp2_with (first | (go_at_call 86; refine (first4_any _ _ _ _ _).mono ?_; rintro r w1 ⟨rfl, rfl⟩))
    go_ret
    refine ⟨by first | rfl | (simp; done), ?_⟩
    repeat (first | (with_reducible exact Below.refl _ _) | ((with_reducible refine Below.setCell ?_ ?_ _); rotate_left 1; focus (first | (simp; done) | (simp; omega) | (simp at *; omega))) | ((with_reducible refine Below.alloc ?_ ?_ _); rotate_left 1; focus (first | (simp; done) | (simp; omega) | (simp at *; omega))) | (with_reducible refine Below.drew ?_) | ((with_reducible refine Calm.step (by assumption) ?_ ?_); rotate_left 1; focus (first | (simp; done) | (simp; omega) | (simp at *; omega))))
  · have hE : readErr a b c = firstOf [rangeErr a 1 8, rangeErr b 0 1000000, rangeErr c 0 1000000, 0] := by unfold readErr; rw [if_neg h]
    rw [hE]
    clear hE
    go_enter Tryd.func115, Tryd.ntmps115
    go_wp2
    refine Calm.tail_below 15 (by kernel_rfl) (by kernel_rfl) ?_
    simp only [List.take_succ_cons, List.take_zero, List.drop_succ_cons, List.drop_zero]
    repeat (first | (first | (apply Calm.op_move; (focus rfl); (focus (first | exact .inl rfl | exact .inr rfl)); (focus ((try simp only [Act.eval, Array.getD_eq_getD_getElem?, List.getElem?_toArray, List.getElem?_cons_succ, List.getElem?_cons_zero, Option.getD_some]); rfl)); (try simp only [Act.put, List.setIfInBounds_toArray, List.set_cons_zero, List.set_cons_succ])) | (apply Calm.op_not; (focus rfl); (try simp only [Act.put, List.setIfInBounds_toArray, List.set_cons_zero, List.set_cons_succ])) | (apply Calm.op; (focus rfl); (focus (intro W hb; obtain ⟨hc, hf⟩ := bcell hb; clear hb hf; go_simp; (try go_bits); (try rfl); done)); (try simp only [Act.put, List.setIfInBounds_toArray, List.set_cons_zero, List.set_cons_succ]))) | (apply Calm.op_call; (focus rfl); (focus (intro W hb; obtain ⟨hc, hf⟩ := bcell hb; clear hb hf; go_simp; refine ⟨?_, ?_⟩; rfl; rfl)); (focus (intro W hb; first | (go_at_call 97; exact Calm.call_same hb (checkW_any _ _)) | (go_at_call 80; exact Calm.call_same hb (within_any _ _ _ _)) | (go_at_call 87; exact Calm.call_same hb (when_any _ _ _)))); (try simp only [Act.put, List.setIfInBounds_toArray, List.set_cons_zero, List.set_cons_succ])))
    refine wpQuiet_nil ?_
    intro w1 hb
    obtain ⟨hbc, hbf⟩ := bcell hb
    have hbz := hb.size
    (try simp at hbz)
    (try have hbz0 : w.heap.size < w1.heap.size := by omega)
    (try have hbz1 : w.heap.size + 1 < w1.heap.size := by omega)
    (try have hbz2 : w.heap.size + 1 + 1 < w1.heap.size := by omega)
    (try have hbz3 : w.heap.size + 1 + 1 + 1 < w1.heap.size := by omega)
    (try have hbz4 : w.heap.size + 1 + 1 + 1 + 1 < w1.heap.size := by omega)
    (try have hbz5 : w.heap.size + 1 + 1 + 1 + 1 + 1 < w1.heap.size := by omega)
    go_wp2_with (first | (go_at_call 86; refine (first4_any _ _ _ _ _).mono ?_; rintro r w1 ⟨rfl, rfl⟩))
    go_ret
    refine ⟨by first | rfl | (simp; done), ?_⟩
    repeat (first | (with_reducible exact Below.refl _ _) | ((with_reducible refine Below.setCell ?_ ?_ _); rotate_left 1; focus (first | (simp; done) | (simp; omega) | (simp at *; omega))) | ((with_reducible refine Below.alloc ?_ ?_ _); rotate_left 1; focus (first | (simp; done) | (simp; omega) | (simp at *; omega))) | (with_reducible refine Below.drew ?_) | ((with_reducible refine Calm.step (by assumption) ?_ ?_); rotate_left 1; focus (first | (simp; done) | (simp; omega) | (simp at *; omega))))

/-- the first error of a class, without the number of its drivers. -/
def classPre (re le bl ma st lo m k r : Int) : Int := firstOf [drvErr re le bl ma st lo, rangeErr m ma 100, rangeErr k st 5000, rangeErr r lo 100]
/-- the number of the drivers of a class. -/
def classN (ma st lo m k r : Int) : Int := (m - ma + 1) * (k - st + 1) * (r - lo + 1)
def classErr (re le bl ma st lo m k r : Int) : Int := if classPre re le bl ma st lo m k r = 0 then (if 4096 < classN ma st lo m k r then 4 else 0) else classPre re le bl ma st lo m k r
set_option maxHeartbeats 2000000 in
theorem checkClass_bad (re le bl ma st lo m k r : Int) (w : World) (hL : Lim w) (h : classPre re le bl ma st lo m k r ≠ 0) :
    Calls Tryd.prog 99 #[.agg #[(.int .i64 (re)), (.int .i64 (le)), (.int .i64 (bl)), (.int .i64 (ma)), (.int .i64 (st)), (.int .i64 (lo)), (.int .i64 (m)), (.int .i64 (k)), (.int .i64 (r))]] w fun x w' => x = .returned (.int .i64 (classPre re le bl ma st lo m k r)) ∧ Below w.heap.size w w' := by
  have h2 : firstOf [drvErr re le bl ma st lo, rangeErr m ma 100, rangeErr k st 5000, rangeErr r lo 100] ≠ 0 := h
  clear h
  go_enter Tryd.func99, Tryd.ntmps99
  go_wp2
  refine Calm.tail_below 17 (by kernel_rfl) (by kernel_rfl) ?_
  simp only [List.take_succ_cons, List.take_zero, List.drop_succ_cons, List.drop_zero]
  repeat (first | (first | (apply Calm.op_move; (focus rfl); (focus (first | exact .inl rfl | exact .inr rfl)); (focus ((try simp only [Act.eval, Array.getD_eq_getD_getElem?, List.getElem?_toArray, List.getElem?_cons_succ, List.getElem?_cons_zero, Option.getD_some]); rfl)); (try simp only [Act.put, List.setIfInBounds_toArray, List.set_cons_zero, List.set_cons_succ])) | (apply Calm.op_not; (focus rfl); (try simp only [Act.put, List.setIfInBounds_toArray, List.set_cons_zero, List.set_cons_succ])) | (apply Calm.op; (focus rfl); (focus (intro W hb; obtain ⟨hc, hf⟩ := bcell hb; clear hb hf; go_simp; (try go_bits); (try rfl); done)); (try simp only [Act.put, List.setIfInBounds_toArray, List.set_cons_zero, List.set_cons_succ]))) | (apply Calm.op_call; (focus rfl); (focus (intro W hb; obtain ⟨hc, hf⟩ := bcell hb; clear hb hf; go_simp; refine ⟨?_, ?_⟩; rfl; rfl)); (focus (intro W hb; first | (go_at_call 23; exact Calm.call_below hb (checkDriver_any _ _ _ _ _ _ _ (hL.below (by repeat (first | (with_reducible exact Below.refl _ _) | ((with_reducible refine Below.setCell ?_ ?_ _); rotate_left 1; focus (first | (simp; done) | (simp; omega) | (simp at *; omega))) | ((with_reducible refine Below.alloc ?_ ?_ _); rotate_left 1; focus (first | (simp; done) | (simp; omega) | (simp at *; omega))) | (with_reducible refine Below.drew ?_) | ((with_reducible refine Calm.step (by assumption) ?_ ?_); rotate_left 1; focus (first | (simp; done) | (simp; omega) | (simp at *; omega)))))))) | (go_at_call 80; exact Calm.call_same hb (within_any _ _ _ _)))); (try simp only [Act.put, List.setIfInBounds_toArray, List.set_cons_zero, List.set_cons_succ])))
  refine wpQuiet_nil ?_
  intro w1 hb
  obtain ⟨hbc, hbf⟩ := bcell hb
  have hbz := hb.size
  (try simp at hbz)
  (try have hbz0 : w.heap.size < w1.heap.size := by omega)
  (try have hbz1 : w.heap.size + 1 < w1.heap.size := by omega)
  (try have hbz2 : w.heap.size + 1 + 1 < w1.heap.size := by omega)
  (try have hbz3 : w.heap.size + 1 + 1 + 1 < w1.heap.size := by omega)
  (try have hbz4 : w.heap.size + 1 + 1 + 1 + 1 < w1.heap.size := by omega)
  (try have hbz5 : w.heap.size + 1 + 1 + 1 + 1 + 1 < w1.heap.size := by omega)
  go_wp2_with (first | (go_at_call 86; refine (first4_any _ _ _ _ _).mono ?_; rintro r w1 ⟨rfl, rfl⟩))
  go_ret
  refine ⟨by first | rfl | (simp; done), ?_⟩
  repeat (first | (with_reducible exact Below.refl _ _) | ((with_reducible refine Below.setCell ?_ ?_ _); rotate_left 1; focus (first | (simp; done) | (simp; omega) | (simp at *; omega))) | ((with_reducible refine Below.alloc ?_ ?_ _); rotate_left 1; focus (first | (simp; done) | (simp; omega) | (simp at *; omega))) | (with_reducible refine Below.drew ?_) | ((with_reducible refine Calm.step (by assumption) ?_ ?_); rotate_left 1; focus (first | (simp; done) | (simp; omega) | (simp at *; omega))))
theorem class_zero {re le bl ma st lo m k r : Int} (h : classPre re le bl ma st lo m k r = 0) : drvErr re le bl ma st lo = 0 ∧ (ma ≤ m ∧ m ≤ 100) ∧ (st ≤ k ∧ k ≤ 5000) ∧ (lo ≤ r ∧ r ≤ 100) := by
  unfold classPre at h
  have h := firstOf_eq_zero.1 h
  simp only [List.mem_cons, List.not_mem_nil, or_false, forall_eq_or_imp, forall_eq] at h
  exact ⟨h.1, rangeErr_zero.1 h.2.1, rangeErr_zero.1 h.2.2.1, rangeErr_zero.1 h.2.2.2⟩
set_option maxHeartbeats 2000000 in
theorem checkClass_ok (re le bl ma st lo m k r : Int) (w : World) (hL : Lim w) (h : classPre re le bl ma st lo m k r = 0) :
    Calls Tryd.prog 99 #[.agg #[(.int .i64 (re)), (.int .i64 (le)), (.int .i64 (bl)), (.int .i64 (ma)), (.int .i64 (st)), (.int .i64 (lo)), (.int .i64 (m)), (.int .i64 (k)), (.int .i64 (r))]] w fun x w' => x = .returned (.int .i64 (if 4096 < classN ma st lo m k r then 4 else 0)) ∧ Below w.heap.size w w' := by
  obtain ⟨hd, h1, h2, h3⟩ := class_zero h
  obtain ⟨_, _, _, d1, d2, d3⟩ := drvErr_zero hd
  have h4 : firstOf [drvErr re le bl ma st lo, rangeErr m ma 100, rangeErr k st 5000, rangeErr r lo 100] = 0 := h
  clear h hd
  have q1 : Bd 100 (m - ma + 1) := ⟨by omega, by omega⟩
  have q2 : Bd 5000 (k - st + 1) := ⟨by omega, by omega⟩
  have q3 : Bd 100 (r - lo + 1) := ⟨by omega, by omega⟩
  obtain ⟨e1, e2⟩ := q1.mul q2 (by omega)
  have q4 : Bd 500000 ((m - ma + 1) * (k - st + 1)) := ⟨by omega, by omega⟩
  obtain ⟨e3, e4⟩ := q4.mul q3 (by omega)
  clear q1 q2 q3 q4
  obtain ⟨⟨a1, a2⟩, ⟨a3, a4⟩, ⟨a5, a6⟩⟩ := And.intro h1 (And.intro h2 h3)
  obtain ⟨⟨a7, a8⟩, ⟨a9, b1⟩, ⟨b2, b3⟩⟩ := And.intro d1 (And.intro d2 d3)
  clear h1 h2 h3 d1 d2 d3
  by_cases hn : 4096 < classN ma st lo m k r
  · rw [if_pos hn]
    unfold classN at hn
    go_enter Tryd.func99, Tryd.ntmps99
    go_wp2
    refine Calm.tail_below 17 (by kernel_rfl) (by kernel_rfl) ?_
    simp only [List.take_succ_cons, List.take_zero, List.drop_succ_cons, List.drop_zero]
    repeat (first | (first | (apply Calm.op_move; (focus rfl); (focus (first | exact .inl rfl | exact .inr rfl)); (focus ((try simp only [Act.eval, Array.getD_eq_getD_getElem?, List.getElem?_toArray, List.getElem?_cons_succ, List.getElem?_cons_zero, Option.getD_some]); rfl)); (try simp only [Act.put, List.setIfInBounds_toArray, List.set_cons_zero, List.set_cons_succ])) | (apply Calm.op_not; (focus rfl); (try simp only [Act.put, List.setIfInBounds_toArray, List.set_cons_zero, List.set_cons_succ])) | (apply Calm.op; (focus rfl); (focus (intro W hb; obtain ⟨hc, hf⟩ := bcell hb; clear hb hf; go_simp; (try go_bits); (try rfl); done)); (try simp only [Act.put, List.setIfInBounds_toArray, List.set_cons_zero, List.set_cons_succ]))) | (apply Calm.op_call; (focus rfl); (focus (intro W hb; obtain ⟨hc, hf⟩ := bcell hb; clear hb hf; go_simp; refine ⟨?_, ?_⟩; rfl; rfl)); (focus (intro W hb; first | (go_at_call 23; exact Calm.call_below hb (checkDriver_any _ _ _ _ _ _ _ (hL.below (by repeat (first | (with_reducible exact Below.refl _ _) | ((with_reducible refine Below.setCell ?_ ?_ _); rotate_left 1; focus (first | (simp; done) | (simp; omega) | (simp at *; omega))) | ((with_reducible refine Below.alloc ?_ ?_ _); rotate_left 1; focus (first | (simp; done) | (simp; omega) | (simp at *; omega))) | (with_reducible refine Below.drew ?_) | ((with_reducible refine Calm.step (by assumption) ?_ ?_); rotate_left 1; focus (first | (simp; done) | (simp; omega) | (simp at *; omega)))))))) | (go_at_call 80; exact Calm.call_same hb (within_any _ _ _ _)))); (try simp only [Act.put, List.setIfInBounds_toArray, List.set_cons_zero, List.set_cons_succ])))
    refine wpQuiet_nil ?_
    intro w1 hb
    obtain ⟨hbc, hbf⟩ := bcell hb
    have hbz := hb.size
    (try simp at hbz)
    (try have hbz0 : w.heap.size < w1.heap.size := by omega)
    (try have hbz1 : w.heap.size + 1 < w1.heap.size := by omega)
    (try have hbz2 : w.heap.size + 1 + 1 < w1.heap.size := by omega)
    (try have hbz3 : w.heap.size + 1 + 1 + 1 < w1.heap.size := by omega)
    (try have hbz4 : w.heap.size + 1 + 1 + 1 + 1 < w1.heap.size := by omega)
    (try have hbz5 : w.heap.size + 1 + 1 + 1 + 1 + 1 < w1.heap.size := by omega)
    go_wp2_with (first | (go_at_call 86; refine (first4_any _ _ _ _ _).mono ?_; rintro r w1 ⟨rfl, rfl⟩) | (go_at_call 87; refine (when_any _ _ _).mono ?_; rintro r w1 ⟨rfl, rfl⟩))
    go_ret
    refine ⟨by first | rfl | (simp [hn]; done), ?_⟩
    repeat (first | (with_reducible exact Below.refl _ _) | ((with_reducible refine Below.setCell ?_ ?_ _); rotate_left 1; focus (first | (simp; done) | (simp; omega) | (simp at *; omega))) | ((with_reducible refine Below.alloc ?_ ?_ _); rotate_left 1; focus (first | (simp; done) | (simp; omega) | (simp at *; omega))) | (with_reducible refine Below.drew ?_) | ((with_reducible refine Calm.step (by assumption) ?_ ?_); rotate_left 1; focus (first | (simp; done) | (simp; omega) | (simp at *; omega))))
  · rw [if_neg hn]
    unfold classN at hn
    go_enter Tryd.func99, Tryd.ntmps99
    go_wp2
    refine Calm.tail_below 17 (by kernel_rfl) (by kernel_rfl) ?_
    simp only [List.take_succ_cons, List.take_zero, List.drop_succ_cons, List.drop_zero]
    repeat (first | (first | (apply Calm.op_move; (focus rfl); (focus (first | exact .inl rfl | exact .inr rfl)); (focus ((try simp only [Act.eval, Array.getD_eq_getD_getElem?, List.getElem?_toArray, List.getElem?_cons_succ, List.getElem?_cons_zero, Option.getD_some]); rfl)); (try simp only [Act.put, List.setIfInBounds_toArray, List.set_cons_zero, List.set_cons_succ])) | (apply Calm.op_not; (focus rfl); (try simp only [Act.put, List.setIfInBounds_toArray, List.set_cons_zero, List.set_cons_succ])) | (apply Calm.op; (focus rfl); (focus (intro W hb; obtain ⟨hc, hf⟩ := bcell hb; clear hb hf; go_simp; (try go_bits); (try rfl); done)); (try simp only [Act.put, List.setIfInBounds_toArray, List.set_cons_zero, List.set_cons_succ]))) | (apply Calm.op_call; (focus rfl); (focus (intro W hb; obtain ⟨hc, hf⟩ := bcell hb; clear hb hf; go_simp; refine ⟨?_, ?_⟩; rfl; rfl)); (focus (intro W hb; first | (go_at_call 23; exact Calm.call_below hb (checkDriver_any _ _ _ _ _ _ _ (hL.below (by repeat (first | (with_reducible exact Below.refl _ _) | ((with_reducible refine Below.setCell ?_ ?_ _); rotate_left 1; focus (first | (simp; done) | (simp; omega) | (simp at *; omega))) | ((with_reducible refine Below.alloc ?_ ?_ _); rotate_left 1; focus (first | (simp; done) | (simp; omega) | (simp at *; omega))) | (with_reducible refine Below.drew ?_) | ((with_reducible refine Calm.step (by assumption) ?_ ?_); rotate_left 1; focus (first | (simp; done) | (simp; omega) | (simp at *; omega)))))))) | (go_at_call 80; exact Calm.call_same hb (within_any _ _ _ _)))); (try simp only [Act.put, List.setIfInBounds_toArray, List.set_cons_zero, List.set_cons_succ])))
    refine wpQuiet_nil ?_
    intro w1 hb
    obtain ⟨hbc, hbf⟩ := bcell hb
    have hbz := hb.size
    (try simp at hbz)
    (try have hbz0 : w.heap.size < w1.heap.size := by omega)
    (try have hbz1 : w.heap.size + 1 < w1.heap.size := by omega)
    (try have hbz2 : w.heap.size + 1 + 1 < w1.heap.size := by omega)
    (try have hbz3 : w.heap.size + 1 + 1 + 1 < w1.heap.size := by omega)
    (try have hbz4 : w.heap.size + 1 + 1 + 1 + 1 < w1.heap.size := by omega)
    (try have hbz5 : w.heap.size + 1 + 1 + 1 + 1 + 1 < w1.heap.size := by omega)
    go_wp2_with (first | (go_at_call 86; refine (first4_any _ _ _ _ _).mono ?_; rintro r w1 ⟨rfl, rfl⟩) | (go_at_call 87; refine (when_any _ _ _).mono ?_; rintro r w1 ⟨rfl, rfl⟩))
    go_ret
    refine ⟨by first | rfl | (simp [hn]; done), ?_⟩
    repeat (first | (with_reducible exact Below.refl _ _) | ((with_reducible refine Below.setCell ?_ ?_ _); rotate_left 1; focus (first | (simp; done) | (simp; omega) | (simp at *; omega))) | ((with_reducible refine Below.alloc ?_ ?_ _); rotate_left 1; focus (first | (simp; done) | (simp; omega) | (simp at *; omega))) | (with_reducible refine Below.drew ?_) | ((with_reducible refine Calm.step (by assumption) ?_ ?_); rotate_left 1; focus (first | (simp; done) | (simp; omega) | (simp at *; omega))))
end Go.Proofs.YtpkldjlljoledaaDoor

/- Contract of package driver's CheckReadings. -/
namespace Go.Proofs.YtpkldjlljoledaaDoor
open Go.RowKit
open Calm (bcell Blk)

/-- the slice of these readings lies in memory (an empty one anywhere, or nowhere). -/
def RCells (w : World) (A : Option Addr) (zs : List (Int × Int × Int)) : Prop :=
  0 < zs.length → ∃ b off, A = some ⟨b, off, none⟩ ∧ b < w.heap.size ∧ ∀ k, k < zs.length → w.cell? ⟨b, off + k * 3, none⟩ = some (.int .i64 ((zs.getD k (0, 0, 0)).1)) ∧ w.cell? ⟨b, off + k * 3 + 1, none⟩ = some (.int .i64 ((zs.getD k (0, 0, 0)).2.1)) ∧ w.cell? ⟨b, off + k * 3 + 2, none⟩ = some (.int .i64 ((zs.getD k (0, 0, 0)).2.2))
theorem RCells.below {w w' : World} {A : Option Addr} {zs : List (Int × Int × Int)} (h : RCells w A zs) (hb : Below w.heap.size w w') : RCells w' A zs := by
  intro h0
  obtain ⟨b, off, hA, hl, hc⟩ := h h0
  refine ⟨b, off, hA, Nat.lt_of_lt_of_le hl hb.size, fun k hk => ?_⟩
  obtain ⟨h1, h2, h3⟩ := hc k hk
  exact ⟨(hb.cell (p := ⟨b, off + k * 3, none⟩) hl).trans h1, (hb.cell (p := ⟨b, off + k * 3 + 1, none⟩) hl).trans h2, (hb.cell (p := ⟨b, off + k * 3 + 2, none⟩) hl).trans h3⟩

/-- the first errors of readings, without their number. -/
def readErrs (zs : List (Int × Int × Int)) : List Int := zs.map fun r => readErr r.1 r.2.1 r.2.2
def readsErr (zs : List (Int × Int × Int)) : Int := if 32 < zs.length then 5 else firstOf (readErrs zs)

theorem checkReadings_long (A : Option Addr) (n c : Nat) (w : World) (h : 32 < n) (h2 : n ≤ 100000) :
    Calls Tryd.prog 100 #[.slice A n c] w fun r w' => r = .returned (.int .i64 (5)) ∧ w = w' := by
  go_enter Tryd.func100, Tryd.ntmps100
  go_wp2
  go_ret
  exact ⟨rfl, rfl⟩

set_option maxHeartbeats 2000000 in
theorem checkReadings_len (A : Option Addr) (zs : List (Int × Int × Int)) (c : Nat) (w : World) (hC : RCells w A zs) (h : zs.length ≤ 32) :
    Calls Tryd.prog 100 #[.slice A zs.length c] w fun r w' => r = .returned (.int .i64 (firstOf (readErrs zs))) ∧ Below w.heap.size w w' := by
  go_enter Tryd.func100, Tryd.ntmps100
  go_wp2
  go_loopw [11] (fun i wr => ∃ k : Nat, k ≤ zs.length ∧ i = (.int .i64 (k)) ∧ (∀ j, j < k → (readErrs zs).getD j 0 = 0) ∧ Below w.heap.size w wr) (fun i _ => zs.length - (intOf i).toNat)
  case atStart => exact ⟨0, Nat.zero_le _, rfl, fun j hj => by omega, Below.refl _ _⟩
  case round =>
    obtain ⟨k, hk, rfl, hz, hB⟩ := hrel
    have HZ := Lib.hid hz
    clear hz
    by_cases hlt : k < zs.length
    · obtain ⟨b, o, rfl, l1, k1⟩ := hC (by omega)
      obtain ⟨x1, x2, x3⟩ := k1 k hlt
      have x1 := (hB.cell (p := ⟨b, o + k * 3, none⟩) l1).trans x1
      have x2 := (hB.cell (p := ⟨b, o + k * 3 + 1, none⟩) l1).trans x2
      have x3 := (hB.cell (p := ⟨b, o + k * 3 + 2, none⟩) l1).trans x3
      have hE : (readErrs zs).getD k 0 = readErr (zs.getD k (0, 0, 0)).1 (zs.getD k (0, 0, 0)).2.1 (zs.getD k (0, 0, 0)).2.2 := by
        simp [readErrs, List.getD_eq_getElem?_getD, List.getElem?_map, List.getElem?_eq_getElem hlt]
      have HK := Lib.hid k1
      clear k1 hC
      obtain ⟨⟨x, y, z⟩, hx⟩ : ∃ x, x = zs.getD k (0, 0, 0) := ⟨_, rfl⟩
      rw [← hx] at x1 x2 x3 hE
      clear hx
      have hsz := hB.size
      simp only [] at x1 x2 x3 hE
      by_cases he : readErr x y z = 0
      · have HE := Lib.hid hE
        clear hE
        go_wp2_with (first | (go_at_call 115; refine (readCheck_any _ _ _ _).mono ?_; rintro r w1 ⟨rfl, hb⟩; obtain ⟨hc, hf⟩ := bcell hb; have hz := hb.size; (try simp at hz); (try have hz0 : w.heap.size < w1.heap.size := by omega); (try have hz1 : w.heap.size + 1 < w1.heap.size := by omega); (try have hz2 : w.heap.size + 1 + 1 < w1.heap.size := by omega); (try have hz3 : w.heap.size + 1 + 1 + 1 < w1.heap.size := by omega); (try have hz4 : w.heap.size + 1 + 1 + 1 + 1 < w1.heap.size := by omega); (try have hz5 : w.heap.size + 1 + 1 + 1 + 1 + 1 < w1.heap.size := by omega); (try have hz6 : w.heap.size + 1 + 1 + 1 + 1 + 1 + 1 < w1.heap.size := by omega)))
        go_roundw
        case rel => exact ⟨k + 1, by omega, by go_num, fun j hj => by
          rcases Nat.lt_or_ge j k with h | h
          · exact HZ.out j h
          · obtain rfl : j = k := by omega
            rw [HE.out, he], hB.trans (Below.mono (by (repeat (first | (with_reducible exact Below.refl _ _) | ((with_reducible refine Below.setCell ?_ ?_ _); rotate_left 1; focus (first | (simp; done) | (simp; omega) | (simp at *; omega))) | ((with_reducible refine Below.alloc ?_ ?_ _); rotate_left 1; focus (first | (simp; done) | (simp; omega) | (simp at *; omega))) | (with_reducible refine Below.drew ?_) | ((with_reducible refine Calm.step (by assumption) ?_ ?_); rotate_left 1; focus (first | (simp; done) | (simp; omega) | (simp at *; omega)))))) hsz)⟩
        case measure => simp [intOf]; omega
      · have HE := Lib.hid hE
        clear hE
        go_wp2_with (first | (go_at_call 115; refine (readCheck_any _ _ _ _).mono ?_; rintro r w1 ⟨rfl, hb⟩; obtain ⟨hc, hf⟩ := bcell hb; have hz := hb.size; (try simp at hz); (try have hz0 : w.heap.size < w1.heap.size := by omega); (try have hz1 : w.heap.size + 1 < w1.heap.size := by omega); (try have hz2 : w.heap.size + 1 + 1 < w1.heap.size := by omega); (try have hz3 : w.heap.size + 1 + 1 + 1 < w1.heap.size := by omega); (try have hz4 : w.heap.size + 1 + 1 + 1 + 1 < w1.heap.size := by omega); (try have hz5 : w.heap.size + 1 + 1 + 1 + 1 + 1 < w1.heap.size := by omega); (try have hz6 : w.heap.size + 1 + 1 + 1 + 1 + 1 + 1 < w1.heap.size := by omega)))
        go_ret
        refine ⟨ret_i ?_, hB.trans (Below.mono (by (repeat (first | (with_reducible exact Below.refl _ _) | ((with_reducible refine Below.setCell ?_ ?_ _); rotate_left 1; focus (first | (simp; done) | (simp; omega) | (simp at *; omega))) | ((with_reducible refine Below.alloc ?_ ?_ _); rotate_left 1; focus (first | (simp; done) | (simp; omega) | (simp at *; omega))) | (with_reducible refine Below.drew ?_) | ((with_reducible refine Calm.step (by assumption) ?_ ?_); rotate_left 1; focus (first | (simp; done) | (simp; omega) | (simp at *; omega)))))) hsz)⟩
        rw [firstOf_take HZ.out (by simpa [readErrs] using hlt) (by rw [HE.out]; exact he), HE.out]
    · go_wp2
      go_ret
      exact ⟨ret_i (firstOf_zero fun j hj => HZ.out j (by simp [readErrs] at hj; omega)).symm, hB⟩
end Go.Proofs.YtpkldjlljoledaaDoor

/- Arguments that are slices of integers, or of structs of integers: their cells. -/
namespace Go.Proofs.YtpkldjlljoledaaDoor
open Go.ChangeShapes Go.WideShapes Go.RowKit Go.Flat

section
variable {H : Type} {enc : TypeId × Value → H} {P : Program} {w : World} {base : Nat} {sp : Nat → Bool} {held : Bool}

theorem cell_lt {w : World} {b o : Nat} {v : Value} (h : w.cell? ⟨b, o, none⟩ = some v) : b < w.heap.size := by
  rcases Nat.lt_or_ge b w.heap.size with h' | h'
  · exact h'
  · unfold World.cell? at h
    rw [show w.heap[(⟨b, o, none⟩ : Addr).block]? = none from Array.getElem?_eq_none h'] at h
    cases h

/-- a slice whose elements are made of integers alone. -/
theorem open_slab (m : Nat) {t e : TypeId} {k : Nat} {fuel : Nat} {cs : List Value} {x : DataW H × List MemPlace} (ht : P.underlying t = some (.slice e)) (he : intsB P m e = true) (hk : P.cellsOf e = k) (hk0 : 0 < k)
    (h : DataW.trod enc P w base sp held fuel t cs = some x) :
    ∃ (A : Option Addr) (len cap : Nat) (zs : Nat → List Int), cs = [.slice A len cap] ∧ len ≤ cap ∧ cap ≤ maxLen ∧ (∀ i, i < len → (zs i).length = k) ∧
      (0 < len → ∃ b o, A = some ⟨b, o, none⟩ ∧ b < w.heap.size ∧ ∀ i j, i < len → j < k → w.cell? ⟨b, o + i * k + j, none⟩ = some (.int .i64 ((zs i).getD j 0))) := by
  subst hk
  rcases Deep.open_slice ht h with ⟨rfl, _⟩ | ⟨a, len, cap, m', n, D, Pl, rfl, _, h1, h2, h3, _, h4⟩
  · exact ⟨none, 0, 0, fun _ => [], rfl, Nat.le_refl _, Nat.zero_le _, fun i hi => by omega, fun h0 => by omega⟩
  · have hlm : len ≤ m' := by rw [h3]; split <;> omega
    obtain ⟨zs, hzs⟩ := Deep.choose_lt (n := len) (α := List Int) (p := fun i z => z.length = P.cellsOf e ∧ ∀ j, j < P.cellsOf e → w.cell? ((a.add (i * P.cellsOf e)).add j) = some (.int .i64 (z.getD j 0))) (fun i hi => by
      obtain ⟨cs', hc, hx⟩ := h4 i (by omega)
      obtain ⟨_, hl, hcell⟩ := World.cells?_some hc
      obtain ⟨hcs, _⟩ := cells_of_ints m he hx
      refine ⟨flat m (D i), ?_, fun j hj => ?_⟩
      · have := congrArg List.length hcs
        simp at this
        omega
      · rw [hcell j hj, hcs]
        have hj' : j < (flat m (D i)).length := by
          have := congrArg List.length hcs
          simp at this
          omega
        simp [List.getD, hj'])
    refine ⟨some a, len, cap, zs, rfl, h1, h2, fun i hi => (hzs i hi).1, fun h0 => ?_⟩
    obtain ⟨b, o, s⟩ := a
    have hs : s = none := by
      have := World.cell?_spot ((hzs 0 h0).2 0 hk0)
      simpa [Addr.add] using this
    subst hs
    refine ⟨b, o, rfl, ?_, fun i j hi hj => ?_⟩
    · have := (hzs 0 h0).2 0 hk0
      rw [add_plain, add_plain] at this
      exact cell_lt this
    · have := (hzs i hi).2 j hj
      rwa [add_plain, add_plain] at this

/-- a slice of integers. -/
theorem open_cells (m : Nat) {t e : TypeId} {fuel : Nat} {cs : List Value} {x : DataW H × List MemPlace} (ht : P.underlying t = some (.slice e)) (he : intsB P m e = true) (hk : P.cellsOf e = 1)
    (h : DataW.trod enc P w base sp held fuel t cs = some x) : ∃ (A : Option Addr) (cap : Nat) (zs : List Int), cs = [.slice A zs.length cap] ∧ zs.length ≤ cap ∧ cap ≤ maxLen ∧ Cells w A zs := by
  obtain ⟨A, len, cap, zs, rfl, h1, h2, _, h3⟩ := open_slab m ht he hk (by omega) h
  refine ⟨A, cap, (List.range len).map fun i => (zs i).getD 0 0, by simp, by simpa using h1, h2, fun h0 => ?_⟩
  obtain ⟨b, o, hA, hb, hc⟩ := h3 (by simpa using h0)
  refine ⟨b, o, hA, hb, fun k hk => ?_⟩
  have hk' : k < len := by simpa using hk
  have := hc k 0 hk' (by omega)
  simp only [Nat.mul_one, Nat.add_zero] at this
  rw [this]
  simp [List.getD, hk']

/-- a slice of structs of three integers. -/
theorem open_rcells (m : Nat) {t e : TypeId} {fuel : Nat} {cs : List Value} {x : DataW H × List MemPlace} (ht : P.underlying t = some (.slice e)) (he : intsB P m e = true) (hk : P.cellsOf e = 3)
    (h : DataW.trod enc P w base sp held fuel t cs = some x) : ∃ (A : Option Addr) (cap : Nat) (zs : List (Int × Int × Int)), cs = [.slice A zs.length cap] ∧ zs.length ≤ cap ∧ cap ≤ maxLen ∧ RCells w A zs := by
  obtain ⟨A, len, cap, zs, rfl, h1, h2, _, h3⟩ := open_slab m ht he hk (by omega) h
  refine ⟨A, cap, (List.range len).map fun i => ((zs i).getD 0 0, (zs i).getD 1 0, (zs i).getD 2 0), by simp, by simpa using h1, h2, fun h0 => ?_⟩
  obtain ⟨b, o, hA, hb, hc⟩ := h3 (by simpa using h0)
  refine ⟨b, o, hA, hb, fun k hk => ?_⟩
  have hk' : k < len := by simpa using hk
  have e0 := hc k 0 hk' (by omega)
  have e1 := hc k 1 hk' (by omega)
  have e2 := hc k 2 hk' (by omega)
  simp only [Nat.add_zero] at e0
  rw [e0, e1, e2]
  simp [List.getD, hk']
end
end Go.Proofs.YtpkldjlljoledaaDoor

/- More for regions whose head makes memory: a slice of its own. -/
namespace Go.Proofs.YtpkldjlljoledaaDoor.Rel
open Go.RowKit
variable {P : Program} {DS : List Tmp} {w0 : World} {a0 : Act} {T : Ctx → Prop} {Γ : Ctx} {o : Oper} {rest : List Oper}
/-- A new slice that holds just these cells. -/
def NewS (B n c : Nat) (cs : Array Value) : Know := fun u W => ∃ g, u = .slice (some ⟨g, 0, none⟩) n c ∧ B ≤ g ∧ Calm.Blk W g cs
theorem stable_newS (B n c : Nat) (cs : Array Value) : Stable (NewS B n c cs) := fun _ _ _ ⟨g, h1, h2, h3⟩ hb => ⟨g, h1, h2, h3.below hb⟩
theorem build (t : TypeId) (n c : Nat) (cs : Array Value) (hg : o.guard = none)
    (h : ∀ (a : Act) (W : World), Below w0.heap.size w0 W → deps Γ a W (o.after.toList.map (·.on)) → (∀ t, t ∉ DS → a.eval (.tmp t) = a0.eval (.tmp t)) → (execOp a.eval o).run P W = .ok (.value (.slice (some ⟨W.heap.size, 0, none⟩) n c)) (W.alloc (.cells cs t)))
    (hn : walk2 P DS w0 a0 T (Γ ++ [(o.dst, NewS w0.heap.size n c cs)]) rest) : walk2 P DS w0 a0 T Γ (o :: rest) :=
  ⟨_, stable_newS _ n c cs, hg, fun a W hb hd hbase K Q hK => by
    unfold Oper.wp
    rw [h a W hb hd hbase]
    exact hK _ _ ⟨_, rfl, hb.size, Calm.Blk.new W t cs⟩ ((Below.refl _ _).alloc (Nat.le_refl _) _), hn⟩
end Go.Proofs.YtpkldjlljoledaaDoor.Rel
namespace Go.Proofs.YtpkldjlljoledaaDoor.Calm
open Go.RowKit
theorem Blk.of {w w' : World} {B g : Nat} {cs : Array Value} (h : Blk w g cs) (hg : g < B) (hb : Below B w w') : Blk w' g cs :=
  ⟨Nat.lt_of_lt_of_le h.lt hb.size, fun i => (hb.cell (p := ⟨g, i, none⟩) hg).trans (h.c i), fun i => (hb.frozen (p := ⟨g, i, none⟩) hg).trans (h.f i)⟩
end Go.Proofs.YtpkldjlljoledaaDoor.Calm

/- Regions whose order is open and whose edges bind in part; an append and a call with relational results in the head. -/
namespace Go.Proofs.YtpkldjlljoledaaDoor.Rel
open Go.RowKit
/-- the operations that this one waits for. -/
def ons (o : Oper) : List Nat := (o.after.toList.filter fun e => Region.binds .any e).map (·.on)
def Ob3 (P : Program) (DS : List Tmp) (w0 : World) (a0 : Act) (Γ : Ctx) (o : Oper) (R : Know) : Prop :=
  ∀ (a : Act) (W : World), Below w0.heap.size w0 W → deps Γ a W (ons o) → (∀ t, t ∉ DS → a.eval (.tmp t) = a0.eval (.tmp t)) →
    ∀ (K : Act → World → Prop) (Q : Exit → Act → World → Prop), (∀ v W', R v W' → Below W.heap.size W W' → K (a.put o.dst v) W') → o.wp P a W K Q
def GOK3 (Γ : Ctx) (o : Oper) : Prop := o.guard = none ∨ ∃ g b t, o.guard = some (g, b) ∧ g ∈ ons o ∧ Γ[g]? = some (some t, fun u _ => u = .bool b)
def walk3 (P : Program) (DS : List Tmp) (w0 : World) (a0 : Act) (T : Ctx → Prop) : Ctx → List Oper → Prop
  | Γ, [] => T Γ
  | Γ, o :: l => ∃ R, Stable R ∧ GOK3 Γ o ∧ Ob3 P DS w0 a0 Γ o R ∧ walk3 P DS w0 a0 T (Γ ++ [(o.dst, R)]) l
theorem walk_of_walk3 {P : Program} {ops : Array Oper} {n : Nat} {DS : List Tmp} {w0 : World} {a0 : Act} {T : Ctx → Prop} {T' : List Know → Prop} (hDS : ∀ t, t ∉ DS → ∀ j, j < n → dst ops j ≠ some t)
    (hT : ∀ Γ, T Γ → T' (Γ.map (·.2))) :
    ∀ (l : List Oper) (Γ : Ctx), (∀ j, j < l.length → l[j]? = ops[Γ.length + j]?) → (∀ j d R, Γ[j]? = some (d, R) → dst ops j = d) → walk3 P DS w0 a0 T Γ l → walk P ops n w0 a0 T' (Γ.map (·.2)) l
  | [], Γ, _, _, h => hT Γ h
  | o :: l, Γ, hl, hΓ, h => by
    obtain ⟨R, hs, hg, hob, hw⟩ := h
    have h0 : ops[Γ.length]? = some o := by simpa using (hl 0 (by simp)).symm
    have hg' : GOK ops (Γ.map (·.2)) o := by
      rcases hg with hg | ⟨g, b, t, hg, hin, hΓg⟩
      · exact .inl hg
      · obtain ⟨e, he, rfl⟩ := List.mem_map.1 hin
        obtain ⟨he1, he2⟩ := List.mem_filter.1 he
        exact .inr ⟨e.on, b, t, hg, ⟨e, by simpa using he1, he2, rfl⟩, hΓ _ _ _ hΓg, by simp [hΓg]⟩
    refine ⟨R, hs, hg', fun _ => ?_, ?_⟩
    · intro a W hb hz hd hbase K Q hK
      refine hob a W hb (deps_of _ fun j hj => ?_) (fun t ht => hbase t (fun j hj => hDS t ht j hj)) K Q hK
      obtain ⟨e, he, rfl⟩ := List.mem_map.1 hj
      obtain ⟨he1, he2⟩ := List.mem_filter.1 he
      have he' : e ∈ o.after := by simpa using he1
      cases hc : Γ[e.on]? with
      | none => trivial
      | some c =>
        obtain ⟨d, K'⟩ := c
        cases d with
        | none => trivial
        | some t => exact hd e he' he2 t (hΓ _ _ _ hc) K' (by simp [hc])
    · have := walk_of_walk3 hDS hT l (Γ ++ [(o.dst, R)]) (fun j hj => by
        have := hl (j + 1) (by simp; omega)
        simpa [Nat.add_assoc, Nat.add_comm 1 j] using this) (fun j d R' hj => by
        rcases Nat.lt_or_ge j Γ.length with h | h
        · rw [List.getElem?_append_left h] at hj
          exact hΓ j d R' hj
        · have hjl : j < (Γ ++ [(o.dst, R)]).length := (List.getElem?_eq_some_iff.1 hj).1
          obtain rfl : j = Γ.length := by simp at hjl; omega
          simp at hj
          rw [← hj.1]
          simp [dst, h0]) hw
      simpa using this
theorem region3 {P : Program} {id : Nat} {Q : Exit → Act → World → Prop} {a : Act} {w : World} {l : List Oper} (n : Nat) (hm : P.follows .mixedOrders = true) (hok : okB l.toArray n = true) (hsz : sizeB l.toArray n a.tmps.size = true)
    (h : walk3 P ((l.take n).filterMap (·.dst)) w a (fun Γ => ∀ (x : Nat → Value) (W : World), Below w.heap.size w W → facts x W 0 Γ → wpList P l.toArray Q (l.drop n) (fill (l.take n) 0 x a) W) [] (l.take n)) :
    (Code.region id l.toArray true).wp P Q a w := by
  have hn' : n < l.length := by
    simp only [okB, Bool.and_eq_true, decide_eq_true_eq] at hok
    simpa using hok.1.1.1.1.1
  have htl : (l.take n).length = n := by simp; omega
  refine region n hm hok hsz (walk_of_walk3 (n := n) (fun t ht j hj hd => ht ?_) (fun Γ hT x W hb hx => hT x W hb (facts_of Γ 0 (fun j K hj => by rw [Nat.zero_add]; exact hx j K hj))) (l.take n) [] (fun j hj => by
      rw [htl] at hj
      simp [List.getElem?_take, hj]) (fun j d R hj => by simp at hj) h)
  have hlj : j < l.length := by omega
  simp [dst, hlj] at hd
  exact List.mem_filterMap.2 ⟨l[j], List.mem_iff_getElem.2 ⟨j, by omega, by simp⟩, hd⟩
section
variable {P : Program} {DS : List Tmp} {w0 : World} {a0 : Act} {T : Ctx → Prop} {Γ : Ctx} {o : Oper} {rest : List Oper}
theorem gno {Γ : Ctx} {o : Oper} (h : o.guard = none) : GOK3 Γ o := .inl h
theorem gyes {Γ : Ctx} {o : Oper} (g : Nat) (b : Bool) (t : Tmp) (h1 : o.guard = some (g, b)) (h2 : (ons o).contains g = true) (h3 : Γ[g]? = some (some t, fun u _ => u = .bool b)) : GOK3 Γ o :=
  .inr ⟨g, b, t, h1, by simpa using h2, h3⟩
theorem op3 (v : Value) (hg : GOK3 Γ o) (h : ∀ (a : Act) (W : World), Below w0.heap.size w0 W → deps Γ a W (ons o) → (∀ t, t ∉ DS → a.eval (.tmp t) = a0.eval (.tmp t)) → (execOp a.eval o).run P W = .ok (.value v) W)
    (hn : walk3 P DS w0 a0 T (Γ ++ [(o.dst, fun u _ => u = v)]) rest) : walk3 P DS w0 a0 T Γ (o :: rest) :=
  ⟨_, stable_eq v, hg, fun a W hb hd hbase K Q hK => by
    unfold Oper.wp
    rw [h a W hb hd hbase]
    exact hK v W rfl (Below.refl _ _), hn⟩
/-- One operation that only reads, of whose result R is known. -/
theorem opR3 (R : Know) (hs : Stable R) (hg : GOK3 Γ o) (h : ∀ (a : Act) (W : World), Below w0.heap.size w0 W → deps Γ a W (ons o) → (∀ t, t ∉ DS → a.eval (.tmp t) = a0.eval (.tmp t)) → ∃ v, (execOp a.eval o).run P W = .ok (.value v) W ∧ R v W)
    (hn : walk3 P DS w0 a0 T (Γ ++ [(o.dst, R)]) rest) : walk3 P DS w0 a0 T Γ (o :: rest) :=
  ⟨_, hs, hg, fun a W hb hd hbase K Q hK => by
    obtain ⟨v, h1, h2⟩ := h a W hb hd hbase
    unfold Oper.wp
    rw [h1]
    exact hK v W h2 (Below.refl _ _), hn⟩
theorem build3 (t : TypeId) (n c : Nat) (cs : Array Value) (hg : GOK3 Γ o)
    (h : ∀ (a : Act) (W : World), Below w0.heap.size w0 W → deps Γ a W (ons o) → (∀ t, t ∉ DS → a.eval (.tmp t) = a0.eval (.tmp t)) → (execOp a.eval o).run P W = .ok (.value (.slice (some ⟨W.heap.size, 0, none⟩) n c)) (W.alloc (.cells cs t)))
    (hn : walk3 P DS w0 a0 T (Γ ++ [(o.dst, NewS w0.heap.size n c cs)]) rest) : walk3 P DS w0 a0 T Γ (o :: rest) :=
  ⟨_, stable_newS _ n c cs, hg, fun a W hb hd hbase K Q hK => by
    unfold Oper.wp
    rw [h a W hb hd hbase]
    exact hK _ _ ⟨_, rfl, hb.size, Calm.Blk.new W t cs⟩ ((Below.refl _ _).alloc (Nat.le_refl _) _), hn⟩
/-- A slice that owns a row. -/
def OwnS (B : Nat) (e : TypeId) (size n : Nat) (xs : List Value) : Know := fun u W => W.ownsRow B e size u n xs
theorem stable_ownS (B : Nat) (e : TypeId) (size n : Nat) (xs : List Value) : Stable (OwnS B e size n xs) := fun u W W' h hb => by
  refine ⟨h.1, ?_⟩
  rcases h.2 with h2 | ⟨g, cap, cur, h1, h2, h3, h4⟩
  · exact .inl h2
  · exact .inr ⟨g, cap, cur, h1, h2, (hb.block g (Array.getElem?_eq_some_iff.1 h3).1).trans h3, h4⟩
/-- An empty slice of its own that is not nil. -/
def Empty (B : Nat) (e : TypeId) (size : Nat) : Know := fun u W => (∃ g, u = .slice (some ⟨g, 0, none⟩) 0 0) ∧ W.ownsRow B e size u 0 []
theorem stable_empty (B : Nat) (e : TypeId) (size : Nat) : Stable (Empty B e size) := fun u W W' h hb => ⟨h.1, stable_ownS B e size 0 [] u W W' h.2 hb⟩
theorem empty3 (e : TypeId) (size : Nat) (hg : GOK3 Γ o)
    (h : ∀ (a : Act) (W : World), (execOp a.eval o).run P W = .ok (.value (.slice (some ⟨W.heap.size, 0, none⟩) 0 0)) (W.alloc (.cells #[] e)))
    (hn : walk3 P DS w0 a0 T (Γ ++ [(o.dst, Empty w0.heap.size e size)]) rest) : walk3 P DS w0 a0 T Γ (o :: rest) :=
  ⟨_, stable_empty _ _ _, hg, fun a W hb hd hbase K Q hK => by
    unfold Oper.wp
    rw [h a W]
    refine hK _ _ ⟨⟨_, rfl⟩, by simp, .inr ⟨_, 0, #[], rfl, hb.size, by show (W.heap.push _)[W.heap.size]? = _; simp, Nat.le_refl _, Nat.zero_le _, by simp, by simp⟩⟩ ((Below.refl _ _).alloc (Nat.le_refl _) _), hn⟩
theorem run_append_zero (W : World) (t ty e : TypeId) (i : TypeInfo) (z : Value) (ht : P.underlying t = some (.slice e)) (hi : P.info? e = some i) (hz : i.zero = some z) (b : Addr) (A : Option Addr) (c : Nat) :
    (Builtin.append_ #[t, t] ty #[.slice (some b) 0 0, .slice A 0 c]).run P W = .ok (.slice (some b) 0 0) W := by
  have hl : ∀ (x : Addr), (loadCells x 0).run P W = .ok #[] W := fun x => by simpa using run_loadCells_list (P := P) W x [] (by simp)
  cases A <;> simp [Builtin.append_, run_underlying ht, sizeOf, typeInfo, zeroValue, hi, hz, Builtin.lenOf, Builtin.firstCells, storeCells, hl]
/-- 'append([]T{}, l...)'. -/
theorem app3 (s x : Operand) (t : TypeId) (hop : o.op = .call { callee := .builtin .append, args := #[s, x], argTypes := #[t, t] }) (e : TypeId) (i : TypeInfo) (z : Value) (size bytes : Nat)
    (ht : P.underlying t = some (.slice e)) (hi : P.info? e = some i) (hz : i.zero = some z) (hsize : i.size = size) (hby : i.bytes = bytes) (hzs : z.cells.size = size) (hsz : 0 < size) (n : Nat) (news : List Value) (hl : news.length = n * size) (h1 : ∀ u ∈ news, u.oneCell' = true) (h63 : n ≤ maxLen) (hbytes : n * bytes ≤ 140737488355328) (hg : GOK3 Γ o)
    (h : ∀ (a : Act) (W : World), Below w0.heap.size w0 W → deps Γ a W (ons o) → (∀ t, t ∉ DS → a.eval (.tmp t) = a0.eval (.tmp t)) → (∃ v0, a.eval s = v0 ∧ Empty w0.heap.size e size v0 W) ∧ ∃ A c, a.eval x = .slice A n c ∧ (0 < n → ∃ ad, A = some ad ∧ ∀ j u, news[j]? = some u → W.cell? (ad.add j) = some u))
    (hn : walk3 P DS w0 a0 T (Γ ++ [(o.dst, OwnS w0.heap.size e size n news)]) rest) : walk3 P DS w0 a0 T Γ (o :: rest) :=
  ⟨_, stable_ownS _ _ _ _ _, hg, fun a W hb hd hbase K Q hK => by
    obtain ⟨⟨v0, hs, ⟨g, hgv⟩, hown⟩, A, c, hx, hc⟩ := h a W hb hd hbase
    subst hgv
    rcases Nat.eq_zero_or_pos n with rfl | hpos
    · obtain rfl : news = [] := List.eq_nil_of_length_eq_zero (by omega)
      have hrun := run_append_zero (P := P) W t o.type e i z ht hi hz ⟨g, 0, none⟩ A c
      unfold Oper.wp
      simp [execOp, hop, resolve, invoke, builtin, hs, hx, hrun, Result.andThen]
      exact hK _ _ hown (Below.refl _ _)
    · obtain ⟨ad, rfl, hc2⟩ := hc hpos
      obtain ⟨v', w', hrun, r1, r2⟩ := run_append_arg_grows (P := P) W t o.type e i z size bytes ht hi hz hsize hby hzs hsz ⟨g, 0, none⟩ 0 0 [] (by simp) (by simp) ad n c news hl hc2 (by omega) (by omega) (by rw [Nat.zero_add]; exact hbytes)
      unfold Oper.wp
      simp [execOp, hop, resolve, invoke, builtin, hs, hx, hrun, Result.andThen]
      refine hK v' w' ?_ ((Below.refl W.heap.size W).grown r2 (Nat.le_refl _) (fun k hk => by cases hk))
      have r1' : w'.ownsRow W.heap.size e size v' n news := by simpa using r1
      refine ⟨r1'.1, ?_⟩
      rcases r1'.2 with h2 | ⟨g', cap, cur, h1, h2, h3⟩
      · exact .inl h2
      · exact .inr ⟨g', cap, cur, h1, Nat.le_trans hb.size h2, h3⟩, hn⟩
/-- A call, by a contract. -/
theorem callR3 (R : Know) (hs : Stable R) (hg : GOK3 Γ o)
    (h : ∀ (a : Act) (W : World), Below w0.heap.size w0 W → deps Γ a W (ons o) → (∀ t, t ∉ DS → a.eval (.tmp t) = a0.eval (.tmp t)) → ∃ f args, (execOp a.eval o).run P W = .ok (.enter f args) W ∧ Calls P f args W fun e W' => ∃ v, e = .returned v ∧ R v W' ∧ Below W.heap.size W W')
    (hn : walk3 P DS w0 a0 T (Γ ++ [(o.dst, R)]) rest) : walk3 P DS w0 a0 T Γ (o :: rest) :=
  ⟨R, hs, hg, fun a W hb hd hbase K Q hK => by
    obtain ⟨f, args, hrun, hc⟩ := h a W hb hd hbase
    unfold Oper.wp
    rw [hrun]
    simp only [Oper.upon]
    refine hc.mono ?_
    rintro e W' ⟨v, rfl, hR, hbb⟩
    exact hK v W' hR hbb, hn⟩
/-- A call whose arguments and result are known. -/
theorem call3 (v : Value) (f : FuncId) (args : Array Value) (hg : GOK3 Γ o)
    (h : ∀ (a : Act) (W : World), Below w0.heap.size w0 W → deps Γ a W (ons o) → (∀ t, t ∉ DS → a.eval (.tmp t) = a0.eval (.tmp t)) → (execOp a.eval o).run P W = .ok (.enter f args) W)
    (hc : ∀ W, Below w0.heap.size w0 W → Calls P f args W fun e W' => e = .returned v ∧ Below W.heap.size W W')
    (hn : walk3 P DS w0 a0 T (Γ ++ [(o.dst, fun u _ => u = v)]) rest) : walk3 P DS w0 a0 T Γ (o :: rest) :=
  callR3 _ (stable_eq v) hg (fun a W hb hd hbase => ⟨f, args, h a W hb hd hbase, (hc W hb).mono fun e W' ⟨he, hb'⟩ => ⟨v, he, rfl, hb'⟩⟩) hn
theorem done3 (h : T Γ) : walk3 P DS w0 a0 T Γ [] := h
end
end Go.Proofs.YtpkldjlljoledaaDoor.Rel
