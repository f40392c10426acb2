/- Part 4 of the texts of the claim: A6, T4. -/
import Derived.Test.YtadcmjnebjgijaaGreatDoorMb3
import Derived.Test.YtadcmjnebjgijaaGreatDoorMb1
import Derived.Test.YtadcmjnebjgijaaGreatDoorMb2
import Derived.WalkSmall
import Derived.Lib.LaidTab

/- Contracts of package driver's exported quotients. -/
namespace Go.Proofs.YtadcmjnebjgijaaGreatDoor
open Go.RowKit
open Calm (bcell)

theorem firstOf_eq_zero {l : List Int} : firstOf l = 0 ↔ ∀ x ∈ l, x = 0 := by
  induction l with
  | nil => simp [firstOf]
  | cons x l ih =>
    by_cases h : x = 0
    · subst h
      rw [show firstOf (0 :: l) = firstOf l from by simp [firstOf], ih]
      simp
    · rw [show firstOf (x :: l) = x from by simp [firstOf, h]]
      simp [h]
theorem drvErr_zero {re le bl ma st lo : Int} (h : drvErr re le bl ma st lo = 0) : (1 ≤ re ∧ re ≤ 50) ∧ (0 ≤ le ∧ le ≤ 10) ∧ (1 ≤ bl ∧ bl ≤ 20) ∧ (1 ≤ ma ∧ ma ≤ 100) ∧ (1 ≤ st ∧ st ≤ 5000) ∧ (1 ≤ lo ∧ lo ≤ 100) := by
  have h1 := firstOf_eq_zero.1 h
  simp only [drvErrs, List.mem_cons, List.not_mem_nil, or_false, forall_eq_or_imp, forall_eq, rangeErr_zero] at h1
  exact h1
theorem drvErr_of {re le bl ma st lo : Int} (h : (1 ≤ re ∧ re ≤ 50) ∧ (0 ≤ le ∧ le ≤ 10) ∧ (1 ≤ bl ∧ bl ≤ 20) ∧ (1 ≤ ma ∧ ma ≤ 100) ∧ (1 ≤ st ∧ st ≤ 5000) ∧ (1 ≤ lo ∧ lo ≤ 100)) : drvErr re le bl ma st lo = 0 := by
  refine firstOf_eq_zero.2 ?_
  simp only [drvErrs, List.mem_cons, List.not_mem_nil, or_false, forall_eq_or_imp, forall_eq, rangeErr_zero]
  exact h
theorem drvn_zero {re le bl ma st lo w0 : Int} (h : drvnErr re le bl ma st lo w0 = 0) : drvErr re le bl ma st lo = 0 ∧ 1 ≤ w0 ∧ w0 ≤ 8 := by
  have h1 := firstOf_eq_zero.1 h
  simp only [List.mem_cons, List.not_mem_nil, or_false, forall_eq_or_imp, forall_eq, rangeErr_zero] at h1
  exact h1
theorem drvn_fit {re le bl ma st lo w0 : Int} (h : drvnErr re le bl ma st lo w0 = 0) : Fit re le bl ma st lo w0 := by
  obtain ⟨h1, h2⟩ := drvn_zero h
  obtain ⟨a1, a2, a3, a4, a5, a6⟩ := drvErr_zero h1
  exact ⟨a1, a2, a3, a4, ⟨a5.1, by omega⟩, a6, h2⟩

theorem Mechanics_ok (re le bl ma st lo w0 : Int) (w : World) (hL : Lim w) (h : drvnErr re le bl ma st lo w0 = 0) :
    Calls Tryz.prog 11 #[.agg #[(.int .i64 (re)), (.int .i64 (le)), (.int .i64 (bl)), (.int .i64 (ma)), (.int .i64 (st)), (.int .i64 (lo))], (.int .i64 (w0))] w fun r w' => r = .returned (.tuple #[.agg #[(.int .i64 (mRe st ma w0)), (.int .i64 (mIm lo w0))], (.int .i64 (0))]) ∧ Below w.heap.size w w' := by
  have hF := drvn_fit h
  go_enter Tryz.func11, Tryz.ntmps11
  go_wp2_with (first | (go_at_call 41; refine (checkDriven_any _ _ _ _ _ _ _ _ (hL.below (by repeat (first | (with_reducible exact Below.refl _ _) | ((with_reducible refine Below.setCell ?_ ?_ _); rotate_left 1; focus (first | (simp; done) | (simp; omega) | (simp at *; omega))) | ((with_reducible refine Below.alloc ?_ ?_ _); rotate_left 1; focus (first | (simp; done) | (simp; omega) | (simp at *; omega))) | (with_reducible refine Below.drew ?_) | ((with_reducible refine Calm.step (by assumption) ?_ ?_); rotate_left 1; focus (first | (simp; done) | (simp; omega) | (simp at *; omega))))))).mono ?_; rintro r w1 ⟨rfl, hb⟩; obtain ⟨hc, hf⟩ := bcell hb; have hz := hb.size; (try simp at hz); (try have hz0 : w.heap.size < w1.heap.size := by omega); (try have hz1 : w.heap.size + 1 < w1.heap.size := by omega); (try have hz2 : w.heap.size + 1 + 1 < w1.heap.size := by omega); (try have hz3 : w.heap.size + 1 + 1 + 1 < w1.heap.size := by omega); (try have hz4 : w.heap.size + 1 + 1 + 1 + 1 < w1.heap.size := by omega); (try have hz5 : w.heap.size + 1 + 1 + 1 + 1 + 1 < w1.heap.size := by omega); (try have hz6 : w.heap.size + 1 + 1 + 1 + 1 + 1 + 1 < w1.heap.size := by omega)) | (go_at_call 42; refine (mechanics_any _ _ _ _ _ _ _ _ hF).mono ?_; rintro r w1 ⟨rfl, hb⟩; obtain ⟨hc, hf⟩ := bcell hb; have hz := hb.size; (try simp at hz); (try have hz0 : w.heap.size < w1.heap.size := by omega); (try have hz1 : w.heap.size + 1 < w1.heap.size := by omega); (try have hz2 : w.heap.size + 1 + 1 < w1.heap.size := by omega); (try have hz3 : w.heap.size + 1 + 1 + 1 < w1.heap.size := by omega); (try have hz4 : w.heap.size + 1 + 1 + 1 + 1 < w1.heap.size := by omega); (try have hz5 : w.heap.size + 1 + 1 + 1 + 1 + 1 < w1.heap.size := by omega); (try have hz6 : w.heap.size + 1 + 1 + 1 + 1 + 1 + 1 < w1.heap.size := by omega)))
  refine bodyPost_ret (v := .tuple #[.agg #[(.int .i64 (mRe st ma w0)), (.int .i64 (mIm lo w0))], (.int .i64 (0))]) (by simp [results, Tryz.results11, go_sem, *]) rfl ⟨rfl, ?_⟩
  repeat (first | (with_reducible exact Below.refl _ _) | ((with_reducible refine Below.setCell ?_ ?_ _); rotate_left 1; focus (first | (simp; done) | (simp; omega) | (simp at *; omega))) | ((with_reducible refine Below.alloc ?_ ?_ _); rotate_left 1; focus (first | (simp; done) | (simp; omega) | (simp at *; omega))) | (with_reducible refine Below.drew ?_) | ((with_reducible refine Calm.step (by assumption) ?_ ?_); rotate_left 1; focus (first | (simp; done) | (simp; omega) | (simp at *; omega))))
theorem Mechanics_bad (re le bl ma st lo w0 : Int) (w : World) (hL : Lim w) (h : drvnErr re le bl ma st lo w0 ≠ 0) :
    Calls Tryz.prog 11 #[.agg #[(.int .i64 (re)), (.int .i64 (le)), (.int .i64 (bl)), (.int .i64 (ma)), (.int .i64 (st)), (.int .i64 (lo))], (.int .i64 (w0))] w fun r w' => r = .returned (.tuple #[.agg #[(.int .i64 (0)), (.int .i64 (0))], (.int .i64 (drvnErr re le bl ma st lo w0))]) ∧ Below w.heap.size w w' := by
  go_enter Tryz.func11, Tryz.ntmps11
  go_wp2_with (first | (go_at_call 41; refine (checkDriven_any _ _ _ _ _ _ _ _ (hL.below (by repeat (first | (with_reducible exact Below.refl _ _) | ((with_reducible refine Below.setCell ?_ ?_ _); rotate_left 1; focus (first | (simp; done) | (simp; omega) | (simp at *; omega))) | ((with_reducible refine Below.alloc ?_ ?_ _); rotate_left 1; focus (first | (simp; done) | (simp; omega) | (simp at *; omega))) | (with_reducible refine Below.drew ?_) | ((with_reducible refine Calm.step (by assumption) ?_ ?_); rotate_left 1; focus (first | (simp; done) | (simp; omega) | (simp at *; omega))))))).mono ?_; rintro r w1 ⟨rfl, hb⟩; obtain ⟨hc, hf⟩ := bcell hb; have hz := hb.size; (try simp at hz); (try have hz0 : w.heap.size < w1.heap.size := by omega); (try have hz1 : w.heap.size + 1 < w1.heap.size := by omega); (try have hz2 : w.heap.size + 1 + 1 < w1.heap.size := by omega); (try have hz3 : w.heap.size + 1 + 1 + 1 < w1.heap.size := by omega); (try have hz4 : w.heap.size + 1 + 1 + 1 + 1 < w1.heap.size := by omega); (try have hz5 : w.heap.size + 1 + 1 + 1 + 1 + 1 < w1.heap.size := by omega); (try have hz6 : w.heap.size + 1 + 1 + 1 + 1 + 1 + 1 < w1.heap.size := by omega)))
  refine bodyPost_ret (v := .tuple #[.agg #[(.int .i64 (0)), (.int .i64 (0))], (.int .i64 (drvnErr re le bl ma st lo w0))]) (by simp [results, Tryz.results11, go_sem, *]) rfl ⟨rfl, ?_⟩
  repeat (first | (with_reducible exact Below.refl _ _) | ((with_reducible refine Below.setCell ?_ ?_ _); rotate_left 1; focus (first | (simp; done) | (simp; omega) | (simp at *; omega))) | ((with_reducible refine Below.alloc ?_ ?_ _); rotate_left 1; focus (first | (simp; done) | (simp; omega) | (simp at *; omega))) | (with_reducible refine Below.drew ?_) | ((with_reducible refine Calm.step (by assumption) ?_ ?_); rotate_left 1; focus (first | (simp; done) | (simp; omega) | (simp at *; omega))))
theorem asked_bad (re le bl ma st lo w0 : Int) (f : FuncId) (w : World) (hL : Lim w) (h : drvnErr re le bl ma st lo w0 ≠ 0) :
    Calls Tryz.prog 43 #[.agg #[(.int .i64 (re)), (.int .i64 (le)), (.int .i64 (bl)), (.int .i64 (ma)), (.int .i64 (st)), (.int .i64 (lo))], (.int .i64 (w0)), .func (.func f) #[.agg #[(.int .i64 (re)), (.int .i64 (le)), (.int .i64 (bl)), (.int .i64 (ma)), (.int .i64 (st)), (.int .i64 (lo))]] #[]] w fun r w' => r = .returned (.tuple #[.agg #[(.int .i64 (0)), (.int .i64 (0)), (.int .i64 (0)), (.int .i64 (0))], (.int .i64 (drvnErr re le bl ma st lo w0))]) ∧ Below w.heap.size w w' := by
  go_enter Tryz.func43, Tryz.ntmps43
  go_wp2_with (first | (go_at_call 41; refine (checkDriven_any _ _ _ _ _ _ _ _ (hL.below (by repeat (first | (with_reducible exact Below.refl _ _) | ((with_reducible refine Below.setCell ?_ ?_ _); rotate_left 1; focus (first | (simp; done) | (simp; omega) | (simp at *; omega))) | ((with_reducible refine Below.alloc ?_ ?_ _); rotate_left 1; focus (first | (simp; done) | (simp; omega) | (simp at *; omega))) | (with_reducible refine Below.drew ?_) | ((with_reducible refine Calm.step (by assumption) ?_ ?_); rotate_left 1; focus (first | (simp; done) | (simp; omega) | (simp at *; omega))))))).mono ?_; rintro r w1 ⟨rfl, hb⟩; obtain ⟨hc, hf⟩ := bcell hb; have hz := hb.size; (try simp at hz); (try have hz0 : w.heap.size < w1.heap.size := by omega); (try have hz1 : w.heap.size + 1 < w1.heap.size := by omega); (try have hz2 : w.heap.size + 1 + 1 < w1.heap.size := by omega); (try have hz3 : w.heap.size + 1 + 1 + 1 < w1.heap.size := by omega); (try have hz4 : w.heap.size + 1 + 1 + 1 + 1 < w1.heap.size := by omega); (try have hz5 : w.heap.size + 1 + 1 + 1 + 1 + 1 < w1.heap.size := by omega); (try have hz6 : w.heap.size + 1 + 1 + 1 + 1 + 1 + 1 < w1.heap.size := by omega)))
  refine bodyPost_ret (v := .tuple #[.agg #[(.int .i64 (0)), (.int .i64 (0)), (.int .i64 (0)), (.int .i64 (0))], (.int .i64 (drvnErr re le bl ma st lo w0))]) (by simp [results, Tryz.results43, go_sem, *]) rfl ⟨rfl, ?_⟩
  repeat (first | (with_reducible exact Below.refl _ _) | ((with_reducible refine Below.setCell ?_ ?_ _); rotate_left 1; focus (first | (simp; done) | (simp; omega) | (simp at *; omega))) | ((with_reducible refine Below.alloc ?_ ?_ _); rotate_left 1; focus (first | (simp; done) | (simp; omega) | (simp at *; omega))) | (with_reducible refine Below.drew ?_) | ((with_reducible refine Calm.step (by assumption) ?_ ?_); rotate_left 1; focus (first | (simp; done) | (simp; omega) | (simp at *; omega))))
theorem askedImpedance_ok (re le bl ma st lo w0 : Int) (w : World) (hL : Lim w) (h : drvnErr re le bl ma st lo w0 = 0) :
    Calls Tryz.prog 43 #[.agg #[(.int .i64 (re)), (.int .i64 (le)), (.int .i64 (bl)), (.int .i64 (ma)), (.int .i64 (st)), (.int .i64 (lo))], (.int .i64 (w0)), .func (.func 44) #[.agg #[(.int .i64 (re)), (.int .i64 (le)), (.int .i64 (bl)), (.int .i64 (ma)), (.int .i64 (st)), (.int .i64 (lo))]] #[]] w fun r w' => r = .returned (.tuple #[.agg #[(.int .i64 (nRe re le bl ma st lo w0)), (.int .i64 (nIm re le bl ma st lo w0)), (.int .i64 (mRe st ma w0)), (.int .i64 (mIm lo w0))], (.int .i64 (0))]) ∧ Below w.heap.size w w' := by
  have hF := drvn_fit h
  go_enter Tryz.func43, Tryz.ntmps43
  go_wp2_with (first | (go_at_call 41; refine (checkDriven_any _ _ _ _ _ _ _ _ (hL.below (by repeat (first | (with_reducible exact Below.refl _ _) | ((with_reducible refine Below.setCell ?_ ?_ _); rotate_left 1; focus (first | (simp; done) | (simp; omega) | (simp at *; omega))) | ((with_reducible refine Below.alloc ?_ ?_ _); rotate_left 1; focus (first | (simp; done) | (simp; omega) | (simp at *; omega))) | (with_reducible refine Below.drew ?_) | ((with_reducible refine Calm.step (by assumption) ?_ ?_); rotate_left 1; focus (first | (simp; done) | (simp; omega) | (simp at *; omega))))))).mono ?_; rintro r w1 ⟨rfl, hb⟩; obtain ⟨hc, hf⟩ := bcell hb; have hz := hb.size; (try simp at hz); (try have hz0 : w.heap.size < w1.heap.size := by omega); (try have hz1 : w.heap.size + 1 < w1.heap.size := by omega); (try have hz2 : w.heap.size + 1 + 1 < w1.heap.size := by omega); (try have hz3 : w.heap.size + 1 + 1 + 1 < w1.heap.size := by omega); (try have hz4 : w.heap.size + 1 + 1 + 1 + 1 < w1.heap.size := by omega); (try have hz5 : w.heap.size + 1 + 1 + 1 + 1 + 1 < w1.heap.size := by omega); (try have hz6 : w.heap.size + 1 + 1 + 1 + 1 + 1 + 1 < w1.heap.size := by omega)) | (go_at_call 44; refine (impedance_any _ _ _ _ _ _ _ _ hF).mono ?_; rintro r w1 ⟨rfl, hb⟩; obtain ⟨hc, hf⟩ := bcell hb; have hz := hb.size; (try simp at hz); (try have hz0 : w.heap.size < w1.heap.size := by omega); (try have hz1 : w.heap.size + 1 < w1.heap.size := by omega); (try have hz2 : w.heap.size + 1 + 1 < w1.heap.size := by omega); (try have hz3 : w.heap.size + 1 + 1 + 1 < w1.heap.size := by omega); (try have hz4 : w.heap.size + 1 + 1 + 1 + 1 < w1.heap.size := by omega); (try have hz5 : w.heap.size + 1 + 1 + 1 + 1 + 1 < w1.heap.size := by omega); (try have hz6 : w.heap.size + 1 + 1 + 1 + 1 + 1 + 1 < w1.heap.size := by omega)))
  refine bodyPost_ret (v := .tuple #[.agg #[(.int .i64 (nRe re le bl ma st lo w0)), (.int .i64 (nIm re le bl ma st lo w0)), (.int .i64 (mRe st ma w0)), (.int .i64 (mIm lo w0))], (.int .i64 (0))]) (by simp [results, Tryz.results43, go_sem, *]) rfl ⟨rfl, ?_⟩
  repeat (first | (with_reducible exact Below.refl _ _) | ((with_reducible refine Below.setCell ?_ ?_ _); rotate_left 1; focus (first | (simp; done) | (simp; omega) | (simp at *; omega))) | ((with_reducible refine Below.alloc ?_ ?_ _); rotate_left 1; focus (first | (simp; done) | (simp; omega) | (simp at *; omega))) | (with_reducible refine Below.drew ?_) | ((with_reducible refine Calm.step (by assumption) ?_ ?_); rotate_left 1; focus (first | (simp; done) | (simp; omega) | (simp at *; omega))))
theorem Impedance_ok (re le bl ma st lo w0 : Int) (w : World) (hL : Lim w) (h : drvnErr re le bl ma st lo w0 = 0) :
    Calls Tryz.prog 13 #[.agg #[(.int .i64 (re)), (.int .i64 (le)), (.int .i64 (bl)), (.int .i64 (ma)), (.int .i64 (st)), (.int .i64 (lo))], (.int .i64 (w0))] w fun r w' => r = .returned (.tuple #[.agg #[(.int .i64 (nRe re le bl ma st lo w0)), (.int .i64 (nIm re le bl ma st lo w0)), (.int .i64 (mRe st ma w0)), (.int .i64 (mIm lo w0))], (.int .i64 (0))]) ∧ Below w.heap.size w w' := by
  go_enter Tryz.func13, Tryz.ntmps13
  go_wp2_with (first | (go_at_call 43; refine (askedImpedance_ok _ _ _ _ _ _ _ _ (hL.below (by repeat (first | (with_reducible exact Below.refl _ _) | ((with_reducible refine Below.setCell ?_ ?_ _); rotate_left 1; focus (first | (simp; done) | (simp; omega) | (simp at *; omega))) | ((with_reducible refine Below.alloc ?_ ?_ _); rotate_left 1; focus (first | (simp; done) | (simp; omega) | (simp at *; omega))) | (with_reducible refine Below.drew ?_) | ((with_reducible refine Calm.step (by assumption) ?_ ?_); rotate_left 1; focus (first | (simp; done) | (simp; omega) | (simp at *; omega)))))) h).mono ?_; rintro r w1 ⟨rfl, hb⟩; obtain ⟨hc, hf⟩ := bcell hb; have hz := hb.size; (try simp at hz); (try have hz0 : w.heap.size < w1.heap.size := by omega); (try have hz1 : w.heap.size + 1 < w1.heap.size := by omega); (try have hz2 : w.heap.size + 1 + 1 < w1.heap.size := by omega); (try have hz3 : w.heap.size + 1 + 1 + 1 < w1.heap.size := by omega); (try have hz4 : w.heap.size + 1 + 1 + 1 + 1 < w1.heap.size := by omega); (try have hz5 : w.heap.size + 1 + 1 + 1 + 1 + 1 < w1.heap.size := by omega); (try have hz6 : w.heap.size + 1 + 1 + 1 + 1 + 1 + 1 < w1.heap.size := by omega)))
  refine bodyPost_ret (v := .tuple #[.agg #[(.int .i64 (nRe re le bl ma st lo w0)), (.int .i64 (nIm re le bl ma st lo w0)), (.int .i64 (mRe st ma w0)), (.int .i64 (mIm lo w0))], (.int .i64 (0))]) (by simp [results, Tryz.results13, go_sem, *]) rfl ⟨rfl, ?_⟩
  repeat (first | (with_reducible exact Below.refl _ _) | ((with_reducible refine Below.setCell ?_ ?_ _); rotate_left 1; focus (first | (simp; done) | (simp; omega) | (simp at *; omega))) | ((with_reducible refine Below.alloc ?_ ?_ _); rotate_left 1; focus (first | (simp; done) | (simp; omega) | (simp at *; omega))) | (with_reducible refine Below.drew ?_) | ((with_reducible refine Calm.step (by assumption) ?_ ?_); rotate_left 1; focus (first | (simp; done) | (simp; omega) | (simp at *; omega))))
theorem Impedance_bad (re le bl ma st lo w0 : Int) (w : World) (hL : Lim w) (h : drvnErr re le bl ma st lo w0 ≠ 0) :
    Calls Tryz.prog 13 #[.agg #[(.int .i64 (re)), (.int .i64 (le)), (.int .i64 (bl)), (.int .i64 (ma)), (.int .i64 (st)), (.int .i64 (lo))], (.int .i64 (w0))] w fun r w' => r = .returned (.tuple #[.agg #[(.int .i64 (0)), (.int .i64 (0)), (.int .i64 (0)), (.int .i64 (0))], (.int .i64 (drvnErr re le bl ma st lo w0))]) ∧ Below w.heap.size w w' := by
  go_enter Tryz.func13, Tryz.ntmps13
  go_wp2_with (first | (go_at_call 43; refine (asked_bad _ _ _ _ _ _ _ _ _ (hL.below (by repeat (first | (with_reducible exact Below.refl _ _) | ((with_reducible refine Below.setCell ?_ ?_ _); rotate_left 1; focus (first | (simp; done) | (simp; omega) | (simp at *; omega))) | ((with_reducible refine Below.alloc ?_ ?_ _); rotate_left 1; focus (first | (simp; done) | (simp; omega) | (simp at *; omega))) | (with_reducible refine Below.drew ?_) | ((with_reducible refine Calm.step (by assumption) ?_ ?_); rotate_left 1; focus (first | (simp; done) | (simp; omega) | (simp at *; omega)))))) h).mono ?_; rintro r w1 ⟨rfl, hb⟩; obtain ⟨hc, hf⟩ := bcell hb; have hz := hb.size; (try simp at hz); (try have hz0 : w.heap.size < w1.heap.size := by omega); (try have hz1 : w.heap.size + 1 < w1.heap.size := by omega); (try have hz2 : w.heap.size + 1 + 1 < w1.heap.size := by omega); (try have hz3 : w.heap.size + 1 + 1 + 1 < w1.heap.size := by omega); (try have hz4 : w.heap.size + 1 + 1 + 1 + 1 < w1.heap.size := by omega); (try have hz5 : w.heap.size + 1 + 1 + 1 + 1 + 1 < w1.heap.size := by omega); (try have hz6 : w.heap.size + 1 + 1 + 1 + 1 + 1 + 1 < w1.heap.size := by omega)))
  refine bodyPost_ret (v := .tuple #[.agg #[(.int .i64 (0)), (.int .i64 (0)), (.int .i64 (0)), (.int .i64 (0))], (.int .i64 (drvnErr re le bl ma st lo w0))]) (by simp [results, Tryz.results13, go_sem, *]) rfl ⟨rfl, ?_⟩
  repeat (first | (with_reducible exact Below.refl _ _) | ((with_reducible refine Below.setCell ?_ ?_ _); rotate_left 1; focus (first | (simp; done) | (simp; omega) | (simp at *; omega))) | ((with_reducible refine Below.alloc ?_ ?_ _); rotate_left 1; focus (first | (simp; done) | (simp; omega) | (simp at *; omega))) | (with_reducible refine Below.drew ?_) | ((with_reducible refine Calm.step (by assumption) ?_ ?_); rotate_left 1; focus (first | (simp; done) | (simp; omega) | (simp at *; omega))))
theorem askedExcursion_ok (re le bl ma st lo w0 : Int) (w : World) (hL : Lim w) (h : drvnErr re le bl ma st lo w0 = 0) :
    Calls Tryz.prog 43 #[.agg #[(.int .i64 (re)), (.int .i64 (le)), (.int .i64 (bl)), (.int .i64 (ma)), (.int .i64 (st)), (.int .i64 (lo))], (.int .i64 (w0)), .func (.func 45) #[.agg #[(.int .i64 (re)), (.int .i64 (le)), (.int .i64 (bl)), (.int .i64 (ma)), (.int .i64 (st)), (.int .i64 (lo))]] #[]] w fun r w' => r = .returned (.tuple #[.agg #[(.int .i64 (bl)), (.int .i64 (0)), (.int .i64 (nRe re le bl ma st lo w0)), (.int .i64 (nIm re le bl ma st lo w0))], (.int .i64 (0))]) ∧ Below w.heap.size w w' := by
  have hF := drvn_fit h
  go_enter Tryz.func43, Tryz.ntmps43
  go_wp2_with (first | (go_at_call 41; refine (checkDriven_any _ _ _ _ _ _ _ _ (hL.below (by repeat (first | (with_reducible exact Below.refl _ _) | ((with_reducible refine Below.setCell ?_ ?_ _); rotate_left 1; focus (first | (simp; done) | (simp; omega) | (simp at *; omega))) | ((with_reducible refine Below.alloc ?_ ?_ _); rotate_left 1; focus (first | (simp; done) | (simp; omega) | (simp at *; omega))) | (with_reducible refine Below.drew ?_) | ((with_reducible refine Calm.step (by assumption) ?_ ?_); rotate_left 1; focus (first | (simp; done) | (simp; omega) | (simp at *; omega))))))).mono ?_; rintro r w1 ⟨rfl, hb⟩; obtain ⟨hc, hf⟩ := bcell hb; have hz := hb.size; (try simp at hz); (try have hz0 : w.heap.size < w1.heap.size := by omega); (try have hz1 : w.heap.size + 1 < w1.heap.size := by omega); (try have hz2 : w.heap.size + 1 + 1 < w1.heap.size := by omega); (try have hz3 : w.heap.size + 1 + 1 + 1 < w1.heap.size := by omega); (try have hz4 : w.heap.size + 1 + 1 + 1 + 1 < w1.heap.size := by omega); (try have hz5 : w.heap.size + 1 + 1 + 1 + 1 + 1 < w1.heap.size := by omega); (try have hz6 : w.heap.size + 1 + 1 + 1 + 1 + 1 + 1 < w1.heap.size := by omega)) | (go_at_call 45; refine (excursion_any _ _ _ _ _ _ _ _ hF).mono ?_; rintro r w1 ⟨rfl, hb⟩; obtain ⟨hc, hf⟩ := bcell hb; have hz := hb.size; (try simp at hz); (try have hz0 : w.heap.size < w1.heap.size := by omega); (try have hz1 : w.heap.size + 1 < w1.heap.size := by omega); (try have hz2 : w.heap.size + 1 + 1 < w1.heap.size := by omega); (try have hz3 : w.heap.size + 1 + 1 + 1 < w1.heap.size := by omega); (try have hz4 : w.heap.size + 1 + 1 + 1 + 1 < w1.heap.size := by omega); (try have hz5 : w.heap.size + 1 + 1 + 1 + 1 + 1 < w1.heap.size := by omega); (try have hz6 : w.heap.size + 1 + 1 + 1 + 1 + 1 + 1 < w1.heap.size := by omega)))
  refine bodyPost_ret (v := .tuple #[.agg #[(.int .i64 (bl)), (.int .i64 (0)), (.int .i64 (nRe re le bl ma st lo w0)), (.int .i64 (nIm re le bl ma st lo w0))], (.int .i64 (0))]) (by simp [results, Tryz.results43, go_sem, *]) rfl ⟨rfl, ?_⟩
  repeat (first | (with_reducible exact Below.refl _ _) | ((with_reducible refine Below.setCell ?_ ?_ _); rotate_left 1; focus (first | (simp; done) | (simp; omega) | (simp at *; omega))) | ((with_reducible refine Below.alloc ?_ ?_ _); rotate_left 1; focus (first | (simp; done) | (simp; omega) | (simp at *; omega))) | (with_reducible refine Below.drew ?_) | ((with_reducible refine Calm.step (by assumption) ?_ ?_); rotate_left 1; focus (first | (simp; done) | (simp; omega) | (simp at *; omega))))
theorem Excursion_ok (re le bl ma st lo w0 : Int) (w : World) (hL : Lim w) (h : drvnErr re le bl ma st lo w0 = 0) :
    Calls Tryz.prog 14 #[.agg #[(.int .i64 (re)), (.int .i64 (le)), (.int .i64 (bl)), (.int .i64 (ma)), (.int .i64 (st)), (.int .i64 (lo))], (.int .i64 (w0))] w fun r w' => r = .returned (.tuple #[.agg #[(.int .i64 (bl)), (.int .i64 (0)), (.int .i64 (nRe re le bl ma st lo w0)), (.int .i64 (nIm re le bl ma st lo w0))], (.int .i64 (0))]) ∧ Below w.heap.size w w' := by
  go_enter Tryz.func14, Tryz.ntmps14
  go_wp2_with (first | (go_at_call 43; refine (askedExcursion_ok _ _ _ _ _ _ _ _ (hL.below (by repeat (first | (with_reducible exact Below.refl _ _) | ((with_reducible refine Below.setCell ?_ ?_ _); rotate_left 1; focus (first | (simp; done) | (simp; omega) | (simp at *; omega))) | ((with_reducible refine Below.alloc ?_ ?_ _); rotate_left 1; focus (first | (simp; done) | (simp; omega) | (simp at *; omega))) | (with_reducible refine Below.drew ?_) | ((with_reducible refine Calm.step (by assumption) ?_ ?_); rotate_left 1; focus (first | (simp; done) | (simp; omega) | (simp at *; omega)))))) h).mono ?_; rintro r w1 ⟨rfl, hb⟩; obtain ⟨hc, hf⟩ := bcell hb; have hz := hb.size; (try simp at hz); (try have hz0 : w.heap.size < w1.heap.size := by omega); (try have hz1 : w.heap.size + 1 < w1.heap.size := by omega); (try have hz2 : w.heap.size + 1 + 1 < w1.heap.size := by omega); (try have hz3 : w.heap.size + 1 + 1 + 1 < w1.heap.size := by omega); (try have hz4 : w.heap.size + 1 + 1 + 1 + 1 < w1.heap.size := by omega); (try have hz5 : w.heap.size + 1 + 1 + 1 + 1 + 1 < w1.heap.size := by omega); (try have hz6 : w.heap.size + 1 + 1 + 1 + 1 + 1 + 1 < w1.heap.size := by omega)))
  refine bodyPost_ret (v := .tuple #[.agg #[(.int .i64 (bl)), (.int .i64 (0)), (.int .i64 (nRe re le bl ma st lo w0)), (.int .i64 (nIm re le bl ma st lo w0))], (.int .i64 (0))]) (by simp [results, Tryz.results14, go_sem, *]) rfl ⟨rfl, ?_⟩
  repeat (first | (with_reducible exact Below.refl _ _) | ((with_reducible refine Below.setCell ?_ ?_ _); rotate_left 1; focus (first | (simp; done) | (simp; omega) | (simp at *; omega))) | ((with_reducible refine Below.alloc ?_ ?_ _); rotate_left 1; focus (first | (simp; done) | (simp; omega) | (simp at *; omega))) | (with_reducible refine Below.drew ?_) | ((with_reducible refine Calm.step (by assumption) ?_ ?_); rotate_left 1; focus (first | (simp; done) | (simp; omega) | (simp at *; omega))))
theorem Excursion_bad (re le bl ma st lo w0 : Int) (w : World) (hL : Lim w) (h : drvnErr re le bl ma st lo w0 ≠ 0) :
    Calls Tryz.prog 14 #[.agg #[(.int .i64 (re)), (.int .i64 (le)), (.int .i64 (bl)), (.int .i64 (ma)), (.int .i64 (st)), (.int .i64 (lo))], (.int .i64 (w0))] w fun r w' => r = .returned (.tuple #[.agg #[(.int .i64 (0)), (.int .i64 (0)), (.int .i64 (0)), (.int .i64 (0))], (.int .i64 (drvnErr re le bl ma st lo w0))]) ∧ Below w.heap.size w w' := by
  go_enter Tryz.func14, Tryz.ntmps14
  go_wp2_with (first | (go_at_call 43; refine (asked_bad _ _ _ _ _ _ _ _ _ (hL.below (by repeat (first | (with_reducible exact Below.refl _ _) | ((with_reducible refine Below.setCell ?_ ?_ _); rotate_left 1; focus (first | (simp; done) | (simp; omega) | (simp at *; omega))) | ((with_reducible refine Below.alloc ?_ ?_ _); rotate_left 1; focus (first | (simp; done) | (simp; omega) | (simp at *; omega))) | (with_reducible refine Below.drew ?_) | ((with_reducible refine Calm.step (by assumption) ?_ ?_); rotate_left 1; focus (first | (simp; done) | (simp; omega) | (simp at *; omega)))))) h).mono ?_; rintro r w1 ⟨rfl, hb⟩; obtain ⟨hc, hf⟩ := bcell hb; have hz := hb.size; (try simp at hz); (try have hz0 : w.heap.size < w1.heap.size := by omega); (try have hz1 : w.heap.size + 1 < w1.heap.size := by omega); (try have hz2 : w.heap.size + 1 + 1 < w1.heap.size := by omega); (try have hz3 : w.heap.size + 1 + 1 + 1 < w1.heap.size := by omega); (try have hz4 : w.heap.size + 1 + 1 + 1 + 1 < w1.heap.size := by omega); (try have hz5 : w.heap.size + 1 + 1 + 1 + 1 + 1 < w1.heap.size := by omega); (try have hz6 : w.heap.size + 1 + 1 + 1 + 1 + 1 + 1 < w1.heap.size := by omega)))
  refine bodyPost_ret (v := .tuple #[.agg #[(.int .i64 (0)), (.int .i64 (0)), (.int .i64 (0)), (.int .i64 (0))], (.int .i64 (drvnErr re le bl ma st lo w0))]) (by simp [results, Tryz.results14, go_sem, *]) rfl ⟨rfl, ?_⟩
  repeat (first | (with_reducible exact Below.refl _ _) | ((with_reducible refine Below.setCell ?_ ?_ _); rotate_left 1; focus (first | (simp; done) | (simp; omega) | (simp at *; omega))) | ((with_reducible refine Below.alloc ?_ ?_ _); rotate_left 1; focus (first | (simp; done) | (simp; omega) | (simp at *; omega))) | (with_reducible refine Below.drew ?_) | ((with_reducible refine Calm.step (by assumption) ?_ ?_); rotate_left 1; focus (first | (simp; done) | (simp; omega) | (simp at *; omega))))
theorem askedOutput_ok (re le bl ma st lo w0 : Int) (w : World) (hL : Lim w) (h : drvnErr re le bl ma st lo w0 = 0) :
    Calls Tryz.prog 43 #[.agg #[(.int .i64 (re)), (.int .i64 (le)), (.int .i64 (bl)), (.int .i64 (ma)), (.int .i64 (st)), (.int .i64 (lo))], (.int .i64 (w0)), .func (.func 46) #[.agg #[(.int .i64 (re)), (.int .i64 (le)), (.int .i64 (bl)), (.int .i64 (ma)), (.int .i64 (st)), (.int .i64 (lo))]] #[]] w fun r w' => r = .returned (.tuple #[.agg #[(.int .i64 (oRe bl w0)), (.int .i64 (0)), (.int .i64 (nRe re le bl ma st lo w0)), (.int .i64 (nIm re le bl ma st lo w0))], (.int .i64 (0))]) ∧ Below w.heap.size w w' := by
  have hF := drvn_fit h
  go_enter Tryz.func43, Tryz.ntmps43
  go_wp2_with (first | (go_at_call 41; refine (checkDriven_any _ _ _ _ _ _ _ _ (hL.below (by repeat (first | (with_reducible exact Below.refl _ _) | ((with_reducible refine Below.setCell ?_ ?_ _); rotate_left 1; focus (first | (simp; done) | (simp; omega) | (simp at *; omega))) | ((with_reducible refine Below.alloc ?_ ?_ _); rotate_left 1; focus (first | (simp; done) | (simp; omega) | (simp at *; omega))) | (with_reducible refine Below.drew ?_) | ((with_reducible refine Calm.step (by assumption) ?_ ?_); rotate_left 1; focus (first | (simp; done) | (simp; omega) | (simp at *; omega))))))).mono ?_; rintro r w1 ⟨rfl, hb⟩; obtain ⟨hc, hf⟩ := bcell hb; have hz := hb.size; (try simp at hz); (try have hz0 : w.heap.size < w1.heap.size := by omega); (try have hz1 : w.heap.size + 1 < w1.heap.size := by omega); (try have hz2 : w.heap.size + 1 + 1 < w1.heap.size := by omega); (try have hz3 : w.heap.size + 1 + 1 + 1 < w1.heap.size := by omega); (try have hz4 : w.heap.size + 1 + 1 + 1 + 1 < w1.heap.size := by omega); (try have hz5 : w.heap.size + 1 + 1 + 1 + 1 + 1 < w1.heap.size := by omega); (try have hz6 : w.heap.size + 1 + 1 + 1 + 1 + 1 + 1 < w1.heap.size := by omega)) | (go_at_call 46; refine (output_any _ _ _ _ _ _ _ _ hF).mono ?_; rintro r w1 ⟨rfl, hb⟩; obtain ⟨hc, hf⟩ := bcell hb; have hz := hb.size; (try simp at hz); (try have hz0 : w.heap.size < w1.heap.size := by omega); (try have hz1 : w.heap.size + 1 < w1.heap.size := by omega); (try have hz2 : w.heap.size + 1 + 1 < w1.heap.size := by omega); (try have hz3 : w.heap.size + 1 + 1 + 1 < w1.heap.size := by omega); (try have hz4 : w.heap.size + 1 + 1 + 1 + 1 < w1.heap.size := by omega); (try have hz5 : w.heap.size + 1 + 1 + 1 + 1 + 1 < w1.heap.size := by omega); (try have hz6 : w.heap.size + 1 + 1 + 1 + 1 + 1 + 1 < w1.heap.size := by omega)))
  refine bodyPost_ret (v := .tuple #[.agg #[(.int .i64 (oRe bl w0)), (.int .i64 (0)), (.int .i64 (nRe re le bl ma st lo w0)), (.int .i64 (nIm re le bl ma st lo w0))], (.int .i64 (0))]) (by simp [results, Tryz.results43, go_sem, *]) rfl ⟨rfl, ?_⟩
  repeat (first | (with_reducible exact Below.refl _ _) | ((with_reducible refine Below.setCell ?_ ?_ _); rotate_left 1; focus (first | (simp; done) | (simp; omega) | (simp at *; omega))) | ((with_reducible refine Below.alloc ?_ ?_ _); rotate_left 1; focus (first | (simp; done) | (simp; omega) | (simp at *; omega))) | (with_reducible refine Below.drew ?_) | ((with_reducible refine Calm.step (by assumption) ?_ ?_); rotate_left 1; focus (first | (simp; done) | (simp; omega) | (simp at *; omega))))
theorem Output_ok (re le bl ma st lo w0 : Int) (w : World) (hL : Lim w) (h : drvnErr re le bl ma st lo w0 = 0) :
    Calls Tryz.prog 15 #[.agg #[(.int .i64 (re)), (.int .i64 (le)), (.int .i64 (bl)), (.int .i64 (ma)), (.int .i64 (st)), (.int .i64 (lo))], (.int .i64 (w0))] w fun r w' => r = .returned (.tuple #[.agg #[(.int .i64 (oRe bl w0)), (.int .i64 (0)), (.int .i64 (nRe re le bl ma st lo w0)), (.int .i64 (nIm re le bl ma st lo w0))], (.int .i64 (0))]) ∧ Below w.heap.size w w' := by
  go_enter Tryz.func15, Tryz.ntmps15
  go_wp2_with (first | (go_at_call 43; refine (askedOutput_ok _ _ _ _ _ _ _ _ (hL.below (by repeat (first | (with_reducible exact Below.refl _ _) | ((with_reducible refine Below.setCell ?_ ?_ _); rotate_left 1; focus (first | (simp; done) | (simp; omega) | (simp at *; omega))) | ((with_reducible refine Below.alloc ?_ ?_ _); rotate_left 1; focus (first | (simp; done) | (simp; omega) | (simp at *; omega))) | (with_reducible refine Below.drew ?_) | ((with_reducible refine Calm.step (by assumption) ?_ ?_); rotate_left 1; focus (first | (simp; done) | (simp; omega) | (simp at *; omega)))))) h).mono ?_; rintro r w1 ⟨rfl, hb⟩; obtain ⟨hc, hf⟩ := bcell hb; have hz := hb.size; (try simp at hz); (try have hz0 : w.heap.size < w1.heap.size := by omega); (try have hz1 : w.heap.size + 1 < w1.heap.size := by omega); (try have hz2 : w.heap.size + 1 + 1 < w1.heap.size := by omega); (try have hz3 : w.heap.size + 1 + 1 + 1 < w1.heap.size := by omega); (try have hz4 : w.heap.size + 1 + 1 + 1 + 1 < w1.heap.size := by omega); (try have hz5 : w.heap.size + 1 + 1 + 1 + 1 + 1 < w1.heap.size := by omega); (try have hz6 : w.heap.size + 1 + 1 + 1 + 1 + 1 + 1 < w1.heap.size := by omega)))
  refine bodyPost_ret (v := .tuple #[.agg #[(.int .i64 (oRe bl w0)), (.int .i64 (0)), (.int .i64 (nRe re le bl ma st lo w0)), (.int .i64 (nIm re le bl ma st lo w0))], (.int .i64 (0))]) (by simp [results, Tryz.results15, go_sem, *]) rfl ⟨rfl, ?_⟩
  repeat (first | (with_reducible exact Below.refl _ _) | ((with_reducible refine Below.setCell ?_ ?_ _); rotate_left 1; focus (first | (simp; done) | (simp; omega) | (simp at *; omega))) | ((with_reducible refine Below.alloc ?_ ?_ _); rotate_left 1; focus (first | (simp; done) | (simp; omega) | (simp at *; omega))) | (with_reducible refine Below.drew ?_) | ((with_reducible refine Calm.step (by assumption) ?_ ?_); rotate_left 1; focus (first | (simp; done) | (simp; omega) | (simp at *; omega))))
theorem Output_bad (re le bl ma st lo w0 : Int) (w : World) (hL : Lim w) (h : drvnErr re le bl ma st lo w0 ≠ 0) :
    Calls Tryz.prog 15 #[.agg #[(.int .i64 (re)), (.int .i64 (le)), (.int .i64 (bl)), (.int .i64 (ma)), (.int .i64 (st)), (.int .i64 (lo))], (.int .i64 (w0))] w fun r w' => r = .returned (.tuple #[.agg #[(.int .i64 (0)), (.int .i64 (0)), (.int .i64 (0)), (.int .i64 (0))], (.int .i64 (drvnErr re le bl ma st lo w0))]) ∧ Below w.heap.size w w' := by
  go_enter Tryz.func15, Tryz.ntmps15
  go_wp2_with (first | (go_at_call 43; refine (asked_bad _ _ _ _ _ _ _ _ _ (hL.below (by repeat (first | (with_reducible exact Below.refl _ _) | ((with_reducible refine Below.setCell ?_ ?_ _); rotate_left 1; focus (first | (simp; done) | (simp; omega) | (simp at *; omega))) | ((with_reducible refine Below.alloc ?_ ?_ _); rotate_left 1; focus (first | (simp; done) | (simp; omega) | (simp at *; omega))) | (with_reducible refine Below.drew ?_) | ((with_reducible refine Calm.step (by assumption) ?_ ?_); rotate_left 1; focus (first | (simp; done) | (simp; omega) | (simp at *; omega)))))) h).mono ?_; rintro r w1 ⟨rfl, hb⟩; obtain ⟨hc, hf⟩ := bcell hb; have hz := hb.size; (try simp at hz); (try have hz0 : w.heap.size < w1.heap.size := by omega); (try have hz1 : w.heap.size + 1 < w1.heap.size := by omega); (try have hz2 : w.heap.size + 1 + 1 < w1.heap.size := by omega); (try have hz3 : w.heap.size + 1 + 1 + 1 < w1.heap.size := by omega); (try have hz4 : w.heap.size + 1 + 1 + 1 + 1 < w1.heap.size := by omega); (try have hz5 : w.heap.size + 1 + 1 + 1 + 1 + 1 < w1.heap.size := by omega); (try have hz6 : w.heap.size + 1 + 1 + 1 + 1 + 1 + 1 < w1.heap.size := by omega)))
  refine bodyPost_ret (v := .tuple #[.agg #[(.int .i64 (0)), (.int .i64 (0)), (.int .i64 (0)), (.int .i64 (0))], (.int .i64 (drvnErr re le bl ma st lo w0))]) (by simp [results, Tryz.results15, go_sem, *]) rfl ⟨rfl, ?_⟩
  repeat (first | (with_reducible exact Below.refl _ _) | ((with_reducible refine Below.setCell ?_ ?_ _); rotate_left 1; focus (first | (simp; done) | (simp; omega) | (simp at *; omega))) | ((with_reducible refine Below.alloc ?_ ?_ _); rotate_left 1; focus (first | (simp; done) | (simp; omega) | (simp at *; omega))) | (with_reducible refine Below.drew ?_) | ((with_reducible refine Calm.step (by assumption) ?_ ?_); rotate_left 1; focus (first | (simp; done) | (simp; omega) | (simp at *; omega))))
end Go.Proofs.YtadcmjnebjgijaaGreatDoor

/- Contracts of the program's reader of an integer. -/
namespace Go.Proofs.YtadcmjnebjgijaaGreatDoor
open Go.RowKit
open Go.Lib
open Calm (bcell Blk)

/-- what the library's variables hold. -/
structure Tab (w : World) : Prop where
  lim : Lim w
  pow : Lib.TabIs Tryz.prog w "internal/strconv.uint64pow10" .u64 Lib.pow10Tab
  syn : ∃ tp p, w.var? Tryz.prog "strconv.ErrSyntax" = some #[.iface tp p]
  rng : ∃ tp p, w.var? Tryz.prog "strconv.ErrRange" = some #[.iface tp p]
  mx : 2 < w.heap.size ∧ ∃ m, w.cell? ⟨2, 0, none⟩ = some (.int .i64 m)
theorem gPow : Tryz.prog.globalNamed "internal/strconv.uint64pow10" = some 1 := by kernel_rfl
theorem gSyn : Tryz.prog.globalNamed "strconv.ErrSyntax" = some 5 := by kernel_rfl
theorem gRng : Tryz.prog.globalNamed "strconv.ErrRange" = some 6 := by kernel_rfl
theorem var_lt {P : Program} {w : World} {n : String} {g : Nat} {cs : Array Value} (hg : P.globalNamed n = some g) (h : w.var? P n = some cs) : g < w.heap.size := by
  unfold World.var? at h
  rw [hg] at h
  simp only [Option.bind_some] at h
  rcases Nat.lt_or_ge g w.heap.size with h1 | h1
  · exact h1
  · rw [Array.getElem?_eq_none h1] at h
    simp at h
theorem Tab.below {w w' : World} (h : Tab w) (hb : Below w.heap.size w w') : Tab w' := by
  obtain ⟨h1, h2, ⟨t1, p1, h3⟩, ⟨t2, p2, h4⟩, ⟨h6, m, h5⟩⟩ := h
  exact ⟨h1.below hb, var?_below hb gPow (var_lt gPow h2) h2, ⟨t1, p1, var?_below hb gSyn (var_lt gSyn h3) h3⟩, ⟨t2, p2, var?_below hb gRng (var_lt gRng h4) h4⟩, Nat.lt_of_lt_of_le h6 hb.size, m, (hb.cell (p := ⟨2, 0, none⟩) h6).trans h5⟩
theorem below_grow (w : World) (n : Nat) (os : Array Obj) : Below w.heap.size w (Go.Sort.grow (w.drewN n) os) := by
  have h := below_drewN (Below.refl w.heap.size w) n
  refine ⟨h.os, h.tape, h.output, ?_, fun k hk => ?_⟩
  · show _ ≤ ((w.drewN n).heap ++ os).size
    have := h.size
    rw [Array.size_append]; omega
  · have e : (Go.Sort.grow (w.drewN n) os).heap[k]? = ((w.drewN n).heap ++ os)[k]? := rfl
    rw [e, Array.getElem?_append_left (Nat.lt_of_lt_of_le hk h.size)]
    exact h.block k hk
theorem itoa_any (n : Int) (w : World) (hT : Tab w) (h0 : -9223372036854775808 ≤ n) (h1 : n ≤ 9223372036854775807) :
    Calls Tryz.prog 33 #[(.int .i64 (n))] w fun r w' => r = .returned (.string ⟨(Lib.itoa n).toArray⟩) ∧ Below w.heap.size w w' :=
  (Tryz.strconv_Itoa n h0 h1 w hT.pow).mono fun _ _ ⟨h, k, os, e⟩ => ⟨h, e ▸ below_grow w k os⟩
/-- strconv.Atoi: the number, and whether there is one. -/
theorem atoi_ok (s : ByteArray) (w : World) (hs : s.size ≤ 4096) {v : Int} (h : Lib.atoiAll s.data.toList = .ok v) :
    Calls Tryz.prog 89 #[.string s] w fun r w' => r = .returned (.tuple #[(.int .i64 (v)), .nilIface]) ∧ Below w.heap.size w w' :=
  (Tryz.strconv_Atoi_ok s (by omega) v h w).mono fun _ _ ⟨h, e⟩ => ⟨h, e.elim (fun e => e ▸ Below.refl _ _) (fun ⟨t, e⟩ => e ▸ Lib.bytesWorld_below _ _ _)⟩
theorem atoi_no (s : ByteArray) (w : World) (hT : Tab w) (hs : s.size ≤ 4096) (h : ∀ v, Lib.atoiAll s.data.toList ≠ .ok v) :
    Calls Tryz.prog 89 #[.string s] w fun r w' => ∃ (n : Int) (t : TypeId) (x : Value), r = .returned (.tuple #[(.int .i64 (n)), .iface t x]) ∧ Below w.heap.size w w' := by
  obtain ⟨t1, p1, h3⟩ := hT.syn
  obtain ⟨t2, p2, h4⟩ := hT.rng
  cases hh : Lib.atoiAll s.data.toList
  · exact absurd hh (h _)
  · exact (Any.strconv_Atoi_syntax_var Tryz.laysC172 s (by omega) hh t1 p1 w h3).mono fun _ _ ⟨N, e, _, _, hb⟩ => ⟨_, _, _, e, hb⟩
  · exact (Any.strconv_Atoi_range_var Tryz.laysC172 s (by omega) hh t2 p2 w h4).mono fun _ _ ⟨N, e, _, _, hb⟩ => ⟨_, _, _, e, hb⟩
theorem numL_len {l : List UInt8} (h : 9 < l.length) : numL l = none := numL_none_len (.inr h)
theorem numL_of_atoi {l : List UInt8} {v : Int} (h : Lib.atoiAll l = .ok v) : (numL l = none ∨ 0 ≤ v ∧ numL l = some v.toNat ∧ Lib.itoa v = l) := by
  cases hn : numL l with
  | none => exact .inl rfl
  | some k =>
    have h1 := atoi_num hn
    rw [h] at h1
    have h2 : v = k := by injection h1
    subst h2
    obtain ⟨_, _, _, h4, _⟩ := numL_some hn
    exact .inr ⟨by omega, by rw [Int.toNat_natCast], by rw [itoa_nat]; exact h4⟩
theorem atoi_bd {l : List UInt8} {v : Int} (h : Lib.atoiAll l = .ok v) : -9223372036854775808 ≤ v ∧ v ≤ 9223372036854775807 := by
  unfold Lib.atoiAll at h
  split at h
  · cases h
  · rename_i c r
    simp only [] at h
    split at h
    · cases h
    · cases h
    · rename_i u _
      by_cases hn : c.toNat = 45
      · rw [if_neg (by omega)] at h
        by_cases h2 : 9223372036854775808 < u
        · rw [if_pos ⟨hn, h2⟩] at h; cases h
        · rw [if_neg (by omega), if_pos hn] at h
          injection h with h; omega
      · by_cases h2 : 9223372036854775808 ≤ u
        · rw [if_pos ⟨hn, h2⟩] at h; cases h
        · rw [if_neg (by omega), if_neg (by omega), if_neg hn] at h
          injection h with h; omega
/-- how the reader of an integer answers. -/
def IntPost (R : Option Nat) (w : World) (r : Ending) (w' : World) : Prop := ∃ n : Int, r = .returned (.tuple #[(.int .i64 (n)), .bool R.isSome]) ∧ (∀ k, R = some k → n = k) ∧ Below w.heap.size w w'
set_option maxHeartbeats 4000000 in
theorem integer_any (s : ByteArray) (w : World) (hT : Tab w) (hs : s.size ≤ 4096) :
    Calls Tryz.prog 74 #[.string s] w (IntPost (numL s.data.toList) w) := by
  obtain ⟨R, hR⟩ : ∃ R, R = numL s.data.toList := ⟨_, rfl⟩
  rw [← hR]
  by_cases hok : ∃ v, Lib.atoiAll s.data.toList = .ok v
  · obtain ⟨v, hv⟩ := hok
    have hr := numL_of_atoi hv
    rw [← hR] at hr
    have hb := atoi_bd hv
    have HV := Lib.hid hv
    clear hv
    by_cases h0 : 0 ≤ v
    · by_cases h9 : s.size ≤ 9
      · by_cases he : Lib.itoa v = s.data.toList
        · have hn : R = some v.toNat := by rw [hR]; exact num_itoa h0 (by rw [size_list]; exact h9) he
          have hse : (⟨(Lib.itoa v).toArray⟩ : ByteArray) = s := by rw [he]
          have HSE := Lib.hid hse
          clear hR hr hse he
          subst hn
          go_enter Tryz.func74, Tryz.ntmps74
          go_wp2_with (go_at_call 89; refine (atoi_ok s _ hs HV.out).mono ?_; rintro r w1 ⟨rfl, h1⟩; refine Hid.out ?_)
          unfold Hid
          go_wp2_with (go_at_call 33; refine (itoa_any v _ (hT.below h1) hb.1 hb.2).mono ?_; rintro r w2 ⟨rfl, h2⟩; rw [HSE.out]; refine Hid.out ?_)
          unfold Hid
          go_wp2
          go_ret2
          exact ⟨v, rfl, fun k hk => by injection hk; omega, h1.trans (h2.mono h1.size)⟩
        · have hn : R = none := hr.elim id (fun h => absurd h.2.2 he)
          have hse : (Lib.itoa v == s.toList) = false := beq_eq_false_iff_ne.2 (fun e => he (e.trans (Go.ByteArray.toList_eq s)))
          clear hR hr he
          subst hn
          go_enter Tryz.func74, Tryz.ntmps74
          go_wp2_with (go_at_call 89; refine (atoi_ok s _ hs HV.out).mono ?_; rintro r w1 ⟨rfl, h1⟩; refine Hid.out ?_)
          unfold Hid
          go_wp2_with (go_at_call 33; refine (itoa_any v _ (hT.below h1) hb.1 hb.2).mono ?_; rintro r w2 ⟨rfl, h2⟩; refine Hid.out ?_)
          unfold Hid
          go_wp2
          go_ret2
          exact ⟨v, rfl, (fun k hk => by cases hk), h1.trans (h2.mono h1.size)⟩
      · have hn : R = none := by rw [hR]; exact numL_len (by rw [size_list]; omega)
        clear hR hr
        subst hn
        go_enter Tryz.func74, Tryz.ntmps74
        go_wp2_with (go_at_call 89; refine (atoi_ok s _ hs HV.out).mono ?_; rintro r w1 ⟨rfl, h1⟩; refine Hid.out ?_)
        unfold Hid
        go_wp2
        go_ret2
        exact ⟨v, rfl, (fun k hk => by cases hk), h1⟩
    · have hn : R = none := hr.elim id (fun h => absurd h.1 h0)
      clear hR hr
      subst hn
      go_enter Tryz.func74, Tryz.ntmps74
      go_wp2_with (go_at_call 89; refine (atoi_ok s _ hs HV.out).mono ?_; rintro r w1 ⟨rfl, h1⟩; refine Hid.out ?_)
      unfold Hid
      go_wp2
      go_ret2
      exact ⟨v, rfl, (fun k hk => by cases hk), h1⟩
  · have hno : ∀ v, Lib.atoiAll s.data.toList ≠ .ok v := fun v e => hok ⟨v, e⟩
    have hn : R = none := by
      rw [hR]
      cases hh : numL s.data.toList with
      | none => rfl
      | some k => exact absurd (atoi_num hh) (hno _)
    have HNO := Lib.hid hno
    clear hR hno hok
    subst hn
    go_enter Tryz.func74, Tryz.ntmps74
    go_wp2_with (go_at_call 89; refine (atoi_no s _ hT hs HNO.out).mono ?_; rintro r w1 ⟨n, t, x, rfl, h1⟩; refine Hid.out ?_)
    unfold Hid
    go_wp2
    go_ret2
    exact ⟨n, rfl, (fun k hk => by cases hk), h1⟩
end Go.Proofs.YtadcmjnebjgijaaGreatDoor
