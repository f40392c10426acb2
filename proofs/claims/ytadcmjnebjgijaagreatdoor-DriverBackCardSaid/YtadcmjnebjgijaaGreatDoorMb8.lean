/- Part 8 of the texts of the claim: A12, B5. -/
import Derived.Test.YtadcmjnebjgijaaGreatDoorMb6
import Derived.Test.YtadcmjnebjgijaaGreatDoorMb7

/- Contracts of package driver's exported functions of boxes. -/
namespace Go.Proofs.YtadcmjnebjgijaaGreatDoor
open Go.RowKit
open Calm (bcell Blk)

theorem drvb_zero {re le bl ma st lo air bm bs bo w0 : Int} (h : drvbErr re le bl ma st lo air bm bs bo w0 = 0) : drvErr re le bl ma st lo = 0 ∧ boxErr air bm bs bo = 0 ∧ 1 ≤ w0 ∧ w0 ≤ 8 := by
  have h1 := firstOf_eq_zero.1 h
  simp only [List.mem_cons, List.not_mem_nil, or_false, forall_eq_or_imp, forall_eq, rangeErr_zero] at h1
  exact h1
theorem drvb_fit {re le bl ma st lo air bm bs bo w0 : Int} (h : drvbErr re le bl ma st lo air bm bs bo w0 = 0) : Fit re le bl ma st lo w0 ∧ Fit re le bl ma (st + air) lo w0 ∧ (1 ≤ air ∧ air ≤ 5000) := by
  obtain ⟨h1, h2, h3⟩ := drvb_zero h
  obtain ⟨a1, a2, a3, a4, a5, a6⟩ := drvErr_zero h1
  obtain ⟨b1, _⟩ := boxErr_zero h2
  exact ⟨⟨a1, a2, a3, a4, ⟨a5.1, by omega⟩, a6, h3⟩, ⟨a1, a2, a3, a4, ⟨by omega, by omega⟩, a6, h3⟩, b1⟩
theorem drvb_fitB {re le bl ma st lo air bm bs bo w0 : Int} (h : drvbErr re le bl ma st lo air bm bs bo w0 = 0) (hm : bm ≠ 0) : FitB air bm bs bo := by
  obtain ⟨_, h2, _⟩ := drvb_zero h
  obtain ⟨b1, b2⟩ := boxErr_zero h2
  obtain ⟨b3, b4, b5⟩ := b2.resolve_left (fun hh => hm hh.1)
  exact ⟨b1, b3, b4, b5⟩
theorem drvb_shut {re le bl ma st lo air bs bo w0 : Int} (h : drvbErr re le bl ma st lo air 0 bs bo w0 = 0) : bs = 0 ∧ bo = 0 := by
  obtain ⟨_, h2, _⟩ := drvb_zero h
  obtain ⟨_, b2⟩ := boxErr_zero h2
  rcases b2 with b2 | b2
  · exact b2.2
  · omega

set_option maxHeartbeats 1000000 in
theorem Boxed_bad (re le bl ma st lo air bm bs bo w0 : Int) (w : World) (hL : Lim w) (h : drvbErr re le bl ma st lo air bm bs bo w0 ≠ 0) :
    Calls Tryz.prog 18 #[.agg #[(.int .i64 (re)), (.int .i64 (le)), (.int .i64 (bl)), (.int .i64 (ma)), (.int .i64 (st)), (.int .i64 (lo))], .agg #[(.int .i64 (air)), (.int .i64 (bm)), (.int .i64 (bs)), (.int .i64 (bo))], (.int .i64 (w0))] w fun r w' => r = .returned (.tuple #[.agg #[(.int .i64 (0)), (.int .i64 (0)), (.int .i64 (0)), (.int .i64 (0))], (.int .i64 (drvbErr re le bl ma st lo air bm bs bo w0))]) ∧ Below w.heap.size w w' := by
  go_enter Tryz.func18, Tryz.ntmps18
  go_wp2_with (first | (go_at_call 48; refine (checkBoxed_any _ _ _ _ _ _ _ _ _ _ _ _ (hL.below (by repeat (first | (with_reducible exact Below.refl _ _) | ((with_reducible refine Below.setCell ?_ ?_ _); rotate_left 1; focus (first | (simp; done) | (simp; omega) | (simp at *; omega))) | ((with_reducible refine Below.alloc ?_ ?_ _); rotate_left 1; focus (first | (simp; done) | (simp; omega) | (simp at *; omega))) | (with_reducible refine Below.drew ?_) | ((with_reducible refine Calm.step (by assumption) ?_ ?_); rotate_left 1; focus (first | (simp; done) | (simp; omega) | (simp at *; omega))))))).mono ?_; rintro r w1 ⟨rfl, hb⟩; obtain ⟨hc, hf⟩ := bcell hb; have hz := hb.size; (try simp at hz); (try have hz0 : w.heap.size < w1.heap.size := by omega); (try have hz1 : w.heap.size + 1 < w1.heap.size := by omega); (try have hz2 : w.heap.size + 1 + 1 < w1.heap.size := by omega); (try have hz3 : w.heap.size + 1 + 1 + 1 < w1.heap.size := by omega); (try have hz4 : w.heap.size + 1 + 1 + 1 + 1 < w1.heap.size := by omega); (try have hz5 : w.heap.size + 1 + 1 + 1 + 1 + 1 < w1.heap.size := by omega); (try have hz6 : w.heap.size + 1 + 1 + 1 + 1 + 1 + 1 < w1.heap.size := by omega)))
  refine bodyPost_ret (v := .tuple #[.agg #[(.int .i64 (0)), (.int .i64 (0)), (.int .i64 (0)), (.int .i64 (0))], (.int .i64 (drvbErr re le bl ma st lo air bm bs bo w0))]) (by simp [results, Tryz.results18, go_sem, *]) rfl ⟨rfl, ?_⟩
  repeat (first | (with_reducible exact Below.refl _ _) | ((with_reducible refine Below.setCell ?_ ?_ _); rotate_left 1; focus (first | (simp; done) | (simp; omega) | (simp at *; omega))) | ((with_reducible refine Below.alloc ?_ ?_ _); rotate_left 1; focus (first | (simp; done) | (simp; omega) | (simp at *; omega))) | (with_reducible refine Below.drew ?_) | ((with_reducible refine Calm.step (by assumption) ?_ ?_); rotate_left 1; focus (first | (simp; done) | (simp; omega) | (simp at *; omega))))
set_option maxHeartbeats 1000000 in
theorem Boxed_shut (re le bl ma st lo air w0 : Int) (w : World) (hL : Lim w) (h : drvbErr re le bl ma st lo air 0 0 0 w0 = 0) :
    Calls Tryz.prog 18 #[.agg #[(.int .i64 (re)), (.int .i64 (le)), (.int .i64 (bl)), (.int .i64 (ma)), (.int .i64 (st)), (.int .i64 (lo))], .agg #[(.int .i64 (air)), (.int .i64 (0)), (.int .i64 (0)), (.int .i64 (0))], (.int .i64 (w0))] w fun r w' => r = .returned (.tuple #[.agg #[(.int .i64 (nRe re le bl ma (st + air) lo w0)), (.int .i64 (nIm re le bl ma (st + air) lo w0)), (.int .i64 (mRe (st + air) ma w0)), (.int .i64 (mIm lo w0))], (.int .i64 (0))]) ∧ Below w.heap.size w w' := by
  obtain ⟨hF0, hF, b1, b2⟩ := drvb_fit h
  obtain ⟨g1, g2⟩ := hF0.st
  clear hF0
  go_enter Tryz.func18, Tryz.ntmps18
  go_wp2_with (first | (go_at_call 48; refine (checkBoxed_any _ _ _ _ _ _ _ _ _ _ _ _ (hL.below (by repeat (first | (with_reducible exact Below.refl _ _) | ((with_reducible refine Below.setCell ?_ ?_ _); rotate_left 1; focus (first | (simp; done) | (simp; omega) | (simp at *; omega))) | ((with_reducible refine Below.alloc ?_ ?_ _); rotate_left 1; focus (first | (simp; done) | (simp; omega) | (simp at *; omega))) | (with_reducible refine Below.drew ?_) | ((with_reducible refine Calm.step (by assumption) ?_ ?_); rotate_left 1; focus (first | (simp; done) | (simp; omega) | (simp at *; omega))))))).mono ?_; rintro r w1 ⟨rfl, hb⟩; obtain ⟨hc, hf⟩ := bcell hb; have hz := hb.size; (try simp at hz); (try have hz0 : w.heap.size < w1.heap.size := by omega); (try have hz1 : w.heap.size + 1 < w1.heap.size := by omega); (try have hz2 : w.heap.size + 1 + 1 < w1.heap.size := by omega); (try have hz3 : w.heap.size + 1 + 1 + 1 < w1.heap.size := by omega); (try have hz4 : w.heap.size + 1 + 1 + 1 + 1 < w1.heap.size := by omega); (try have hz5 : w.heap.size + 1 + 1 + 1 + 1 + 1 < w1.heap.size := by omega); (try have hz6 : w.heap.size + 1 + 1 + 1 + 1 + 1 + 1 < w1.heap.size := by omega)) | (go_at_call 49; refine (stiffer_any _ _ _ _ _ _ _ _ ⟨by omega, by omega⟩ ⟨by omega, by omega⟩).mono ?_; rintro r w1 ⟨rfl, hb⟩; obtain ⟨hc, hf⟩ := bcell hb; have hz := hb.size; (try simp at hz); (try have hz0 : w.heap.size < w1.heap.size := by omega); (try have hz1 : w.heap.size + 1 < w1.heap.size := by omega); (try have hz2 : w.heap.size + 1 + 1 < w1.heap.size := by omega); (try have hz3 : w.heap.size + 1 + 1 + 1 < w1.heap.size := by omega); (try have hz4 : w.heap.size + 1 + 1 + 1 + 1 < w1.heap.size := by omega); (try have hz5 : w.heap.size + 1 + 1 + 1 + 1 + 1 < w1.heap.size := by omega); (try have hz6 : w.heap.size + 1 + 1 + 1 + 1 + 1 + 1 < w1.heap.size := by omega)) | (go_at_call 44; refine (impedance_any _ _ _ _ _ _ _ _ hF).mono ?_; rintro r w1 ⟨rfl, hb⟩; obtain ⟨hc, hf⟩ := bcell hb; have hz := hb.size; (try simp at hz); (try have hz0 : w.heap.size < w1.heap.size := by omega); (try have hz1 : w.heap.size + 1 < w1.heap.size := by omega); (try have hz2 : w.heap.size + 1 + 1 < w1.heap.size := by omega); (try have hz3 : w.heap.size + 1 + 1 + 1 < w1.heap.size := by omega); (try have hz4 : w.heap.size + 1 + 1 + 1 + 1 < w1.heap.size := by omega); (try have hz5 : w.heap.size + 1 + 1 + 1 + 1 + 1 < w1.heap.size := by omega); (try have hz6 : w.heap.size + 1 + 1 + 1 + 1 + 1 + 1 < w1.heap.size := by omega)))
  refine bodyPost_ret (v := .tuple #[.agg #[(.int .i64 (nRe re le bl ma (st + air) lo w0)), (.int .i64 (nIm re le bl ma (st + air) lo w0)), (.int .i64 (mRe (st + air) ma w0)), (.int .i64 (mIm lo w0))], (.int .i64 (0))]) (by simp [results, Tryz.results18, go_sem, *]) rfl ⟨rfl, ?_⟩
  repeat (first | (with_reducible exact Below.refl _ _) | ((with_reducible refine Below.setCell ?_ ?_ _); rotate_left 1; focus (first | (simp; done) | (simp; omega) | (simp at *; omega))) | ((with_reducible refine Below.alloc ?_ ?_ _); rotate_left 1; focus (first | (simp; done) | (simp; omega) | (simp at *; omega))) | (with_reducible refine Below.drew ?_) | ((with_reducible refine Calm.step (by assumption) ?_ ?_); rotate_left 1; focus (first | (simp; done) | (simp; omega) | (simp at *; omega))))
set_option maxHeartbeats 2000000 in
theorem Boxed_port (re le bl ma st lo air bm bs bo w0 : Int) (w : World) (hL : Lim w) (h : drvbErr re le bl ma st lo air bm bs bo w0 = 0) (hm : bm ≠ 0) :
    Calls Tryz.prog 18 #[.agg #[(.int .i64 (re)), (.int .i64 (le)), (.int .i64 (bl)), (.int .i64 (ma)), (.int .i64 (st)), (.int .i64 (lo))], .agg #[(.int .i64 (air)), (.int .i64 (bm)), (.int .i64 (bs)), (.int .i64 (bo))], (.int .i64 (w0))] w fun r w' => r = .returned (.tuple #[.agg #[(.int .i64 (wRe re le bl ma st lo air bm bs bo w0)), (.int .i64 (wIm re le bl ma st lo air bm bs bo w0)), (.int .i64 (lRe ma st lo air bm bs bo w0)), (.int .i64 (lIm ma st lo air bm bs bo w0))], (.int .i64 (0))]) ∧ Below w.heap.size w w' := by
  obtain ⟨hF, _, b1, b2⟩ := drvb_fit h
  have hB := drvb_fitB h hm
  have hm2 : (bm == 0) = false := by simp [hm]
  go_enter Tryz.func18, Tryz.ntmps18
  go_wp2_with (first | (go_at_call 48; refine (checkBoxed_any _ _ _ _ _ _ _ _ _ _ _ _ (hL.below (by repeat (first | (with_reducible exact Below.refl _ _) | ((with_reducible refine Below.setCell ?_ ?_ _); rotate_left 1; focus (first | (simp; done) | (simp; omega) | (simp at *; omega))) | ((with_reducible refine Below.alloc ?_ ?_ _); rotate_left 1; focus (first | (simp; done) | (simp; omega) | (simp at *; omega))) | (with_reducible refine Below.drew ?_) | ((with_reducible refine Calm.step (by assumption) ?_ ?_); rotate_left 1; focus (first | (simp; done) | (simp; omega) | (simp at *; omega))))))).mono ?_; rintro r w1 ⟨rfl, hb⟩; obtain ⟨hc, hf⟩ := bcell hb; have hz := hb.size; (try simp at hz); (try have hz0 : w.heap.size < w1.heap.size := by omega); (try have hz1 : w.heap.size + 1 < w1.heap.size := by omega); (try have hz2 : w.heap.size + 1 + 1 < w1.heap.size := by omega); (try have hz3 : w.heap.size + 1 + 1 + 1 < w1.heap.size := by omega); (try have hz4 : w.heap.size + 1 + 1 + 1 + 1 < w1.heap.size := by omega); (try have hz5 : w.heap.size + 1 + 1 + 1 + 1 + 1 < w1.heap.size := by omega); (try have hz6 : w.heap.size + 1 + 1 + 1 + 1 + 1 + 1 < w1.heap.size := by omega)) | (go_at_call 50; refine (cabinet_any _ _ _ _ _ _ _ _ _ _ _ _ hF hB).mono ?_; rintro r w1 ⟨rfl, hb⟩; obtain ⟨hc, hf⟩ := bcell hb; have hz := hb.size; (try simp at hz); (try have hz0 : w.heap.size < w1.heap.size := by omega); (try have hz1 : w.heap.size + 1 < w1.heap.size := by omega); (try have hz2 : w.heap.size + 1 + 1 < w1.heap.size := by omega); (try have hz3 : w.heap.size + 1 + 1 + 1 < w1.heap.size := by omega); (try have hz4 : w.heap.size + 1 + 1 + 1 + 1 < w1.heap.size := by omega); (try have hz5 : w.heap.size + 1 + 1 + 1 + 1 + 1 < w1.heap.size := by omega); (try have hz6 : w.heap.size + 1 + 1 + 1 + 1 + 1 + 1 < w1.heap.size := by omega)))
  refine bodyPost_ret (v := .tuple #[.agg #[(.int .i64 (wRe re le bl ma st lo air bm bs bo w0)), (.int .i64 (wIm re le bl ma st lo air bm bs bo w0)), (.int .i64 (lRe ma st lo air bm bs bo w0)), (.int .i64 (lIm ma st lo air bm bs bo w0))], (.int .i64 (0))]) (by simp [results, Tryz.results18, go_sem, *]) rfl ⟨rfl, ?_⟩
  repeat (first | (with_reducible exact Below.refl _ _) | ((with_reducible refine Below.setCell ?_ ?_ _); rotate_left 1; focus (first | (simp; done) | (simp; omega) | (simp at *; omega))) | ((with_reducible refine Below.alloc ?_ ?_ _); rotate_left 1; focus (first | (simp; done) | (simp; omega) | (simp at *; omega))) | (with_reducible refine Below.drew ?_) | ((with_reducible refine Calm.step (by assumption) ?_ ?_); rotate_left 1; focus (first | (simp; done) | (simp; omega) | (simp at *; omega))))
set_option maxHeartbeats 1000000 in
theorem Radiated_bad (re le bl ma st lo air bm bs bo w0 : Int) (w : World) (hL : Lim w) (h : drvbErr re le bl ma st lo air bm bs bo w0 ≠ 0) :
    Calls Tryz.prog 21 #[.agg #[(.int .i64 (re)), (.int .i64 (le)), (.int .i64 (bl)), (.int .i64 (ma)), (.int .i64 (st)), (.int .i64 (lo))], .agg #[(.int .i64 (air)), (.int .i64 (bm)), (.int .i64 (bs)), (.int .i64 (bo))], (.int .i64 (w0))] w fun r w' => r = .returned (.tuple #[.agg #[(.int .i64 (0)), (.int .i64 (0)), (.int .i64 (0)), (.int .i64 (0))], (.int .i64 (drvbErr re le bl ma st lo air bm bs bo w0))]) ∧ Below w.heap.size w w' := by
  go_enter Tryz.func21, Tryz.ntmps21
  go_wp2_with (first | (go_at_call 48; refine (checkBoxed_any _ _ _ _ _ _ _ _ _ _ _ _ (hL.below (by repeat (first | (with_reducible exact Below.refl _ _) | ((with_reducible refine Below.setCell ?_ ?_ _); rotate_left 1; focus (first | (simp; done) | (simp; omega) | (simp at *; omega))) | ((with_reducible refine Below.alloc ?_ ?_ _); rotate_left 1; focus (first | (simp; done) | (simp; omega) | (simp at *; omega))) | (with_reducible refine Below.drew ?_) | ((with_reducible refine Calm.step (by assumption) ?_ ?_); rotate_left 1; focus (first | (simp; done) | (simp; omega) | (simp at *; omega))))))).mono ?_; rintro r w1 ⟨rfl, hb⟩; obtain ⟨hc, hf⟩ := bcell hb; have hz := hb.size; (try simp at hz); (try have hz0 : w.heap.size < w1.heap.size := by omega); (try have hz1 : w.heap.size + 1 < w1.heap.size := by omega); (try have hz2 : w.heap.size + 1 + 1 < w1.heap.size := by omega); (try have hz3 : w.heap.size + 1 + 1 + 1 < w1.heap.size := by omega); (try have hz4 : w.heap.size + 1 + 1 + 1 + 1 < w1.heap.size := by omega); (try have hz5 : w.heap.size + 1 + 1 + 1 + 1 + 1 < w1.heap.size := by omega); (try have hz6 : w.heap.size + 1 + 1 + 1 + 1 + 1 + 1 < w1.heap.size := by omega)))
  refine bodyPost_ret (v := .tuple #[.agg #[(.int .i64 (0)), (.int .i64 (0)), (.int .i64 (0)), (.int .i64 (0))], (.int .i64 (drvbErr re le bl ma st lo air bm bs bo w0))]) (by simp [results, Tryz.results21, go_sem, *]) rfl ⟨rfl, ?_⟩
  repeat (first | (with_reducible exact Below.refl _ _) | ((with_reducible refine Below.setCell ?_ ?_ _); rotate_left 1; focus (first | (simp; done) | (simp; omega) | (simp at *; omega))) | ((with_reducible refine Below.alloc ?_ ?_ _); rotate_left 1; focus (first | (simp; done) | (simp; omega) | (simp at *; omega))) | (with_reducible refine Below.drew ?_) | ((with_reducible refine Calm.step (by assumption) ?_ ?_); rotate_left 1; focus (first | (simp; done) | (simp; omega) | (simp at *; omega))))
set_option maxHeartbeats 1000000 in
theorem Radiated_shut (re le bl ma st lo air w0 : Int) (w : World) (hL : Lim w) (h : drvbErr re le bl ma st lo air 0 0 0 w0 = 0) :
    Calls Tryz.prog 21 #[.agg #[(.int .i64 (re)), (.int .i64 (le)), (.int .i64 (bl)), (.int .i64 (ma)), (.int .i64 (st)), (.int .i64 (lo))], .agg #[(.int .i64 (air)), (.int .i64 (0)), (.int .i64 (0)), (.int .i64 (0))], (.int .i64 (w0))] w fun r w' => r = .returned (.tuple #[.agg #[(.int .i64 (oRe bl w0)), (.int .i64 (0)), (.int .i64 (nRe re le bl ma (st + air) lo w0)), (.int .i64 (nIm re le bl ma (st + air) lo w0))], (.int .i64 (0))]) ∧ Below w.heap.size w w' := by
  obtain ⟨hF0, hF, b1, b2⟩ := drvb_fit h
  obtain ⟨g1, g2⟩ := hF0.st
  clear hF0
  go_enter Tryz.func21, Tryz.ntmps21
  go_wp2_with (first | (go_at_call 48; refine (checkBoxed_any _ _ _ _ _ _ _ _ _ _ _ _ (hL.below (by repeat (first | (with_reducible exact Below.refl _ _) | ((with_reducible refine Below.setCell ?_ ?_ _); rotate_left 1; focus (first | (simp; done) | (simp; omega) | (simp at *; omega))) | ((with_reducible refine Below.alloc ?_ ?_ _); rotate_left 1; focus (first | (simp; done) | (simp; omega) | (simp at *; omega))) | (with_reducible refine Below.drew ?_) | ((with_reducible refine Calm.step (by assumption) ?_ ?_); rotate_left 1; focus (first | (simp; done) | (simp; omega) | (simp at *; omega))))))).mono ?_; rintro r w1 ⟨rfl, hb⟩; obtain ⟨hc, hf⟩ := bcell hb; have hz := hb.size; (try simp at hz); (try have hz0 : w.heap.size < w1.heap.size := by omega); (try have hz1 : w.heap.size + 1 < w1.heap.size := by omega); (try have hz2 : w.heap.size + 1 + 1 < w1.heap.size := by omega); (try have hz3 : w.heap.size + 1 + 1 + 1 < w1.heap.size := by omega); (try have hz4 : w.heap.size + 1 + 1 + 1 + 1 < w1.heap.size := by omega); (try have hz5 : w.heap.size + 1 + 1 + 1 + 1 + 1 < w1.heap.size := by omega); (try have hz6 : w.heap.size + 1 + 1 + 1 + 1 + 1 + 1 < w1.heap.size := by omega)) | (go_at_call 49; refine (stiffer_any _ _ _ _ _ _ _ _ ⟨by omega, by omega⟩ ⟨by omega, by omega⟩).mono ?_; rintro r w1 ⟨rfl, hb⟩; obtain ⟨hc, hf⟩ := bcell hb; have hz := hb.size; (try simp at hz); (try have hz0 : w.heap.size < w1.heap.size := by omega); (try have hz1 : w.heap.size + 1 < w1.heap.size := by omega); (try have hz2 : w.heap.size + 1 + 1 < w1.heap.size := by omega); (try have hz3 : w.heap.size + 1 + 1 + 1 < w1.heap.size := by omega); (try have hz4 : w.heap.size + 1 + 1 + 1 + 1 < w1.heap.size := by omega); (try have hz5 : w.heap.size + 1 + 1 + 1 + 1 + 1 < w1.heap.size := by omega); (try have hz6 : w.heap.size + 1 + 1 + 1 + 1 + 1 + 1 < w1.heap.size := by omega)) | (go_at_call 46; refine (output_any _ _ _ _ _ _ _ _ hF).mono ?_; rintro r w1 ⟨rfl, hb⟩; obtain ⟨hc, hf⟩ := bcell hb; have hz := hb.size; (try simp at hz); (try have hz0 : w.heap.size < w1.heap.size := by omega); (try have hz1 : w.heap.size + 1 < w1.heap.size := by omega); (try have hz2 : w.heap.size + 1 + 1 < w1.heap.size := by omega); (try have hz3 : w.heap.size + 1 + 1 + 1 < w1.heap.size := by omega); (try have hz4 : w.heap.size + 1 + 1 + 1 + 1 < w1.heap.size := by omega); (try have hz5 : w.heap.size + 1 + 1 + 1 + 1 + 1 < w1.heap.size := by omega); (try have hz6 : w.heap.size + 1 + 1 + 1 + 1 + 1 + 1 < w1.heap.size := by omega)))
  refine bodyPost_ret (v := .tuple #[.agg #[(.int .i64 (oRe bl w0)), (.int .i64 (0)), (.int .i64 (nRe re le bl ma (st + air) lo w0)), (.int .i64 (nIm re le bl ma (st + air) lo w0))], (.int .i64 (0))]) (by simp [results, Tryz.results21, go_sem, *]) rfl ⟨rfl, ?_⟩
  repeat (first | (with_reducible exact Below.refl _ _) | ((with_reducible refine Below.setCell ?_ ?_ _); rotate_left 1; focus (first | (simp; done) | (simp; omega) | (simp at *; omega))) | ((with_reducible refine Below.alloc ?_ ?_ _); rotate_left 1; focus (first | (simp; done) | (simp; omega) | (simp at *; omega))) | (with_reducible refine Below.drew ?_) | ((with_reducible refine Calm.step (by assumption) ?_ ?_); rotate_left 1; focus (first | (simp; done) | (simp; omega) | (simp at *; omega))))
set_option maxHeartbeats 2000000 in
theorem Radiated_port (re le bl ma st lo air bm bs bo w0 : Int) (w : World) (hL : Lim w) (h : drvbErr re le bl ma st lo air bm bs bo w0 = 0) (hm : bm ≠ 0) :
    Calls Tryz.prog 21 #[.agg #[(.int .i64 (re)), (.int .i64 (le)), (.int .i64 (bl)), (.int .i64 (ma)), (.int .i64 (st)), (.int .i64 (lo))], .agg #[(.int .i64 (air)), (.int .i64 (bm)), (.int .i64 (bs)), (.int .i64 (bo))], (.int .i64 (w0))] w fun r w' => r = .returned (.tuple #[.agg #[(.int .i64 (-w0 * w0 * bl * mRe bs bm w0)), (.int .i64 (-w0 * w0 * bl * mIm bo w0)), (.int .i64 (wRe re le bl ma st lo air bm bs bo w0)), (.int .i64 (wIm re le bl ma st lo air bm bs bo w0))], (.int .i64 (0))]) ∧ Below w.heap.size w w' := by
  obtain ⟨hF, _, b1, b2⟩ := drvb_fit h
  have hB := drvb_fitB h hm
  have hm2 : (bm == 0) = false := by simp [hm]
  obtain ⟨⟨p1, p2⟩, ⟨p3, p4⟩, ⟨p5, p6⟩, ⟨p7, p8⟩, _⟩ := box_bds hF hB
  have q : Bd 8 (-w0) := ⟨by have := hF.w; omega, by have := hF.w; omega⟩
  have q' : Bd 8 w0 := ⟨by have := hF.w; omega, by have := hF.w; omega⟩
  have q2 : Bd 20 bl := ⟨by have := hF.bl; omega, by have := hF.bl; omega⟩
  have q3 : Bd 5000 air := ⟨by omega, by omega⟩
  obtain ⟨e1, e2⟩ := q.mul q' (by omega)
  obtain ⟨e3, e4⟩ := (q.mul q' (by omega)).mul q2 (by omega)
  obtain ⟨e5, e6⟩ := q2.mul q3 (by omega)
  obtain ⟨q1, q4⟩ := q
  obtain ⟨q5, q6⟩ := q'
  obtain ⟨q7, q8⟩ := q2
  clear q3
  go_enter Tryz.func21, Tryz.ntmps21
  go_wp2_with (first | (go_at_call 48; refine (checkBoxed_any _ _ _ _ _ _ _ _ _ _ _ _ (hL.below (by repeat (first | (with_reducible exact Below.refl _ _) | ((with_reducible refine Below.setCell ?_ ?_ _); rotate_left 1; focus (first | (simp; done) | (simp; omega) | (simp at *; omega))) | ((with_reducible refine Below.alloc ?_ ?_ _); rotate_left 1; focus (first | (simp; done) | (simp; omega) | (simp at *; omega))) | (with_reducible refine Below.drew ?_) | ((with_reducible refine Calm.step (by assumption) ?_ ?_); rotate_left 1; focus (first | (simp; done) | (simp; omega) | (simp at *; omega))))))).mono ?_; rintro r w1 ⟨rfl, hb⟩; obtain ⟨hc, hf⟩ := bcell hb; have hz := hb.size; (try simp at hz); (try have hz0 : w.heap.size < w1.heap.size := by omega); (try have hz1 : w.heap.size + 1 < w1.heap.size := by omega); (try have hz2 : w.heap.size + 1 + 1 < w1.heap.size := by omega); (try have hz3 : w.heap.size + 1 + 1 + 1 < w1.heap.size := by omega); (try have hz4 : w.heap.size + 1 + 1 + 1 + 1 < w1.heap.size := by omega); (try have hz5 : w.heap.size + 1 + 1 + 1 + 1 + 1 < w1.heap.size := by omega); (try have hz6 : w.heap.size + 1 + 1 + 1 + 1 + 1 + 1 < w1.heap.size := by omega)) | (go_at_call 50; refine (cabinet_any _ _ _ _ _ _ _ _ _ _ _ _ hF hB).mono ?_; rintro r w1 ⟨rfl, hb⟩; obtain ⟨hc, hf⟩ := bcell hb; have hz := hb.size; (try simp at hz); (try have hz0 : w.heap.size < w1.heap.size := by omega); (try have hz1 : w.heap.size + 1 < w1.heap.size := by omega); (try have hz2 : w.heap.size + 1 + 1 < w1.heap.size := by omega); (try have hz3 : w.heap.size + 1 + 1 + 1 < w1.heap.size := by omega); (try have hz4 : w.heap.size + 1 + 1 + 1 + 1 < w1.heap.size := by omega); (try have hz5 : w.heap.size + 1 + 1 + 1 + 1 + 1 < w1.heap.size := by omega); (try have hz6 : w.heap.size + 1 + 1 + 1 + 1 + 1 + 1 < w1.heap.size := by omega)))
  refine Calm.tail_below 13 (by kernel_rfl) (by kernel_rfl) ?_
  simp only [List.take_succ_cons, List.take_zero, List.drop_succ_cons, List.drop_zero]
  repeat (first | (first | (apply Calm.op_move; (focus rfl); (focus (first | exact .inl rfl | exact .inr rfl)); (focus ((try simp only [Act.eval, Array.getD_eq_getD_getElem?, List.getElem?_toArray, List.getElem?_cons_succ, List.getElem?_cons_zero, Option.getD_some]); rfl)); (try simp only [Act.put, List.setIfInBounds_toArray, List.set_cons_zero, List.set_cons_succ])) | (apply Calm.op_not; (focus rfl); (try simp only [Act.put, List.setIfInBounds_toArray, List.set_cons_zero, List.set_cons_succ])) | (apply Calm.op; (focus rfl); (focus (intro W hb; obtain ⟨hc, hf⟩ := bcell hb; clear hb hf; go_simp; (try go_bits); (try rfl); done)); (try simp only [Act.put, List.setIfInBounds_toArray, List.set_cons_zero, List.set_cons_succ]))) | (apply Calm.op_call; (focus rfl); (focus (intro W hb; obtain ⟨hc, hf⟩ := bcell hb; clear hb hf; go_simp; refine ⟨?_, ?_⟩; rfl; rfl)); (focus (intro W hb; first | (go_at_call 52; exact Calm.call_below hb (scaled_any _ _ _ _ ⟨by omega, by omega⟩ ⟨by omega, by omega⟩ ⟨by omega, by omega⟩)))); (try simp only [Act.put, List.setIfInBounds_toArray, List.set_cons_zero, List.set_cons_succ])))
  refine wpQuiet_nil ?_
  intro w4 hb4
  obtain ⟨hb4c, hb4f⟩ := bcell hb4
  have hb4z := hb4.size
  (try simp at hb4z)
  (try have hb4z0 : w.heap.size < w4.heap.size := by omega)
  (try have hb4z1 : w.heap.size + 1 < w4.heap.size := by omega)
  (try have hb4z2 : w.heap.size + 1 + 1 < w4.heap.size := by omega)
  (try have hb4z3 : w.heap.size + 1 + 1 + 1 < w4.heap.size := by omega)
  (try have hb4z4 : w.heap.size + 1 + 1 + 1 + 1 < w4.heap.size := by omega)
  (try have hb4z5 : w.heap.size + 1 + 1 + 1 + 1 + 1 < w4.heap.size := by omega)
  go_wp2
  refine bodyPost_ret (v := .tuple #[.agg #[(.int .i64 (-w0 * w0 * bl * mRe bs bm w0)), (.int .i64 (-w0 * w0 * bl * mIm bo w0)), (.int .i64 (wRe re le bl ma st lo air bm bs bo w0)), (.int .i64 (wIm re le bl ma st lo air bm bs bo w0))], (.int .i64 (0))]) (by simp [results, Tryz.results21, go_sem, *]) rfl ⟨rfl, ?_⟩
  repeat (first | (with_reducible exact Below.refl _ _) | ((with_reducible refine Below.setCell ?_ ?_ _); rotate_left 1; focus (first | (simp; done) | (simp; omega) | (simp at *; omega))) | ((with_reducible refine Below.alloc ?_ ?_ _); rotate_left 1; focus (first | (simp; done) | (simp; omega) | (simp at *; omega))) | (with_reducible refine Below.drew ?_) | ((with_reducible refine Calm.step (by assumption) ?_ ?_); rotate_left 1; focus (first | (simp; done) | (simp; omega) | (simp at *; omega))))
set_option maxHeartbeats 1000000 in
theorem Moved_bad (re le bl ma st lo air bm bs bo w0 : Int) (w : World) (hL : Lim w) (h : drvbErr re le bl ma st lo air bm bs bo w0 ≠ 0) :
    Calls Tryz.prog 20 #[.agg #[(.int .i64 (re)), (.int .i64 (le)), (.int .i64 (bl)), (.int .i64 (ma)), (.int .i64 (st)), (.int .i64 (lo))], .agg #[(.int .i64 (air)), (.int .i64 (bm)), (.int .i64 (bs)), (.int .i64 (bo))], (.int .i64 (w0))] w fun r w' => r = .returned (.tuple #[.agg #[(.int .i64 (0)), (.int .i64 (0)), (.int .i64 (0)), (.int .i64 (0)), (.int .i64 (0)), (.int .i64 (0)), (.int .i64 (0)), (.int .i64 (0))], (.int .i64 (drvbErr re le bl ma st lo air bm bs bo w0))]) ∧ Below w.heap.size w w' := by
  go_enter Tryz.func20, Tryz.ntmps20
  go_wp2_with (first | (go_at_call 48; refine (checkBoxed_any _ _ _ _ _ _ _ _ _ _ _ _ (hL.below (by repeat (first | (with_reducible exact Below.refl _ _) | ((with_reducible refine Below.setCell ?_ ?_ _); rotate_left 1; focus (first | (simp; done) | (simp; omega) | (simp at *; omega))) | ((with_reducible refine Below.alloc ?_ ?_ _); rotate_left 1; focus (first | (simp; done) | (simp; omega) | (simp at *; omega))) | (with_reducible refine Below.drew ?_) | ((with_reducible refine Calm.step (by assumption) ?_ ?_); rotate_left 1; focus (first | (simp; done) | (simp; omega) | (simp at *; omega))))))).mono ?_; rintro r w1 ⟨rfl, hb⟩; obtain ⟨hc, hf⟩ := bcell hb; have hz := hb.size; (try simp at hz); (try have hz0 : w.heap.size < w1.heap.size := by omega); (try have hz1 : w.heap.size + 1 < w1.heap.size := by omega); (try have hz2 : w.heap.size + 1 + 1 < w1.heap.size := by omega); (try have hz3 : w.heap.size + 1 + 1 + 1 < w1.heap.size := by omega); (try have hz4 : w.heap.size + 1 + 1 + 1 + 1 < w1.heap.size := by omega); (try have hz5 : w.heap.size + 1 + 1 + 1 + 1 + 1 < w1.heap.size := by omega); (try have hz6 : w.heap.size + 1 + 1 + 1 + 1 + 1 + 1 < w1.heap.size := by omega)))
  refine bodyPost_ret (v := .tuple #[.agg #[(.int .i64 (0)), (.int .i64 (0)), (.int .i64 (0)), (.int .i64 (0)), (.int .i64 (0)), (.int .i64 (0)), (.int .i64 (0)), (.int .i64 (0))], (.int .i64 (drvbErr re le bl ma st lo air bm bs bo w0))]) (by simp [results, Tryz.results20, go_sem, *]) rfl ⟨rfl, ?_⟩
  repeat (first | (with_reducible exact Below.refl _ _) | ((with_reducible refine Below.setCell ?_ ?_ _); rotate_left 1; focus (first | (simp; done) | (simp; omega) | (simp at *; omega))) | ((with_reducible refine Below.alloc ?_ ?_ _); rotate_left 1; focus (first | (simp; done) | (simp; omega) | (simp at *; omega))) | (with_reducible refine Below.drew ?_) | ((with_reducible refine Calm.step (by assumption) ?_ ?_); rotate_left 1; focus (first | (simp; done) | (simp; omega) | (simp at *; omega))))
set_option maxHeartbeats 1000000 in
theorem Moved_shut (re le bl ma st lo air w0 : Int) (w : World) (hL : Lim w) (h : drvbErr re le bl ma st lo air 0 0 0 w0 = 0) :
    Calls Tryz.prog 20 #[.agg #[(.int .i64 (re)), (.int .i64 (le)), (.int .i64 (bl)), (.int .i64 (ma)), (.int .i64 (st)), (.int .i64 (lo))], .agg #[(.int .i64 (air)), (.int .i64 (0)), (.int .i64 (0)), (.int .i64 (0))], (.int .i64 (w0))] w fun r w' => r = .returned (.tuple #[.agg #[(.int .i64 (bl)), (.int .i64 (0)), (.int .i64 (nRe re le bl ma (st + air) lo w0)), (.int .i64 (nIm re le bl ma (st + air) lo w0)), (.int .i64 (0)), (.int .i64 (0)), (.int .i64 (1)), (.int .i64 (0))], (.int .i64 (0))]) ∧ Below w.heap.size w w' := by
  obtain ⟨hF0, hF, b1, b2⟩ := drvb_fit h
  obtain ⟨g1, g2⟩ := hF0.st
  clear hF0
  go_enter Tryz.func20, Tryz.ntmps20
  go_wp2_with (first | (go_at_call 48; refine (checkBoxed_any _ _ _ _ _ _ _ _ _ _ _ _ (hL.below (by repeat (first | (with_reducible exact Below.refl _ _) | ((with_reducible refine Below.setCell ?_ ?_ _); rotate_left 1; focus (first | (simp; done) | (simp; omega) | (simp at *; omega))) | ((with_reducible refine Below.alloc ?_ ?_ _); rotate_left 1; focus (first | (simp; done) | (simp; omega) | (simp at *; omega))) | (with_reducible refine Below.drew ?_) | ((with_reducible refine Calm.step (by assumption) ?_ ?_); rotate_left 1; focus (first | (simp; done) | (simp; omega) | (simp at *; omega))))))).mono ?_; rintro r w1 ⟨rfl, hb⟩; obtain ⟨hc, hf⟩ := bcell hb; have hz := hb.size; (try simp at hz); (try have hz0 : w.heap.size < w1.heap.size := by omega); (try have hz1 : w.heap.size + 1 < w1.heap.size := by omega); (try have hz2 : w.heap.size + 1 + 1 < w1.heap.size := by omega); (try have hz3 : w.heap.size + 1 + 1 + 1 < w1.heap.size := by omega); (try have hz4 : w.heap.size + 1 + 1 + 1 + 1 < w1.heap.size := by omega); (try have hz5 : w.heap.size + 1 + 1 + 1 + 1 + 1 < w1.heap.size := by omega); (try have hz6 : w.heap.size + 1 + 1 + 1 + 1 + 1 + 1 < w1.heap.size := by omega)) | (go_at_call 49; refine (stiffer_any _ _ _ _ _ _ _ _ ⟨by omega, by omega⟩ ⟨by omega, by omega⟩).mono ?_; rintro r w1 ⟨rfl, hb⟩; obtain ⟨hc, hf⟩ := bcell hb; have hz := hb.size; (try simp at hz); (try have hz0 : w.heap.size < w1.heap.size := by omega); (try have hz1 : w.heap.size + 1 < w1.heap.size := by omega); (try have hz2 : w.heap.size + 1 + 1 < w1.heap.size := by omega); (try have hz3 : w.heap.size + 1 + 1 + 1 < w1.heap.size := by omega); (try have hz4 : w.heap.size + 1 + 1 + 1 + 1 < w1.heap.size := by omega); (try have hz5 : w.heap.size + 1 + 1 + 1 + 1 + 1 < w1.heap.size := by omega); (try have hz6 : w.heap.size + 1 + 1 + 1 + 1 + 1 + 1 < w1.heap.size := by omega)) | (go_at_call 45; refine (excursion_any _ _ _ _ _ _ _ _ hF).mono ?_; rintro r w1 ⟨rfl, hb⟩; obtain ⟨hc, hf⟩ := bcell hb; have hz := hb.size; (try simp at hz); (try have hz0 : w.heap.size < w1.heap.size := by omega); (try have hz1 : w.heap.size + 1 < w1.heap.size := by omega); (try have hz2 : w.heap.size + 1 + 1 < w1.heap.size := by omega); (try have hz3 : w.heap.size + 1 + 1 + 1 < w1.heap.size := by omega); (try have hz4 : w.heap.size + 1 + 1 + 1 + 1 < w1.heap.size := by omega); (try have hz5 : w.heap.size + 1 + 1 + 1 + 1 + 1 < w1.heap.size := by omega); (try have hz6 : w.heap.size + 1 + 1 + 1 + 1 + 1 + 1 < w1.heap.size := by omega)) | (go_at_call 51; refine (number_any _ _ _).mono ?_; rintro r w1 ⟨rfl, hb⟩; obtain ⟨hc, hf⟩ := bcell hb; have hz := hb.size; (try simp at hz); (try have hz0 : w.heap.size < w1.heap.size := by omega); (try have hz1 : w.heap.size + 1 < w1.heap.size := by omega); (try have hz2 : w.heap.size + 1 + 1 < w1.heap.size := by omega); (try have hz3 : w.heap.size + 1 + 1 + 1 < w1.heap.size := by omega); (try have hz4 : w.heap.size + 1 + 1 + 1 + 1 < w1.heap.size := by omega); (try have hz5 : w.heap.size + 1 + 1 + 1 + 1 + 1 < w1.heap.size := by omega); (try have hz6 : w.heap.size + 1 + 1 + 1 + 1 + 1 + 1 < w1.heap.size := by omega)))
  refine bodyPost_ret (v := .tuple #[.agg #[(.int .i64 (bl)), (.int .i64 (0)), (.int .i64 (nRe re le bl ma (st + air) lo w0)), (.int .i64 (nIm re le bl ma (st + air) lo w0)), (.int .i64 (0)), (.int .i64 (0)), (.int .i64 (1)), (.int .i64 (0))], (.int .i64 (0))]) (by simp [results, Tryz.results20, go_sem, *]) rfl ⟨rfl, ?_⟩
  repeat (first | (with_reducible exact Below.refl _ _) | ((with_reducible refine Below.setCell ?_ ?_ _); rotate_left 1; focus (first | (simp; done) | (simp; omega) | (simp at *; omega))) | ((with_reducible refine Below.alloc ?_ ?_ _); rotate_left 1; focus (first | (simp; done) | (simp; omega) | (simp at *; omega))) | (with_reducible refine Below.drew ?_) | ((with_reducible refine Calm.step (by assumption) ?_ ?_); rotate_left 1; focus (first | (simp; done) | (simp; omega) | (simp at *; omega))))
set_option maxHeartbeats 2000000 in
theorem Moved_port (re le bl ma st lo air bm bs bo w0 : Int) (w : World) (hL : Lim w) (h : drvbErr re le bl ma st lo air bm bs bo w0 = 0) (hm : bm ≠ 0) :
    Calls Tryz.prog 20 #[.agg #[(.int .i64 (re)), (.int .i64 (le)), (.int .i64 (bl)), (.int .i64 (ma)), (.int .i64 (st)), (.int .i64 (lo))], .agg #[(.int .i64 (air)), (.int .i64 (bm)), (.int .i64 (bs)), (.int .i64 (bo))], (.int .i64 (w0))] w fun r w' => r = .returned (.tuple #[.agg #[(.int .i64 (bl * aRe air bm bs w0)), (.int .i64 (bl * aIm bo w0)), (.int .i64 (wRe re le bl ma st lo air bm bs bo w0)), (.int .i64 (wIm re le bl ma st lo air bm bs bo w0)), (.int .i64 (bl * air)), (.int .i64 (0)), (.int .i64 (wRe re le bl ma st lo air bm bs bo w0)), (.int .i64 (wIm re le bl ma st lo air bm bs bo w0))], (.int .i64 (0))]) ∧ Below w.heap.size w w' := by
  obtain ⟨hF, _, b1, b2⟩ := drvb_fit h
  have hB := drvb_fitB h hm
  have hm2 : (bm == 0) = false := by simp [hm]
  obtain ⟨⟨p1, p2⟩, ⟨p3, p4⟩, ⟨p5, p6⟩, ⟨p7, p8⟩, _⟩ := box_bds hF hB
  have q : Bd 8 (-w0) := ⟨by have := hF.w; omega, by have := hF.w; omega⟩
  have q' : Bd 8 w0 := ⟨by have := hF.w; omega, by have := hF.w; omega⟩
  have q2 : Bd 20 bl := ⟨by have := hF.bl; omega, by have := hF.bl; omega⟩
  have q3 : Bd 5000 air := ⟨by omega, by omega⟩
  obtain ⟨e1, e2⟩ := q.mul q' (by omega)
  obtain ⟨e3, e4⟩ := (q.mul q' (by omega)).mul q2 (by omega)
  obtain ⟨e5, e6⟩ := q2.mul q3 (by omega)
  obtain ⟨q1, q4⟩ := q
  obtain ⟨q5, q6⟩ := q'
  obtain ⟨q7, q8⟩ := q2
  clear q3
  go_enter Tryz.func20, Tryz.ntmps20
  go_wp2_with (first | (go_at_call 48; refine (checkBoxed_any _ _ _ _ _ _ _ _ _ _ _ _ (hL.below (by repeat (first | (with_reducible exact Below.refl _ _) | ((with_reducible refine Below.setCell ?_ ?_ _); rotate_left 1; focus (first | (simp; done) | (simp; omega) | (simp at *; omega))) | ((with_reducible refine Below.alloc ?_ ?_ _); rotate_left 1; focus (first | (simp; done) | (simp; omega) | (simp at *; omega))) | (with_reducible refine Below.drew ?_) | ((with_reducible refine Calm.step (by assumption) ?_ ?_); rotate_left 1; focus (first | (simp; done) | (simp; omega) | (simp at *; omega))))))).mono ?_; rintro r w1 ⟨rfl, hb⟩; obtain ⟨hc, hf⟩ := bcell hb; have hz := hb.size; (try simp at hz); (try have hz0 : w.heap.size < w1.heap.size := by omega); (try have hz1 : w.heap.size + 1 < w1.heap.size := by omega); (try have hz2 : w.heap.size + 1 + 1 < w1.heap.size := by omega); (try have hz3 : w.heap.size + 1 + 1 + 1 < w1.heap.size := by omega); (try have hz4 : w.heap.size + 1 + 1 + 1 + 1 < w1.heap.size := by omega); (try have hz5 : w.heap.size + 1 + 1 + 1 + 1 + 1 < w1.heap.size := by omega); (try have hz6 : w.heap.size + 1 + 1 + 1 + 1 + 1 + 1 < w1.heap.size := by omega)) | (go_at_call 50; refine (cabinet_any _ _ _ _ _ _ _ _ _ _ _ _ hF hB).mono ?_; rintro r w1 ⟨rfl, hb⟩; obtain ⟨hc, hf⟩ := bcell hb; have hz := hb.size; (try simp at hz); (try have hz0 : w.heap.size < w1.heap.size := by omega); (try have hz1 : w.heap.size + 1 < w1.heap.size := by omega); (try have hz2 : w.heap.size + 1 + 1 < w1.heap.size := by omega); (try have hz3 : w.heap.size + 1 + 1 + 1 < w1.heap.size := by omega); (try have hz4 : w.heap.size + 1 + 1 + 1 + 1 < w1.heap.size := by omega); (try have hz5 : w.heap.size + 1 + 1 + 1 + 1 + 1 < w1.heap.size := by omega); (try have hz6 : w.heap.size + 1 + 1 + 1 + 1 + 1 + 1 < w1.heap.size := by omega)))
  refine Calm.tail_below 18 (by kernel_rfl) (by kernel_rfl) ?_
  simp only [List.take_succ_cons, List.take_zero, List.drop_succ_cons, List.drop_zero]
  repeat (first | (first | (apply Calm.op_move; (focus rfl); (focus (first | exact .inl rfl | exact .inr rfl)); (focus ((try simp only [Act.eval, Array.getD_eq_getD_getElem?, List.getElem?_toArray, List.getElem?_cons_succ, List.getElem?_cons_zero, Option.getD_some]); rfl)); (try simp only [Act.put, List.setIfInBounds_toArray, List.set_cons_zero, List.set_cons_succ])) | (apply Calm.op_not; (focus rfl); (try simp only [Act.put, List.setIfInBounds_toArray, List.set_cons_zero, List.set_cons_succ])) | (apply Calm.op; (focus rfl); (focus (intro W hb; obtain ⟨hc, hf⟩ := bcell hb; clear hb hf; go_simp; (try go_bits); (try rfl); done)); (try simp only [Act.put, List.setIfInBounds_toArray, List.set_cons_zero, List.set_cons_succ]))) | (apply Calm.op_call; (focus rfl); (focus (intro W hb; obtain ⟨hc, hf⟩ := bcell hb; clear hb hf; go_simp; refine ⟨?_, ?_⟩; rfl; rfl)); (focus (intro W hb; first | (go_at_call 52; exact Calm.call_below hb (scaled_any _ _ _ _ ⟨by omega, by omega⟩ ⟨by omega, by omega⟩ ⟨by omega, by omega⟩)) | (go_at_call 51; exact Calm.call_below hb (number_any _ _ _)))); (try simp only [Act.put, List.setIfInBounds_toArray, List.set_cons_zero, List.set_cons_succ])))
  refine wpQuiet_nil ?_
  intro w4 hb4
  obtain ⟨hb4c, hb4f⟩ := bcell hb4
  have hb4z := hb4.size
  (try simp at hb4z)
  (try have hb4z0 : w.heap.size < w4.heap.size := by omega)
  (try have hb4z1 : w.heap.size + 1 < w4.heap.size := by omega)
  (try have hb4z2 : w.heap.size + 1 + 1 < w4.heap.size := by omega)
  (try have hb4z3 : w.heap.size + 1 + 1 + 1 < w4.heap.size := by omega)
  (try have hb4z4 : w.heap.size + 1 + 1 + 1 + 1 < w4.heap.size := by omega)
  (try have hb4z5 : w.heap.size + 1 + 1 + 1 + 1 + 1 < w4.heap.size := by omega)
  go_wp2
  refine bodyPost_ret (v := .tuple #[.agg #[(.int .i64 (bl * aRe air bm bs w0)), (.int .i64 (bl * aIm bo w0)), (.int .i64 (wRe re le bl ma st lo air bm bs bo w0)), (.int .i64 (wIm re le bl ma st lo air bm bs bo w0)), (.int .i64 (bl * air)), (.int .i64 (0)), (.int .i64 (wRe re le bl ma st lo air bm bs bo w0)), (.int .i64 (wIm re le bl ma st lo air bm bs bo w0))], (.int .i64 (0))]) (by simp [results, Tryz.results20, go_sem, *]) rfl ⟨rfl, ?_⟩
  repeat (first | (with_reducible exact Below.refl _ _) | ((with_reducible refine Below.setCell ?_ ?_ _); rotate_left 1; focus (first | (simp; done) | (simp; omega) | (simp at *; omega))) | ((with_reducible refine Below.alloc ?_ ?_ _); rotate_left 1; focus (first | (simp; done) | (simp; omega) | (simp at *; omega))) | (with_reducible refine Below.drew ?_) | ((with_reducible refine Calm.step (by assumption) ?_ ?_); rotate_left 1; focus (first | (simp; done) | (simp; omega) | (simp at *; omega))))
end Go.Proofs.YtadcmjnebjgijaaGreatDoor

/- Contracts of package driver's checks of readings and classes. -/
namespace Go.Proofs.YtadcmjnebjgijaaGreatDoor
open Go.RowKit
open Calm (bcell Blk)

/-- the first error of a reading. -/
def readErr (a b c : Int) : Int := firstOf [rangeErr a 1 8, rangeErr b 0 1000000, rangeErr c 0 1000000, if c < b then 11 else 0]
set_option maxHeartbeats 2000000 in
theorem readCheck_any (a b c : Int) (w : World) :
    Calls Tryz.prog 81 #[.agg #[(.int .i64 (a)), (.int .i64 (b)), (.int .i64 (c))]] w fun r w' => r = .returned (.int .i64 (readErr a b c)) ∧ Below w.heap.size w w' := by
  by_cases h : c < b
  · have hE : readErr a b c = firstOf [rangeErr a 1 8, rangeErr b 0 1000000, rangeErr c 0 1000000, 11] := by unfold readErr; rw [if_pos h]
    rw [hE]
    clear hE
    go_enter Tryz.func81, Tryz.ntmps81
    go_wp2
    refine Calm.tail_below 15 (by kernel_rfl) (by kernel_rfl) ?_
    simp only [List.take_succ_cons, List.take_zero, List.drop_succ_cons, List.drop_zero]
    repeat (first | (first | (apply Calm.op_move; (focus rfl); (focus (first | exact .inl rfl | exact .inr rfl)); (focus ((try simp only [Act.eval, Array.getD_eq_getD_getElem?, List.getElem?_toArray, List.getElem?_cons_succ, List.getElem?_cons_zero, Option.getD_some]); rfl)); (try simp only [Act.put, List.setIfInBounds_toArray, List.set_cons_zero, List.set_cons_succ])) | (apply Calm.op_not; (focus rfl); (try simp only [Act.put, List.setIfInBounds_toArray, List.set_cons_zero, List.set_cons_succ])) | (apply Calm.op; (focus rfl); (focus (intro W hb; obtain ⟨hc, hf⟩ := bcell hb; clear hb hf; go_simp; (try go_bits); (try rfl); done)); (try simp only [Act.put, List.setIfInBounds_toArray, List.set_cons_zero, List.set_cons_succ]))) | (apply Calm.op_call; (focus rfl); (focus (intro W hb; obtain ⟨hc, hf⟩ := bcell hb; clear hb hf; go_simp; refine ⟨?_, ?_⟩; rfl; rfl)); (focus (intro W hb; first | (go_at_call 60; exact Calm.call_same hb (checkW_any _ _)) | (go_at_call 56; exact Calm.call_same hb (within_any _ _ _ _)) | (go_at_call 55; exact Calm.call_same hb (when_any _ _ _)))); (try simp only [Act.put, List.setIfInBounds_toArray, List.set_cons_zero, List.set_cons_succ])))
    refine wpQuiet_nil ?_
    intro w1 hb
    obtain ⟨hbc, hbf⟩ := bcell hb
    have hbz := hb.size
    (try simp at hbz)
    (try have hbz0 : w.heap.size < w1.heap.size := by omega)
    (try have hbz1 : w.heap.size + 1 < w1.heap.size := by omega)
    (try have hbz2 : w.heap.size + 1 + 1 < w1.heap.size := by omega)
    (try have hbz3 : w.heap.size + 1 + 1 + 1 < w1.heap.size := by omega)
    (try have hbz4 : w.heap.size + 1 + 1 + 1 + 1 < w1.heap.size := by omega)
    (try have hbz5 : w.heap.size + 1 + 1 + 1 + 1 + 1 < w1.heap.size := by omega)
    go_wp2_with (first | (go_at_call 53; refine (first4_any _ _ _ _ _).mono ?_; rintro r w1 ⟨rfl, rfl⟩))
    go_ret
    refine ⟨by first | rfl | (simp; done), ?_⟩
    repeat (first | (with_reducible exact Below.refl _ _) | ((with_reducible refine Below.setCell ?_ ?_ _); rotate_left 1; focus (first | (simp; done) | (simp; omega) | (simp at *; omega))) | ((with_reducible refine Below.alloc ?_ ?_ _); rotate_left 1; focus (first | (simp; done) | (simp; omega) | (simp at *; omega))) | (with_reducible refine Below.drew ?_) | ((with_reducible refine Calm.step (by assumption) ?_ ?_); rotate_left 1; focus (first | (simp; done) | (simp; omega) | (simp at *; omega))))
  · have hE : readErr a b c = firstOf [rangeErr a 1 8, rangeErr b 0 1000000, rangeErr c 0 1000000, 0] := by unfold readErr; rw [if_neg h]
    rw [hE]
    clear hE
    go_enter Tryz.func81, Tryz.ntmps81
    go_wp2
    refine Calm.tail_below 15 (by kernel_rfl) (by kernel_rfl) ?_
    simp only [List.take_succ_cons, List.take_zero, List.drop_succ_cons, List.drop_zero]
    repeat (first | (first | (apply Calm.op_move; (focus rfl); (focus (first | exact .inl rfl | exact .inr rfl)); (focus ((try simp only [Act.eval, Array.getD_eq_getD_getElem?, List.getElem?_toArray, List.getElem?_cons_succ, List.getElem?_cons_zero, Option.getD_some]); rfl)); (try simp only [Act.put, List.setIfInBounds_toArray, List.set_cons_zero, List.set_cons_succ])) | (apply Calm.op_not; (focus rfl); (try simp only [Act.put, List.setIfInBounds_toArray, List.set_cons_zero, List.set_cons_succ])) | (apply Calm.op; (focus rfl); (focus (intro W hb; obtain ⟨hc, hf⟩ := bcell hb; clear hb hf; go_simp; (try go_bits); (try rfl); done)); (try simp only [Act.put, List.setIfInBounds_toArray, List.set_cons_zero, List.set_cons_succ]))) | (apply Calm.op_call; (focus rfl); (focus (intro W hb; obtain ⟨hc, hf⟩ := bcell hb; clear hb hf; go_simp; refine ⟨?_, ?_⟩; rfl; rfl)); (focus (intro W hb; first | (go_at_call 60; exact Calm.call_same hb (checkW_any _ _)) | (go_at_call 56; exact Calm.call_same hb (within_any _ _ _ _)) | (go_at_call 55; exact Calm.call_same hb (when_any _ _ _)))); (try simp only [Act.put, List.setIfInBounds_toArray, List.set_cons_zero, List.set_cons_succ])))
    refine wpQuiet_nil ?_
    intro w1 hb
    obtain ⟨hbc, hbf⟩ := bcell hb
    have hbz := hb.size
    (try simp at hbz)
    (try have hbz0 : w.heap.size < w1.heap.size := by omega)
    (try have hbz1 : w.heap.size + 1 < w1.heap.size := by omega)
    (try have hbz2 : w.heap.size + 1 + 1 < w1.heap.size := by omega)
    (try have hbz3 : w.heap.size + 1 + 1 + 1 < w1.heap.size := by omega)
    (try have hbz4 : w.heap.size + 1 + 1 + 1 + 1 < w1.heap.size := by omega)
    (try have hbz5 : w.heap.size + 1 + 1 + 1 + 1 + 1 < w1.heap.size := by omega)
    go_wp2_with (first | (go_at_call 53; refine (first4_any _ _ _ _ _).mono ?_; rintro r w1 ⟨rfl, rfl⟩))
    go_ret
    refine ⟨by first | rfl | (simp; done), ?_⟩
    repeat (first | (with_reducible exact Below.refl _ _) | ((with_reducible refine Below.setCell ?_ ?_ _); rotate_left 1; focus (first | (simp; done) | (simp; omega) | (simp at *; omega))) | ((with_reducible refine Below.alloc ?_ ?_ _); rotate_left 1; focus (first | (simp; done) | (simp; omega) | (simp at *; omega))) | (with_reducible refine Below.drew ?_) | ((with_reducible refine Calm.step (by assumption) ?_ ?_); rotate_left 1; focus (first | (simp; done) | (simp; omega) | (simp at *; omega))))

/-- the first error of a class, without the number of its drivers. -/
def classPre (re le bl ma st lo m k r : Int) : Int := firstOf [drvErr re le bl ma st lo, rangeErr m ma 100, rangeErr k st 5000, rangeErr r lo 100]
/-- the number of the drivers of a class. -/
def classN (ma st lo m k r : Int) : Int := (m - ma + 1) * (k - st + 1) * (r - lo + 1)
def classErr (re le bl ma st lo m k r : Int) : Int := if classPre re le bl ma st lo m k r = 0 then (if 4096 < classN ma st lo m k r then 4 else 0) else classPre re le bl ma st lo m k r
set_option maxHeartbeats 2000000 in
theorem checkClass_bad (re le bl ma st lo m k r : Int) (w : World) (hL : Lim w) (h : classPre re le bl ma st lo m k r ≠ 0) :
    Calls Tryz.prog 62 #[.agg #[(.int .i64 (re)), (.int .i64 (le)), (.int .i64 (bl)), (.int .i64 (ma)), (.int .i64 (st)), (.int .i64 (lo)), (.int .i64 (m)), (.int .i64 (k)), (.int .i64 (r))]] w fun x w' => x = .returned (.int .i64 (classPre re le bl ma st lo m k r)) ∧ Below w.heap.size w w' := by
  have h2 : firstOf [drvErr re le bl ma st lo, rangeErr m ma 100, rangeErr k st 5000, rangeErr r lo 100] ≠ 0 := h
  clear h
  go_enter Tryz.func62, Tryz.ntmps62
  go_wp2
  refine Calm.tail_below 17 (by kernel_rfl) (by kernel_rfl) ?_
  simp only [List.take_succ_cons, List.take_zero, List.drop_succ_cons, List.drop_zero]
  repeat (first | (first | (apply Calm.op_move; (focus rfl); (focus (first | exact .inl rfl | exact .inr rfl)); (focus ((try simp only [Act.eval, Array.getD_eq_getD_getElem?, List.getElem?_toArray, List.getElem?_cons_succ, List.getElem?_cons_zero, Option.getD_some]); rfl)); (try simp only [Act.put, List.setIfInBounds_toArray, List.set_cons_zero, List.set_cons_succ])) | (apply Calm.op_not; (focus rfl); (try simp only [Act.put, List.setIfInBounds_toArray, List.set_cons_zero, List.set_cons_succ])) | (apply Calm.op; (focus rfl); (focus (intro W hb; obtain ⟨hc, hf⟩ := bcell hb; clear hb hf; go_simp; (try go_bits); (try rfl); done)); (try simp only [Act.put, List.setIfInBounds_toArray, List.set_cons_zero, List.set_cons_succ]))) | (apply Calm.op_call; (focus rfl); (focus (intro W hb; obtain ⟨hc, hf⟩ := bcell hb; clear hb hf; go_simp; refine ⟨?_, ?_⟩; rfl; rfl)); (focus (intro W hb; first | (go_at_call 31; exact Calm.call_below hb (checkDriver_any _ _ _ _ _ _ _ (hL.below (by repeat (first | (with_reducible exact Below.refl _ _) | ((with_reducible refine Below.setCell ?_ ?_ _); rotate_left 1; focus (first | (simp; done) | (simp; omega) | (simp at *; omega))) | ((with_reducible refine Below.alloc ?_ ?_ _); rotate_left 1; focus (first | (simp; done) | (simp; omega) | (simp at *; omega))) | (with_reducible refine Below.drew ?_) | ((with_reducible refine Calm.step (by assumption) ?_ ?_); rotate_left 1; focus (first | (simp; done) | (simp; omega) | (simp at *; omega)))))))) | (go_at_call 56; exact Calm.call_same hb (within_any _ _ _ _)))); (try simp only [Act.put, List.setIfInBounds_toArray, List.set_cons_zero, List.set_cons_succ])))
  refine wpQuiet_nil ?_
  intro w1 hb
  obtain ⟨hbc, hbf⟩ := bcell hb
  have hbz := hb.size
  (try simp at hbz)
  (try have hbz0 : w.heap.size < w1.heap.size := by omega)
  (try have hbz1 : w.heap.size + 1 < w1.heap.size := by omega)
  (try have hbz2 : w.heap.size + 1 + 1 < w1.heap.size := by omega)
  (try have hbz3 : w.heap.size + 1 + 1 + 1 < w1.heap.size := by omega)
  (try have hbz4 : w.heap.size + 1 + 1 + 1 + 1 < w1.heap.size := by omega)
  (try have hbz5 : w.heap.size + 1 + 1 + 1 + 1 + 1 < w1.heap.size := by omega)
  go_wp2_with (first | (go_at_call 53; refine (first4_any _ _ _ _ _).mono ?_; rintro r w1 ⟨rfl, rfl⟩))
  go_ret
  refine ⟨by first | rfl | (simp; done), ?_⟩
  repeat (first | (with_reducible exact Below.refl _ _) | ((with_reducible refine Below.setCell ?_ ?_ _); rotate_left 1; focus (first | (simp; done) | (simp; omega) | (simp at *; omega))) | ((with_reducible refine Below.alloc ?_ ?_ _); rotate_left 1; focus (first | (simp; done) | (simp; omega) | (simp at *; omega))) | (with_reducible refine Below.drew ?_) | ((with_reducible refine Calm.step (by assumption) ?_ ?_); rotate_left 1; focus (first | (simp; done) | (simp; omega) | (simp at *; omega))))
theorem class_zero {re le bl ma st lo m k r : Int} (h : classPre re le bl ma st lo m k r = 0) : drvErr re le bl ma st lo = 0 ∧ (ma ≤ m ∧ m ≤ 100) ∧ (st ≤ k ∧ k ≤ 5000) ∧ (lo ≤ r ∧ r ≤ 100) := by
  unfold classPre at h
  have h := firstOf_eq_zero.1 h
  simp only [List.mem_cons, List.not_mem_nil, or_false, forall_eq_or_imp, forall_eq] at h
  exact ⟨h.1, rangeErr_zero.1 h.2.1, rangeErr_zero.1 h.2.2.1, rangeErr_zero.1 h.2.2.2⟩
set_option maxHeartbeats 2000000 in
theorem checkClass_ok (re le bl ma st lo m k r : Int) (w : World) (hL : Lim w) (h : classPre re le bl ma st lo m k r = 0) :
    Calls Tryz.prog 62 #[.agg #[(.int .i64 (re)), (.int .i64 (le)), (.int .i64 (bl)), (.int .i64 (ma)), (.int .i64 (st)), (.int .i64 (lo)), (.int .i64 (m)), (.int .i64 (k)), (.int .i64 (r))]] w fun x w' => x = .returned (.int .i64 (if 4096 < classN ma st lo m k r then 4 else 0)) ∧ Below w.heap.size w w' := by
  obtain ⟨hd, h1, h2, h3⟩ := class_zero h
  obtain ⟨_, _, _, d1, d2, d3⟩ := drvErr_zero hd
  have h4 : firstOf [drvErr re le bl ma st lo, rangeErr m ma 100, rangeErr k st 5000, rangeErr r lo 100] = 0 := h
  clear h hd
  have q1 : Bd 100 (m - ma + 1) := ⟨by omega, by omega⟩
  have q2 : Bd 5000 (k - st + 1) := ⟨by omega, by omega⟩
  have q3 : Bd 100 (r - lo + 1) := ⟨by omega, by omega⟩
  obtain ⟨e1, e2⟩ := q1.mul q2 (by omega)
  have q4 : Bd 500000 ((m - ma + 1) * (k - st + 1)) := ⟨by omega, by omega⟩
  obtain ⟨e3, e4⟩ := q4.mul q3 (by omega)
  clear q1 q2 q3 q4
  obtain ⟨⟨a1, a2⟩, ⟨a3, a4⟩, ⟨a5, a6⟩⟩ := And.intro h1 (And.intro h2 h3)
  obtain ⟨⟨a7, a8⟩, ⟨a9, b1⟩, ⟨b2, b3⟩⟩ := And.intro d1 (And.intro d2 d3)
  clear h1 h2 h3 d1 d2 d3
  by_cases hn : 4096 < classN ma st lo m k r
  · rw [if_pos hn]
    unfold classN at hn
    go_enter Tryz.func62, Tryz.ntmps62
    go_wp2
    refine Calm.tail_below 17 (by kernel_rfl) (by kernel_rfl) ?_
    simp only [List.take_succ_cons, List.take_zero, List.drop_succ_cons, List.drop_zero]
    repeat (first | (first | (apply Calm.op_move; (focus rfl); (focus (first | exact .inl rfl | exact .inr rfl)); (focus ((try simp only [Act.eval, Array.getD_eq_getD_getElem?, List.getElem?_toArray, List.getElem?_cons_succ, List.getElem?_cons_zero, Option.getD_some]); rfl)); (try simp only [Act.put, List.setIfInBounds_toArray, List.set_cons_zero, List.set_cons_succ])) | (apply Calm.op_not; (focus rfl); (try simp only [Act.put, List.setIfInBounds_toArray, List.set_cons_zero, List.set_cons_succ])) | (apply Calm.op; (focus rfl); (focus (intro W hb; obtain ⟨hc, hf⟩ := bcell hb; clear hb hf; go_simp; (try go_bits); (try rfl); done)); (try simp only [Act.put, List.setIfInBounds_toArray, List.set_cons_zero, List.set_cons_succ]))) | (apply Calm.op_call; (focus rfl); (focus (intro W hb; obtain ⟨hc, hf⟩ := bcell hb; clear hb hf; go_simp; refine ⟨?_, ?_⟩; rfl; rfl)); (focus (intro W hb; first | (go_at_call 31; exact Calm.call_below hb (checkDriver_any _ _ _ _ _ _ _ (hL.below (by repeat (first | (with_reducible exact Below.refl _ _) | ((with_reducible refine Below.setCell ?_ ?_ _); rotate_left 1; focus (first | (simp; done) | (simp; omega) | (simp at *; omega))) | ((with_reducible refine Below.alloc ?_ ?_ _); rotate_left 1; focus (first | (simp; done) | (simp; omega) | (simp at *; omega))) | (with_reducible refine Below.drew ?_) | ((with_reducible refine Calm.step (by assumption) ?_ ?_); rotate_left 1; focus (first | (simp; done) | (simp; omega) | (simp at *; omega)))))))) | (go_at_call 56; exact Calm.call_same hb (within_any _ _ _ _)))); (try simp only [Act.put, List.setIfInBounds_toArray, List.set_cons_zero, List.set_cons_succ])))
    refine wpQuiet_nil ?_
    intro w1 hb
    obtain ⟨hbc, hbf⟩ := bcell hb
    have hbz := hb.size
    (try simp at hbz)
    (try have hbz0 : w.heap.size < w1.heap.size := by omega)
    (try have hbz1 : w.heap.size + 1 < w1.heap.size := by omega)
    (try have hbz2 : w.heap.size + 1 + 1 < w1.heap.size := by omega)
    (try have hbz3 : w.heap.size + 1 + 1 + 1 < w1.heap.size := by omega)
    (try have hbz4 : w.heap.size + 1 + 1 + 1 + 1 < w1.heap.size := by omega)
    (try have hbz5 : w.heap.size + 1 + 1 + 1 + 1 + 1 < w1.heap.size := by omega)
    go_wp2_with (first | (go_at_call 53; refine (first4_any _ _ _ _ _).mono ?_; rintro r w1 ⟨rfl, rfl⟩) | (go_at_call 55; refine (when_any _ _ _).mono ?_; rintro r w1 ⟨rfl, rfl⟩))
    go_ret
    refine ⟨by first | rfl | (simp [hn]; done), ?_⟩
    repeat (first | (with_reducible exact Below.refl _ _) | ((with_reducible refine Below.setCell ?_ ?_ _); rotate_left 1; focus (first | (simp; done) | (simp; omega) | (simp at *; omega))) | ((with_reducible refine Below.alloc ?_ ?_ _); rotate_left 1; focus (first | (simp; done) | (simp; omega) | (simp at *; omega))) | (with_reducible refine Below.drew ?_) | ((with_reducible refine Calm.step (by assumption) ?_ ?_); rotate_left 1; focus (first | (simp; done) | (simp; omega) | (simp at *; omega))))
  · rw [if_neg hn]
    unfold classN at hn
    go_enter Tryz.func62, Tryz.ntmps62
    go_wp2
    refine Calm.tail_below 17 (by kernel_rfl) (by kernel_rfl) ?_
    simp only [List.take_succ_cons, List.take_zero, List.drop_succ_cons, List.drop_zero]
    repeat (first | (first | (apply Calm.op_move; (focus rfl); (focus (first | exact .inl rfl | exact .inr rfl)); (focus ((try simp only [Act.eval, Array.getD_eq_getD_getElem?, List.getElem?_toArray, List.getElem?_cons_succ, List.getElem?_cons_zero, Option.getD_some]); rfl)); (try simp only [Act.put, List.setIfInBounds_toArray, List.set_cons_zero, List.set_cons_succ])) | (apply Calm.op_not; (focus rfl); (try simp only [Act.put, List.setIfInBounds_toArray, List.set_cons_zero, List.set_cons_succ])) | (apply Calm.op; (focus rfl); (focus (intro W hb; obtain ⟨hc, hf⟩ := bcell hb; clear hb hf; go_simp; (try go_bits); (try rfl); done)); (try simp only [Act.put, List.setIfInBounds_toArray, List.set_cons_zero, List.set_cons_succ]))) | (apply Calm.op_call; (focus rfl); (focus (intro W hb; obtain ⟨hc, hf⟩ := bcell hb; clear hb hf; go_simp; refine ⟨?_, ?_⟩; rfl; rfl)); (focus (intro W hb; first | (go_at_call 31; exact Calm.call_below hb (checkDriver_any _ _ _ _ _ _ _ (hL.below (by repeat (first | (with_reducible exact Below.refl _ _) | ((with_reducible refine Below.setCell ?_ ?_ _); rotate_left 1; focus (first | (simp; done) | (simp; omega) | (simp at *; omega))) | ((with_reducible refine Below.alloc ?_ ?_ _); rotate_left 1; focus (first | (simp; done) | (simp; omega) | (simp at *; omega))) | (with_reducible refine Below.drew ?_) | ((with_reducible refine Calm.step (by assumption) ?_ ?_); rotate_left 1; focus (first | (simp; done) | (simp; omega) | (simp at *; omega)))))))) | (go_at_call 56; exact Calm.call_same hb (within_any _ _ _ _)))); (try simp only [Act.put, List.setIfInBounds_toArray, List.set_cons_zero, List.set_cons_succ])))
    refine wpQuiet_nil ?_
    intro w1 hb
    obtain ⟨hbc, hbf⟩ := bcell hb
    have hbz := hb.size
    (try simp at hbz)
    (try have hbz0 : w.heap.size < w1.heap.size := by omega)
    (try have hbz1 : w.heap.size + 1 < w1.heap.size := by omega)
    (try have hbz2 : w.heap.size + 1 + 1 < w1.heap.size := by omega)
    (try have hbz3 : w.heap.size + 1 + 1 + 1 < w1.heap.size := by omega)
    (try have hbz4 : w.heap.size + 1 + 1 + 1 + 1 < w1.heap.size := by omega)
    (try have hbz5 : w.heap.size + 1 + 1 + 1 + 1 + 1 < w1.heap.size := by omega)
    go_wp2_with (first | (go_at_call 53; refine (first4_any _ _ _ _ _).mono ?_; rintro r w1 ⟨rfl, rfl⟩) | (go_at_call 55; refine (when_any _ _ _).mono ?_; rintro r w1 ⟨rfl, rfl⟩))
    go_ret
    refine ⟨by first | rfl | (simp [hn]; done), ?_⟩
    repeat (first | (with_reducible exact Below.refl _ _) | ((with_reducible refine Below.setCell ?_ ?_ _); rotate_left 1; focus (first | (simp; done) | (simp; omega) | (simp at *; omega))) | ((with_reducible refine Below.alloc ?_ ?_ _); rotate_left 1; focus (first | (simp; done) | (simp; omega) | (simp at *; omega))) | (with_reducible refine Below.drew ?_) | ((with_reducible refine Calm.step (by assumption) ?_ ?_); rotate_left 1; focus (first | (simp; done) | (simp; omega) | (simp at *; omega))))
end Go.Proofs.YtadcmjnebjgijaaGreatDoor
