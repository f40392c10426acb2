/- Part 18 of the texts of the claim: C3, C4, C5, C6, C13, Num0. -/
import Derived.Test.YtpkldjlljoledaaDoorMe17
import Derived.Test.YtpkldjlljoledaaDoorMe8
import Derived.Test.YtpkldjlljoledaaDoorMe3

/- Contracts of the reference's sides, without a port. %still -/
namespace Go.Proofs.YtpkldjlljoledaaDoor
open Go.RowKit
open Calm (bcell Blk)

set_option maxRecDepth 100000 in
set_option maxHeartbeats 4000000 in
theorem sides_shut (re le bl ma st lo air bst blo w0 : Int) (w : World) (hF : Fit re le bl ma (st + air) lo w0) (h1 : 0 ≤ st ∧ st ≤ 10000) (h2 : 0 ≤ air ∧ air ≤ 10000) :
    Calls Tryd.prog 89 #[.agg #[(.int .i64 (re)), (.int .i64 (le)), (.int .i64 (bl)), (.int .i64 (ma)), (.int .i64 (st)), (.int .i64 (lo))], .agg #[(.int .i64 (air)), (.int .i64 (0)), (.int .i64 (bst)), (.int .i64 (blo))], (.int .i64 (w0))] w
      fun r w' => r = .returned (.agg #[(.int .i64 (nRe re le bl ma (st + air) lo w0)), (.int .i64 (nIm re le bl ma (st + air) lo w0)), (.int .i64 (mRe (st + air) ma w0)), (.int .i64 (mIm lo w0)), (.int .i64 (1)), (.int .i64 (0)), (.int .i64 (0)), (.int .i64 (0)), (.int .i64 (1)), (.int .i64 (0))]) ∧ Below w.heap.size w w' := by
  obtain ⟨⟨m1, m2⟩, ⟨m3, m4⟩⟩ := hF.mech
  obtain ⟨⟨g1, g2⟩, ⟨g3, g4⟩, ⟨g5, g6⟩, ⟨g7, g8⟩, ⟨g9, g10⟩, ⟨g11, g12⟩, ⟨g13, g14⟩⟩ := hF
  have q : Bd 8 w0 := ⟨by omega, by omega⟩
  have q2 : Bd 10 le := ⟨by omega, by omega⟩
  have q3 : Bd 20 bl := ⟨by omega, by omega⟩
  obtain ⟨u1, u2⟩ := q.mul q2 (by omega)
  have v := q.mul q3 (by omega)
  obtain ⟨u3, u4⟩ := v
  obtain ⟨u5, u6⟩ := (q.mul q3 (by omega)).mul q3 (by omega)
  have p0 : Bd 80 re := ⟨by omega, by omega⟩
  have p1' : Bd 80 (w0 * le) := ⟨by omega, by omega⟩
  have p2' : Bd 3200 (w0 * bl * bl) := ⟨by omega, by omega⟩
  have z0 : Bd 3200 0 := ⟨by omega, by omega⟩
  have n1 : Bd 20000 1 := ⟨by omega, by omega⟩
  have n0 : Bd 20000 0 := ⟨by omega, by omega⟩
  have ma' : Bd 20000 (mRe (st + air) ma w0) := ⟨m1, m2⟩
  have mb' : Bd 20000 (mIm lo w0) := ⟨m3, m4⟩
  obtain ⟨t1, t2⟩ := tRe_bd p0 p1' ma' mb' (by omega)
  obtain ⟨t3, t4⟩ := tIm_bd p0 p1' ma' mb' (by omega)
  obtain ⟨t5, t6⟩ := tRe_bd z0 p2' n1 n0 (by omega)
  obtain ⟨t7, t8⟩ := tIm_bd z0 p2' n1 n0 (by omega)
  clear q q2 q3 p0 p1' p2' z0 n1 n0 ma' mb'
  go_enter Tryd.func89, Tryd.ntmps89
  go_wp2_with (first | (go_at_call 78; refine (refMech_any _ _ _ _ _ ⟨by omega, by omega⟩ ⟨by omega, by omega⟩ ⟨by omega, by omega⟩ ⟨by omega, by omega⟩).mono ?_; rintro r w1 ⟨rfl, hb⟩; obtain ⟨hc, hf⟩ := bcell hb; have hz := hb.size; (try simp at hz); (try have hz0 : w.heap.size < w1.heap.size := by omega); (try have hz1 : w.heap.size + 1 < w1.heap.size := by omega); (try have hz2 : w.heap.size + 1 + 1 < w1.heap.size := by omega); (try have hz3 : w.heap.size + 1 + 1 + 1 < w1.heap.size := by omega); (try have hz4 : w.heap.size + 1 + 1 + 1 + 1 < w1.heap.size := by omega); (try have hz5 : w.heap.size + 1 + 1 + 1 + 1 + 1 < w1.heap.size := by omega); (try have hz6 : w.heap.size + 1 + 1 + 1 + 1 + 1 + 1 < w1.heap.size := by omega)) | (go_at_call 90; refine (whole_any _ _).mono ?_; rintro r w1 ⟨rfl, hb⟩; obtain ⟨hc, hf⟩ := bcell hb; have hz := hb.size; (try simp at hz); (try have hz0 : w.heap.size < w1.heap.size := by omega); (try have hz1 : w.heap.size + 1 < w1.heap.size := by omega); (try have hz2 : w.heap.size + 1 + 1 < w1.heap.size := by omega); (try have hz3 : w.heap.size + 1 + 1 + 1 < w1.heap.size := by omega); (try have hz4 : w.heap.size + 1 + 1 + 1 + 1 < w1.heap.size := by omega); (try have hz5 : w.heap.size + 1 + 1 + 1 + 1 + 1 < w1.heap.size := by omega); (try have hz6 : w.heap.size + 1 + 1 + 1 + 1 + 1 + 1 < w1.heap.size := by omega)))
  refine Calm.still_tail 9 (by kernel_rfl) (by kernel_rfl) ?_
  simp only [List.take_succ_cons, List.take_zero, List.drop_succ_cons, List.drop_zero]
  repeat (first | (first | (apply Calm.still_op_move; (focus rfl); (focus (first | exact .inl rfl | exact .inr rfl)); (focus ((try simp only [Act.eval, Array.getD_eq_getD_getElem?, List.getElem?_toArray, List.getElem?_cons_succ, List.getElem?_cons_zero, Option.getD_some]); rfl)); (try simp only [Act.put, List.setIfInBounds_toArray, List.set_cons_zero, List.set_cons_succ])) | (apply Calm.still_op_not; (focus rfl); (try simp only [Act.put, List.setIfInBounds_toArray, List.set_cons_zero, List.set_cons_succ])) | (apply Calm.still_op; (focus rfl); (focus (intro W hb; obtain ⟨hc, hf⟩ := bcell hb; clear hb hf; go_simp; (try go_bits); (try rfl); done)); (try simp only [Act.put, List.setIfInBounds_toArray, List.set_cons_zero, List.set_cons_succ]))) | (apply Calm.still_op_call; (focus rfl); (focus (intro W hb; obtain ⟨hc, hf⟩ := bcell hb; clear hb hf; go_simp; refine ⟨?_, ?_⟩; rfl; rfl)); (focus (intro W hb; first | (go_at_call 52; exact Calm.call_below hb (qTimes_any _ _ _ _ _ ⟨by omega, by omega⟩ ⟨by omega, by omega⟩ ⟨by omega, by omega⟩ ⟨by omega, by omega⟩)) | (go_at_call 113; exact Calm.call_below hb (qPlus_any _ _ _ _ _ ⟨by omega, by omega⟩ ⟨by omega, by omega⟩ ⟨by omega, by omega⟩ ⟨by omega, by omega⟩)))); (try simp only [Act.put, List.setIfInBounds_toArray, List.set_cons_zero, List.set_cons_succ])))
  refine Calm.still_nil ?_
  intro w5 hb5
  obtain ⟨hb5c, hb5f⟩ := bcell hb5
  have hb5z := hb5.size
  (try simp at hb5z)
  (try have hb5z0 : w.heap.size < w5.heap.size := by omega)
  (try have hb5z1 : w.heap.size + 1 < w5.heap.size := by omega)
  (try have hb5z2 : w.heap.size + 1 + 1 < w5.heap.size := by omega)
  (try have hb5z3 : w.heap.size + 1 + 1 + 1 < w5.heap.size := by omega)
  (try have hb5z4 : w.heap.size + 1 + 1 + 1 + 1 < w5.heap.size := by omega)
  (try have hb5z5 : w.heap.size + 1 + 1 + 1 + 1 + 1 < w5.heap.size := by omega)
  go_wp2
  refine bodyPost_ret (v := .agg #[(.int .i64 (nRe re le bl ma (st + air) lo w0)), (.int .i64 (nIm re le bl ma (st + air) lo w0)), (.int .i64 (mRe (st + air) ma w0)), (.int .i64 (mIm lo w0)), (.int .i64 (1)), (.int .i64 (0)), (.int .i64 (0)), (.int .i64 (0)), (.int .i64 (1)), (.int .i64 (0))]) (by simp [results, Tryd.results89, go_sem, nRe, nIm, eRe, eIm, *]) rfl ⟨rfl, ?_⟩
  repeat (first | (with_reducible exact Below.refl _ _) | ((with_reducible refine Below.setCell ?_ ?_ _); rotate_left 1; focus (first | (simp; done) | (simp; omega) | (simp at *; omega))) | ((with_reducible refine Below.alloc ?_ ?_ _); rotate_left 1; focus (first | (simp; done) | (simp; omega) | (simp at *; omega))) | (with_reducible refine Below.drew ?_) | ((with_reducible refine Calm.step (by assumption) ?_ ?_); rotate_left 1; focus (first | (simp; done) | (simp; omega) | (simp at *; omega))))
end Go.Proofs.YtpkldjlljoledaaDoor

/- Contracts of the reference's quotients, without a port. %still -/
namespace Go.Proofs.YtpkldjlljoledaaDoor
open Go.RowKit
open Calm (bcell Blk)

set_option maxHeartbeats 2000000 in
theorem refBoxed_shut (re le bl ma st lo air bst blo w0 : Int) (w : World) (hF : Fit re le bl ma (st + air) lo w0) (h1 : 0 ≤ st ∧ st ≤ 10000) (h2 : 0 ≤ air ∧ air ≤ 10000) :
    Calls Tryd.prog 30 #[.agg #[(.int .i64 (re)), (.int .i64 (le)), (.int .i64 (bl)), (.int .i64 (ma)), (.int .i64 (st)), (.int .i64 (lo))], .agg #[(.int .i64 (air)), (.int .i64 (0)), (.int .i64 (bst)), (.int .i64 (blo))], (.int .i64 (w0))] w
      fun r w' => r = .returned (.agg #[(.int .i64 (nRe re le bl ma (st + air) lo w0)), (.int .i64 (nIm re le bl ma (st + air) lo w0)), (.int .i64 (mRe (st + air) ma w0)), (.int .i64 (mIm lo w0))]) ∧ Below w.heap.size w w' := by
  go_enter Tryd.func30, Tryd.ntmps30
  go_wp2_with (first | (go_at_call 89; refine (sides_shut _ _ _ _ _ _ _ _ _ _ _ hF h1 h2).mono ?_; rintro r w1 ⟨rfl, hb⟩; obtain ⟨hc, hf⟩ := bcell hb; have hz := hb.size; (try simp at hz); (try have hz0 : w.heap.size < w1.heap.size := by omega); (try have hz1 : w.heap.size + 1 < w1.heap.size := by omega); (try have hz2 : w.heap.size + 1 + 1 < w1.heap.size := by omega); (try have hz3 : w.heap.size + 1 + 1 + 1 < w1.heap.size := by omega); (try have hz4 : w.heap.size + 1 + 1 + 1 + 1 < w1.heap.size := by omega); (try have hz5 : w.heap.size + 1 + 1 + 1 + 1 + 1 < w1.heap.size := by omega); (try have hz6 : w.heap.size + 1 + 1 + 1 + 1 + 1 + 1 < w1.heap.size := by omega)))
  refine bodyPost_ret (v := .agg #[(.int .i64 (nRe re le bl ma (st + air) lo w0)), (.int .i64 (nIm re le bl ma (st + air) lo w0)), (.int .i64 (mRe (st + air) ma w0)), (.int .i64 (mIm lo w0))]) (by simp [results, Tryd.results30, go_sem, *]) rfl ⟨rfl, ?_⟩
  repeat (first | (with_reducible exact Below.refl _ _) | ((with_reducible refine Below.setCell ?_ ?_ _); rotate_left 1; focus (first | (simp; done) | (simp; omega) | (simp at *; omega))) | ((with_reducible refine Below.alloc ?_ ?_ _); rotate_left 1; focus (first | (simp; done) | (simp; omega) | (simp at *; omega))) | (with_reducible refine Below.drew ?_) | ((with_reducible refine Calm.step (by assumption) ?_ ?_); rotate_left 1; focus (first | (simp; done) | (simp; omega) | (simp at *; omega))))
theorem refImpedance_any (re le bl ma st lo w0 : Int) (w : World) (hF : Fit re le bl ma st lo w0) :
    Calls Tryd.prog 20 #[.agg #[(.int .i64 (re)), (.int .i64 (le)), (.int .i64 (bl)), (.int .i64 (ma)), (.int .i64 (st)), (.int .i64 (lo))], (.int .i64 (w0))] w
      fun r w' => r = .returned (.agg #[(.int .i64 (nRe re le bl ma st lo w0)), (.int .i64 (nIm re le bl ma st lo w0)), (.int .i64 (mRe st ma w0)), (.int .i64 (mIm lo w0))]) ∧ Below w.heap.size w w' := by
  have h1 : 0 ≤ st ∧ st ≤ 10000 := by have := hF.st; omega
  have h2 : 0 ≤ (0 : Int) ∧ (0 : Int) ≤ 10000 := by omega
  obtain ⟨s, hs⟩ : ∃ s, s = st + 0 := ⟨_, rfl⟩
  have hs2 : st = s := by omega
  rw [hs2, hs] at hF
  rw [show nRe re le bl ma st lo w0 = nRe re le bl ma (st + 0) lo w0 by rw [Int.add_zero], show nIm re le bl ma st lo w0 = nIm re le bl ma (st + 0) lo w0 by rw [Int.add_zero], show mRe st ma w0 = mRe (st + 0) ma w0 by rw [Int.add_zero]]
  clear hs hs2
  have HF := Lib.hid hF
  clear hF
  go_enter Tryd.func20, Tryd.ntmps20
  go_wp2_with (go_at_call 30; refine (refBoxed_shut re le bl ma st lo 0 0 0 w0 _ HF.out h1 h2).mono ?_; rintro r w1 ⟨rfl, hb⟩; obtain ⟨hc, hf⟩ := bcell hb; have hz := hb.size; (try simp at hz); (try have hz0 : w.heap.size < w1.heap.size := by omega); (try have hz1 : w.heap.size + 1 < w1.heap.size := by omega))
  refine bodyPost_ret (v := .agg #[(.int .i64 (nRe re le bl ma (st + 0) lo w0)), (.int .i64 (nIm re le bl ma (st + 0) lo w0)), (.int .i64 (mRe (st + 0) ma w0)), (.int .i64 (mIm lo w0))]) (by simp [results, Tryd.results20, go_sem, *]) rfl ⟨rfl, ?_⟩
  repeat (first | (with_reducible exact Below.refl _ _) | ((with_reducible refine Below.setCell ?_ ?_ _); rotate_left 1; focus (first | (simp; done) | (simp; omega) | (simp at *; omega))) | ((with_reducible refine Below.alloc ?_ ?_ _); rotate_left 1; focus (first | (simp; done) | (simp; omega) | (simp at *; omega))) | (with_reducible refine Below.drew ?_) | ((with_reducible refine Calm.step (by assumption) ?_ ?_); rotate_left 1; focus (first | (simp; done) | (simp; omega) | (simp at *; omega))))
end Go.Proofs.YtpkldjlljoledaaDoor

/- Contracts of the reference's outputs, without a port. %still -/
namespace Go.Proofs.YtpkldjlljoledaaDoor
open Go.RowKit
open Calm (bcell Blk)

set_option maxHeartbeats 2000000 in
theorem refRadiated_shut (re le bl ma st lo air bst blo w0 : Int) (w : World) (hF : Fit re le bl ma (st + air) lo w0) (h1 : 0 ≤ st ∧ st ≤ 10000) (h2 : 0 ≤ air ∧ air ≤ 10000) :
    Calls Tryd.prog 31 #[.agg #[(.int .i64 (re)), (.int .i64 (le)), (.int .i64 (bl)), (.int .i64 (ma)), (.int .i64 (st)), (.int .i64 (lo))], .agg #[(.int .i64 (air)), (.int .i64 (0)), (.int .i64 (bst)), (.int .i64 (blo))], (.int .i64 (w0))] w
      fun r w' => r = .returned (.agg #[(.int .i64 (tRe (0 - w0 * w0 * bl) 0 1 0)), (.int .i64 (tIm (0 - w0 * w0 * bl) 0 1 0)), (.int .i64 (nRe re le bl ma (st + air) lo w0)), (.int .i64 (nIm re le bl ma (st + air) lo w0))]) ∧ Below w.heap.size w w' := by
  have g1 := hF.bl
  have g2 := hF.w
  have q : Bd 8 w0 := ⟨by omega, by omega⟩
  have q3 : Bd 20 bl := ⟨by omega, by omega⟩
  obtain ⟨u1, u2⟩ := q.mul q (by omega)
  obtain ⟨u3, u4⟩ := (q.mul q (by omega)).mul q3 (by omega)
  clear q q3
  go_enter Tryd.func31, Tryd.ntmps31
  go_wp2_with (first | (go_at_call 89; refine (sides_shut _ _ _ _ _ _ _ _ _ _ _ hF h1 h2).mono ?_; rintro r w1 ⟨rfl, hb⟩; obtain ⟨hc, hf⟩ := bcell hb; have hz := hb.size; (try simp at hz); (try have hz0 : w.heap.size < w1.heap.size := by omega); (try have hz1 : w.heap.size + 1 < w1.heap.size := by omega); (try have hz2 : w.heap.size + 1 + 1 < w1.heap.size := by omega); (try have hz3 : w.heap.size + 1 + 1 + 1 < w1.heap.size := by omega); (try have hz4 : w.heap.size + 1 + 1 + 1 + 1 < w1.heap.size := by omega); (try have hz5 : w.heap.size + 1 + 1 + 1 + 1 + 1 < w1.heap.size := by omega); (try have hz6 : w.heap.size + 1 + 1 + 1 + 1 + 1 + 1 < w1.heap.size := by omega)))
  refine Calm.still_tail 14 (by kernel_rfl) (by kernel_rfl) ?_
  simp only [List.take_succ_cons, List.take_zero, List.drop_succ_cons, List.drop_zero]
  repeat (first | (first | (apply Calm.still_op_move; (focus rfl); (focus (first | exact .inl rfl | exact .inr rfl)); (focus ((try simp only [Act.eval, Array.getD_eq_getD_getElem?, List.getElem?_toArray, List.getElem?_cons_succ, List.getElem?_cons_zero, Option.getD_some]); rfl)); (try simp only [Act.put, List.setIfInBounds_toArray, List.set_cons_zero, List.set_cons_succ])) | (apply Calm.still_op_not; (focus rfl); (try simp only [Act.put, List.setIfInBounds_toArray, List.set_cons_zero, List.set_cons_succ])) | (apply Calm.still_op; (focus rfl); (focus (intro W hb; obtain ⟨hc, hf⟩ := bcell hb; clear hb hf; go_simp; (try go_bits); (try rfl); done)); (try simp only [Act.put, List.setIfInBounds_toArray, List.set_cons_zero, List.set_cons_succ]))) | (apply Calm.still_op_call; (focus rfl); (focus (intro W hb; obtain ⟨hc, hf⟩ := bcell hb; clear hb hf; go_simp; refine ⟨?_, ?_⟩; rfl; rfl)); (focus (intro W hb; first | (go_at_call 90; exact Calm.call_below hb (whole_any _ _)) | (go_at_call 52; exact Calm.call_below hb (qTimes_any _ _ _ _ _ ⟨by omega, by omega⟩ ⟨by omega, by omega⟩ ⟨by omega, by omega⟩ ⟨by omega, by omega⟩)))); (try simp only [Act.put, List.setIfInBounds_toArray, List.set_cons_zero, List.set_cons_succ])))
  refine Calm.still_nil ?_
  intro w5 hb5
  obtain ⟨hb5c, hb5f⟩ := bcell hb5
  have hb5z := hb5.size
  (try simp at hb5z)
  (try have hb5z0 : w.heap.size < w5.heap.size := by omega)
  (try have hb5z1 : w.heap.size + 1 < w5.heap.size := by omega)
  (try have hb5z2 : w.heap.size + 1 + 1 < w5.heap.size := by omega)
  (try have hb5z3 : w.heap.size + 1 + 1 + 1 < w5.heap.size := by omega)
  (try have hb5z4 : w.heap.size + 1 + 1 + 1 + 1 < w5.heap.size := by omega)
  (try have hb5z5 : w.heap.size + 1 + 1 + 1 + 1 + 1 < w5.heap.size := by omega)
  go_wp2
  refine bodyPost_ret (v := .agg #[(.int .i64 (tRe (0 - w0 * w0 * bl) 0 1 0)), (.int .i64 (tIm (0 - w0 * w0 * bl) 0 1 0)), (.int .i64 (nRe re le bl ma (st + air) lo w0)), (.int .i64 (nIm re le bl ma (st + air) lo w0))]) (by simp [results, Tryd.results31, go_sem, *]) rfl ⟨rfl, ?_⟩
  repeat (first | (with_reducible exact Below.refl _ _) | ((with_reducible refine Below.setCell ?_ ?_ _); rotate_left 1; focus (first | (simp; done) | (simp; omega) | (simp at *; omega))) | ((with_reducible refine Below.alloc ?_ ?_ _); rotate_left 1; focus (first | (simp; done) | (simp; omega) | (simp at *; omega))) | (with_reducible refine Below.drew ?_) | ((with_reducible refine Calm.step (by assumption) ?_ ?_); rotate_left 1; focus (first | (simp; done) | (simp; omega) | (simp at *; omega))))
theorem fit0 {re le bl ma st lo w0 : Int} (hF : Fit re le bl ma st lo w0) : Fit re le bl ma (st + 0) lo w0 := by rw [Int.add_zero]; exact hF
theorem refOutput_any (re le bl ma st lo w0 : Int) (w : World) (hF : Fit re le bl ma st lo w0) :
    Calls Tryd.prog 22 #[.agg #[(.int .i64 (re)), (.int .i64 (le)), (.int .i64 (bl)), (.int .i64 (ma)), (.int .i64 (st)), (.int .i64 (lo))], (.int .i64 (w0))] w
      fun r w' => r = .returned (.agg #[(.int .i64 (tRe (0 - w0 * w0 * bl) 0 1 0)), (.int .i64 (tIm (0 - w0 * w0 * bl) 0 1 0)), (.int .i64 (nRe re le bl ma st lo w0)), (.int .i64 (nIm re le bl ma st lo w0))]) ∧ Below w.heap.size w w' := by
  have h1 : 0 ≤ st ∧ st ≤ 10000 := by have := hF.st; omega
  have h2 : 0 ≤ (0 : Int) ∧ (0 : Int) ≤ 10000 := by omega
  rw [show nRe re le bl ma st lo w0 = nRe re le bl ma (st + 0) lo w0 by rw [Int.add_zero], show nIm re le bl ma st lo w0 = nIm re le bl ma (st + 0) lo w0 by rw [Int.add_zero]]
  have HF := Lib.hid (fit0 hF)
  clear hF
  go_enter Tryd.func22, Tryd.ntmps22
  go_wp2_with (go_at_call 31; refine (refRadiated_shut re le bl ma st lo 0 0 0 w0 _ HF.out h1 h2).mono ?_; rintro r w1 ⟨rfl, hb⟩; obtain ⟨hc, hf⟩ := bcell hb; have hz := hb.size; (try simp at hz); (try have hz0 : w.heap.size < w1.heap.size := by omega); (try have hz1 : w.heap.size + 1 < w1.heap.size := by omega))
  refine bodyPost_ret (v := .agg #[(.int .i64 (tRe (0 - w0 * w0 * bl) 0 1 0)), (.int .i64 (tIm (0 - w0 * w0 * bl) 0 1 0)), (.int .i64 (nRe re le bl ma (st + 0) lo w0)), (.int .i64 (nIm re le bl ma (st + 0) lo w0))]) (by simp [results, Tryd.results22, go_sem, *]) rfl ⟨rfl, ?_⟩
  repeat (first | (with_reducible exact Below.refl _ _) | ((with_reducible refine Below.setCell ?_ ?_ _); rotate_left 1; focus (first | (simp; done) | (simp; omega) | (simp at *; omega))) | ((with_reducible refine Below.alloc ?_ ?_ _); rotate_left 1; focus (first | (simp; done) | (simp; omega) | (simp at *; omega))) | (with_reducible refine Below.drew ?_) | ((with_reducible refine Calm.step (by assumption) ?_ ?_); rotate_left 1; focus (first | (simp; done) | (simp; omega) | (simp at *; omega))))

end Go.Proofs.YtpkldjlljoledaaDoor

/- Contract of the reference's movements, without a port %still -/
namespace Go.Proofs.YtpkldjlljoledaaDoor
open Go.RowKit
open Calm (bcell Blk)

theorem Calm.Blk.put {w : World} {g : Nat} {cs : Array Value} (h : Blk w g cs) (i : Nat) (hi : i < cs.size) (v : Value) : Blk (w.setCell ⟨g, i, none⟩ v) g (cs.setIfInBounds i v) := by
  refine ⟨by simpa using h.lt, fun j => ?_, fun j => by rw [World.frozen?_setCell]; exact h.f j⟩
  by_cases hij : i = j
  · subst hij
    rw [World.cell?_setCell_same w _ v (u := cs[i]) (by rw [h.c i]; simp [hi])]
    simp [hi]
  · rw [World.cell?_setCell_other w ⟨g, i, none⟩ ⟨g, j, none⟩ v (by intro e; cases e; exact hij rfl), h.c j]
    simp [Array.getElem?_setIfInBounds, hij]

set_option maxRecDepth 100000 in
set_option maxHeartbeats 4000000 in
theorem refMoved_shut (re le bl ma st lo air bst blo w0 : Int) (w : World) (hF : Fit re le bl ma (st + air) lo w0) (h1 : 0 ≤ st ∧ st ≤ 10000) (h2 : 0 ≤ air ∧ air ≤ 10000) :
    Calls Tryd.prog 32 #[.agg #[(.int .i64 (re)), (.int .i64 (le)), (.int .i64 (bl)), (.int .i64 (ma)), (.int .i64 (st)), (.int .i64 (lo))], .agg #[(.int .i64 (air)), (.int .i64 (0)), (.int .i64 (bst)), (.int .i64 (blo))], (.int .i64 (w0))] w
      fun r w' => r = .returned (.agg #[(.int .i64 (tRe bl 0 1 0)), (.int .i64 (tIm bl 0 1 0)), (.int .i64 (nRe re le bl ma (st + air) lo w0)), (.int .i64 (nIm re le bl ma (st + air) lo w0)), (.int .i64 (0)), (.int .i64 (0)), (.int .i64 (1)), (.int .i64 (0))]) ∧ Below w.heap.size w w' := by
  have g1 := hF.bl
  go_enter Tryd.func32, Tryd.ntmps32
  go_wp2_with (first | (go_at_call 89; refine (sides_shut _ _ _ _ _ _ _ _ _ _ _ hF h1 h2).mono ?_; rintro r w1 ⟨rfl, hb⟩; obtain ⟨hc, hf⟩ := bcell hb; have hz := hb.size; (try simp at hz); (try have hz0 : w.heap.size < w1.heap.size := by omega); (try have hz1 : w.heap.size + 1 < w1.heap.size := by omega); (try have hz2 : w.heap.size + 1 + 1 < w1.heap.size := by omega); (try have hz3 : w.heap.size + 1 + 1 + 1 < w1.heap.size := by omega); (try have hz4 : w.heap.size + 1 + 1 + 1 + 1 < w1.heap.size := by omega); (try have hz5 : w.heap.size + 1 + 1 + 1 + 1 + 1 < w1.heap.size := by omega); (try have hz6 : w.heap.size + 1 + 1 + 1 + 1 + 1 + 1 < w1.heap.size := by omega)))
  refine Rel.region2 20 (by kernel_rfl) (by kernel_rfl) (by kernel_rfl) (by kernel_rfl) ?_
  simp only [List.take_succ_cons, List.take_zero, List.drop_succ_cons, List.drop_zero, List.filterMap_cons, List.filterMap_nil]
  repeat (first | (apply Rel.op; (focus rfl); (focus (intro a W hb hd hbase; obtain ⟨hc, hf⟩ := bcell hb; clear hb hf; simp [Rel.deps, Rel.dep1, Act.eval] at hd; simp only [Act.eval, List.mem_cons, List.not_mem_nil, not_or, and_imp, or_false, Array.getD_eq_getD_getElem?] at hbase; go_simp; (try go_bits); (try rfl); done)); (try simp only [List.nil_append, List.cons_append])) | (apply Rel.alloc; (focus rfl); (focus (intro a W; go_simp; refine ⟨?_, ?_⟩; rfl; rfl)); (try simp only [List.nil_append, List.cons_append])) | (apply Rel.alloc; (focus rfl); (focus (intro a W; go_simp; rfl)); (try simp only [List.nil_append, List.cons_append])) | (apply Rel.call_eq; (focus rfl); (focus (intro a W hb hd hbase; obtain ⟨hc, hf⟩ := bcell hb; clear hb hf; simp [Rel.deps, Rel.dep1, Act.eval] at hd; simp only [Act.eval, List.mem_cons, List.not_mem_nil, not_or, and_imp, or_false, Array.getD_eq_getD_getElem?] at hbase; go_simp; refine ⟨?_, ?_⟩; rfl; rfl)); (focus (intro W hb; first | (go_at_call 90; exact (whole_any _ _)) | (go_at_call 52; exact (qTimes_any _ _ _ _ _ ⟨by omega, by omega⟩ ⟨by omega, by omega⟩ ⟨by omega, by omega⟩ ⟨by omega, by omega⟩)))); (try simp only [List.nil_append, List.cons_append])))
  refine Rel.done ?_
  intro x w5 hb5 hx
  simp only [Rel.facts, Nat.zero_add, Nat.reduceAdd] at hx
  obtain ⟨e0, e1, e2, e3, e4, e5, e6, e7, e8, e9, e10, e11, e12, e13, e14, e15, e16, e17, e18, ⟨g, e19, gB, gk⟩, _⟩ := hx
  simp only [Rel.fill, Nat.zero_add, Nat.reduceAdd, e0, e1, e2, e3, e4, e5, e6, e7, e8, e9, e10, e11, e12, e13, e14, e15, e16, e17, e18, e19]
  simp only [Act.put, List.setIfInBounds_toArray, List.set_cons_zero, List.set_cons_succ]
  clear e0 e1 e2 e3 e4 e5 e6 e7 e8 e9 e10 e11 e12 e13 e14 e15 e16 e17 e18 e19
  clear x
  obtain ⟨hb5c, hb5f⟩ := bcell hb5
  have hb5z := hb5.size
  (try simp at hb5z)
  (try have hb5z0 : w.heap.size < w5.heap.size := by omega)
  (try have hb5z1 : w.heap.size + 1 < w5.heap.size := by omega)
  (try have hb5z2 : w.heap.size + 1 + 1 < w5.heap.size := by omega)
  (try have hb5z3 : w.heap.size + 1 + 1 + 1 < w5.heap.size := by omega)
  (try have hb5z4 : w.heap.size + 1 + 1 + 1 + 1 < w5.heap.size := by omega)
  (try have hb5z5 : w.heap.size + 1 + 1 + 1 + 1 + 1 < w5.heap.size := by omega)
  have gf := gk.f
  have gl := gk.lt
  have gc := gk.c
  simp at gB
  have gn2' : g ≠ w.heap.size + 1 + 1 := by omega
  have gn1' : g ≠ w.heap.size + 1 := by omega
  have gB' : w.heap.size ≤ g := by omega
  have R1 : Blk w1 (w.heap.size + 1 + 1) #[(.int .i64 (0)), (.int .i64 (0)), (.int .i64 (0)), (.int .i64 (0)), (.int .i64 (0)), (.int .i64 (0)), (.int .i64 (0)), (.int .i64 (0))] := (Blk.at_ (by simp)).below hb
  have R5 := (R1.alloc _).below hb5
  have R6 := ((((((((R5.far (p := ⟨g, 0, none⟩) gn2' (.int .i64 (tRe bl 0 1 0))).far (p := ⟨g, 1, none⟩) gn2' (.int .i64 (tIm bl 0 1 0))).far (p := ⟨g, 2, none⟩) gn2' (.int .i64 (nRe re le bl ma (st + air) lo w0))).far (p := ⟨g, 3, none⟩) gn2' (.int .i64 (nIm re le bl ma (st + air) lo w0))).far (p := ⟨g, 4, none⟩) gn2' (.int .i64 (tRe bl 0 0 0))).far (p := ⟨g, 5, none⟩) gn2' (.int .i64 (tIm bl 0 0 0))).far (p := ⟨g, 6, none⟩) gn2' (.int .i64 (nRe re le bl ma (st + air) lo w0))).far (p := ⟨g, 7, none⟩) gn2' (.int .i64 (nIm re le bl ma (st + air) lo w0)))
  have D1 : Blk w1 (w.heap.size + 1) #[(.int .i64 (air)), (.int .i64 (0)), (.int .i64 (bst)), (.int .i64 (blo))] := ((Blk.at_ (by simp) : Blk ((w.alloc _).alloc (.cells #[(.int .i64 (air)), (.int .i64 (0)), (.int .i64 (bst)), (.int .i64 (blo))] _)) _ _).alloc _).below hb
  have D5 := (D1.alloc _).below hb5
  have D6 := ((((((((D5.far (p := ⟨g, 0, none⟩) gn1' (.int .i64 (tRe bl 0 1 0))).far (p := ⟨g, 1, none⟩) gn1' (.int .i64 (tIm bl 0 1 0))).far (p := ⟨g, 2, none⟩) gn1' (.int .i64 (nRe re le bl ma (st + air) lo w0))).far (p := ⟨g, 3, none⟩) gn1' (.int .i64 (nIm re le bl ma (st + air) lo w0))).far (p := ⟨g, 4, none⟩) gn1' (.int .i64 (tRe bl 0 0 0))).far (p := ⟨g, 5, none⟩) gn1' (.int .i64 (tIm bl 0 0 0))).far (p := ⟨g, 6, none⟩) gn1' (.int .i64 (nRe re le bl ma (st + air) lo w0))).far (p := ⟨g, 7, none⟩) gn1' (.int .i64 (nIm re le bl ma (st + air) lo w0)))
  have B5 : Below w.heap.size w w5 := by
    repeat (first | (with_reducible exact Below.refl _ _) | ((with_reducible refine Below.setCell ?_ ?_ _); rotate_left 1; focus (first | (simp; done) | (simp; omega) | (simp at *; omega))) | ((with_reducible refine Below.alloc ?_ ?_ _); rotate_left 1; focus (first | (simp; done) | (simp; omega) | (simp at *; omega))) | (with_reducible refine Below.drew ?_) | ((with_reducible refine Calm.step (by assumption) ?_ ?_); rotate_left 1; focus (first | (simp; done) | (simp; omega) | (simp at *; omega))))
  have B6 := ((((((((B5.setCell (p := ⟨g, 0, none⟩) gB' (.int .i64 (tRe bl 0 1 0))).setCell (p := ⟨g, 1, none⟩) gB' (.int .i64 (tIm bl 0 1 0))).setCell (p := ⟨g, 2, none⟩) gB' (.int .i64 (nRe re le bl ma (st + air) lo w0))).setCell (p := ⟨g, 3, none⟩) gB' (.int .i64 (nIm re le bl ma (st + air) lo w0))).setCell (p := ⟨g, 4, none⟩) gB' (.int .i64 (tRe bl 0 0 0))).setCell (p := ⟨g, 5, none⟩) gB' (.int .i64 (tIm bl 0 0 0))).setCell (p := ⟨g, 6, none⟩) gB' (.int .i64 (nRe re le bl ma (st + air) lo w0))).setCell (p := ⟨g, 7, none⟩) gB' (.int .i64 (nIm re le bl ma (st + air) lo w0)))
  have G6 := ((((((((gk.put 0 (by simp) (.int .i64 (tRe bl 0 1 0))).put 1 (by simp) (.int .i64 (tIm bl 0 1 0))).put 2 (by simp) (.int .i64 (nRe re le bl ma (st + air) lo w0))).put 3 (by simp) (.int .i64 (nIm re le bl ma (st + air) lo w0))).put 4 (by simp) (.int .i64 (tRe bl 0 0 0))).put 5 (by simp) (.int .i64 (tIm bl 0 0 0))).put 6 (by simp) (.int .i64 (nRe re le bl ma (st + air) lo w0))).put 7 (by simp) (.int .i64 (nIm re le bl ma (st + air) lo w0)))
  have G6' : Blk _ g #[(.int .i64 (tRe bl 0 1 0)), (.int .i64 (tIm bl 0 1 0)), (.int .i64 (nRe re le bl ma (st + air) lo w0)), (.int .i64 (nIm re le bl ma (st + air) lo w0)), (.int .i64 (tRe bl 0 0 0)), (.int .i64 (tIm bl 0 0 0)), (.int .i64 (nRe re le bl ma (st + air) lo w0)), (.int .i64 (nIm re le bl ma (st + air) lo w0))] := G6
  have HR := Lib.hid R6
  have HD := Lib.hid D6
  have HG := Lib.hid G6'
  have HB := Lib.hid B6
  clear R1 R5 R6 B5 B6 G6 G6' D1 D5 D6
  have d0 := HD.out.cell 1 (.int .i64 (0)) rfl
  have dl := HD.out.lt
  go_wp2_with (go_at_call 90; refine (whole_any 0 _).mono ?_; rintro r w6 ⟨rfl, hb6⟩; refine Hid.out ?_)
  unfold Hid
  have KR := HR.out.below hb6
  have KG := HG.out.below hb6
  have KB := HB.out.trans (hb6.mono HB.out.size)
  clear hb6 HR HG HB HD d0 dl hb5 hb5c hb5f gf gl gc gk hc hf hb
  go_wp2_with (go_at_call 90; refine (whole_any 1 _).mono ?_; rintro r w7 ⟨rfl, hb7⟩; refine Hid.out ?_)
  unfold Hid
  have KR7 := KR.below hb7
  have KG7 := KG.below hb7
  have KB7 := KB.trans (hb7.mono KB.size)
  clear hb7 KR KG KB
  have g1c := KG7.cell 0 (.int .i64 (tRe bl 0 1 0)) rfl
  have r1c := KR7.cell 0 (.int .i64 (0)) rfl
  have g2c := KG7.cell 1 (.int .i64 (tIm bl 0 1 0)) rfl
  have r2c := KR7.cell 1 (.int .i64 (0)) rfl
  have g3c := KG7.cell 2 (.int .i64 (nRe re le bl ma (st + air) lo w0)) rfl
  have r3c := KR7.cell 2 (.int .i64 (0)) rfl
  have g4c := KG7.cell 3 (.int .i64 (nIm re le bl ma (st + air) lo w0)) rfl
  have r4c := KR7.cell 3 (.int .i64 (0)) rfl
  have g5c := KG7.cell 4 (.int .i64 (tRe bl 0 0 0)) rfl
  have r5c := KR7.cell 4 (.int .i64 (0)) rfl
  have g6c := KG7.cell 5 (.int .i64 (tIm bl 0 0 0)) rfl
  have r6c := KR7.cell 5 (.int .i64 (0)) rfl
  have g7c := KG7.cell 6 (.int .i64 (nRe re le bl ma (st + air) lo w0)) rfl
  have r7c := KR7.cell 6 (.int .i64 (0)) rfl
  have g8c := KG7.cell 7 (.int .i64 (nIm re le bl ma (st + air) lo w0)) rfl
  have r8c := KR7.cell 7 (.int .i64 (0)) rfl
  have gf := KG7.f
  have gl := KG7.lt
  have rf := KR7.f
  have rl := KR7.lt
  clear KG7 KR7
  have gn3' : ¬ w.heap.size + 1 + 1 = g := by omega
  go_wp2
  refine bodyPost_ret (v := .agg #[(.int .i64 (tRe bl 0 1 0)), (.int .i64 (tIm bl 0 1 0)), (.int .i64 (nRe re le bl ma (st + air) lo w0)), (.int .i64 (nIm re le bl ma (st + air) lo w0)), (.int .i64 (0)), (.int .i64 (0)), (.int .i64 (1)), (.int .i64 (0))]) (by simp [results, Tryd.results32, go_sem, *]) rfl ⟨rfl, ?_⟩
  iterate 12 refine Below.setCell ?_ (by first | exact gB' | (show w.heap.size ≤ w.heap.size + 1 + 1; omega)) _
  exact KB7
end Go.Proofs.YtpkldjlljoledaaDoor

/- Contract of the reference's excursion. -/
namespace Go.Proofs.YtpkldjlljoledaaDoor
open Go.RowKit
open Calm (bcell Blk)

theorem tRe_one (a b : Int) : tRe a b 1 0 = a := by unfold tRe; omega
theorem tIm_one (a b : Int) : tIm a b 1 0 = b := by unfold tIm; omega
theorem index57 (a b c d e f g h : Int) : ∀ w : World, (Instr.index 57 (.agg #[(.int .i64 (a)), (.int .i64 (b)), (.int .i64 (c)), (.int .i64 (d)), (.int .i64 (e)), (.int .i64 (f)), (.int .i64 (g)), (.int .i64 (h))]) (.int .i64 0)).run Tryd.prog w = .ok (.agg #[(.int .i64 (a)), (.int .i64 (b)), (.int .i64 (c)), (.int .i64 (d))]) w := fun _ => by kernel_rfl
set_option maxRecDepth 100000 in
set_option maxHeartbeats 2000000 in
theorem refExcursion_any (re le bl ma st lo w0 : Int) (w : World) (hF : Fit re le bl ma st lo w0) :
    Calls Tryd.prog 21 #[.agg #[(.int .i64 (re)), (.int .i64 (le)), (.int .i64 (bl)), (.int .i64 (ma)), (.int .i64 (st)), (.int .i64 (lo))], (.int .i64 (w0))] w
      fun r w' => r = .returned (.agg #[(.int .i64 (bl)), (.int .i64 (0)), (.int .i64 (nRe re le bl ma st lo w0)), (.int .i64 (nIm re le bl ma st lo w0))]) ∧ Below w.heap.size w w' := by
  have h1 : 0 ≤ st ∧ st ≤ 10000 := by have := hF.st; omega
  have h2 : 0 ≤ (0 : Int) ∧ (0 : Int) ≤ 10000 := by omega
  have HF := Lib.hid (fit0 hF)
  clear hF
  have hix := index57 bl 0 (nRe re le bl ma st lo w0) (nIm re le bl ma st lo w0) 0 0 1 0
  have hM : ∀ W : World, Calls Tryd.prog 32 #[.agg #[(.int .i64 (re)), (.int .i64 (le)), (.int .i64 (bl)), (.int .i64 (ma)), (.int .i64 (st)), (.int .i64 (lo))], .agg #[(.int .i64 (0)), (.int .i64 (0)), (.int .i64 (0)), (.int .i64 (0))], (.int .i64 (w0))] W fun r w' => r = .returned (.agg #[(.int .i64 (bl)), (.int .i64 (0)), (.int .i64 (nRe re le bl ma st lo w0)), (.int .i64 (nIm re le bl ma st lo w0)), (.int .i64 (0)), (.int .i64 (0)), (.int .i64 (1)), (.int .i64 (0))]) ∧ Below W.heap.size W w' := fun W => by
    have := refMoved_shut re le bl ma st lo 0 0 0 w0 W HF.out h1 h2
    rwa [tRe_one, tIm_one, Int.add_zero] at this
  have HM := Lib.hid hM
  clear hM
  go_enter Tryd.func21, Tryd.ntmps21
  go_wp2_with (go_at_call 32; refine (HM.out _).mono ?_; rintro r w1 ⟨rfl, hb⟩; obtain ⟨hc, hf⟩ := bcell hb; have hz := hb.size; (try simp at hz); (try have hz0 : w.heap.size < w1.heap.size := by omega); (try have hz1 : w.heap.size + 1 < w1.heap.size := by omega))
  refine bodyPost_ret (v := .agg #[(.int .i64 (bl)), (.int .i64 (0)), (.int .i64 (nRe re le bl ma st lo w0)), (.int .i64 (nIm re le bl ma st lo w0))]) (by simp [results, Tryd.results21, go_sem, *]) rfl ⟨rfl, ?_⟩
  repeat (first | (with_reducible exact Below.refl _ _) | ((with_reducible refine Below.setCell ?_ ?_ _); rotate_left 1; focus (first | (simp; done) | (simp; omega) | (simp at *; omega))) | ((with_reducible refine Below.alloc ?_ ?_ _); rotate_left 1; focus (first | (simp; done) | (simp; omega) | (simp at *; omega))) | (with_reducible refine Below.drew ?_) | ((with_reducible refine Calm.step (by assumption) ?_ ?_); rotate_left 1; focus (first | (simp; done) | (simp; omega) | (simp at *; omega))))
end Go.Proofs.YtpkldjlljoledaaDoor

/- For walks that store whole results: blocks of four cells; a name for the world. -/
namespace Go.Proofs.YtpkldjlljoledaaDoor
open Go.RowKit
open Calm (bcell Blk)
theorem name_world {C : Code} {P : Program} {Q : Exit → Act → World → Prop} {a : Act} {W : World} (h : ∀ W', W' = W → C.wp P Q a W') : C.wp P Q a W := h W rfl
def st4 (w : World) (g : Nat) (a b c d : Value) : World := (((w.setCell ⟨g, 0, none⟩ a).setCell ⟨g, 1, none⟩ b).setCell ⟨g, 2, none⟩ c).setCell ⟨g, 3, none⟩ d
theorem st4_blk {w : World} {g : Nat} {x y z u : Value} (h : Blk w g #[x, y, z, u]) (a b c d : Value) : Blk (st4 w g a b c d) g #[a, b, c, d] := by
  have := (((h.set (i := 0) (by simp) a).set (i := 1) (by simp) b).set (i := 2) (by simp) c).set (i := 3) (by simp) d
  simpa [st4] using this
theorem st4_far {w : World} {g g' : Nat} {cs : Array Value} (h : Blk w g' cs) (hne : g ≠ g') (a b c d : Value) : Blk (st4 w g a b c d) g' cs := (((h.far hne _).far hne _).far hne _).far hne _
theorem st4_below {B : Nat} {w0 w : World} (h : Below B w0 w) {g : Nat} (hg : B ≤ g) (a b c d : Value) : Below B w0 (st4 w g a b c d) :=
  (((h.setCell (p := ⟨g, 0, none⟩) hg _).setCell (p := ⟨g, 1, none⟩) hg _).setCell (p := ⟨g, 2, none⟩) hg _).setCell (p := ⟨g, 3, none⟩) hg _
theorem oRe_of (bl w0 : Int) : tRe (0 - w0 * w0 * bl) 0 1 0 = oRe bl w0 := by
  unfold tRe oRe
  simp [Int.neg_mul]
theorem oIm_of (bl w0 : Int) : tIm (0 - w0 * w0 * bl) 0 1 0 = 0 := by
  unfold tIm
  simp
theorem refOutput_same (re le bl ma st lo w0 : Int) (w : World) (hF : Fit re le bl ma st lo w0) :
    Calls Tryd.prog 22 #[.agg #[(.int .i64 (re)), (.int .i64 (le)), (.int .i64 (bl)), (.int .i64 (ma)), (.int .i64 (st)), (.int .i64 (lo))], (.int .i64 (w0))] w
      fun r w' => r = .returned (.agg #[(.int .i64 (oRe bl w0)), (.int .i64 (0)), (.int .i64 (nRe re le bl ma st lo w0)), (.int .i64 (nIm re le bl ma st lo w0))]) ∧ Below w.heap.size w w' := by
  have := refOutput_any re le bl ma st lo w0 w hF
  rwa [oRe_of, oIm_of] at this
end Go.Proofs.YtpkldjlljoledaaDoor
