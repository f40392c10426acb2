/- Part 18 of the texts of the claim: C2, C3, C4, C5, C6, C13, Num0, WeiP, Wei0, HoL. -/
import Derived.Test.YtpkldjlljoledaaDoorMh12
import Derived.Test.YtpkldjlljoledaaDoorMh8
import Derived.Test.YtpkldjlljoledaaDoorMh17
import Derived.Test.YtpkldjlljoledaaDoorMh3
import Derived.Test.YtpkldjlljoledaaDoorMh6
import Derived.Test.YtpkldjlljoledaaDoorMh5
import Derived.Test.YtpkldjlljoledaaDoorMh14
import Derived.Test.YtpkldjlljoledaaDoorMh13
import Derived.Test.YtpkldjlljoledaaDoorMh16

/- Contracts of the reference's arithmetic. %still -/
namespace Go.Proofs.YtpkldjlljoledaaDoor
open Go.RowKit
open Calm (bcell Blk)

theorem qPlus_any (a b c d : Int) (w : World) (h1 : Bd 1000000000000000 a) (h2 : Bd 1000000000000000 b) (h3 : Bd 1000000000000000 c) (h4 : Bd 1000000000000000 d) :
    Calls Tryd.prog 113 #[.agg #[(.int .i64 (a)), (.int .i64 (b))], .agg #[(.int .i64 (c)), (.int .i64 (d))]] w fun r w' => r = .returned (.agg #[(.int .i64 (pl a c)), (.int .i64 (pl b d))]) ∧ Below w.heap.size w w' := by
  obtain ⟨h11, h12⟩ := h1
  obtain ⟨h21, h22⟩ := h2
  obtain ⟨h31, h32⟩ := h3
  obtain ⟨h41, h42⟩ := h4
  go_enter Tryd.func113, Tryd.ntmps113
  go_wp2
  refine bodyPost_ret (v := .agg #[(.int .i64 (pl a c)), (.int .i64 (pl b d))]) (by simp [results, Tryd.results113, go_sem, pl]) rfl ⟨rfl, ?_⟩
  repeat (first | (with_reducible exact Below.refl _ _) | ((with_reducible refine Below.setCell ?_ ?_ _); rotate_left 1; focus (first | (simp; done) | (simp; omega) | (simp at *; omega))) | ((with_reducible refine Below.alloc ?_ ?_ _); rotate_left 1; focus (first | (simp; done) | (simp; omega) | (simp at *; omega))) | (with_reducible refine Below.drew ?_) | ((with_reducible refine Calm.step (by assumption) ?_ ?_); rotate_left 1; focus (first | (simp; done) | (simp; omega) | (simp at *; omega))))
theorem qTimes_any (a b c d : Int) (w : World) (h1 : Bd 1000000 a) (h2 : Bd 1000000 b) (h3 : Bd 100000000000 c) (h4 : Bd 100000000000 d) :
    Calls Tryd.prog 52 #[.agg #[(.int .i64 (a)), (.int .i64 (b))], .agg #[(.int .i64 (c)), (.int .i64 (d))]] w fun r w' => r = .returned (.agg #[(.int .i64 (tRe a b c d)), (.int .i64 (tIm a b c d))]) ∧ Below w.heap.size w w' := by
  obtain ⟨e11, e12⟩ := h1.mul h3 (by omega)
  obtain ⟨e21, e22⟩ := h2.mul h4 (by omega)
  obtain ⟨e31, e32⟩ := h1.mul h4 (by omega)
  obtain ⟨e41, e42⟩ := h2.mul h3 (by omega)
  clear h1 h2 h3 h4
  go_enter Tryd.func52, Tryd.ntmps52
  go_wp2
  refine bodyPost_ret (v := .agg #[(.int .i64 (tRe a b c d)), (.int .i64 (tIm a b c d))]) (by simp [results, Tryd.results52, go_sem, tRe, tIm]) rfl ⟨rfl, ?_⟩
  repeat (first | (with_reducible exact Below.refl _ _) | ((with_reducible refine Below.setCell ?_ ?_ _); rotate_left 1; focus (first | (simp; done) | (simp; omega) | (simp at *; omega))) | ((with_reducible refine Below.alloc ?_ ?_ _); rotate_left 1; focus (first | (simp; done) | (simp; omega) | (simp at *; omega))) | (with_reducible refine Below.drew ?_) | ((with_reducible refine Calm.step (by assumption) ?_ ?_); rotate_left 1; focus (first | (simp; done) | (simp; omega) | (simp at *; omega))))
theorem whole_any (a : Int) (w : World) : Calls Tryd.prog 90 #[(.int .i64 (a))] w fun r w' => r = .returned (.agg #[(.int .i64 (a)), (.int .i64 (0))]) ∧ Below w.heap.size w w' := by
  go_enter Tryd.func90, Tryd.ntmps90
  go_wp2
  refine bodyPost_ret (v := .agg #[(.int .i64 (a)), (.int .i64 (0))]) (by simp [results, Tryd.results90, go_sem]) rfl ⟨rfl, ?_⟩
  repeat (first | (with_reducible exact Below.refl _ _) | ((with_reducible refine Below.setCell ?_ ?_ _); rotate_left 1; focus (first | (simp; done) | (simp; omega) | (simp at *; omega))) | ((with_reducible refine Below.alloc ?_ ?_ _); rotate_left 1; focus (first | (simp; done) | (simp; omega) | (simp at *; omega))) | (with_reducible refine Below.drew ?_) | ((with_reducible refine Calm.step (by assumption) ?_ ?_); rotate_left 1; focus (first | (simp; done) | (simp; omega) | (simp at *; omega))))
theorem refMech_any (k m l w0 : Int) (w : World) (h1 : Bd 100000 k) (h2 : Bd 1000 m) (h3 : Bd 1000 l) (h4 : Bd 8 w0) :
    Calls Tryd.prog 78 #[(.int .i64 (k)), (.int .i64 (m)), (.int .i64 (l)), (.int .i64 (w0))] w fun r w' => r = .returned (.agg #[(.int .i64 (mRe k m w0)), (.int .i64 (mIm l w0))]) ∧ Below w.heap.size w w' := by
  obtain ⟨e11, e12⟩ := h4.mul h4 (by omega)
  obtain ⟨e21, e22⟩ := (h4.mul h4 (by omega)).mul h2 (by omega)
  obtain ⟨e31, e32⟩ := h4.mul h3 (by omega)
  obtain ⟨h11, h12⟩ := h1
  clear h2 h3 h4
  go_enter Tryd.func78, Tryd.ntmps78
  go_wp2
  refine bodyPost_ret (v := .agg #[(.int .i64 (mRe k m w0)), (.int .i64 (mIm l w0))]) (by simp [results, Tryd.results78, go_sem, mRe, mIm]) rfl ⟨rfl, ?_⟩
  repeat (first | (with_reducible exact Below.refl _ _) | ((with_reducible refine Below.setCell ?_ ?_ _); rotate_left 1; focus (first | (simp; done) | (simp; omega) | (simp at *; omega))) | ((with_reducible refine Below.alloc ?_ ?_ _); rotate_left 1; focus (first | (simp; done) | (simp; omega) | (simp at *; omega))) | (with_reducible refine Below.drew ?_) | ((with_reducible refine Calm.step (by assumption) ?_ ?_); rotate_left 1; focus (first | (simp; done) | (simp; omega) | (simp at *; omega))))
theorem refMechanics_any (re le bl ma st lo w0 : Int) (w : World) (h1 : Bd 100000 st) (h2 : Bd 1000 ma) (h3 : Bd 1000 lo) (h4 : Bd 8 w0) :
    Calls Tryd.prog 19 #[.agg #[(.int .i64 (re)), (.int .i64 (le)), (.int .i64 (bl)), (.int .i64 (ma)), (.int .i64 (st)), (.int .i64 (lo))], (.int .i64 (w0))] w fun r w' => r = .returned (.agg #[(.int .i64 (mRe st ma w0)), (.int .i64 (mIm lo w0))]) ∧ Below w.heap.size w w' := by
  obtain ⟨h11, h12⟩ := h1
  obtain ⟨h21, h22⟩ := h2
  obtain ⟨h31, h32⟩ := h3
  obtain ⟨h41, h42⟩ := h4
  go_enter Tryd.func19, Tryd.ntmps19
  go_wp2_with (first | (go_at_call 78; refine (refMech_any _ _ _ _ _ ⟨by omega, by omega⟩ ⟨by omega, by omega⟩ ⟨by omega, by omega⟩ ⟨by omega, by omega⟩).mono ?_; rintro r w1 ⟨rfl, hb⟩; obtain ⟨hc, hf⟩ := bcell hb; have hz := hb.size; (try simp at hz); (try have hz0 : w.heap.size < w1.heap.size := by omega); (try have hz1 : w.heap.size + 1 < w1.heap.size := by omega); (try have hz2 : w.heap.size + 1 + 1 < w1.heap.size := by omega); (try have hz3 : w.heap.size + 1 + 1 + 1 < w1.heap.size := by omega); (try have hz4 : w.heap.size + 1 + 1 + 1 + 1 < w1.heap.size := by omega); (try have hz5 : w.heap.size + 1 + 1 + 1 + 1 + 1 < w1.heap.size := by omega); (try have hz6 : w.heap.size + 1 + 1 + 1 + 1 + 1 + 1 < w1.heap.size := by omega)))
  refine bodyPost_ret (v := .agg #[(.int .i64 (mRe st ma w0)), (.int .i64 (mIm lo w0))]) (by simp [results, Tryd.results19, go_sem, *]) rfl ⟨rfl, ?_⟩
  repeat (first | (with_reducible exact Below.refl _ _) | ((with_reducible refine Below.setCell ?_ ?_ _); rotate_left 1; focus (first | (simp; done) | (simp; omega) | (simp at *; omega))) | ((with_reducible refine Below.alloc ?_ ?_ _); rotate_left 1; focus (first | (simp; done) | (simp; omega) | (simp at *; omega))) | (with_reducible refine Below.drew ?_) | ((with_reducible refine Calm.step (by assumption) ?_ ?_); rotate_left 1; focus (first | (simp; done) | (simp; omega) | (simp at *; omega))))
theorem qSquare_any (a b : Int) (w : World) (h1 : Bd 1000000000 a) (h2 : Bd 1000000000 b) : Calls Tryd.prog 54 #[.agg #[(.int .i64 (a)), (.int .i64 (b))]] w fun r w' => r = .returned (.int .i64 (a * a + b * b)) ∧ Below w.heap.size w w' := by
  obtain ⟨e1, e2⟩ := h1.mul h1 (by omega)
  obtain ⟨e3, e4⟩ := h2.mul h2 (by omega)
  go_enter Tryd.func54, Tryd.ntmps54
  go_wp2
  go_ret
  refine ⟨rfl, ?_⟩
  repeat (first | (with_reducible exact Below.refl _ _) | ((with_reducible refine Below.setCell ?_ ?_ _); rotate_left 1; focus (first | (simp; done) | (simp; omega) | (simp at *; omega))) | ((with_reducible refine Below.alloc ?_ ?_ _); rotate_left 1; focus (first | (simp; done) | (simp; omega) | (simp at *; omega))) | (with_reducible refine Below.drew ?_) | ((with_reducible refine Calm.step (by assumption) ?_ ?_); rotate_left 1; focus (first | (simp; done) | (simp; omega) | (simp at *; omega))))
end Go.Proofs.YtpkldjlljoledaaDoor

/- Contracts of the reference's sides, without a port. %still -/
namespace Go.Proofs.YtpkldjlljoledaaDoor
open Go.RowKit
open Calm (bcell Blk)

set_option maxRecDepth 100000 in
set_option maxHeartbeats 4000000 in
theorem sides_shut (re le bl ma st lo air bst blo w0 : Int) (w : World) (hF : Fit re le bl ma (st + air) lo w0) (h1 : 0 ≤ st ∧ st ≤ 10000) (h2 : 0 ≤ air ∧ air ≤ 10000) :
    Calls Tryd.prog 89 #[.agg #[(.int .i64 (re)), (.int .i64 (le)), (.int .i64 (bl)), (.int .i64 (ma)), (.int .i64 (st)), (.int .i64 (lo))], .agg #[(.int .i64 (air)), (.int .i64 (0)), (.int .i64 (bst)), (.int .i64 (blo))], (.int .i64 (w0))] w
      fun r w' => r = .returned (.agg #[(.int .i64 (nRe re le bl ma (st + air) lo w0)), (.int .i64 (nIm re le bl ma (st + air) lo w0)), (.int .i64 (mRe (st + air) ma w0)), (.int .i64 (mIm lo w0)), (.int .i64 (1)), (.int .i64 (0)), (.int .i64 (0)), (.int .i64 (0)), (.int .i64 (1)), (.int .i64 (0))]) ∧ Below w.heap.size w w' := by
  obtain ⟨⟨m1, m2⟩, ⟨m3, m4⟩⟩ := hF.mech
  obtain ⟨⟨g1, g2⟩, ⟨g3, g4⟩, ⟨g5, g6⟩, ⟨g7, g8⟩, ⟨g9, g10⟩, ⟨g11, g12⟩, ⟨g13, g14⟩⟩ := hF
  have q : Bd 8 w0 := ⟨by omega, by omega⟩
  have q2 : Bd 10 le := ⟨by omega, by omega⟩
  have q3 : Bd 20 bl := ⟨by omega, by omega⟩
  obtain ⟨u1, u2⟩ := q.mul q2 (by omega)
  have v := q.mul q3 (by omega)
  obtain ⟨u3, u4⟩ := v
  obtain ⟨u5, u6⟩ := (q.mul q3 (by omega)).mul q3 (by omega)
  have p0 : Bd 80 re := ⟨by omega, by omega⟩
  have p1' : Bd 80 (w0 * le) := ⟨by omega, by omega⟩
  have p2' : Bd 3200 (w0 * bl * bl) := ⟨by omega, by omega⟩
  have z0 : Bd 3200 0 := ⟨by omega, by omega⟩
  have n1 : Bd 20000 1 := ⟨by omega, by omega⟩
  have n0 : Bd 20000 0 := ⟨by omega, by omega⟩
  have ma' : Bd 20000 (mRe (st + air) ma w0) := ⟨m1, m2⟩
  have mb' : Bd 20000 (mIm lo w0) := ⟨m3, m4⟩
  obtain ⟨t1, t2⟩ := tRe_bd p0 p1' ma' mb' (by omega)
  obtain ⟨t3, t4⟩ := tIm_bd p0 p1' ma' mb' (by omega)
  obtain ⟨t5, t6⟩ := tRe_bd z0 p2' n1 n0 (by omega)
  obtain ⟨t7, t8⟩ := tIm_bd z0 p2' n1 n0 (by omega)
  clear q q2 q3 p0 p1' p2' z0 n1 n0 ma' mb'
  go_enter Tryd.func89, Tryd.ntmps89
  go_wp2_with (first | (go_at_call 78; refine (refMech_any _ _ _ _ _ ⟨by omega, by omega⟩ ⟨by omega, by omega⟩ ⟨by omega, by omega⟩ ⟨by omega, by omega⟩).mono ?_; rintro r w1 ⟨rfl, hb⟩; obtain ⟨hc, hf⟩ := bcell hb; have hz := hb.size; (try simp at hz); (try have hz0 : w.heap.size < w1.heap.size := by omega); (try have hz1 : w.heap.size + 1 < w1.heap.size := by omega); (try have hz2 : w.heap.size + 1 + 1 < w1.heap.size := by omega); (try have hz3 : w.heap.size + 1 + 1 + 1 < w1.heap.size := by omega); (try have hz4 : w.heap.size + 1 + 1 + 1 + 1 < w1.heap.size := by omega); (try have hz5 : w.heap.size + 1 + 1 + 1 + 1 + 1 < w1.heap.size := by omega); (try have hz6 : w.heap.size + 1 + 1 + 1 + 1 + 1 + 1 < w1.heap.size := by omega)) | (go_at_call 90; refine (whole_any _ _).mono ?_; rintro r w1 ⟨rfl, hb⟩; obtain ⟨hc, hf⟩ := bcell hb; have hz := hb.size; (try simp at hz); (try have hz0 : w.heap.size < w1.heap.size := by omega); (try have hz1 : w.heap.size + 1 < w1.heap.size := by omega); (try have hz2 : w.heap.size + 1 + 1 < w1.heap.size := by omega); (try have hz3 : w.heap.size + 1 + 1 + 1 < w1.heap.size := by omega); (try have hz4 : w.heap.size + 1 + 1 + 1 + 1 < w1.heap.size := by omega); (try have hz5 : w.heap.size + 1 + 1 + 1 + 1 + 1 < w1.heap.size := by omega); (try have hz6 : w.heap.size + 1 + 1 + 1 + 1 + 1 + 1 < w1.heap.size := by omega)))
  refine Calm.still_tail 9 (by kernel_rfl) (by kernel_rfl) ?_
  simp only [List.take_succ_cons, List.take_zero, List.drop_succ_cons, List.drop_zero]
  repeat (first | (first | (apply Calm.still_op_move; (focus rfl); (focus (first | exact .inl rfl | exact .inr rfl)); (focus ((try simp only [Act.eval, Array.getD_eq_getD_getElem?, List.getElem?_toArray, List.getElem?_cons_succ, List.getElem?_cons_zero, Option.getD_some]); rfl)); (try simp only [Act.put, List.setIfInBounds_toArray, List.set_cons_zero, List.set_cons_succ])) | (apply Calm.still_op_not; (focus rfl); (try simp only [Act.put, List.setIfInBounds_toArray, List.set_cons_zero, List.set_cons_succ])) | (apply Calm.still_op; (focus rfl); (focus (intro W hb; obtain ⟨hc, hf⟩ := bcell hb; clear hb hf; go_simp; (try go_bits); (try rfl); done)); (try simp only [Act.put, List.setIfInBounds_toArray, List.set_cons_zero, List.set_cons_succ]))) | (apply Calm.still_op_call; (focus rfl); (focus (intro W hb; obtain ⟨hc, hf⟩ := bcell hb; clear hb hf; go_simp; refine ⟨?_, ?_⟩; rfl; rfl)); (focus (intro W hb; first | (go_at_call 52; exact Calm.call_below hb (qTimes_any _ _ _ _ _ ⟨by omega, by omega⟩ ⟨by omega, by omega⟩ ⟨by omega, by omega⟩ ⟨by omega, by omega⟩)) | (go_at_call 113; exact Calm.call_below hb (qPlus_any _ _ _ _ _ ⟨by omega, by omega⟩ ⟨by omega, by omega⟩ ⟨by omega, by omega⟩ ⟨by omega, by omega⟩)))); (try simp only [Act.put, List.setIfInBounds_toArray, List.set_cons_zero, List.set_cons_succ])))
  refine Calm.still_nil ?_
  intro w5 hb5
  obtain ⟨hb5c, hb5f⟩ := bcell hb5
  have hb5z := hb5.size
  (try simp at hb5z)
  (try have hb5z0 : w.heap.size < w5.heap.size := by omega)
  (try have hb5z1 : w.heap.size + 1 < w5.heap.size := by omega)
  (try have hb5z2 : w.heap.size + 1 + 1 < w5.heap.size := by omega)
  (try have hb5z3 : w.heap.size + 1 + 1 + 1 < w5.heap.size := by omega)
  (try have hb5z4 : w.heap.size + 1 + 1 + 1 + 1 < w5.heap.size := by omega)
  (try have hb5z5 : w.heap.size + 1 + 1 + 1 + 1 + 1 < w5.heap.size := by omega)
  go_wp2
  refine bodyPost_ret (v := .agg #[(.int .i64 (nRe re le bl ma (st + air) lo w0)), (.int .i64 (nIm re le bl ma (st + air) lo w0)), (.int .i64 (mRe (st + air) ma w0)), (.int .i64 (mIm lo w0)), (.int .i64 (1)), (.int .i64 (0)), (.int .i64 (0)), (.int .i64 (0)), (.int .i64 (1)), (.int .i64 (0))]) (by simp [results, Tryd.results89, go_sem, nRe, nIm, eRe, eIm, *]) rfl ⟨rfl, ?_⟩
  repeat (first | (with_reducible exact Below.refl _ _) | ((with_reducible refine Below.setCell ?_ ?_ _); rotate_left 1; focus (first | (simp; done) | (simp; omega) | (simp at *; omega))) | ((with_reducible refine Below.alloc ?_ ?_ _); rotate_left 1; focus (first | (simp; done) | (simp; omega) | (simp at *; omega))) | (with_reducible refine Below.drew ?_) | ((with_reducible refine Calm.step (by assumption) ?_ ?_); rotate_left 1; focus (first | (simp; done) | (simp; omega) | (simp at *; omega))))
end Go.Proofs.YtpkldjlljoledaaDoor

/- Contracts of the reference's quotients, without a port. %still -/
namespace Go.Proofs.YtpkldjlljoledaaDoor
open Go.RowKit
open Calm (bcell Blk)

set_option maxHeartbeats 2000000 in
theorem refBoxed_shut (re le bl ma st lo air bst blo w0 : Int) (w : World) (hF : Fit re le bl ma (st + air) lo w0) (h1 : 0 ≤ st ∧ st ≤ 10000) (h2 : 0 ≤ air ∧ air ≤ 10000) :
    Calls Tryd.prog 30 #[.agg #[(.int .i64 (re)), (.int .i64 (le)), (.int .i64 (bl)), (.int .i64 (ma)), (.int .i64 (st)), (.int .i64 (lo))], .agg #[(.int .i64 (air)), (.int .i64 (0)), (.int .i64 (bst)), (.int .i64 (blo))], (.int .i64 (w0))] w
      fun r w' => r = .returned (.agg #[(.int .i64 (nRe re le bl ma (st + air) lo w0)), (.int .i64 (nIm re le bl ma (st + air) lo w0)), (.int .i64 (mRe (st + air) ma w0)), (.int .i64 (mIm lo w0))]) ∧ Below w.heap.size w w' := by
  go_enter Tryd.func30, Tryd.ntmps30
  go_wp2_with (first | (go_at_call 89; refine (sides_shut _ _ _ _ _ _ _ _ _ _ _ hF h1 h2).mono ?_; rintro r w1 ⟨rfl, hb⟩; obtain ⟨hc, hf⟩ := bcell hb; have hz := hb.size; (try simp at hz); (try have hz0 : w.heap.size < w1.heap.size := by omega); (try have hz1 : w.heap.size + 1 < w1.heap.size := by omega); (try have hz2 : w.heap.size + 1 + 1 < w1.heap.size := by omega); (try have hz3 : w.heap.size + 1 + 1 + 1 < w1.heap.size := by omega); (try have hz4 : w.heap.size + 1 + 1 + 1 + 1 < w1.heap.size := by omega); (try have hz5 : w.heap.size + 1 + 1 + 1 + 1 + 1 < w1.heap.size := by omega); (try have hz6 : w.heap.size + 1 + 1 + 1 + 1 + 1 + 1 < w1.heap.size := by omega)))
  refine bodyPost_ret (v := .agg #[(.int .i64 (nRe re le bl ma (st + air) lo w0)), (.int .i64 (nIm re le bl ma (st + air) lo w0)), (.int .i64 (mRe (st + air) ma w0)), (.int .i64 (mIm lo w0))]) (by simp [results, Tryd.results30, go_sem, *]) rfl ⟨rfl, ?_⟩
  repeat (first | (with_reducible exact Below.refl _ _) | ((with_reducible refine Below.setCell ?_ ?_ _); rotate_left 1; focus (first | (simp; done) | (simp; omega) | (simp at *; omega))) | ((with_reducible refine Below.alloc ?_ ?_ _); rotate_left 1; focus (first | (simp; done) | (simp; omega) | (simp at *; omega))) | (with_reducible refine Below.drew ?_) | ((with_reducible refine Calm.step (by assumption) ?_ ?_); rotate_left 1; focus (first | (simp; done) | (simp; omega) | (simp at *; omega))))
theorem refImpedance_any (re le bl ma st lo w0 : Int) (w : World) (hF : Fit re le bl ma st lo w0) :
    Calls Tryd.prog 20 #[.agg #[(.int .i64 (re)), (.int .i64 (le)), (.int .i64 (bl)), (.int .i64 (ma)), (.int .i64 (st)), (.int .i64 (lo))], (.int .i64 (w0))] w
      fun r w' => r = .returned (.agg #[(.int .i64 (nRe re le bl ma st lo w0)), (.int .i64 (nIm re le bl ma st lo w0)), (.int .i64 (mRe st ma w0)), (.int .i64 (mIm lo w0))]) ∧ Below w.heap.size w w' := by
  have h1 : 0 ≤ st ∧ st ≤ 10000 := by have := hF.st; omega
  have h2 : 0 ≤ (0 : Int) ∧ (0 : Int) ≤ 10000 := by omega
  obtain ⟨s, hs⟩ : ∃ s, s = st + 0 := ⟨_, rfl⟩
  have hs2 : st = s := by omega
  rw [hs2, hs] at hF
  rw [show nRe re le bl ma st lo w0 = nRe re le bl ma (st + 0) lo w0 by rw [Int.add_zero], show nIm re le bl ma st lo w0 = nIm re le bl ma (st + 0) lo w0 by rw [Int.add_zero], show mRe st ma w0 = mRe (st + 0) ma w0 by rw [Int.add_zero]]
  clear hs hs2
  have HF := Lib.hid hF
  clear hF
  go_enter Tryd.func20, Tryd.ntmps20
  go_wp2_with (go_at_call 30; refine (refBoxed_shut re le bl ma st lo 0 0 0 w0 _ HF.out h1 h2).mono ?_; rintro r w1 ⟨rfl, hb⟩; obtain ⟨hc, hf⟩ := bcell hb; have hz := hb.size; (try simp at hz); (try have hz0 : w.heap.size < w1.heap.size := by omega); (try have hz1 : w.heap.size + 1 < w1.heap.size := by omega))
  refine bodyPost_ret (v := .agg #[(.int .i64 (nRe re le bl ma (st + 0) lo w0)), (.int .i64 (nIm re le bl ma (st + 0) lo w0)), (.int .i64 (mRe (st + 0) ma w0)), (.int .i64 (mIm lo w0))]) (by simp [results, Tryd.results20, go_sem, *]) rfl ⟨rfl, ?_⟩
  repeat (first | (with_reducible exact Below.refl _ _) | ((with_reducible refine Below.setCell ?_ ?_ _); rotate_left 1; focus (first | (simp; done) | (simp; omega) | (simp at *; omega))) | ((with_reducible refine Below.alloc ?_ ?_ _); rotate_left 1; focus (first | (simp; done) | (simp; omega) | (simp at *; omega))) | (with_reducible refine Below.drew ?_) | ((with_reducible refine Calm.step (by assumption) ?_ ?_); rotate_left 1; focus (first | (simp; done) | (simp; omega) | (simp at *; omega))))
end Go.Proofs.YtpkldjlljoledaaDoor

/- Contracts of the reference's outputs, without a port. %still -/
namespace Go.Proofs.YtpkldjlljoledaaDoor
open Go.RowKit
open Calm (bcell Blk)

set_option maxHeartbeats 2000000 in
theorem refRadiated_shut (re le bl ma st lo air bst blo w0 : Int) (w : World) (hF : Fit re le bl ma (st + air) lo w0) (h1 : 0 ≤ st ∧ st ≤ 10000) (h2 : 0 ≤ air ∧ air ≤ 10000) :
    Calls Tryd.prog 31 #[.agg #[(.int .i64 (re)), (.int .i64 (le)), (.int .i64 (bl)), (.int .i64 (ma)), (.int .i64 (st)), (.int .i64 (lo))], .agg #[(.int .i64 (air)), (.int .i64 (0)), (.int .i64 (bst)), (.int .i64 (blo))], (.int .i64 (w0))] w
      fun r w' => r = .returned (.agg #[(.int .i64 (tRe (0 - w0 * w0 * bl) 0 1 0)), (.int .i64 (tIm (0 - w0 * w0 * bl) 0 1 0)), (.int .i64 (nRe re le bl ma (st + air) lo w0)), (.int .i64 (nIm re le bl ma (st + air) lo w0))]) ∧ Below w.heap.size w w' := by
  have g1 := hF.bl
  have g2 := hF.w
  have q : Bd 8 w0 := ⟨by omega, by omega⟩
  have q3 : Bd 20 bl := ⟨by omega, by omega⟩
  obtain ⟨u1, u2⟩ := q.mul q (by omega)
  obtain ⟨u3, u4⟩ := (q.mul q (by omega)).mul q3 (by omega)
  clear q q3
  go_enter Tryd.func31, Tryd.ntmps31
  go_wp2_with (first | (go_at_call 89; refine (sides_shut _ _ _ _ _ _ _ _ _ _ _ hF h1 h2).mono ?_; rintro r w1 ⟨rfl, hb⟩; obtain ⟨hc, hf⟩ := bcell hb; have hz := hb.size; (try simp at hz); (try have hz0 : w.heap.size < w1.heap.size := by omega); (try have hz1 : w.heap.size + 1 < w1.heap.size := by omega); (try have hz2 : w.heap.size + 1 + 1 < w1.heap.size := by omega); (try have hz3 : w.heap.size + 1 + 1 + 1 < w1.heap.size := by omega); (try have hz4 : w.heap.size + 1 + 1 + 1 + 1 < w1.heap.size := by omega); (try have hz5 : w.heap.size + 1 + 1 + 1 + 1 + 1 < w1.heap.size := by omega); (try have hz6 : w.heap.size + 1 + 1 + 1 + 1 + 1 + 1 < w1.heap.size := by omega)))
  refine Calm.still_tail 14 (by kernel_rfl) (by kernel_rfl) ?_
  simp only [List.take_succ_cons, List.take_zero, List.drop_succ_cons, List.drop_zero]
  repeat (first | (first | (apply Calm.still_op_move; (focus rfl); (focus (first | exact .inl rfl | exact .inr rfl)); (focus ((try simp only [Act.eval, Array.getD_eq_getD_getElem?, List.getElem?_toArray, List.getElem?_cons_succ, List.getElem?_cons_zero, Option.getD_some]); rfl)); (try simp only [Act.put, List.setIfInBounds_toArray, List.set_cons_zero, List.set_cons_succ])) | (apply Calm.still_op_not; (focus rfl); (try simp only [Act.put, List.setIfInBounds_toArray, List.set_cons_zero, List.set_cons_succ])) | (apply Calm.still_op; (focus rfl); (focus (intro W hb; obtain ⟨hc, hf⟩ := bcell hb; clear hb hf; go_simp; (try go_bits); (try rfl); done)); (try simp only [Act.put, List.setIfInBounds_toArray, List.set_cons_zero, List.set_cons_succ]))) | (apply Calm.still_op_call; (focus rfl); (focus (intro W hb; obtain ⟨hc, hf⟩ := bcell hb; clear hb hf; go_simp; refine ⟨?_, ?_⟩; rfl; rfl)); (focus (intro W hb; first | (go_at_call 90; exact Calm.call_below hb (whole_any _ _)) | (go_at_call 52; exact Calm.call_below hb (qTimes_any _ _ _ _ _ ⟨by omega, by omega⟩ ⟨by omega, by omega⟩ ⟨by omega, by omega⟩ ⟨by omega, by omega⟩)))); (try simp only [Act.put, List.setIfInBounds_toArray, List.set_cons_zero, List.set_cons_succ])))
  refine Calm.still_nil ?_
  intro w5 hb5
  obtain ⟨hb5c, hb5f⟩ := bcell hb5
  have hb5z := hb5.size
  (try simp at hb5z)
  (try have hb5z0 : w.heap.size < w5.heap.size := by omega)
  (try have hb5z1 : w.heap.size + 1 < w5.heap.size := by omega)
  (try have hb5z2 : w.heap.size + 1 + 1 < w5.heap.size := by omega)
  (try have hb5z3 : w.heap.size + 1 + 1 + 1 < w5.heap.size := by omega)
  (try have hb5z4 : w.heap.size + 1 + 1 + 1 + 1 < w5.heap.size := by omega)
  (try have hb5z5 : w.heap.size + 1 + 1 + 1 + 1 + 1 < w5.heap.size := by omega)
  go_wp2
  refine bodyPost_ret (v := .agg #[(.int .i64 (tRe (0 - w0 * w0 * bl) 0 1 0)), (.int .i64 (tIm (0 - w0 * w0 * bl) 0 1 0)), (.int .i64 (nRe re le bl ma (st + air) lo w0)), (.int .i64 (nIm re le bl ma (st + air) lo w0))]) (by simp [results, Tryd.results31, go_sem, *]) rfl ⟨rfl, ?_⟩
  repeat (first | (with_reducible exact Below.refl _ _) | ((with_reducible refine Below.setCell ?_ ?_ _); rotate_left 1; focus (first | (simp; done) | (simp; omega) | (simp at *; omega))) | ((with_reducible refine Below.alloc ?_ ?_ _); rotate_left 1; focus (first | (simp; done) | (simp; omega) | (simp at *; omega))) | (with_reducible refine Below.drew ?_) | ((with_reducible refine Calm.step (by assumption) ?_ ?_); rotate_left 1; focus (first | (simp; done) | (simp; omega) | (simp at *; omega))))
theorem fit0 {re le bl ma st lo w0 : Int} (hF : Fit re le bl ma st lo w0) : Fit re le bl ma (st + 0) lo w0 := by rw [Int.add_zero]; exact hF
theorem refOutput_any (re le bl ma st lo w0 : Int) (w : World) (hF : Fit re le bl ma st lo w0) :
    Calls Tryd.prog 22 #[.agg #[(.int .i64 (re)), (.int .i64 (le)), (.int .i64 (bl)), (.int .i64 (ma)), (.int .i64 (st)), (.int .i64 (lo))], (.int .i64 (w0))] w
      fun r w' => r = .returned (.agg #[(.int .i64 (tRe (0 - w0 * w0 * bl) 0 1 0)), (.int .i64 (tIm (0 - w0 * w0 * bl) 0 1 0)), (.int .i64 (nRe re le bl ma st lo w0)), (.int .i64 (nIm re le bl ma st lo w0))]) ∧ Below w.heap.size w w' := by
  have h1 : 0 ≤ st ∧ st ≤ 10000 := by have := hF.st; omega
  have h2 : 0 ≤ (0 : Int) ∧ (0 : Int) ≤ 10000 := by omega
  rw [show nRe re le bl ma st lo w0 = nRe re le bl ma (st + 0) lo w0 by rw [Int.add_zero], show nIm re le bl ma st lo w0 = nIm re le bl ma (st + 0) lo w0 by rw [Int.add_zero]]
  have HF := Lib.hid (fit0 hF)
  clear hF
  go_enter Tryd.func22, Tryd.ntmps22
  go_wp2_with (go_at_call 31; refine (refRadiated_shut re le bl ma st lo 0 0 0 w0 _ HF.out h1 h2).mono ?_; rintro r w1 ⟨rfl, hb⟩; obtain ⟨hc, hf⟩ := bcell hb; have hz := hb.size; (try simp at hz); (try have hz0 : w.heap.size < w1.heap.size := by omega); (try have hz1 : w.heap.size + 1 < w1.heap.size := by omega))
  refine bodyPost_ret (v := .agg #[(.int .i64 (tRe (0 - w0 * w0 * bl) 0 1 0)), (.int .i64 (tIm (0 - w0 * w0 * bl) 0 1 0)), (.int .i64 (nRe re le bl ma (st + 0) lo w0)), (.int .i64 (nIm re le bl ma (st + 0) lo w0))]) (by simp [results, Tryd.results22, go_sem, *]) rfl ⟨rfl, ?_⟩
  repeat (first | (with_reducible exact Below.refl _ _) | ((with_reducible refine Below.setCell ?_ ?_ _); rotate_left 1; focus (first | (simp; done) | (simp; omega) | (simp at *; omega))) | ((with_reducible refine Below.alloc ?_ ?_ _); rotate_left 1; focus (first | (simp; done) | (simp; omega) | (simp at *; omega))) | (with_reducible refine Below.drew ?_) | ((with_reducible refine Calm.step (by assumption) ?_ ?_); rotate_left 1; focus (first | (simp; done) | (simp; omega) | (simp at *; omega))))

end Go.Proofs.YtpkldjlljoledaaDoor

/- Contract of the reference's movements, without a port %still -/
namespace Go.Proofs.YtpkldjlljoledaaDoor
open Go.RowKit
open Calm (bcell Blk)

theorem Calm.Blk.put {w : World} {g : Nat} {cs : Array Value} (h : Blk w g cs) (i : Nat) (hi : i < cs.size) (v : Value) : Blk (w.setCell ⟨g, i, none⟩ v) g (cs.setIfInBounds i v) := by
  refine ⟨by simpa using h.lt, fun j => ?_, fun j => by rw [World.frozen?_setCell]; exact h.f j⟩
  by_cases hij : i = j
  · subst hij
    rw [World.cell?_setCell_same w _ v (u := cs[i]) (by rw [h.c i]; simp [hi])]
    simp [hi]
  · rw [World.cell?_setCell_other w ⟨g, i, none⟩ ⟨g, j, none⟩ v (by intro e; cases e; exact hij rfl), h.c j]
    simp [Array.getElem?_setIfInBounds, hij]

set_option maxRecDepth 100000 in
set_option maxHeartbeats 4000000 in
theorem refMoved_shut (re le bl ma st lo air bst blo w0 : Int) (w : World) (hF : Fit re le bl ma (st + air) lo w0) (h1 : 0 ≤ st ∧ st ≤ 10000) (h2 : 0 ≤ air ∧ air ≤ 10000) :
    Calls Tryd.prog 32 #[.agg #[(.int .i64 (re)), (.int .i64 (le)), (.int .i64 (bl)), (.int .i64 (ma)), (.int .i64 (st)), (.int .i64 (lo))], .agg #[(.int .i64 (air)), (.int .i64 (0)), (.int .i64 (bst)), (.int .i64 (blo))], (.int .i64 (w0))] w
      fun r w' => r = .returned (.agg #[(.int .i64 (tRe bl 0 1 0)), (.int .i64 (tIm bl 0 1 0)), (.int .i64 (nRe re le bl ma (st + air) lo w0)), (.int .i64 (nIm re le bl ma (st + air) lo w0)), (.int .i64 (0)), (.int .i64 (0)), (.int .i64 (1)), (.int .i64 (0))]) ∧ Below w.heap.size w w' := by
  have g1 := hF.bl
  go_enter Tryd.func32, Tryd.ntmps32
  go_wp2_with (first | (go_at_call 89; refine (sides_shut _ _ _ _ _ _ _ _ _ _ _ hF h1 h2).mono ?_; rintro r w1 ⟨rfl, hb⟩; obtain ⟨hc, hf⟩ := bcell hb; have hz := hb.size; (try simp at hz); (try have hz0 : w.heap.size < w1.heap.size := by omega); (try have hz1 : w.heap.size + 1 < w1.heap.size := by omega); (try have hz2 : w.heap.size + 1 + 1 < w1.heap.size := by omega); (try have hz3 : w.heap.size + 1 + 1 + 1 < w1.heap.size := by omega); (try have hz4 : w.heap.size + 1 + 1 + 1 + 1 < w1.heap.size := by omega); (try have hz5 : w.heap.size + 1 + 1 + 1 + 1 + 1 < w1.heap.size := by omega); (try have hz6 : w.heap.size + 1 + 1 + 1 + 1 + 1 + 1 < w1.heap.size := by omega)))
  refine Rel.region2 20 (by kernel_rfl) (by kernel_rfl) (by kernel_rfl) (by kernel_rfl) ?_
  simp only [List.take_succ_cons, List.take_zero, List.drop_succ_cons, List.drop_zero, List.filterMap_cons, List.filterMap_nil]
  repeat (first | (apply Rel.op; (focus rfl); (focus (intro a W hb hd hbase; obtain ⟨hc, hf⟩ := bcell hb; clear hb hf; simp [Rel.deps, Rel.dep1, Act.eval] at hd; simp only [Act.eval, List.mem_cons, List.not_mem_nil, not_or, and_imp, or_false, Array.getD_eq_getD_getElem?] at hbase; go_simp; (try go_bits); (try rfl); done)); (try simp only [List.nil_append, List.cons_append])) | (apply Rel.alloc; (focus rfl); (focus (intro a W; go_simp; refine ⟨?_, ?_⟩; rfl; rfl)); (try simp only [List.nil_append, List.cons_append])) | (apply Rel.alloc; (focus rfl); (focus (intro a W; go_simp; rfl)); (try simp only [List.nil_append, List.cons_append])) | (apply Rel.call_eq; (focus rfl); (focus (intro a W hb hd hbase; obtain ⟨hc, hf⟩ := bcell hb; clear hb hf; simp [Rel.deps, Rel.dep1, Act.eval] at hd; simp only [Act.eval, List.mem_cons, List.not_mem_nil, not_or, and_imp, or_false, Array.getD_eq_getD_getElem?] at hbase; go_simp; refine ⟨?_, ?_⟩; rfl; rfl)); (focus (intro W hb; first | (go_at_call 90; exact (whole_any _ _)) | (go_at_call 52; exact (qTimes_any _ _ _ _ _ ⟨by omega, by omega⟩ ⟨by omega, by omega⟩ ⟨by omega, by omega⟩ ⟨by omega, by omega⟩)))); (try simp only [List.nil_append, List.cons_append])))
  refine Rel.done ?_
  intro x w5 hb5 hx
  simp only [Rel.facts, Nat.zero_add, Nat.reduceAdd] at hx
  obtain ⟨e0, e1, e2, e3, e4, e5, e6, e7, e8, e9, e10, e11, e12, e13, e14, e15, e16, e17, e18, ⟨g, e19, gB, gk⟩, _⟩ := hx
  simp only [Rel.fill, Nat.zero_add, Nat.reduceAdd, e0, e1, e2, e3, e4, e5, e6, e7, e8, e9, e10, e11, e12, e13, e14, e15, e16, e17, e18, e19]
  simp only [Act.put, List.setIfInBounds_toArray, List.set_cons_zero, List.set_cons_succ]
  clear e0 e1 e2 e3 e4 e5 e6 e7 e8 e9 e10 e11 e12 e13 e14 e15 e16 e17 e18 e19
  clear x
  obtain ⟨hb5c, hb5f⟩ := bcell hb5
  have hb5z := hb5.size
  (try simp at hb5z)
  (try have hb5z0 : w.heap.size < w5.heap.size := by omega)
  (try have hb5z1 : w.heap.size + 1 < w5.heap.size := by omega)
  (try have hb5z2 : w.heap.size + 1 + 1 < w5.heap.size := by omega)
  (try have hb5z3 : w.heap.size + 1 + 1 + 1 < w5.heap.size := by omega)
  (try have hb5z4 : w.heap.size + 1 + 1 + 1 + 1 < w5.heap.size := by omega)
  (try have hb5z5 : w.heap.size + 1 + 1 + 1 + 1 + 1 < w5.heap.size := by omega)
  have gf := gk.f
  have gl := gk.lt
  have gc := gk.c
  simp at gB
  have gn2' : g ≠ w.heap.size + 1 + 1 := by omega
  have gn1' : g ≠ w.heap.size + 1 := by omega
  have gB' : w.heap.size ≤ g := by omega
  have R1 : Blk w1 (w.heap.size + 1 + 1) #[(.int .i64 (0)), (.int .i64 (0)), (.int .i64 (0)), (.int .i64 (0)), (.int .i64 (0)), (.int .i64 (0)), (.int .i64 (0)), (.int .i64 (0))] := (Blk.at_ (by simp)).below hb
  have R5 := (R1.alloc _).below hb5
  have R6 := ((((((((R5.far (p := ⟨g, 0, none⟩) gn2' (.int .i64 (tRe bl 0 1 0))).far (p := ⟨g, 1, none⟩) gn2' (.int .i64 (tIm bl 0 1 0))).far (p := ⟨g, 2, none⟩) gn2' (.int .i64 (nRe re le bl ma (st + air) lo w0))).far (p := ⟨g, 3, none⟩) gn2' (.int .i64 (nIm re le bl ma (st + air) lo w0))).far (p := ⟨g, 4, none⟩) gn2' (.int .i64 (tRe bl 0 0 0))).far (p := ⟨g, 5, none⟩) gn2' (.int .i64 (tIm bl 0 0 0))).far (p := ⟨g, 6, none⟩) gn2' (.int .i64 (nRe re le bl ma (st + air) lo w0))).far (p := ⟨g, 7, none⟩) gn2' (.int .i64 (nIm re le bl ma (st + air) lo w0)))
  have D1 : Blk w1 (w.heap.size + 1) #[(.int .i64 (air)), (.int .i64 (0)), (.int .i64 (bst)), (.int .i64 (blo))] := ((Blk.at_ (by simp) : Blk ((w.alloc _).alloc (.cells #[(.int .i64 (air)), (.int .i64 (0)), (.int .i64 (bst)), (.int .i64 (blo))] _)) _ _).alloc _).below hb
  have D5 := (D1.alloc _).below hb5
  have D6 := ((((((((D5.far (p := ⟨g, 0, none⟩) gn1' (.int .i64 (tRe bl 0 1 0))).far (p := ⟨g, 1, none⟩) gn1' (.int .i64 (tIm bl 0 1 0))).far (p := ⟨g, 2, none⟩) gn1' (.int .i64 (nRe re le bl ma (st + air) lo w0))).far (p := ⟨g, 3, none⟩) gn1' (.int .i64 (nIm re le bl ma (st + air) lo w0))).far (p := ⟨g, 4, none⟩) gn1' (.int .i64 (tRe bl 0 0 0))).far (p := ⟨g, 5, none⟩) gn1' (.int .i64 (tIm bl 0 0 0))).far (p := ⟨g, 6, none⟩) gn1' (.int .i64 (nRe re le bl ma (st + air) lo w0))).far (p := ⟨g, 7, none⟩) gn1' (.int .i64 (nIm re le bl ma (st + air) lo w0)))
  have B5 : Below w.heap.size w w5 := by
    repeat (first | (with_reducible exact Below.refl _ _) | ((with_reducible refine Below.setCell ?_ ?_ _); rotate_left 1; focus (first | (simp; done) | (simp; omega) | (simp at *; omega))) | ((with_reducible refine Below.alloc ?_ ?_ _); rotate_left 1; focus (first | (simp; done) | (simp; omega) | (simp at *; omega))) | (with_reducible refine Below.drew ?_) | ((with_reducible refine Calm.step (by assumption) ?_ ?_); rotate_left 1; focus (first | (simp; done) | (simp; omega) | (simp at *; omega))))
  have B6 := ((((((((B5.setCell (p := ⟨g, 0, none⟩) gB' (.int .i64 (tRe bl 0 1 0))).setCell (p := ⟨g, 1, none⟩) gB' (.int .i64 (tIm bl 0 1 0))).setCell (p := ⟨g, 2, none⟩) gB' (.int .i64 (nRe re le bl ma (st + air) lo w0))).setCell (p := ⟨g, 3, none⟩) gB' (.int .i64 (nIm re le bl ma (st + air) lo w0))).setCell (p := ⟨g, 4, none⟩) gB' (.int .i64 (tRe bl 0 0 0))).setCell (p := ⟨g, 5, none⟩) gB' (.int .i64 (tIm bl 0 0 0))).setCell (p := ⟨g, 6, none⟩) gB' (.int .i64 (nRe re le bl ma (st + air) lo w0))).setCell (p := ⟨g, 7, none⟩) gB' (.int .i64 (nIm re le bl ma (st + air) lo w0)))
  have G6 := ((((((((gk.put 0 (by simp) (.int .i64 (tRe bl 0 1 0))).put 1 (by simp) (.int .i64 (tIm bl 0 1 0))).put 2 (by simp) (.int .i64 (nRe re le bl ma (st + air) lo w0))).put 3 (by simp) (.int .i64 (nIm re le bl ma (st + air) lo w0))).put 4 (by simp) (.int .i64 (tRe bl 0 0 0))).put 5 (by simp) (.int .i64 (tIm bl 0 0 0))).put 6 (by simp) (.int .i64 (nRe re le bl ma (st + air) lo w0))).put 7 (by simp) (.int .i64 (nIm re le bl ma (st + air) lo w0)))
  have G6' : Blk _ g #[(.int .i64 (tRe bl 0 1 0)), (.int .i64 (tIm bl 0 1 0)), (.int .i64 (nRe re le bl ma (st + air) lo w0)), (.int .i64 (nIm re le bl ma (st + air) lo w0)), (.int .i64 (tRe bl 0 0 0)), (.int .i64 (tIm bl 0 0 0)), (.int .i64 (nRe re le bl ma (st + air) lo w0)), (.int .i64 (nIm re le bl ma (st + air) lo w0))] := G6
  have HR := Lib.hid R6
  have HD := Lib.hid D6
  have HG := Lib.hid G6'
  have HB := Lib.hid B6
  clear R1 R5 R6 B5 B6 G6 G6' D1 D5 D6
  have d0 := HD.out.cell 1 (.int .i64 (0)) rfl
  have dl := HD.out.lt
  go_wp2_with (go_at_call 90; refine (whole_any 0 _).mono ?_; rintro r w6 ⟨rfl, hb6⟩; refine Hid.out ?_)
  unfold Hid
  have KR := HR.out.below hb6
  have KG := HG.out.below hb6
  have KB := HB.out.trans (hb6.mono HB.out.size)
  clear hb6 HR HG HB HD d0 dl hb5 hb5c hb5f gf gl gc gk hc hf hb
  go_wp2_with (go_at_call 90; refine (whole_any 1 _).mono ?_; rintro r w7 ⟨rfl, hb7⟩; refine Hid.out ?_)
  unfold Hid
  have KR7 := KR.below hb7
  have KG7 := KG.below hb7
  have KB7 := KB.trans (hb7.mono KB.size)
  clear hb7 KR KG KB
  have g1c := KG7.cell 0 (.int .i64 (tRe bl 0 1 0)) rfl
  have r1c := KR7.cell 0 (.int .i64 (0)) rfl
  have g2c := KG7.cell 1 (.int .i64 (tIm bl 0 1 0)) rfl
  have r2c := KR7.cell 1 (.int .i64 (0)) rfl
  have g3c := KG7.cell 2 (.int .i64 (nRe re le bl ma (st + air) lo w0)) rfl
  have r3c := KR7.cell 2 (.int .i64 (0)) rfl
  have g4c := KG7.cell 3 (.int .i64 (nIm re le bl ma (st + air) lo w0)) rfl
  have r4c := KR7.cell 3 (.int .i64 (0)) rfl
  have g5c := KG7.cell 4 (.int .i64 (tRe bl 0 0 0)) rfl
  have r5c := KR7.cell 4 (.int .i64 (0)) rfl
  have g6c := KG7.cell 5 (.int .i64 (tIm bl 0 0 0)) rfl
  have r6c := KR7.cell 5 (.int .i64 (0)) rfl
  have g7c := KG7.cell 6 (.int .i64 (nRe re le bl ma (st + air) lo w0)) rfl
  have r7c := KR7.cell 6 (.int .i64 (0)) rfl
  have g8c := KG7.cell 7 (.int .i64 (nIm re le bl ma (st + air) lo w0)) rfl
  have r8c := KR7.cell 7 (.int .i64 (0)) rfl
  have gf := KG7.f
  have gl := KG7.lt
  have rf := KR7.f
  have rl := KR7.lt
  clear KG7 KR7
  have gn3' : ¬ w.heap.size + 1 + 1 = g := by omega
  go_wp2
  refine bodyPost_ret (v := .agg #[(.int .i64 (tRe bl 0 1 0)), (.int .i64 (tIm bl 0 1 0)), (.int .i64 (nRe re le bl ma (st + air) lo w0)), (.int .i64 (nIm re le bl ma (st + air) lo w0)), (.int .i64 (0)), (.int .i64 (0)), (.int .i64 (1)), (.int .i64 (0))]) (by simp [results, Tryd.results32, go_sem, *]) rfl ⟨rfl, ?_⟩
  iterate 12 refine Below.setCell ?_ (by first | exact gB' | (show w.heap.size ≤ w.heap.size + 1 + 1; omega)) _
  exact KB7
end Go.Proofs.YtpkldjlljoledaaDoor

/- Contract of the reference's excursion. -/
namespace Go.Proofs.YtpkldjlljoledaaDoor
open Go.RowKit
open Calm (bcell Blk)

theorem tRe_one (a b : Int) : tRe a b 1 0 = a := by unfold tRe; omega
theorem tIm_one (a b : Int) : tIm a b 1 0 = b := by unfold tIm; omega
theorem index57 (a b c d e f g h : Int) : ∀ w : World, (Instr.index 57 (.agg #[(.int .i64 (a)), (.int .i64 (b)), (.int .i64 (c)), (.int .i64 (d)), (.int .i64 (e)), (.int .i64 (f)), (.int .i64 (g)), (.int .i64 (h))]) (.int .i64 0)).run Tryd.prog w = .ok (.agg #[(.int .i64 (a)), (.int .i64 (b)), (.int .i64 (c)), (.int .i64 (d))]) w := fun _ => by kernel_rfl
set_option maxRecDepth 100000 in
set_option maxHeartbeats 2000000 in
theorem refExcursion_any (re le bl ma st lo w0 : Int) (w : World) (hF : Fit re le bl ma st lo w0) :
    Calls Tryd.prog 21 #[.agg #[(.int .i64 (re)), (.int .i64 (le)), (.int .i64 (bl)), (.int .i64 (ma)), (.int .i64 (st)), (.int .i64 (lo))], (.int .i64 (w0))] w
      fun r w' => r = .returned (.agg #[(.int .i64 (bl)), (.int .i64 (0)), (.int .i64 (nRe re le bl ma st lo w0)), (.int .i64 (nIm re le bl ma st lo w0))]) ∧ Below w.heap.size w w' := by
  have h1 : 0 ≤ st ∧ st ≤ 10000 := by have := hF.st; omega
  have h2 : 0 ≤ (0 : Int) ∧ (0 : Int) ≤ 10000 := by omega
  have HF := Lib.hid (fit0 hF)
  clear hF
  have hix := index57 bl 0 (nRe re le bl ma st lo w0) (nIm re le bl ma st lo w0) 0 0 1 0
  have hM : ∀ W : World, Calls Tryd.prog 32 #[.agg #[(.int .i64 (re)), (.int .i64 (le)), (.int .i64 (bl)), (.int .i64 (ma)), (.int .i64 (st)), (.int .i64 (lo))], .agg #[(.int .i64 (0)), (.int .i64 (0)), (.int .i64 (0)), (.int .i64 (0))], (.int .i64 (w0))] W fun r w' => r = .returned (.agg #[(.int .i64 (bl)), (.int .i64 (0)), (.int .i64 (nRe re le bl ma st lo w0)), (.int .i64 (nIm re le bl ma st lo w0)), (.int .i64 (0)), (.int .i64 (0)), (.int .i64 (1)), (.int .i64 (0))]) ∧ Below W.heap.size W w' := fun W => by
    have := refMoved_shut re le bl ma st lo 0 0 0 w0 W HF.out h1 h2
    rwa [tRe_one, tIm_one, Int.add_zero] at this
  have HM := Lib.hid hM
  clear hM
  go_enter Tryd.func21, Tryd.ntmps21
  go_wp2_with (go_at_call 32; refine (HM.out _).mono ?_; rintro r w1 ⟨rfl, hb⟩; obtain ⟨hc, hf⟩ := bcell hb; have hz := hb.size; (try simp at hz); (try have hz0 : w.heap.size < w1.heap.size := by omega); (try have hz1 : w.heap.size + 1 < w1.heap.size := by omega))
  refine bodyPost_ret (v := .agg #[(.int .i64 (bl)), (.int .i64 (0)), (.int .i64 (nRe re le bl ma st lo w0)), (.int .i64 (nIm re le bl ma st lo w0))]) (by simp [results, Tryd.results21, go_sem, *]) rfl ⟨rfl, ?_⟩
  repeat (first | (with_reducible exact Below.refl _ _) | ((with_reducible refine Below.setCell ?_ ?_ _); rotate_left 1; focus (first | (simp; done) | (simp; omega) | (simp at *; omega))) | ((with_reducible refine Below.alloc ?_ ?_ _); rotate_left 1; focus (first | (simp; done) | (simp; omega) | (simp at *; omega))) | (with_reducible refine Below.drew ?_) | ((with_reducible refine Calm.step (by assumption) ?_ ?_); rotate_left 1; focus (first | (simp; done) | (simp; omega) | (simp at *; omega))))
end Go.Proofs.YtpkldjlljoledaaDoor

/- For walks that store whole results: blocks of four cells; a name for the world. -/
namespace Go.Proofs.YtpkldjlljoledaaDoor
open Go.RowKit
open Calm (bcell Blk)
theorem name_world {C : Code} {P : Program} {Q : Exit → Act → World → Prop} {a : Act} {W : World} (h : ∀ W', W' = W → C.wp P Q a W') : C.wp P Q a W := h W rfl
def st4 (w : World) (g : Nat) (a b c d : Value) : World := (((w.setCell ⟨g, 0, none⟩ a).setCell ⟨g, 1, none⟩ b).setCell ⟨g, 2, none⟩ c).setCell ⟨g, 3, none⟩ d
theorem st4_blk {w : World} {g : Nat} {x y z u : Value} (h : Blk w g #[x, y, z, u]) (a b c d : Value) : Blk (st4 w g a b c d) g #[a, b, c, d] := by
  have := (((h.set (i := 0) (by simp) a).set (i := 1) (by simp) b).set (i := 2) (by simp) c).set (i := 3) (by simp) d
  simpa [st4] using this
theorem st4_far {w : World} {g g' : Nat} {cs : Array Value} (h : Blk w g' cs) (hne : g ≠ g') (a b c d : Value) : Blk (st4 w g a b c d) g' cs := (((h.far hne _).far hne _).far hne _).far hne _
theorem st4_below {B : Nat} {w0 w : World} (h : Below B w0 w) {g : Nat} (hg : B ≤ g) (a b c d : Value) : Below B w0 (st4 w g a b c d) :=
  (((h.setCell (p := ⟨g, 0, none⟩) hg _).setCell (p := ⟨g, 1, none⟩) hg _).setCell (p := ⟨g, 2, none⟩) hg _).setCell (p := ⟨g, 3, none⟩) hg _
theorem oRe_of (bl w0 : Int) : tRe (0 - w0 * w0 * bl) 0 1 0 = oRe bl w0 := by
  unfold tRe oRe
  simp [Int.neg_mul]
theorem oIm_of (bl w0 : Int) : tIm (0 - w0 * w0 * bl) 0 1 0 = 0 := by
  unfold tIm
  simp
theorem refOutput_same (re le bl ma st lo w0 : Int) (w : World) (hF : Fit re le bl ma st lo w0) :
    Calls Tryd.prog 22 #[.agg #[(.int .i64 (re)), (.int .i64 (le)), (.int .i64 (bl)), (.int .i64 (ma)), (.int .i64 (st)), (.int .i64 (lo))], (.int .i64 (w0))] w
      fun r w' => r = .returned (.agg #[(.int .i64 (oRe bl w0)), (.int .i64 (0)), (.int .i64 (nRe re le bl ma st lo w0)), (.int .i64 (nIm re le bl ma st lo w0))]) ∧ Below w.heap.size w w' := by
  have := refOutput_any re le bl ma st lo w0 w hF
  rwa [oRe_of, oIm_of] at this
end Go.Proofs.YtpkldjlljoledaaDoor

/- What DriverWeighs says of numbers: lowest terms, resonances, qualities. No program. -/
namespace Go.Proofs.YtpkldjlljoledaaDoor

theorem pos_right {a b : Int} (ha : 0 < a) (h : 0 < a * b) : 0 < b := by
  by_cases hb : 0 < b
  · exact hb
  · have := Int.mul_le_mul_of_nonneg_left (show b ≤ 0 by omega) (show 0 ≤ a by omega)
    rw [Int.mul_zero] at this
    omega
/-- lowest terms, by what they are. -/
theorem low_spec {n d : Int} (hn : 1 ≤ n) (hd : 1 ≤ d) : ∃ g : Int, 1 ≤ g ∧ n = g * lowN n d ∧ d = g * lowD n d ∧ 1 ≤ lowN n d ∧ 1 ≤ lowD n d ∧ Int.gcd (lowN n d) (lowD n d) = 1 := by
  have hg : 0 < Int.gcd n d := Int.gcd_pos_of_ne_zero_left _ (by omega)
  have e1 : n = (Int.gcd n d : Int) * lowN n d := (Int.mul_ediv_cancel' (Int.gcd_dvd_left ..)).symm
  have e2 : d = (Int.gcd n d : Int) * lowD n d := (Int.mul_ediv_cancel' (Int.gcd_dvd_right ..)).symm
  have hg' : (0 : Int) < (Int.gcd n d : Int) := by omega
  refine ⟨Int.gcd n d, by omega, e1, e2, ?_, ?_, ?_⟩
  · have : 0 < lowN n d := pos_right hg' (by rw [← e1]; omega)
    omega
  · have : 0 < lowD n d := pos_right hg' (by rw [← e2]; omega)
    omega
  · have h : Int.gcd ((Int.gcd n d : Int) * lowN n d) ((Int.gcd n d : Int) * lowD n d) = Int.gcd n d := by rw [← e1, ← e2]
    rw [Int.gcd_mul_left, Int.natAbs_natCast] at h
    exact Nat.eq_of_mul_eq_mul_left hg (by omega)

theorem low_of {n d g N D : Int} (hg : 1 ≤ g) (h1 : n = g * N) (h2 : d = g * D) (h : Int.gcd N D = 1) : lowN n d = N ∧ lowD n d = D := by
  have e : (Int.gcd n d : Int) = g := by rw [h1, h2, Int.gcd_mul_left, h]; omega
  unfold lowN lowD
  rw [e, h1, h2]
  exact ⟨Int.mul_ediv_cancel_left _ (by omega), Int.mul_ediv_cancel_left _ (by omega)⟩

theorem low_scale {n d k : Int} (hn : 1 ≤ n) (hd : 1 ≤ d) (hk : 1 ≤ k) : lowN (k * n) (k * d) = lowN n d ∧ lowD (k * n) (k * d) = lowD n d := by
  obtain ⟨g, hg, e1, e2, _, _, h⟩ := low_spec hn hd
  exact low_of (g := k * g) (by have := Int.mul_pos (show 0 < k by omega) (show 0 < g by omega); omega) (by rw [Int.mul_assoc, ← e1]) (by rw [Int.mul_assoc, ← e2]) h

theorem low_le {n d : Int} (hn : 1 ≤ n) (hd : 1 ≤ d) : (1 ≤ lowN n d ∧ lowN n d ≤ n) ∧ (1 ≤ lowD n d ∧ lowD n d ≤ d) := by
  obtain ⟨g, hg, e1, e2, h1, h2, _⟩ := low_spec hn hd
  refine ⟨⟨h1, ?_⟩, ⟨h2, ?_⟩⟩
  · have := Int.mul_le_mul_of_nonneg_right hg (show 0 ≤ lowN n d by omega)
    omega
  · have := Int.mul_le_mul_of_nonneg_right hg (show 0 ≤ lowD n d by omega)
    omega

theorem low_cross {n d n' d' : Int} (hn : 1 ≤ n) (hd : 1 ≤ d) (hn' : 1 ≤ n') (hd' : 1 ≤ d') (h : n * d' ≤ n' * d) : lowN n d * lowD n' d' ≤ lowN n' d' * lowD n d := by
  obtain ⟨g, hg, e1, e2, _, _, _⟩ := low_spec hn hd
  obtain ⟨g', hg', e1', e2', _, _, _⟩ := low_spec hn' hd'
  have hp : 0 < g * g' := Int.mul_pos (by omega) (by omega)
  refine Int.le_of_mul_le_mul_left ?_ hp
  have a1 : g * g' * (lowN n d * lowD n' d') = n * d' := by
    calc _ = (g * lowN n d) * (g' * lowD n' d') := by ac_rfl
      _ = _ := by rw [← e1, ← e2']
  have a2 : g * g' * (lowN n' d' * lowD n d) = n' * d := by
    calc _ = (g' * lowN n' d') * (g * lowD n d) := by ac_rfl
      _ = _ := by rw [← e1', ← e2]
  rw [a1, a2]
  exact h

/-- the error of a fraction in lowest terms. -/
theorem low_term {n d : Int} (hn : 1 ≤ n) (hn' : n ≤ 10000) (hd : 1 ≤ d) (hd' : d ≤ 10000) : termErr (lowN n d) (lowD n d) = 0 := by
  obtain ⟨g, hg, _, _, h1, h2, h⟩ := low_spec hn hd
  obtain ⟨⟨_, h3⟩, ⟨_, h4⟩⟩ := low_le hn hd
  have hr : termRng (lowN n d) (lowD n d) = 0 := firstOf_eq_zero.2 (by
    simp only [List.mem_cons, List.not_mem_nil, or_false, forall_eq_or_imp, forall_eq, rangeErr_zero]
    omega)
  obtain ⟨e1, e2⟩ := low_of (n := lowN n d) (d := lowD n d) (g := 1) (by omega) (by omega) (by omega) h
  unfold termErr
  rw [if_pos hr, if_pos ⟨e1.symm, e2.symm⟩]

/-- a driver's mass and stiffness, from both resonances. -/
theorem weigh_back {st ma m : Int} (h1 : 1 ≤ st ∧ st ≤ 5000) (h2 : 1 ≤ ma) (h3 : 1 ≤ m) (h4 : ma + m ≤ 100) :
    weighErr (lowN st ma) (lowD st ma) (lowN st (ma + m)) (lowD st (ma + m)) m = 0 ∧ 0 < lowN st ma * lowD st (ma + m) - lowN st (ma + m) * lowD st ma ∧
    (lowN (m * lowN st (ma + m) * lowD st ma) (lowN st ma * lowD st (ma + m) - lowN st (ma + m) * lowD st ma) = ma ∧ lowD (m * lowN st (ma + m) * lowD st ma) (lowN st ma * lowD st (ma + m) - lowN st (ma + m) * lowD st ma) = 1) ∧
    (lowN (m * lowN st (ma + m) * lowN st ma) (lowN st ma * lowD st (ma + m) - lowN st (ma + m) * lowD st ma) = st ∧ lowD (m * lowN st (ma + m) * lowN st ma) (lowN st ma * lowD st (ma + m) - lowN st (ma + m) * lowD st ma) = 1) := by
  have t1 := low_term (n := st) (d := ma) (by omega) (by omega) (by omega) (by omega)
  have t2 := low_term (n := st) (d := ma + m) (by omega) (by omega) (by omega) (by omega)
  obtain ⟨g, hg, e1, e2, p1, p2, _⟩ := low_spec (n := st) (d := ma) (by omega) (by omega)
  obtain ⟨k, hk, f1, f2, q1, q2, _⟩ := low_spec (n := st) (d := ma + m) (by omega) (by omega)
  generalize lowN st ma = F1 at *
  generalize lowD st ma = F2 at *
  generalize lowN st (ma + m) = G1 at *
  generalize lowD st (ma + m) = G2 at *
  have hgk : 0 < g * k := Int.mul_pos (by omega) (by omega)
  have a1 : g * k * (F1 * G2) = st * (ma + m) := by
    calc _ = (g * F1) * (k * G2) := by ac_rfl
      _ = _ := by rw [← e1, ← f2]
  have a2 : g * k * (G1 * F2) = st * ma := by
    calc _ = (k * G1) * (g * F2) := by ac_rfl
      _ = _ := by rw [← f1, ← e2]
  have a3 : g * k * (G1 * F1) = st * st := by
    calc _ = (k * G1) * (g * F1) := by ac_rfl
      _ = _ := by rw [← f1, ← e1]
  have hb : g * k * (F1 * G2 - G1 * F2) = st * m := by
    rw [Int.mul_sub, a1, a2, Int.mul_add]; omega
  have hsm : 0 < st * m := Int.mul_pos (by omega) (by omega)
  have hbp : 0 < F1 * G2 - G1 * F2 := pos_right hgk (by rw [hb]; exact hsm)
  generalize F1 * G2 - G1 * F2 = b at *
  have hm : m * G1 * F2 = b * ma := by
    refine Int.eq_of_mul_eq_mul_left (show g * k ≠ 0 by omega) ?_
    calc g * k * (m * G1 * F2) = m * (g * k * (G1 * F2)) := by ac_rfl
      _ = m * (st * ma) := by rw [a2]
      _ = (st * m) * ma := by ac_rfl
      _ = (g * k * b) * ma := by rw [hb]
      _ = _ := by ac_rfl
  have hs : m * G1 * F1 = b * st := by
    refine Int.eq_of_mul_eq_mul_left (show g * k ≠ 0 by omega) ?_
    calc g * k * (m * G1 * F1) = m * (g * k * (G1 * F1)) := by ac_rfl
      _ = m * (st * st) := by rw [a3]
      _ = (st * m) * st := by ac_rfl
      _ = (g * k * b) * st := by rw [hb]
      _ = _ := by ac_rfl
  refine ⟨firstOf_eq_zero.2 ?_, hbp, low_of (g := b) (by omega) hm (by omega) (Int.gcd_one_right _), low_of (g := b) (by omega) hs (by omega) (Int.gcd_one_right _)⟩
  simp only [List.mem_cons, List.not_mem_nil, or_false, forall_eq_or_imp, forall_eq, rangeErr_zero]
  exact ⟨t1, t2, by omega⟩

/-- the qualities: their bounds; the total one is the least; four times the resistance and twice the motor factor leave the electrical one. -/
theorem qual_bd {re bl ma st lo : Int} (h1 : 1 ≤ re ∧ re ≤ 50) (h2 : 1 ≤ bl ∧ bl ≤ 20) (h3 : 1 ≤ ma ∧ ma ≤ 100) (h4 : 1 ≤ st ∧ st ≤ 5000) (h5 : 1 ≤ lo ∧ lo ≤ 100) :
    (1 ≤ st * ma ∧ st * ma ≤ 500000) ∧ (1 ≤ lo * lo ∧ lo * lo ≤ 10000) ∧ (1 ≤ st * ma * re * re ∧ st * ma * re * re ≤ 1250000000) ∧ (1 ≤ bl * bl * (bl * bl) ∧ bl * bl * (bl * bl) ≤ 160000) ∧
    (1 ≤ (lo * re + bl * bl) * (lo * re + bl * bl) ∧ (lo * re + bl * bl) * (lo * re + bl * bl) ≤ 29160000) := by
  have a1 := rng_mul h4 h3
  have a2 := rng_mul h5 h5
  have a3 := rng_mul (rng_mul a1 h1) h1
  have a4 := rng_mul h2 h2
  have a5 := rng_mul a4 a4
  have a6 := rng_mul h5 h1
  have a7 : 1 ≤ lo * re + bl * bl ∧ lo * re + bl * bl ≤ 5400 := by omega
  have a8 := rng_mul a7 a7
  omega

theorem qual_cross {re bl ma st lo : Int} (h1 : 1 ≤ re ∧ re ≤ 50) (h2 : 1 ≤ bl ∧ bl ≤ 20) (h3 : 1 ≤ ma ∧ ma ≤ 100) (h4 : 1 ≤ st ∧ st ≤ 5000) (h5 : 1 ≤ lo ∧ lo ≤ 100) :
    lowN (st * ma * re * re) ((lo * re + bl * bl) * (lo * re + bl * bl)) * lowD (st * ma) (lo * lo) ≤ lowN (st * ma) (lo * lo) * lowD (st * ma * re * re) ((lo * re + bl * bl) * (lo * re + bl * bl)) ∧
    lowN (st * ma * re * re) ((lo * re + bl * bl) * (lo * re + bl * bl)) * lowD (st * ma * re * re) (bl * bl * (bl * bl)) ≤ lowN (st * ma * re * re) (bl * bl * (bl * bl)) * lowD (st * ma * re * re) ((lo * re + bl * bl) * (lo * re + bl * bl)) := by
  obtain ⟨b1, b2, b3, b4, b5⟩ := qual_bd h1 h2 h3 h4 h5
  have a4 := rng_mul h2 h2
  have a6 := rng_mul h5 h1
  have hsq : ∀ {x y : Int}, 0 ≤ x → x ≤ y → x * x ≤ y * y := fun {x y} h h' => Int.mul_le_mul h' h' h (by omega)
  refine ⟨low_cross (by omega) (by omega) (by omega) (by omega) ?_, low_cross (by omega) (by omega) (by omega) (by omega) ?_⟩
  · have e : (lo * re) * (lo * re) ≤ (lo * re + bl * bl) * (lo * re + bl * bl) := hsq (by omega) (by omega)
    calc st * ma * re * re * (lo * lo) = st * ma * ((lo * re) * (lo * re)) := by ac_rfl
      _ ≤ _ := Int.mul_le_mul_of_nonneg_left e (by omega)
  · have e : bl * bl * (bl * bl) ≤ (lo * re + bl * bl) * (lo * re + bl * bl) := hsq (by omega) (by omega)
    exact Int.mul_le_mul_of_nonneg_left e (by omega)

theorem qual_other {re bl ma st : Int} (h1 : 1 ≤ re ∧ re ≤ 50) (h2 : 1 ≤ bl ∧ bl ≤ 20) (h3 : 1 ≤ ma ∧ ma ≤ 100) (h4 : 1 ≤ st ∧ st ≤ 5000) :
    lowN (st * ma * (4 * re) * (4 * re)) (2 * bl * (2 * bl) * (2 * bl * (2 * bl))) = lowN (st * ma * re * re) (bl * bl * (bl * bl)) ∧
    lowD (st * ma * (4 * re) * (4 * re)) (2 * bl * (2 * bl) * (2 * bl * (2 * bl))) = lowD (st * ma * re * re) (bl * bl * (bl * bl)) := by
  have a1 := rng_mul (rng_mul (rng_mul h4 h3) h1) h1
  have a4 := rng_mul h2 h2
  have a5 := rng_mul a4 a4
  have e1 : st * ma * (4 * re) * (4 * re) = 16 * (st * ma * re * re) := by
    calc _ = 4 * 4 * (st * ma * re * re) := by ac_rfl
      _ = _ := by omega
  have e2 : 2 * bl * (2 * bl) * (2 * bl * (2 * bl)) = 16 * (bl * bl * (bl * bl)) := by
    calc _ = 2 * 2 * (2 * 2) * (bl * bl * (bl * bl)) := by ac_rfl
      _ = _ := by omega
  rw [e1, e2]
  exact low_scale (by omega) (by omega) (by omega)
end Go.Proofs.YtpkldjlljoledaaDoor

/- For the law on weighing: the elements of an array of three fractions. -/
namespace Go.Proofs.YtpkldjlljoledaaDoor
open Go.RowKit
theorem wix0 (a b c d e f : Int) : ∀ w : World, (Instr.index 70 (.agg #[(.int .i64 (a)), (.int .i64 (b)), (.int .i64 (c)), (.int .i64 (d)), (.int .i64 (e)), (.int .i64 (f))]) (.int .i64 0)).run Tryd.prog w = .ok (.agg #[(.int .i64 (a)), (.int .i64 (b))]) w := fun _ => by kernel_rfl
theorem wix1 (a b c d e f : Int) : ∀ w : World, (Instr.index 70 (.agg #[(.int .i64 (a)), (.int .i64 (b)), (.int .i64 (c)), (.int .i64 (d)), (.int .i64 (e)), (.int .i64 (f))]) (.int .i64 1)).run Tryd.prog w = .ok (.agg #[(.int .i64 (c)), (.int .i64 (d))]) w := fun _ => by kernel_rfl
theorem wix2 (a b c d e f : Int) : ∀ w : World, (Instr.index 70 (.agg #[(.int .i64 (a)), (.int .i64 (b)), (.int .i64 (c)), (.int .i64 (d)), (.int .i64 (e)), (.int .i64 (f))]) (.int .i64 2)).run Tryd.prog w = .ok (.agg #[(.int .i64 (e)), (.int .i64 (f))]) w := fun _ => by kernel_rfl

open Calm (bcell Blk)
/-- below block g all is as it was; each cell of block g is as it was, or as it will be. -/
structure Keeps (g : Nat) (new : Array Value) (W W' : World) : Prop where
  below : Below g W W'
  cell : ∀ i, W'.cell? ⟨g, i, none⟩ = W.cell? ⟨g, i, none⟩ ∨ W'.cell? ⟨g, i, none⟩ = new[i]? ∧ ∃ u, W.cell? ⟨g, i, none⟩ = some u
  frozen : ∀ i, W'.frozen? ⟨g, i, none⟩ = W.frozen? ⟨g, i, none⟩
theorem Keeps.refl (g : Nat) (new : Array Value) (W : World) : Keeps g new W W := ⟨Below.refl _ _, fun _ => .inl rfl, fun _ => rfl⟩
theorem Keeps.trans {g : Nat} {new : Array Value} (a b c : World) (h : Keeps g new a b) (h' : Keeps g new b c) : Keeps g new a c := by
  refine ⟨h.below.trans h'.below, fun i => ?_, fun i => (h'.frozen i).trans (h.frozen i)⟩
  rcases h'.cell i with e' | ⟨e', u', hu'⟩
  · rcases h.cell i with e | ⟨e, hu⟩
    · exact .inl (e'.trans e)
    · exact .inr ⟨e'.trans e, hu⟩
  · rcases h.cell i with e | ⟨_, hu⟩
    · exact .inr ⟨e', u', e ▸ hu'⟩
    · exact .inr ⟨e', hu⟩
theorem Keeps.drawn {g : Nat} {new : Array Value} (W : World) : Keeps g new W { W with drawn := W.drawn + 1 } := ⟨(Below.refl _ _).drew, fun _ => .inl rfl, fun _ => rfl⟩
theorem Keeps.has {g : Nat} {new cs : Array Value} {W W' : World} (h : Keeps g new W W') (hB : Blk W g cs) (hsz : new.size = cs.size) {i : Nat} (hi : i < cs.size) : ∃ u, W'.cell? ⟨g, i, none⟩ = some u := by
  rcases h.cell i with e | ⟨e, _⟩
  · exact ⟨cs[i], by rw [e, hB.c i]; simp [hi]⟩
  · exact ⟨new[i]'(by omega), by rw [e]; simp [hsz, hi]⟩
theorem Keeps.put {g : Nat} {new : Array Value} {W : World} {i : Nat} {u v : Value} (hu : W.cell? ⟨g, i, none⟩ = some u) (hv : new[i]? = some v) : Keeps g new W (W.setCell ⟨g, i, none⟩ v) := by
  refine ⟨(Below.refl _ _).setCell (p := ⟨g, i, none⟩) (Nat.le_refl _) _, fun j => ?_, fun j => World.frozen?_setCell ..⟩
  by_cases hij : i = j
  · subst hij
    exact .inr ⟨(World.cell?_setCell_same W _ v hu).trans hv.symm, u, hu⟩
  · exact .inl (World.cell?_setCell_other W ⟨g, i, none⟩ ⟨g, j, none⟩ v (by intro e; cases e; exact hij rfl))
theorem Keeps.blk {g : Nat} {new cs : Array Value} {W W' : World} (h : Keeps g new W W') (hB : Blk W g cs) (hn : ∀ i, cs[i]? = new[i]? ∨ W'.cell? ⟨g, i, none⟩ = new[i]?) : Blk W' g new := by
  refine ⟨Nat.lt_of_lt_of_le hB.lt h.below.size, fun i => ?_, fun i => (h.frozen i).trans (hB.f i)⟩
  rcases hn i with e | e
  · rcases h.cell i with e' | ⟨e', _⟩
    · rw [e', hB.c i, e]
    · exact e'
  · exact e
theorem Calm.Blk.sub {w w' : World} {B g : Nat} {cs : Array Value} (h : Blk w g cs) (hb : Below B w w') (hg : g < B) : Blk w' g cs :=
  ⟨Nat.lt_of_lt_of_le h.lt hb.size, fun i => (hb.cell (p := ⟨g, i, none⟩) hg).trans (h.c i), fun i => (hb.frozen (p := ⟨g, i, none⟩) hg).trans (h.f i)⟩
theorem Keeps.old {g : Nat} {new : Array Value} {W W' : World} (h : Keeps g new W W') : (∀ b o, b < g → W'.cell? ⟨b, o, none⟩ = W.cell? ⟨b, o, none⟩) ∧ (∀ b o, b < g → W'.frozen? ⟨b, o, none⟩ = W.frozen? ⟨b, o, none⟩) :=
  ⟨fun b o hb => h.below.cell (p := ⟨b, o, none⟩) hb, fun b o hb => h.below.frozen (p := ⟨b, o, none⟩) hb⟩
end Go.Proofs.YtpkldjlljoledaaDoor

/- DriverHolds: its loops, taken out of the translation; when two drivers are equal. -/
namespace Go.Proofs.YtpkldjlljoledaaDoor
open Go.RowKit

/-- the loops of a code, each before those that it holds. -/
def loopsOf : Code → List Code
  | .loop c => c :: loopsOf c
  | .seq a b => loopsOf a ++ loopsOf b
  | .block _ c => loopsOf c
  | .scope c => loopsOf c
  | .cond _ a b => loopsOf a ++ loopsOf b
  | _ => []
/-- what follows the k-th loop: the right side of the nearest pair. -/
def restAt : Nat → Code → Code → Code
  | k, .seq a b, r => if k < (loopsOf a).length then restAt k a b else restAt (k - (loopsOf a).length) b r
  | k, .block _ c, r => restAt k c r
  | k, .scope c, r => restAt k c r
  | k, .cond _ a b, r => if k < (loopsOf a).length then restAt k a r else restAt (k - (loopsOf a).length) b r
  | 0, .loop _, r => r
  | k + 1, .loop c, _ => restAt k c .skip
  | _, _, r => r
noncomputable def holdsRest (k : Nat) : Code := (Tryd.f10.body.map fun c => restAt k c .skip).getD .skip
noncomputable def holdsLoop (k : Nat) : Code := ((Tryd.f10.body.map loopsOf).getD []).getD k .skip

theorem run_eq_ref (re le bl a b c a' b' c' : Int) (W : World) : (binOp .eql 23 (.agg #[(.int .i64 (re)), (.int .i64 (le)), (.int .i64 (bl)), (.int .i64 (a)), (.int .i64 (b)), (.int .i64 (c))]) (.agg #[(.int .i64 (re)), (.int .i64 (le)), (.int .i64 (bl)), (.int .i64 (a')), (.int .i64 (b')), (.int .i64 (c'))])).run Tryd.prog W = .ok (.bool (decide ((a, b, c) = (a', b', c')))) W := by
  simp [go_sem]
  by_cases h1 : a = a' <;> by_cases h2 : b = b' <;> by_cases h3 : c = c' <;> simp [h1, h2, h3]
theorem run_neq_drv (re le bl a b c a' b' c' : Int) (W : World) : (binOp .neq 30 (.agg #[(.int .i64 (re)), (.int .i64 (le)), (.int .i64 (bl)), (.int .i64 (a)), (.int .i64 (b)), (.int .i64 (c))]) (.agg #[(.int .i64 (re)), (.int .i64 (le)), (.int .i64 (bl)), (.int .i64 (a')), (.int .i64 (b')), (.int .i64 (c'))])).run Tryd.prog W = .ok (.bool (!decide ((a, b, c) = (a', b', c')))) W := by
  simp [go_sem]
  by_cases h1 : a = a' <;> by_cases h2 : b = b' <;> by_cases h3 : c = c' <;> simp [h1, h2, h3]
end Go.Proofs.YtpkldjlljoledaaDoor
