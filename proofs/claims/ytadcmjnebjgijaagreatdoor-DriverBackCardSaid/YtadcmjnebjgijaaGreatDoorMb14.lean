/- Part 14 of the texts of the claim: D1, B9, B10, B11. -/
import Derived.Test.YtadcmjnebjgijaaGreatDoorMb9
import Derived.Test.YtadcmjnebjgijaaGreatDoorMb2
import Derived.Test.YtadcmjnebjgijaaGreatDoorMb5

/- Contracts of the statements' helpers. %still -/
namespace Go.Proofs.YtadcmjnebjgijaaGreatDoor
open Go.RowKit
open Calm (bcell Blk)

theorem sample_any (w : World) : Calls Tryz.prog 12 #[] w fun r w' => r = .returned (.agg #[(.int .i64 (6)), (.int .i64 (0)), (.int .i64 (2)), (.int .i64 (1)), (.int .i64 (4)), (.int .i64 (1))]) ∧ Below w.heap.size w w' := by
  go_enter Tryz.func12, Tryz.ntmps12
  go_wp2
  refine bodyPost_ret (v := .agg #[(.int .i64 (6)), (.int .i64 (0)), (.int .i64 (2)), (.int .i64 (1)), (.int .i64 (4)), (.int .i64 (1))]) (by simp [results, Tryz.results12, go_sem, *]) rfl ⟨rfl, ?_⟩
  repeat (first | (with_reducible exact Below.refl _ _) | ((with_reducible refine Below.setCell ?_ ?_ _); rotate_left 1; focus (first | (simp; done) | (simp; omega) | (simp at *; omega))) | ((with_reducible refine Below.alloc ?_ ?_ _); rotate_left 1; focus (first | (simp; done) | (simp; omega) | (simp at *; omega))) | (with_reducible refine Below.drew ?_) | ((with_reducible refine Calm.step (by assumption) ?_ ?_); rotate_left 1; focus (first | (simp; done) | (simp; omega) | (simp at *; omega))))
theorem vented_any (w : World) : Calls Tryz.prog 19 #[] w fun r w' => r = .returned (.agg #[(.int .i64 (2)), (.int .i64 (1)), (.int .i64 (0)), (.int .i64 (1))]) ∧ Below w.heap.size w w' := by
  go_enter Tryz.func19, Tryz.ntmps19
  go_wp2
  refine bodyPost_ret (v := .agg #[(.int .i64 (2)), (.int .i64 (1)), (.int .i64 (0)), (.int .i64 (1))]) (by simp [results, Tryz.results19, go_sem, *]) rfl ⟨rfl, ?_⟩
  repeat (first | (with_reducible exact Below.refl _ _) | ((with_reducible refine Below.setCell ?_ ?_ _); rotate_left 1; focus (first | (simp; done) | (simp; omega) | (simp at *; omega))) | ((with_reducible refine Below.alloc ?_ ?_ _); rotate_left 1; focus (first | (simp; done) | (simp; omega) | (simp at *; omega))) | (with_reducible refine Below.drew ?_) | ((with_reducible refine Calm.step (by assumption) ?_ ?_); rotate_left 1; focus (first | (simp; done) | (simp; omega) | (simp at *; omega))))
theorem pair_any (a b c d : Int) (w : World) : Calls Tryz.prog 24 #[(.int .i64 (a)), (.int .i64 (b)), (.int .i64 (c)), (.int .i64 (d))] w fun r w' => r = .returned (.agg #[(.int .i64 (a)), (.int .i64 (b)), (.int .i64 (c)), (.int .i64 (d))]) ∧ Below w.heap.size w w' := by
  go_enter Tryz.func24, Tryz.ntmps24
  go_wp2
  refine bodyPost_ret (v := .agg #[(.int .i64 (a)), (.int .i64 (b)), (.int .i64 (c)), (.int .i64 (d))]) (by simp [results, Tryz.results24, go_sem, *]) rfl ⟨rfl, ?_⟩
  repeat (first | (with_reducible exact Below.refl _ _) | ((with_reducible refine Below.setCell ?_ ?_ _); rotate_left 1; focus (first | (simp; done) | (simp; omega) | (simp at *; omega))) | ((with_reducible refine Below.alloc ?_ ?_ _); rotate_left 1; focus (first | (simp; done) | (simp; omega) | (simp at *; omega))) | (with_reducible refine Below.drew ?_) | ((with_reducible refine Calm.step (by assumption) ?_ ?_); rotate_left 1; focus (first | (simp; done) | (simp; omega) | (simp at *; omega))))
end Go.Proofs.YtadcmjnebjgijaaGreatDoor

/- Contract of the condition in Linear. %still -/
namespace Go.Proofs.YtadcmjnebjgijaaGreatDoor
open Go.RowKit
open Calm (bcell Blk)

/-- is a curve fine at an index. -/
def fineB (xs ys : List Int) (n : Nat) (fo st : Int) (i : Nat) : Bool := decide (fo * xs.getD n 0 ≤ 100 * xs.getD i 0) && decide (100 * ys.getD i 0 ≤ st * ys.getD n 0)
set_option maxHeartbeats 4000000 in
set_option maxRecDepth 100000 in
theorem fine_any (xs ys : List Int) (i n : Nat) (fo st : Int) (q1 q2 q3 q4 : Nat) (A1 A2 : Option Addr) (c1 c2 : Nat) (w : World)
    (k1 : Blk w q1 #[.slice A1 xs.length c1, .slice A2 ys.length c2]) (k2 : Blk w q2 #[(.int .i64 (fo))]) (k3 : Blk w q3 #[(.int .i64 (n))]) (k4 : Blk w q4 #[(.int .i64 (st))]) (hC1 : Cells w A1 xs) (hC2 : Cells w A2 ys) (hl : ys.length = xs.length) (hi : i < xs.length) (hn : n < xs.length)
    (h1 : ∀ x ∈ xs, 1 ≤ x ∧ x ≤ 999999999) (h2 : ∀ y ∈ ys, 1 ≤ y ∧ y ≤ 999999999) (hf : 1 ≤ fo ∧ fo ≤ 100) (hs : 100 ≤ st ∧ st ≤ 1000) :
    Calls Tryz.prog 71 #[(.int .i64 (i)), .pointer (some ⟨q1, 0, none⟩), .pointer (some ⟨q2, 0, none⟩), .pointer (some ⟨q3, 0, none⟩), .pointer (some ⟨q4, 0, none⟩)] w fun r w' => r = .returned (.bool (fineB xs ys n fo st i)) ∧ Below w.heap.size w w' := by
  obtain ⟨b1, o1, rfl, l1, m1⟩ := hC1 (by omega)
  obtain ⟨b2, o2, rfl, l2, m2⟩ := hC2 (by omega)
  have d1 := k1.cell 0 _ rfl
  have d2 := k1.cell 1 _ rfl
  have d3 := k2.cell 0 _ rfl
  have d4 := k3.cell 0 _ rfl
  have d5 := k4.cell 0 _ rfl
  have t1 := k1.lt
  have t2 := k2.lt
  have t3 := k3.lt
  have t4 := k4.lt
  rw [hl] at d2 m2
  have x1 := m1 i hi
  have x2 := m1 n hn
  have y1 := m2 i hi
  have y2 := m2 n hn
  have a1 := h1 _ (getD_mem hi)
  have a2 := h1 _ (getD_mem hn)
  have e1 := h2 _ (getD_mem (k := i) (by omega))
  have e2 := h2 _ (getD_mem (k := n) (by omega))
  unfold fineB
  clear m1 m2 hC1 hC2 h1 h2 k1 k2 k3 k4
  generalize xs.getD i 0 = x at *
  generalize xs.getD n 0 = x' at *
  generalize ys.getD i 0 = y at *
  generalize ys.getD n 0 = y' at *
  have p1 : Bd 100 fo := ⟨by omega, by omega⟩
  have p2 : Bd 999999999 x' := ⟨by omega, by omega⟩
  have p3 : Bd 1000 st := ⟨by omega, by omega⟩
  have p4 : Bd 999999999 y' := ⟨by omega, by omega⟩
  obtain ⟨u1, u2⟩ := p1.mul p2 (by omega)
  obtain ⟨u3, u4⟩ := p3.mul p4 (by omega)
  clear p1 p2 p3 p4
  by_cases v1 : fo * x' ≤ 100 * x
  · rw [decide_eq_true v1]
    by_cases v2 : 100 * y ≤ st * y'
    · rw [decide_eq_true v2]
      go_enter Tryz.func71, Tryz.ntmps71
      go_wp2
      refine Calm.still_tail 29 (by kernel_rfl) (by kernel_rfl) ?_
      simp only [List.take_succ_cons, List.take_zero, List.drop_succ_cons, List.drop_zero]
      repeat (first | (apply Calm.still_op_move; (focus rfl); (focus (first | exact .inl rfl | exact .inr rfl)); (focus ((try simp only [Act.eval, Array.getD_eq_getD_getElem?, List.getElem?_toArray, List.getElem?_cons_succ, List.getElem?_cons_zero, Option.getD_some]); rfl)); (try simp only [Act.put, List.setIfInBounds_toArray, List.set_cons_zero, List.set_cons_succ])) | (apply Calm.still_op_not; (focus rfl); (try simp only [Act.put, List.setIfInBounds_toArray, List.set_cons_zero, List.set_cons_succ])) | (apply Calm.still_op; (focus rfl); (focus (intro W hb; obtain ⟨hc, hf⟩ := bcell hb; clear hb hf; go_simp; (try go_bits); (try rfl); done)); (try simp only [Act.put, List.setIfInBounds_toArray, List.set_cons_zero, List.set_cons_succ])))
      refine Calm.still_nil ?_
      intro w1 hb
      obtain ⟨hbc, hbf⟩ := bcell hb
      have hbz := hb.size
      (try simp at hbz)
      (try have hbz0 : w.heap.size < w1.heap.size := by omega)
      (try have hbz1 : w.heap.size + 1 < w1.heap.size := by omega)
      (try have hbz2 : w.heap.size + 1 + 1 < w1.heap.size := by omega)
      (try have hbz3 : w.heap.size + 1 + 1 + 1 < w1.heap.size := by omega)
      (try have hbz4 : w.heap.size + 1 + 1 + 1 + 1 < w1.heap.size := by omega)
      (try have hbz5 : w.heap.size + 1 + 1 + 1 + 1 + 1 < w1.heap.size := by omega)
      go_wp2
      go_ret
      refine ⟨by first | rfl | (simp; done) | (simp; omega), ?_⟩
      repeat (first | (with_reducible exact Below.refl _ _) | ((with_reducible refine Below.setCell ?_ ?_ _); rotate_left 1; focus (first | (simp; done) | (simp; omega) | (simp at *; omega))) | ((with_reducible refine Below.alloc ?_ ?_ _); rotate_left 1; focus (first | (simp; done) | (simp; omega) | (simp at *; omega))) | (with_reducible refine Below.drew ?_) | ((with_reducible refine Calm.step (by assumption) ?_ ?_); rotate_left 1; focus (first | (simp; done) | (simp; omega) | (simp at *; omega))))
    · rw [decide_eq_false v2]
      go_enter Tryz.func71, Tryz.ntmps71
      go_wp2
      refine Calm.still_tail 29 (by kernel_rfl) (by kernel_rfl) ?_
      simp only [List.take_succ_cons, List.take_zero, List.drop_succ_cons, List.drop_zero]
      repeat (first | (apply Calm.still_op_move; (focus rfl); (focus (first | exact .inl rfl | exact .inr rfl)); (focus ((try simp only [Act.eval, Array.getD_eq_getD_getElem?, List.getElem?_toArray, List.getElem?_cons_succ, List.getElem?_cons_zero, Option.getD_some]); rfl)); (try simp only [Act.put, List.setIfInBounds_toArray, List.set_cons_zero, List.set_cons_succ])) | (apply Calm.still_op_not; (focus rfl); (try simp only [Act.put, List.setIfInBounds_toArray, List.set_cons_zero, List.set_cons_succ])) | (apply Calm.still_op; (focus rfl); (focus (intro W hb; obtain ⟨hc, hf⟩ := bcell hb; clear hb hf; go_simp; (try go_bits); (try rfl); done)); (try simp only [Act.put, List.setIfInBounds_toArray, List.set_cons_zero, List.set_cons_succ])))
      refine Calm.still_nil ?_
      intro w1 hb
      obtain ⟨hbc, hbf⟩ := bcell hb
      have hbz := hb.size
      (try simp at hbz)
      (try have hbz0 : w.heap.size < w1.heap.size := by omega)
      (try have hbz1 : w.heap.size + 1 < w1.heap.size := by omega)
      (try have hbz2 : w.heap.size + 1 + 1 < w1.heap.size := by omega)
      (try have hbz3 : w.heap.size + 1 + 1 + 1 < w1.heap.size := by omega)
      (try have hbz4 : w.heap.size + 1 + 1 + 1 + 1 < w1.heap.size := by omega)
      (try have hbz5 : w.heap.size + 1 + 1 + 1 + 1 + 1 < w1.heap.size := by omega)
      go_wp2
      go_ret
      refine ⟨by first | rfl | (simp; done) | (simp; omega), ?_⟩
      repeat (first | (with_reducible exact Below.refl _ _) | ((with_reducible refine Below.setCell ?_ ?_ _); rotate_left 1; focus (first | (simp; done) | (simp; omega) | (simp at *; omega))) | ((with_reducible refine Below.alloc ?_ ?_ _); rotate_left 1; focus (first | (simp; done) | (simp; omega) | (simp at *; omega))) | (with_reducible refine Below.drew ?_) | ((with_reducible refine Calm.step (by assumption) ?_ ?_); rotate_left 1; focus (first | (simp; done) | (simp; omega) | (simp at *; omega))))
  · rw [decide_eq_false v1]
    go_enter Tryz.func71, Tryz.ntmps71
    go_wp2
    refine Calm.still_tail 29 (by kernel_rfl) (by kernel_rfl) ?_
    simp only [List.take_succ_cons, List.take_zero, List.drop_succ_cons, List.drop_zero]
    (first | (apply Calm.still_op_move; (focus rfl); (focus (first | exact .inl rfl | exact .inr rfl)); (focus ((try simp only [Act.eval, Array.getD_eq_getD_getElem?, List.getElem?_toArray, List.getElem?_cons_succ, List.getElem?_cons_zero, Option.getD_some]); rfl)); (try simp only [Act.put, List.setIfInBounds_toArray, List.set_cons_zero, List.set_cons_succ])) | (apply Calm.still_op_not; (focus rfl); (try simp only [Act.put, List.setIfInBounds_toArray, List.set_cons_zero, List.set_cons_succ])) | (apply Calm.still_op; (focus rfl); (focus (intro W hb; obtain ⟨hc, hf⟩ := bcell hb; clear hb hf; go_simp; (try go_bits); (try rfl); done)); (try simp only [Act.put, List.setIfInBounds_toArray, List.set_cons_zero, List.set_cons_succ])))
    (first | (apply Calm.still_op_move; (focus rfl); (focus (first | exact .inl rfl | exact .inr rfl)); (focus ((try simp only [Act.eval, Array.getD_eq_getD_getElem?, List.getElem?_toArray, List.getElem?_cons_succ, List.getElem?_cons_zero, Option.getD_some]); rfl)); (try simp only [Act.put, List.setIfInBounds_toArray, List.set_cons_zero, List.set_cons_succ])) | (apply Calm.still_op_not; (focus rfl); (try simp only [Act.put, List.setIfInBounds_toArray, List.set_cons_zero, List.set_cons_succ])) | (apply Calm.still_op; (focus rfl); (focus (intro W hb; obtain ⟨hc, hf⟩ := bcell hb; clear hb hf; go_simp; (try go_bits); (try rfl); done)); (try simp only [Act.put, List.setIfInBounds_toArray, List.set_cons_zero, List.set_cons_succ])))
    (first | (apply Calm.still_op_move; (focus rfl); (focus (first | exact .inl rfl | exact .inr rfl)); (focus ((try simp only [Act.eval, Array.getD_eq_getD_getElem?, List.getElem?_toArray, List.getElem?_cons_succ, List.getElem?_cons_zero, Option.getD_some]); rfl)); (try simp only [Act.put, List.setIfInBounds_toArray, List.set_cons_zero, List.set_cons_succ])) | (apply Calm.still_op_not; (focus rfl); (try simp only [Act.put, List.setIfInBounds_toArray, List.set_cons_zero, List.set_cons_succ])) | (apply Calm.still_op; (focus rfl); (focus (intro W hb; obtain ⟨hc, hf⟩ := bcell hb; clear hb hf; go_simp; (try go_bits); (try rfl); done)); (try simp only [Act.put, List.setIfInBounds_toArray, List.set_cons_zero, List.set_cons_succ])))
    (first | (apply Calm.still_op_move; (focus rfl); (focus (first | exact .inl rfl | exact .inr rfl)); (focus ((try simp only [Act.eval, Array.getD_eq_getD_getElem?, List.getElem?_toArray, List.getElem?_cons_succ, List.getElem?_cons_zero, Option.getD_some]); rfl)); (try simp only [Act.put, List.setIfInBounds_toArray, List.set_cons_zero, List.set_cons_succ])) | (apply Calm.still_op_not; (focus rfl); (try simp only [Act.put, List.setIfInBounds_toArray, List.set_cons_zero, List.set_cons_succ])) | (apply Calm.still_op; (focus rfl); (focus (intro W hb; obtain ⟨hc, hf⟩ := bcell hb; clear hb hf; go_simp; (try go_bits); (try rfl); done)); (try simp only [Act.put, List.setIfInBounds_toArray, List.set_cons_zero, List.set_cons_succ])))
    (first | (apply Calm.still_op_move; (focus rfl); (focus (first | exact .inl rfl | exact .inr rfl)); (focus ((try simp only [Act.eval, Array.getD_eq_getD_getElem?, List.getElem?_toArray, List.getElem?_cons_succ, List.getElem?_cons_zero, Option.getD_some]); rfl)); (try simp only [Act.put, List.setIfInBounds_toArray, List.set_cons_zero, List.set_cons_succ])) | (apply Calm.still_op_not; (focus rfl); (try simp only [Act.put, List.setIfInBounds_toArray, List.set_cons_zero, List.set_cons_succ])) | (apply Calm.still_op; (focus rfl); (focus (intro W hb; obtain ⟨hc, hf⟩ := bcell hb; clear hb hf; go_simp; (try go_bits); (try rfl); done)); (try simp only [Act.put, List.setIfInBounds_toArray, List.set_cons_zero, List.set_cons_succ])))
    (first | (apply Calm.still_op_move; (focus rfl); (focus (first | exact .inl rfl | exact .inr rfl)); (focus ((try simp only [Act.eval, Array.getD_eq_getD_getElem?, List.getElem?_toArray, List.getElem?_cons_succ, List.getElem?_cons_zero, Option.getD_some]); rfl)); (try simp only [Act.put, List.setIfInBounds_toArray, List.set_cons_zero, List.set_cons_succ])) | (apply Calm.still_op_not; (focus rfl); (try simp only [Act.put, List.setIfInBounds_toArray, List.set_cons_zero, List.set_cons_succ])) | (apply Calm.still_op; (focus rfl); (focus (intro W hb; obtain ⟨hc, hf⟩ := bcell hb; clear hb hf; go_simp; (try go_bits); (try rfl); done)); (try simp only [Act.put, List.setIfInBounds_toArray, List.set_cons_zero, List.set_cons_succ])))
    (first | (apply Calm.still_op_move; (focus rfl); (focus (first | exact .inl rfl | exact .inr rfl)); (focus ((try simp only [Act.eval, Array.getD_eq_getD_getElem?, List.getElem?_toArray, List.getElem?_cons_succ, List.getElem?_cons_zero, Option.getD_some]); rfl)); (try simp only [Act.put, List.setIfInBounds_toArray, List.set_cons_zero, List.set_cons_succ])) | (apply Calm.still_op_not; (focus rfl); (try simp only [Act.put, List.setIfInBounds_toArray, List.set_cons_zero, List.set_cons_succ])) | (apply Calm.still_op; (focus rfl); (focus (intro W hb; obtain ⟨hc, hf⟩ := bcell hb; clear hb hf; go_simp; (try go_bits); (try rfl); done)); (try simp only [Act.put, List.setIfInBounds_toArray, List.set_cons_zero, List.set_cons_succ])))
    (first | (apply Calm.still_op_move; (focus rfl); (focus (first | exact .inl rfl | exact .inr rfl)); (focus ((try simp only [Act.eval, Array.getD_eq_getD_getElem?, List.getElem?_toArray, List.getElem?_cons_succ, List.getElem?_cons_zero, Option.getD_some]); rfl)); (try simp only [Act.put, List.setIfInBounds_toArray, List.set_cons_zero, List.set_cons_succ])) | (apply Calm.still_op_not; (focus rfl); (try simp only [Act.put, List.setIfInBounds_toArray, List.set_cons_zero, List.set_cons_succ])) | (apply Calm.still_op; (focus rfl); (focus (intro W hb; obtain ⟨hc, hf⟩ := bcell hb; clear hb hf; go_simp; (try go_bits); (try rfl); done)); (try simp only [Act.put, List.setIfInBounds_toArray, List.set_cons_zero, List.set_cons_succ])))
    (first | (apply Calm.still_op_move; (focus rfl); (focus (first | exact .inl rfl | exact .inr rfl)); (focus ((try simp only [Act.eval, Array.getD_eq_getD_getElem?, List.getElem?_toArray, List.getElem?_cons_succ, List.getElem?_cons_zero, Option.getD_some]); rfl)); (try simp only [Act.put, List.setIfInBounds_toArray, List.set_cons_zero, List.set_cons_succ])) | (apply Calm.still_op_not; (focus rfl); (try simp only [Act.put, List.setIfInBounds_toArray, List.set_cons_zero, List.set_cons_succ])) | (apply Calm.still_op; (focus rfl); (focus (intro W hb; obtain ⟨hc, hf⟩ := bcell hb; clear hb hf; go_simp; (try go_bits); (try rfl); done)); (try simp only [Act.put, List.setIfInBounds_toArray, List.set_cons_zero, List.set_cons_succ])))
    (first | (apply Calm.still_op_move; (focus rfl); (focus (first | exact .inl rfl | exact .inr rfl)); (focus ((try simp only [Act.eval, Array.getD_eq_getD_getElem?, List.getElem?_toArray, List.getElem?_cons_succ, List.getElem?_cons_zero, Option.getD_some]); rfl)); (try simp only [Act.put, List.setIfInBounds_toArray, List.set_cons_zero, List.set_cons_succ])) | (apply Calm.still_op_not; (focus rfl); (try simp only [Act.put, List.setIfInBounds_toArray, List.set_cons_zero, List.set_cons_succ])) | (apply Calm.still_op; (focus rfl); (focus (intro W hb; obtain ⟨hc, hf⟩ := bcell hb; clear hb hf; go_simp; (try go_bits); (try rfl); done)); (try simp only [Act.put, List.setIfInBounds_toArray, List.set_cons_zero, List.set_cons_succ])))
    (first | (apply Calm.still_op_move; (focus rfl); (focus (first | exact .inl rfl | exact .inr rfl)); (focus ((try simp only [Act.eval, Array.getD_eq_getD_getElem?, List.getElem?_toArray, List.getElem?_cons_succ, List.getElem?_cons_zero, Option.getD_some]); rfl)); (try simp only [Act.put, List.setIfInBounds_toArray, List.set_cons_zero, List.set_cons_succ])) | (apply Calm.still_op_not; (focus rfl); (try simp only [Act.put, List.setIfInBounds_toArray, List.set_cons_zero, List.set_cons_succ])) | (apply Calm.still_op; (focus rfl); (focus (intro W hb; obtain ⟨hc, hf⟩ := bcell hb; clear hb hf; go_simp; (try go_bits); (try rfl); done)); (try simp only [Act.put, List.setIfInBounds_toArray, List.set_cons_zero, List.set_cons_succ])))
    (first | (apply Calm.still_op_move; (focus rfl); (focus (first | exact .inl rfl | exact .inr rfl)); (focus ((try simp only [Act.eval, Array.getD_eq_getD_getElem?, List.getElem?_toArray, List.getElem?_cons_succ, List.getElem?_cons_zero, Option.getD_some]); rfl)); (try simp only [Act.put, List.setIfInBounds_toArray, List.set_cons_zero, List.set_cons_succ])) | (apply Calm.still_op_not; (focus rfl); (try simp only [Act.put, List.setIfInBounds_toArray, List.set_cons_zero, List.set_cons_succ])) | (apply Calm.still_op; (focus rfl); (focus (intro W hb; obtain ⟨hc, hf⟩ := bcell hb; clear hb hf; go_simp; (try go_bits); (try rfl); done)); (try simp only [Act.put, List.setIfInBounds_toArray, List.set_cons_zero, List.set_cons_succ])))
    (first | (apply Calm.still_op_move; (focus rfl); (focus (first | exact .inl rfl | exact .inr rfl)); (focus ((try simp only [Act.eval, Array.getD_eq_getD_getElem?, List.getElem?_toArray, List.getElem?_cons_succ, List.getElem?_cons_zero, Option.getD_some]); rfl)); (try simp only [Act.put, List.setIfInBounds_toArray, List.set_cons_zero, List.set_cons_succ])) | (apply Calm.still_op_not; (focus rfl); (try simp only [Act.put, List.setIfInBounds_toArray, List.set_cons_zero, List.set_cons_succ])) | (apply Calm.still_op; (focus rfl); (focus (intro W hb; obtain ⟨hc, hf⟩ := bcell hb; clear hb hf; go_simp; (try go_bits); (try rfl); done)); (try simp only [Act.put, List.setIfInBounds_toArray, List.set_cons_zero, List.set_cons_succ])))
    apply Calm.still_op (.bool false)
    focus rfl
    focus (intro W hb; obtain ⟨hc, hf⟩ := bcell hb; clear hb hf; go_simp; (try (first | (simp; done) | (simp; omega) | omega)))
    (try simp only [Act.put, List.setIfInBounds_toArray, List.set_cons_zero, List.set_cons_succ])
    repeat (first | (apply Calm.still_op_move; (focus rfl); (focus (first | exact .inl rfl | exact .inr rfl)); (focus ((try simp only [Act.eval, Array.getD_eq_getD_getElem?, List.getElem?_toArray, List.getElem?_cons_succ, List.getElem?_cons_zero, Option.getD_some]); rfl)); (try simp only [Act.put, List.setIfInBounds_toArray, List.set_cons_zero, List.set_cons_succ])) | (apply Calm.still_op_not; (focus rfl); (try simp only [Act.put, List.setIfInBounds_toArray, List.set_cons_zero, List.set_cons_succ])) | (apply Calm.still_op; (focus rfl); (focus (intro W hb; obtain ⟨hc, hf⟩ := bcell hb; clear hb hf; go_simp; (try go_bits); (try rfl); done)); (try simp only [Act.put, List.setIfInBounds_toArray, List.set_cons_zero, List.set_cons_succ])))
    refine Calm.still_nil ?_
    intro w1 hb
    obtain ⟨hbc, hbf⟩ := bcell hb
    have hbz := hb.size
    (try simp at hbz)
    (try have hbz0 : w.heap.size < w1.heap.size := by omega)
    (try have hbz1 : w.heap.size + 1 < w1.heap.size := by omega)
    (try have hbz2 : w.heap.size + 1 + 1 < w1.heap.size := by omega)
    (try have hbz3 : w.heap.size + 1 + 1 + 1 < w1.heap.size := by omega)
    (try have hbz4 : w.heap.size + 1 + 1 + 1 + 1 < w1.heap.size := by omega)
    (try have hbz5 : w.heap.size + 1 + 1 + 1 + 1 + 1 < w1.heap.size := by omega)
    go_wp2
    go_ret
    refine ⟨by first | rfl | (simp; done) | (simp; omega), ?_⟩
    repeat (first | (with_reducible exact Below.refl _ _) | ((with_reducible refine Below.setCell ?_ ?_ _); rotate_left 1; focus (first | (simp; done) | (simp; omega) | (simp at *; omega))) | ((with_reducible refine Below.alloc ?_ ?_ _); rotate_left 1; focus (first | (simp; done) | (simp; omega) | (simp at *; omega))) | (with_reducible refine Below.drew ?_) | ((with_reducible refine Calm.step (by assumption) ?_ ?_); rotate_left 1; focus (first | (simp; done) | (simp; omega) | (simp at *; omega))))
end Go.Proofs.YtadcmjnebjgijaaGreatDoor

/- Contracts of Linear. %still -/
namespace Go.Proofs.YtadcmjnebjgijaaGreatDoor
open Go.RowKit
open Calm (bcell Blk)

/-- the error of a curve and its demands. -/
def linErr (xs ys : List Int) (fo st : Int) : Int := firstOf [curveErr xs ys, rangeErr fo 1 100, rangeErr st 100 1000]
theorem checkCurve_any (A1 A2 : Option Addr) (xs ys : List Int) (c1 c2 : Nat) (w : World) (hC1 : Cells w A1 xs) (hC2 : Cells w A2 ys) (h1 : xs.length ≤ 100000) (h2 : ys.length ≤ 100000) :
    Calls Tryz.prog 70 #[.agg #[.slice A1 xs.length c1, .slice A2 ys.length c2]] w fun r w' => r = .returned (.int .i64 (curveErr xs ys)) ∧ Below w.heap.size w w' := by
  by_cases h : xs.length % 2 = 0 ∨ xs.length < 3 ∨ 33 < xs.length ∨ ys.length ≠ xs.length
  · have e : curveErr xs ys = 2 := if_pos h
    rw [e]
    exact checkCurve_shape A1 A2 xs ys c1 c2 w h1 h2 h
  · exact checkCurve_len A1 A2 xs ys c1 c2 w hC1 hC2 h
theorem curve_zero {xs ys : List Int} (h : curveErr xs ys = 0) : (xs.length % 2 = 1 ∧ 3 ≤ xs.length ∧ xs.length ≤ 33 ∧ ys.length = xs.length) ∧ (∀ x ∈ xs, 1 ≤ x ∧ x ≤ 999999999) ∧ (∀ y ∈ ys, 1 ≤ y ∧ y ≤ 999999999) := by
  unfold curveErr at h
  by_cases h1 : xs.length % 2 = 0 ∨ xs.length < 3 ∨ 33 < xs.length ∨ ys.length ≠ xs.length
  · rw [if_pos h1] at h; omega
  · rw [if_neg h1] at h
    refine ⟨⟨by omega, by omega, by omega, Classical.byContradiction fun hh => h1 (.inr (.inr (.inr hh)))⟩, ?_⟩
    by_cases h2 : (∀ x ∈ xs, 1 ≤ x ∧ x ≤ 999999999) ∧ (∀ y ∈ ys, 1 ≤ y ∧ y ≤ 999999999)
    · exact h2
    · rw [if_neg h2] at h; omega

set_option maxHeartbeats 2000000 in
theorem Linear_bad (xs ys : List Int) (fo st : Int) (A1 A2 : Option Addr) (c1 c2 : Nat) (w : World) (hC1 : Cells w A1 xs) (hC2 : Cells w A2 ys) (h1 : xs.length ≤ 100000) (h2 : ys.length ≤ 100000) (h : linErr xs ys fo st ≠ 0) :
    Calls Tryz.prog 29 #[.agg #[.slice A1 xs.length c1, .slice A2 ys.length c2], (.int .i64 (fo)), (.int .i64 (st))] w fun r w' => r = .returned (.tuple #[(.int .i64 (0)), (.int .i64 (linErr xs ys fo st))]) ∧ Below w.heap.size w w' := by
  have HC1 := Lib.hid hC1
  have HC2 := Lib.hid hC2
  clear hC1 hC2
  unfold linErr at h ⊢
  obtain ⟨E, hE⟩ : ∃ E, E = curveErr xs ys := ⟨_, rfl⟩
  have HE := Lib.hid hE
  rw [← hE] at h ⊢
  clear hE
  go_enter Tryz.func29, Tryz.ntmps29
  go_wp2
  refine Calm.still_tail 6 (by kernel_rfl) (by kernel_rfl) ?_
  simp only [List.take_succ_cons, List.take_zero, List.drop_succ_cons, List.drop_zero]
  repeat (first | (first | (apply Calm.still_op_move; (focus rfl); (focus (first | exact .inl rfl | exact .inr rfl)); (focus ((try simp only [Act.eval, Array.getD_eq_getD_getElem?, List.getElem?_toArray, List.getElem?_cons_succ, List.getElem?_cons_zero, Option.getD_some]); rfl)); (try simp only [Act.put, List.setIfInBounds_toArray, List.set_cons_zero, List.set_cons_succ])) | (apply Calm.still_op_not; (focus rfl); (try simp only [Act.put, List.setIfInBounds_toArray, List.set_cons_zero, List.set_cons_succ])) | (apply Calm.still_op; (focus rfl); (focus (intro W hb; obtain ⟨hc, hf⟩ := bcell hb; clear hb hf; go_simp; (try go_bits); (try rfl); done)); (try simp only [Act.put, List.setIfInBounds_toArray, List.set_cons_zero, List.set_cons_succ]))) | (apply Calm.still_op_call; (focus rfl); (focus (intro W hb; obtain ⟨hc, hf⟩ := bcell hb; clear hb hf; go_simp; refine ⟨?_, ?_⟩; rfl; rfl)); (focus (intro W hb; first | (go_at_call 70; exact Calm.call_below hb ((HE.out ▸ checkCurve_any A1 A2 xs ys _ _ _ (HC1.out.below (by (repeat (first | (with_reducible exact Below.refl _ _) | ((with_reducible refine Below.setCell ?_ ?_ _); rotate_left 1; focus (first | (simp; done) | (simp; omega) | (simp at *; omega))) | ((with_reducible refine Below.alloc ?_ ?_ _); rotate_left 1; focus (first | (simp; done) | (simp; omega) | (simp at *; omega))) | (with_reducible refine Below.drew ?_) | ((with_reducible refine Calm.step (by assumption) ?_ ?_); rotate_left 1; focus (first | (simp; done) | (simp; omega) | (simp at *; omega))))))) (HC2.out.below (by (repeat (first | (with_reducible exact Below.refl _ _) | ((with_reducible refine Below.setCell ?_ ?_ _); rotate_left 1; focus (first | (simp; done) | (simp; omega) | (simp at *; omega))) | ((with_reducible refine Below.alloc ?_ ?_ _); rotate_left 1; focus (first | (simp; done) | (simp; omega) | (simp at *; omega))) | (with_reducible refine Below.drew ?_) | ((with_reducible refine Calm.step (by assumption) ?_ ?_); rotate_left 1; focus (first | (simp; done) | (simp; omega) | (simp at *; omega))))))) h1 h2))) | (go_at_call 56; exact Calm.call_same hb (within_any _ _ _ _)))); (try simp only [Act.put, List.setIfInBounds_toArray, List.set_cons_zero, List.set_cons_succ])))
  refine Calm.still_nil ?_
  intro w1 hb
  obtain ⟨hbc, hbf⟩ := bcell hb
  have hbz := hb.size
  (try simp at hbz)
  (try have hbz0 : w.heap.size < w1.heap.size := by omega)
  (try have hbz1 : w.heap.size + 1 < w1.heap.size := by omega)
  (try have hbz2 : w.heap.size + 1 + 1 < w1.heap.size := by omega)
  (try have hbz3 : w.heap.size + 1 + 1 + 1 < w1.heap.size := by omega)
  (try have hbz4 : w.heap.size + 1 + 1 + 1 + 1 < w1.heap.size := by omega)
  (try have hbz5 : w.heap.size + 1 + 1 + 1 + 1 + 1 < w1.heap.size := by omega)
  go_wp2_with (first | (go_at_call 53; refine (first3_any _ _ _ _).mono ?_; rintro r w1 ⟨rfl, rfl⟩))
  go_ret2
  refine ⟨by first | rfl | (simp; done), ?_⟩
  repeat (first | (with_reducible exact Below.refl _ _) | ((with_reducible refine Below.setCell ?_ ?_ _); rotate_left 1; focus (first | (simp; done) | (simp; omega) | (simp at *; omega))) | ((with_reducible refine Below.alloc ?_ ?_ _); rotate_left 1; focus (first | (simp; done) | (simp; omega) | (simp at *; omega))) | (with_reducible refine Below.drew ?_) | ((with_reducible refine Calm.step (by assumption) ?_ ?_); rotate_left 1; focus (first | (simp; done) | (simp; omega) | (simp at *; omega))))
/-- how far a condition holds from 0 on. -/
def climb (p : Nat → Bool) (n : Nat) : Nat := ((List.range n).takeWhile p).length
theorem climb_eq {p : Nat → Bool} {n d : Nat} (h1 : ∀ j, j < d → p j = true) (h2 : d ≤ n) (h3 : d = n ∨ p d = false) : climb p n = d := by
  have e : List.range n = List.range d ++ (List.range (n - d)).map (d + ·) := by
    rw [← List.range_add]
    congr 1
    omega
  unfold climb
  rw [e, List.takeWhile_append_of_pos (by intro j hj; exact h1 j (List.mem_range.1 hj))]
  rcases h3 with rfl | h3
  · simp
  · cases hm : n - d with
    | zero => simp
    | succ m =>
      rw [List.range_succ_eq_map]
      simp [h3]
/-- the displacement up to which a curve is linear. -/
def linD (xs ys : List Int) (fo st : Int) : Nat := climb (fun d => fineB xs ys (xs.length / 2) fo st (xs.length / 2 - d - 1) && fineB xs ys (xs.length / 2) fo st (xs.length / 2 + d + 1)) (xs.length / 2)

set_option maxRecDepth 100000 in
set_option maxHeartbeats 4000000 in
theorem Linear_ok (xs ys : List Int) (fo st : Int) (A1 A2 : Option Addr) (c1 c2 : Nat) (w : World) (hC1 : Cells w A1 xs) (hC2 : Cells w A2 ys) (h1 : xs.length ≤ 100000) (h2 : ys.length ≤ 100000) (h : linErr xs ys fo st = 0) :
    Calls Tryz.prog 29 #[.agg #[.slice A1 xs.length c1, .slice A2 ys.length c2], (.int .i64 (fo)), (.int .i64 (st))] w fun r w' => r = .returned (.tuple #[(.int .i64 (linD xs ys fo st)), (.int .i64 (0))]) ∧ Below w.heap.size w w' := by
  have HC1 := Lib.hid hC1
  have HC2 := Lib.hid hC2
  clear hC1 hC2
  unfold linErr at h
  have hh := firstOf_eq_zero.1 h
  simp only [List.mem_cons, List.not_mem_nil, or_false, forall_eq_or_imp, forall_eq, rangeErr_zero] at hh
  obtain ⟨g1, g2, g3⟩ := hh
  have HZ := Lib.hid (curve_zero g1)
  have HF := Lib.hid g2
  have HS := Lib.hid g3
  have hlen := (curve_zero g1).1
  clear g1 g2 g3
  obtain ⟨E, hE⟩ : ∃ E, E = curveErr xs ys := ⟨_, rfl⟩
  have HE := Lib.hid hE
  rw [← hE] at h
  clear hE
  obtain ⟨R, hR⟩ : ∃ R, R = linD xs ys fo st := ⟨_, rfl⟩
  have HR := Lib.hid hR
  rw [← hR]
  clear hR
  obtain ⟨l1, l2, l3, l4⟩ := hlen
  rw [l4]
  obtain ⟨N, hN⟩ : ∃ N, N = xs.length := ⟨_, rfl⟩
  have HN := Lib.hid hN
  have HN2 := Lib.hid (l4.trans hN.symm)
  rw [← hN] at l1 l2 l3 ⊢
  have hCC : ∀ W : World, Cells W A1 xs → Cells W A2 ys → Calls Tryz.prog 70 #[.agg #[.slice A1 N c1, .slice A2 N c2]] W fun r w' => r = .returned (.int .i64 (E)) ∧ Below W.heap.size W w' := by
    intro W k1 k2
    have := checkCurve_any A1 A2 xs ys c1 c2 W k1 k2 h1 h2
    rwa [← HE.out, HN2.out, ← HN.out] at this
  have HCC := Lib.hid hCC
  clear hCC
  clear l4 hN h1 h2
  obtain ⟨m, hm⟩ : ∃ m, m = N / 2 := ⟨_, rfl⟩
  have hq : Int.tdiv (N : Int) 2 = m := by rw [Int.tdiv_eq_ediv_of_nonneg (by omega)]; omega
  have HM := Lib.hid hm
  have hRm : R = climb (fun d => fineB xs ys m fo st (m - d - 1) && fineB xs ys m fo st (m + d + 1)) m := by
    rw [HR.out]
    unfold linD
    rw [← HN.out, ← HM.out]
  have HRM := Lib.hid hRm
  clear hRm
  have hm16 : m ≤ 16 := by omega
  have hNm : N = m + m + 1 := by omega
  clear hm
  have hFine : ∀ (W : World) (i : Nat) (z : Int) (q1 q2 q3 q4 : Nat), z = i → i < N → Blk W q1 #[.slice A1 N c1, .slice A2 N c2] → Blk W q2 #[(.int .i64 (fo))] → Blk W q3 #[(.int .i64 (m))] → Blk W q4 #[(.int .i64 (st))] → Cells W A1 xs → Cells W A2 ys →
      Calls Tryz.prog 71 #[(.int .i64 (z)), .pointer (some ⟨q1, 0, none⟩), .pointer (some ⟨q2, 0, none⟩), .pointer (some ⟨q3, 0, none⟩), .pointer (some ⟨q4, 0, none⟩)] W fun r w' => r = .returned (.bool (fineB xs ys m fo st i)) ∧ Below W.heap.size W w' := by
    intro W i z q1 q2 q3 q4 hz hi k1 k2 k3 k4 k5 k6
    subst hz
    have e1 := HN.out
    have e2 := HN2.out
    rw [e1, show xs.length = ys.length by omega] at k1
    refine fine_any xs ys i m fo st q1 q2 q3 q4 A1 A2 c1 c2 W ?_ k2 k3 k4 k5 k6 (by omega) (by omega) (by omega) HZ.out.2.1 HZ.out.2.2 HF.out HS.out
    rw [show xs.length = ys.length by omega]
    exact k1
  have HFI := Lib.hid hFine
  have HNM := Lib.hid hNm
  clear hFine hNm
  go_enter Tryz.func29, Tryz.ntmps29
  go_wp2
  refine Calm.still_tail 6 (by kernel_rfl) (by kernel_rfl) ?_
  simp only [List.take_succ_cons, List.take_zero, List.drop_succ_cons, List.drop_zero]
  repeat (first | (first | (apply Calm.still_op_move; (focus rfl); (focus (first | exact .inl rfl | exact .inr rfl)); (focus ((try simp only [Act.eval, Array.getD_eq_getD_getElem?, List.getElem?_toArray, List.getElem?_cons_succ, List.getElem?_cons_zero, Option.getD_some]); rfl)); (try simp only [Act.put, List.setIfInBounds_toArray, List.set_cons_zero, List.set_cons_succ])) | (apply Calm.still_op_not; (focus rfl); (try simp only [Act.put, List.setIfInBounds_toArray, List.set_cons_zero, List.set_cons_succ])) | (apply Calm.still_op; (focus rfl); (focus (intro W hb; obtain ⟨hc, hf⟩ := bcell hb; clear hb hf; go_simp; (try go_bits); (try rfl); done)); (try simp only [Act.put, List.setIfInBounds_toArray, List.set_cons_zero, List.set_cons_succ]))) | (apply Calm.still_op_call; (focus rfl); (focus (intro W hb; obtain ⟨hc, hf⟩ := bcell hb; clear hb hf; go_simp; refine ⟨?_, ?_⟩; rfl; rfl)); (focus (intro W hb; first | (go_at_call 70; exact Calm.call_below hb (HCC.out _ (HC1.out.below (by (repeat (first | (with_reducible exact Below.refl _ _) | ((with_reducible refine Below.setCell ?_ ?_ _); rotate_left 1; focus (first | (simp; done) | (simp; omega) | (simp at *; omega))) | ((with_reducible refine Below.alloc ?_ ?_ _); rotate_left 1; focus (first | (simp; done) | (simp; omega) | (simp at *; omega))) | (with_reducible refine Below.drew ?_) | ((with_reducible refine Calm.step (by assumption) ?_ ?_); rotate_left 1; focus (first | (simp; done) | (simp; omega) | (simp at *; omega))))))) (HC2.out.below (by (repeat (first | (with_reducible exact Below.refl _ _) | ((with_reducible refine Below.setCell ?_ ?_ _); rotate_left 1; focus (first | (simp; done) | (simp; omega) | (simp at *; omega))) | ((with_reducible refine Below.alloc ?_ ?_ _); rotate_left 1; focus (first | (simp; done) | (simp; omega) | (simp at *; omega))) | (with_reducible refine Below.drew ?_) | ((with_reducible refine Calm.step (by assumption) ?_ ?_); rotate_left 1; focus (first | (simp; done) | (simp; omega) | (simp at *; omega))))))))) | (go_at_call 56; exact Calm.call_same hb (within_any _ _ _ _)))); (try simp only [Act.put, List.setIfInBounds_toArray, List.set_cons_zero, List.set_cons_succ])))
  refine Calm.still_nil ?_
  intro w1 hb
  obtain ⟨hbc, hbf⟩ := bcell hb
  have hbz := hb.size
  (try simp at hbz)
  (try have hbz0 : w.heap.size < w1.heap.size := by omega)
  (try have hbz1 : w.heap.size + 1 < w1.heap.size := by omega)
  (try have hbz2 : w.heap.size + 1 + 1 < w1.heap.size := by omega)
  (try have hbz3 : w.heap.size + 1 + 1 + 1 < w1.heap.size := by omega)
  (try have hbz4 : w.heap.size + 1 + 1 + 1 + 1 < w1.heap.size := by omega)
  (try have hbz5 : w.heap.size + 1 + 1 + 1 + 1 + 1 < w1.heap.size := by omega)
  go_wp2_with (first | (go_at_call 53; refine (first3_any _ _ _ _).mono ?_; rintro r w1 ⟨rfl, rfl⟩))
  go_loopw [11] (fun d wr => ∃ k : Nat, k ≤ m ∧ d = (.int .i64 (k)) ∧ (∀ j, j < k → (fineB xs ys m fo st (m - j - 1) && fineB xs ys m fo st (m + j + 1)) = true) ∧ Below w.heap.size w wr ∧ Blk wr w.heap.size #[.slice A1 N c1, .slice A2 N c2] ∧ Blk wr (w.heap.size + 1) #[(.int .i64 (fo))] ∧ Blk wr (w.heap.size + 1 + 1) #[(.int .i64 (st))] ∧ Blk wr (w1.heap.size + 1) #[(.int .i64 (m))]) (fun d _ => m - (intOf d).toNat)
  case atStart => exact ⟨0, Nat.zero_le _, rfl, fun j hj => by omega, by (repeat (first | (with_reducible exact Below.refl _ _) | ((with_reducible refine Below.setCell ?_ ?_ _); rotate_left 1; focus (first | (simp; done) | (simp; omega) | (simp at *; omega))) | ((with_reducible refine Below.alloc ?_ ?_ _); rotate_left 1; focus (first | (simp; done) | (simp; omega) | (simp at *; omega))) | (with_reducible refine Below.drew ?_) | ((with_reducible refine Calm.step (by assumption) ?_ ?_); rotate_left 1; focus (first | (simp; done) | (simp; omega) | (simp at *; omega))))), by (repeat (first | ((with_reducible refine Blk.at_ ?_); focus (first | rfl | (simp; done) | (simp; omega))) | (with_reducible refine Blk.alloc ?_ _) | (with_reducible refine Blk.below ?_ (by with_reducible assumption)) | (with_reducible refine Blk.drew ?_))), by (repeat (first | ((with_reducible refine Blk.at_ ?_); focus (first | rfl | (simp; done) | (simp; omega))) | (with_reducible refine Blk.alloc ?_ _) | (with_reducible refine Blk.below ?_ (by with_reducible assumption)) | (with_reducible refine Blk.drew ?_))), by (repeat (first | ((with_reducible refine Blk.at_ ?_); focus (first | rfl | (simp; done) | (simp; omega))) | (with_reducible refine Blk.alloc ?_ _) | (with_reducible refine Blk.below ?_ (by with_reducible assumption)) | (with_reducible refine Blk.drew ?_))), by (repeat (first | ((with_reducible refine Blk.at_ ?_); focus (first | rfl | (simp; done) | (simp; omega))) | (with_reducible refine Blk.alloc ?_ _) | (with_reducible refine Blk.below ?_ (by with_reducible assumption)) | (with_reducible refine Blk.drew ?_)))⟩
  case round =>
    clear hbc hbf
    obtain ⟨k, hk, rfl, hz, hB, K1, K2, K3, K4⟩ := hrel
    have HJ := Lib.hid hz
    clear hz
    have hsz := hB.size
    have d1 := K4.cell 0 (.int .i64 (m)) rfl
    have t1 := K4.lt
    by_cases hlt : k < m
    · cases f1 : fineB xs ys m fo st (m - k - 1)
      · have HF1 := Lib.hid f1
        clear f1
        go_wp2_with (go_at_call 71; refine (HFI.out _ (m - k - 1) _ _ _ _ _ (by omega) (by have := HNM.out; omega) K1 K2 K4 K3 (HC1.out.below hB) (HC2.out.below hB)).mono ?_; rw [HF1.out]; rintro r w2 ⟨rfl, hb2⟩; obtain ⟨hc2, hf2⟩ := bcell hb2)
        go_ret2
        have hR : R = k := HRM.out.trans (climb_eq HJ.out hk (.inr (by simp [HF1.out])))
        refine ⟨by rw [hR]; first | rfl | (simp; done), ?_⟩
        exact hB.trans (Below.mono (by (repeat (first | (with_reducible exact Below.refl _ _) | ((with_reducible refine Below.setCell ?_ ?_ _); rotate_left 1; focus (first | (simp; done) | (simp; omega) | (simp at *; omega))) | ((with_reducible refine Below.alloc ?_ ?_ _); rotate_left 1; focus (first | (simp; done) | (simp; omega) | (simp at *; omega))) | (with_reducible refine Below.drew ?_) | ((with_reducible refine Calm.step (by assumption) ?_ ?_); rotate_left 1; focus (first | (simp; done) | (simp; omega) | (simp at *; omega)))))) hsz)
      · have HF1 := Lib.hid f1
        clear f1
        cases f2 : fineB xs ys m fo st (m + k + 1)
        · have HF2 := Lib.hid f2
          clear f2
          go_wp2_with (first
            | (go_at_call 71; refine (HFI.out _ (m - k - 1) _ _ _ _ _ (by omega) (by have := HNM.out; omega) K1 K2 K4 K3 (HC1.out.below hB) (HC2.out.below hB)).mono ?_; rw [HF1.out]; rintro r w2 ⟨rfl, hb2⟩; obtain ⟨hc2, hf2⟩ := bcell hb2)
            | (go_at_call 71; refine (HFI.out _ (m + k + 1) _ _ _ _ _ (by omega) (by have := HNM.out; omega) (K1.below hb2) (K2.below hb2) (K4.below hb2) (K3.below hb2) ((HC1.out.below hB).below hb2) ((HC2.out.below hB).below hb2)).mono ?_; rw [HF2.out]; rintro r w3 ⟨rfl, hb3⟩; obtain ⟨hc3, hf3⟩ := bcell hb3))
          go_ret2
          have hR : R = k := HRM.out.trans (climb_eq HJ.out hk (.inr (by simp [HF2.out])))
          refine ⟨by rw [hR]; first | rfl | (simp; done), ?_⟩
          exact hB.trans (Below.mono (hb2.trans (Below.mono hb3 hb2.size)) hsz)
        · have HF2 := Lib.hid f2
          clear f2
          go_wp2_with (first
            | (go_at_call 71; refine (HFI.out _ (m - k - 1) _ _ _ _ _ (by omega) (by have := HNM.out; omega) K1 K2 K4 K3 (HC1.out.below hB) (HC2.out.below hB)).mono ?_; rw [HF1.out]; rintro r w2 ⟨rfl, hb2⟩; obtain ⟨hc2, hf2⟩ := bcell hb2)
            | (go_at_call 71; refine (HFI.out _ (m + k + 1) _ _ _ _ _ (by omega) (by have := HNM.out; omega) (K1.below hb2) (K2.below hb2) (K4.below hb2) (K3.below hb2) ((HC1.out.below hB).below hb2) ((HC2.out.below hB).below hb2)).mono ?_; rw [HF2.out]; rintro r w3 ⟨rfl, hb3⟩; obtain ⟨hc3, hf3⟩ := bcell hb3))
          go_roundw
          case rel => exact ⟨k + 1, by omega, by go_num, fun j hj => by
            rcases Nat.lt_or_ge j k with h | h
            · exact HJ.out j h
            · obtain rfl : j = k := by omega
              rw [HF1.out, HF2.out]; rfl, hB.trans (Below.mono (hb2.trans (Below.mono hb3 hb2.size)) hsz), (K1.below hb2).below hb3, (K2.below hb2).below hb3, (K3.below hb2).below hb3, (K4.below hb2).below hb3⟩
          case measure => simp [intOf]; omega
    · obtain rfl : k = m := by omega
      go_wp2
      go_ret2
      have hR : R = k := HRM.out.trans (climb_eq HJ.out hk (.inl rfl))
      exact ⟨by rw [hR]; first | rfl | (simp; done), hB⟩
end Go.Proofs.YtadcmjnebjgijaaGreatDoor

/- Contract of Sweep. %still -/
namespace Go.Proofs.YtadcmjnebjgijaaGreatDoor
open Go.RowKit
open Calm (bcell Blk)

/-- the reading of a level, with an error in percent. -/
def sweep1 (re le bl ma st lo p x : Int) : Int × Int × Int := (x, vN re le bl ma st lo x * (100 - p) / (vD ma st lo x * 100), (vN re le bl ma st lo x * (100 + p) + vD ma st lo x * 100 - 1) / (vD ma st lo x * 100))
def sweepL (re le bl ma st lo p : Int) (zs : List Int) : List (Int × Int × Int) := zs.map (sweep1 re le bl ma st lo p)
theorem sweepL_succ (re le bl ma st lo p : Int) {zs : List Int} {k : Nat} (hk : k < zs.length) : sweepL re le bl ma st lo p (zs.take (k + 1)) = sweepL re le bl ma st lo p (zs.take k) ++ [sweep1 re le bl ma st lo p (zs.getD k 0)] := by
  unfold sweepL
  rw [List.take_succ_eq_append_getElem hk, List.map_append, List.map_singleton, List.getD_eq_getElem?_getD, List.getElem?_eq_getElem hk]
  rfl
theorem sweepL_len (re le bl ma st lo p : Int) (zs : List Int) : (sweepL re le bl ma st lo p zs).length = zs.length := by simp [sweepL]
theorem keptBad_nil {zs : List Int} (h : ∀ x ∈ zs, 1 ≤ x ∧ x ≤ 8) : keptBad zs = [] := by
  unfold keptBad
  rw [List.filter_eq_nil_iff]
  intro x hx
  simp [rangeErr_zero.2 (h x hx)]

set_option maxRecDepth 100000 in
set_option maxHeartbeats 4000000 in
theorem Sweep_ok (re le bl ma st lo p : Int) (A : Option Addr) (zs : List Int) (c : Nat) (w : World) (hL : Lim w) (hC : Cells w A zs) (hd : drvErr re le bl ma st lo = 0) (hn : zs.length ≤ 32) (hz : ∀ x ∈ zs, 1 ≤ x ∧ x ≤ 8) (hp : 0 ≤ p ∧ p ≤ 50) :
    Calls Tryz.prog 26 #[.agg #[(.int .i64 (re)), (.int .i64 (le)), (.int .i64 (bl)), (.int .i64 (ma)), (.int .i64 (st)), (.int .i64 (lo))], .slice A zs.length c, (.int .i64 (p))] w fun r w' => ∃ v, r = .returned (.tuple #[v, (.int .i64 (0))]) ∧ w'.ownsRow (w.heap.size + 1) 76 3 v zs.length (flat3 (sweepL re le bl ma st lo p zs)) ∧ Below w.heap.size w w' := by
  obtain ⟨i0, hi, iz0, iz1, iz2⟩ := info_parts Tryz.infoR
  have HZ := Lib.hid hz
  have HC := Lib.hid hC
  have hk : (keptBad zs).length = 0 := by rw [keptBad_nil hz]; rfl
  have HK := Lib.hid hk
  have HP := Lib.hid hp
  have hpe : rangeErr p 0 50 = 0 := rangeErr_zero.2 hp
  obtain ⟨N, hN⟩ : ∃ N, N = zs.length := ⟨_, rfl⟩
  have HN := Lib.hid hN
  have hKB : ∀ W : World, Cells W A zs → Calls Tryz.prog 58 #[.slice A N c, .func (.func 59) #[] #[]] W (SomeLen 0 W) := by
    intro W k1
    have := keptBad_any A zs c W k1 (by omega)
    rwa [hk, ← hN] at this
  have HKB := Lib.hid hKB
  rw [← hN] at hn ⊢
  clear hz hC hk hp hN hKB
  have e1 : firstOf [drvErr re le bl ma st lo, 0] = 0 := firstOf_eq_zero.2 (by simp [hd])
  have e2 : firstOf [0, rangeErr p 0 50] = 0 := firstOf_eq_zero.2 (by simp [hpe])
  have HD := Lib.hid hd
  have HPE := Lib.hid hpe
  clear hd hpe
  go_enter Tryz.func26, Tryz.ntmps26
  go_wp2_with (first
    | (go_at_call 31; refine (checkDriver_any _ _ _ _ _ _ _ (hL.below (by repeat (first | (with_reducible exact Below.refl _ _) | ((with_reducible refine Below.setCell ?_ ?_ _); rotate_left 1; focus (first | (simp; done) | (simp; omega) | (simp at *; omega))) | ((with_reducible refine Below.alloc ?_ ?_ _); rotate_left 1; focus (first | (simp; done) | (simp; omega) | (simp at *; omega))) | (with_reducible refine Below.drew ?_) | ((with_reducible refine Calm.step (by assumption) ?_ ?_); rotate_left 1; focus (first | (simp; done) | (simp; omega) | (simp at *; omega))))))).mono ?_; rintro r w1 ⟨rfl, hb⟩; obtain ⟨hc, hf⟩ := bcell hb; have hz := hb.size; (try simp at hz); have hz0 : w.heap.size < w1.heap.size := by omega)
    | (go_at_call 55; refine (when_any _ _ _).mono ?_; rintro r w2 ⟨rfl, rfl⟩)
    | (go_at_call 53; refine (first2_any _ _ _).mono ?_; rintro r w3 ⟨rfl, rfl⟩)
    | (go_at_call 56; refine (within_any _ _ _ _).mono ?_; rintro r w4 ⟨rfl, rfl⟩)
    | (go_at_call 58; refine (HKB.out _ (HC.out.below (by (repeat (first | (with_reducible exact Below.refl _ _) | ((with_reducible refine Below.setCell ?_ ?_ _); rotate_left 1; focus (first | (simp; done) | (simp; omega) | (simp at *; omega))) | ((with_reducible refine Below.alloc ?_ ?_ _); rotate_left 1; focus (first | (simp; done) | (simp; omega) | (simp at *; omega))) | (with_reducible refine Below.drew ?_) | ((with_reducible refine Calm.step (by assumption) ?_ ?_); rotate_left 1; focus (first | (simp; done) | (simp; omega) | (simp at *; omega)))))))).mono ?_; rintro r w5 ⟨A5, c5, rfl, hb5⟩; obtain ⟨hc5, hf5⟩ := bcell hb5; have hz5 := hb5.size; (try simp at hz5); have hz50 : w.heap.size < w5.heap.size := by omega))
  go_loopw [10, 40] (fun v i wr => ∃ k : Nat, k ≤ N ∧ i = (.int .i64 (k)) ∧ wr.ownsRow (w.heap.size + 1) 76 3 v k (flat3 (sweepL re le bl ma st lo p (zs.take k))) ∧ Below w.heap.size w wr ∧ Blk wr w.heap.size #[(.int .i64 (re)), (.int .i64 (le)), (.int .i64 (bl)), (.int .i64 (ma)), (.int .i64 (st)), (.int .i64 (lo))]) (fun _ i _ => N - (intOf i).toNat)
  case atStart => exact ⟨0, Nat.zero_le _, rfl, World.ownsRow_nil _ _ _ _, by (repeat (first | (with_reducible exact Below.refl _ _) | ((with_reducible refine Below.setCell ?_ ?_ _); rotate_left 1; focus (first | (simp; done) | (simp; omega) | (simp at *; omega))) | ((with_reducible refine Below.alloc ?_ ?_ _); rotate_left 1; focus (first | (simp; done) | (simp; omega) | (simp at *; omega))) | (with_reducible refine Below.drew ?_) | ((with_reducible refine Calm.step (by assumption) ?_ ?_); rotate_left 1; focus (first | (simp; done) | (simp; omega) | (simp at *; omega))))), by (repeat (first | ((with_reducible refine Blk.at_ ?_); focus (first | rfl | (simp; done) | (simp; omega))) | (with_reducible refine Blk.alloc ?_ _) | (with_reducible refine Blk.below ?_ (by with_reducible assumption)) | (with_reducible refine Blk.drew ?_)))⟩
  case round =>
    clear hc hf hc5 hf5
    obtain ⟨k, hk, rfl, hown, hB, K⟩ := hrel
    have hsz := hB.size
    have hKlt := K.lt
    have d0 := K.cell 0 (.int .i64 (re)) rfl
    have d1 := K.cell 1 (.int .i64 (le)) rfl
    have d2 := K.cell 2 (.int .i64 (bl)) rfl
    have d3 := K.cell 3 (.int .i64 (ma)) rfl
    have d4 := K.cell 4 (.int .i64 (st)) rfl
    have d5 := K.cell 5 (.int .i64 (lo)) rfl
    have HO := Lib.hid hown
    clear hown
    by_cases hlt : k < N
    · have hlt2 : k < zs.length := by rw [← HN.out]; exact hlt
      obtain ⟨b, o, rfl, l1, k1⟩ := HC.out (by omega)
      have x1 := (hB.cell (p := ⟨b, o + k, none⟩) l1).trans (k1 k hlt2)
      have hx8 := HZ.out _ (getD_mem hlt2)
      have HS := Lib.hid (sweepL_succ re le bl ma st lo p hlt2)
      clear k1 hlt2
      obtain ⟨x, hx⟩ : ∃ x, x = zs.getD k 0 := ⟨_, rfl⟩
      rw [← hx] at x1 hx8
      have HX := Lib.hid hx
      clear hx
      have hF := fit_of HD.out hx8
      obtain ⟨⟨v1, v2⟩, v3, v4⟩ := v_bds hF
      obtain ⟨p1, p2⟩ := HP.out
      have q1 : Bd 34426880000000000 (vN re le bl ma st lo x) := ⟨by omega, by omega⟩
      obtain ⟨u1, u2⟩ := q1.mul (show Bd 100 (100 - p) from ⟨by omega, by omega⟩) (by omega)
      obtain ⟨u3, u4⟩ := q1.mul (show Bd 150 (100 + p) from ⟨by omega, by omega⟩) (by omega)
      have u5 : 0 ≤ vN re le bl ma st lo x * (100 + p) := Int.mul_nonneg v1 (by omega)
      have u6 : 0 ≤ vN re le bl ma st lo x * (100 - p) := Int.mul_nonneg v1 (by omega)
      have z1 : ¬ vD ma st lo x * 100 = 0 := by omega
      obtain ⟨y1, y2⟩ := IntWalk.tdiv_le (vN re le bl ma st lo x * (100 - p)) (vD ma st lo x * 100) (by omega) (by omega)
      obtain ⟨y3, y4⟩ := IntWalk.tdiv_le (vN re le bl ma st lo x * (100 + p) + vD ma st lo x * 100 - 1) (vD ma st lo x * 100) (by omega) (by omega)
      clear q1
      go_wp2_with (go_at_call 61; refine (level_any _ _ _ _ _ _ _ _ hF).mono ?_; rintro r w6 ⟨rfl, hb6⟩; obtain ⟨hc6, hf6⟩ := bcell hb6)
      refine Rel.region2 19 (by kernel_rfl) (by kernel_rfl) (by kernel_rfl) (by kernel_rfl) ?_
      simp only [List.take_succ_cons, List.take_zero, List.drop_succ_cons, List.drop_zero, List.filterMap_cons, List.filterMap_nil]
      repeat (first | (apply Rel.op; (focus rfl); (focus (intro a W hb hd hbase; obtain ⟨hc, hf⟩ := bcell hb; clear hb hf; simp [Rel.deps, Rel.dep1, Act.eval] at hd; simp only [Act.eval, List.mem_cons, List.not_mem_nil, not_or, and_imp, or_false, Array.getD_eq_getD_getElem?] at hbase; go_simp; (try go_bits); (try rfl); done)); (try simp only [List.nil_append, List.cons_append])) | (apply Rel.alloc; (focus rfl); (focus (intro a W; go_simp; refine ⟨?_, ?_⟩; rfl; rfl)); (try simp only [List.nil_append, List.cons_append])) | (apply Rel.alloc; (focus rfl); (focus (intro a W; go_simp; rfl)); (try simp only [List.nil_append, List.cons_append])) | (apply Rel.build; (focus rfl); (focus (intro a W hb hd hbase; obtain ⟨hc, hf⟩ := bcell hb; clear hb hf; simp [Rel.deps, Rel.dep1, Act.eval] at hd; simp only [Act.eval, List.mem_cons, List.not_mem_nil, not_or, and_imp, or_false, Array.getD_eq_getD_getElem?] at hbase; go_simp; (first | rfl | (refine ⟨⟨?_, ?_⟩, ?_⟩; rfl; rfl; rfl) | (refine ⟨?_, ?_⟩; rfl; rfl)))); (try simp only [List.nil_append, List.cons_append])))
      refine Rel.done ?_
      intro x w7 hb7 hx
      simp only [Rel.facts, Nat.zero_add, Nat.reduceAdd] at hx
      obtain ⟨e0, e1, e2, e3, e4, e5, e6, e7, e8, e9, e10, e11, e12, e13, e14, e15, e16, e17, ⟨sl, e18, slB, slk⟩, _⟩ := hx
      simp only [Rel.fill, Nat.zero_add, Nat.reduceAdd, e0, e1, e2, e3, e4, e5, e6, e7, e8, e9, e10, e11, e12, e13, e14, e15, e16, e17, e18]
      simp only [Act.put, List.setIfInBounds_toArray, List.set_cons_zero, List.set_cons_succ]
      clear e0 e1 e2 e3 e4 e5 e6 e7 e8 e9 e10 e11 e12 e13 e14 e15 e16 e17 e18
      clear x
      obtain ⟨hb7c, hb7f⟩ := bcell hb7
      have hb7z := hb7.size
      (try simp at hb7z)
      (try have hb7z0 : w.heap.size < w7.heap.size := by omega)
      (try have hb7z1 : w.heap.size + 1 < w7.heap.size := by omega)
      (try have hb7z2 : w.heap.size + 1 + 1 < w7.heap.size := by omega)
      (try have hb7z3 : w.heap.size + 1 + 1 + 1 < w7.heap.size := by omega)
      (try have hb7z4 : w.heap.size + 1 + 1 + 1 + 1 < w7.heap.size := by omega)
      (try have hb7z5 : w.heap.size + 1 + 1 + 1 + 1 + 1 < w7.heap.size := by omega)
      have ho1 := ownsRow_below HO.out (hb6.trans (Below.mono hb7 hb6.size))
      have s0 := slk.cell 0 (.int .i64 (x)) rfl
      have s1 := slk.cell 1 (.int .i64 (vN re le bl ma st lo x * (100 - p) / (vD ma st lo x * 100))) rfl
      have s2 := slk.cell 2 (.int .i64 ((vN re le bl ma st lo x * (100 + p) + vD ma st lo x * 100 - 1) / (vD ma st lo x * 100))) rfl
      refine wpList_append_own _ rfl _ _ 64 rfl (w.heap.size + 1) 76 i0 _ 3 24 Tryz.underlying64 hi iz0 iz1 iz2 rfl (by decide) _ _ _ rfl ho1 ⟨sl, 0, none⟩ 1 1 [(.int .i64 (x)), (.int .i64 (vN re le bl ma st lo x * (100 - p) / (vD ma st lo x * 100))), (.int .i64 ((vN re le bl ma st lo x * (100 + p) + vD ma st lo x * 100 - 1) / (vD ma st lo x * 100)))] rfl rfl ?c1 ?c2 ?c3 ?c4 ?c5 ?_
      case c1 =>
        intro j u hj
        match j, hj with
        | 0, hj => simp at hj; subst hj; exact s0
        | 1, hj => simp at hj; subst hj; exact s1
        | 2, hj => simp at hj; subst hj; exact s2
      case c2 => intro u hu; simp at hu; rcases hu with rfl | rfl | rfl <;> rfl
      case c3 => unfold maxLen; omega
      case c4 => omega
      case c5 => have := hb6.size; omega
      intro v' w8 hown' hgrow _
      have hB7 : Below w.heap.size w w7 := hB.trans (Below.mono (hb6.trans (Below.mono hb7 hb6.size)) hsz)
      have hB8 : Below (w.heap.size + 1) w7 w8 := (Below.refl _ _).grown hgrow (by have := hb6.size; omega) (fun j hj => (HO.out.lt j hj).1)
      have K8 := ((K.below hb6).below hb7).of (Nat.lt_succ_self _) hB8
      clear hgrow
      have HO8 := Lib.hid hown'
      clear hown'
      go_wp2
      go_roundw
      case rel => exact ⟨k + 1, by omega, by go_num, by rw [HS.out, flat3_append, ← HX.out]; simpa [flat3, sweep1] using HO8.out, hB7.trans (Below.mono hB8 (by omega)), K8⟩
      case measure => simp [intOf]; omega
    · obtain rfl : k = N := by omega
      have e : zs.take k = zs := by rw [HN.out]; exact List.take_length
      have hown := HO.out
      rw [e] at hown
      have HO2 := Lib.hid hown
      clear hown e
      go_wp2
      go_ret2
      exact ⟨_, rfl, HO2.out, hB⟩
end Go.Proofs.YtadcmjnebjgijaaGreatDoor
