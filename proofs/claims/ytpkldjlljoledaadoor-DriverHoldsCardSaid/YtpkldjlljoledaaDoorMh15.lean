/- Part 15 of the texts of the claim: B9, B10, B3, Aw0. -/
import Derived.Test.YtpkldjlljoledaaDoorMh7
import Derived.Test.YtpkldjlljoledaaDoorMh9
import Derived.Test.YtpkldjlljoledaaDoorMh3
import Derived.Test.YtpkldjlljoledaaDoorMh11
import Derived.Test.YtpkldjlljoledaaDoorMh14
import Derived.Test.YtpkldjlljoledaaDoorMh5
import Derived.Test.YtpkldjlljoledaaDoorMh6

/- Contract of the condition in Linear. %still -/
namespace Go.Proofs.YtpkldjlljoledaaDoor
open Go.RowKit
open Calm (bcell Blk)

/-- is a curve fine at an index. -/
def fineB (xs ys : List Int) (n : Nat) (fo st : Int) (i : Nat) : Bool := decide (fo * xs.getD n 0 ≤ 100 * xs.getD i 0) && decide (100 * ys.getD i 0 ≤ st * ys.getD n 0)
set_option maxHeartbeats 4000000 in
set_option maxRecDepth 100000 in
theorem fine_any (xs ys : List Int) (i n : Nat) (fo st : Int) (q1 q2 q3 q4 : Nat) (A1 A2 : Option Addr) (c1 c2 : Nat) (w : World)
    (k1 : Blk w q1 #[.slice A1 xs.length c1, .slice A2 ys.length c2]) (k2 : Blk w q2 #[(.int .i64 (fo))]) (k3 : Blk w q3 #[(.int .i64 (n))]) (k4 : Blk w q4 #[(.int .i64 (st))]) (hC1 : Cells w A1 xs) (hC2 : Cells w A2 ys) (hl : ys.length = xs.length) (hi : i < xs.length) (hn : n < xs.length)
    (h1 : ∀ x ∈ xs, 1 ≤ x ∧ x ≤ 999999999) (h2 : ∀ y ∈ ys, 1 ≤ y ∧ y ≤ 999999999) (hf : 1 ≤ fo ∧ fo ≤ 100) (hs : 100 ≤ st ∧ st ≤ 1000) :
    Calls Tryd.prog 93 #[(.int .i64 (i)), .pointer (some ⟨q1, 0, none⟩), .pointer (some ⟨q2, 0, none⟩), .pointer (some ⟨q3, 0, none⟩), .pointer (some ⟨q4, 0, none⟩)] w fun r w' => r = .returned (.bool (fineB xs ys n fo st i)) ∧ Below w.heap.size w w' := by
  obtain ⟨b1, o1, rfl, l1, m1⟩ := hC1 (by omega)
  obtain ⟨b2, o2, rfl, l2, m2⟩ := hC2 (by omega)
  have d1 := k1.cell 0 _ rfl
  have d2 := k1.cell 1 _ rfl
  have d3 := k2.cell 0 _ rfl
  have d4 := k3.cell 0 _ rfl
  have d5 := k4.cell 0 _ rfl
  have t1 := k1.lt
  have t2 := k2.lt
  have t3 := k3.lt
  have t4 := k4.lt
  rw [hl] at d2 m2
  have x1 := m1 i hi
  have x2 := m1 n hn
  have y1 := m2 i hi
  have y2 := m2 n hn
  have a1 := h1 _ (getD_mem hi)
  have a2 := h1 _ (getD_mem hn)
  have e1 := h2 _ (getD_mem (k := i) (by omega))
  have e2 := h2 _ (getD_mem (k := n) (by omega))
  unfold fineB
  clear m1 m2 hC1 hC2 h1 h2 k1 k2 k3 k4
  generalize xs.getD i 0 = x at *
  generalize xs.getD n 0 = x' at *
  generalize ys.getD i 0 = y at *
  generalize ys.getD n 0 = y' at *
  have p1 : Bd 100 fo := ⟨by omega, by omega⟩
  have p2 : Bd 999999999 x' := ⟨by omega, by omega⟩
  have p3 : Bd 1000 st := ⟨by omega, by omega⟩
  have p4 : Bd 999999999 y' := ⟨by omega, by omega⟩
  obtain ⟨u1, u2⟩ := p1.mul p2 (by omega)
  obtain ⟨u3, u4⟩ := p3.mul p4 (by omega)
  clear p1 p2 p3 p4
  by_cases v1 : fo * x' ≤ 100 * x
  · rw [decide_eq_true v1]
    by_cases v2 : 100 * y ≤ st * y'
    · rw [decide_eq_true v2]
      go_enter Tryd.func93, Tryd.ntmps93
      go_wp2
      refine Calm.still_tail 29 (by kernel_rfl) (by kernel_rfl) ?_
      simp only [List.take_succ_cons, List.take_zero, List.drop_succ_cons, List.drop_zero]
      repeat (first | (apply Calm.still_op_move; (focus rfl); (focus (first | exact .inl rfl | exact .inr rfl)); (focus ((try simp only [Act.eval, Array.getD_eq_getD_getElem?, List.getElem?_toArray, List.getElem?_cons_succ, List.getElem?_cons_zero, Option.getD_some]); rfl)); (try simp only [Act.put, List.setIfInBounds_toArray, List.set_cons_zero, List.set_cons_succ])) | (apply Calm.still_op_not; (focus rfl); (try simp only [Act.put, List.setIfInBounds_toArray, List.set_cons_zero, List.set_cons_succ])) | (apply Calm.still_op; (focus rfl); (focus (intro W hb; obtain ⟨hc, hf⟩ := bcell hb; clear hb hf; go_simp; (try go_bits); (try rfl); done)); (try simp only [Act.put, List.setIfInBounds_toArray, List.set_cons_zero, List.set_cons_succ])))
      refine Calm.still_nil ?_
      intro w1 hb
      obtain ⟨hbc, hbf⟩ := bcell hb
      have hbz := hb.size
      (try simp at hbz)
      (try have hbz0 : w.heap.size < w1.heap.size := by omega)
      (try have hbz1 : w.heap.size + 1 < w1.heap.size := by omega)
      (try have hbz2 : w.heap.size + 1 + 1 < w1.heap.size := by omega)
      (try have hbz3 : w.heap.size + 1 + 1 + 1 < w1.heap.size := by omega)
      (try have hbz4 : w.heap.size + 1 + 1 + 1 + 1 < w1.heap.size := by omega)
      (try have hbz5 : w.heap.size + 1 + 1 + 1 + 1 + 1 < w1.heap.size := by omega)
      go_wp2
      go_ret
      refine ⟨by first | rfl | (simp; done) | (simp; omega), ?_⟩
      repeat (first | (with_reducible exact Below.refl _ _) | ((with_reducible refine Below.setCell ?_ ?_ _); rotate_left 1; focus (first | (simp; done) | (simp; omega) | (simp at *; omega))) | ((with_reducible refine Below.alloc ?_ ?_ _); rotate_left 1; focus (first | (simp; done) | (simp; omega) | (simp at *; omega))) | (with_reducible refine Below.drew ?_) | ((with_reducible refine Calm.step (by assumption) ?_ ?_); rotate_left 1; focus (first | (simp; done) | (simp; omega) | (simp at *; omega))))
    · rw [decide_eq_false v2]
      go_enter Tryd.func93, Tryd.ntmps93
      go_wp2
      refine Calm.still_tail 29 (by kernel_rfl) (by kernel_rfl) ?_
      simp only [List.take_succ_cons, List.take_zero, List.drop_succ_cons, List.drop_zero]
      repeat (first | (apply Calm.still_op_move; (focus rfl); (focus (first | exact .inl rfl | exact .inr rfl)); (focus ((try simp only [Act.eval, Array.getD_eq_getD_getElem?, List.getElem?_toArray, List.getElem?_cons_succ, List.getElem?_cons_zero, Option.getD_some]); rfl)); (try simp only [Act.put, List.setIfInBounds_toArray, List.set_cons_zero, List.set_cons_succ])) | (apply Calm.still_op_not; (focus rfl); (try simp only [Act.put, List.setIfInBounds_toArray, List.set_cons_zero, List.set_cons_succ])) | (apply Calm.still_op; (focus rfl); (focus (intro W hb; obtain ⟨hc, hf⟩ := bcell hb; clear hb hf; go_simp; (try go_bits); (try rfl); done)); (try simp only [Act.put, List.setIfInBounds_toArray, List.set_cons_zero, List.set_cons_succ])))
      refine Calm.still_nil ?_
      intro w1 hb
      obtain ⟨hbc, hbf⟩ := bcell hb
      have hbz := hb.size
      (try simp at hbz)
      (try have hbz0 : w.heap.size < w1.heap.size := by omega)
      (try have hbz1 : w.heap.size + 1 < w1.heap.size := by omega)
      (try have hbz2 : w.heap.size + 1 + 1 < w1.heap.size := by omega)
      (try have hbz3 : w.heap.size + 1 + 1 + 1 < w1.heap.size := by omega)
      (try have hbz4 : w.heap.size + 1 + 1 + 1 + 1 < w1.heap.size := by omega)
      (try have hbz5 : w.heap.size + 1 + 1 + 1 + 1 + 1 < w1.heap.size := by omega)
      go_wp2
      go_ret
      refine ⟨by first | rfl | (simp; done) | (simp; omega), ?_⟩
      repeat (first | (with_reducible exact Below.refl _ _) | ((with_reducible refine Below.setCell ?_ ?_ _); rotate_left 1; focus (first | (simp; done) | (simp; omega) | (simp at *; omega))) | ((with_reducible refine Below.alloc ?_ ?_ _); rotate_left 1; focus (first | (simp; done) | (simp; omega) | (simp at *; omega))) | (with_reducible refine Below.drew ?_) | ((with_reducible refine Calm.step (by assumption) ?_ ?_); rotate_left 1; focus (first | (simp; done) | (simp; omega) | (simp at *; omega))))
  · rw [decide_eq_false v1]
    go_enter Tryd.func93, Tryd.ntmps93
    go_wp2
    refine Calm.still_tail 29 (by kernel_rfl) (by kernel_rfl) ?_
    simp only [List.take_succ_cons, List.take_zero, List.drop_succ_cons, List.drop_zero]
    (first | (apply Calm.still_op_move; (focus rfl); (focus (first | exact .inl rfl | exact .inr rfl)); (focus ((try simp only [Act.eval, Array.getD_eq_getD_getElem?, List.getElem?_toArray, List.getElem?_cons_succ, List.getElem?_cons_zero, Option.getD_some]); rfl)); (try simp only [Act.put, List.setIfInBounds_toArray, List.set_cons_zero, List.set_cons_succ])) | (apply Calm.still_op_not; (focus rfl); (try simp only [Act.put, List.setIfInBounds_toArray, List.set_cons_zero, List.set_cons_succ])) | (apply Calm.still_op; (focus rfl); (focus (intro W hb; obtain ⟨hc, hf⟩ := bcell hb; clear hb hf; go_simp; (try go_bits); (try rfl); done)); (try simp only [Act.put, List.setIfInBounds_toArray, List.set_cons_zero, List.set_cons_succ])))
    (first | (apply Calm.still_op_move; (focus rfl); (focus (first | exact .inl rfl | exact .inr rfl)); (focus ((try simp only [Act.eval, Array.getD_eq_getD_getElem?, List.getElem?_toArray, List.getElem?_cons_succ, List.getElem?_cons_zero, Option.getD_some]); rfl)); (try simp only [Act.put, List.setIfInBounds_toArray, List.set_cons_zero, List.set_cons_succ])) | (apply Calm.still_op_not; (focus rfl); (try simp only [Act.put, List.setIfInBounds_toArray, List.set_cons_zero, List.set_cons_succ])) | (apply Calm.still_op; (focus rfl); (focus (intro W hb; obtain ⟨hc, hf⟩ := bcell hb; clear hb hf; go_simp; (try go_bits); (try rfl); done)); (try simp only [Act.put, List.setIfInBounds_toArray, List.set_cons_zero, List.set_cons_succ])))
    (first | (apply Calm.still_op_move; (focus rfl); (focus (first | exact .inl rfl | exact .inr rfl)); (focus ((try simp only [Act.eval, Array.getD_eq_getD_getElem?, List.getElem?_toArray, List.getElem?_cons_succ, List.getElem?_cons_zero, Option.getD_some]); rfl)); (try simp only [Act.put, List.setIfInBounds_toArray, List.set_cons_zero, List.set_cons_succ])) | (apply Calm.still_op_not; (focus rfl); (try simp only [Act.put, List.setIfInBounds_toArray, List.set_cons_zero, List.set_cons_succ])) | (apply Calm.still_op; (focus rfl); (focus (intro W hb; obtain ⟨hc, hf⟩ := bcell hb; clear hb hf; go_simp; (try go_bits); (try rfl); done)); (try simp only [Act.put, List.setIfInBounds_toArray, List.set_cons_zero, List.set_cons_succ])))
    (first | (apply Calm.still_op_move; (focus rfl); (focus (first | exact .inl rfl | exact .inr rfl)); (focus ((try simp only [Act.eval, Array.getD_eq_getD_getElem?, List.getElem?_toArray, List.getElem?_cons_succ, List.getElem?_cons_zero, Option.getD_some]); rfl)); (try simp only [Act.put, List.setIfInBounds_toArray, List.set_cons_zero, List.set_cons_succ])) | (apply Calm.still_op_not; (focus rfl); (try simp only [Act.put, List.setIfInBounds_toArray, List.set_cons_zero, List.set_cons_succ])) | (apply Calm.still_op; (focus rfl); (focus (intro W hb; obtain ⟨hc, hf⟩ := bcell hb; clear hb hf; go_simp; (try go_bits); (try rfl); done)); (try simp only [Act.put, List.setIfInBounds_toArray, List.set_cons_zero, List.set_cons_succ])))
    (first | (apply Calm.still_op_move; (focus rfl); (focus (first | exact .inl rfl | exact .inr rfl)); (focus ((try simp only [Act.eval, Array.getD_eq_getD_getElem?, List.getElem?_toArray, List.getElem?_cons_succ, List.getElem?_cons_zero, Option.getD_some]); rfl)); (try simp only [Act.put, List.setIfInBounds_toArray, List.set_cons_zero, List.set_cons_succ])) | (apply Calm.still_op_not; (focus rfl); (try simp only [Act.put, List.setIfInBounds_toArray, List.set_cons_zero, List.set_cons_succ])) | (apply Calm.still_op; (focus rfl); (focus (intro W hb; obtain ⟨hc, hf⟩ := bcell hb; clear hb hf; go_simp; (try go_bits); (try rfl); done)); (try simp only [Act.put, List.setIfInBounds_toArray, List.set_cons_zero, List.set_cons_succ])))
    (first | (apply Calm.still_op_move; (focus rfl); (focus (first | exact .inl rfl | exact .inr rfl)); (focus ((try simp only [Act.eval, Array.getD_eq_getD_getElem?, List.getElem?_toArray, List.getElem?_cons_succ, List.getElem?_cons_zero, Option.getD_some]); rfl)); (try simp only [Act.put, List.setIfInBounds_toArray, List.set_cons_zero, List.set_cons_succ])) | (apply Calm.still_op_not; (focus rfl); (try simp only [Act.put, List.setIfInBounds_toArray, List.set_cons_zero, List.set_cons_succ])) | (apply Calm.still_op; (focus rfl); (focus (intro W hb; obtain ⟨hc, hf⟩ := bcell hb; clear hb hf; go_simp; (try go_bits); (try rfl); done)); (try simp only [Act.put, List.setIfInBounds_toArray, List.set_cons_zero, List.set_cons_succ])))
    (first | (apply Calm.still_op_move; (focus rfl); (focus (first | exact .inl rfl | exact .inr rfl)); (focus ((try simp only [Act.eval, Array.getD_eq_getD_getElem?, List.getElem?_toArray, List.getElem?_cons_succ, List.getElem?_cons_zero, Option.getD_some]); rfl)); (try simp only [Act.put, List.setIfInBounds_toArray, List.set_cons_zero, List.set_cons_succ])) | (apply Calm.still_op_not; (focus rfl); (try simp only [Act.put, List.setIfInBounds_toArray, List.set_cons_zero, List.set_cons_succ])) | (apply Calm.still_op; (focus rfl); (focus (intro W hb; obtain ⟨hc, hf⟩ := bcell hb; clear hb hf; go_simp; (try go_bits); (try rfl); done)); (try simp only [Act.put, List.setIfInBounds_toArray, List.set_cons_zero, List.set_cons_succ])))
    (first | (apply Calm.still_op_move; (focus rfl); (focus (first | exact .inl rfl | exact .inr rfl)); (focus ((try simp only [Act.eval, Array.getD_eq_getD_getElem?, List.getElem?_toArray, List.getElem?_cons_succ, List.getElem?_cons_zero, Option.getD_some]); rfl)); (try simp only [Act.put, List.setIfInBounds_toArray, List.set_cons_zero, List.set_cons_succ])) | (apply Calm.still_op_not; (focus rfl); (try simp only [Act.put, List.setIfInBounds_toArray, List.set_cons_zero, List.set_cons_succ])) | (apply Calm.still_op; (focus rfl); (focus (intro W hb; obtain ⟨hc, hf⟩ := bcell hb; clear hb hf; go_simp; (try go_bits); (try rfl); done)); (try simp only [Act.put, List.setIfInBounds_toArray, List.set_cons_zero, List.set_cons_succ])))
    (first | (apply Calm.still_op_move; (focus rfl); (focus (first | exact .inl rfl | exact .inr rfl)); (focus ((try simp only [Act.eval, Array.getD_eq_getD_getElem?, List.getElem?_toArray, List.getElem?_cons_succ, List.getElem?_cons_zero, Option.getD_some]); rfl)); (try simp only [Act.put, List.setIfInBounds_toArray, List.set_cons_zero, List.set_cons_succ])) | (apply Calm.still_op_not; (focus rfl); (try simp only [Act.put, List.setIfInBounds_toArray, List.set_cons_zero, List.set_cons_succ])) | (apply Calm.still_op; (focus rfl); (focus (intro W hb; obtain ⟨hc, hf⟩ := bcell hb; clear hb hf; go_simp; (try go_bits); (try rfl); done)); (try simp only [Act.put, List.setIfInBounds_toArray, List.set_cons_zero, List.set_cons_succ])))
    (first | (apply Calm.still_op_move; (focus rfl); (focus (first | exact .inl rfl | exact .inr rfl)); (focus ((try simp only [Act.eval, Array.getD_eq_getD_getElem?, List.getElem?_toArray, List.getElem?_cons_succ, List.getElem?_cons_zero, Option.getD_some]); rfl)); (try simp only [Act.put, List.setIfInBounds_toArray, List.set_cons_zero, List.set_cons_succ])) | (apply Calm.still_op_not; (focus rfl); (try simp only [Act.put, List.setIfInBounds_toArray, List.set_cons_zero, List.set_cons_succ])) | (apply Calm.still_op; (focus rfl); (focus (intro W hb; obtain ⟨hc, hf⟩ := bcell hb; clear hb hf; go_simp; (try go_bits); (try rfl); done)); (try simp only [Act.put, List.setIfInBounds_toArray, List.set_cons_zero, List.set_cons_succ])))
    (first | (apply Calm.still_op_move; (focus rfl); (focus (first | exact .inl rfl | exact .inr rfl)); (focus ((try simp only [Act.eval, Array.getD_eq_getD_getElem?, List.getElem?_toArray, List.getElem?_cons_succ, List.getElem?_cons_zero, Option.getD_some]); rfl)); (try simp only [Act.put, List.setIfInBounds_toArray, List.set_cons_zero, List.set_cons_succ])) | (apply Calm.still_op_not; (focus rfl); (try simp only [Act.put, List.setIfInBounds_toArray, List.set_cons_zero, List.set_cons_succ])) | (apply Calm.still_op; (focus rfl); (focus (intro W hb; obtain ⟨hc, hf⟩ := bcell hb; clear hb hf; go_simp; (try go_bits); (try rfl); done)); (try simp only [Act.put, List.setIfInBounds_toArray, List.set_cons_zero, List.set_cons_succ])))
    (first | (apply Calm.still_op_move; (focus rfl); (focus (first | exact .inl rfl | exact .inr rfl)); (focus ((try simp only [Act.eval, Array.getD_eq_getD_getElem?, List.getElem?_toArray, List.getElem?_cons_succ, List.getElem?_cons_zero, Option.getD_some]); rfl)); (try simp only [Act.put, List.setIfInBounds_toArray, List.set_cons_zero, List.set_cons_succ])) | (apply Calm.still_op_not; (focus rfl); (try simp only [Act.put, List.setIfInBounds_toArray, List.set_cons_zero, List.set_cons_succ])) | (apply Calm.still_op; (focus rfl); (focus (intro W hb; obtain ⟨hc, hf⟩ := bcell hb; clear hb hf; go_simp; (try go_bits); (try rfl); done)); (try simp only [Act.put, List.setIfInBounds_toArray, List.set_cons_zero, List.set_cons_succ])))
    (first | (apply Calm.still_op_move; (focus rfl); (focus (first | exact .inl rfl | exact .inr rfl)); (focus ((try simp only [Act.eval, Array.getD_eq_getD_getElem?, List.getElem?_toArray, List.getElem?_cons_succ, List.getElem?_cons_zero, Option.getD_some]); rfl)); (try simp only [Act.put, List.setIfInBounds_toArray, List.set_cons_zero, List.set_cons_succ])) | (apply Calm.still_op_not; (focus rfl); (try simp only [Act.put, List.setIfInBounds_toArray, List.set_cons_zero, List.set_cons_succ])) | (apply Calm.still_op; (focus rfl); (focus (intro W hb; obtain ⟨hc, hf⟩ := bcell hb; clear hb hf; go_simp; (try go_bits); (try rfl); done)); (try simp only [Act.put, List.setIfInBounds_toArray, List.set_cons_zero, List.set_cons_succ])))
    apply Calm.still_op (.bool false)
    focus rfl
    focus (intro W hb; obtain ⟨hc, hf⟩ := bcell hb; clear hb hf; go_simp; (try (first | (simp; done) | (simp; omega) | omega)))
    (try simp only [Act.put, List.setIfInBounds_toArray, List.set_cons_zero, List.set_cons_succ])
    repeat (first | (apply Calm.still_op_move; (focus rfl); (focus (first | exact .inl rfl | exact .inr rfl)); (focus ((try simp only [Act.eval, Array.getD_eq_getD_getElem?, List.getElem?_toArray, List.getElem?_cons_succ, List.getElem?_cons_zero, Option.getD_some]); rfl)); (try simp only [Act.put, List.setIfInBounds_toArray, List.set_cons_zero, List.set_cons_succ])) | (apply Calm.still_op_not; (focus rfl); (try simp only [Act.put, List.setIfInBounds_toArray, List.set_cons_zero, List.set_cons_succ])) | (apply Calm.still_op; (focus rfl); (focus (intro W hb; obtain ⟨hc, hf⟩ := bcell hb; clear hb hf; go_simp; (try go_bits); (try rfl); done)); (try simp only [Act.put, List.setIfInBounds_toArray, List.set_cons_zero, List.set_cons_succ])))
    refine Calm.still_nil ?_
    intro w1 hb
    obtain ⟨hbc, hbf⟩ := bcell hb
    have hbz := hb.size
    (try simp at hbz)
    (try have hbz0 : w.heap.size < w1.heap.size := by omega)
    (try have hbz1 : w.heap.size + 1 < w1.heap.size := by omega)
    (try have hbz2 : w.heap.size + 1 + 1 < w1.heap.size := by omega)
    (try have hbz3 : w.heap.size + 1 + 1 + 1 < w1.heap.size := by omega)
    (try have hbz4 : w.heap.size + 1 + 1 + 1 + 1 < w1.heap.size := by omega)
    (try have hbz5 : w.heap.size + 1 + 1 + 1 + 1 + 1 < w1.heap.size := by omega)
    go_wp2
    go_ret
    refine ⟨by first | rfl | (simp; done) | (simp; omega), ?_⟩
    repeat (first | (with_reducible exact Below.refl _ _) | ((with_reducible refine Below.setCell ?_ ?_ _); rotate_left 1; focus (first | (simp; done) | (simp; omega) | (simp at *; omega))) | ((with_reducible refine Below.alloc ?_ ?_ _); rotate_left 1; focus (first | (simp; done) | (simp; omega) | (simp at *; omega))) | (with_reducible refine Below.drew ?_) | ((with_reducible refine Calm.step (by assumption) ?_ ?_); rotate_left 1; focus (first | (simp; done) | (simp; omega) | (simp at *; omega))))
end Go.Proofs.YtpkldjlljoledaaDoor

/- Contracts of Linear. %still -/
namespace Go.Proofs.YtpkldjlljoledaaDoor
open Go.RowKit
open Calm (bcell Blk)

/-- the error of a curve and its demands. -/
def linErr (xs ys : List Int) (fo st : Int) : Int := firstOf [curveErr xs ys, rangeErr fo 1 100, rangeErr st 100 1000]
theorem checkCurve_any (A1 A2 : Option Addr) (xs ys : List Int) (c1 c2 : Nat) (w : World) (hC1 : Cells w A1 xs) (hC2 : Cells w A2 ys) (h1 : xs.length ≤ 100000) (h2 : ys.length ≤ 100000) :
    Calls Tryd.prog 50 #[.agg #[.slice A1 xs.length c1, .slice A2 ys.length c2]] w fun r w' => r = .returned (.int .i64 (curveErr xs ys)) ∧ Below w.heap.size w w' := by
  by_cases h : xs.length % 2 = 0 ∨ xs.length < 3 ∨ 33 < xs.length ∨ ys.length ≠ xs.length
  · have e : curveErr xs ys = 2 := if_pos h
    rw [e]
    exact checkCurve_shape A1 A2 xs ys c1 c2 w h1 h2 h
  · exact checkCurve_len A1 A2 xs ys c1 c2 w hC1 hC2 h
theorem curve_zero {xs ys : List Int} (h : curveErr xs ys = 0) : (xs.length % 2 = 1 ∧ 3 ≤ xs.length ∧ xs.length ≤ 33 ∧ ys.length = xs.length) ∧ (∀ x ∈ xs, 1 ≤ x ∧ x ≤ 999999999) ∧ (∀ y ∈ ys, 1 ≤ y ∧ y ≤ 999999999) := by
  unfold curveErr at h
  by_cases h1 : xs.length % 2 = 0 ∨ xs.length < 3 ∨ 33 < xs.length ∨ ys.length ≠ xs.length
  · rw [if_pos h1] at h; omega
  · rw [if_neg h1] at h
    refine ⟨⟨by omega, by omega, by omega, Classical.byContradiction fun hh => h1 (.inr (.inr (.inr hh)))⟩, ?_⟩
    by_cases h2 : (∀ x ∈ xs, 1 ≤ x ∧ x ≤ 999999999) ∧ (∀ y ∈ ys, 1 ≤ y ∧ y ≤ 999999999)
    · exact h2
    · rw [if_neg h2] at h; omega

set_option maxHeartbeats 2000000 in
theorem Linear_bad (xs ys : List Int) (fo st : Int) (A1 A2 : Option Addr) (c1 c2 : Nat) (w : World) (hC1 : Cells w A1 xs) (hC2 : Cells w A2 ys) (h1 : xs.length ≤ 100000) (h2 : ys.length ≤ 100000) (h : linErr xs ys fo st ≠ 0) :
    Calls Tryd.prog 46 #[.agg #[.slice A1 xs.length c1, .slice A2 ys.length c2], (.int .i64 (fo)), (.int .i64 (st))] w fun r w' => r = .returned (.tuple #[(.int .i64 (0)), (.int .i64 (linErr xs ys fo st))]) ∧ Below w.heap.size w w' := by
  have HC1 := Lib.hid hC1
  have HC2 := Lib.hid hC2
  clear hC1 hC2
  unfold linErr at h ⊢
  obtain ⟨E, hE⟩ : ∃ E, E = curveErr xs ys := ⟨_, rfl⟩
  have HE := Lib.hid hE
  rw [← hE] at h ⊢
  clear hE
  go_enter Tryd.func46, Tryd.ntmps46
  go_wp2
  refine Calm.still_tail 6 (by kernel_rfl) (by kernel_rfl) ?_
  simp only [List.take_succ_cons, List.take_zero, List.drop_succ_cons, List.drop_zero]
  repeat (first | (first | (apply Calm.still_op_move; (focus rfl); (focus (first | exact .inl rfl | exact .inr rfl)); (focus ((try simp only [Act.eval, Array.getD_eq_getD_getElem?, List.getElem?_toArray, List.getElem?_cons_succ, List.getElem?_cons_zero, Option.getD_some]); rfl)); (try simp only [Act.put, List.setIfInBounds_toArray, List.set_cons_zero, List.set_cons_succ])) | (apply Calm.still_op_not; (focus rfl); (try simp only [Act.put, List.setIfInBounds_toArray, List.set_cons_zero, List.set_cons_succ])) | (apply Calm.still_op; (focus rfl); (focus (intro W hb; obtain ⟨hc, hf⟩ := bcell hb; clear hb hf; go_simp; (try go_bits); (try rfl); done)); (try simp only [Act.put, List.setIfInBounds_toArray, List.set_cons_zero, List.set_cons_succ]))) | (apply Calm.still_op_call; (focus rfl); (focus (intro W hb; obtain ⟨hc, hf⟩ := bcell hb; clear hb hf; go_simp; refine ⟨?_, ?_⟩; rfl; rfl)); (focus (intro W hb; first | (go_at_call 50; exact Calm.call_below hb ((HE.out ▸ checkCurve_any A1 A2 xs ys _ _ _ (HC1.out.below (by (repeat (first | (with_reducible exact Below.refl _ _) | ((with_reducible refine Below.setCell ?_ ?_ _); rotate_left 1; focus (first | (simp; done) | (simp; omega) | (simp at *; omega))) | ((with_reducible refine Below.alloc ?_ ?_ _); rotate_left 1; focus (first | (simp; done) | (simp; omega) | (simp at *; omega))) | (with_reducible refine Below.drew ?_) | ((with_reducible refine Calm.step (by assumption) ?_ ?_); rotate_left 1; focus (first | (simp; done) | (simp; omega) | (simp at *; omega))))))) (HC2.out.below (by (repeat (first | (with_reducible exact Below.refl _ _) | ((with_reducible refine Below.setCell ?_ ?_ _); rotate_left 1; focus (first | (simp; done) | (simp; omega) | (simp at *; omega))) | ((with_reducible refine Below.alloc ?_ ?_ _); rotate_left 1; focus (first | (simp; done) | (simp; omega) | (simp at *; omega))) | (with_reducible refine Below.drew ?_) | ((with_reducible refine Calm.step (by assumption) ?_ ?_); rotate_left 1; focus (first | (simp; done) | (simp; omega) | (simp at *; omega))))))) h1 h2))) | (go_at_call 80; exact Calm.call_same hb (within_any _ _ _ _)))); (try simp only [Act.put, List.setIfInBounds_toArray, List.set_cons_zero, List.set_cons_succ])))
  refine Calm.still_nil ?_
  intro w1 hb
  obtain ⟨hbc, hbf⟩ := bcell hb
  have hbz := hb.size
  (try simp at hbz)
  (try have hbz0 : w.heap.size < w1.heap.size := by omega)
  (try have hbz1 : w.heap.size + 1 < w1.heap.size := by omega)
  (try have hbz2 : w.heap.size + 1 + 1 < w1.heap.size := by omega)
  (try have hbz3 : w.heap.size + 1 + 1 + 1 < w1.heap.size := by omega)
  (try have hbz4 : w.heap.size + 1 + 1 + 1 + 1 < w1.heap.size := by omega)
  (try have hbz5 : w.heap.size + 1 + 1 + 1 + 1 + 1 < w1.heap.size := by omega)
  go_wp2_with (first | (go_at_call 86; refine (first3_any _ _ _ _).mono ?_; rintro r w1 ⟨rfl, rfl⟩))
  go_ret2
  refine ⟨by first | rfl | (simp; done), ?_⟩
  repeat (first | (with_reducible exact Below.refl _ _) | ((with_reducible refine Below.setCell ?_ ?_ _); rotate_left 1; focus (first | (simp; done) | (simp; omega) | (simp at *; omega))) | ((with_reducible refine Below.alloc ?_ ?_ _); rotate_left 1; focus (first | (simp; done) | (simp; omega) | (simp at *; omega))) | (with_reducible refine Below.drew ?_) | ((with_reducible refine Calm.step (by assumption) ?_ ?_); rotate_left 1; focus (first | (simp; done) | (simp; omega) | (simp at *; omega))))
/-- how far a condition holds from 0 on. -/
def climb (p : Nat → Bool) (n : Nat) : Nat := ((List.range n).takeWhile p).length
theorem climb_eq {p : Nat → Bool} {n d : Nat} (h1 : ∀ j, j < d → p j = true) (h2 : d ≤ n) (h3 : d = n ∨ p d = false) : climb p n = d := by
  have e : List.range n = List.range d ++ (List.range (n - d)).map (d + ·) := by
    rw [← List.range_add]
    congr 1
    omega
  unfold climb
  rw [e, List.takeWhile_append_of_pos (by intro j hj; exact h1 j (List.mem_range.1 hj))]
  rcases h3 with rfl | h3
  · simp
  · cases hm : n - d with
    | zero => simp
    | succ m =>
      rw [List.range_succ_eq_map]
      simp [h3]
/-- the displacement up to which a curve is linear. -/
def linD (xs ys : List Int) (fo st : Int) : Nat := climb (fun d => fineB xs ys (xs.length / 2) fo st (xs.length / 2 - d - 1) && fineB xs ys (xs.length / 2) fo st (xs.length / 2 + d + 1)) (xs.length / 2)

set_option maxRecDepth 100000 in
set_option maxHeartbeats 4000000 in
theorem Linear_ok (xs ys : List Int) (fo st : Int) (A1 A2 : Option Addr) (c1 c2 : Nat) (w : World) (hC1 : Cells w A1 xs) (hC2 : Cells w A2 ys) (h1 : xs.length ≤ 100000) (h2 : ys.length ≤ 100000) (h : linErr xs ys fo st = 0) :
    Calls Tryd.prog 46 #[.agg #[.slice A1 xs.length c1, .slice A2 ys.length c2], (.int .i64 (fo)), (.int .i64 (st))] w fun r w' => r = .returned (.tuple #[(.int .i64 (linD xs ys fo st)), (.int .i64 (0))]) ∧ Below w.heap.size w w' := by
  have HC1 := Lib.hid hC1
  have HC2 := Lib.hid hC2
  clear hC1 hC2
  unfold linErr at h
  have hh := firstOf_eq_zero.1 h
  simp only [List.mem_cons, List.not_mem_nil, or_false, forall_eq_or_imp, forall_eq, rangeErr_zero] at hh
  obtain ⟨g1, g2, g3⟩ := hh
  have HZ := Lib.hid (curve_zero g1)
  have HF := Lib.hid g2
  have HS := Lib.hid g3
  have hlen := (curve_zero g1).1
  clear g1 g2 g3
  obtain ⟨E, hE⟩ : ∃ E, E = curveErr xs ys := ⟨_, rfl⟩
  have HE := Lib.hid hE
  rw [← hE] at h
  clear hE
  obtain ⟨R, hR⟩ : ∃ R, R = linD xs ys fo st := ⟨_, rfl⟩
  have HR := Lib.hid hR
  rw [← hR]
  clear hR
  obtain ⟨l1, l2, l3, l4⟩ := hlen
  rw [l4]
  obtain ⟨N, hN⟩ : ∃ N, N = xs.length := ⟨_, rfl⟩
  have HN := Lib.hid hN
  have HN2 := Lib.hid (l4.trans hN.symm)
  rw [← hN] at l1 l2 l3 ⊢
  have hCC : ∀ W : World, Cells W A1 xs → Cells W A2 ys → Calls Tryd.prog 50 #[.agg #[.slice A1 N c1, .slice A2 N c2]] W fun r w' => r = .returned (.int .i64 (E)) ∧ Below W.heap.size W w' := by
    intro W k1 k2
    have := checkCurve_any A1 A2 xs ys c1 c2 W k1 k2 h1 h2
    rwa [← HE.out, HN2.out, ← HN.out] at this
  have HCC := Lib.hid hCC
  clear hCC
  clear l4 hN h1 h2
  obtain ⟨m, hm⟩ : ∃ m, m = N / 2 := ⟨_, rfl⟩
  have hq : Int.tdiv (N : Int) 2 = m := by rw [Int.tdiv_eq_ediv_of_nonneg (by omega)]; omega
  have HM := Lib.hid hm
  have hRm : R = climb (fun d => fineB xs ys m fo st (m - d - 1) && fineB xs ys m fo st (m + d + 1)) m := by
    rw [HR.out]
    unfold linD
    rw [← HN.out, ← HM.out]
  have HRM := Lib.hid hRm
  clear hRm
  have hm16 : m ≤ 16 := by omega
  have hNm : N = m + m + 1 := by omega
  clear hm
  have hFine : ∀ (W : World) (i : Nat) (z : Int) (q1 q2 q3 q4 : Nat), z = i → i < N → Blk W q1 #[.slice A1 N c1, .slice A2 N c2] → Blk W q2 #[(.int .i64 (fo))] → Blk W q3 #[(.int .i64 (m))] → Blk W q4 #[(.int .i64 (st))] → Cells W A1 xs → Cells W A2 ys →
      Calls Tryd.prog 93 #[(.int .i64 (z)), .pointer (some ⟨q1, 0, none⟩), .pointer (some ⟨q2, 0, none⟩), .pointer (some ⟨q3, 0, none⟩), .pointer (some ⟨q4, 0, none⟩)] W fun r w' => r = .returned (.bool (fineB xs ys m fo st i)) ∧ Below W.heap.size W w' := by
    intro W i z q1 q2 q3 q4 hz hi k1 k2 k3 k4 k5 k6
    subst hz
    have e1 := HN.out
    have e2 := HN2.out
    rw [e1, show xs.length = ys.length by omega] at k1
    refine fine_any xs ys i m fo st q1 q2 q3 q4 A1 A2 c1 c2 W ?_ k2 k3 k4 k5 k6 (by omega) (by omega) (by omega) HZ.out.2.1 HZ.out.2.2 HF.out HS.out
    rw [show xs.length = ys.length by omega]
    exact k1
  have HFI := Lib.hid hFine
  have HNM := Lib.hid hNm
  clear hFine hNm
  go_enter Tryd.func46, Tryd.ntmps46
  go_wp2
  refine Calm.still_tail 6 (by kernel_rfl) (by kernel_rfl) ?_
  simp only [List.take_succ_cons, List.take_zero, List.drop_succ_cons, List.drop_zero]
  repeat (first | (first | (apply Calm.still_op_move; (focus rfl); (focus (first | exact .inl rfl | exact .inr rfl)); (focus ((try simp only [Act.eval, Array.getD_eq_getD_getElem?, List.getElem?_toArray, List.getElem?_cons_succ, List.getElem?_cons_zero, Option.getD_some]); rfl)); (try simp only [Act.put, List.setIfInBounds_toArray, List.set_cons_zero, List.set_cons_succ])) | (apply Calm.still_op_not; (focus rfl); (try simp only [Act.put, List.setIfInBounds_toArray, List.set_cons_zero, List.set_cons_succ])) | (apply Calm.still_op; (focus rfl); (focus (intro W hb; obtain ⟨hc, hf⟩ := bcell hb; clear hb hf; go_simp; (try go_bits); (try rfl); done)); (try simp only [Act.put, List.setIfInBounds_toArray, List.set_cons_zero, List.set_cons_succ]))) | (apply Calm.still_op_call; (focus rfl); (focus (intro W hb; obtain ⟨hc, hf⟩ := bcell hb; clear hb hf; go_simp; refine ⟨?_, ?_⟩; rfl; rfl)); (focus (intro W hb; first | (go_at_call 50; exact Calm.call_below hb (HCC.out _ (HC1.out.below (by (repeat (first | (with_reducible exact Below.refl _ _) | ((with_reducible refine Below.setCell ?_ ?_ _); rotate_left 1; focus (first | (simp; done) | (simp; omega) | (simp at *; omega))) | ((with_reducible refine Below.alloc ?_ ?_ _); rotate_left 1; focus (first | (simp; done) | (simp; omega) | (simp at *; omega))) | (with_reducible refine Below.drew ?_) | ((with_reducible refine Calm.step (by assumption) ?_ ?_); rotate_left 1; focus (first | (simp; done) | (simp; omega) | (simp at *; omega))))))) (HC2.out.below (by (repeat (first | (with_reducible exact Below.refl _ _) | ((with_reducible refine Below.setCell ?_ ?_ _); rotate_left 1; focus (first | (simp; done) | (simp; omega) | (simp at *; omega))) | ((with_reducible refine Below.alloc ?_ ?_ _); rotate_left 1; focus (first | (simp; done) | (simp; omega) | (simp at *; omega))) | (with_reducible refine Below.drew ?_) | ((with_reducible refine Calm.step (by assumption) ?_ ?_); rotate_left 1; focus (first | (simp; done) | (simp; omega) | (simp at *; omega))))))))) | (go_at_call 80; exact Calm.call_same hb (within_any _ _ _ _)))); (try simp only [Act.put, List.setIfInBounds_toArray, List.set_cons_zero, List.set_cons_succ])))
  refine Calm.still_nil ?_
  intro w1 hb
  obtain ⟨hbc, hbf⟩ := bcell hb
  have hbz := hb.size
  (try simp at hbz)
  (try have hbz0 : w.heap.size < w1.heap.size := by omega)
  (try have hbz1 : w.heap.size + 1 < w1.heap.size := by omega)
  (try have hbz2 : w.heap.size + 1 + 1 < w1.heap.size := by omega)
  (try have hbz3 : w.heap.size + 1 + 1 + 1 < w1.heap.size := by omega)
  (try have hbz4 : w.heap.size + 1 + 1 + 1 + 1 < w1.heap.size := by omega)
  (try have hbz5 : w.heap.size + 1 + 1 + 1 + 1 + 1 < w1.heap.size := by omega)
  go_wp2_with (first | (go_at_call 86; refine (first3_any _ _ _ _).mono ?_; rintro r w1 ⟨rfl, rfl⟩))
  go_loopw [11] (fun d wr => ∃ k : Nat, k ≤ m ∧ d = (.int .i64 (k)) ∧ (∀ j, j < k → (fineB xs ys m fo st (m - j - 1) && fineB xs ys m fo st (m + j + 1)) = true) ∧ Below w.heap.size w wr ∧ Blk wr w.heap.size #[.slice A1 N c1, .slice A2 N c2] ∧ Blk wr (w.heap.size + 1) #[(.int .i64 (fo))] ∧ Blk wr (w.heap.size + 1 + 1) #[(.int .i64 (st))] ∧ Blk wr (w1.heap.size + 1) #[(.int .i64 (m))]) (fun d _ => m - (intOf d).toNat)
  case atStart => exact ⟨0, Nat.zero_le _, rfl, fun j hj => by omega, by (repeat (first | (with_reducible exact Below.refl _ _) | ((with_reducible refine Below.setCell ?_ ?_ _); rotate_left 1; focus (first | (simp; done) | (simp; omega) | (simp at *; omega))) | ((with_reducible refine Below.alloc ?_ ?_ _); rotate_left 1; focus (first | (simp; done) | (simp; omega) | (simp at *; omega))) | (with_reducible refine Below.drew ?_) | ((with_reducible refine Calm.step (by assumption) ?_ ?_); rotate_left 1; focus (first | (simp; done) | (simp; omega) | (simp at *; omega))))), by (repeat (first | ((with_reducible refine Blk.at_ ?_); focus (first | rfl | (simp; done) | (simp; omega))) | (with_reducible refine Blk.alloc ?_ _) | (with_reducible refine Blk.below ?_ (by with_reducible assumption)) | (with_reducible refine Blk.drew ?_))), by (repeat (first | ((with_reducible refine Blk.at_ ?_); focus (first | rfl | (simp; done) | (simp; omega))) | (with_reducible refine Blk.alloc ?_ _) | (with_reducible refine Blk.below ?_ (by with_reducible assumption)) | (with_reducible refine Blk.drew ?_))), by (repeat (first | ((with_reducible refine Blk.at_ ?_); focus (first | rfl | (simp; done) | (simp; omega))) | (with_reducible refine Blk.alloc ?_ _) | (with_reducible refine Blk.below ?_ (by with_reducible assumption)) | (with_reducible refine Blk.drew ?_))), by (repeat (first | ((with_reducible refine Blk.at_ ?_); focus (first | rfl | (simp; done) | (simp; omega))) | (with_reducible refine Blk.alloc ?_ _) | (with_reducible refine Blk.below ?_ (by with_reducible assumption)) | (with_reducible refine Blk.drew ?_)))⟩
  case round =>
    clear hbc hbf
    obtain ⟨k, hk, rfl, hz, hB, K1, K2, K3, K4⟩ := hrel
    have HJ := Lib.hid hz
    clear hz
    have hsz := hB.size
    have d1 := K4.cell 0 (.int .i64 (m)) rfl
    have t1 := K4.lt
    by_cases hlt : k < m
    · cases f1 : fineB xs ys m fo st (m - k - 1)
      · have HF1 := Lib.hid f1
        clear f1
        go_wp2_with (go_at_call 93; refine (HFI.out _ (m - k - 1) _ _ _ _ _ (by omega) (by have := HNM.out; omega) K1 K2 K4 K3 (HC1.out.below hB) (HC2.out.below hB)).mono ?_; rw [HF1.out]; rintro r w2 ⟨rfl, hb2⟩; obtain ⟨hc2, hf2⟩ := bcell hb2)
        go_ret2
        have hR : R = k := HRM.out.trans (climb_eq HJ.out hk (.inr (by simp [HF1.out])))
        refine ⟨by rw [hR]; first | rfl | (simp; done), ?_⟩
        exact hB.trans (Below.mono (by (repeat (first | (with_reducible exact Below.refl _ _) | ((with_reducible refine Below.setCell ?_ ?_ _); rotate_left 1; focus (first | (simp; done) | (simp; omega) | (simp at *; omega))) | ((with_reducible refine Below.alloc ?_ ?_ _); rotate_left 1; focus (first | (simp; done) | (simp; omega) | (simp at *; omega))) | (with_reducible refine Below.drew ?_) | ((with_reducible refine Calm.step (by assumption) ?_ ?_); rotate_left 1; focus (first | (simp; done) | (simp; omega) | (simp at *; omega)))))) hsz)
      · have HF1 := Lib.hid f1
        clear f1
        cases f2 : fineB xs ys m fo st (m + k + 1)
        · have HF2 := Lib.hid f2
          clear f2
          go_wp2_with (first
            | (go_at_call 93; refine (HFI.out _ (m - k - 1) _ _ _ _ _ (by omega) (by have := HNM.out; omega) K1 K2 K4 K3 (HC1.out.below hB) (HC2.out.below hB)).mono ?_; rw [HF1.out]; rintro r w2 ⟨rfl, hb2⟩; obtain ⟨hc2, hf2⟩ := bcell hb2)
            | (go_at_call 93; refine (HFI.out _ (m + k + 1) _ _ _ _ _ (by omega) (by have := HNM.out; omega) (K1.below hb2) (K2.below hb2) (K4.below hb2) (K3.below hb2) ((HC1.out.below hB).below hb2) ((HC2.out.below hB).below hb2)).mono ?_; rw [HF2.out]; rintro r w3 ⟨rfl, hb3⟩; obtain ⟨hc3, hf3⟩ := bcell hb3))
          go_ret2
          have hR : R = k := HRM.out.trans (climb_eq HJ.out hk (.inr (by simp [HF2.out])))
          refine ⟨by rw [hR]; first | rfl | (simp; done), ?_⟩
          exact hB.trans (Below.mono (hb2.trans (Below.mono hb3 hb2.size)) hsz)
        · have HF2 := Lib.hid f2
          clear f2
          go_wp2_with (first
            | (go_at_call 93; refine (HFI.out _ (m - k - 1) _ _ _ _ _ (by omega) (by have := HNM.out; omega) K1 K2 K4 K3 (HC1.out.below hB) (HC2.out.below hB)).mono ?_; rw [HF1.out]; rintro r w2 ⟨rfl, hb2⟩; obtain ⟨hc2, hf2⟩ := bcell hb2)
            | (go_at_call 93; refine (HFI.out _ (m + k + 1) _ _ _ _ _ (by omega) (by have := HNM.out; omega) (K1.below hb2) (K2.below hb2) (K4.below hb2) (K3.below hb2) ((HC1.out.below hB).below hb2) ((HC2.out.below hB).below hb2)).mono ?_; rw [HF2.out]; rintro r w3 ⟨rfl, hb3⟩; obtain ⟨hc3, hf3⟩ := bcell hb3))
          go_roundw
          case rel => exact ⟨k + 1, by omega, by go_num, fun j hj => by
            rcases Nat.lt_or_ge j k with h | h
            · exact HJ.out j h
            · obtain rfl : j = k := by omega
              rw [HF1.out, HF2.out]; rfl, hB.trans (Below.mono (hb2.trans (Below.mono hb3 hb2.size)) hsz), (K1.below hb2).below hb3, (K2.below hb2).below hb3, (K3.below hb2).below hb3, (K4.below hb2).below hb3⟩
          case measure => simp [intOf]; omega
    · obtain rfl : k = m := by omega
      go_wp2
      go_ret2
      have hR : R = k := HRM.out.trans (climb_eq HJ.out hk (.inl rfl))
      exact ⟨by rw [hR]; first | rfl | (simp; done), hB⟩
end Go.Proofs.YtpkldjlljoledaaDoor

/- The text of the example's driver. -/
namespace Go.Proofs.YtpkldjlljoledaaDoor
open Go.RowKit
open Calm (bcell Blk)

theorem itoa0 (w : World) : Calls Tryd.prog 107 #[(.int .i64 (0))] w fun r w' => r = .returned (.string ⟨#[48]⟩) ∧ w = w' := by
  go_enter Tryd.func107, Tryd.ntmps107
  go_wp2
  go_ret
  exact ⟨rfl, rfl⟩
theorem itoa1 (w : World) : Calls Tryd.prog 107 #[(.int .i64 (1))] w fun r w' => r = .returned (.string ⟨#[49]⟩) ∧ w = w' := by
  go_enter Tryd.func107, Tryd.ntmps107
  go_wp2
  go_ret
  exact ⟨rfl, rfl⟩
theorem itoa2 (w : World) : Calls Tryd.prog 107 #[(.int .i64 (2))] w fun r w' => r = .returned (.string ⟨#[50]⟩) ∧ w = w' := by
  go_enter Tryd.func107, Tryd.ntmps107
  go_wp2
  go_ret
  exact ⟨rfl, rfl⟩
theorem itoa4 (w : World) : Calls Tryd.prog 107 #[(.int .i64 (4))] w fun r w' => r = .returned (.string ⟨#[52]⟩) ∧ w = w' := by
  go_enter Tryd.func107, Tryd.ntmps107
  go_wp2
  go_ret
  exact ⟨rfl, rfl⟩
theorem itoa6 (w : World) : Calls Tryd.prog 107 #[(.int .i64 (6))] w fun r w' => r = .returned (.string ⟨#[54]⟩) ∧ w = w' := by
  go_enter Tryd.func107, Tryd.ntmps107
  go_wp2
  go_ret
  exact ⟨rfl, rfl⟩
def preB (k : Int) : Array UInt8 := if k = 0 then #[100, 114, 105, 118, 101, 114] else if k = 1 then #[100, 114, 105, 118, 101, 114, 32, 54] else if k = 2 then #[100, 114, 105, 118, 101, 114, 32, 54, 32, 48] else if k = 3 then #[100, 114, 105, 118, 101, 114, 32, 54, 32, 48, 32, 50] else if k = 4 then #[100, 114, 105, 118, 101, 114, 32, 54, 32, 48, 32, 50, 32, 49] else if k = 5 then #[100, 114, 105, 118, 101, 114, 32, 54, 32, 48, 32, 50, 32, 49, 32, 52] else #[100, 114, 105, 118, 101, 114, 32, 54, 32, 48, 32, 50, 32, 49, 32, 52, 32, 49]
theorem pindex0 : ∀ w : World, (Instr.index 138 (.agg #[(.int .i64 (6)), (.int .i64 (0)), (.int .i64 (2)), (.int .i64 (1)), (.int .i64 (4)), (.int .i64 (1))]) (.int .i64 0)).run Tryd.prog w = .ok (.int .i64 (6)) w := fun _ => by kernel_rfl
theorem pindex1 : ∀ w : World, (Instr.index 138 (.agg #[(.int .i64 (6)), (.int .i64 (0)), (.int .i64 (2)), (.int .i64 (1)), (.int .i64 (4)), (.int .i64 (1))]) (.int .i64 1)).run Tryd.prog w = .ok (.int .i64 (0)) w := fun _ => by kernel_rfl
theorem pindex2 : ∀ w : World, (Instr.index 138 (.agg #[(.int .i64 (6)), (.int .i64 (0)), (.int .i64 (2)), (.int .i64 (1)), (.int .i64 (4)), (.int .i64 (1))]) (.int .i64 2)).run Tryd.prog w = .ok (.int .i64 (2)) w := fun _ => by kernel_rfl
theorem pindex3 : ∀ w : World, (Instr.index 138 (.agg #[(.int .i64 (6)), (.int .i64 (0)), (.int .i64 (2)), (.int .i64 (1)), (.int .i64 (4)), (.int .i64 (1))]) (.int .i64 3)).run Tryd.prog w = .ok (.int .i64 (1)) w := fun _ => by kernel_rfl
theorem pindex4 : ∀ w : World, (Instr.index 138 (.agg #[(.int .i64 (6)), (.int .i64 (0)), (.int .i64 (2)), (.int .i64 (1)), (.int .i64 (4)), (.int .i64 (1))]) (.int .i64 4)).run Tryd.prog w = .ok (.int .i64 (4)) w := fun _ => by kernel_rfl
theorem pindex5 : ∀ w : World, (Instr.index 138 (.agg #[(.int .i64 (6)), (.int .i64 (0)), (.int .i64 (2)), (.int .i64 (1)), (.int .i64 (4)), (.int .i64 (1))]) (.int .i64 5)).run Tryd.prog w = .ok (.int .i64 (1)) w := fun _ => by kernel_rfl
theorem sample_err : drvErr 6 0 2 1 4 1 = 0 := by decide
set_option maxRecDepth 100000 in
set_option maxHeartbeats 2000000 in
theorem print_sample (w : World) (hL : Lim w) :
    Calls Tryd.prog 70 #[.agg #[(.int .i64 (6)), (.int .i64 (0)), (.int .i64 (2)), (.int .i64 (1)), (.int .i64 (4)), (.int .i64 (1))]] w fun r w' => r = .returned (.tuple #[.string ⟨#[100, 114, 105, 118, 101, 114, 32, 54, 32, 48, 32, 50, 32, 49, 32, 52, 32, 49]⟩, (.int .i64 (0))]) ∧ Below w.heap.size w w' := by
  have h := sample_err
  go_enter Tryd.func70, Tryd.ntmps70
  go_wp2_with (first | (go_at_call 23; refine (checkDriver_any _ _ _ _ _ _ _ (hL.below (by repeat (first | (with_reducible exact Below.refl _ _) | ((with_reducible refine Below.setCell ?_ ?_ _); rotate_left 1; focus (first | (simp; done) | (simp; omega) | (simp at *; omega))) | ((with_reducible refine Below.alloc ?_ ?_ _); rotate_left 1; focus (first | (simp; done) | (simp; omega) | (simp at *; omega))) | (with_reducible refine Below.drew ?_) | ((with_reducible refine Calm.step (by assumption) ?_ ?_); rotate_left 1; focus (first | (simp; done) | (simp; omega) | (simp at *; omega))))))).mono ?_; rintro r w1 ⟨rfl, hb⟩; obtain ⟨hc, hf⟩ := bcell hb; have hz := hb.size; (try simp at hz); (try have hz0 : w.heap.size < w1.heap.size := by omega); (try have hz1 : w.heap.size + 1 < w1.heap.size := by omega); (try have hz2 : w.heap.size + 1 + 1 < w1.heap.size := by omega); (try have hz3 : w.heap.size + 1 + 1 + 1 < w1.heap.size := by omega); (try have hz4 : w.heap.size + 1 + 1 + 1 + 1 < w1.heap.size := by omega); (try have hz5 : w.heap.size + 1 + 1 + 1 + 1 + 1 < w1.heap.size := by omega); (try have hz6 : w.heap.size + 1 + 1 + 1 + 1 + 1 + 1 < w1.heap.size := by omega)) | (go_at_call 79; refine (numbers_any _ _ _ _ _ _ _).mono ?_; rintro r w1 ⟨rfl, hb⟩; obtain ⟨hc, hf⟩ := bcell hb; have hz := hb.size; (try simp at hz); (try have hz0 : w.heap.size < w1.heap.size := by omega); (try have hz1 : w.heap.size + 1 < w1.heap.size := by omega); (try have hz2 : w.heap.size + 1 + 1 < w1.heap.size := by omega); (try have hz3 : w.heap.size + 1 + 1 + 1 < w1.heap.size := by omega); (try have hz4 : w.heap.size + 1 + 1 + 1 + 1 < w1.heap.size := by omega); (try have hz5 : w.heap.size + 1 + 1 + 1 + 1 + 1 < w1.heap.size := by omega); (try have hz6 : w.heap.size + 1 + 1 + 1 + 1 + 1 + 1 < w1.heap.size := by omega)))
  clear h
  have kb : Below w.heap.size w w1 := by (repeat (first | (with_reducible exact Below.refl _ _) | ((with_reducible refine Below.setCell ?_ ?_ _); rotate_left 1; focus (first | (simp; done) | (simp; omega) | (simp at *; omega))) | ((with_reducible refine Below.alloc ?_ ?_ _); rotate_left 1; focus (first | (simp; done) | (simp; omega) | (simp at *; omega))) | (with_reducible refine Below.drew ?_) | ((with_reducible refine Calm.step (by assumption) ?_ ?_); rotate_left 1; focus (first | (simp; done) | (simp; omega) | (simp at *; omega)))))
  go_loop [5, 15] (fun t i => ∃ k : Int, 0 ≤ k ∧ k ≤ 6 ∧ i = (.int .i64 (k)) ∧ t = .string ⟨preB k⟩) (fun _ i => 6 - (intOf i).toNat)
  case atStart => exact ⟨0, by omega, by omega, rfl, by simp [preB]⟩
  case round =>
    obtain ⟨k, hk0, hk, rfl, rfl⟩ := hrel
    have hkk : k = 0 ∨ k = 1 ∨ k = 2 ∨ k = 3 ∨ k = 4 ∨ k = 5 ∨ k = 6 := by omega
    rcases hkk with rfl | rfl | rfl | rfl | rfl | rfl | rfl
    · have ix := pindex0
      rw [show preB 0 = #[100, 114, 105, 118, 101, 114] from by simp [preB]]
      go_wp2_with (go_at_call 107; refine (itoa6 _).mono ?_; rintro r w2 ⟨rfl, rfl⟩)
      go_round
      case rel => exact ⟨1, by omega, by omega, rfl, by simp [preB]; kernel_rfl⟩
      case measure => simp [intOf]
    · have ix := pindex1
      rw [show preB 1 = #[100, 114, 105, 118, 101, 114, 32, 54] from by simp [preB]]
      go_wp2_with (go_at_call 107; refine (itoa0 _).mono ?_; rintro r w2 ⟨rfl, rfl⟩)
      go_round
      case rel => exact ⟨2, by omega, by omega, rfl, by simp [preB]; kernel_rfl⟩
      case measure => simp [intOf]
    · have ix := pindex2
      rw [show preB 2 = #[100, 114, 105, 118, 101, 114, 32, 54, 32, 48] from by simp [preB]]
      go_wp2_with (go_at_call 107; refine (itoa2 _).mono ?_; rintro r w2 ⟨rfl, rfl⟩)
      go_round
      case rel => exact ⟨3, by omega, by omega, rfl, by simp [preB]; kernel_rfl⟩
      case measure => simp [intOf]
    · have ix := pindex3
      rw [show preB 3 = #[100, 114, 105, 118, 101, 114, 32, 54, 32, 48, 32, 50] from by simp [preB]]
      go_wp2_with (go_at_call 107; refine (itoa1 _).mono ?_; rintro r w2 ⟨rfl, rfl⟩)
      go_round
      case rel => exact ⟨4, by omega, by omega, rfl, by simp [preB]; kernel_rfl⟩
      case measure => simp [intOf]
    · have ix := pindex4
      rw [show preB 4 = #[100, 114, 105, 118, 101, 114, 32, 54, 32, 48, 32, 50, 32, 49] from by simp [preB]]
      go_wp2_with (go_at_call 107; refine (itoa4 _).mono ?_; rintro r w2 ⟨rfl, rfl⟩)
      go_round
      case rel => exact ⟨5, by omega, by omega, rfl, by simp [preB]; kernel_rfl⟩
      case measure => simp [intOf]
    · have ix := pindex5
      rw [show preB 5 = #[100, 114, 105, 118, 101, 114, 32, 54, 32, 48, 32, 50, 32, 49, 32, 52] from by simp [preB]]
      go_wp2_with (go_at_call 107; refine (itoa1 _).mono ?_; rintro r w2 ⟨rfl, rfl⟩)
      go_round
      case rel => exact ⟨6, by omega, by omega, rfl, by simp [preB]; kernel_rfl⟩
      case measure => simp [intOf]
    · rw [show preB 6 = #[100, 114, 105, 118, 101, 114, 32, 54, 32, 48, 32, 50, 32, 49, 32, 52, 32, 49] from by simp [preB]]
      go_wp2
      go_ret2
      exact ⟨rfl, kb⟩
end Go.Proofs.YtpkldjlljoledaaDoor

/- What awake() calls, at the document's numbers. -/
namespace Go.Proofs.YtpkldjlljoledaaDoor
open Go.RowKit
open Calm (bcell Blk)

theorem aw_mech (w : World) (hL : Lim w) : Calls Tryd.prog 12 #[.agg #[(.int .i64 (6)), (.int .i64 (0)), (.int .i64 (2)), (.int .i64 (1)), (.int .i64 (4)), (.int .i64 (1))], (.int .i64 (2))] w fun r w' => r = .returned (.tuple #[.agg #[(.int .i64 (0)), (.int .i64 (2))], (.int .i64 (0))]) ∧ Below w.heap.size w w' :=
  Mechanics_ok 6 0 2 1 4 1 2 w hL (by decide)
theorem aw_imp2 (w : World) (hL : Lim w) : Calls Tryd.prog 13 #[.agg #[(.int .i64 (6)), (.int .i64 (0)), (.int .i64 (2)), (.int .i64 (1)), (.int .i64 (4)), (.int .i64 (1))], (.int .i64 (2))] w fun r w' => r = .returned (.tuple #[.agg #[(.int .i64 (0)), (.int .i64 (20)), (.int .i64 (0)), (.int .i64 (2))], (.int .i64 (0))]) ∧ Below w.heap.size w w' :=
  Impedance_ok 6 0 2 1 4 1 2 w hL (by decide)
theorem aw_exc (w : World) (hL : Lim w) : Calls Tryd.prog 14 #[.agg #[(.int .i64 (6)), (.int .i64 (0)), (.int .i64 (2)), (.int .i64 (1)), (.int .i64 (4)), (.int .i64 (1))], (.int .i64 (2))] w fun r w' => r = .returned (.tuple #[.agg #[(.int .i64 (2)), (.int .i64 (0)), (.int .i64 (0)), (.int .i64 (20))], (.int .i64 (0))]) ∧ Below w.heap.size w w' :=
  Excursion_ok 6 0 2 1 4 1 2 w hL (by decide)
theorem aw_out (w : World) (hL : Lim w) : Calls Tryd.prog 15 #[.agg #[(.int .i64 (6)), (.int .i64 (0)), (.int .i64 (2)), (.int .i64 (1)), (.int .i64 (4)), (.int .i64 (1))], (.int .i64 (2))] w fun r w' => r = .returned (.tuple #[.agg #[(.int .i64 (-8)), (.int .i64 (0)), (.int .i64 (0)), (.int .i64 (20))], (.int .i64 (0))]) ∧ Below w.heap.size w w' :=
  Output_ok 6 0 2 1 4 1 2 w hL (by decide)
theorem aw_imp1 (w : World) (hL : Lim w) : Calls Tryd.prog 13 #[.agg #[(.int .i64 (6)), (.int .i64 (0)), (.int .i64 (2)), (.int .i64 (1)), (.int .i64 (4)), (.int .i64 (1))], (.int .i64 (1))] w fun r w' => r = .returned (.tuple #[.agg #[(.int .i64 (18)), (.int .i64 (10)), (.int .i64 (3)), (.int .i64 (1))], (.int .i64 (0))]) ∧ Below w.heap.size w w' :=
  Impedance_ok 6 0 2 1 4 1 1 w hL (by decide)
theorem aw_res (w : World) (hL : Lim w) : Calls Tryd.prog 37 #[.agg #[(.int .i64 (6)), (.int .i64 (0)), (.int .i64 (2)), (.int .i64 (1)), (.int .i64 (4)), (.int .i64 (1))]] w fun r w' => r = .returned (.tuple #[.agg #[(.int .i64 (4)), (.int .i64 (1))], (.int .i64 (0))]) ∧ Below w.heap.size w w' :=
  resonance_ok 6 0 2 1 4 1 w hL (by decide)
theorem aw_qual (w : World) (hL : Lim w) : Calls Tryd.prog 38 #[.agg #[(.int .i64 (6)), (.int .i64 (0)), (.int .i64 (2)), (.int .i64 (1)), (.int .i64 (4)), (.int .i64 (1))]] w fun r w' => r = .returned (.tuple #[.agg #[(.int .i64 (4)), (.int .i64 (1)), (.int .i64 (9)), (.int .i64 (1)), (.int .i64 (36)), (.int .i64 (25))], (.int .i64 (0))]) ∧ Below w.heap.size w w' :=
  quality_ok 6 0 2 1 4 1 w hL (by decide)
theorem aw_box (w : World) (hL : Lim w) : Calls Tryd.prog 25 #[.agg #[(.int .i64 (6)), (.int .i64 (0)), (.int .i64 (2)), (.int .i64 (1)), (.int .i64 (4)), (.int .i64 (1))], .agg #[(.int .i64 (2)), (.int .i64 (1)), (.int .i64 (0)), (.int .i64 (1))], (.int .i64 (1))] w fun r w' => r = .returned (.tuple #[.agg #[(.int .i64 (-4)), (.int .i64 (40)), (.int .i64 (0)), (.int .i64 (6))], (.int .i64 (0))]) ∧ Below w.heap.size w w' :=
  Boxed_port 6 0 2 1 4 1 2 1 0 1 1 w hL (by decide) (by decide)
theorem aw_mov (w : World) (hL : Lim w) : Calls Tryd.prog 27 #[.agg #[(.int .i64 (6)), (.int .i64 (0)), (.int .i64 (2)), (.int .i64 (1)), (.int .i64 (4)), (.int .i64 (1))], .agg #[(.int .i64 (2)), (.int .i64 (1)), (.int .i64 (0)), (.int .i64 (1))], (.int .i64 (1))] w fun r w' => r = .returned (.tuple #[.agg #[(.int .i64 (2)), (.int .i64 (2)), (.int .i64 (-4)), (.int .i64 (40)), (.int .i64 (4)), (.int .i64 (0)), (.int .i64 (-4)), (.int .i64 (40))], (.int .i64 (0))]) ∧ Below w.heap.size w w' :=
  Moved_port 6 0 2 1 4 1 2 1 0 1 1 w hL (by decide) (by decide)
theorem aw_rad (w : World) (hL : Lim w) : Calls Tryd.prog 26 #[.agg #[(.int .i64 (6)), (.int .i64 (0)), (.int .i64 (2)), (.int .i64 (1)), (.int .i64 (4)), (.int .i64 (1))], .agg #[(.int .i64 (2)), (.int .i64 (1)), (.int .i64 (0)), (.int .i64 (1))], (.int .i64 (1))] w fun r w' => r = .returned (.tuple #[.agg #[(.int .i64 (2)), (.int .i64 (-2)), (.int .i64 (-4)), (.int .i64 (40))], (.int .i64 (0))]) ∧ Below w.heap.size w w' :=
  Radiated_port 6 0 2 1 4 1 2 1 0 1 1 w hL (by decide) (by decide)
theorem aw_tun (w : World) : Calls Tryd.prog 28 #[.agg #[(.int .i64 (2)), (.int .i64 (1)), (.int .i64 (0)), (.int .i64 (1))]] w fun r w' => r = .returned (.tuple #[.agg #[(.int .i64 (2)), (.int .i64 (1))], (.int .i64 (0))]) ∧ Below w.heap.size w w' :=
  tuning_ok 2 1 0 1 w (by decide) (by decide)
theorem aw_clo (w : World) (hL : Lim w) : Calls Tryd.prog 36 #[.agg #[(.int .i64 (6)), (.int .i64 (0)), (.int .i64 (2)), (.int .i64 (1)), (.int .i64 (4)), (.int .i64 (1))], (.int .i64 (5))] w fun r w' => r = .returned (.tuple #[.agg #[(.int .i64 (6)), (.int .i64 (0)), (.int .i64 (2)), (.int .i64 (1)), (.int .i64 (9)), (.int .i64 (1))], (.int .i64 (0))]) ∧ Below w.heap.size w w' :=
  closed_ok 6 0 2 1 4 1 5 w hL (by decide) (by decide)
theorem aw_box2 (w : World) (hL : Lim w) : Calls Tryd.prog 25 #[.agg #[(.int .i64 (6)), (.int .i64 (0)), (.int .i64 (2)), (.int .i64 (1)), (.int .i64 (4)), (.int .i64 (1))], .agg #[(.int .i64 (5)), (.int .i64 (0)), (.int .i64 (0)), (.int .i64 (0))], (.int .i64 (3))] w fun r w' => r = .returned (.tuple #[.agg #[(.int .i64 (0)), (.int .i64 (30)), (.int .i64 (0)), (.int .i64 (3))], (.int .i64 (0))]) ∧ Below w.heap.size w w' :=
  Boxed_shut 6 0 2 1 4 1 5 3 w hL (by decide)
theorem aw_wei (w : World) : Calls Tryd.prog 39 #[.agg #[(.int .i64 (4)), (.int .i64 (1))], .agg #[(.int .i64 (1)), (.int .i64 (1))], (.int .i64 (3))] w fun r w' => r = .returned (.tuple #[.agg #[(.int .i64 (1)), (.int .i64 (1))], .agg #[(.int .i64 (4)), (.int .i64 (1))], (.int .i64 (0))]) ∧ Below w.heap.size w w' :=
  weighed_ok 4 1 1 1 3 w (by decide) (by decide)
theorem aw_swe (w : World) (hL : Lim w) (A : Option Addr) (c : Nat) (hC : Cells w A [2]) : Calls Tryd.prog 61 #[.agg #[(.int .i64 (6)), (.int .i64 (0)), (.int .i64 (2)), (.int .i64 (1)), (.int .i64 (4)), (.int .i64 (1))], .slice A 1 c, (.int .i64 (10))] w fun r w' => ∃ v, r = .returned (.tuple #[v, (.int .i64 (0))]) ∧ w'.ownsRow (w.heap.size + 1) 126 3 v 1 (flat3 [(2, 90, 110)]) ∧ Below w.heap.size w w' :=
  Sweep_ok 6 0 2 1 4 1 10 A [2] c w hL hC (by decide) (by decide) (by decide) (by decide)
end Go.Proofs.YtpkldjlljoledaaDoor
