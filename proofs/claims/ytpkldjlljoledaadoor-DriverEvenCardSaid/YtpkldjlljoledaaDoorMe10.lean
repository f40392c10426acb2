/- Part 10 of the texts of the claim: Calm2, B9, B10, C1, K1. -/
import Derived.Test.YtpkldjlljoledaaDoorMe1
import Derived.Test.YtpkldjlljoledaaDoorMe7
import Derived.Test.YtpkldjlljoledaaDoorMe5

/- The walk of Calm, its goal behind a name of its own: a goal 'wpQuiet ..' unfolds by itself over operations that are passed over, which is slow. -/
namespace Go.Proofs.YtpkldjlljoledaaDoor.Calm
open Go.RowKit

section
variable {P : Program} {ops : Array Oper} {C : World → Prop}
structure Still (P : Program) (ops : Array Oper) (C : World → Prop) (Q : Act → Prop) (rest : List Oper) (a : Act) : Prop where
  h : wpQuiet P ops C Q rest a
theorem still_op {Q : Act → Prop} {a : Act} {o : Oper} {rest : List Oper} (v : Value) (hw : Region.wanted o (yielded ops a.tmps) = true) (h : ∀ w, C w → (execOp a.eval o).run P w = .ok (.value v) w)
    (hn : Still P ops C Q rest (a.put o.dst v)) : Still P ops C Q (o :: rest) a := ⟨op v hw h hn.h⟩
theorem still_op_move {Q : Act → Prop} {a : Act} {o : Oper} {rest : List Oper} (v : Value) (x : Operand) (hw : Region.wanted o (yielded ops a.tmps) = true) (ho : o.op = .move x ∨ o.op = .assign x) (hv : a.eval x = v)
    (hn : Still P ops C Q rest (a.put o.dst v)) : Still P ops C Q (o :: rest) a := ⟨op_move v x hw ho hv hn.h⟩
theorem still_op_not {Q : Act → Prop} {a : Act} {o : Oper} {rest : List Oper} (hw : Region.wanted o (yielded ops a.tmps) = false) (hn : Still P ops C Q rest (a.put o.dst undef)) : Still P ops C Q (o :: rest) a := ⟨op_not hw hn.h⟩
theorem still_op_call {Q : Act → Prop} {a : Act} {o : Oper} {rest : List Oper} (v : Value) (f : FuncId) (args : Array Value) (hw : Region.wanted o (yielded ops a.tmps) = true) (h : ∀ w, C w → (execOp a.eval o).run P w = .ok (.enter f args) w)
    (hc : ∀ w, C w → Calls P f args w fun e w' => e = .returned v ∧ C w') (hn : Still P ops C Q rest (a.put o.dst v)) : Still P ops C Q (o :: rest) a := ⟨op_call v f args hw h hc hn.h⟩
theorem still_nil {Q : Act → Prop} {a : Act} (h : Q a) : Still P ops C Q [] a := ⟨wpQuiet_nil h⟩
theorem still_tail {id : Nat} {Q : Exit → Act → World → Prop} {a : Act} {w : World} {l : List Oper} (n : Nat) (hm : P.follows .mixedOrders = true) (hB : Region.lexTailB .any l.toArray n = true)
    (h : Still P l.toArray (fun W => Below w.heap.size w W) (fun a' => ∀ w', Below w.heap.size w w' → wpList P l.toArray Q (l.drop n) a' w') (l.take n) a) : (Code.region id l.toArray true).wp P Q a w :=
  tail_below n hm hB h.h
theorem still_all {id : Nat} {Q : Exit → Act → World → Prop} {a : Act} {w : World} {l : List Oper} (hm : P.follows .mixedOrders = true) (hB : Region.lexB .any l.toArray = true)
    (h : Still P l.toArray (fun W => Below w.heap.size w W) (fun a' => ∀ w', Below w.heap.size w w' → Q .normal a' w') l a) : (Code.region id l.toArray true).wp P Q a w :=
  all_below hm hB h.h
end
end Go.Proofs.YtpkldjlljoledaaDoor.Calm

/- Contract of the condition in Linear. %still -/
namespace Go.Proofs.YtpkldjlljoledaaDoor
open Go.RowKit
open Calm (bcell Blk)

/-- is a curve fine at an index. -/
def fineB (xs ys : List Int) (n : Nat) (fo st : Int) (i : Nat) : Bool := decide (fo * xs.getD n 0 ≤ 100 * xs.getD i 0) && decide (100 * ys.getD i 0 ≤ st * ys.getD n 0)
set_option maxHeartbeats 4000000 in
set_option maxRecDepth 100000 in
theorem fine_any (xs ys : List Int) (i n : Nat) (fo st : Int) (q1 q2 q3 q4 : Nat) (A1 A2 : Option Addr) (c1 c2 : Nat) (w : World)
    (k1 : Blk w q1 #[.slice A1 xs.length c1, .slice A2 ys.length c2]) (k2 : Blk w q2 #[(.int .i64 (fo))]) (k3 : Blk w q3 #[(.int .i64 (n))]) (k4 : Blk w q4 #[(.int .i64 (st))]) (hC1 : Cells w A1 xs) (hC2 : Cells w A2 ys) (hl : ys.length = xs.length) (hi : i < xs.length) (hn : n < xs.length)
    (h1 : ∀ x ∈ xs, 1 ≤ x ∧ x ≤ 999999999) (h2 : ∀ y ∈ ys, 1 ≤ y ∧ y ≤ 999999999) (hf : 1 ≤ fo ∧ fo ≤ 100) (hs : 100 ≤ st ∧ st ≤ 1000) :
    Calls Tryd.prog 93 #[(.int .i64 (i)), .pointer (some ⟨q1, 0, none⟩), .pointer (some ⟨q2, 0, none⟩), .pointer (some ⟨q3, 0, none⟩), .pointer (some ⟨q4, 0, none⟩)] w fun r w' => r = .returned (.bool (fineB xs ys n fo st i)) ∧ Below w.heap.size w w' := by
  obtain ⟨b1, o1, rfl, l1, m1⟩ := hC1 (by omega)
  obtain ⟨b2, o2, rfl, l2, m2⟩ := hC2 (by omega)
  have d1 := k1.cell 0 _ rfl
  have d2 := k1.cell 1 _ rfl
  have d3 := k2.cell 0 _ rfl
  have d4 := k3.cell 0 _ rfl
  have d5 := k4.cell 0 _ rfl
  have t1 := k1.lt
  have t2 := k2.lt
  have t3 := k3.lt
  have t4 := k4.lt
  rw [hl] at d2 m2
  have x1 := m1 i hi
  have x2 := m1 n hn
  have y1 := m2 i hi
  have y2 := m2 n hn
  have a1 := h1 _ (getD_mem hi)
  have a2 := h1 _ (getD_mem hn)
  have e1 := h2 _ (getD_mem (k := i) (by omega))
  have e2 := h2 _ (getD_mem (k := n) (by omega))
  unfold fineB
  clear m1 m2 hC1 hC2 h1 h2 k1 k2 k3 k4
  generalize xs.getD i 0 = x at *
  generalize xs.getD n 0 = x' at *
  generalize ys.getD i 0 = y at *
  generalize ys.getD n 0 = y' at *
  have p1 : Bd 100 fo := ⟨by omega, by omega⟩
  have p2 : Bd 999999999 x' := ⟨by omega, by omega⟩
  have p3 : Bd 1000 st := ⟨by omega, by omega⟩
  have p4 : Bd 999999999 y' := ⟨by omega, by omega⟩
  obtain ⟨u1, u2⟩ := p1.mul p2 (by omega)
  obtain ⟨u3, u4⟩ := p3.mul p4 (by omega)
  clear p1 p2 p3 p4
  by_cases v1 : fo * x' ≤ 100 * x
  · rw [decide_eq_true v1]
    by_cases v2 : 100 * y ≤ st * y'
    · rw [decide_eq_true v2]
      go_enter Tryd.func93, Tryd.ntmps93
      go_wp2
      refine Calm.still_tail 29 (by kernel_rfl) (by kernel_rfl) ?_
      simp only [List.take_succ_cons, List.take_zero, List.drop_succ_cons, List.drop_zero]
      repeat (first | (apply Calm.still_op_move; (focus rfl); (focus (first | exact .inl rfl | exact .inr rfl)); (focus ((try simp only [Act.eval, Array.getD_eq_getD_getElem?, List.getElem?_toArray, List.getElem?_cons_succ, List.getElem?_cons_zero, Option.getD_some]); rfl)); (try simp only [Act.put, List.setIfInBounds_toArray, List.set_cons_zero, List.set_cons_succ])) | (apply Calm.still_op_not; (focus rfl); (try simp only [Act.put, List.setIfInBounds_toArray, List.set_cons_zero, List.set_cons_succ])) | (apply Calm.still_op; (focus rfl); (focus (intro W hb; obtain ⟨hc, hf⟩ := bcell hb; clear hb hf; go_simp; (try go_bits); (try rfl); done)); (try simp only [Act.put, List.setIfInBounds_toArray, List.set_cons_zero, List.set_cons_succ])))
      refine Calm.still_nil ?_
      intro w1 hb
      obtain ⟨hbc, hbf⟩ := bcell hb
      have hbz := hb.size
      (try simp at hbz)
      (try have hbz0 : w.heap.size < w1.heap.size := by omega)
      (try have hbz1 : w.heap.size + 1 < w1.heap.size := by omega)
      (try have hbz2 : w.heap.size + 1 + 1 < w1.heap.size := by omega)
      (try have hbz3 : w.heap.size + 1 + 1 + 1 < w1.heap.size := by omega)
      (try have hbz4 : w.heap.size + 1 + 1 + 1 + 1 < w1.heap.size := by omega)
      (try have hbz5 : w.heap.size + 1 + 1 + 1 + 1 + 1 < w1.heap.size := by omega)
      go_wp2
      go_ret
      refine ⟨by first | rfl | (simp; done) | (simp; omega), ?_⟩
      repeat (first | (with_reducible exact Below.refl _ _) | ((with_reducible refine Below.setCell ?_ ?_ _); rotate_left 1; focus (first | (simp; done) | (simp; omega) | (simp at *; omega))) | ((with_reducible refine Below.alloc ?_ ?_ _); rotate_left 1; focus (first | (simp; done) | (simp; omega) | (simp at *; omega))) | (with_reducible refine Below.drew ?_) | ((with_reducible refine Calm.step (by assumption) ?_ ?_); rotate_left 1; focus (first | (simp; done) | (simp; omega) | (simp at *; omega))))
    · rw [decide_eq_false v2]
      go_enter Tryd.func93, Tryd.ntmps93
      go_wp2
      refine Calm.still_tail 29 (by kernel_rfl) (by kernel_rfl) ?_
      simp only [List.take_succ_cons, List.take_zero, List.drop_succ_cons, List.drop_zero]
      repeat (first | (apply Calm.still_op_move; (focus rfl); (focus (first | exact .inl rfl | exact .inr rfl)); (focus ((try simp only [Act.eval, Array.getD_eq_getD_getElem?, List.getElem?_toArray, List.getElem?_cons_succ, List.getElem?_cons_zero, Option.getD_some]); rfl)); (try simp only [Act.put, List.setIfInBounds_toArray, List.set_cons_zero, List.set_cons_succ])) | (apply Calm.still_op_not; (focus rfl); (try simp only [Act.put, List.setIfInBounds_toArray, List.set_cons_zero, List.set_cons_succ])) | (apply Calm.still_op; (focus rfl); (focus (intro W hb; obtain ⟨hc, hf⟩ := bcell hb; clear hb hf; go_simp; (try go_bits); (try rfl); done)); (try simp only [Act.put, List.setIfInBounds_toArray, List.set_cons_zero, List.set_cons_succ])))
      refine Calm.still_nil ?_
      intro w1 hb
      obtain ⟨hbc, hbf⟩ := bcell hb
      have hbz := hb.size
      (try simp at hbz)
      (try have hbz0 : w.heap.size < w1.heap.size := by omega)
      (try have hbz1 : w.heap.size + 1 < w1.heap.size := by omega)
      (try have hbz2 : w.heap.size + 1 + 1 < w1.heap.size := by omega)
      (try have hbz3 : w.heap.size + 1 + 1 + 1 < w1.heap.size := by omega)
      (try have hbz4 : w.heap.size + 1 + 1 + 1 + 1 < w1.heap.size := by omega)
      (try have hbz5 : w.heap.size + 1 + 1 + 1 + 1 + 1 < w1.heap.size := by omega)
      go_wp2
      go_ret
      refine ⟨by first | rfl | (simp; done) | (simp; omega), ?_⟩
      repeat (first | (with_reducible exact Below.refl _ _) | ((with_reducible refine Below.setCell ?_ ?_ _); rotate_left 1; focus (first | (simp; done) | (simp; omega) | (simp at *; omega))) | ((with_reducible refine Below.alloc ?_ ?_ _); rotate_left 1; focus (first | (simp; done) | (simp; omega) | (simp at *; omega))) | (with_reducible refine Below.drew ?_) | ((with_reducible refine Calm.step (by assumption) ?_ ?_); rotate_left 1; focus (first | (simp; done) | (simp; omega) | (simp at *; omega))))
  · rw [decide_eq_false v1]
    go_enter Tryd.func93, Tryd.ntmps93
    go_wp2
    refine Calm.still_tail 29 (by kernel_rfl) (by kernel_rfl) ?_
    simp only [List.take_succ_cons, List.take_zero, List.drop_succ_cons, List.drop_zero]
    (first | (apply Calm.still_op_move; (focus rfl); (focus (first | exact .inl rfl | exact .inr rfl)); (focus ((try simp only [Act.eval, Array.getD_eq_getD_getElem?, List.getElem?_toArray, List.getElem?_cons_succ, List.getElem?_cons_zero, Option.getD_some]); rfl)); (try simp only [Act.put, List.setIfInBounds_toArray, List.set_cons_zero, List.set_cons_succ])) | (apply Calm.still_op_not; (focus rfl); (try simp only [Act.put, List.setIfInBounds_toArray, List.set_cons_zero, List.set_cons_succ])) | (apply Calm.still_op; (focus rfl); (focus (intro W hb; obtain ⟨hc, hf⟩ := bcell hb; clear hb hf; go_simp; (try go_bits); (try rfl); done)); (try simp only [Act.put, List.setIfInBounds_toArray, List.set_cons_zero, List.set_cons_succ])))
    (first | (apply Calm.still_op_move; (focus rfl); (focus (first | exact .inl rfl | exact .inr rfl)); (focus ((try simp only [Act.eval, Array.getD_eq_getD_getElem?, List.getElem?_toArray, List.getElem?_cons_succ, List.getElem?_cons_zero, Option.getD_some]); rfl)); (try simp only [Act.put, List.setIfInBounds_toArray, List.set_cons_zero, List.set_cons_succ])) | (apply Calm.still_op_not; (focus rfl); (try simp only [Act.put, List.setIfInBounds_toArray, List.set_cons_zero, List.set_cons_succ])) | (apply Calm.still_op; (focus rfl); (focus (intro W hb; obtain ⟨hc, hf⟩ := bcell hb; clear hb hf; go_simp; (try go_bits); (try rfl); done)); (try simp only [Act.put, List.setIfInBounds_toArray, List.set_cons_zero, List.set_cons_succ])))
    (first | (apply Calm.still_op_move; (focus rfl); (focus (first | exact .inl rfl | exact .inr rfl)); (focus ((try simp only [Act.eval, Array.getD_eq_getD_getElem?, List.getElem?_toArray, List.getElem?_cons_succ, List.getElem?_cons_zero, Option.getD_some]); rfl)); (try simp only [Act.put, List.setIfInBounds_toArray, List.set_cons_zero, List.set_cons_succ])) | (apply Calm.still_op_not; (focus rfl); (try simp only [Act.put, List.setIfInBounds_toArray, List.set_cons_zero, List.set_cons_succ])) | (apply Calm.still_op; (focus rfl); (focus (intro W hb; obtain ⟨hc, hf⟩ := bcell hb; clear hb hf; go_simp; (try go_bits); (try rfl); done)); (try simp only [Act.put, List.setIfInBounds_toArray, List.set_cons_zero, List.set_cons_succ])))
    (first | (apply Calm.still_op_move; (focus rfl); (focus (first | exact .inl rfl | exact .inr rfl)); (focus ((try simp only [Act.eval, Array.getD_eq_getD_getElem?, List.getElem?_toArray, List.getElem?_cons_succ, List.getElem?_cons_zero, Option.getD_some]); rfl)); (try simp only [Act.put, List.setIfInBounds_toArray, List.set_cons_zero, List.set_cons_succ])) | (apply Calm.still_op_not; (focus rfl); (try simp only [Act.put, List.setIfInBounds_toArray, List.set_cons_zero, List.set_cons_succ])) | (apply Calm.still_op; (focus rfl); (focus (intro W hb; obtain ⟨hc, hf⟩ := bcell hb; clear hb hf; go_simp; (try go_bits); (try rfl); done)); (try simp only [Act.put, List.setIfInBounds_toArray, List.set_cons_zero, List.set_cons_succ])))
    (first | (apply Calm.still_op_move; (focus rfl); (focus (first | exact .inl rfl | exact .inr rfl)); (focus ((try simp only [Act.eval, Array.getD_eq_getD_getElem?, List.getElem?_toArray, List.getElem?_cons_succ, List.getElem?_cons_zero, Option.getD_some]); rfl)); (try simp only [Act.put, List.setIfInBounds_toArray, List.set_cons_zero, List.set_cons_succ])) | (apply Calm.still_op_not; (focus rfl); (try simp only [Act.put, List.setIfInBounds_toArray, List.set_cons_zero, List.set_cons_succ])) | (apply Calm.still_op; (focus rfl); (focus (intro W hb; obtain ⟨hc, hf⟩ := bcell hb; clear hb hf; go_simp; (try go_bits); (try rfl); done)); (try simp only [Act.put, List.setIfInBounds_toArray, List.set_cons_zero, List.set_cons_succ])))
    (first | (apply Calm.still_op_move; (focus rfl); (focus (first | exact .inl rfl | exact .inr rfl)); (focus ((try simp only [Act.eval, Array.getD_eq_getD_getElem?, List.getElem?_toArray, List.getElem?_cons_succ, List.getElem?_cons_zero, Option.getD_some]); rfl)); (try simp only [Act.put, List.setIfInBounds_toArray, List.set_cons_zero, List.set_cons_succ])) | (apply Calm.still_op_not; (focus rfl); (try simp only [Act.put, List.setIfInBounds_toArray, List.set_cons_zero, List.set_cons_succ])) | (apply Calm.still_op; (focus rfl); (focus (intro W hb; obtain ⟨hc, hf⟩ := bcell hb; clear hb hf; go_simp; (try go_bits); (try rfl); done)); (try simp only [Act.put, List.setIfInBounds_toArray, List.set_cons_zero, List.set_cons_succ])))
    (first | (apply Calm.still_op_move; (focus rfl); (focus (first | exact .inl rfl | exact .inr rfl)); (focus ((try simp only [Act.eval, Array.getD_eq_getD_getElem?, List.getElem?_toArray, List.getElem?_cons_succ, List.getElem?_cons_zero, Option.getD_some]); rfl)); (try simp only [Act.put, List.setIfInBounds_toArray, List.set_cons_zero, List.set_cons_succ])) | (apply Calm.still_op_not; (focus rfl); (try simp only [Act.put, List.setIfInBounds_toArray, List.set_cons_zero, List.set_cons_succ])) | (apply Calm.still_op; (focus rfl); (focus (intro W hb; obtain ⟨hc, hf⟩ := bcell hb; clear hb hf; go_simp; (try go_bits); (try rfl); done)); (try simp only [Act.put, List.setIfInBounds_toArray, List.set_cons_zero, List.set_cons_succ])))
    (first | (apply Calm.still_op_move; (focus rfl); (focus (first | exact .inl rfl | exact .inr rfl)); (focus ((try simp only [Act.eval, Array.getD_eq_getD_getElem?, List.getElem?_toArray, List.getElem?_cons_succ, List.getElem?_cons_zero, Option.getD_some]); rfl)); (try simp only [Act.put, List.setIfInBounds_toArray, List.set_cons_zero, List.set_cons_succ])) | (apply Calm.still_op_not; (focus rfl); (try simp only [Act.put, List.setIfInBounds_toArray, List.set_cons_zero, List.set_cons_succ])) | (apply Calm.still_op; (focus rfl); (focus (intro W hb; obtain ⟨hc, hf⟩ := bcell hb; clear hb hf; go_simp; (try go_bits); (try rfl); done)); (try simp only [Act.put, List.setIfInBounds_toArray, List.set_cons_zero, List.set_cons_succ])))
    (first | (apply Calm.still_op_move; (focus rfl); (focus (first | exact .inl rfl | exact .inr rfl)); (focus ((try simp only [Act.eval, Array.getD_eq_getD_getElem?, List.getElem?_toArray, List.getElem?_cons_succ, List.getElem?_cons_zero, Option.getD_some]); rfl)); (try simp only [Act.put, List.setIfInBounds_toArray, List.set_cons_zero, List.set_cons_succ])) | (apply Calm.still_op_not; (focus rfl); (try simp only [Act.put, List.setIfInBounds_toArray, List.set_cons_zero, List.set_cons_succ])) | (apply Calm.still_op; (focus rfl); (focus (intro W hb; obtain ⟨hc, hf⟩ := bcell hb; clear hb hf; go_simp; (try go_bits); (try rfl); done)); (try simp only [Act.put, List.setIfInBounds_toArray, List.set_cons_zero, List.set_cons_succ])))
    (first | (apply Calm.still_op_move; (focus rfl); (focus (first | exact .inl rfl | exact .inr rfl)); (focus ((try simp only [Act.eval, Array.getD_eq_getD_getElem?, List.getElem?_toArray, List.getElem?_cons_succ, List.getElem?_cons_zero, Option.getD_some]); rfl)); (try simp only [Act.put, List.setIfInBounds_toArray, List.set_cons_zero, List.set_cons_succ])) | (apply Calm.still_op_not; (focus rfl); (try simp only [Act.put, List.setIfInBounds_toArray, List.set_cons_zero, List.set_cons_succ])) | (apply Calm.still_op; (focus rfl); (focus (intro W hb; obtain ⟨hc, hf⟩ := bcell hb; clear hb hf; go_simp; (try go_bits); (try rfl); done)); (try simp only [Act.put, List.setIfInBounds_toArray, List.set_cons_zero, List.set_cons_succ])))
    (first | (apply Calm.still_op_move; (focus rfl); (focus (first | exact .inl rfl | exact .inr rfl)); (focus ((try simp only [Act.eval, Array.getD_eq_getD_getElem?, List.getElem?_toArray, List.getElem?_cons_succ, List.getElem?_cons_zero, Option.getD_some]); rfl)); (try simp only [Act.put, List.setIfInBounds_toArray, List.set_cons_zero, List.set_cons_succ])) | (apply Calm.still_op_not; (focus rfl); (try simp only [Act.put, List.setIfInBounds_toArray, List.set_cons_zero, List.set_cons_succ])) | (apply Calm.still_op; (focus rfl); (focus (intro W hb; obtain ⟨hc, hf⟩ := bcell hb; clear hb hf; go_simp; (try go_bits); (try rfl); done)); (try simp only [Act.put, List.setIfInBounds_toArray, List.set_cons_zero, List.set_cons_succ])))
    (first | (apply Calm.still_op_move; (focus rfl); (focus (first | exact .inl rfl | exact .inr rfl)); (focus ((try simp only [Act.eval, Array.getD_eq_getD_getElem?, List.getElem?_toArray, List.getElem?_cons_succ, List.getElem?_cons_zero, Option.getD_some]); rfl)); (try simp only [Act.put, List.setIfInBounds_toArray, List.set_cons_zero, List.set_cons_succ])) | (apply Calm.still_op_not; (focus rfl); (try simp only [Act.put, List.setIfInBounds_toArray, List.set_cons_zero, List.set_cons_succ])) | (apply Calm.still_op; (focus rfl); (focus (intro W hb; obtain ⟨hc, hf⟩ := bcell hb; clear hb hf; go_simp; (try go_bits); (try rfl); done)); (try simp only [Act.put, List.setIfInBounds_toArray, List.set_cons_zero, List.set_cons_succ])))
    (first | (apply Calm.still_op_move; (focus rfl); (focus (first | exact .inl rfl | exact .inr rfl)); (focus ((try simp only [Act.eval, Array.getD_eq_getD_getElem?, List.getElem?_toArray, List.getElem?_cons_succ, List.getElem?_cons_zero, Option.getD_some]); rfl)); (try simp only [Act.put, List.setIfInBounds_toArray, List.set_cons_zero, List.set_cons_succ])) | (apply Calm.still_op_not; (focus rfl); (try simp only [Act.put, List.setIfInBounds_toArray, List.set_cons_zero, List.set_cons_succ])) | (apply Calm.still_op; (focus rfl); (focus (intro W hb; obtain ⟨hc, hf⟩ := bcell hb; clear hb hf; go_simp; (try go_bits); (try rfl); done)); (try simp only [Act.put, List.setIfInBounds_toArray, List.set_cons_zero, List.set_cons_succ])))
    apply Calm.still_op (.bool false)
    focus rfl
    focus (intro W hb; obtain ⟨hc, hf⟩ := bcell hb; clear hb hf; go_simp; (try (first | (simp; done) | (simp; omega) | omega)))
    (try simp only [Act.put, List.setIfInBounds_toArray, List.set_cons_zero, List.set_cons_succ])
    repeat (first | (apply Calm.still_op_move; (focus rfl); (focus (first | exact .inl rfl | exact .inr rfl)); (focus ((try simp only [Act.eval, Array.getD_eq_getD_getElem?, List.getElem?_toArray, List.getElem?_cons_succ, List.getElem?_cons_zero, Option.getD_some]); rfl)); (try simp only [Act.put, List.setIfInBounds_toArray, List.set_cons_zero, List.set_cons_succ])) | (apply Calm.still_op_not; (focus rfl); (try simp only [Act.put, List.setIfInBounds_toArray, List.set_cons_zero, List.set_cons_succ])) | (apply Calm.still_op; (focus rfl); (focus (intro W hb; obtain ⟨hc, hf⟩ := bcell hb; clear hb hf; go_simp; (try go_bits); (try rfl); done)); (try simp only [Act.put, List.setIfInBounds_toArray, List.set_cons_zero, List.set_cons_succ])))
    refine Calm.still_nil ?_
    intro w1 hb
    obtain ⟨hbc, hbf⟩ := bcell hb
    have hbz := hb.size
    (try simp at hbz)
    (try have hbz0 : w.heap.size < w1.heap.size := by omega)
    (try have hbz1 : w.heap.size + 1 < w1.heap.size := by omega)
    (try have hbz2 : w.heap.size + 1 + 1 < w1.heap.size := by omega)
    (try have hbz3 : w.heap.size + 1 + 1 + 1 < w1.heap.size := by omega)
    (try have hbz4 : w.heap.size + 1 + 1 + 1 + 1 < w1.heap.size := by omega)
    (try have hbz5 : w.heap.size + 1 + 1 + 1 + 1 + 1 < w1.heap.size := by omega)
    go_wp2
    go_ret
    refine ⟨by first | rfl | (simp; done) | (simp; omega), ?_⟩
    repeat (first | (with_reducible exact Below.refl _ _) | ((with_reducible refine Below.setCell ?_ ?_ _); rotate_left 1; focus (first | (simp; done) | (simp; omega) | (simp at *; omega))) | ((with_reducible refine Below.alloc ?_ ?_ _); rotate_left 1; focus (first | (simp; done) | (simp; omega) | (simp at *; omega))) | (with_reducible refine Below.drew ?_) | ((with_reducible refine Calm.step (by assumption) ?_ ?_); rotate_left 1; focus (first | (simp; done) | (simp; omega) | (simp at *; omega))))
end Go.Proofs.YtpkldjlljoledaaDoor

/- Contracts of Linear. %still -/
namespace Go.Proofs.YtpkldjlljoledaaDoor
open Go.RowKit
open Calm (bcell Blk)

/-- the error of a curve and its demands. -/
def linErr (xs ys : List Int) (fo st : Int) : Int := firstOf [curveErr xs ys, rangeErr fo 1 100, rangeErr st 100 1000]
theorem checkCurve_any (A1 A2 : Option Addr) (xs ys : List Int) (c1 c2 : Nat) (w : World) (hC1 : Cells w A1 xs) (hC2 : Cells w A2 ys) (h1 : xs.length ≤ 100000) (h2 : ys.length ≤ 100000) :
    Calls Tryd.prog 50 #[.agg #[.slice A1 xs.length c1, .slice A2 ys.length c2]] w fun r w' => r = .returned (.int .i64 (curveErr xs ys)) ∧ Below w.heap.size w w' := by
  by_cases h : xs.length % 2 = 0 ∨ xs.length < 3 ∨ 33 < xs.length ∨ ys.length ≠ xs.length
  · have e : curveErr xs ys = 2 := if_pos h
    rw [e]
    exact checkCurve_shape A1 A2 xs ys c1 c2 w h1 h2 h
  · exact checkCurve_len A1 A2 xs ys c1 c2 w hC1 hC2 h
theorem curve_zero {xs ys : List Int} (h : curveErr xs ys = 0) : (xs.length % 2 = 1 ∧ 3 ≤ xs.length ∧ xs.length ≤ 33 ∧ ys.length = xs.length) ∧ (∀ x ∈ xs, 1 ≤ x ∧ x ≤ 999999999) ∧ (∀ y ∈ ys, 1 ≤ y ∧ y ≤ 999999999) := by
  unfold curveErr at h
  by_cases h1 : xs.length % 2 = 0 ∨ xs.length < 3 ∨ 33 < xs.length ∨ ys.length ≠ xs.length
  · rw [if_pos h1] at h; omega
  · rw [if_neg h1] at h
    refine ⟨⟨by omega, by omega, by omega, Classical.byContradiction fun hh => h1 (.inr (.inr (.inr hh)))⟩, ?_⟩
    by_cases h2 : (∀ x ∈ xs, 1 ≤ x ∧ x ≤ 999999999) ∧ (∀ y ∈ ys, 1 ≤ y ∧ y ≤ 999999999)
    · exact h2
    · rw [if_neg h2] at h; omega

set_option maxHeartbeats 2000000 in
theorem Linear_bad (xs ys : List Int) (fo st : Int) (A1 A2 : Option Addr) (c1 c2 : Nat) (w : World) (hC1 : Cells w A1 xs) (hC2 : Cells w A2 ys) (h1 : xs.length ≤ 100000) (h2 : ys.length ≤ 100000) (h : linErr xs ys fo st ≠ 0) :
    Calls Tryd.prog 46 #[.agg #[.slice A1 xs.length c1, .slice A2 ys.length c2], (.int .i64 (fo)), (.int .i64 (st))] w fun r w' => r = .returned (.tuple #[(.int .i64 (0)), (.int .i64 (linErr xs ys fo st))]) ∧ Below w.heap.size w w' := by
  have HC1 := Lib.hid hC1
  have HC2 := Lib.hid hC2
  clear hC1 hC2
  unfold linErr at h ⊢
  obtain ⟨E, hE⟩ : ∃ E, E = curveErr xs ys := ⟨_, rfl⟩
  have HE := Lib.hid hE
  rw [← hE] at h ⊢
  clear hE
  go_enter Tryd.func46, Tryd.ntmps46
  go_wp2
  refine Calm.still_tail 6 (by kernel_rfl) (by kernel_rfl) ?_
  simp only [List.take_succ_cons, List.take_zero, List.drop_succ_cons, List.drop_zero]
  repeat (first | (first | (apply Calm.still_op_move; (focus rfl); (focus (first | exact .inl rfl | exact .inr rfl)); (focus ((try simp only [Act.eval, Array.getD_eq_getD_getElem?, List.getElem?_toArray, List.getElem?_cons_succ, List.getElem?_cons_zero, Option.getD_some]); rfl)); (try simp only [Act.put, List.setIfInBounds_toArray, List.set_cons_zero, List.set_cons_succ])) | (apply Calm.still_op_not; (focus rfl); (try simp only [Act.put, List.setIfInBounds_toArray, List.set_cons_zero, List.set_cons_succ])) | (apply Calm.still_op; (focus rfl); (focus (intro W hb; obtain ⟨hc, hf⟩ := bcell hb; clear hb hf; go_simp; (try go_bits); (try rfl); done)); (try simp only [Act.put, List.setIfInBounds_toArray, List.set_cons_zero, List.set_cons_succ]))) | (apply Calm.still_op_call; (focus rfl); (focus (intro W hb; obtain ⟨hc, hf⟩ := bcell hb; clear hb hf; go_simp; refine ⟨?_, ?_⟩; rfl; rfl)); (focus (intro W hb; first | (go_at_call 50; exact Calm.call_below hb ((HE.out ▸ checkCurve_any A1 A2 xs ys _ _ _ (HC1.out.below (by (repeat (first | (with_reducible exact Below.refl _ _) | ((with_reducible refine Below.setCell ?_ ?_ _); rotate_left 1; focus (first | (simp; done) | (simp; omega) | (simp at *; omega))) | ((with_reducible refine Below.alloc ?_ ?_ _); rotate_left 1; focus (first | (simp; done) | (simp; omega) | (simp at *; omega))) | (with_reducible refine Below.drew ?_) | ((with_reducible refine Calm.step (by assumption) ?_ ?_); rotate_left 1; focus (first | (simp; done) | (simp; omega) | (simp at *; omega))))))) (HC2.out.below (by (repeat (first | (with_reducible exact Below.refl _ _) | ((with_reducible refine Below.setCell ?_ ?_ _); rotate_left 1; focus (first | (simp; done) | (simp; omega) | (simp at *; omega))) | ((with_reducible refine Below.alloc ?_ ?_ _); rotate_left 1; focus (first | (simp; done) | (simp; omega) | (simp at *; omega))) | (with_reducible refine Below.drew ?_) | ((with_reducible refine Calm.step (by assumption) ?_ ?_); rotate_left 1; focus (first | (simp; done) | (simp; omega) | (simp at *; omega))))))) h1 h2))) | (go_at_call 80; exact Calm.call_same hb (within_any _ _ _ _)))); (try simp only [Act.put, List.setIfInBounds_toArray, List.set_cons_zero, List.set_cons_succ])))
  refine Calm.still_nil ?_
  intro w1 hb
  obtain ⟨hbc, hbf⟩ := bcell hb
  have hbz := hb.size
  (try simp at hbz)
  (try have hbz0 : w.heap.size < w1.heap.size := by omega)
  (try have hbz1 : w.heap.size + 1 < w1.heap.size := by omega)
  (try have hbz2 : w.heap.size + 1 + 1 < w1.heap.size := by omega)
  (try have hbz3 : w.heap.size + 1 + 1 + 1 < w1.heap.size := by omega)
  (try have hbz4 : w.heap.size + 1 + 1 + 1 + 1 < w1.heap.size := by omega)
  (try have hbz5 : w.heap.size + 1 + 1 + 1 + 1 + 1 < w1.heap.size := by omega)
  go_wp2_with (first | (go_at_call 86; refine (first3_any _ _ _ _).mono ?_; rintro r w1 ⟨rfl, rfl⟩))
  go_ret2
  refine ⟨by first | rfl | (simp; done), ?_⟩
  repeat (first | (with_reducible exact Below.refl _ _) | ((with_reducible refine Below.setCell ?_ ?_ _); rotate_left 1; focus (first | (simp; done) | (simp; omega) | (simp at *; omega))) | ((with_reducible refine Below.alloc ?_ ?_ _); rotate_left 1; focus (first | (simp; done) | (simp; omega) | (simp at *; omega))) | (with_reducible refine Below.drew ?_) | ((with_reducible refine Calm.step (by assumption) ?_ ?_); rotate_left 1; focus (first | (simp; done) | (simp; omega) | (simp at *; omega))))
/-- how far a condition holds from 0 on. -/
def climb (p : Nat → Bool) (n : Nat) : Nat := ((List.range n).takeWhile p).length
theorem climb_eq {p : Nat → Bool} {n d : Nat} (h1 : ∀ j, j < d → p j = true) (h2 : d ≤ n) (h3 : d = n ∨ p d = false) : climb p n = d := by
  have e : List.range n = List.range d ++ (List.range (n - d)).map (d + ·) := by
    rw [← List.range_add]
    congr 1
    omega
  unfold climb
  rw [e, List.takeWhile_append_of_pos (by intro j hj; exact h1 j (List.mem_range.1 hj))]
  rcases h3 with rfl | h3
  · simp
  · cases hm : n - d with
    | zero => simp
    | succ m =>
      rw [List.range_succ_eq_map]
      simp [h3]
/-- the displacement up to which a curve is linear. -/
def linD (xs ys : List Int) (fo st : Int) : Nat := climb (fun d => fineB xs ys (xs.length / 2) fo st (xs.length / 2 - d - 1) && fineB xs ys (xs.length / 2) fo st (xs.length / 2 + d + 1)) (xs.length / 2)

set_option maxRecDepth 100000 in
set_option maxHeartbeats 4000000 in
theorem Linear_ok (xs ys : List Int) (fo st : Int) (A1 A2 : Option Addr) (c1 c2 : Nat) (w : World) (hC1 : Cells w A1 xs) (hC2 : Cells w A2 ys) (h1 : xs.length ≤ 100000) (h2 : ys.length ≤ 100000) (h : linErr xs ys fo st = 0) :
    Calls Tryd.prog 46 #[.agg #[.slice A1 xs.length c1, .slice A2 ys.length c2], (.int .i64 (fo)), (.int .i64 (st))] w fun r w' => r = .returned (.tuple #[(.int .i64 (linD xs ys fo st)), (.int .i64 (0))]) ∧ Below w.heap.size w w' := by
  have HC1 := Lib.hid hC1
  have HC2 := Lib.hid hC2
  clear hC1 hC2
  unfold linErr at h
  have hh := firstOf_eq_zero.1 h
  simp only [List.mem_cons, List.not_mem_nil, or_false, forall_eq_or_imp, forall_eq, rangeErr_zero] at hh
  obtain ⟨g1, g2, g3⟩ := hh
  have HZ := Lib.hid (curve_zero g1)
  have HF := Lib.hid g2
  have HS := Lib.hid g3
  have hlen := (curve_zero g1).1
  clear g1 g2 g3
  obtain ⟨E, hE⟩ : ∃ E, E = curveErr xs ys := ⟨_, rfl⟩
  have HE := Lib.hid hE
  rw [← hE] at h
  clear hE
  obtain ⟨R, hR⟩ : ∃ R, R = linD xs ys fo st := ⟨_, rfl⟩
  have HR := Lib.hid hR
  rw [← hR]
  clear hR
  obtain ⟨l1, l2, l3, l4⟩ := hlen
  rw [l4]
  obtain ⟨N, hN⟩ : ∃ N, N = xs.length := ⟨_, rfl⟩
  have HN := Lib.hid hN
  have HN2 := Lib.hid (l4.trans hN.symm)
  rw [← hN] at l1 l2 l3 ⊢
  have hCC : ∀ W : World, Cells W A1 xs → Cells W A2 ys → Calls Tryd.prog 50 #[.agg #[.slice A1 N c1, .slice A2 N c2]] W fun r w' => r = .returned (.int .i64 (E)) ∧ Below W.heap.size W w' := by
    intro W k1 k2
    have := checkCurve_any A1 A2 xs ys c1 c2 W k1 k2 h1 h2
    rwa [← HE.out, HN2.out, ← HN.out] at this
  have HCC := Lib.hid hCC
  clear hCC
  clear l4 hN h1 h2
  obtain ⟨m, hm⟩ : ∃ m, m = N / 2 := ⟨_, rfl⟩
  have hq : Int.tdiv (N : Int) 2 = m := by rw [Int.tdiv_eq_ediv_of_nonneg (by omega)]; omega
  have HM := Lib.hid hm
  have hRm : R = climb (fun d => fineB xs ys m fo st (m - d - 1) && fineB xs ys m fo st (m + d + 1)) m := by
    rw [HR.out]
    unfold linD
    rw [← HN.out, ← HM.out]
  have HRM := Lib.hid hRm
  clear hRm
  have hm16 : m ≤ 16 := by omega
  have hNm : N = m + m + 1 := by omega
  clear hm
  have hFine : ∀ (W : World) (i : Nat) (z : Int) (q1 q2 q3 q4 : Nat), z = i → i < N → Blk W q1 #[.slice A1 N c1, .slice A2 N c2] → Blk W q2 #[(.int .i64 (fo))] → Blk W q3 #[(.int .i64 (m))] → Blk W q4 #[(.int .i64 (st))] → Cells W A1 xs → Cells W A2 ys →
      Calls Tryd.prog 93 #[(.int .i64 (z)), .pointer (some ⟨q1, 0, none⟩), .pointer (some ⟨q2, 0, none⟩), .pointer (some ⟨q3, 0, none⟩), .pointer (some ⟨q4, 0, none⟩)] W fun r w' => r = .returned (.bool (fineB xs ys m fo st i)) ∧ Below W.heap.size W w' := by
    intro W i z q1 q2 q3 q4 hz hi k1 k2 k3 k4 k5 k6
    subst hz
    have e1 := HN.out
    have e2 := HN2.out
    rw [e1, show xs.length = ys.length by omega] at k1
    refine fine_any xs ys i m fo st q1 q2 q3 q4 A1 A2 c1 c2 W ?_ k2 k3 k4 k5 k6 (by omega) (by omega) (by omega) HZ.out.2.1 HZ.out.2.2 HF.out HS.out
    rw [show xs.length = ys.length by omega]
    exact k1
  have HFI := Lib.hid hFine
  have HNM := Lib.hid hNm
  clear hFine hNm
  go_enter Tryd.func46, Tryd.ntmps46
  go_wp2
  refine Calm.still_tail 6 (by kernel_rfl) (by kernel_rfl) ?_
  simp only [List.take_succ_cons, List.take_zero, List.drop_succ_cons, List.drop_zero]
  repeat (first | (first | (apply Calm.still_op_move; (focus rfl); (focus (first | exact .inl rfl | exact .inr rfl)); (focus ((try simp only [Act.eval, Array.getD_eq_getD_getElem?, List.getElem?_toArray, List.getElem?_cons_succ, List.getElem?_cons_zero, Option.getD_some]); rfl)); (try simp only [Act.put, List.setIfInBounds_toArray, List.set_cons_zero, List.set_cons_succ])) | (apply Calm.still_op_not; (focus rfl); (try simp only [Act.put, List.setIfInBounds_toArray, List.set_cons_zero, List.set_cons_succ])) | (apply Calm.still_op; (focus rfl); (focus (intro W hb; obtain ⟨hc, hf⟩ := bcell hb; clear hb hf; go_simp; (try go_bits); (try rfl); done)); (try simp only [Act.put, List.setIfInBounds_toArray, List.set_cons_zero, List.set_cons_succ]))) | (apply Calm.still_op_call; (focus rfl); (focus (intro W hb; obtain ⟨hc, hf⟩ := bcell hb; clear hb hf; go_simp; refine ⟨?_, ?_⟩; rfl; rfl)); (focus (intro W hb; first | (go_at_call 50; exact Calm.call_below hb (HCC.out _ (HC1.out.below (by (repeat (first | (with_reducible exact Below.refl _ _) | ((with_reducible refine Below.setCell ?_ ?_ _); rotate_left 1; focus (first | (simp; done) | (simp; omega) | (simp at *; omega))) | ((with_reducible refine Below.alloc ?_ ?_ _); rotate_left 1; focus (first | (simp; done) | (simp; omega) | (simp at *; omega))) | (with_reducible refine Below.drew ?_) | ((with_reducible refine Calm.step (by assumption) ?_ ?_); rotate_left 1; focus (first | (simp; done) | (simp; omega) | (simp at *; omega))))))) (HC2.out.below (by (repeat (first | (with_reducible exact Below.refl _ _) | ((with_reducible refine Below.setCell ?_ ?_ _); rotate_left 1; focus (first | (simp; done) | (simp; omega) | (simp at *; omega))) | ((with_reducible refine Below.alloc ?_ ?_ _); rotate_left 1; focus (first | (simp; done) | (simp; omega) | (simp at *; omega))) | (with_reducible refine Below.drew ?_) | ((with_reducible refine Calm.step (by assumption) ?_ ?_); rotate_left 1; focus (first | (simp; done) | (simp; omega) | (simp at *; omega))))))))) | (go_at_call 80; exact Calm.call_same hb (within_any _ _ _ _)))); (try simp only [Act.put, List.setIfInBounds_toArray, List.set_cons_zero, List.set_cons_succ])))
  refine Calm.still_nil ?_
  intro w1 hb
  obtain ⟨hbc, hbf⟩ := bcell hb
  have hbz := hb.size
  (try simp at hbz)
  (try have hbz0 : w.heap.size < w1.heap.size := by omega)
  (try have hbz1 : w.heap.size + 1 < w1.heap.size := by omega)
  (try have hbz2 : w.heap.size + 1 + 1 < w1.heap.size := by omega)
  (try have hbz3 : w.heap.size + 1 + 1 + 1 < w1.heap.size := by omega)
  (try have hbz4 : w.heap.size + 1 + 1 + 1 + 1 < w1.heap.size := by omega)
  (try have hbz5 : w.heap.size + 1 + 1 + 1 + 1 + 1 < w1.heap.size := by omega)
  go_wp2_with (first | (go_at_call 86; refine (first3_any _ _ _ _).mono ?_; rintro r w1 ⟨rfl, rfl⟩))
  go_loopw [11] (fun d wr => ∃ k : Nat, k ≤ m ∧ d = (.int .i64 (k)) ∧ (∀ j, j < k → (fineB xs ys m fo st (m - j - 1) && fineB xs ys m fo st (m + j + 1)) = true) ∧ Below w.heap.size w wr ∧ Blk wr w.heap.size #[.slice A1 N c1, .slice A2 N c2] ∧ Blk wr (w.heap.size + 1) #[(.int .i64 (fo))] ∧ Blk wr (w.heap.size + 1 + 1) #[(.int .i64 (st))] ∧ Blk wr (w1.heap.size + 1) #[(.int .i64 (m))]) (fun d _ => m - (intOf d).toNat)
  case atStart => exact ⟨0, Nat.zero_le _, rfl, fun j hj => by omega, by (repeat (first | (with_reducible exact Below.refl _ _) | ((with_reducible refine Below.setCell ?_ ?_ _); rotate_left 1; focus (first | (simp; done) | (simp; omega) | (simp at *; omega))) | ((with_reducible refine Below.alloc ?_ ?_ _); rotate_left 1; focus (first | (simp; done) | (simp; omega) | (simp at *; omega))) | (with_reducible refine Below.drew ?_) | ((with_reducible refine Calm.step (by assumption) ?_ ?_); rotate_left 1; focus (first | (simp; done) | (simp; omega) | (simp at *; omega))))), by (repeat (first | ((with_reducible refine Blk.at_ ?_); focus (first | rfl | (simp; done) | (simp; omega))) | (with_reducible refine Blk.alloc ?_ _) | (with_reducible refine Blk.below ?_ (by with_reducible assumption)) | (with_reducible refine Blk.drew ?_))), by (repeat (first | ((with_reducible refine Blk.at_ ?_); focus (first | rfl | (simp; done) | (simp; omega))) | (with_reducible refine Blk.alloc ?_ _) | (with_reducible refine Blk.below ?_ (by with_reducible assumption)) | (with_reducible refine Blk.drew ?_))), by (repeat (first | ((with_reducible refine Blk.at_ ?_); focus (first | rfl | (simp; done) | (simp; omega))) | (with_reducible refine Blk.alloc ?_ _) | (with_reducible refine Blk.below ?_ (by with_reducible assumption)) | (with_reducible refine Blk.drew ?_))), by (repeat (first | ((with_reducible refine Blk.at_ ?_); focus (first | rfl | (simp; done) | (simp; omega))) | (with_reducible refine Blk.alloc ?_ _) | (with_reducible refine Blk.below ?_ (by with_reducible assumption)) | (with_reducible refine Blk.drew ?_)))⟩
  case round =>
    clear hbc hbf
    obtain ⟨k, hk, rfl, hz, hB, K1, K2, K3, K4⟩ := hrel
    have HJ := Lib.hid hz
    clear hz
    have hsz := hB.size
    have d1 := K4.cell 0 (.int .i64 (m)) rfl
    have t1 := K4.lt
    by_cases hlt : k < m
    · cases f1 : fineB xs ys m fo st (m - k - 1)
      · have HF1 := Lib.hid f1
        clear f1
        go_wp2_with (go_at_call 93; refine (HFI.out _ (m - k - 1) _ _ _ _ _ (by omega) (by have := HNM.out; omega) K1 K2 K4 K3 (HC1.out.below hB) (HC2.out.below hB)).mono ?_; rw [HF1.out]; rintro r w2 ⟨rfl, hb2⟩; obtain ⟨hc2, hf2⟩ := bcell hb2)
        go_ret2
        have hR : R = k := HRM.out.trans (climb_eq HJ.out hk (.inr (by simp [HF1.out])))
        refine ⟨by rw [hR]; first | rfl | (simp; done), ?_⟩
        exact hB.trans (Below.mono (by (repeat (first | (with_reducible exact Below.refl _ _) | ((with_reducible refine Below.setCell ?_ ?_ _); rotate_left 1; focus (first | (simp; done) | (simp; omega) | (simp at *; omega))) | ((with_reducible refine Below.alloc ?_ ?_ _); rotate_left 1; focus (first | (simp; done) | (simp; omega) | (simp at *; omega))) | (with_reducible refine Below.drew ?_) | ((with_reducible refine Calm.step (by assumption) ?_ ?_); rotate_left 1; focus (first | (simp; done) | (simp; omega) | (simp at *; omega)))))) hsz)
      · have HF1 := Lib.hid f1
        clear f1
        cases f2 : fineB xs ys m fo st (m + k + 1)
        · have HF2 := Lib.hid f2
          clear f2
          go_wp2_with (first
            | (go_at_call 93; refine (HFI.out _ (m - k - 1) _ _ _ _ _ (by omega) (by have := HNM.out; omega) K1 K2 K4 K3 (HC1.out.below hB) (HC2.out.below hB)).mono ?_; rw [HF1.out]; rintro r w2 ⟨rfl, hb2⟩; obtain ⟨hc2, hf2⟩ := bcell hb2)
            | (go_at_call 93; refine (HFI.out _ (m + k + 1) _ _ _ _ _ (by omega) (by have := HNM.out; omega) (K1.below hb2) (K2.below hb2) (K4.below hb2) (K3.below hb2) ((HC1.out.below hB).below hb2) ((HC2.out.below hB).below hb2)).mono ?_; rw [HF2.out]; rintro r w3 ⟨rfl, hb3⟩; obtain ⟨hc3, hf3⟩ := bcell hb3))
          go_ret2
          have hR : R = k := HRM.out.trans (climb_eq HJ.out hk (.inr (by simp [HF2.out])))
          refine ⟨by rw [hR]; first | rfl | (simp; done), ?_⟩
          exact hB.trans (Below.mono (hb2.trans (Below.mono hb3 hb2.size)) hsz)
        · have HF2 := Lib.hid f2
          clear f2
          go_wp2_with (first
            | (go_at_call 93; refine (HFI.out _ (m - k - 1) _ _ _ _ _ (by omega) (by have := HNM.out; omega) K1 K2 K4 K3 (HC1.out.below hB) (HC2.out.below hB)).mono ?_; rw [HF1.out]; rintro r w2 ⟨rfl, hb2⟩; obtain ⟨hc2, hf2⟩ := bcell hb2)
            | (go_at_call 93; refine (HFI.out _ (m + k + 1) _ _ _ _ _ (by omega) (by have := HNM.out; omega) (K1.below hb2) (K2.below hb2) (K4.below hb2) (K3.below hb2) ((HC1.out.below hB).below hb2) ((HC2.out.below hB).below hb2)).mono ?_; rw [HF2.out]; rintro r w3 ⟨rfl, hb3⟩; obtain ⟨hc3, hf3⟩ := bcell hb3))
          go_roundw
          case rel => exact ⟨k + 1, by omega, by go_num, fun j hj => by
            rcases Nat.lt_or_ge j k with h | h
            · exact HJ.out j h
            · obtain rfl : j = k := by omega
              rw [HF1.out, HF2.out]; rfl, hB.trans (Below.mono (hb2.trans (Below.mono hb3 hb2.size)) hsz), (K1.below hb2).below hb3, (K2.below hb2).below hb3, (K3.below hb2).below hb3, (K4.below hb2).below hb3⟩
          case measure => simp [intOf]; omega
    · obtain rfl : k = m := by omega
      go_wp2
      go_ret2
      have hR : R = k := HRM.out.trans (climb_eq HJ.out hk (.inl rfl))
      exact ⟨by rw [hR]; first | rfl | (simp; done), hB⟩
end Go.Proofs.YtpkldjlljoledaaDoor

/- Contracts of the reference's checks. %still -/
namespace Go.Proofs.YtpkldjlljoledaaDoor
open Go.RowKit
open Calm (bcell Blk)

theorem qFirst_any (l : List Int) (b off c : Nat) (w : World) (hl : l.length ≤ 64) (hc : ∀ k, k < l.length → w.cell? ⟨b, off + k, none⟩ = some (.int .i64 (l.getD k 0))) :
    Calls Tryd.prog 16 #[.slice (some ⟨b, off, none⟩) l.length c] w fun r w' => r = .returned (.int .i64 (firstOf l)) ∧ w = w' := by
  go_enter Tryd.func16, Tryd.ntmps16
  go_wp2
  go_loop [3] (fun i => ∃ k : Nat, k ≤ l.length ∧ i = (.int .i64 (k)) ∧ ∀ j, j < k → l.getD j 0 = 0) (fun i => l.length - (intOf i).toNat)
  case atStart => exact ⟨0, Nat.zero_le _, rfl, fun j hj => by omega⟩
  case round =>
    obtain ⟨k, hk, rfl, hz⟩ := hrel
    have HZ := Lib.hid hz
    clear hz
    by_cases hlt : k < l.length
    · have hck := hc k hlt
      clear hc
      by_cases h0 : l.getD k 0 = 0
      · rw [h0] at hck
        have H0 := Lib.hid h0
        clear h0
        go_wp2
        go_round
        case rel => exact ⟨k + 1, by omega, by go_num, fun j hj => by
          rcases Nat.lt_or_ge j k with hjk | hjk
          · exact HZ.out j hjk
          · obtain rfl : j = k := by omega
            exact H0.out⟩
        case measure => simp [intOf]; omega
      · obtain ⟨x, hx⟩ : ∃ x, x = l.getD k 0 := ⟨_, rfl⟩
        rw [← hx] at hck h0
        have H0 := Lib.hid hx
        clear hx
        go_wp2
        go_ret
        exact ⟨ret_i (by rw [firstOf_take HZ.out hlt (by rw [← H0.out]; exact h0)]; exact H0.out), rfl⟩
    · clear hc
      go_wp2
      go_ret
      exact ⟨ret_i (by rw [firstOf_zero (fun j hj => HZ.out j (by omega))]), rfl⟩

theorem checkRange_any (n lo hi : Int) (w : World) : Calls Tryd.prog 40 #[(.int .i64 (n)), (.int .i64 (lo)), (.int .i64 (hi))] w fun r w' => r = .returned (.int .i64 (rangeErr n lo hi)) ∧ w = w' := by
  by_cases h1 : n < lo
  · rw [rangeErr_lo h1]
    go_enter Tryd.func40, Tryd.ntmps40
    go_wp2
    go_ret
    exact ⟨rfl, rfl⟩
  · by_cases h2 : hi < n
    · rw [rangeErr_hi h2]
      go_enter Tryd.func40, Tryd.ntmps40
      go_wp2
      go_ret
      exact ⟨rfl, rfl⟩
    · rw [rangeErr_in (by omega) (by omega)]
      go_enter Tryd.func40, Tryd.ntmps40
      go_wp2
      go_ret
      exact ⟨rfl, rfl⟩
theorem refCheckW_any (n : Int) (w : World) : Calls Tryd.prog 18 #[(.int .i64 (n))] w fun r w' => r = .returned (.int .i64 (rangeErr n 1 8)) ∧ w = w' := by
  go_enter Tryd.func18, Tryd.ntmps18
  go_wp2_with (first | (go_at_call 40; refine (checkRange_any _ _ _ _).mono ?_; rintro r w1 ⟨rfl, rfl⟩))
  go_ret
  exact ⟨rfl, rfl⟩
theorem qFirst2_any (a b : Int) (W : World) : Calls Tryd.prog 16 #[.slice (some ⟨W.heap.size, 0, none⟩) 2 2] (W.alloc (.cells #[(.int .i64 (a)), (.int .i64 (b))] 3)) fun r w' => r = .returned (.int .i64 (firstOf [a, b])) ∧ W.alloc (.cells #[(.int .i64 (a)), (.int .i64 (b))] 3) = w' :=
  qFirst_any [a, b] W.heap.size 0 2 _ (by simp) fun k hk => by
    have : k = 0 ∨ k = 1 := by simp at hk; omega
    rcases this with rfl | rfl <;> simp
theorem qFirst3_any (a b c : Int) (W : World) : Calls Tryd.prog 16 #[.slice (some ⟨W.heap.size, 0, none⟩) 3 3] (W.alloc (.cells #[(.int .i64 (a)), (.int .i64 (b)), (.int .i64 (c))] 3)) fun r w' => r = .returned (.int .i64 (firstOf [a, b, c])) ∧ W.alloc (.cells #[(.int .i64 (a)), (.int .i64 (b)), (.int .i64 (c))] 3) = w' :=
  qFirst_any [a, b, c] W.heap.size 0 3 _ (by simp) fun k hk => by
    have : k = 0 ∨ k = 1 ∨ k = 2 := by simp at hk; omega
    rcases this with rfl | rfl | rfl <;> simp
theorem qFirst4_any (a b c d : Int) (W : World) : Calls Tryd.prog 16 #[.slice (some ⟨W.heap.size, 0, none⟩) 4 4] (W.alloc (.cells #[(.int .i64 (a)), (.int .i64 (b)), (.int .i64 (c)), (.int .i64 (d))] 3)) fun r w' => r = .returned (.int .i64 (firstOf [a, b, c, d])) ∧ W.alloc (.cells #[(.int .i64 (a)), (.int .i64 (b)), (.int .i64 (c)), (.int .i64 (d))] 3) = w' :=
  qFirst_any [a, b, c, d] W.heap.size 0 4 _ (by simp) fun k hk => by
    have : k = 0 ∨ k = 1 ∨ k = 2 ∨ k = 3 := by simp at hk; omega
    rcases this with rfl | rfl | rfl | rfl <;> simp
theorem qFirst6_any (a b c d e f : Int) (W : World) : Calls Tryd.prog 16 #[.slice (some ⟨W.heap.size, 0, none⟩) 6 6] (W.alloc (.cells #[(.int .i64 (a)), (.int .i64 (b)), (.int .i64 (c)), (.int .i64 (d)), (.int .i64 (e)), (.int .i64 (f))] 3)) fun r w' => r = .returned (.int .i64 (firstOf [a, b, c, d, e, f])) ∧ W.alloc (.cells #[(.int .i64 (a)), (.int .i64 (b)), (.int .i64 (c)), (.int .i64 (d)), (.int .i64 (e)), (.int .i64 (f))] 3) = w' :=
  qFirst_any [a, b, c, d, e, f] W.heap.size 0 6 _ (by simp) fun k hk => by
    have : k = 0 ∨ k = 1 ∨ k = 2 ∨ k = 3 ∨ k = 4 ∨ k = 5 := by simp at hk; omega
    rcases this with rfl | rfl | rfl | rfl | rfl | rfl <;> simp
set_option maxHeartbeats 1000000 in
theorem refCheckDriver_any (re le bl ma st lo : Int) (w : World) :
    Calls Tryd.prog 17 #[.agg #[(.int .i64 (re)), (.int .i64 (le)), (.int .i64 (bl)), (.int .i64 (ma)), (.int .i64 (st)), (.int .i64 (lo))]] w fun r w' => r = .returned (.int .i64 (drvErr re le bl ma st lo)) ∧ Below w.heap.size w w' := by
  have hE : drvErr re le bl ma st lo = firstOf [rangeErr re 1 50, rangeErr le 0 10, rangeErr bl 1 20, rangeErr ma 1 100, rangeErr st 1 5000, rangeErr lo 1 100] := rfl
  rw [hE]
  clear hE
  go_enter Tryd.func17, Tryd.ntmps17
  go_wp2
  refine Calm.still_tail 18 (by kernel_rfl) (by kernel_rfl) ?_
  simp only [List.take_succ_cons, List.take_zero, List.drop_succ_cons, List.drop_zero]
  repeat (first | (first | (apply Calm.still_op_move; (focus rfl); (focus (first | exact .inl rfl | exact .inr rfl)); (focus ((try simp only [Act.eval, Array.getD_eq_getD_getElem?, List.getElem?_toArray, List.getElem?_cons_succ, List.getElem?_cons_zero, Option.getD_some]); rfl)); (try simp only [Act.put, List.setIfInBounds_toArray, List.set_cons_zero, List.set_cons_succ])) | (apply Calm.still_op_not; (focus rfl); (try simp only [Act.put, List.setIfInBounds_toArray, List.set_cons_zero, List.set_cons_succ])) | (apply Calm.still_op; (focus rfl); (focus (intro W hb; obtain ⟨hc, hf⟩ := bcell hb; clear hb hf; go_simp; (try go_bits); (try rfl); done)); (try simp only [Act.put, List.setIfInBounds_toArray, List.set_cons_zero, List.set_cons_succ]))) | (apply Calm.still_op_call; (focus rfl); (focus (intro W hb; obtain ⟨hc, hf⟩ := bcell hb; clear hb hf; go_simp; refine ⟨?_, ?_⟩; rfl; rfl)); (focus (intro W hb; first | (go_at_call 40; exact Calm.call_same hb (checkRange_any _ _ _ _)))); (try simp only [Act.put, List.setIfInBounds_toArray, List.set_cons_zero, List.set_cons_succ])))
  refine Calm.still_nil ?_
  intro w1 hb
  obtain ⟨hbc, hbf⟩ := bcell hb
  have hbz := hb.size
  (try simp at hbz)
  (try have hbz0 : w.heap.size < w1.heap.size := by omega)
  (try have hbz1 : w.heap.size + 1 < w1.heap.size := by omega)
  (try have hbz2 : w.heap.size + 1 + 1 < w1.heap.size := by omega)
  (try have hbz3 : w.heap.size + 1 + 1 + 1 < w1.heap.size := by omega)
  (try have hbz4 : w.heap.size + 1 + 1 + 1 + 1 < w1.heap.size := by omega)
  (try have hbz5 : w.heap.size + 1 + 1 + 1 + 1 + 1 < w1.heap.size := by omega)
  go_wp2_with (first | (go_at_call 16; refine (qFirst6_any _ _ _ _ _ _ _).mono ?_; rintro r w1 ⟨rfl, rfl⟩))
  go_ret
  refine ⟨by first | rfl | (simp; done), ?_⟩
  repeat (first | (with_reducible exact Below.refl _ _) | ((with_reducible refine Below.setCell ?_ ?_ _); rotate_left 1; focus (first | (simp; done) | (simp; omega) | (simp at *; omega))) | ((with_reducible refine Below.alloc ?_ ?_ _); rotate_left 1; focus (first | (simp; done) | (simp; omega) | (simp at *; omega))) | (with_reducible refine Below.drew ?_) | ((with_reducible refine Calm.step (by assumption) ?_ ?_); rotate_left 1; focus (first | (simp; done) | (simp; omega) | (simp at *; omega))))
end Go.Proofs.YtpkldjlljoledaaDoor

/- Contract of the reference's CheckCurve. -/
namespace Go.Proofs.YtpkldjlljoledaaDoor
open Go.RowKit
open Calm (bcell Blk)

set_option maxHeartbeats 1000000 in
theorem refCheckCurve_shape (A1 A2 : Option Addr) (xs ys : List Int) (c1 c2 : Nat) (w : World) (h1 : xs.length ≤ 100000) (h2 : ys.length ≤ 100000) (h : xs.length % 2 = 0 ∨ xs.length < 3 ∨ 33 < xs.length ∨ ys.length ≠ xs.length) :
    Calls Tryd.prog 48 #[.agg #[.slice A1 xs.length c1, .slice A2 ys.length c2]] w fun r w' => r = .returned (.int .i64 (2)) ∧ Below w.heap.size w w' := by
  generalize xs.length = n at *
  generalize ys.length = m at *
  by_cases e1 : n % 2 = 0
  · clear h
    have f1 : ((n : Int) % 2 == 0) = true := by rw [beq_iff_eq]; omega
    go_enter Tryd.func48, Tryd.ntmps48
    go_wp2
    go_ret
    refine ⟨rfl, ?_⟩
    repeat (first | (with_reducible exact Below.refl _ _) | ((with_reducible refine Below.setCell ?_ ?_ _); rotate_left 1; focus (first | (simp; done) | (simp; omega) | (simp at *; omega))) | ((with_reducible refine Below.alloc ?_ ?_ _); rotate_left 1; focus (first | (simp; done) | (simp; omega) | (simp at *; omega))) | (with_reducible refine Below.drew ?_) | ((with_reducible refine Calm.step (by assumption) ?_ ?_); rotate_left 1; focus (first | (simp; done) | (simp; omega) | (simp at *; omega))))
  · have f1 : ((n : Int) % 2 == 0) = false := by rw [beq_eq_false_iff_ne]; omega
    by_cases e2 : n < 3
    · clear h e1
      go_enter Tryd.func48, Tryd.ntmps48
      go_wp2
      go_ret
      refine ⟨rfl, ?_⟩
      repeat (first | (with_reducible exact Below.refl _ _) | ((with_reducible refine Below.setCell ?_ ?_ _); rotate_left 1; focus (first | (simp; done) | (simp; omega) | (simp at *; omega))) | ((with_reducible refine Below.alloc ?_ ?_ _); rotate_left 1; focus (first | (simp; done) | (simp; omega) | (simp at *; omega))) | (with_reducible refine Below.drew ?_) | ((with_reducible refine Calm.step (by assumption) ?_ ?_); rotate_left 1; focus (first | (simp; done) | (simp; omega) | (simp at *; omega))))
    · by_cases e3 : 33 < n
      · clear h e1
        go_enter Tryd.func48, Tryd.ntmps48
        go_wp2
        go_ret
        refine ⟨rfl, ?_⟩
        repeat (first | (with_reducible exact Below.refl _ _) | ((with_reducible refine Below.setCell ?_ ?_ _); rotate_left 1; focus (first | (simp; done) | (simp; omega) | (simp at *; omega))) | ((with_reducible refine Below.alloc ?_ ?_ _); rotate_left 1; focus (first | (simp; done) | (simp; omega) | (simp at *; omega))) | (with_reducible refine Below.drew ?_) | ((with_reducible refine Calm.step (by assumption) ?_ ?_); rotate_left 1; focus (first | (simp; done) | (simp; omega) | (simp at *; omega))))
      · have e4 : ¬ m = n := by omega
        have f4 : ((m : Int) != n) = true := by rw [bne_iff_ne]; omega
        clear h e1
        go_enter Tryd.func48, Tryd.ntmps48
        go_wp2
        go_ret
        refine ⟨rfl, ?_⟩
        repeat (first | (with_reducible exact Below.refl _ _) | ((with_reducible refine Below.setCell ?_ ?_ _); rotate_left 1; focus (first | (simp; done) | (simp; omega) | (simp at *; omega))) | ((with_reducible refine Below.alloc ?_ ?_ _); rotate_left 1; focus (first | (simp; done) | (simp; omega) | (simp at *; omega))) | (with_reducible refine Below.drew ?_) | ((with_reducible refine Calm.step (by assumption) ?_ ?_); rotate_left 1; focus (first | (simp; done) | (simp; omega) | (simp at *; omega))))

set_option maxRecDepth 100000 in
set_option maxHeartbeats 8000000 in
theorem refCheckCurve_len (A1 A2 : Option Addr) (xs ys : List Int) (c1 c2 : Nat) (w : World) (hC1 : Cells w A1 xs) (hC2 : Cells w A2 ys) (h : ¬ (xs.length % 2 = 0 ∨ xs.length < 3 ∨ 33 < xs.length ∨ ys.length ≠ xs.length)) :
    Calls Tryd.prog 48 #[.agg #[.slice A1 xs.length c1, .slice A2 ys.length c2]] w fun r w' => r = .returned (.int .i64 (curveErr xs ys)) ∧ Below w.heap.size w w' := by
  have hlen : ys.length = xs.length := Classical.byContradiction fun hh => h (.inr (.inr (.inr hh)))
  have hE : curveErr xs ys = if (∀ x ∈ xs, 1 ≤ x ∧ x ≤ 999999999) ∧ (∀ y ∈ ys, 1 ≤ y ∧ y ≤ 999999999) then 0 else 3 := if_neg h
  have g1 : 3 ≤ xs.length ∧ xs.length ≤ 33 ∧ xs.length % 2 = 1 := by omega
  clear h
  obtain ⟨b1, o1, rfl, l1, k1⟩ := hC1 (by omega)
  obtain ⟨b2, o2, rfl, l2, k2⟩ := hC2 (by omega)
  obtain ⟨R, hR⟩ : ∃ R, R = curveErr xs ys := ⟨_, rfl⟩
  rw [← hR]
  have HE := Lib.hid (hR.trans hE)
  clear hR
  clear hE hC1 hC2
  rw [hlen] at k2 ⊢
  obtain ⟨n, hn⟩ : ∃ n, n = xs.length := ⟨_, rfl⟩
  rw [← hn] at g1 k1 k2 hlen ⊢
  have HN := Lib.hid hn
  clear hn
  have HL := Lib.hid hlen
  clear hlen
  have HK1 := Lib.hid k1
  have HK2 := Lib.hid k2
  clear k1 k2
  obtain ⟨g2, g3, g4⟩ := g1
  have f1 : ((n : Int) % 2 == 0) = false := by rw [beq_eq_false_iff_ne]; omega
  go_enter Tryd.func48, Tryd.ntmps48
  go_wp2
  have k0 : Blk (w.alloc (.cells #[.slice (some ⟨b1, o1, none⟩) n c1, .slice (some ⟨b2, o2, none⟩) n c2] 85)) w.heap.size #[.slice (some ⟨b1, o1, none⟩) n c1, .slice (some ⟨b2, o2, none⟩) n c2] := Blk.at_ rfl
  have hb0 : Below w.heap.size w (w.alloc (.cells #[.slice (some ⟨b1, o1, none⟩) n c1, .slice (some ⟨b2, o2, none⟩) n c2] 85)) := (Below.refl _ _).alloc (Nat.le_refl _) _
  go_loopw [4] (fun i wr => ∃ k : Nat, k ≤ n ∧ i = (.int .i64 (k)) ∧ (∀ j, j < k → (1 ≤ xs.getD j 0 ∧ xs.getD j 0 ≤ 999999999)) ∧ Below w.heap.size w wr ∧ Blk wr w.heap.size #[.slice (some ⟨b1, o1, none⟩) n c1, .slice (some ⟨b2, o2, none⟩) n c2]) (fun i _ => n - (intOf i).toNat)
  case atStart => exact ⟨0, Nat.zero_le _, rfl, fun j hj => by omega, hb0, k0⟩
  case round =>
    clear k0 hb0
    obtain ⟨k, hk, rfl, hz, hB, hK⟩ := hrel
    have HZ := Lib.hid hz
    clear hz
    have d0 := hK.cell 0 _ rfl
    have d1 := hK.cell 1 _ rfl
    have dl := hK.lt
    by_cases hlt : k < n
    · have x1 : wr.cell? ⟨b1, o1 + k, none⟩ = some (.int .i64 (xs.getD k 0)) := (hB.cell (p := ⟨b1, o1 + k, none⟩) l1).trans (HK1.out k hlt)
      have y1 : b1 < wr.heap.size := by omega
      obtain ⟨x, hx⟩ : ∃ x, x = xs.getD k 0 := ⟨_, rfl⟩
      rw [← hx] at x1
      have HX := Lib.hid hx
      clear hx
      by_cases hok : 1 ≤ x ∧ x ≤ 999999999
      · have e0 : rangeErr x 1 999999999 = 0 := rangeErr_in hok.1 hok.2
        have HO := Lib.hid hok
        clear hok
        go_wp2_with (first | (go_at_call 40; refine (checkRange_any _ _ _ _).mono ?_; rintro r w1 ⟨rfl, rfl⟩))
        go_roundw
        case rel => exact ⟨k + 1, by omega, by go_num, fun j hj => by
          rcases Nat.lt_or_ge j k with h | h
          · exact HZ.out j h
          · obtain rfl : j = k := by omega
            rw [← HX.out]
            exact HO.out, hB, hK⟩
        case measure => simp [intOf]; omega
      · have e0 : rangeErr x 1 999999999 = 3 := rangeErr3 hok
        have HO := Lib.hid hok
        clear hok
        go_wp2_with (first | (go_at_call 40; refine (checkRange_any _ _ _ _).mono ?_; rintro r w1 ⟨rfl, rfl⟩))
        go_ret
        refine ⟨ret_i ((HE.out.trans (if_neg (fun hh => HO.out ?_))).symm), hB⟩
        rw [HX.out]; exact hh.1 _ (getD_mem (by rw [← HN.out]; exact hlt))
    · obtain rfl : k = n := by omega
      clear hlt
      go_wp2
      go_loopw [6] (fun i wr => ∃ m : Nat, m ≤ k ∧ i = (.int .i64 (m)) ∧ (∀ j, j < m → (1 ≤ ys.getD j 0 ∧ ys.getD j 0 ≤ 999999999)) ∧ Below w.heap.size w wr ∧ Blk wr w.heap.size #[.slice (some ⟨b1, o1, none⟩) k c1, .slice (some ⟨b2, o2, none⟩) k c2]) (fun i _ => k - (intOf i).toNat)
      case atStart => exact ⟨0, Nat.zero_le _, rfl, fun j hj => by omega, hB, hK⟩
      case round =>
        clear d0 d1 dl hB hK hk
        obtain ⟨m, hm, rfl, hz, hB, hK⟩ := hrel
        have HZ2 := Lib.hid hz
        clear hz
        have d0 := hK.cell 0 _ rfl
        have d1 := hK.cell 1 _ rfl
        have dl := hK.lt
        by_cases hlt : m < k
        · have x2 : wr.cell? ⟨b2, o2 + m, none⟩ = some (.int .i64 (ys.getD m 0)) := (hB.cell (p := ⟨b2, o2 + m, none⟩) l2).trans (HK2.out m hlt)
          have y2 : b2 < wr.heap.size := by omega
          obtain ⟨y, hy⟩ : ∃ y, y = ys.getD m 0 := ⟨_, rfl⟩
          rw [← hy] at x2
          have HY := Lib.hid hy
          clear hy
          by_cases hok : 1 ≤ y ∧ y ≤ 999999999
          · have e0 : rangeErr y 1 999999999 = 0 := rangeErr_in hok.1 hok.2
            have HO := Lib.hid hok
            clear hok
            go_wp2_with (first | (go_at_call 40; refine (checkRange_any _ _ _ _).mono ?_; rintro r w1 ⟨rfl, rfl⟩))
            go_roundw
            case rel => exact ⟨m + 1, by omega, by go_num, fun j hj => by
              rcases Nat.lt_or_ge j m with h | h
              · exact HZ2.out j h
              · obtain rfl : j = m := by omega
                rw [← HY.out]
                exact HO.out, hB, hK⟩
            case measure => simp [intOf]; omega
          · have e0 : rangeErr y 1 999999999 = 3 := rangeErr3 hok
            have HO := Lib.hid hok
            clear hok
            go_wp2_with (first | (go_at_call 40; refine (checkRange_any _ _ _ _).mono ?_; rintro r w1 ⟨rfl, rfl⟩))
            go_ret
            refine ⟨ret_i ((HE.out.trans (if_neg (fun hh => HO.out ?_))).symm), hB⟩
            rw [HY.out]; exact hh.2 _ (getD_mem (by rw [HL.out]; exact hlt))
        · go_wp2
          go_ret
          refine ⟨ret_i (HE.out.trans (if_pos ⟨mem_getD fun j hj => ?_, mem_getD fun j hj => ?_⟩)).symm, hB⟩
          · exact HZ.out j (by rw [← HN.out] at hj; omega)
          · exact HZ2.out j (by rw [HL.out] at hj; omega)

theorem refCheckCurve_any (A1 A2 : Option Addr) (xs ys : List Int) (c1 c2 : Nat) (w : World) (hC1 : Cells w A1 xs) (hC2 : Cells w A2 ys) (h1 : xs.length ≤ 100000) (h2 : ys.length ≤ 100000) :
    Calls Tryd.prog 48 #[.agg #[.slice A1 xs.length c1, .slice A2 ys.length c2]] w fun r w' => r = .returned (.int .i64 (curveErr xs ys)) ∧ Below w.heap.size w w' := by
  by_cases h : xs.length % 2 = 0 ∨ xs.length < 3 ∨ 33 < xs.length ∨ ys.length ≠ xs.length
  · have e : curveErr xs ys = 2 := if_pos h
    rw [e]
    exact refCheckCurve_shape A1 A2 xs ys c1 c2 w h1 h2 h
  · exact refCheckCurve_len A1 A2 xs ys c1 c2 w hC1 hC2 h
end Go.Proofs.YtpkldjlljoledaaDoor
