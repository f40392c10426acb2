/- Part 14 of the texts of the claim: Y7, Y8, QC. -/
import Derived.Test.YtdeapbihbhoefaaDoorPr13

/- Contracts of slices.Equal, Run, Levels, Peaks and CheckRun. -/
namespace Go.Proofs.YtdeapbihbhoefaaDoor
open Go.RowKit
open Calm (bcell Blk)

set_option maxRecDepth 100000 in
set_option maxHeartbeats 4000000 in
theorem equal_any (A B : Option Addr) (a b : List Int) (ca cb : Nat) (w : World) (hA : Cells w A a) (hB : Cells w B b) (h1 : a.length ≤ 100000) (h2 : b.length ≤ 100000) :
    Calls Tryd.prog 98 #[.slice A a.length ca, .slice B b.length cb] w fun x w' => x = .returned (.bool (decide (a = b))) ∧ Below w.heap.size w w' := by
  obtain ⟨E, hE⟩ : ∃ E, E = decide (a = b) := ⟨_, rfl⟩
  have HE := Lib.hid hE
  have HCA := Lib.hid hA
  have HCB := Lib.hid hB
  obtain ⟨N, hN⟩ : ∃ N, N = a.length := ⟨_, rfl⟩
  obtain ⟨M, hM⟩ : ∃ M, M = b.length := ⟨_, rfl⟩
  have HN := Lib.hid hN
  have HM := Lib.hid hM
  rw [← hE]
  rw [← hN] at h1 ⊢
  rw [← hM] at h2 ⊢
  clear hE hA hB hN hM
  by_cases hnm : N = M
  · have HNM := Lib.hid hnm
    subst hnm
    go_enter Tryd.func98, Tryd.ntmps98
    go_wp2
    go_loopw [5, 13] (fun _ i wr => ∃ k : Nat, k ≤ N ∧ i = (.int .i64 ((k : Nat))) ∧ (∀ j, j < k → a.getD j 0 = b.getD j 0) ∧ Below w.heap.size w wr) (fun _ i _ => N - (intOf i).toNat)
    case atStart => exact ⟨0, by omega, rfl, fun j hj => by omega, Below.refl _ _⟩
    case round =>
      obtain ⟨k, hk, rfl, hz, hBr⟩ := hrel
      have HZ := Lib.hid hz
      have HBR := Lib.hid hBr
      have hszr := hBr.size
      clear hz hBr
      by_cases hlt : k < N
      · have l1 : k < a.length := by rw [← HN.out]; exact hlt
        have l2 : k < b.length := by rw [← HM.out]; exact hlt
        obtain ⟨g, o, rfl, q1, k1⟩ := (HCA.out.below HBR.out) (by omega)
        obtain ⟨g', o', rfl, q2, k2⟩ := (HCB.out.below HBR.out) (by omega)
        have y1 := k1 k l1
        have y2 := k2 k l2
        obtain ⟨x, hx⟩ : ∃ x, x = a.getD k 0 := ⟨_, rfl⟩
        obtain ⟨y, hy⟩ : ∃ y, y = b.getD k 0 := ⟨_, rfl⟩
        rw [← hx] at y1
        rw [← hy] at y2
        have HX := Lib.hid hx
        have HY := Lib.hid hy
        clear k1 k2 hx hy l1 l2
        by_cases hxy : x = y
        · subst hxy
          go_wp2
          refine Calm.tail_below 8 (by kernel_rfl) (by kernel_rfl) ?_
          simp only [List.take_succ_cons, List.take_zero, List.drop_succ_cons, List.drop_zero]
          repeat (first | (apply Calm.op_move; (focus rfl); (focus (first | exact .inl rfl | exact .inr rfl)); (focus ((try simp only [Act.eval, Array.getD_eq_getD_getElem?, List.getElem?_toArray, List.getElem?_cons_succ, List.getElem?_cons_zero, Option.getD_some]); rfl)); (try simp only [Act.put, List.setIfInBounds_toArray, List.set_cons_zero, List.set_cons_succ])) | (apply Calm.op_not; (focus rfl); (try simp only [Act.put, List.setIfInBounds_toArray, List.set_cons_zero, List.set_cons_succ])) | (apply Calm.op; (focus rfl); (focus (intro W hb; obtain ⟨hc, hf⟩ := bcell hb; clear hb hf; go_simp; (try go_bits); (try rfl); done)); (try simp only [Act.put, List.setIfInBounds_toArray, List.set_cons_zero, List.set_cons_succ])))
          refine wpQuiet_nil ?_
          intro w2 hb2
          obtain ⟨hb2c, hb2f⟩ := bcell hb2
          have hb2z := hb2.size
          (try simp at hb2z)
          (try have hb2z0 : w.heap.size < w2.heap.size := by omega)
          (try have hb2z1 : w.heap.size + 1 < w2.heap.size := by omega)
          (try have hb2z2 : w.heap.size + 1 + 1 < w2.heap.size := by omega)
          (try have hb2z3 : w.heap.size + 1 + 1 + 1 < w2.heap.size := by omega)
          (try have hb2z4 : w.heap.size + 1 + 1 + 1 + 1 < w2.heap.size := by omega)
          (try have hb2z5 : w.heap.size + 1 + 1 + 1 + 1 + 1 < w2.heap.size := by omega)
          go_wp2
          go_roundw
          case rel =>
            refine ⟨k + 1, by omega, by go_num, fun j hj => ?_, HBR.out.trans (hb2.mono hszr)⟩
            rcases Nat.lt_or_ge j k with h | h
            · exact HZ.out j h
            · obtain rfl : j = k := by omega
              rw [← HX.out, ← HY.out]
          case measure => simp [intOf]; omega
        · have HEE := Lib.hid (show E = false by
            rw [HE.out]
            refine decide_eq_false (fun e => hxy ?_)
            rw [HX.out, HY.out, e])
          go_wp2
          refine Calm.tail_below 8 (by kernel_rfl) (by kernel_rfl) ?_
          simp only [List.take_succ_cons, List.take_zero, List.drop_succ_cons, List.drop_zero]
          repeat (first | (apply Calm.op_move; (focus rfl); (focus (first | exact .inl rfl | exact .inr rfl)); (focus ((try simp only [Act.eval, Array.getD_eq_getD_getElem?, List.getElem?_toArray, List.getElem?_cons_succ, List.getElem?_cons_zero, Option.getD_some]); rfl)); (try simp only [Act.put, List.setIfInBounds_toArray, List.set_cons_zero, List.set_cons_succ])) | (apply Calm.op_not; (focus rfl); (try simp only [Act.put, List.setIfInBounds_toArray, List.set_cons_zero, List.set_cons_succ])) | (apply Calm.op; (focus rfl); (focus (intro W hb; obtain ⟨hc, hf⟩ := bcell hb; clear hb hf; go_simp; (try go_bits); (try rfl); done)); (try simp only [Act.put, List.setIfInBounds_toArray, List.set_cons_zero, List.set_cons_succ])))
          refine wpQuiet_nil ?_
          intro w2 hb2
          obtain ⟨hb2c, hb2f⟩ := bcell hb2
          have hb2z := hb2.size
          (try simp at hb2z)
          (try have hb2z0 : w.heap.size < w2.heap.size := by omega)
          (try have hb2z1 : w.heap.size + 1 < w2.heap.size := by omega)
          (try have hb2z2 : w.heap.size + 1 + 1 < w2.heap.size := by omega)
          (try have hb2z3 : w.heap.size + 1 + 1 + 1 < w2.heap.size := by omega)
          (try have hb2z4 : w.heap.size + 1 + 1 + 1 + 1 < w2.heap.size := by omega)
          (try have hb2z5 : w.heap.size + 1 + 1 + 1 + 1 + 1 < w2.heap.size := by omega)
          go_wp2
          go_ret
          exact ⟨by rw [HEE.out]; rfl, HBR.out.trans (hb2.mono hszr)⟩
      · obtain rfl : k = N := by omega
        have HEE := Lib.hid (show E = true by
          rw [HE.out]
          refine decide_eq_true (List.ext_getElem? fun i => ?_)
          have hl : a.length = b.length := HN.out.symm.trans HM.out
          rcases Nat.lt_or_ge i a.length with h | h
          · have := HZ.out i (by rw [HN.out]; exact h)
            simpa [h, show i < b.length by omega] using this
          · rw [List.getElem?_eq_none h, List.getElem?_eq_none (by omega)])
        go_wp2
        go_ret
        exact ⟨by rw [HEE.out]; rfl, HBR.out⟩
  · have HEE := Lib.hid (show E = false by
      rw [HE.out]
      refine decide_eq_false (fun e => hnm ?_)
      rw [HN.out, HM.out, e])
    have hnm2 : ¬ (N : Int) = (M : Int) := by omega
    go_enter Tryd.func98, Tryd.ntmps98
    go_wp2
    go_ret
    exact ⟨by rw [HEE.out]; rfl, Below.refl _ _⟩

set_option maxHeartbeats 1000000 in
theorem Run_bad (lk ht rc : Int) (ts gs xs : List Int) (A1 A2 A3 : Option Addr) (c1 c2 c3 : Nat) (w : World) (hT : Cells w A1 ts) (hG : Cells w A2 gs) (hX : Cells w A3 xs) (h1 : ts.length ≤ 5000) (h2 : gs.length ≤ 5000) (h3 : xs.length ≤ 5000) (he : runErr lk ht rc ts gs xs ≠ 0) :
    Calls Tryd.prog 40 #[.agg #[(.int .i64 (lk)), (.int .i64 (ht)), .slice A1 ts.length c1, (.int .i64 (rc)), .slice A2 gs.length c2], .slice A3 xs.length c3] w fun r w' => r = .returned (.tuple #[.slice none 0 0, (.int .i64 (runErr lk ht rc ts gs xs))]) ∧ Below w.heap.size w w' := by
  have HCR : Hid (∀ W, Cells W A1 ts → Cells W A2 gs → Cells W A3 xs → Calls Tryd.prog 86 #[.agg #[(.int .i64 (lk)), (.int .i64 (ht)), .slice A1 ts.length c1, (.int .i64 (rc)), .slice A2 gs.length c2], .slice A3 xs.length c3] W fun r w' => r = .returned (.int .i64 (runErr lk ht rc ts gs xs)) ∧ Below W.heap.size W w') := Lib.hid (fun W q1 q2 q3 => checkRun_any lk ht rc ts gs xs A1 A2 A3 c1 c2 c3 W q1 q2 q3 h1 h2 h3)
  have HT := Lib.hid hT
  have HG := Lib.hid hG
  have HX := Lib.hid hX
  obtain ⟨E, hE⟩ : ∃ E, E = runErr lk ht rc ts gs xs := ⟨_, rfl⟩
  rw [← hE] at HCR he ⊢
  generalize xs.length = N at *
  generalize ts.length = M at *
  generalize gs.length = L at *
  clear hT hG hX hE
  go_enter Tryd.func40, Tryd.ntmps40
  go_wp2_with (go_at_call 86; refine (HCR.out _ (HT.out.below (by (repeat (first | (with_reducible exact Below.refl _ _) | ((with_reducible refine Below.setCell ?_ ?_ _); rotate_left 1; focus (first | (simp; done) | (simp; omega) | (simp at *; omega))) | ((with_reducible refine Below.alloc ?_ ?_ _); rotate_left 1; focus (first | (simp; done) | (simp; omega) | (simp at *; omega))) | (with_reducible refine Below.drew ?_) | ((with_reducible refine Calm.step (by assumption) ?_ ?_); rotate_left 1; focus (first | (simp; done) | (simp; omega) | (simp at *; omega))))))) (HG.out.below (by (repeat (first | (with_reducible exact Below.refl _ _) | ((with_reducible refine Below.setCell ?_ ?_ _); rotate_left 1; focus (first | (simp; done) | (simp; omega) | (simp at *; omega))) | ((with_reducible refine Below.alloc ?_ ?_ _); rotate_left 1; focus (first | (simp; done) | (simp; omega) | (simp at *; omega))) | (with_reducible refine Below.drew ?_) | ((with_reducible refine Calm.step (by assumption) ?_ ?_); rotate_left 1; focus (first | (simp; done) | (simp; omega) | (simp at *; omega))))))) (HX.out.below (by (repeat (first | (with_reducible exact Below.refl _ _) | ((with_reducible refine Below.setCell ?_ ?_ _); rotate_left 1; focus (first | (simp; done) | (simp; omega) | (simp at *; omega))) | ((with_reducible refine Below.alloc ?_ ?_ _); rotate_left 1; focus (first | (simp; done) | (simp; omega) | (simp at *; omega))) | (with_reducible refine Below.drew ?_) | ((with_reducible refine Calm.step (by assumption) ?_ ?_); rotate_left 1; focus (first | (simp; done) | (simp; omega) | (simp at *; omega)))))))).mono ?_; rintro r w1 ⟨rfl, hb1⟩; have HB1 := Lib.hid (show Below w.heap.size w w1 from Below.trans (by (repeat (first | (with_reducible exact Below.refl _ _) | ((with_reducible refine Below.setCell ?_ ?_ _); rotate_left 1; focus (first | (simp; done) | (simp; omega) | (simp at *; omega))) | ((with_reducible refine Below.alloc ?_ ?_ _); rotate_left 1; focus (first | (simp; done) | (simp; omega) | (simp at *; omega))) | (with_reducible refine Below.drew ?_) | ((with_reducible refine Calm.step (by assumption) ?_ ?_); rotate_left 1; focus (first | (simp; done) | (simp; omega) | (simp at *; omega)))))) (hb1.mono (by simp; try omega))); clear hb1)
  exact bodyPost_ret (v := .tuple #[.slice none 0 0, (.int .i64 (E))]) (by simp [results, Tryd.results40, go_sem]) rfl ⟨rfl, HB1.out⟩

set_option maxHeartbeats 1000000 in
theorem Levels_bad (lk ht rc : Int) (ts gs xs : List Int) (A1 A2 A3 : Option Addr) (c1 c2 c3 : Nat) (w : World) (hT : Cells w A1 ts) (hG : Cells w A2 gs) (hX : Cells w A3 xs) (h1 : ts.length ≤ 5000) (h2 : gs.length ≤ 5000) (h3 : xs.length ≤ 5000) (he : runErr lk ht rc ts gs xs ≠ 0) :
    Calls Tryd.prog 42 #[.agg #[(.int .i64 (lk)), (.int .i64 (ht)), .slice A1 ts.length c1, (.int .i64 (rc)), .slice A2 gs.length c2], .slice A3 xs.length c3] w fun r w' => r = .returned (.tuple #[.slice none 0 0, (.int .i64 (runErr lk ht rc ts gs xs))]) ∧ Below w.heap.size w w' := by
  have HCR : Hid (∀ W, Cells W A1 ts → Cells W A2 gs → Cells W A3 xs → Calls Tryd.prog 86 #[.agg #[(.int .i64 (lk)), (.int .i64 (ht)), .slice A1 ts.length c1, (.int .i64 (rc)), .slice A2 gs.length c2], .slice A3 xs.length c3] W fun r w' => r = .returned (.int .i64 (runErr lk ht rc ts gs xs)) ∧ Below W.heap.size W w') := Lib.hid (fun W q1 q2 q3 => checkRun_any lk ht rc ts gs xs A1 A2 A3 c1 c2 c3 W q1 q2 q3 h1 h2 h3)
  have HT := Lib.hid hT
  have HG := Lib.hid hG
  have HX := Lib.hid hX
  obtain ⟨E, hE⟩ : ∃ E, E = runErr lk ht rc ts gs xs := ⟨_, rfl⟩
  rw [← hE] at HCR he ⊢
  generalize xs.length = N at *
  generalize ts.length = M at *
  generalize gs.length = L at *
  clear hT hG hX hE
  go_enter Tryd.func42, Tryd.ntmps42
  go_wp2_with (go_at_call 86; refine (HCR.out _ (HT.out.below (by (repeat (first | (with_reducible exact Below.refl _ _) | ((with_reducible refine Below.setCell ?_ ?_ _); rotate_left 1; focus (first | (simp; done) | (simp; omega) | (simp at *; omega))) | ((with_reducible refine Below.alloc ?_ ?_ _); rotate_left 1; focus (first | (simp; done) | (simp; omega) | (simp at *; omega))) | (with_reducible refine Below.drew ?_) | ((with_reducible refine Calm.step (by assumption) ?_ ?_); rotate_left 1; focus (first | (simp; done) | (simp; omega) | (simp at *; omega))))))) (HG.out.below (by (repeat (first | (with_reducible exact Below.refl _ _) | ((with_reducible refine Below.setCell ?_ ?_ _); rotate_left 1; focus (first | (simp; done) | (simp; omega) | (simp at *; omega))) | ((with_reducible refine Below.alloc ?_ ?_ _); rotate_left 1; focus (first | (simp; done) | (simp; omega) | (simp at *; omega))) | (with_reducible refine Below.drew ?_) | ((with_reducible refine Calm.step (by assumption) ?_ ?_); rotate_left 1; focus (first | (simp; done) | (simp; omega) | (simp at *; omega))))))) (HX.out.below (by (repeat (first | (with_reducible exact Below.refl _ _) | ((with_reducible refine Below.setCell ?_ ?_ _); rotate_left 1; focus (first | (simp; done) | (simp; omega) | (simp at *; omega))) | ((with_reducible refine Below.alloc ?_ ?_ _); rotate_left 1; focus (first | (simp; done) | (simp; omega) | (simp at *; omega))) | (with_reducible refine Below.drew ?_) | ((with_reducible refine Calm.step (by assumption) ?_ ?_); rotate_left 1; focus (first | (simp; done) | (simp; omega) | (simp at *; omega)))))))).mono ?_; rintro r w1 ⟨rfl, hb1⟩; have HB1 := Lib.hid (show Below w.heap.size w w1 from Below.trans (by (repeat (first | (with_reducible exact Below.refl _ _) | ((with_reducible refine Below.setCell ?_ ?_ _); rotate_left 1; focus (first | (simp; done) | (simp; omega) | (simp at *; omega))) | ((with_reducible refine Below.alloc ?_ ?_ _); rotate_left 1; focus (first | (simp; done) | (simp; omega) | (simp at *; omega))) | (with_reducible refine Below.drew ?_) | ((with_reducible refine Calm.step (by assumption) ?_ ?_); rotate_left 1; focus (first | (simp; done) | (simp; omega) | (simp at *; omega)))))) (hb1.mono (by simp; try omega))); clear hb1)
  exact bodyPost_ret (v := .tuple #[.slice none 0 0, (.int .i64 (E))]) (by simp [results, Tryd.results42, go_sem]) rfl ⟨rfl, HB1.out⟩

set_option maxHeartbeats 1000000 in
theorem Peaks_bad (lk ht rc : Int) (ts gs xs : List Int) (A1 A2 A3 : Option Addr) (c1 c2 c3 : Nat) (w : World) (hT : Cells w A1 ts) (hG : Cells w A2 gs) (hX : Cells w A3 xs) (h1 : ts.length ≤ 5000) (h2 : gs.length ≤ 5000) (h3 : xs.length ≤ 5000) (he : runErr lk ht rc ts gs xs ≠ 0) :
    Calls Tryd.prog 43 #[.agg #[(.int .i64 (lk)), (.int .i64 (ht)), .slice A1 ts.length c1, (.int .i64 (rc)), .slice A2 gs.length c2], .slice A3 xs.length c3] w fun r w' => r = .returned (.tuple #[.agg #[(.int .i64 (0)), (.int .i64 (0))], (.int .i64 (runErr lk ht rc ts gs xs))]) ∧ Below w.heap.size w w' := by
  have HCR : Hid (∀ W, Cells W A1 ts → Cells W A2 gs → Cells W A3 xs → Calls Tryd.prog 86 #[.agg #[(.int .i64 (lk)), (.int .i64 (ht)), .slice A1 ts.length c1, (.int .i64 (rc)), .slice A2 gs.length c2], .slice A3 xs.length c3] W fun r w' => r = .returned (.int .i64 (runErr lk ht rc ts gs xs)) ∧ Below W.heap.size W w') := Lib.hid (fun W q1 q2 q3 => checkRun_any lk ht rc ts gs xs A1 A2 A3 c1 c2 c3 W q1 q2 q3 h1 h2 h3)
  have HT := Lib.hid hT
  have HG := Lib.hid hG
  have HX := Lib.hid hX
  obtain ⟨E, hE⟩ : ∃ E, E = runErr lk ht rc ts gs xs := ⟨_, rfl⟩
  rw [← hE] at HCR he ⊢
  generalize xs.length = N at *
  generalize ts.length = M at *
  generalize gs.length = L at *
  clear hT hG hX hE
  go_enter Tryd.func43, Tryd.ntmps43
  go_wp2_with (go_at_call 86; refine (HCR.out _ (HT.out.below (by (repeat (first | (with_reducible exact Below.refl _ _) | ((with_reducible refine Below.setCell ?_ ?_ _); rotate_left 1; focus (first | (simp; done) | (simp; omega) | (simp at *; omega))) | ((with_reducible refine Below.alloc ?_ ?_ _); rotate_left 1; focus (first | (simp; done) | (simp; omega) | (simp at *; omega))) | (with_reducible refine Below.drew ?_) | ((with_reducible refine Calm.step (by assumption) ?_ ?_); rotate_left 1; focus (first | (simp; done) | (simp; omega) | (simp at *; omega))))))) (HG.out.below (by (repeat (first | (with_reducible exact Below.refl _ _) | ((with_reducible refine Below.setCell ?_ ?_ _); rotate_left 1; focus (first | (simp; done) | (simp; omega) | (simp at *; omega))) | ((with_reducible refine Below.alloc ?_ ?_ _); rotate_left 1; focus (first | (simp; done) | (simp; omega) | (simp at *; omega))) | (with_reducible refine Below.drew ?_) | ((with_reducible refine Calm.step (by assumption) ?_ ?_); rotate_left 1; focus (first | (simp; done) | (simp; omega) | (simp at *; omega))))))) (HX.out.below (by (repeat (first | (with_reducible exact Below.refl _ _) | ((with_reducible refine Below.setCell ?_ ?_ _); rotate_left 1; focus (first | (simp; done) | (simp; omega) | (simp at *; omega))) | ((with_reducible refine Below.alloc ?_ ?_ _); rotate_left 1; focus (first | (simp; done) | (simp; omega) | (simp at *; omega))) | (with_reducible refine Below.drew ?_) | ((with_reducible refine Calm.step (by assumption) ?_ ?_); rotate_left 1; focus (first | (simp; done) | (simp; omega) | (simp at *; omega)))))))).mono ?_; rintro r w1 ⟨rfl, hb1⟩; have HB1 := Lib.hid (show Below w.heap.size w w1 from Below.trans (by (repeat (first | (with_reducible exact Below.refl _ _) | ((with_reducible refine Below.setCell ?_ ?_ _); rotate_left 1; focus (first | (simp; done) | (simp; omega) | (simp at *; omega))) | ((with_reducible refine Below.alloc ?_ ?_ _); rotate_left 1; focus (first | (simp; done) | (simp; omega) | (simp at *; omega))) | (with_reducible refine Below.drew ?_) | ((with_reducible refine Calm.step (by assumption) ?_ ?_); rotate_left 1; focus (first | (simp; done) | (simp; omega) | (simp at *; omega)))))) (hb1.mono (by simp; try omega))); have Z1 := Lib.hid (show Blk w1 (w.heap.size + 1) #[(.int .i64 (0)), (.int .i64 (0))] from Blk.below (by (repeat (first | ((with_reducible refine Blk.at_ ?_); focus (first | rfl | (simp; done) | (simp; omega))) | (with_reducible refine Blk.alloc ?_ _) | (with_reducible refine Blk.below ?_ (by with_reducible assumption)) | (with_reducible refine Blk.drew ?_)))) hb1); obtain ⟨z0, z1, zl, zf⟩ := Z1.out.o2; clear hb1)
  have K := (Z1.out.set (i := 0) (by simp) (.int .i64 (0))).set (i := 1) (by simp) (.int .i64 (0))
  obtain ⟨k0, k1, _, _⟩ := K.o2
  refine bodyPost_ret (v := .tuple #[.agg #[(.int .i64 (0)), (.int .i64 (0))], (.int .i64 (E))]) ?_ rfl ⟨rfl, ?_⟩
  · simp [results, Tryd.results43, go_sem, k0, k1]
  · exact (HB1.out.setCell (by simp <;> omega) _).setCell (by simp <;> omega) _

set_option maxHeartbeats 1000000 in
theorem levels_ok (lk ht rc : Int) (ts gs xs : List Int) (A1 A2 A3 : Option Addr) (c1 c2 c3 : Nat) (w : World) (hL : Lim w) (hV : Valid lk ht rc ts gs) (hT : Cells w A1 ts) (hG : Cells w A2 gs) (hX : Cells w A3 xs) (hx : inB 2048 xs) (h1 : ts.length ≤ 5000) (h2 : gs.length ≤ 5000) (h3 : xs.length ≤ 5000)
    (he : runErr lk ht rc ts gs xs = 0) :
    Calls Tryd.prog 42 #[.agg #[(.int .i64 (lk)), (.int .i64 (ht)), .slice A1 ts.length c1, (.int .i64 (rc)), .slice A2 gs.length c2], .slice A3 xs.length c3] w fun r w' => (∃ B d, r = .returned (.tuple #[.slice B xs.length d, (.int .i64 (0))]) ∧ Cells w' B (lvsK lk ht rc ts gs xs xs.length)) ∧ Below w.heap.size w w' := by
  have HCR : Hid (∀ W, Cells W A1 ts → Cells W A2 gs → Cells W A3 xs → Calls Tryd.prog 86 #[.agg #[(.int .i64 (lk)), (.int .i64 (ht)), .slice A1 ts.length c1, (.int .i64 (rc)), .slice A2 gs.length c2], .slice A3 xs.length c3] W fun r w' => r = .returned (.int .i64 (0)) ∧ Below W.heap.size W w') := Lib.hid (fun W q1 q2 q3 => by
    have := checkRun_any lk ht rc ts gs xs A1 A2 A3 c1 c2 c3 W q1 q2 q3 h1 h2 h3
    rwa [he] at this)
  have HR : Hid (∀ W, Lim W → Cells W A1 ts → Cells W A2 gs → Cells W A3 xs → Calls Tryd.prog 87 #[.agg #[(.int .i64 (lk)), (.int .i64 (ht)), .slice A1 ts.length c1, (.int .i64 (rc)), .slice A2 gs.length c2], .slice A3 xs.length c3] W fun r w' => (∃ B1 d1 B2 d2, r = .returned (.tuple #[.slice B1 xs.length d1, .slice B2 xs.length d2]) ∧ Cells w' B1 (outsK lk ht rc ts gs xs xs.length) ∧ Cells w' B2 (lvsK lk ht rc ts gs xs xs.length)) ∧ Below W.heap.size W w') :=
    Lib.hid (fun W q0 q1 q2 q3 => run_any lk ht rc ts gs xs A1 A2 A3 c1 c2 c3 W q0 hV q1 q2 q3 hx h3)
  have HT := Lib.hid hT
  have HG := Lib.hid hG
  have HX := Lib.hid hX
  have HL := Lib.hid hL
  generalize xs.length = N at *
  generalize ts.length = M at *
  generalize gs.length = L at *
  clear hT hG hX hL hV hx he
  go_enter Tryd.func42, Tryd.ntmps42
  go_wp2_with (first
    | (go_at_call 86; refine (HCR.out _ (HT.out.below (by (repeat (first | (with_reducible exact Below.refl _ _) | ((with_reducible refine Below.setCell ?_ ?_ _); rotate_left 1; focus (first | (simp; done) | (simp; omega) | (simp at *; omega))) | ((with_reducible refine Below.alloc ?_ ?_ _); rotate_left 1; focus (first | (simp; done) | (simp; omega) | (simp at *; omega))) | (with_reducible refine Below.drew ?_) | ((with_reducible refine Calm.step (by assumption) ?_ ?_); rotate_left 1; focus (first | (simp; done) | (simp; omega) | (simp at *; omega))))))) (HG.out.below (by (repeat (first | (with_reducible exact Below.refl _ _) | ((with_reducible refine Below.setCell ?_ ?_ _); rotate_left 1; focus (first | (simp; done) | (simp; omega) | (simp at *; omega))) | ((with_reducible refine Below.alloc ?_ ?_ _); rotate_left 1; focus (first | (simp; done) | (simp; omega) | (simp at *; omega))) | (with_reducible refine Below.drew ?_) | ((with_reducible refine Calm.step (by assumption) ?_ ?_); rotate_left 1; focus (first | (simp; done) | (simp; omega) | (simp at *; omega))))))) (HX.out.below (by (repeat (first | (with_reducible exact Below.refl _ _) | ((with_reducible refine Below.setCell ?_ ?_ _); rotate_left 1; focus (first | (simp; done) | (simp; omega) | (simp at *; omega))) | ((with_reducible refine Below.alloc ?_ ?_ _); rotate_left 1; focus (first | (simp; done) | (simp; omega) | (simp at *; omega))) | (with_reducible refine Below.drew ?_) | ((with_reducible refine Calm.step (by assumption) ?_ ?_); rotate_left 1; focus (first | (simp; done) | (simp; omega) | (simp at *; omega)))))))).mono ?_; rintro r w1 ⟨rfl, hb1⟩; have HB1 := Lib.hid (show Below w.heap.size w w1 from Below.trans (by (repeat (first | (with_reducible exact Below.refl _ _) | ((with_reducible refine Below.setCell ?_ ?_ _); rotate_left 1; focus (first | (simp; done) | (simp; omega) | (simp at *; omega))) | ((with_reducible refine Below.alloc ?_ ?_ _); rotate_left 1; focus (first | (simp; done) | (simp; omega) | (simp at *; omega))) | (with_reducible refine Below.drew ?_) | ((with_reducible refine Calm.step (by assumption) ?_ ?_); rotate_left 1; focus (first | (simp; done) | (simp; omega) | (simp at *; omega)))))) (hb1.mono (by simp))); have K0 : Blk w1 w.heap.size #[(.int .i64 (lk)), (.int .i64 (ht)), .slice A1 M c1, (.int .i64 (rc)), .slice A2 L c2] := Blk.below (by (repeat (first | ((with_reducible refine Blk.at_ ?_); focus (first | rfl | (simp; done) | (simp; omega))) | (with_reducible refine Blk.alloc ?_ _) | (with_reducible refine Blk.below ?_ (by with_reducible assumption)) | (with_reducible refine Blk.drew ?_)))) hb1; obtain ⟨c00, c01, c02, c03, c04, l0, f0⟩ := K0.o5; clear hb1 K0)
    | (go_at_call 87; refine (HR.out _ (HL.out.below HB1.out) (HT.out.below HB1.out) (HG.out.below HB1.out) (HX.out.below HB1.out)).mono ?_; rintro r w2 ⟨⟨B1, d1, B2, d2, rfl, _, hc1⟩, hb2⟩; have HC1 := Lib.hid hc1; have HB2 := Lib.hid (HB1.out.trans (hb2.mono HB1.out.size)); clear hb2 hc1))
  exact bodyPost_ret (v := .tuple #[.slice B2 N d2, (.int .i64 (0))]) (by simp [results, Tryd.results42, go_sem]) rfl (by first | exact ⟨⟨B2, d2, rfl, HC1.out⟩, HB2.out⟩ | exact ⟨⟨B2, ⟨d2, rfl⟩, HC1.out⟩, HB2.out⟩)

/-- the error of a guard, a signal and what is said to be its output. -/
def crErr (lk ht rc : Int) (ts gs xs os : List Int) : Int := firstOf [runErr lk ht rc ts gs xs, sigErr os, if os.length = xs.length then 0 else 2]

set_option maxHeartbeats 1000000 in
theorem CheckRun_bad (lk ht rc : Int) (ts gs xs os : List Int) (A1 A2 A3 A4 : Option Addr) (c1 c2 c3 c4 : Nat) (w : World) (hT : Cells w A1 ts) (hG : Cells w A2 gs) (hX : Cells w A3 xs) (hO : Cells w A4 os) (h1 : ts.length ≤ 5000) (h2 : gs.length ≤ 5000) (h3 : xs.length ≤ 5000) (h4 : os.length ≤ 5000) (he : crErr lk ht rc ts gs xs os ≠ 0) :
    Calls Tryd.prog 65 #[.agg #[(.int .i64 (lk)), (.int .i64 (ht)), .slice A1 ts.length c1, (.int .i64 (rc)), .slice A2 gs.length c2], .slice A3 xs.length c3, .slice A4 os.length c4] w fun r w' => r = .returned (.int .i64 (crErr lk ht rc ts gs xs os)) ∧ Below w.heap.size w w' := by
  have HCR : Hid (∀ W, Cells W A1 ts → Cells W A2 gs → Cells W A3 xs → Calls Tryd.prog 86 #[.agg #[(.int .i64 (lk)), (.int .i64 (ht)), .slice A1 ts.length c1, (.int .i64 (rc)), .slice A2 gs.length c2], .slice A3 xs.length c3] W fun r w' => r = .returned (.int .i64 (runErr lk ht rc ts gs xs)) ∧ Below W.heap.size W w') := Lib.hid (fun W q1 q2 q3 => checkRun_any lk ht rc ts gs xs A1 A2 A3 c1 c2 c3 W q1 q2 q3 h1 h2 h3)
  have HCS : Hid (∀ W, Cells W A4 os → Calls Tryd.prog 95 #[.slice A4 os.length c4] W fun r w' => r = .returned (.int .i64 (sigErr os)) ∧ Below W.heap.size W w') := Lib.hid (fun W q => checkSignal_any os A4 c4 W q h4)
  have HWH : Hid (∀ W : World, Calls Tryd.prog 74 #[.bool (!decide ((os.length : Int) = (xs.length : Int))), (.int .i64 (2))] W fun r w' => r = .returned (.int .i64 (if os.length = xs.length then 0 else 2)) ∧ W = w') := Lib.hid (fun W => by
    refine (when_any _ _ _).mono ?_
    rintro r w' ⟨rfl, rfl⟩
    refine ⟨ret_i ?_, rfl⟩
    by_cases h : os.length = xs.length
    · rw [if_pos h, decide_eq_true (by omega)]; rfl
    · rw [if_neg h, decide_eq_false (by omega)]; rfl)
  have HFI : Hid (∀ W : World, Calls Tryd.prog 70 #[.slice (some ⟨W.heap.size, 0, none⟩) 3 3] (W.alloc (.cells #[(.int .i64 (runErr lk ht rc ts gs xs)), (.int .i64 (sigErr os)), (.int .i64 (if os.length = xs.length then 0 else 2))] 31)) fun r w' => r = .returned (.int .i64 (crErr lk ht rc ts gs xs os)) ∧ (W.alloc (.cells #[(.int .i64 (runErr lk ht rc ts gs xs)), (.int .i64 (sigErr os)), (.int .i64 (if os.length = xs.length then 0 else 2))] 31)) = w') := Lib.hid (fun W => by unfold crErr; exact first_cells [_, _, _] W (by simp))
  have HT := Lib.hid hT
  have HG := Lib.hid hG
  have HX := Lib.hid hX
  have HO := Lib.hid hO
  obtain ⟨E, hE⟩ : ∃ E, E = crErr lk ht rc ts gs xs os := ⟨_, rfl⟩
  obtain ⟨E1, hE1⟩ : ∃ E, E = runErr lk ht rc ts gs xs := ⟨_, rfl⟩
  obtain ⟨E2, hE2⟩ : ∃ E, E = sigErr os := ⟨_, rfl⟩
  obtain ⟨E3, hE3⟩ : ∃ E : Int, E = (if os.length = xs.length then 0 else 2) := ⟨_, rfl⟩
  rw [← hE] at HFI he ⊢
  rw [← hE1] at HFI HCR
  rw [← hE2] at HFI HCS
  rw [← hE3] at HFI HWH
  generalize xs.length = N at *
  generalize ts.length = M at *
  generalize gs.length = L at *
  generalize os.length = P at *
  clear hT hG hX hO hE hE1 hE2 hE3
  go_enter Tryd.func65, Tryd.ntmps65
  go_wp2_with (first
    | (go_at_call 86; refine (HCR.out _ (HT.out.below (by (repeat (first | (with_reducible exact Below.refl _ _) | ((with_reducible refine Below.setCell ?_ ?_ _); rotate_left 1; focus (first | (simp; done) | (simp; omega) | (simp at *; omega))) | ((with_reducible refine Below.alloc ?_ ?_ _); rotate_left 1; focus (first | (simp; done) | (simp; omega) | (simp at *; omega))) | (with_reducible refine Below.drew ?_) | ((with_reducible refine Calm.step (by assumption) ?_ ?_); rotate_left 1; focus (first | (simp; done) | (simp; omega) | (simp at *; omega))))))) (HG.out.below (by (repeat (first | (with_reducible exact Below.refl _ _) | ((with_reducible refine Below.setCell ?_ ?_ _); rotate_left 1; focus (first | (simp; done) | (simp; omega) | (simp at *; omega))) | ((with_reducible refine Below.alloc ?_ ?_ _); rotate_left 1; focus (first | (simp; done) | (simp; omega) | (simp at *; omega))) | (with_reducible refine Below.drew ?_) | ((with_reducible refine Calm.step (by assumption) ?_ ?_); rotate_left 1; focus (first | (simp; done) | (simp; omega) | (simp at *; omega))))))) (HX.out.below (by (repeat (first | (with_reducible exact Below.refl _ _) | ((with_reducible refine Below.setCell ?_ ?_ _); rotate_left 1; focus (first | (simp; done) | (simp; omega) | (simp at *; omega))) | ((with_reducible refine Below.alloc ?_ ?_ _); rotate_left 1; focus (first | (simp; done) | (simp; omega) | (simp at *; omega))) | (with_reducible refine Below.drew ?_) | ((with_reducible refine Calm.step (by assumption) ?_ ?_); rotate_left 1; focus (first | (simp; done) | (simp; omega) | (simp at *; omega)))))))).mono ?_; rintro r w1 ⟨rfl, hb1⟩; have HB1 := Lib.hid (show Below w.heap.size w w1 from Below.trans (by (repeat (first | (with_reducible exact Below.refl _ _) | ((with_reducible refine Below.setCell ?_ ?_ _); rotate_left 1; focus (first | (simp; done) | (simp; omega) | (simp at *; omega))) | ((with_reducible refine Below.alloc ?_ ?_ _); rotate_left 1; focus (first | (simp; done) | (simp; omega) | (simp at *; omega))) | (with_reducible refine Below.drew ?_) | ((with_reducible refine Calm.step (by assumption) ?_ ?_); rotate_left 1; focus (first | (simp; done) | (simp; omega) | (simp at *; omega)))))) (hb1.mono (by simp; try omega))); clear hb1)
    | (go_at_call 95; refine (HCS.out _ (HO.out.below HB1.out)).mono ?_; rintro r w2 ⟨rfl, hb2⟩; have HB2 := Lib.hid (HB1.out.trans (hb2.mono HB1.out.size)); clear hb2)
    | (go_at_call 74; refine (HWH.out _).mono ?_; rintro r w3 ⟨rfl, rfl⟩)
    | (go_at_call 70; refine (HFI.out _).mono ?_; rintro r w4 ⟨rfl, rfl⟩))
  go_ret
  exact ⟨rfl, HB2.out.alloc HB2.out.size _⟩
end Go.Proofs.YtdeapbihbhoefaaDoor

/- Contracts of CheckRun (with a right length), steady, Steady. -/
namespace Go.Proofs.YtdeapbihbhoefaaDoor
open Go.RowKit
open Calm (bcell Blk)

theorem sigErr_in {xs : List Int} (e : sigErr xs = 0) : inB 2048 xs := by
  have h := firstOf_eq_zero.1 e
  exact eachErr_zero.1 (h (eachErr xs (-2048) 2048) (by simp))
theorem crErr_zero {lk ht rc : Int} {ts gs xs os : List Int} (e : crErr lk ht rc ts gs xs os = 0) : runErr lk ht rc ts gs xs = 0 ∧ sigErr os = 0 ∧ os.length = xs.length := by
  have h := firstOf_eq_zero.1 e
  refine ⟨h _ (by simp), h (sigErr os) (by simp), ?_⟩
  have := h (if os.length = xs.length then 0 else 2) (by simp)
  split at this
  · assumption
  · simp at this
theorem runErr_zero {lk ht rc : Int} {ts gs xs : List Int} (e : runErr lk ht rc ts gs xs = 0) : guardErr lk ht rc ts gs = 0 ∧ sigErr xs = 0 := by
  have h := firstOf_eq_zero.1 e
  exact ⟨h _ (by simp), h (sigErr xs) (by simp)⟩

set_option maxHeartbeats 1000000 in
theorem CheckRun_ok (lk ht rc : Int) (ts gs xs os : List Int) (A1 A2 A3 A4 : Option Addr) (c1 c2 c3 c4 : Nat) (w : World) (hLim : Lim w) (hT : Cells w A1 ts) (hG : Cells w A2 gs) (hX : Cells w A3 xs) (hO : Cells w A4 os) (h1 : ts.length ≤ 5000) (h2 : gs.length ≤ 5000) (h3 : xs.length ≤ 5000) (h4 : os.length ≤ 5000) (he : crErr lk ht rc ts gs xs os = 0) :
    Calls Tryd.prog 65 #[.agg #[(.int .i64 (lk)), (.int .i64 (ht)), .slice A1 ts.length c1, (.int .i64 (rc)), .slice A2 gs.length c2], .slice A3 xs.length c3, .slice A4 os.length c4] w fun r w' => r = .returned (.int .i64 (if outsK lk ht rc ts gs xs xs.length = os then 0 else 22)) ∧ Below w.heap.size w w' := by
  obtain ⟨e1, e2, e3⟩ := crErr_zero he
  obtain ⟨e4, e5⟩ := runErr_zero e1
  have hV := guard_valid e4
  have HCR : Hid (∀ W, Cells W A1 ts → Cells W A2 gs → Cells W A3 xs → Calls Tryd.prog 86 #[.agg #[(.int .i64 (lk)), (.int .i64 (ht)), .slice A1 ts.length c1, (.int .i64 (rc)), .slice A2 gs.length c2], .slice A3 xs.length c3] W fun r w' => r = .returned (.int .i64 (0)) ∧ Below W.heap.size W w') := Lib.hid (fun W q1 q2 q3 => by
    have := checkRun_any lk ht rc ts gs xs A1 A2 A3 c1 c2 c3 W q1 q2 q3 h1 h2 h3
    rwa [e1] at this)
  have HCS : Hid (∀ W, Cells W A4 os → Calls Tryd.prog 95 #[.slice A4 xs.length c4] W fun r w' => r = .returned (.int .i64 (0)) ∧ Below W.heap.size W w') := Lib.hid (fun W q => by
    have := checkSignal_any os A4 c4 W q h4
    rwa [e2, e3] at this)
  have HFI : Hid (∀ W : World, Calls Tryd.prog 70 #[.slice (some ⟨W.heap.size, 0, none⟩) 3 3] (W.alloc (.cells #[(.int .i64 (0)), (.int .i64 (0)), (.int .i64 (0))] 31)) fun r w' => r = .returned (.int .i64 (0)) ∧ (W.alloc (.cells #[(.int .i64 (0)), (.int .i64 (0)), (.int .i64 (0))] 31)) = w') := Lib.hid (fun W => first_cells [0, 0, 0] W (by simp))
  have HR : Hid (∀ W, Lim W → Cells W A1 ts → Cells W A2 gs → Cells W A3 xs → Calls Tryd.prog 87 #[.agg #[(.int .i64 (lk)), (.int .i64 (ht)), .slice A1 ts.length c1, (.int .i64 (rc)), .slice A2 gs.length c2], .slice A3 xs.length c3] W fun r w' => (∃ B1 d1 B2 d2, r = .returned (.tuple #[.slice B1 xs.length d1, .slice B2 xs.length d2]) ∧ Cells w' B1 (outsK lk ht rc ts gs xs xs.length) ∧ Cells w' B2 (lvsK lk ht rc ts gs xs xs.length)) ∧ Below W.heap.size W w') :=
    Lib.hid (fun W q0 q1 q2 q3 => run_any lk ht rc ts gs xs A1 A2 A3 c1 c2 c3 W q0 hV q1 q2 q3 (sigErr_in e5) h3)
  have hol := outsK_len lk ht rc ts gs xs xs.length
  obtain ⟨E, hE⟩ : ∃ E, E = decide (outsK lk ht rc ts gs xs xs.length = os) := ⟨_, rfl⟩
  have HEQ : Hid (∀ W B d, Cells W B (outsK lk ht rc ts gs xs xs.length) → Cells W A4 os → Calls Tryd.prog 98 #[.slice B xs.length d, .slice A4 xs.length c4] W fun r w' => r = .returned (.bool E) ∧ Below W.heap.size W w') := Lib.hid (fun W B d q1 q2 => by
    have := equal_any B A4 _ os d c4 W q1 q2 (by omega) (by omega)
    rwa [hol, e3, ← hE] at this)
  have HRES : Hid ((if outsK lk ht rc ts gs xs xs.length = os then (0 : Int) else 22) = if !E then 22 else 0) := Lib.hid (by
    rw [hE]
    by_cases h : outsK lk ht rc ts gs xs xs.length = os
    · rw [if_pos h, decide_eq_true h]; rfl
    · rw [if_neg h, decide_eq_false h]; rfl)
  have HT := Lib.hid hT
  have HG := Lib.hid hG
  have HX := Lib.hid hX
  have HO := Lib.hid hO
  have HL := Lib.hid hLim
  obtain ⟨R, hR⟩ : ∃ R : Int, R = (if outsK lk ht rc ts gs xs xs.length = os then 0 else 22) := ⟨_, rfl⟩
  rw [← hR] at HRES ⊢
  obtain ⟨OS, hOS⟩ : ∃ OS, OS = outsK lk ht rc ts gs xs xs.length := ⟨_, rfl⟩
  obtain ⟨LS, hLS⟩ : ∃ LS, LS = lvsK lk ht rc ts gs xs xs.length := ⟨_, rfl⟩
  rw [← hOS] at HR HEQ
  rw [← hLS] at HR
  rw [e3]
  generalize xs.length = N at *
  generalize ts.length = M at *
  generalize gs.length = L at *
  clear hT hG hX hO hE he e1 e2 e3 e4 e5 hV hol hOS hLS hR hLim h4
  cases E
  all_goals (
    go_enter Tryd.func65, Tryd.ntmps65
    go_wp2_with (first
      | (go_at_call 86; refine (HCR.out _ (HT.out.below (by (repeat (first | (with_reducible exact Below.refl _ _) | ((with_reducible refine Below.setCell ?_ ?_ _); rotate_left 1; focus (first | (simp; done) | (simp; omega) | (simp at *; omega))) | ((with_reducible refine Below.alloc ?_ ?_ _); rotate_left 1; focus (first | (simp; done) | (simp; omega) | (simp at *; omega))) | (with_reducible refine Below.drew ?_) | ((with_reducible refine Calm.step (by assumption) ?_ ?_); rotate_left 1; focus (first | (simp; done) | (simp; omega) | (simp at *; omega))))))) (HG.out.below (by (repeat (first | (with_reducible exact Below.refl _ _) | ((with_reducible refine Below.setCell ?_ ?_ _); rotate_left 1; focus (first | (simp; done) | (simp; omega) | (simp at *; omega))) | ((with_reducible refine Below.alloc ?_ ?_ _); rotate_left 1; focus (first | (simp; done) | (simp; omega) | (simp at *; omega))) | (with_reducible refine Below.drew ?_) | ((with_reducible refine Calm.step (by assumption) ?_ ?_); rotate_left 1; focus (first | (simp; done) | (simp; omega) | (simp at *; omega))))))) (HX.out.below (by (repeat (first | (with_reducible exact Below.refl _ _) | ((with_reducible refine Below.setCell ?_ ?_ _); rotate_left 1; focus (first | (simp; done) | (simp; omega) | (simp at *; omega))) | ((with_reducible refine Below.alloc ?_ ?_ _); rotate_left 1; focus (first | (simp; done) | (simp; omega) | (simp at *; omega))) | (with_reducible refine Below.drew ?_) | ((with_reducible refine Calm.step (by assumption) ?_ ?_); rotate_left 1; focus (first | (simp; done) | (simp; omega) | (simp at *; omega)))))))).mono ?_; rintro r w1 ⟨rfl, hb1⟩; have HB1 := Lib.hid (show Below w.heap.size w w1 from Below.trans (by (repeat (first | (with_reducible exact Below.refl _ _) | ((with_reducible refine Below.setCell ?_ ?_ _); rotate_left 1; focus (first | (simp; done) | (simp; omega) | (simp at *; omega))) | ((with_reducible refine Below.alloc ?_ ?_ _); rotate_left 1; focus (first | (simp; done) | (simp; omega) | (simp at *; omega))) | (with_reducible refine Below.drew ?_) | ((with_reducible refine Calm.step (by assumption) ?_ ?_); rotate_left 1; focus (first | (simp; done) | (simp; omega) | (simp at *; omega)))))) (hb1.mono (by simp; try omega))); have K0 : Blk w1 w.heap.size #[(.int .i64 (lk)), (.int .i64 (ht)), .slice A1 M c1, (.int .i64 (rc)), .slice A2 L c2] := Blk.below (by (repeat (first | ((with_reducible refine Blk.at_ ?_); focus (first | rfl | (simp; done) | (simp; omega))) | (with_reducible refine Blk.alloc ?_ _) | (with_reducible refine Blk.below ?_ (by with_reducible assumption)) | (with_reducible refine Blk.drew ?_)))) hb1; have HK0 := Lib.hid K0; clear hb1 K0)
      | (go_at_call 95; refine (HCS.out _ (HO.out.below HB1.out)).mono ?_; rintro r w2 ⟨rfl, hb2⟩; have HB2 := Lib.hid (HB1.out.trans (hb2.mono HB1.out.size)); have HK2 := Lib.hid (HK0.out.below hb2); clear hb2)
      | (go_at_call 74; refine (when_any _ _ _).mono ?_; rintro r w3 ⟨rfl, rfl⟩)
      | (go_at_call 70; refine (HFI.out _).mono ?_; rintro r w4 ⟨rfl, rfl⟩; have HB4 := Lib.hid (HB2.out.alloc HB2.out.size (.cells #[(.int .i64 (0)), (.int .i64 (0)), (.int .i64 (0))] 31)); have HK4 := Lib.hid (HK2.out.alloc (.cells #[(.int .i64 (0)), (.int .i64 (0)), (.int .i64 (0))] 31)); obtain ⟨g0, g1, g2, g3, g4, gl, gf⟩ := HK4.out.o5)
      | (go_at_call 87; refine (HR.out _ (HL.out.below HB4.out) (HT.out.below HB4.out) (HG.out.below HB4.out) (HX.out.below HB4.out)).mono ?_; rintro r w5 ⟨⟨B1, d1, B2, d2, rfl, hc5, _⟩, hb5⟩; have HB5 := Lib.hid (HB4.out.trans (hb5.mono HB4.out.size)); have HC5 := Lib.hid hc5; clear hb5 hc5 g0 g1 g2 g3 g4 gl gf)
      | (go_at_call 98; refine (HEQ.out _ _ _ HC5.out (HO.out.below HB5.out)).mono ?_; rintro r w6 ⟨rfl, hb6⟩; have HB6 := Lib.hid (HB5.out.trans (hb6.mono HB5.out.size)); clear hb6))
    go_ret
    exact ⟨ret_i (by simpa using HRES.out.symm), HB6.out⟩)
theorem shiftR_le (lk : Int) {h : Int} (h0 : 0 ≤ h) : 0 ≤ h / 2 ^ lk.toNat ∧ h / 2 ^ lk.toNat ≤ h := shr_bd lk h0
/-- the greatest output whose square is not above hs: from y on, in n steps. -/
def stdG (hs : Int) : Nat → Nat → Nat
  | y, 0 => y
  | y, n + 1 => if ((y : Int) + 1) * ((y : Int) + 1) ≤ hs then stdG hs (y + 1) n else y
def stdF (lk ht : Int) : Nat := stdG (ht / 2 ^ lk.toNat) 0 2048

set_option maxRecDepth 100000 in
set_option maxHeartbeats 1000000 in
theorem steady_any (lk ht rc : Int) (A1 A2 : Option Addr) (M L c1 c2 : Nat) (w : World) (hl : 1 ≤ lk ∧ lk ≤ 8) (hh : 0 ≤ ht ∧ ht ≤ 536870912) :
    Calls Tryd.prog 90 #[.agg #[(.int .i64 (lk)), (.int .i64 (ht)), .slice A1 M c1, (.int .i64 (rc)), .slice A2 L c2]] w fun r w' => r = .returned (.int .i64 ((stdF lk ht : Int))) ∧ Below w.heap.size w w' := by
  obtain ⟨h1, h2⟩ := hl
  obtain ⟨h3, h4⟩ := hh
  obtain ⟨h5, h6⟩ := shr_bd lk h3
  obtain ⟨hs, hhs⟩ : ∃ hs, hs = ht / 2 ^ lk.toNat := ⟨_, rfl⟩
  have HF : Hid (stdF lk ht = stdG hs 0 2048) := Lib.hid (by rw [hhs]; rfl)
  have HHS := Lib.hid hhs
  obtain ⟨R, hR⟩ : ∃ R, R = stdF lk ht := ⟨_, rfl⟩
  rw [← hR] at HF ⊢
  clear hhs hR
  go_enter Tryd.func90, Tryd.ntmps90
  go_wp2
  go_loopw [3] (fun i wr => ∃ k : Nat, k ≤ 2048 ∧ i = (.int .i64 ((k : Int))) ∧ R = stdG hs k (2048 - k) ∧ Blk wr w.heap.size #[(.int .i64 (lk)), (.int .i64 (ht)), .slice A1 M c1, (.int .i64 (rc)), .slice A2 L c2] ∧ Below w.heap.size w wr) (fun i _ => 2048 - (intOf i).toNat)
  case atStart => exact ⟨0, by omega, rfl, HF.out, by (repeat (first | ((with_reducible refine Blk.at_ ?_); focus (first | rfl | (simp; done) | (simp; omega))) | (with_reducible refine Blk.alloc ?_ _) | (with_reducible refine Blk.below ?_ (by with_reducible assumption)) | (with_reducible refine Blk.drew ?_))), by (repeat (first | (with_reducible exact Below.refl _ _) | ((with_reducible refine Below.setCell ?_ ?_ _); rotate_left 1; focus (first | (simp; done) | (simp; omega) | (simp at *; omega))) | ((with_reducible refine Below.alloc ?_ ?_ _); rotate_left 1; focus (first | (simp; done) | (simp; omega) | (simp at *; omega))) | (with_reducible refine Below.drew ?_) | ((with_reducible refine Calm.step (by assumption) ?_ ?_); rotate_left 1; focus (first | (simp; done) | (simp; omega) | (simp at *; omega)))))⟩
  case round =>
    obtain ⟨k, hk, rfl, hRk, K0, hB⟩ := hrel
    have HR := Lib.hid hRk
    have HB := Lib.hid hB
    have HK := Lib.hid K0
    obtain ⟨g0, g1, g2, g3, g4, gl, gf⟩ := K0.o5
    clear hRk hB K0 HF
    by_cases hlt : k < 2048
    · have m1 : ((k : Int) + 1) * ((k : Int) + 1) ≤ 4194304 := by
        have := mul_bd (a := (k : Int) + 1) (b := (k : Int) + 1) (A := 2048) (B := 2048) (by omega) (by omega)
        omega
      have m2 : 0 ≤ ((k : Int) + 1) * ((k : Int) + 1) := Int.mul_nonneg (by omega) (by omega)
      obtain ⟨q, hq⟩ : ∃ q, q = ((k : Int) + 1) * ((k : Int) + 1) := ⟨_, rfl⟩
      rw [← hq] at m1 m2
      by_cases hc : ((k : Int) + 1) * ((k : Int) + 1) ≤ hs
      · have hc2 : q ≤ ht / 2 ^ lk.toNat := by rw [← HHS.out, hq]; exact hc
        have HC := Lib.hid hc
        have hq' := hq.symm
        clear hc hq
        go_wp2
        go_roundw
        case rel =>
          refine ⟨k + 1, by omega, by go_num, ?_, HK.out, HB.out⟩
          rw [HR.out, show 2048 - k = (2048 - (k + 1)) + 1 by omega]
          exact if_pos HC.out
        case measure => simp [intOf]; omega
      · have hc2 : ¬ q ≤ ht / 2 ^ lk.toNat := by rw [← HHS.out, hq]; exact hc
        have hRK : R = k := by
          rw [HR.out, show 2048 - k = (2048 - (k + 1)) + 1 by omega]
          exact if_neg hc
        have HRK := Lib.hid hRK
        have hq' := hq.symm
        clear hc hq hRK
        go_wp2
        go_ret
        exact ⟨ret_i (by rw [HRK.out]), HB.out⟩
    · obtain rfl : k = 2048 := by omega
      have hRK : R = 2048 := HR.out
      subst hRK
      go_wp2
      go_ret
      exact ⟨rfl, HB.out⟩
end Go.Proofs.YtdeapbihbhoefaaDoor

/- Plain laws: a heat that cools. -/
namespace Go.Proofs.YtdeapbihbhoefaaDoor
open Go.RowKit

/-- a heat behind k steps without outputs. -/
def coolK (lk h : Int) : Nat → Int
  | 0 => h
  | k + 1 => coolF lk (coolK lk h k)
theorem coolK_bd (lk : Int) {h : Int} (h0 : 0 ≤ h) : ∀ k, 0 ≤ coolK lk h k ∧ coolK lk h k ≤ h
  | 0 => ⟨h0, Int.le_refl _⟩
  | k + 1 => by
    have h1 := coolK_bd lk h0 k
    have h2 := coolF_bd lk h1.1
    simp only [coolK]
    omega
/-- the answer of Cool, in so many steps, from a heat and a number on. -/
def coolG (lk to : Int) : Nat → Int → Nat → Int × Int
  | 0, _, _ => (0, 24)
  | f + 1, h, n => if h ≤ to then ((n : Int), 0) else if coolF lk h = h then (0, 24) else coolG lk to f (coolF lk h) (n + 1)
def coolR (lk h to : Int) : Int × Int := coolG lk to (h.toNat + 1) h 0
theorem coolG_step {lk to : Int} {f n : Nat} {h : Int} (h1 : to < h) (h2 : coolF lk h ≠ h) : coolG lk to (f + 1) h n = coolG lk to f (coolF lk h) (n + 1) := by
  show (if h ≤ to then ((n : Int), (0 : Int)) else if coolF lk h = h then (0, 24) else coolG lk to f (coolF lk h) (n + 1)) = _
  rw [if_neg (by omega), if_neg h2]
theorem coolG_done {lk to : Int} {f n : Nat} {h : Int} (h1 : h ≤ to) : coolG lk to (f + 1) h n = ((n : Int), 0) := if_pos h1
theorem coolG_stuck {lk to : Int} {f n : Nat} {h : Int} (h1 : to < h) (h2 : coolF lk h = h) : coolG lk to (f + 1) h n = (0, 24) := by
  show (if h ≤ to then ((n : Int), (0 : Int)) else if coolF lk h = h then (0, 24) else coolG lk to f (coolF lk h) (n + 1)) = _
  rw [if_neg (by omega), if_pos h2]
theorem coolK_fall {lk h to : Int} (h0 : 0 ≤ h) : ∀ k, (∀ j, j < k → to < coolK lk h j ∧ coolK lk h (j + 1) ≠ coolK lk h j) → coolK lk h k + k ≤ h
  | 0, _ => by simp [coolK]
  | k + 1, hk => by
    have ih := coolK_fall h0 k (fun j hj => hk j (by omega))
    have h1 := (hk k (by omega)).2
    have h2 := coolF_bd lk (coolK_bd lk h0 k).1
    simp only [coolK] at h1 ⊢
    omega
theorem coolR_steps {lk h to : Int} (h0 : 0 ≤ h) : ∀ k, (∀ j, j < k → to < coolK lk h j ∧ coolK lk h (j + 1) ≠ coolK lk h j) → ∃ f, coolR lk h to = coolG lk to (f + 1) (coolK lk h k) k ∧ h.toNat = f + k
  | 0, _ => ⟨h.toNat, rfl, rfl⟩
  | k + 1, hk => by
    obtain ⟨f, h1, h2⟩ := coolR_steps h0 k (fun j hj => hk j (by omega))
    have h3 := coolK_fall h0 (k + 1) hk
    have h4 := (coolK_bd lk h0 (k + 1)).1
    obtain ⟨f, rfl⟩ : ∃ g, f = g + 1 := ⟨f - 1, by omega⟩
    refine ⟨f, ?_, by omega⟩
    rw [h1, coolG_step (hk k (by omega)).1 (hk k (by omega)).2]
    rfl
theorem coolR_done {lk h to : Int} (h0 : 0 ≤ h) {k : Nat} (hk : ∀ j, j < k → to < coolK lk h j ∧ coolK lk h (j + 1) ≠ coolK lk h j) (h1 : coolK lk h k ≤ to) : coolR lk h to = ((k : Int), 0) := by
  obtain ⟨f, e, _⟩ := coolR_steps h0 k hk
  rw [e, coolG_done h1]
theorem coolR_stuck {lk h to : Int} (h0 : 0 ≤ h) {k : Nat} (hk : ∀ j, j < k → to < coolK lk h j ∧ coolK lk h (j + 1) ≠ coolK lk h j) (h1 : to < coolK lk h k) (h2 : coolK lk h (k + 1) = coolK lk h k) : coolR lk h to = (0, 24) := by
  obtain ⟨f, e, _⟩ := coolR_steps h0 k hk
  rw [e, coolG_stuck h1 h2]
theorem coolR_spec {lk h to : Int} (h0 : 0 ≤ h) (hto : 0 ≤ to) : (∃ n : Nat, coolR lk h to = ((n : Int), 0) ∧ coolK lk h n ≤ to ∧ ∀ j, j < n → to < coolK lk h j ∧ coolK lk h (j + 1) ≠ coolK lk h j) ∨ (coolR lk h to = (0, 24) ∧ ∃ n, to < coolK lk h n ∧ coolK lk h (n + 1) = coolK lk h n) := by
  have key : ∀ m k : Nat, (∀ j, j < k → to < coolK lk h j ∧ coolK lk h (j + 1) ≠ coolK lk h j) → (coolK lk h k).toNat ≤ m → (∃ n : Nat, coolR lk h to = ((n : Int), 0) ∧ coolK lk h n ≤ to ∧ ∀ j, j < n → to < coolK lk h j ∧ coolK lk h (j + 1) ≠ coolK lk h j) ∨ (coolR lk h to = (0, 24) ∧ ∃ n, to < coolK lk h n ∧ coolK lk h (n + 1) = coolK lk h n) := by
    intro m
    induction m with
    | zero =>
      intro k hk hm
      have := (coolK_bd lk h0 k).1
      exact .inl ⟨k, coolR_done h0 hk (by omega), by omega, hk⟩
    | succ m ih =>
      intro k hk hm
      rcases Int.lt_or_le to (coolK lk h k) with h1 | h1
      · by_cases h2 : coolK lk h (k + 1) = coolK lk h k
        · exact .inr ⟨coolR_stuck h0 hk h1 h2, k, h1, h2⟩
        · refine ih (k + 1) (fun j hj => ?_) ?_
          · rcases Nat.lt_or_ge j k with h3 | h3
            · exact hk j h3
            · obtain rfl : j = k := by omega
              exact ⟨h1, h2⟩
          · have h4 := coolF_bd lk (coolK_bd lk h0 k).1
            simp only [coolK] at h2 ⊢
            omega
      · exact .inl ⟨k, coolR_done h0 hk h1, h1, hk⟩
  exact key _ 0 (fun j hj => by omega) (Nat.le_refl _)
theorem cool_fix {lk h : Int} (h0 : 0 ≤ h) (e : coolF lk h = h) : h < 2 ^ lk.toNat := by
  unfold coolF at e
  have h1 : h / 2 ^ lk.toNat = 0 := by omega
  rcases Int.lt_or_le h (2 ^ lk.toNat) with h2 | h2
  · exact h2
  · have hp : (0 : Int) < 2 ^ lk.toNat := Int.pow_pos (by decide)
    have := Int.ediv_le_ediv hp h2
    rw [Int.ediv_self (by omega)] at this
    omega
theorem cool_mono (lk : Int) {a b : Int} (h : a ≤ b) : coolF lk a ≤ coolF lk b := by
  unfold coolF
  have hp : (0 : Int) < 2 ^ lk.toNat := Int.pow_pos (by decide)
  obtain ⟨d, rfl⟩ : ∃ d, b = a + d := ⟨b - a, by omega⟩
  have hd : 0 ≤ d := by omega
  have h1 : (a + d) / 2 ^ lk.toNat ≤ a / 2 ^ lk.toNat + d := by
    have h2 : a + d ≤ a + 2 ^ lk.toNat * d := by
      have : d * 1 ≤ d * 2 ^ lk.toNat := Int.mul_le_mul_of_nonneg_left (by omega) hd
      rw [Int.mul_comm (2 ^ lk.toNat) d]
      omega
    have h3 := Int.ediv_le_ediv hp h2
    rw [Int.add_mul_ediv_left _ _ (by omega)] at h3
    exact h3
  omega
theorem pow_bd {lk : Int} (h : 1 ≤ lk ∧ lk ≤ 8) : (2 : Int) ≤ 2 ^ lk.toNat ∧ (2 : Int) ^ lk.toNat ≤ 256 := by
  have : lk.toNat = 1 ∨ lk.toNat = 2 ∨ lk.toNat = 3 ∨ lk.toNat = 4 ∨ lk.toNat = 5 ∨ lk.toNat = 6 ∨ lk.toNat = 7 ∨ lk.toNat = 8 := by omega
  rcases this with e | e | e | e | e | e | e | e <;> rw [e] <;> decide
/-- in a third, a heat cools in at most 1024 steps. -/
theorem cool_third {lk h : Int} {n : Nat} (hl : 1 ≤ lk ∧ lk ≤ 8) (h0 : 0 ≤ h) (hn : coolK lk h n ≤ h / 3) (hj : ∀ j, j < n → h / 3 < coolK lk h j ∧ coolK lk h (j + 1) ≠ coolK lk h j) : n ≤ 1024 := by
  obtain ⟨p1, p2⟩ := pow_bd hl
  obtain ⟨P, hP⟩ : ∃ P : Int, P = 2 ^ lk.toNat := ⟨_, rfl⟩
  rw [← hP] at p1 p2
  cases n with
  | zero => omega
  | succ n =>
    obtain ⟨d, hd⟩ : ∃ d, d = (h / 3 + 1) / P := ⟨_, rfl⟩
    have hd0 : 0 ≤ d := by rw [hd]; exact Int.ediv_nonneg (by omega) (by omega)
    have hdl : h / 3 + 1 < (d + 1) * P := by
      have := Int.lt_ediv_add_one_mul_self (h / 3 + 1) (show 0 < P by omega)
      rw [← hd] at this
      exact this
    have hfall : ∀ j, j ≤ n → coolK lk h j + d * (j : Int) ≤ h := by
      intro j
      induction j with
      | zero => intro _; simp [coolK]
      | succ j ih =>
        intro hjn
        have h1 := ih (by omega)
        have h2 := (hj j (by omega)).1
        have h3 : d ≤ coolK lk h j / P := by rw [hd]; exact Int.ediv_le_ediv (by omega) (by omega)
        have h4 : coolK lk h (j + 1) = coolK lk h j - coolK lk h j / P := by rw [hP]; rfl
        have h5 : d * ((j + 1 : Nat) : Int) = d * (j : Int) + d := by rw [Int.natCast_succ, Int.mul_add, Int.mul_one]
        omega
    have h1 := hfall n (Nat.le_refl _)
    have h2 := (hj n (by omega)).1
    have hd1 : 1 ≤ d := by
      rcases Int.lt_or_le d 1 with h3 | h3
      · exfalso
        have hd2 : d = 0 := by omega
        rw [hd2] at hdl
        obtain ⟨c, hc⟩ : ∃ c, c = coolK lk h n := ⟨_, rfl⟩
        have h4 : coolK lk h (n + 1) = c - c / P := by rw [hP, hc]; rfl
        rw [← hc] at h2
        rw [h4] at hn
        obtain ⟨q, hq⟩ : ∃ q, q = c / P := ⟨_, rfl⟩
        rw [← hq] at hn
        rcases Int.lt_or_le q 1 with h5 | h5
        · have : 0 ≤ q := by rw [hq]; exact Int.ediv_nonneg (by omega) (by omega)
          omega
        · have h6 : q * P ≤ c := by rw [hq]; exact Int.ediv_mul_le c (by omega)
          have h7 : (q - 1) * (P - 1) ≥ 0 := Int.mul_nonneg (by omega) (by omega)
          simp only [Int.sub_mul, Int.mul_sub, Int.mul_one, Int.one_mul] at h7
          omega
      · exact h3
    have h3 : (d + 1) * P ≤ (2 * d) * 256 := by
      have h4 : (d + 1) * P ≤ (2 * d) * P := Int.mul_le_mul_of_nonneg_right (by omega) (by omega)
      have h5 : (2 * d) * P ≤ (2 * d) * 256 := Int.mul_le_mul_of_nonneg_left p2 (by omega)
      omega
    have h4 : d * (n : Int) < d * 1024 := by omega
    have h5 : (n : Int) < 1024 := Int.lt_of_mul_lt_mul_left h4 (by omega)
    omega
end Go.Proofs.YtdeapbihbhoefaaDoor
