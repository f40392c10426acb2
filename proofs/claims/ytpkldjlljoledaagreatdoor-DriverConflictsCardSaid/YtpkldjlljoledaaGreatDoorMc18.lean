/- Part 18 of the texts of the claim: B10, B3, Aw0, Aw1, Fast. -/
import Derived.Test.YtpkldjlljoledaaGreatDoorMc17
import Derived.Test.YtpkldjlljoledaaGreatDoorMc3
import Derived.Test.YtpkldjlljoledaaGreatDoorMc16
import Derived.Test.YtpkldjlljoledaaGreatDoorMc5
import Derived.Test.YtpkldjlljoledaaGreatDoorMc6
import Derived.Test.YtpkldjlljoledaaGreatDoorMc9

/- Contracts of Linear. %still -/
namespace Go.Proofs.YtpkldjlljoledaaGreatDoor
open Go.RowKit
open Calm (bcell Blk)

/-- the error of a curve and its demands. -/
def linErr (xs ys : List Int) (fo st : Int) : Int := firstOf [curveErr xs ys, rangeErr fo 1 100, rangeErr st 100 1000]
theorem checkCurve_any (A1 A2 : Option Addr) (xs ys : List Int) (c1 c2 : Nat) (w : World) (hC1 : Cells w A1 xs) (hC2 : Cells w A2 ys) (h1 : xs.length ≤ 100000) (h2 : ys.length ≤ 100000) :
    Calls Tryz.prog 96 #[.agg #[.slice A1 xs.length c1, .slice A2 ys.length c2]] w fun r w' => r = .returned (.int .i64 (curveErr xs ys)) ∧ Below w.heap.size w w' := by
  by_cases h : xs.length % 2 = 0 ∨ xs.length < 3 ∨ 33 < xs.length ∨ ys.length ≠ xs.length
  · have e : curveErr xs ys = 2 := if_pos h
    rw [e]
    exact checkCurve_shape A1 A2 xs ys c1 c2 w h1 h2 h
  · exact checkCurve_len A1 A2 xs ys c1 c2 w hC1 hC2 h
theorem curve_zero {xs ys : List Int} (h : curveErr xs ys = 0) : (xs.length % 2 = 1 ∧ 3 ≤ xs.length ∧ xs.length ≤ 33 ∧ ys.length = xs.length) ∧ (∀ x ∈ xs, 1 ≤ x ∧ x ≤ 999999999) ∧ (∀ y ∈ ys, 1 ≤ y ∧ y ≤ 999999999) := by
  unfold curveErr at h
  by_cases h1 : xs.length % 2 = 0 ∨ xs.length < 3 ∨ 33 < xs.length ∨ ys.length ≠ xs.length
  · rw [if_pos h1] at h; omega
  · rw [if_neg h1] at h
    refine ⟨⟨by omega, by omega, by omega, Classical.byContradiction fun hh => h1 (.inr (.inr (.inr hh)))⟩, ?_⟩
    by_cases h2 : (∀ x ∈ xs, 1 ≤ x ∧ x ≤ 999999999) ∧ (∀ y ∈ ys, 1 ≤ y ∧ y ≤ 999999999)
    · exact h2
    · rw [if_neg h2] at h; omega

set_option maxHeartbeats 2000000 in
theorem Linear_bad (xs ys : List Int) (fo st : Int) (A1 A2 : Option Addr) (c1 c2 : Nat) (w : World) (hC1 : Cells w A1 xs) (hC2 : Cells w A2 ys) (h1 : xs.length ≤ 100000) (h2 : ys.length ≤ 100000) (h : linErr xs ys fo st ≠ 0) :
    Calls Tryz.prog 53 #[.agg #[.slice A1 xs.length c1, .slice A2 ys.length c2], (.int .i64 (fo)), (.int .i64 (st))] w fun r w' => r = .returned (.tuple #[(.int .i64 (0)), (.int .i64 (linErr xs ys fo st))]) ∧ Below w.heap.size w w' := by
  have HC1 := Lib.hid hC1
  have HC2 := Lib.hid hC2
  clear hC1 hC2
  unfold linErr at h ⊢
  obtain ⟨E, hE⟩ : ∃ E, E = curveErr xs ys := ⟨_, rfl⟩
  have HE := Lib.hid hE
  rw [← hE] at h ⊢
  clear hE
  go_enter Tryz.func53, Tryz.ntmps53
  go_wp2
  refine Calm.still_tail 6 (by kernel_rfl) (by kernel_rfl) ?_
  simp only [List.take_succ_cons, List.take_zero, List.drop_succ_cons, List.drop_zero]
  repeat (first | (first | (apply Calm.still_op_move; (focus rfl); (focus (first | exact .inl rfl | exact .inr rfl)); (focus ((try simp only [Act.eval, Array.getD_eq_getD_getElem?, List.getElem?_toArray, List.getElem?_cons_succ, List.getElem?_cons_zero, Option.getD_some]); rfl)); (try simp only [Act.put, List.setIfInBounds_toArray, List.set_cons_zero, List.set_cons_succ])) | (apply Calm.still_op_not; (focus rfl); (try simp only [Act.put, List.setIfInBounds_toArray, List.set_cons_zero, List.set_cons_succ])) | (apply Calm.still_op; (focus rfl); (focus (intro W hb; obtain ⟨hc, hf⟩ := bcell hb; clear hb hf; go_simp; (try go_bits); (try rfl); done)); (try simp only [Act.put, List.setIfInBounds_toArray, List.set_cons_zero, List.set_cons_succ]))) | (apply Calm.still_op_call; (focus rfl); (focus (intro W hb; obtain ⟨hc, hf⟩ := bcell hb; clear hb hf; go_simp; refine ⟨?_, ?_⟩; rfl; rfl)); (focus (intro W hb; first | (go_at_call 96; exact Calm.call_below hb ((HE.out ▸ checkCurve_any A1 A2 xs ys _ _ _ (HC1.out.below (by (repeat (first | (with_reducible exact Below.refl _ _) | ((with_reducible refine Below.setCell ?_ ?_ _); rotate_left 1; focus (first | (simp; done) | (simp; omega) | (simp at *; omega))) | ((with_reducible refine Below.alloc ?_ ?_ _); rotate_left 1; focus (first | (simp; done) | (simp; omega) | (simp at *; omega))) | (with_reducible refine Below.drew ?_) | ((with_reducible refine Calm.step (by assumption) ?_ ?_); rotate_left 1; focus (first | (simp; done) | (simp; omega) | (simp at *; omega))))))) (HC2.out.below (by (repeat (first | (with_reducible exact Below.refl _ _) | ((with_reducible refine Below.setCell ?_ ?_ _); rotate_left 1; focus (first | (simp; done) | (simp; omega) | (simp at *; omega))) | ((with_reducible refine Below.alloc ?_ ?_ _); rotate_left 1; focus (first | (simp; done) | (simp; omega) | (simp at *; omega))) | (with_reducible refine Below.drew ?_) | ((with_reducible refine Calm.step (by assumption) ?_ ?_); rotate_left 1; focus (first | (simp; done) | (simp; omega) | (simp at *; omega))))))) h1 h2))) | (go_at_call 61; exact Calm.call_same hb (within_any _ _ _ _)))); (try simp only [Act.put, List.setIfInBounds_toArray, List.set_cons_zero, List.set_cons_succ])))
  refine Calm.still_nil ?_
  intro w1 hb
  obtain ⟨hbc, hbf⟩ := bcell hb
  have hbz := hb.size
  (try simp at hbz)
  (try have hbz0 : w.heap.size < w1.heap.size := by omega)
  (try have hbz1 : w.heap.size + 1 < w1.heap.size := by omega)
  (try have hbz2 : w.heap.size + 1 + 1 < w1.heap.size := by omega)
  (try have hbz3 : w.heap.size + 1 + 1 + 1 < w1.heap.size := by omega)
  (try have hbz4 : w.heap.size + 1 + 1 + 1 + 1 < w1.heap.size := by omega)
  (try have hbz5 : w.heap.size + 1 + 1 + 1 + 1 + 1 < w1.heap.size := by omega)
  go_wp2_with (first | (go_at_call 54; refine (first3_any _ _ _ _).mono ?_; rintro r w1 ⟨rfl, rfl⟩))
  go_ret2
  refine ⟨by first | rfl | (simp; done), ?_⟩
  repeat (first | (with_reducible exact Below.refl _ _) | ((with_reducible refine Below.setCell ?_ ?_ _); rotate_left 1; focus (first | (simp; done) | (simp; omega) | (simp at *; omega))) | ((with_reducible refine Below.alloc ?_ ?_ _); rotate_left 1; focus (first | (simp; done) | (simp; omega) | (simp at *; omega))) | (with_reducible refine Below.drew ?_) | ((with_reducible refine Calm.step (by assumption) ?_ ?_); rotate_left 1; focus (first | (simp; done) | (simp; omega) | (simp at *; omega))))
/-- how far a condition holds from 0 on. -/
def climb (p : Nat → Bool) (n : Nat) : Nat := ((List.range n).takeWhile p).length
theorem climb_eq {p : Nat → Bool} {n d : Nat} (h1 : ∀ j, j < d → p j = true) (h2 : d ≤ n) (h3 : d = n ∨ p d = false) : climb p n = d := by
  have e : List.range n = List.range d ++ (List.range (n - d)).map (d + ·) := by
    rw [← List.range_add]
    congr 1
    omega
  unfold climb
  rw [e, List.takeWhile_append_of_pos (by intro j hj; exact h1 j (List.mem_range.1 hj))]
  rcases h3 with rfl | h3
  · simp
  · cases hm : n - d with
    | zero => simp
    | succ m =>
      rw [List.range_succ_eq_map]
      simp [h3]
/-- the displacement up to which a curve is linear. -/
def linD (xs ys : List Int) (fo st : Int) : Nat := climb (fun d => fineB xs ys (xs.length / 2) fo st (xs.length / 2 - d - 1) && fineB xs ys (xs.length / 2) fo st (xs.length / 2 + d + 1)) (xs.length / 2)

set_option maxRecDepth 100000 in
set_option maxHeartbeats 4000000 in
theorem Linear_ok (xs ys : List Int) (fo st : Int) (A1 A2 : Option Addr) (c1 c2 : Nat) (w : World) (hC1 : Cells w A1 xs) (hC2 : Cells w A2 ys) (h1 : xs.length ≤ 100000) (h2 : ys.length ≤ 100000) (h : linErr xs ys fo st = 0) :
    Calls Tryz.prog 53 #[.agg #[.slice A1 xs.length c1, .slice A2 ys.length c2], (.int .i64 (fo)), (.int .i64 (st))] w fun r w' => r = .returned (.tuple #[(.int .i64 (linD xs ys fo st)), (.int .i64 (0))]) ∧ Below w.heap.size w w' := by
  have HC1 := Lib.hid hC1
  have HC2 := Lib.hid hC2
  clear hC1 hC2
  unfold linErr at h
  have hh := firstOf_eq_zero.1 h
  simp only [List.mem_cons, List.not_mem_nil, or_false, forall_eq_or_imp, forall_eq, rangeErr_zero] at hh
  obtain ⟨g1, g2, g3⟩ := hh
  have HZ := Lib.hid (curve_zero g1)
  have HF := Lib.hid g2
  have HS := Lib.hid g3
  have hlen := (curve_zero g1).1
  clear g1 g2 g3
  obtain ⟨E, hE⟩ : ∃ E, E = curveErr xs ys := ⟨_, rfl⟩
  have HE := Lib.hid hE
  rw [← hE] at h
  clear hE
  obtain ⟨R, hR⟩ : ∃ R, R = linD xs ys fo st := ⟨_, rfl⟩
  have HR := Lib.hid hR
  rw [← hR]
  clear hR
  obtain ⟨l1, l2, l3, l4⟩ := hlen
  rw [l4]
  obtain ⟨N, hN⟩ : ∃ N, N = xs.length := ⟨_, rfl⟩
  have HN := Lib.hid hN
  have HN2 := Lib.hid (l4.trans hN.symm)
  rw [← hN] at l1 l2 l3 ⊢
  have hCC : ∀ W : World, Cells W A1 xs → Cells W A2 ys → Calls Tryz.prog 96 #[.agg #[.slice A1 N c1, .slice A2 N c2]] W fun r w' => r = .returned (.int .i64 (E)) ∧ Below W.heap.size W w' := by
    intro W k1 k2
    have := checkCurve_any A1 A2 xs ys c1 c2 W k1 k2 h1 h2
    rwa [← HE.out, HN2.out, ← HN.out] at this
  have HCC := Lib.hid hCC
  clear hCC
  clear l4 hN h1 h2
  obtain ⟨m, hm⟩ : ∃ m, m = N / 2 := ⟨_, rfl⟩
  have hq : Int.tdiv (N : Int) 2 = m := by rw [Int.tdiv_eq_ediv_of_nonneg (by omega)]; omega
  have HM := Lib.hid hm
  have hRm : R = climb (fun d => fineB xs ys m fo st (m - d - 1) && fineB xs ys m fo st (m + d + 1)) m := by
    rw [HR.out]
    unfold linD
    rw [← HN.out, ← HM.out]
  have HRM := Lib.hid hRm
  clear hRm
  have hm16 : m ≤ 16 := by omega
  have hNm : N = m + m + 1 := by omega
  clear hm
  have hFine : ∀ (W : World) (i : Nat) (z : Int) (q1 q2 q3 q4 : Nat), z = i → i < N → Blk W q1 #[.slice A1 N c1, .slice A2 N c2] → Blk W q2 #[(.int .i64 (fo))] → Blk W q3 #[(.int .i64 (m))] → Blk W q4 #[(.int .i64 (st))] → Cells W A1 xs → Cells W A2 ys →
      Calls Tryz.prog 97 #[(.int .i64 (z)), .pointer (some ⟨q1, 0, none⟩), .pointer (some ⟨q2, 0, none⟩), .pointer (some ⟨q3, 0, none⟩), .pointer (some ⟨q4, 0, none⟩)] W fun r w' => r = .returned (.bool (fineB xs ys m fo st i)) ∧ Below W.heap.size W w' := by
    intro W i z q1 q2 q3 q4 hz hi k1 k2 k3 k4 k5 k6
    subst hz
    have e1 := HN.out
    have e2 := HN2.out
    rw [e1, show xs.length = ys.length by omega] at k1
    refine fine_any xs ys i m fo st q1 q2 q3 q4 A1 A2 c1 c2 W ?_ k2 k3 k4 k5 k6 (by omega) (by omega) (by omega) HZ.out.2.1 HZ.out.2.2 HF.out HS.out
    rw [show xs.length = ys.length by omega]
    exact k1
  have HFI := Lib.hid hFine
  have HNM := Lib.hid hNm
  clear hFine hNm
  go_enter Tryz.func53, Tryz.ntmps53
  go_wp2
  refine Calm.still_tail 6 (by kernel_rfl) (by kernel_rfl) ?_
  simp only [List.take_succ_cons, List.take_zero, List.drop_succ_cons, List.drop_zero]
  repeat (first | (first | (apply Calm.still_op_move; (focus rfl); (focus (first | exact .inl rfl | exact .inr rfl)); (focus ((try simp only [Act.eval, Array.getD_eq_getD_getElem?, List.getElem?_toArray, List.getElem?_cons_succ, List.getElem?_cons_zero, Option.getD_some]); rfl)); (try simp only [Act.put, List.setIfInBounds_toArray, List.set_cons_zero, List.set_cons_succ])) | (apply Calm.still_op_not; (focus rfl); (try simp only [Act.put, List.setIfInBounds_toArray, List.set_cons_zero, List.set_cons_succ])) | (apply Calm.still_op; (focus rfl); (focus (intro W hb; obtain ⟨hc, hf⟩ := bcell hb; clear hb hf; go_simp; (try go_bits); (try rfl); done)); (try simp only [Act.put, List.setIfInBounds_toArray, List.set_cons_zero, List.set_cons_succ]))) | (apply Calm.still_op_call; (focus rfl); (focus (intro W hb; obtain ⟨hc, hf⟩ := bcell hb; clear hb hf; go_simp; refine ⟨?_, ?_⟩; rfl; rfl)); (focus (intro W hb; first | (go_at_call 96; exact Calm.call_below hb (HCC.out _ (HC1.out.below (by (repeat (first | (with_reducible exact Below.refl _ _) | ((with_reducible refine Below.setCell ?_ ?_ _); rotate_left 1; focus (first | (simp; done) | (simp; omega) | (simp at *; omega))) | ((with_reducible refine Below.alloc ?_ ?_ _); rotate_left 1; focus (first | (simp; done) | (simp; omega) | (simp at *; omega))) | (with_reducible refine Below.drew ?_) | ((with_reducible refine Calm.step (by assumption) ?_ ?_); rotate_left 1; focus (first | (simp; done) | (simp; omega) | (simp at *; omega))))))) (HC2.out.below (by (repeat (first | (with_reducible exact Below.refl _ _) | ((with_reducible refine Below.setCell ?_ ?_ _); rotate_left 1; focus (first | (simp; done) | (simp; omega) | (simp at *; omega))) | ((with_reducible refine Below.alloc ?_ ?_ _); rotate_left 1; focus (first | (simp; done) | (simp; omega) | (simp at *; omega))) | (with_reducible refine Below.drew ?_) | ((with_reducible refine Calm.step (by assumption) ?_ ?_); rotate_left 1; focus (first | (simp; done) | (simp; omega) | (simp at *; omega))))))))) | (go_at_call 61; exact Calm.call_same hb (within_any _ _ _ _)))); (try simp only [Act.put, List.setIfInBounds_toArray, List.set_cons_zero, List.set_cons_succ])))
  refine Calm.still_nil ?_
  intro w1 hb
  obtain ⟨hbc, hbf⟩ := bcell hb
  have hbz := hb.size
  (try simp at hbz)
  (try have hbz0 : w.heap.size < w1.heap.size := by omega)
  (try have hbz1 : w.heap.size + 1 < w1.heap.size := by omega)
  (try have hbz2 : w.heap.size + 1 + 1 < w1.heap.size := by omega)
  (try have hbz3 : w.heap.size + 1 + 1 + 1 < w1.heap.size := by omega)
  (try have hbz4 : w.heap.size + 1 + 1 + 1 + 1 < w1.heap.size := by omega)
  (try have hbz5 : w.heap.size + 1 + 1 + 1 + 1 + 1 < w1.heap.size := by omega)
  go_wp2_with (first | (go_at_call 54; refine (first3_any _ _ _ _).mono ?_; rintro r w1 ⟨rfl, rfl⟩))
  go_loopw [11] (fun d wr => ∃ k : Nat, k ≤ m ∧ d = (.int .i64 (k)) ∧ (∀ j, j < k → (fineB xs ys m fo st (m - j - 1) && fineB xs ys m fo st (m + j + 1)) = true) ∧ Below w.heap.size w wr ∧ Blk wr w.heap.size #[.slice A1 N c1, .slice A2 N c2] ∧ Blk wr (w.heap.size + 1) #[(.int .i64 (fo))] ∧ Blk wr (w.heap.size + 1 + 1) #[(.int .i64 (st))] ∧ Blk wr (w1.heap.size + 1) #[(.int .i64 (m))]) (fun d _ => m - (intOf d).toNat)
  case atStart => exact ⟨0, Nat.zero_le _, rfl, fun j hj => by omega, by (repeat (first | (with_reducible exact Below.refl _ _) | ((with_reducible refine Below.setCell ?_ ?_ _); rotate_left 1; focus (first | (simp; done) | (simp; omega) | (simp at *; omega))) | ((with_reducible refine Below.alloc ?_ ?_ _); rotate_left 1; focus (first | (simp; done) | (simp; omega) | (simp at *; omega))) | (with_reducible refine Below.drew ?_) | ((with_reducible refine Calm.step (by assumption) ?_ ?_); rotate_left 1; focus (first | (simp; done) | (simp; omega) | (simp at *; omega))))), by (repeat (first | ((with_reducible refine Blk.at_ ?_); focus (first | rfl | (simp; done) | (simp; omega))) | (with_reducible refine Blk.alloc ?_ _) | (with_reducible refine Blk.below ?_ (by with_reducible assumption)) | (with_reducible refine Blk.drew ?_))), by (repeat (first | ((with_reducible refine Blk.at_ ?_); focus (first | rfl | (simp; done) | (simp; omega))) | (with_reducible refine Blk.alloc ?_ _) | (with_reducible refine Blk.below ?_ (by with_reducible assumption)) | (with_reducible refine Blk.drew ?_))), by (repeat (first | ((with_reducible refine Blk.at_ ?_); focus (first | rfl | (simp; done) | (simp; omega))) | (with_reducible refine Blk.alloc ?_ _) | (with_reducible refine Blk.below ?_ (by with_reducible assumption)) | (with_reducible refine Blk.drew ?_))), by (repeat (first | ((with_reducible refine Blk.at_ ?_); focus (first | rfl | (simp; done) | (simp; omega))) | (with_reducible refine Blk.alloc ?_ _) | (with_reducible refine Blk.below ?_ (by with_reducible assumption)) | (with_reducible refine Blk.drew ?_)))⟩
  case round =>
    clear hbc hbf
    obtain ⟨k, hk, rfl, hz, hB, K1, K2, K3, K4⟩ := hrel
    have HJ := Lib.hid hz
    clear hz
    have hsz := hB.size
    have d1 := K4.cell 0 (.int .i64 (m)) rfl
    have t1 := K4.lt
    by_cases hlt : k < m
    · cases f1 : fineB xs ys m fo st (m - k - 1)
      · have HF1 := Lib.hid f1
        clear f1
        go_wp2_with (go_at_call 97; refine (HFI.out _ (m - k - 1) _ _ _ _ _ (by omega) (by have := HNM.out; omega) K1 K2 K4 K3 (HC1.out.below hB) (HC2.out.below hB)).mono ?_; rw [HF1.out]; rintro r w2 ⟨rfl, hb2⟩; obtain ⟨hc2, hf2⟩ := bcell hb2)
        go_ret2
        have hR : R = k := HRM.out.trans (climb_eq HJ.out hk (.inr (by simp [HF1.out])))
        refine ⟨by rw [hR]; first | rfl | (simp; done), ?_⟩
        exact hB.trans (Below.mono (by (repeat (first | (with_reducible exact Below.refl _ _) | ((with_reducible refine Below.setCell ?_ ?_ _); rotate_left 1; focus (first | (simp; done) | (simp; omega) | (simp at *; omega))) | ((with_reducible refine Below.alloc ?_ ?_ _); rotate_left 1; focus (first | (simp; done) | (simp; omega) | (simp at *; omega))) | (with_reducible refine Below.drew ?_) | ((with_reducible refine Calm.step (by assumption) ?_ ?_); rotate_left 1; focus (first | (simp; done) | (simp; omega) | (simp at *; omega)))))) hsz)
      · have HF1 := Lib.hid f1
        clear f1
        cases f2 : fineB xs ys m fo st (m + k + 1)
        · have HF2 := Lib.hid f2
          clear f2
          go_wp2_with (first
            | (go_at_call 97; refine (HFI.out _ (m - k - 1) _ _ _ _ _ (by omega) (by have := HNM.out; omega) K1 K2 K4 K3 (HC1.out.below hB) (HC2.out.below hB)).mono ?_; rw [HF1.out]; rintro r w2 ⟨rfl, hb2⟩; obtain ⟨hc2, hf2⟩ := bcell hb2)
            | (go_at_call 97; refine (HFI.out _ (m + k + 1) _ _ _ _ _ (by omega) (by have := HNM.out; omega) (K1.below hb2) (K2.below hb2) (K4.below hb2) (K3.below hb2) ((HC1.out.below hB).below hb2) ((HC2.out.below hB).below hb2)).mono ?_; rw [HF2.out]; rintro r w3 ⟨rfl, hb3⟩; obtain ⟨hc3, hf3⟩ := bcell hb3))
          go_ret2
          have hR : R = k := HRM.out.trans (climb_eq HJ.out hk (.inr (by simp [HF2.out])))
          refine ⟨by rw [hR]; first | rfl | (simp; done), ?_⟩
          exact hB.trans (Below.mono (hb2.trans (Below.mono hb3 hb2.size)) hsz)
        · have HF2 := Lib.hid f2
          clear f2
          go_wp2_with (first
            | (go_at_call 97; refine (HFI.out _ (m - k - 1) _ _ _ _ _ (by omega) (by have := HNM.out; omega) K1 K2 K4 K3 (HC1.out.below hB) (HC2.out.below hB)).mono ?_; rw [HF1.out]; rintro r w2 ⟨rfl, hb2⟩; obtain ⟨hc2, hf2⟩ := bcell hb2)
            | (go_at_call 97; refine (HFI.out _ (m + k + 1) _ _ _ _ _ (by omega) (by have := HNM.out; omega) (K1.below hb2) (K2.below hb2) (K4.below hb2) (K3.below hb2) ((HC1.out.below hB).below hb2) ((HC2.out.below hB).below hb2)).mono ?_; rw [HF2.out]; rintro r w3 ⟨rfl, hb3⟩; obtain ⟨hc3, hf3⟩ := bcell hb3))
          go_roundw
          case rel => exact ⟨k + 1, by omega, by go_num, fun j hj => by
            rcases Nat.lt_or_ge j k with h | h
            · exact HJ.out j h
            · obtain rfl : j = k := by omega
              rw [HF1.out, HF2.out]; rfl, hB.trans (Below.mono (hb2.trans (Below.mono hb3 hb2.size)) hsz), (K1.below hb2).below hb3, (K2.below hb2).below hb3, (K3.below hb2).below hb3, (K4.below hb2).below hb3⟩
          case measure => simp [intOf]; omega
    · obtain rfl : k = m := by omega
      go_wp2
      go_ret2
      have hR : R = k := HRM.out.trans (climb_eq HJ.out hk (.inl rfl))
      exact ⟨by rw [hR]; first | rfl | (simp; done), hB⟩
end Go.Proofs.YtpkldjlljoledaaGreatDoor

/- The text of the example's driver. -/
namespace Go.Proofs.YtpkldjlljoledaaGreatDoor
open Go.RowKit
open Calm (bcell Blk)

theorem itoa0 (w : World) : Calls Tryz.prog 76 #[(.int .i64 (0))] w fun r w' => r = .returned (.string ⟨#[48]⟩) ∧ w = w' := by
  go_enter Tryz.func76, Tryz.ntmps76
  go_wp2
  go_ret
  exact ⟨rfl, rfl⟩
theorem itoa1 (w : World) : Calls Tryz.prog 76 #[(.int .i64 (1))] w fun r w' => r = .returned (.string ⟨#[49]⟩) ∧ w = w' := by
  go_enter Tryz.func76, Tryz.ntmps76
  go_wp2
  go_ret
  exact ⟨rfl, rfl⟩
theorem itoa2 (w : World) : Calls Tryz.prog 76 #[(.int .i64 (2))] w fun r w' => r = .returned (.string ⟨#[50]⟩) ∧ w = w' := by
  go_enter Tryz.func76, Tryz.ntmps76
  go_wp2
  go_ret
  exact ⟨rfl, rfl⟩
theorem itoa4 (w : World) : Calls Tryz.prog 76 #[(.int .i64 (4))] w fun r w' => r = .returned (.string ⟨#[52]⟩) ∧ w = w' := by
  go_enter Tryz.func76, Tryz.ntmps76
  go_wp2
  go_ret
  exact ⟨rfl, rfl⟩
theorem itoa6 (w : World) : Calls Tryz.prog 76 #[(.int .i64 (6))] w fun r w' => r = .returned (.string ⟨#[54]⟩) ∧ w = w' := by
  go_enter Tryz.func76, Tryz.ntmps76
  go_wp2
  go_ret
  exact ⟨rfl, rfl⟩
def preB (k : Int) : Array UInt8 := if k = 0 then #[100, 114, 105, 118, 101, 114] else if k = 1 then #[100, 114, 105, 118, 101, 114, 32, 54] else if k = 2 then #[100, 114, 105, 118, 101, 114, 32, 54, 32, 48] else if k = 3 then #[100, 114, 105, 118, 101, 114, 32, 54, 32, 48, 32, 50] else if k = 4 then #[100, 114, 105, 118, 101, 114, 32, 54, 32, 48, 32, 50, 32, 49] else if k = 5 then #[100, 114, 105, 118, 101, 114, 32, 54, 32, 48, 32, 50, 32, 49, 32, 52] else #[100, 114, 105, 118, 101, 114, 32, 54, 32, 48, 32, 50, 32, 49, 32, 52, 32, 49]
theorem pindex0 : ∀ w : World, (Instr.index 141 (.agg #[(.int .i64 (6)), (.int .i64 (0)), (.int .i64 (2)), (.int .i64 (1)), (.int .i64 (4)), (.int .i64 (1))]) (.int .i64 0)).run Tryz.prog w = .ok (.int .i64 (6)) w := fun _ => by kernel_rfl
theorem pindex1 : ∀ w : World, (Instr.index 141 (.agg #[(.int .i64 (6)), (.int .i64 (0)), (.int .i64 (2)), (.int .i64 (1)), (.int .i64 (4)), (.int .i64 (1))]) (.int .i64 1)).run Tryz.prog w = .ok (.int .i64 (0)) w := fun _ => by kernel_rfl
theorem pindex2 : ∀ w : World, (Instr.index 141 (.agg #[(.int .i64 (6)), (.int .i64 (0)), (.int .i64 (2)), (.int .i64 (1)), (.int .i64 (4)), (.int .i64 (1))]) (.int .i64 2)).run Tryz.prog w = .ok (.int .i64 (2)) w := fun _ => by kernel_rfl
theorem pindex3 : ∀ w : World, (Instr.index 141 (.agg #[(.int .i64 (6)), (.int .i64 (0)), (.int .i64 (2)), (.int .i64 (1)), (.int .i64 (4)), (.int .i64 (1))]) (.int .i64 3)).run Tryz.prog w = .ok (.int .i64 (1)) w := fun _ => by kernel_rfl
theorem pindex4 : ∀ w : World, (Instr.index 141 (.agg #[(.int .i64 (6)), (.int .i64 (0)), (.int .i64 (2)), (.int .i64 (1)), (.int .i64 (4)), (.int .i64 (1))]) (.int .i64 4)).run Tryz.prog w = .ok (.int .i64 (4)) w := fun _ => by kernel_rfl
theorem pindex5 : ∀ w : World, (Instr.index 141 (.agg #[(.int .i64 (6)), (.int .i64 (0)), (.int .i64 (2)), (.int .i64 (1)), (.int .i64 (4)), (.int .i64 (1))]) (.int .i64 5)).run Tryz.prog w = .ok (.int .i64 (1)) w := fun _ => by kernel_rfl
theorem sample_err : drvErr 6 0 2 1 4 1 = 0 := by decide
set_option maxRecDepth 100000 in
set_option maxHeartbeats 2000000 in
theorem print_sample (w : World) (hL : Lim w) :
    Calls Tryz.prog 34 #[.agg #[(.int .i64 (6)), (.int .i64 (0)), (.int .i64 (2)), (.int .i64 (1)), (.int .i64 (4)), (.int .i64 (1))]] w fun r w' => r = .returned (.tuple #[.string ⟨#[100, 114, 105, 118, 101, 114, 32, 54, 32, 48, 32, 50, 32, 49, 32, 52, 32, 49]⟩, (.int .i64 (0))]) ∧ Below w.heap.size w w' := by
  have h := sample_err
  go_enter Tryz.func34, Tryz.ntmps34
  go_wp2_with (first | (go_at_call 60; refine (checkDriver_any _ _ _ _ _ _ _ (hL.below (by repeat (first | (with_reducible exact Below.refl _ _) | ((with_reducible refine Below.setCell ?_ ?_ _); rotate_left 1; focus (first | (simp; done) | (simp; omega) | (simp at *; omega))) | ((with_reducible refine Below.alloc ?_ ?_ _); rotate_left 1; focus (first | (simp; done) | (simp; omega) | (simp at *; omega))) | (with_reducible refine Below.drew ?_) | ((with_reducible refine Calm.step (by assumption) ?_ ?_); rotate_left 1; focus (first | (simp; done) | (simp; omega) | (simp at *; omega))))))).mono ?_; rintro r w1 ⟨rfl, hb⟩; obtain ⟨hc, hf⟩ := bcell hb; have hz := hb.size; (try simp at hz); (try have hz0 : w.heap.size < w1.heap.size := by omega); (try have hz1 : w.heap.size + 1 < w1.heap.size := by omega); (try have hz2 : w.heap.size + 1 + 1 < w1.heap.size := by omega); (try have hz3 : w.heap.size + 1 + 1 + 1 < w1.heap.size := by omega); (try have hz4 : w.heap.size + 1 + 1 + 1 + 1 < w1.heap.size := by omega); (try have hz5 : w.heap.size + 1 + 1 + 1 + 1 + 1 < w1.heap.size := by omega); (try have hz6 : w.heap.size + 1 + 1 + 1 + 1 + 1 + 1 < w1.heap.size := by omega)) | (go_at_call 75; refine (numbers_any _ _ _ _ _ _ _).mono ?_; rintro r w1 ⟨rfl, hb⟩; obtain ⟨hc, hf⟩ := bcell hb; have hz := hb.size; (try simp at hz); (try have hz0 : w.heap.size < w1.heap.size := by omega); (try have hz1 : w.heap.size + 1 < w1.heap.size := by omega); (try have hz2 : w.heap.size + 1 + 1 < w1.heap.size := by omega); (try have hz3 : w.heap.size + 1 + 1 + 1 < w1.heap.size := by omega); (try have hz4 : w.heap.size + 1 + 1 + 1 + 1 < w1.heap.size := by omega); (try have hz5 : w.heap.size + 1 + 1 + 1 + 1 + 1 < w1.heap.size := by omega); (try have hz6 : w.heap.size + 1 + 1 + 1 + 1 + 1 + 1 < w1.heap.size := by omega)))
  clear h
  have kb : Below w.heap.size w w1 := by (repeat (first | (with_reducible exact Below.refl _ _) | ((with_reducible refine Below.setCell ?_ ?_ _); rotate_left 1; focus (first | (simp; done) | (simp; omega) | (simp at *; omega))) | ((with_reducible refine Below.alloc ?_ ?_ _); rotate_left 1; focus (first | (simp; done) | (simp; omega) | (simp at *; omega))) | (with_reducible refine Below.drew ?_) | ((with_reducible refine Calm.step (by assumption) ?_ ?_); rotate_left 1; focus (first | (simp; done) | (simp; omega) | (simp at *; omega)))))
  go_loop [5, 15] (fun t i => ∃ k : Int, 0 ≤ k ∧ k ≤ 6 ∧ i = (.int .i64 (k)) ∧ t = .string ⟨preB k⟩) (fun _ i => 6 - (intOf i).toNat)
  case atStart => exact ⟨0, by omega, by omega, rfl, by simp [preB]⟩
  case round =>
    obtain ⟨k, hk0, hk, rfl, rfl⟩ := hrel
    have hkk : k = 0 ∨ k = 1 ∨ k = 2 ∨ k = 3 ∨ k = 4 ∨ k = 5 ∨ k = 6 := by omega
    rcases hkk with rfl | rfl | rfl | rfl | rfl | rfl | rfl
    · have ix := pindex0
      rw [show preB 0 = #[100, 114, 105, 118, 101, 114] from by simp [preB]]
      go_wp2_with (go_at_call 76; refine (itoa6 _).mono ?_; rintro r w2 ⟨rfl, rfl⟩)
      go_round
      case rel => exact ⟨1, by omega, by omega, rfl, by simp [preB]; kernel_rfl⟩
      case measure => simp [intOf]
    · have ix := pindex1
      rw [show preB 1 = #[100, 114, 105, 118, 101, 114, 32, 54] from by simp [preB]]
      go_wp2_with (go_at_call 76; refine (itoa0 _).mono ?_; rintro r w2 ⟨rfl, rfl⟩)
      go_round
      case rel => exact ⟨2, by omega, by omega, rfl, by simp [preB]; kernel_rfl⟩
      case measure => simp [intOf]
    · have ix := pindex2
      rw [show preB 2 = #[100, 114, 105, 118, 101, 114, 32, 54, 32, 48] from by simp [preB]]
      go_wp2_with (go_at_call 76; refine (itoa2 _).mono ?_; rintro r w2 ⟨rfl, rfl⟩)
      go_round
      case rel => exact ⟨3, by omega, by omega, rfl, by simp [preB]; kernel_rfl⟩
      case measure => simp [intOf]
    · have ix := pindex3
      rw [show preB 3 = #[100, 114, 105, 118, 101, 114, 32, 54, 32, 48, 32, 50] from by simp [preB]]
      go_wp2_with (go_at_call 76; refine (itoa1 _).mono ?_; rintro r w2 ⟨rfl, rfl⟩)
      go_round
      case rel => exact ⟨4, by omega, by omega, rfl, by simp [preB]; kernel_rfl⟩
      case measure => simp [intOf]
    · have ix := pindex4
      rw [show preB 4 = #[100, 114, 105, 118, 101, 114, 32, 54, 32, 48, 32, 50, 32, 49] from by simp [preB]]
      go_wp2_with (go_at_call 76; refine (itoa4 _).mono ?_; rintro r w2 ⟨rfl, rfl⟩)
      go_round
      case rel => exact ⟨5, by omega, by omega, rfl, by simp [preB]; kernel_rfl⟩
      case measure => simp [intOf]
    · have ix := pindex5
      rw [show preB 5 = #[100, 114, 105, 118, 101, 114, 32, 54, 32, 48, 32, 50, 32, 49, 32, 52] from by simp [preB]]
      go_wp2_with (go_at_call 76; refine (itoa1 _).mono ?_; rintro r w2 ⟨rfl, rfl⟩)
      go_round
      case rel => exact ⟨6, by omega, by omega, rfl, by simp [preB]; kernel_rfl⟩
      case measure => simp [intOf]
    · rw [show preB 6 = #[100, 114, 105, 118, 101, 114, 32, 54, 32, 48, 32, 50, 32, 49, 32, 52, 32, 49] from by simp [preB]]
      go_wp2
      go_ret2
      exact ⟨rfl, kb⟩
end Go.Proofs.YtpkldjlljoledaaGreatDoor

/- What awake() calls, at the document's numbers. -/
namespace Go.Proofs.YtpkldjlljoledaaGreatDoor
open Go.RowKit
open Calm (bcell Blk)

theorem aw_mech (w : World) (hL : Lim w) : Calls Tryz.prog 38 #[.agg #[(.int .i64 (6)), (.int .i64 (0)), (.int .i64 (2)), (.int .i64 (1)), (.int .i64 (4)), (.int .i64 (1))], (.int .i64 (2))] w fun r w' => r = .returned (.tuple #[.agg #[(.int .i64 (0)), (.int .i64 (2))], (.int .i64 (0))]) ∧ Below w.heap.size w w' :=
  Mechanics_ok 6 0 2 1 4 1 2 w hL (by decide)
theorem aw_imp2 (w : World) (hL : Lim w) : Calls Tryz.prog 40 #[.agg #[(.int .i64 (6)), (.int .i64 (0)), (.int .i64 (2)), (.int .i64 (1)), (.int .i64 (4)), (.int .i64 (1))], (.int .i64 (2))] w fun r w' => r = .returned (.tuple #[.agg #[(.int .i64 (0)), (.int .i64 (20)), (.int .i64 (0)), (.int .i64 (2))], (.int .i64 (0))]) ∧ Below w.heap.size w w' :=
  Impedance_ok 6 0 2 1 4 1 2 w hL (by decide)
theorem aw_exc (w : World) (hL : Lim w) : Calls Tryz.prog 41 #[.agg #[(.int .i64 (6)), (.int .i64 (0)), (.int .i64 (2)), (.int .i64 (1)), (.int .i64 (4)), (.int .i64 (1))], (.int .i64 (2))] w fun r w' => r = .returned (.tuple #[.agg #[(.int .i64 (2)), (.int .i64 (0)), (.int .i64 (0)), (.int .i64 (20))], (.int .i64 (0))]) ∧ Below w.heap.size w w' :=
  Excursion_ok 6 0 2 1 4 1 2 w hL (by decide)
theorem aw_out (w : World) (hL : Lim w) : Calls Tryz.prog 42 #[.agg #[(.int .i64 (6)), (.int .i64 (0)), (.int .i64 (2)), (.int .i64 (1)), (.int .i64 (4)), (.int .i64 (1))], (.int .i64 (2))] w fun r w' => r = .returned (.tuple #[.agg #[(.int .i64 (-8)), (.int .i64 (0)), (.int .i64 (0)), (.int .i64 (20))], (.int .i64 (0))]) ∧ Below w.heap.size w w' :=
  Output_ok 6 0 2 1 4 1 2 w hL (by decide)
theorem aw_imp1 (w : World) (hL : Lim w) : Calls Tryz.prog 40 #[.agg #[(.int .i64 (6)), (.int .i64 (0)), (.int .i64 (2)), (.int .i64 (1)), (.int .i64 (4)), (.int .i64 (1))], (.int .i64 (1))] w fun r w' => r = .returned (.tuple #[.agg #[(.int .i64 (18)), (.int .i64 (10)), (.int .i64 (3)), (.int .i64 (1))], (.int .i64 (0))]) ∧ Below w.heap.size w w' :=
  Impedance_ok 6 0 2 1 4 1 1 w hL (by decide)
theorem aw_res (w : World) (hL : Lim w) : Calls Tryz.prog 43 #[.agg #[(.int .i64 (6)), (.int .i64 (0)), (.int .i64 (2)), (.int .i64 (1)), (.int .i64 (4)), (.int .i64 (1))]] w fun r w' => r = .returned (.tuple #[.agg #[(.int .i64 (4)), (.int .i64 (1))], (.int .i64 (0))]) ∧ Below w.heap.size w w' :=
  resonance_ok 6 0 2 1 4 1 w hL (by decide)
theorem aw_qual (w : World) (hL : Lim w) : Calls Tryz.prog 44 #[.agg #[(.int .i64 (6)), (.int .i64 (0)), (.int .i64 (2)), (.int .i64 (1)), (.int .i64 (4)), (.int .i64 (1))]] w fun r w' => r = .returned (.tuple #[.agg #[(.int .i64 (4)), (.int .i64 (1)), (.int .i64 (9)), (.int .i64 (1)), (.int .i64 (36)), (.int .i64 (25))], (.int .i64 (0))]) ∧ Below w.heap.size w w' :=
  quality_ok 6 0 2 1 4 1 w hL (by decide)
theorem aw_box (w : World) (hL : Lim w) : Calls Tryz.prog 45 #[.agg #[(.int .i64 (6)), (.int .i64 (0)), (.int .i64 (2)), (.int .i64 (1)), (.int .i64 (4)), (.int .i64 (1))], .agg #[(.int .i64 (2)), (.int .i64 (1)), (.int .i64 (0)), (.int .i64 (1))], (.int .i64 (1))] w fun r w' => r = .returned (.tuple #[.agg #[(.int .i64 (-4)), (.int .i64 (40)), (.int .i64 (0)), (.int .i64 (6))], (.int .i64 (0))]) ∧ Below w.heap.size w w' :=
  Boxed_port 6 0 2 1 4 1 2 1 0 1 1 w hL (by decide) (by decide)
theorem aw_mov (w : World) (hL : Lim w) : Calls Tryz.prog 47 #[.agg #[(.int .i64 (6)), (.int .i64 (0)), (.int .i64 (2)), (.int .i64 (1)), (.int .i64 (4)), (.int .i64 (1))], .agg #[(.int .i64 (2)), (.int .i64 (1)), (.int .i64 (0)), (.int .i64 (1))], (.int .i64 (1))] w fun r w' => r = .returned (.tuple #[.agg #[(.int .i64 (2)), (.int .i64 (2)), (.int .i64 (-4)), (.int .i64 (40)), (.int .i64 (4)), (.int .i64 (0)), (.int .i64 (-4)), (.int .i64 (40))], (.int .i64 (0))]) ∧ Below w.heap.size w w' :=
  Moved_port 6 0 2 1 4 1 2 1 0 1 1 w hL (by decide) (by decide)
theorem aw_rad (w : World) (hL : Lim w) : Calls Tryz.prog 48 #[.agg #[(.int .i64 (6)), (.int .i64 (0)), (.int .i64 (2)), (.int .i64 (1)), (.int .i64 (4)), (.int .i64 (1))], .agg #[(.int .i64 (2)), (.int .i64 (1)), (.int .i64 (0)), (.int .i64 (1))], (.int .i64 (1))] w fun r w' => r = .returned (.tuple #[.agg #[(.int .i64 (2)), (.int .i64 (-2)), (.int .i64 (-4)), (.int .i64 (40))], (.int .i64 (0))]) ∧ Below w.heap.size w w' :=
  Radiated_port 6 0 2 1 4 1 2 1 0 1 1 w hL (by decide) (by decide)
theorem aw_tun (w : World) : Calls Tryz.prog 49 #[.agg #[(.int .i64 (2)), (.int .i64 (1)), (.int .i64 (0)), (.int .i64 (1))]] w fun r w' => r = .returned (.tuple #[.agg #[(.int .i64 (2)), (.int .i64 (1))], (.int .i64 (0))]) ∧ Below w.heap.size w w' :=
  tuning_ok 2 1 0 1 w (by decide) (by decide)
theorem aw_clo (w : World) (hL : Lim w) : Calls Tryz.prog 50 #[.agg #[(.int .i64 (6)), (.int .i64 (0)), (.int .i64 (2)), (.int .i64 (1)), (.int .i64 (4)), (.int .i64 (1))], (.int .i64 (5))] w fun r w' => r = .returned (.tuple #[.agg #[(.int .i64 (6)), (.int .i64 (0)), (.int .i64 (2)), (.int .i64 (1)), (.int .i64 (9)), (.int .i64 (1))], (.int .i64 (0))]) ∧ Below w.heap.size w w' :=
  closed_ok 6 0 2 1 4 1 5 w hL (by decide) (by decide)
theorem aw_box2 (w : World) (hL : Lim w) : Calls Tryz.prog 45 #[.agg #[(.int .i64 (6)), (.int .i64 (0)), (.int .i64 (2)), (.int .i64 (1)), (.int .i64 (4)), (.int .i64 (1))], .agg #[(.int .i64 (5)), (.int .i64 (0)), (.int .i64 (0)), (.int .i64 (0))], (.int .i64 (3))] w fun r w' => r = .returned (.tuple #[.agg #[(.int .i64 (0)), (.int .i64 (30)), (.int .i64 (0)), (.int .i64 (3))], (.int .i64 (0))]) ∧ Below w.heap.size w w' :=
  Boxed_shut 6 0 2 1 4 1 5 3 w hL (by decide)
theorem aw_wei (w : World) : Calls Tryz.prog 52 #[.agg #[(.int .i64 (4)), (.int .i64 (1))], .agg #[(.int .i64 (1)), (.int .i64 (1))], (.int .i64 (3))] w fun r w' => r = .returned (.tuple #[.agg #[(.int .i64 (1)), (.int .i64 (1))], .agg #[(.int .i64 (4)), (.int .i64 (1))], (.int .i64 (0))]) ∧ Below w.heap.size w w' :=
  weighed_ok 4 1 1 1 3 w (by decide) (by decide)
theorem aw_swe (w : World) (hL : Lim w) (A : Option Addr) (c : Nat) (hC : Cells w A [2]) : Calls Tryz.prog 25 #[.agg #[(.int .i64 (6)), (.int .i64 (0)), (.int .i64 (2)), (.int .i64 (1)), (.int .i64 (4)), (.int .i64 (1))], .slice A 1 c, (.int .i64 (10))] w fun r w' => ∃ v, r = .returned (.tuple #[v, (.int .i64 (0))]) ∧ w'.ownsRow (w.heap.size + 1) 107 3 v 1 (flat3 [(2, 90, 110)]) ∧ Below w.heap.size w w' :=
  Sweep_ok 6 0 2 1 4 1 10 A [2] c w hL hC (by decide) (by decide) (by decide) (by decide)
end Go.Proofs.YtpkldjlljoledaaGreatDoor

/- SameInts; what awake() calls, at the document's numbers. -/
namespace Go.Proofs.YtpkldjlljoledaaGreatDoor
open Go.RowKit
open Calm (bcell Blk)

theorem aw_reg (w : World) (hL : Lim w) (A : Option Addr) (c : Nat) (hC : RCells w A [(2, 90, 110)]) : Calls Tryz.prog 11 #[.agg #[(.int .i64 (6)), (.int .i64 (0)), (.int .i64 (2)), (.int .i64 (1)), (.int .i64 (4)), (.int .i64 (1)), (.int .i64 (2)), (.int .i64 (4)), (.int .i64 (1))], .slice A 1 c] w fun r w' => ∃ v, r = .returned (.tuple #[v, (.int .i64 (0))]) ∧ w'.ownsRow w.heap.size 34 6 v 1 (flat6 6 0 2 [(1, 4, 1)]) ∧ Below w.heap.size w w' := by
  have e : regD 6 0 2 1 4 1 2 4 1 [(2, 90, 110)] = [(1, 4, 1)] := by decide
  refine (Region_ok 6 0 2 1 4 1 2 4 1 A [(2, 90, 110)] c w hL hC (by decide) (by decide)).mono ?_
  rintro r w' ⟨h, hb⟩
  rw [e, if_neg (by decide)] at h
  obtain ⟨v, h1, h2⟩ := h
  exact ⟨v, h1, h2, hb⟩
theorem aw_con (w : World) (hL : Lim w) (A : Option Addr) (c : Nat) (hC : RCells w A [(2, 90, 110), (2, 0, 50)]) : Calls Tryz.prog 21 #[.agg #[(.int .i64 (6)), (.int .i64 (0)), (.int .i64 (2)), (.int .i64 (1)), (.int .i64 (4)), (.int .i64 (1)), (.int .i64 (2)), (.int .i64 (4)), (.int .i64 (1))], .slice A 2 c] w fun r w' => ∃ v, r = .returned (.tuple #[v, (.int .i64 (0))]) ∧ w'.ownsRow w.heap.size 3 1 v 2 (ints [0, 1]) ∧ Below w.heap.size w w' := by
  have e : confF 6 0 2 [(2, 90, 110), (2, 0, 50)] (drvs 1 4 1 2 4 1) (2 ^ [((2 : Int), (90 : Int), (110 : Int)), (2, 0, 50)].length) = some 3 := by decide
  refine (Conflict_ok 6 0 2 1 4 1 2 4 1 A [(2, 90, 110), (2, 0, 50)] c w hL hC (by decide) (by decide)).mono ?_
  rintro r w' ⟨v, h, hv, hb⟩
  rw [e] at h hv
  exact ⟨v, h, hv.2, hb⟩
theorem aw_lin1 (w : World) (A1 A2 : Option Addr) (c1 c2 : Nat) (h1 : Cells w A1 [60, 90, 100, 95, 70]) (h2 : Cells w A2 [30, 12, 10, 11, 25]) : Calls Tryz.prog 53 #[.agg #[.slice A1 5 c1, .slice A2 5 c2], (.int .i64 (82)), (.int .i64 (150))] w fun r w' => r = .returned (.tuple #[(.int .i64 (1)), (.int .i64 (0))]) ∧ Below w.heap.size w w' :=
  Linear_ok [60, 90, 100, 95, 70] [30, 12, 10, 11, 25] 82 150 A1 A2 c1 c2 w h1 h2 (by decide) (by decide) (by decide)
theorem aw_lin2 (w : World) (A1 A2 : Option Addr) (c1 c2 : Nat) (h1 : Cells w A1 [60, 90, 100, 95, 70]) (h2 : Cells w A2 [30, 12, 10, 11, 25]) : Calls Tryz.prog 53 #[.agg #[.slice A1 5 c1, .slice A2 5 c2], (.int .i64 (92)), (.int .i64 (150))] w fun r w' => r = .returned (.tuple #[(.int .i64 (0)), (.int .i64 (0))]) ∧ Below w.heap.size w w' :=
  Linear_ok [60, 90, 100, 95, 70] [30, 12, 10, 11, 25] 92 150 A1 A2 c1 c2 w h1 h2 (by decide) (by decide) (by decide)

set_option maxRecDepth 100000 in
set_option maxHeartbeats 4000000 in
theorem sameInts_any (A B : Option Addr) (a b : List Int) (ca cb : Nat) (w : World) (hA : Cells w A a) (hB : Cells w B b) (h1 : a.length ≤ 1000) (h2 : b.length ≤ 1000) :
    Calls Tryz.prog 23 #[.slice A a.length ca, .slice B b.length cb] w fun x w' => x = .returned (.bool (decide (a = b))) ∧ Below w.heap.size w w' := by
  obtain ⟨E, hE⟩ : ∃ E, E = decide (a = b) := ⟨_, rfl⟩
  have HE := Lib.hid hE
  have HCA := Lib.hid hA
  have HCB := Lib.hid hB
  obtain ⟨N, hN⟩ : ∃ N, N = a.length := ⟨_, rfl⟩
  obtain ⟨M, hM⟩ : ∃ M, M = b.length := ⟨_, rfl⟩
  have HN := Lib.hid hN
  have HM := Lib.hid hM
  rw [← hE]
  rw [← hN] at h1 ⊢
  rw [← hM] at h2 ⊢
  clear hE hA hB hN hM
  by_cases hnm : N = M
  · have HNM := Lib.hid hnm
    subst hnm
    go_enter Tryz.func23, Tryz.ntmps23
    go_wp2
    go_loopw [5] (fun i wr => ∃ k : Nat, k ≤ N ∧ i = (.int .i64 ((k : Nat))) ∧ (∀ j, j < k → a.getD j 0 = b.getD j 0) ∧ Below w.heap.size w wr) (fun i _ => N - (intOf i).toNat)
    case atStart => exact ⟨0, by omega, rfl, fun j hj => by omega, Below.refl _ _⟩
    case round =>
      obtain ⟨k, hk, rfl, hz, hBr⟩ := hrel
      have HZ := Lib.hid hz
      have HBR := Lib.hid hBr
      have hszr := hBr.size
      clear hz hBr
      by_cases hlt : k < N
      · have l1 : k < a.length := by rw [← HN.out]; exact hlt
        have l2 : k < b.length := by rw [← HM.out]; exact hlt
        obtain ⟨g, o, rfl, q1, k1⟩ := (HCA.out.below HBR.out) (by omega)
        obtain ⟨g', o', rfl, q2, k2⟩ := (HCB.out.below HBR.out) (by omega)
        have y1 := k1 k l1
        have y2 := k2 k l2
        obtain ⟨x, hx⟩ : ∃ x, x = a.getD k 0 := ⟨_, rfl⟩
        obtain ⟨y, hy⟩ : ∃ y, y = b.getD k 0 := ⟨_, rfl⟩
        rw [← hx] at y1
        rw [← hy] at y2
        have HX := Lib.hid hx
        have HY := Lib.hid hy
        clear k1 k2 hx hy l1 l2
        by_cases hxy : x = y
        · subst hxy
          go_wp2
          refine Calm.tail_below 8 (by kernel_rfl) (by kernel_rfl) ?_
          simp only [List.take_succ_cons, List.take_zero, List.drop_succ_cons, List.drop_zero]
          repeat (first | (apply Calm.op_move; (focus rfl); (focus (first | exact .inl rfl | exact .inr rfl)); (focus ((try simp only [Act.eval, Array.getD_eq_getD_getElem?, List.getElem?_toArray, List.getElem?_cons_succ, List.getElem?_cons_zero, Option.getD_some]); rfl)); (try simp only [Act.put, List.setIfInBounds_toArray, List.set_cons_zero, List.set_cons_succ])) | (apply Calm.op_not; (focus rfl); (try simp only [Act.put, List.setIfInBounds_toArray, List.set_cons_zero, List.set_cons_succ])) | (apply Calm.op; (focus rfl); (focus (intro W hb; obtain ⟨hc, hf⟩ := bcell hb; clear hb hf; go_simp; (try go_bits); (try rfl); done)); (try simp only [Act.put, List.setIfInBounds_toArray, List.set_cons_zero, List.set_cons_succ])))
          refine wpQuiet_nil ?_
          intro w2 hb2
          obtain ⟨hb2c, hb2f⟩ := bcell hb2
          have hb2z := hb2.size
          (try simp at hb2z)
          (try have hb2z0 : w.heap.size < w2.heap.size := by omega)
          (try have hb2z1 : w.heap.size + 1 < w2.heap.size := by omega)
          (try have hb2z2 : w.heap.size + 1 + 1 < w2.heap.size := by omega)
          (try have hb2z3 : w.heap.size + 1 + 1 + 1 < w2.heap.size := by omega)
          (try have hb2z4 : w.heap.size + 1 + 1 + 1 + 1 < w2.heap.size := by omega)
          (try have hb2z5 : w.heap.size + 1 + 1 + 1 + 1 + 1 < w2.heap.size := by omega)
          go_wp2
          go_roundw
          case rel =>
            refine ⟨k + 1, by omega, by go_num, fun j hj => ?_, HBR.out.trans (hb2.mono hszr)⟩
            rcases Nat.lt_or_ge j k with h | h
            · exact HZ.out j h
            · obtain rfl : j = k := by omega
              rw [← HX.out, ← HY.out]
          case measure => simp [intOf]; omega
        · have HEE := Lib.hid (show E = false by
            rw [HE.out]
            refine decide_eq_false (fun e => hxy ?_)
            rw [HX.out, HY.out, e])
          go_wp2
          refine Calm.tail_below 8 (by kernel_rfl) (by kernel_rfl) ?_
          simp only [List.take_succ_cons, List.take_zero, List.drop_succ_cons, List.drop_zero]
          repeat (first | (apply Calm.op_move; (focus rfl); (focus (first | exact .inl rfl | exact .inr rfl)); (focus ((try simp only [Act.eval, Array.getD_eq_getD_getElem?, List.getElem?_toArray, List.getElem?_cons_succ, List.getElem?_cons_zero, Option.getD_some]); rfl)); (try simp only [Act.put, List.setIfInBounds_toArray, List.set_cons_zero, List.set_cons_succ])) | (apply Calm.op_not; (focus rfl); (try simp only [Act.put, List.setIfInBounds_toArray, List.set_cons_zero, List.set_cons_succ])) | (apply Calm.op; (focus rfl); (focus (intro W hb; obtain ⟨hc, hf⟩ := bcell hb; clear hb hf; go_simp; (try go_bits); (try rfl); done)); (try simp only [Act.put, List.setIfInBounds_toArray, List.set_cons_zero, List.set_cons_succ])))
          refine wpQuiet_nil ?_
          intro w2 hb2
          obtain ⟨hb2c, hb2f⟩ := bcell hb2
          have hb2z := hb2.size
          (try simp at hb2z)
          (try have hb2z0 : w.heap.size < w2.heap.size := by omega)
          (try have hb2z1 : w.heap.size + 1 < w2.heap.size := by omega)
          (try have hb2z2 : w.heap.size + 1 + 1 < w2.heap.size := by omega)
          (try have hb2z3 : w.heap.size + 1 + 1 + 1 < w2.heap.size := by omega)
          (try have hb2z4 : w.heap.size + 1 + 1 + 1 + 1 < w2.heap.size := by omega)
          (try have hb2z5 : w.heap.size + 1 + 1 + 1 + 1 + 1 < w2.heap.size := by omega)
          go_wp2
          go_ret
          exact ⟨by rw [HEE.out]; rfl, HBR.out.trans (hb2.mono hszr)⟩
      · obtain rfl : k = N := by omega
        have HEE := Lib.hid (show E = true by
          rw [HE.out]
          refine decide_eq_true (List.ext_getElem? fun i => ?_)
          have hl : a.length = b.length := HN.out.symm.trans HM.out
          rcases Nat.lt_or_ge i a.length with h | h
          · have := HZ.out i (by rw [HN.out]; exact h)
            simpa [h, show i < b.length by omega] using this
          · rw [List.getElem?_eq_none h, List.getElem?_eq_none (by omega)])
        go_wp2
        go_ret
        exact ⟨by rw [HEE.out]; rfl, HBR.out⟩
  · have HEE := Lib.hid (show E = false by
      rw [HE.out]
      refine decide_eq_false (fun e => hnm ?_)
      rw [HN.out, HM.out, e])
    have hnm2 : ¬ (N : Int) = (M : Int) := by omega
    go_enter Tryz.func23, Tryz.ntmps23
    go_wp2
    go_ret
    exact ⟨by rw [HEE.out]; rfl, Below.refl _ _⟩
end Go.Proofs.YtpkldjlljoledaaGreatDoor

/- A cheaper check that the order of the text may be taken in a region whose order is open (for great regions). -/
namespace Go.Proofs.YtpkldjlljoledaaGreatDoor
open Go.RowKit

def backAt (ops : Array Oper) (k : Nat) : Bool := match ops[k]? with
  | some o => o.after.all fun e => !Region.binds .any e || decide (e.on < k)
  | none => false
def fastHead (ops : Array Oper) (n : Nat) : Bool :=
  (List.range n).all fun k => match ops[k]? with
  | some ok => (ok.after.all fun e => !Region.binds .any e || decide (e.on < k)) && ((List.range ops.size).all fun j => decide (j ≤ k) || match ops[j]? with
      | some oj => oj.after.any (fun e => Region.binds .any e && e.on == k) || ok.apart ops oj
      | none => true)
  | none => false
theorem fastHead_at {ops : Array Oper} {n : Nat} (h : fastHead ops n = true) (k : Nat) (hk : k < n) : ∃ ok, ops[k]? = some ok ∧ (∀ e ∈ ok.after, Region.binds .any e = true → e.on < k) ∧
    ∀ j oj, ops[j]? = some oj → k < j → oj.after.any (fun e => Region.binds .any e && e.on == k) = true ∨ ok.apart ops oj = true := by
  have h1 := List.all_eq_true.1 h k (List.mem_range.2 hk)
  cases ho : ops[k]? with
  | none => simp [ho] at h1
  | some ok =>
    simp only [ho, Bool.and_eq_true] at h1
    refine ⟨ok, rfl, fun e he hb => ?_, fun j oj hj hkj => ?_⟩
    · have := Array.all_eq_true'.1 h1.1 e he
      simpa [hb] using this
    · have h2 := List.all_eq_true.1 h1.2 j (List.mem_range.2 (Array.getElem?_eq_some_iff.1 hj).1)
      simp only [hj] at h2
      have hn : decide (j ≤ k) = false := by simp; omega
      rw [hn, Bool.false_or, Bool.or_eq_true] at h2
      exact h2
theorem lexHead_of_fast {ops : Array Oper} {n g : Nat} (hn : n ≤ ops.size) (h : fastHead ops n = true) :
    ∀ (f k : Nat) (listed : Array Bool), k + f = n → listed.size = ops.size → (∀ j, listed.getD j false = decide (j < k)) →
      (∀ L : Array Bool, L.size = ops.size → (∀ j, L.getD j false = decide (j < n)) → Region.seqB .any ops g n L = true) → Region.lexHead .any ops g f k listed = true
  | 0, k, listed, hk, hs, hl, hT => by
    obtain rfl : k = n := by omega
    exact hT listed hs hl
  | f + 1, k, listed, hk, hs, hl, hT => by
    obtain ⟨ok, hok, hb, hfr⟩ := fastHead_at h k (by omega)
    have hks : k < listed.size := by omega
    have htrue : ∀ j, j < listed.size → listed.getD j true = decide (j < k) := by
      intro j hj
      have := hl j
      simpa [Array.getD, hj] using this
    unfold Region.lexHead
    simp only [Bool.and_eq_true]
    refine ⟨⟨?_, ?_⟩, ?_⟩
    · rw [List.contains_iff_mem]
      refine mem_ready.2 ⟨by rw [htrue k hks]; simp, ok, hok, fun e he hbe => by rw [hl]; simpa using hb e he hbe⟩
    · unfold Region.free
      simp only [hok, List.all_eq_true, List.mem_range]
      intro j hj
      rw [htrue j (by omega)]
      rcases Nat.lt_trichotomy j k with h1 | h1 | h1
      · simp [h1]
      · simp [h1]
      · cases hoj : ops[j]? with
        | none => simp
        | some oj =>
          rcases hfr j oj hoj h1 with h2 | h2
          · simp only [h2, Bool.true_or, Bool.or_true]
          · simp only [h2, Bool.or_true]
    · refine lexHead_of_fast hn h f (k + 1) _ (by omega) (by simp [hs]) (fun j => ?_) hT
      by_cases hjk : j = k
      · subst hjk
        simp [Array.getD, hks]
      · have := hl j
        have e : (listed.setIfInBounds k true).getD j false = listed.getD j false := by
          simp only [Array.getD_eq_getD_getElem?, Array.getElem?_setIfInBounds_ne (Ne.symm hjk)]
        rw [e, this]
        by_cases h2 : j < k
        · simp [h2, Nat.lt_succ_of_lt h2]
        · simp [h2]; omega
/-- the last of all is the tail. -/
theorem lexTail_of_fast {ops : Array Oper} {n : Nat} (h1 : Region.noSelect ops = true) (h2 : decide (n < ops.size) = true) (h3 : Region.sinkB .any ops n = true) (h4 : Region.chainB .any ops n = true) (h5 : fastHead ops n = true)
    (h6 : Region.seqB .any ops (ops.size - n) n (((List.range ops.size).map fun j => decide (j < n)).toArray) = true) : Region.lexTailB .any ops n = true := by
  unfold Region.lexTailB
  simp only [Bool.and_eq_true]
  refine ⟨⟨⟨⟨h1, h2⟩, h3⟩, h4⟩, lexHead_of_fast (by simpa using Nat.le_of_lt (of_decide_eq_true h2)) h5 n 0 _ (by omega) (by simp) (fun j => ?_) (fun L hL hl => ?_)⟩
  · rw [getD_replicate_false]; simp
  · have e : L = ((List.range ops.size).map fun j => decide (j < n)).toArray := by
      apply Array.ext
      · simp [hL]
      · intro j hj1 hj2
        have := hl j
        simp only [Array.getD, hj1, dite_true] at this
        simpa using this
    rw [e]
    exact h6
end Go.Proofs.YtpkldjlljoledaaGreatDoor
