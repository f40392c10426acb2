/- Part 13 of the texts of the claim: R3, G3. -/
import Derived.Test.YtpkldjlljoledaaGreatDoorMc10
import Derived.Test.YtpkldjlljoledaaGreatDoorMc12
import Derived.Test.YtpkldjlljoledaaGreatDoorMc9
import Derived.Test.YtpkldjlljoledaaGreatDoorMc11

/- Contracts of the reference's explains, Explains, Sweep; Short; SameReadings at equal lists. %still -/
namespace Go.Proofs.YtpkldjlljoledaaGreatDoor
open Go.RowKit
open Calm (bcell Blk)

theorem short_yes (A : Option Addr) (n c : Nat) (m : Int) (w : World) (h : (n : Int) ≤ m ∨ m < n ∧ n = 33) :
    Calls Tryz.prog 9 #[.slice A n c, (.int .i64 (m))] w fun r w' => r = .returned (.bool true) ∧ w = w' := by
  rcases h with h | ⟨h, rfl⟩
  · go_enter Tryz.func9, Tryz.ntmps9
    go_wp2
    go_ret
    exact ⟨by first | rfl | (simp; done), rfl⟩
  · go_enter Tryz.func9, Tryz.ntmps9
    go_wp2
    go_ret
    exact ⟨by first | rfl | (simp; done), rfl⟩
theorem short_no (A : Option Addr) (n c : Nat) (m : Int) (w : World) (h : m < n) (h2 : ¬ n = 33) :
    Calls Tryz.prog 9 #[.slice A n c, (.int .i64 (m))] w fun r w' => r = .returned (.bool false) ∧ w = w' := by
  have h3 : ¬ (n : Int) = 33 := by omega
  go_enter Tryz.func9, Tryz.ntmps9
  go_wp2
  go_ret
  exact ⟨by first | rfl | (simp; omega), rfl⟩

set_option maxRecDepth 100000 in
set_option maxHeartbeats 4000000 in
theorem refExplains_abs (re le bl ma st lo w0 a b n1 n2 m1 m2 N D : Int) (w : World)
    (HI : Hid (∀ W : World, Calls Tryz.prog 72 #[.agg #[(.int .i64 (re)), (.int .i64 (le)), (.int .i64 (bl)), (.int .i64 (ma)), (.int .i64 (st)), (.int .i64 (lo))], (.int .i64 (w0))] W fun r w' => r = .returned (.agg #[(.int .i64 (n1)), (.int .i64 (n2)), (.int .i64 (m1)), (.int .i64 (m2))]) ∧ Below W.heap.size W w'))
    (HS1 : Hid (∀ W : World, Calls Tryz.prog 73 #[.agg #[(.int .i64 (n1)), (.int .i64 (n2))]] W fun r w' => r = .returned (.int .i64 (N)) ∧ Below W.heap.size W w'))
    (HS2 : Hid (∀ W : World, Calls Tryz.prog 73 #[.agg #[(.int .i64 (m1)), (.int .i64 (m2))]] W fun r w' => r = .returned (.int .i64 (D)) ∧ Below W.heap.size W w'))
    (e1 : -1000000000000000 ≤ a * D) (e2 : a * D ≤ 1000000000000000) (e3 : -1000000000000000 ≤ b * D) (e4 : b * D ≤ 1000000000000000) :
    Calls Tryz.prog 71 #[.agg #[(.int .i64 (re)), (.int .i64 (le)), (.int .i64 (bl)), (.int .i64 (ma)), (.int .i64 (st)), (.int .i64 (lo))], .agg #[(.int .i64 (w0)), (.int .i64 (a)), (.int .i64 (b))]] w fun r w' => r = .returned (.bool (decide (a * D ≤ N ∧ N ≤ b * D))) ∧ Below w.heap.size w w' := by
  by_cases h1 : a * D ≤ N
  · by_cases h2 : N ≤ b * D
    · rw [decide_eq_true (⟨h1, h2⟩ : a * D ≤ N ∧ N ≤ b * D)]
      go_enter Tryz.func71, Tryz.ntmps71
      go_wp2_with (first | (go_at_call 72; refine (HI.out _).mono ?_; rintro r w1 ⟨rfl, hb⟩; obtain ⟨hc, hf⟩ := bcell hb; have hz := hb.size; (try simp at hz); (try have hz0 : w.heap.size < w1.heap.size := by omega); (try have hz1 : w.heap.size + 1 < w1.heap.size := by omega); (try have hz2 : w.heap.size + 1 + 1 < w1.heap.size := by omega); (try have hz3 : w.heap.size + 1 + 1 + 1 < w1.heap.size := by omega); (try have hz4 : w.heap.size + 1 + 1 + 1 + 1 < w1.heap.size := by omega); (try have hz5 : w.heap.size + 1 + 1 + 1 + 1 + 1 < w1.heap.size := by omega); (try have hz6 : w.heap.size + 1 + 1 + 1 + 1 + 1 + 1 < w1.heap.size := by omega)))
      refine Calm.still_tail 5 (by kernel_rfl) (by kernel_rfl) ?_
      simp only [List.take_succ_cons, List.take_zero, List.drop_succ_cons, List.drop_zero]
      repeat (first | (first | (apply Calm.still_op_move; (focus rfl); (focus (first | exact .inl rfl | exact .inr rfl)); (focus ((try simp only [Act.eval, Array.getD_eq_getD_getElem?, List.getElem?_toArray, List.getElem?_cons_succ, List.getElem?_cons_zero, Option.getD_some]); rfl)); (try simp only [Act.put, List.setIfInBounds_toArray, List.set_cons_zero, List.set_cons_succ])) | (apply Calm.still_op_not; (focus rfl); (try simp only [Act.put, List.setIfInBounds_toArray, List.set_cons_zero, List.set_cons_succ])) | (apply Calm.still_op; (focus rfl); (focus (intro W hb; obtain ⟨hc, hf⟩ := bcell hb; clear hb hf; go_simp; (try go_bits); (try rfl); done)); (try simp only [Act.put, List.setIfInBounds_toArray, List.set_cons_zero, List.set_cons_succ]))) | (apply Calm.still_op_call; (focus rfl); (focus (intro W hb; obtain ⟨hc, hf⟩ := bcell hb; clear hb hf; go_simp; refine ⟨?_, ?_⟩; rfl; rfl)); (focus (intro W hb; first | (go_at_call 73; exact Calm.call_below hb (HS1.out _)) | (go_at_call 73; exact Calm.call_below hb (HS2.out _)))); (try simp only [Act.put, List.setIfInBounds_toArray, List.set_cons_zero, List.set_cons_succ])))
      refine Calm.still_nil ?_
      intro w2 hb2
      obtain ⟨hb2c, hb2f⟩ := bcell hb2
      have hb2z := hb2.size
      (try simp at hb2z)
      (try have hb2z0 : w.heap.size < w2.heap.size := by omega)
      (try have hb2z1 : w.heap.size + 1 < w2.heap.size := by omega)
      (try have hb2z2 : w.heap.size + 1 + 1 < w2.heap.size := by omega)
      (try have hb2z3 : w.heap.size + 1 + 1 + 1 < w2.heap.size := by omega)
      (try have hb2z4 : w.heap.size + 1 + 1 + 1 + 1 < w2.heap.size := by omega)
      (try have hb2z5 : w.heap.size + 1 + 1 + 1 + 1 + 1 < w2.heap.size := by omega)
      go_wp2_with (first | (go_at_call 73; refine (HS2.out _).mono ?_; rintro r w1 ⟨rfl, hb⟩; obtain ⟨hc, hf⟩ := bcell hb; have hz := hb.size; (try simp at hz); (try have hz0 : w.heap.size < w1.heap.size := by omega); (try have hz1 : w.heap.size + 1 < w1.heap.size := by omega); (try have hz2 : w.heap.size + 1 + 1 < w1.heap.size := by omega); (try have hz3 : w.heap.size + 1 + 1 + 1 < w1.heap.size := by omega); (try have hz4 : w.heap.size + 1 + 1 + 1 + 1 < w1.heap.size := by omega); (try have hz5 : w.heap.size + 1 + 1 + 1 + 1 + 1 < w1.heap.size := by omega); (try have hz6 : w.heap.size + 1 + 1 + 1 + 1 + 1 + 1 < w1.heap.size := by omega)))
      go_ret
      refine ⟨by first | rfl | (simp; omega), ?_⟩
      repeat (first | (with_reducible exact Below.refl _ _) | ((with_reducible refine Below.setCell ?_ ?_ _); rotate_left 1; focus (first | (simp; done) | (simp; omega) | (simp at *; omega))) | ((with_reducible refine Below.alloc ?_ ?_ _); rotate_left 1; focus (first | (simp; done) | (simp; omega) | (simp at *; omega))) | (with_reducible refine Below.drew ?_) | ((with_reducible refine Calm.step (by assumption) ?_ ?_); rotate_left 1; focus (first | (simp; done) | (simp; omega) | (simp at *; omega))))
    · rw [decide_eq_false (show ¬ (a * D ≤ N ∧ N ≤ b * D) from fun h => h2 h.2)]
      go_enter Tryz.func71, Tryz.ntmps71
      go_wp2_with (first | (go_at_call 72; refine (HI.out _).mono ?_; rintro r w1 ⟨rfl, hb⟩; obtain ⟨hc, hf⟩ := bcell hb; have hz := hb.size; (try simp at hz); (try have hz0 : w.heap.size < w1.heap.size := by omega); (try have hz1 : w.heap.size + 1 < w1.heap.size := by omega); (try have hz2 : w.heap.size + 1 + 1 < w1.heap.size := by omega); (try have hz3 : w.heap.size + 1 + 1 + 1 < w1.heap.size := by omega); (try have hz4 : w.heap.size + 1 + 1 + 1 + 1 < w1.heap.size := by omega); (try have hz5 : w.heap.size + 1 + 1 + 1 + 1 + 1 < w1.heap.size := by omega); (try have hz6 : w.heap.size + 1 + 1 + 1 + 1 + 1 + 1 < w1.heap.size := by omega)))
      refine Calm.still_tail 5 (by kernel_rfl) (by kernel_rfl) ?_
      simp only [List.take_succ_cons, List.take_zero, List.drop_succ_cons, List.drop_zero]
      repeat (first | (first | (apply Calm.still_op_move; (focus rfl); (focus (first | exact .inl rfl | exact .inr rfl)); (focus ((try simp only [Act.eval, Array.getD_eq_getD_getElem?, List.getElem?_toArray, List.getElem?_cons_succ, List.getElem?_cons_zero, Option.getD_some]); rfl)); (try simp only [Act.put, List.setIfInBounds_toArray, List.set_cons_zero, List.set_cons_succ])) | (apply Calm.still_op_not; (focus rfl); (try simp only [Act.put, List.setIfInBounds_toArray, List.set_cons_zero, List.set_cons_succ])) | (apply Calm.still_op; (focus rfl); (focus (intro W hb; obtain ⟨hc, hf⟩ := bcell hb; clear hb hf; go_simp; (try go_bits); (try rfl); done)); (try simp only [Act.put, List.setIfInBounds_toArray, List.set_cons_zero, List.set_cons_succ]))) | (apply Calm.still_op_call; (focus rfl); (focus (intro W hb; obtain ⟨hc, hf⟩ := bcell hb; clear hb hf; go_simp; refine ⟨?_, ?_⟩; rfl; rfl)); (focus (intro W hb; first | (go_at_call 73; exact Calm.call_below hb (HS1.out _)) | (go_at_call 73; exact Calm.call_below hb (HS2.out _)))); (try simp only [Act.put, List.setIfInBounds_toArray, List.set_cons_zero, List.set_cons_succ])))
      refine Calm.still_nil ?_
      intro w2 hb2
      obtain ⟨hb2c, hb2f⟩ := bcell hb2
      have hb2z := hb2.size
      (try simp at hb2z)
      (try have hb2z0 : w.heap.size < w2.heap.size := by omega)
      (try have hb2z1 : w.heap.size + 1 < w2.heap.size := by omega)
      (try have hb2z2 : w.heap.size + 1 + 1 < w2.heap.size := by omega)
      (try have hb2z3 : w.heap.size + 1 + 1 + 1 < w2.heap.size := by omega)
      (try have hb2z4 : w.heap.size + 1 + 1 + 1 + 1 < w2.heap.size := by omega)
      (try have hb2z5 : w.heap.size + 1 + 1 + 1 + 1 + 1 < w2.heap.size := by omega)
      go_wp2_with (first | (go_at_call 73; refine (HS2.out _).mono ?_; rintro r w1 ⟨rfl, hb⟩; obtain ⟨hc, hf⟩ := bcell hb; have hz := hb.size; (try simp at hz); (try have hz0 : w.heap.size < w1.heap.size := by omega); (try have hz1 : w.heap.size + 1 < w1.heap.size := by omega); (try have hz2 : w.heap.size + 1 + 1 < w1.heap.size := by omega); (try have hz3 : w.heap.size + 1 + 1 + 1 < w1.heap.size := by omega); (try have hz4 : w.heap.size + 1 + 1 + 1 + 1 < w1.heap.size := by omega); (try have hz5 : w.heap.size + 1 + 1 + 1 + 1 + 1 < w1.heap.size := by omega); (try have hz6 : w.heap.size + 1 + 1 + 1 + 1 + 1 + 1 < w1.heap.size := by omega)))
      go_ret
      refine ⟨by first | rfl | (simp; omega), ?_⟩
      repeat (first | (with_reducible exact Below.refl _ _) | ((with_reducible refine Below.setCell ?_ ?_ _); rotate_left 1; focus (first | (simp; done) | (simp; omega) | (simp at *; omega))) | ((with_reducible refine Below.alloc ?_ ?_ _); rotate_left 1; focus (first | (simp; done) | (simp; omega) | (simp at *; omega))) | (with_reducible refine Below.drew ?_) | ((with_reducible refine Calm.step (by assumption) ?_ ?_); rotate_left 1; focus (first | (simp; done) | (simp; omega) | (simp at *; omega))))
  · rw [decide_eq_false (show ¬ (a * D ≤ N ∧ N ≤ b * D) from fun h => h1 h.1)]
    go_enter Tryz.func71, Tryz.ntmps71
    go_wp2_with (first | (go_at_call 72; refine (HI.out _).mono ?_; rintro r w1 ⟨rfl, hb⟩; obtain ⟨hc, hf⟩ := bcell hb; have hz := hb.size; (try simp at hz); (try have hz0 : w.heap.size < w1.heap.size := by omega); (try have hz1 : w.heap.size + 1 < w1.heap.size := by omega); (try have hz2 : w.heap.size + 1 + 1 < w1.heap.size := by omega); (try have hz3 : w.heap.size + 1 + 1 + 1 < w1.heap.size := by omega); (try have hz4 : w.heap.size + 1 + 1 + 1 + 1 < w1.heap.size := by omega); (try have hz5 : w.heap.size + 1 + 1 + 1 + 1 + 1 < w1.heap.size := by omega); (try have hz6 : w.heap.size + 1 + 1 + 1 + 1 + 1 + 1 < w1.heap.size := by omega)))
    refine Calm.still_tail 5 (by kernel_rfl) (by kernel_rfl) ?_
    simp only [List.take_succ_cons, List.take_zero, List.drop_succ_cons, List.drop_zero]
    repeat (first | (first | (apply Calm.still_op_move; (focus rfl); (focus (first | exact .inl rfl | exact .inr rfl)); (focus ((try simp only [Act.eval, Array.getD_eq_getD_getElem?, List.getElem?_toArray, List.getElem?_cons_succ, List.getElem?_cons_zero, Option.getD_some]); rfl)); (try simp only [Act.put, List.setIfInBounds_toArray, List.set_cons_zero, List.set_cons_succ])) | (apply Calm.still_op_not; (focus rfl); (try simp only [Act.put, List.setIfInBounds_toArray, List.set_cons_zero, List.set_cons_succ])) | (apply Calm.still_op; (focus rfl); (focus (intro W hb; obtain ⟨hc, hf⟩ := bcell hb; clear hb hf; go_simp; (try go_bits); (try rfl); done)); (try simp only [Act.put, List.setIfInBounds_toArray, List.set_cons_zero, List.set_cons_succ]))) | (apply Calm.still_op_call; (focus rfl); (focus (intro W hb; obtain ⟨hc, hf⟩ := bcell hb; clear hb hf; go_simp; refine ⟨?_, ?_⟩; rfl; rfl)); (focus (intro W hb; first | (go_at_call 73; exact Calm.call_below hb (HS1.out _)) | (go_at_call 73; exact Calm.call_below hb (HS2.out _)))); (try simp only [Act.put, List.setIfInBounds_toArray, List.set_cons_zero, List.set_cons_succ])))
    refine Calm.still_nil ?_
    intro w2 hb2
    obtain ⟨hb2c, hb2f⟩ := bcell hb2
    have hb2z := hb2.size
    (try simp at hb2z)
    (try have hb2z0 : w.heap.size < w2.heap.size := by omega)
    (try have hb2z1 : w.heap.size + 1 < w2.heap.size := by omega)
    (try have hb2z2 : w.heap.size + 1 + 1 < w2.heap.size := by omega)
    (try have hb2z3 : w.heap.size + 1 + 1 + 1 < w2.heap.size := by omega)
    (try have hb2z4 : w.heap.size + 1 + 1 + 1 + 1 < w2.heap.size := by omega)
    (try have hb2z5 : w.heap.size + 1 + 1 + 1 + 1 + 1 < w2.heap.size := by omega)
    go_wp2_with (first | (go_at_call 73; refine (HS2.out _).mono ?_; rintro r w1 ⟨rfl, hb⟩; obtain ⟨hc, hf⟩ := bcell hb; have hz := hb.size; (try simp at hz); (try have hz0 : w.heap.size < w1.heap.size := by omega); (try have hz1 : w.heap.size + 1 < w1.heap.size := by omega); (try have hz2 : w.heap.size + 1 + 1 < w1.heap.size := by omega); (try have hz3 : w.heap.size + 1 + 1 + 1 < w1.heap.size := by omega); (try have hz4 : w.heap.size + 1 + 1 + 1 + 1 < w1.heap.size := by omega); (try have hz5 : w.heap.size + 1 + 1 + 1 + 1 + 1 < w1.heap.size := by omega); (try have hz6 : w.heap.size + 1 + 1 + 1 + 1 + 1 + 1 < w1.heap.size := by omega)))
    go_ret
    refine ⟨by first | rfl | (simp; omega), ?_⟩
    repeat (first | (with_reducible exact Below.refl _ _) | ((with_reducible refine Below.setCell ?_ ?_ _); rotate_left 1; focus (first | (simp; done) | (simp; omega) | (simp at *; omega))) | ((with_reducible refine Below.alloc ?_ ?_ _); rotate_left 1; focus (first | (simp; done) | (simp; omega) | (simp at *; omega))) | (with_reducible refine Below.drew ?_) | ((with_reducible refine Calm.step (by assumption) ?_ ?_); rotate_left 1; focus (first | (simp; done) | (simp; omega) | (simp at *; omega))))
theorem square_vN {re le bl ma st lo w0 : Int} (hF : Fit re le bl ma st lo w0) (W : World) : Calls Tryz.prog 73 #[.agg #[(.int .i64 (nRe re le bl ma st lo w0)), (.int .i64 (nIm re le bl ma st lo w0))]] W fun r w' => r = .returned (.int .i64 (vN re le bl ma st lo w0)) ∧ Below W.heap.size W w' := by
  obtain ⟨⟨n1, n2⟩, ⟨n3, n4⟩⟩ := hF.num
  exact qSquare_any _ _ W ⟨by omega, by omega⟩ ⟨by omega, by omega⟩
theorem square_vD {re le bl ma st lo w0 : Int} (hF : Fit re le bl ma st lo w0) (W : World) : Calls Tryz.prog 73 #[.agg #[(.int .i64 (mRe st ma w0)), (.int .i64 (mIm lo w0))]] W fun r w' => r = .returned (.int .i64 (vD ma st lo w0)) ∧ Below W.heap.size W w' := by
  obtain ⟨⟨m1, m2⟩, ⟨m3, m4⟩⟩ := hF.mech
  exact qSquare_any _ _ W ⟨by omega, by omega⟩ ⟨by omega, by omega⟩
theorem refExplains1_any (re le bl ma st lo w0 a b : Int) (w : World) (hF : Fit re le bl ma st lo w0) (ha : 0 ≤ a ∧ a ≤ 1000000) (hb' : 0 ≤ b ∧ b ≤ 1000000) :
    Calls Tryz.prog 71 #[.agg #[(.int .i64 (re)), (.int .i64 (le)), (.int .i64 (bl)), (.int .i64 (ma)), (.int .i64 (st)), (.int .i64 (lo))], .agg #[(.int .i64 (w0)), (.int .i64 (a)), (.int .i64 (b))]] w fun r w' => r = .returned (.bool (fitB re le bl ma st lo w0 a b)) ∧ Below w.heap.size w w' := by
  obtain ⟨⟨v1, v2⟩, v3, v4⟩ := v_bds hF
  have qa : Bd 1000000 a := ⟨by omega, by omega⟩
  have qb : Bd 1000000 b := ⟨by omega, by omega⟩
  have qd : Bd 800000000 (vD ma st lo w0) := ⟨by omega, by omega⟩
  obtain ⟨e1, e2⟩ := qa.mul qd (by omega)
  obtain ⟨e3, e4⟩ := qb.mul qd (by omega)
  exact refExplains_abs re le bl ma st lo w0 a b _ _ _ _ (vN re le bl ma st lo w0) (vD ma st lo w0) w (Lib.hid (fun W => refImpedance_any re le bl ma st lo w0 W hF)) (Lib.hid (square_vN hF)) (Lib.hid (square_vD hF)) (by omega) (by omega) (by omega) (by omega)

set_option maxRecDepth 100000 in
set_option maxHeartbeats 4000000 in
theorem refExplains_any (re le bl ma st lo : Int) (A : Option Addr) (zs : List (Int × Int × Int)) (c : Nat) (w : World) (hd : drvErr re le bl ma st lo = 0) (hC : RCells w A zs) (hn : zs.length ≤ 1000) (hz : ∀ k, k < zs.length → readErr (zs.getD k (0, 0, 0)).1 (zs.getD k (0, 0, 0)).2.1 (zs.getD k (0, 0, 0)).2.2 = 0) :
    Calls Tryz.prog 29 #[.agg #[(.int .i64 (re)), (.int .i64 (le)), (.int .i64 (bl)), (.int .i64 (ma)), (.int .i64 (st)), (.int .i64 (lo))], .slice A zs.length c] w fun r w' => r = .returned (.bool (explB re le bl ma st lo zs)) ∧ Below w.heap.size w w' := by
  have HZ := Lib.hid hz
  have HC := Lib.hid hC
  have HD := Lib.hid hd
  obtain ⟨N, hN⟩ : ∃ N, N = zs.length := ⟨_, rfl⟩
  have HN := Lib.hid hN
  obtain ⟨R, hR⟩ : ∃ R, R = explB re le bl ma st lo zs := ⟨_, rfl⟩
  have HR := Lib.hid hR
  rw [← hN] at hn ⊢
  rw [← hR]
  clear hz hC hd hN hR
  go_enter Tryz.func29, Tryz.ntmps29
  go_wp2
  go_loopw [5] (fun i wr => ∃ k : Nat, k ≤ N ∧ i = (.int .i64 (k)) ∧ (∀ j, j < k → fitB re le bl ma st lo (zs.getD j (0, 0, 0)).1 (zs.getD j (0, 0, 0)).2.1 (zs.getD j (0, 0, 0)).2.2 = true) ∧ Below w.heap.size w wr ∧ Blk wr w.heap.size #[(.int .i64 (re)), (.int .i64 (le)), (.int .i64 (bl)), (.int .i64 (ma)), (.int .i64 (st)), (.int .i64 (lo))]) (fun i _ => N - (intOf i).toNat)
  case atStart => exact ⟨0, Nat.zero_le _, rfl, fun j hj => by omega, by (repeat (first | (with_reducible exact Below.refl _ _) | ((with_reducible refine Below.setCell ?_ ?_ _); rotate_left 1; focus (first | (simp; done) | (simp; omega) | (simp at *; omega))) | ((with_reducible refine Below.alloc ?_ ?_ _); rotate_left 1; focus (first | (simp; done) | (simp; omega) | (simp at *; omega))) | (with_reducible refine Below.drew ?_) | ((with_reducible refine Calm.step (by assumption) ?_ ?_); rotate_left 1; focus (first | (simp; done) | (simp; omega) | (simp at *; omega))))), by (repeat (first | ((with_reducible refine Blk.at_ ?_); focus (first | rfl | (simp; done) | (simp; omega))) | (with_reducible refine Blk.alloc ?_ _) | (with_reducible refine Blk.below ?_ (by with_reducible assumption)) | (with_reducible refine Blk.drew ?_)))⟩
  case round =>
    obtain ⟨k, hk, rfl, hfit, hB, K⟩ := hrel
    have HF := Lib.hid hfit
    have HB := Lib.hid hB
    have HK := Lib.hid K
    have hsz := hB.size
    obtain ⟨d0, d1, d2, d3, d4, d5, dl, -⟩ := K.o6
    clear hfit K
    by_cases hlt : k < N
    · have hlt2 : k < zs.length := by rw [← HN.out]; exact hlt
      have hE := HZ.out k hlt2
      obtain ⟨b, o, rfl, l1, k1⟩ := HC.out (by omega)
      obtain ⟨x1, x2, x3⟩ := k1 k hlt2
      have x1 := (hB.cell (p := ⟨b, o + k * 3, none⟩) l1).trans x1
      have x2 := (hB.cell (p := ⟨b, o + k * 3 + 1, none⟩) l1).trans x2
      have x3 := (hB.cell (p := ⟨b, o + k * 3 + 2, none⟩) l1).trans x3
      have hbl : b < wr.heap.size := by omega
      clear k1 hB
      obtain ⟨⟨x, y, z⟩, hx⟩ : ∃ x, x = zs.getD k (0, 0, 0) := ⟨_, rfl⟩
      rw [← hx] at x1 x2 x3 hE
      have HX := Lib.hid hx
      clear hx
      simp only [] at x1 x2 x3 hE
      obtain ⟨q1, q2, q3, _⟩ := readErr_zero hE
      have hFit := Lib.hid (fit_of HD.out q1)
      clear hE
      cases hf : fitB re le bl ma st lo x y z
      · have HE1 : Hid (∀ W : World, Calls Tryz.prog 71 #[.agg #[(.int .i64 (re)), (.int .i64 (le)), (.int .i64 (bl)), (.int .i64 (ma)), (.int .i64 (st)), (.int .i64 (lo))], .agg #[(.int .i64 (x)), (.int .i64 (y)), (.int .i64 (z))]] W fun r w' => r = .returned (.bool false) ∧ Below W.heap.size W w') := Lib.hid (fun W => by have := refExplains1_any re le bl ma st lo x y z W hFit.out q2 q3; rwa [hf] at this)
        have HRF := Lib.hid (show R = false by
          rw [HR.out]
          unfold explB
          rw [Bool.eq_false_iff]
          intro hall
          have h2 := List.all_eq_true.1 hall (zs.getD k (0, 0, 0)) (by rw [List.getD_eq_getElem?_getD, List.getElem?_eq_getElem hlt2, Option.getD_some]; exact List.getElem_mem _)
          rw [← HX.out] at h2
          simp only [] at h2
          rw [hf] at h2
          cases h2)
        clear hf
        go_wp2
        refine Calm.still_tail 5 (by kernel_rfl) (by kernel_rfl) ?_
        simp only [List.take_succ_cons, List.take_zero, List.drop_succ_cons, List.drop_zero]
        repeat (first | (apply Calm.still_op_move; (focus rfl); (focus (first | exact .inl rfl | exact .inr rfl)); (focus ((try simp only [Act.eval, Array.getD_eq_getD_getElem?, List.getElem?_toArray, List.getElem?_cons_succ, List.getElem?_cons_zero, Option.getD_some]); rfl)); (try simp only [Act.put, List.setIfInBounds_toArray, List.set_cons_zero, List.set_cons_succ])) | (apply Calm.still_op_not; (focus rfl); (try simp only [Act.put, List.setIfInBounds_toArray, List.set_cons_zero, List.set_cons_succ])) | (apply Calm.still_op; (focus rfl); (focus (intro W hb; obtain ⟨hc, hf⟩ := bcell hb; clear hb hf; go_simp; (try go_bits); (try rfl); done)); (try simp only [Act.put, List.setIfInBounds_toArray, List.set_cons_zero, List.set_cons_succ])))
        refine Calm.still_nil ?_
        intro w2 hb2
        obtain ⟨hb2c, hb2f⟩ := bcell hb2
        have hb2z := hb2.size
        (try simp at hb2z)
        (try have hb2z0 : w.heap.size < w2.heap.size := by omega)
        (try have hb2z1 : w.heap.size + 1 < w2.heap.size := by omega)
        (try have hb2z2 : w.heap.size + 1 + 1 < w2.heap.size := by omega)
        (try have hb2z3 : w.heap.size + 1 + 1 + 1 < w2.heap.size := by omega)
        (try have hb2z4 : w.heap.size + 1 + 1 + 1 + 1 < w2.heap.size := by omega)
        (try have hb2z5 : w.heap.size + 1 + 1 + 1 + 1 + 1 < w2.heap.size := by omega)
        go_wp2_with (first | (go_at_call 71; refine (HE1.out _).mono ?_; rintro r w1 ⟨rfl, hb⟩; obtain ⟨hc, hf⟩ := bcell hb; have hz := hb.size; (try simp at hz); (try have hz0 : w.heap.size < w1.heap.size := by omega); (try have hz1 : w.heap.size + 1 < w1.heap.size := by omega); (try have hz2 : w.heap.size + 1 + 1 < w1.heap.size := by omega); (try have hz3 : w.heap.size + 1 + 1 + 1 < w1.heap.size := by omega); (try have hz4 : w.heap.size + 1 + 1 + 1 + 1 < w1.heap.size := by omega); (try have hz5 : w.heap.size + 1 + 1 + 1 + 1 + 1 < w1.heap.size := by omega); (try have hz6 : w.heap.size + 1 + 1 + 1 + 1 + 1 + 1 < w1.heap.size := by omega)))
        go_ret
        exact ⟨by rw [HRF.out]; rfl, (HB.out.trans (hb2.mono hsz)).trans (hb.mono (Nat.le_trans hsz hb2.size))⟩
      · have HE1 : Hid (∀ W : World, Calls Tryz.prog 71 #[.agg #[(.int .i64 (re)), (.int .i64 (le)), (.int .i64 (bl)), (.int .i64 (ma)), (.int .i64 (st)), (.int .i64 (lo))], .agg #[(.int .i64 (x)), (.int .i64 (y)), (.int .i64 (z))]] W fun r w' => r = .returned (.bool true) ∧ Below W.heap.size W w') := Lib.hid (fun W => by have := refExplains1_any re le bl ma st lo x y z W hFit.out q2 q3; rwa [hf] at this)
        have HFF := Lib.hid hf
        clear hf
        go_wp2
        refine Calm.still_tail 5 (by kernel_rfl) (by kernel_rfl) ?_
        simp only [List.take_succ_cons, List.take_zero, List.drop_succ_cons, List.drop_zero]
        repeat (first | (apply Calm.still_op_move; (focus rfl); (focus (first | exact .inl rfl | exact .inr rfl)); (focus ((try simp only [Act.eval, Array.getD_eq_getD_getElem?, List.getElem?_toArray, List.getElem?_cons_succ, List.getElem?_cons_zero, Option.getD_some]); rfl)); (try simp only [Act.put, List.setIfInBounds_toArray, List.set_cons_zero, List.set_cons_succ])) | (apply Calm.still_op_not; (focus rfl); (try simp only [Act.put, List.setIfInBounds_toArray, List.set_cons_zero, List.set_cons_succ])) | (apply Calm.still_op; (focus rfl); (focus (intro W hb; obtain ⟨hc, hf⟩ := bcell hb; clear hb hf; go_simp; (try go_bits); (try rfl); done)); (try simp only [Act.put, List.setIfInBounds_toArray, List.set_cons_zero, List.set_cons_succ])))
        refine Calm.still_nil ?_
        intro w2 hb2
        obtain ⟨hb2c, hb2f⟩ := bcell hb2
        have hb2z := hb2.size
        (try simp at hb2z)
        (try have hb2z0 : w.heap.size < w2.heap.size := by omega)
        (try have hb2z1 : w.heap.size + 1 < w2.heap.size := by omega)
        (try have hb2z2 : w.heap.size + 1 + 1 < w2.heap.size := by omega)
        (try have hb2z3 : w.heap.size + 1 + 1 + 1 < w2.heap.size := by omega)
        (try have hb2z4 : w.heap.size + 1 + 1 + 1 + 1 < w2.heap.size := by omega)
        (try have hb2z5 : w.heap.size + 1 + 1 + 1 + 1 + 1 < w2.heap.size := by omega)
        go_wp2_with (first | (go_at_call 71; refine (HE1.out _).mono ?_; rintro r w1 ⟨rfl, hb⟩; obtain ⟨hc, hf⟩ := bcell hb; have hz := hb.size; (try simp at hz); (try have hz0 : w.heap.size < w1.heap.size := by omega); (try have hz1 : w.heap.size + 1 < w1.heap.size := by omega); (try have hz2 : w.heap.size + 1 + 1 < w1.heap.size := by omega); (try have hz3 : w.heap.size + 1 + 1 + 1 < w1.heap.size := by omega); (try have hz4 : w.heap.size + 1 + 1 + 1 + 1 < w1.heap.size := by omega); (try have hz5 : w.heap.size + 1 + 1 + 1 + 1 + 1 < w1.heap.size := by omega); (try have hz6 : w.heap.size + 1 + 1 + 1 + 1 + 1 + 1 < w1.heap.size := by omega)))
        go_roundw
        case rel => exact ⟨k + 1, by omega, by go_num, fun j hj => by
          rcases Nat.lt_or_ge j k with h | h
          · exact HF.out j h
          · obtain rfl : j = k := by omega
            rw [← HX.out]; exact HFF.out, (HB.out.trans (hb2.mono hsz)).trans (hb.mono (Nat.le_trans hsz hb2.size)), (HK.out.below hb2).below hb⟩
        case measure => simp [intOf]; omega
    · obtain rfl : k = N := by omega
      clear hB
      have HRT := Lib.hid (show R = true by
        rw [HR.out]
        unfold explB
        rw [List.all_eq_true]
        intro r hr
        obtain ⟨j, hj, rfl⟩ := List.mem_iff_getElem.1 hr
        have := HF.out j (by rw [HN.out]; exact hj)
        rwa [List.getD_eq_getElem?_getD, List.getElem?_eq_getElem hj, Option.getD_some] at this)
      go_wp2
      go_ret
      exact ⟨by rw [HRT.out]; rfl, HB.out⟩

set_option maxRecDepth 100000 in
set_option maxHeartbeats 4000000 in
theorem sameReadings_eq (A B : Option Addr) (zs : List (Int × Int × Int)) (ca cb : Nat) (w : World) (hn : zs.length ≤ 100000) (hA : RCells w A zs) (hB : RCells w B zs) :
    Calls Tryz.prog 32 #[.slice A zs.length ca, .slice B zs.length cb] w fun x w' => x = .returned (.bool true) ∧ Below w.heap.size w w' := by
  have HCA := Lib.hid hA
  have HCB := Lib.hid hB
  obtain ⟨N, hN⟩ : ∃ N, N = zs.length := ⟨_, rfl⟩
  have HN := Lib.hid hN
  rw [← hN] at hn ⊢
  clear hA hB hN
  go_enter Tryz.func32, Tryz.ntmps32
  go_wp2
  go_loopw [5] (fun i wr => ∃ k : Nat, k ≤ N ∧ i = (.int .i64 ((k : Nat))) ∧ Below w.heap.size w wr) (fun i _ => N - (intOf i).toNat)
  case atStart => exact ⟨0, by omega, rfl, Below.refl _ _⟩
  case round =>
    obtain ⟨k, hk, rfl, hBr⟩ := hrel
    have HBR := Lib.hid hBr
    have hszr := hBr.size
    clear hBr
    by_cases hlt : k < N
    · have l1 : k < zs.length := by rw [← HN.out]; exact hlt
      obtain ⟨g, o, rfl, q1, k1⟩ := (HCA.out.below HBR.out) (by omega)
      obtain ⟨g', o', rfl, q2, k2⟩ := (HCB.out.below HBR.out) (by omega)
      obtain ⟨y1, y2, y3⟩ := k1 k l1
      obtain ⟨z1, z2, z3⟩ := k2 k l1
      clear k1 k2 l1
      obtain ⟨⟨x, y, z⟩, hx⟩ : ∃ x, x = zs.getD k (0, 0, 0) := ⟨_, rfl⟩
      rw [← hx] at y1 y2 y3 z1 z2 z3
      clear hx
      simp only [] at y1 y2 y3 z1 z2 z3
      go_wp2
      refine Calm.still_tail 8 (by kernel_rfl) (by kernel_rfl) ?_
      simp only [List.take_succ_cons, List.take_zero, List.drop_succ_cons, List.drop_zero]
      repeat (first | (apply Calm.still_op_move; (focus rfl); (focus (first | exact .inl rfl | exact .inr rfl)); (focus ((try simp only [Act.eval, Array.getD_eq_getD_getElem?, List.getElem?_toArray, List.getElem?_cons_succ, List.getElem?_cons_zero, Option.getD_some]); rfl)); (try simp only [Act.put, List.setIfInBounds_toArray, List.set_cons_zero, List.set_cons_succ])) | (apply Calm.still_op_not; (focus rfl); (try simp only [Act.put, List.setIfInBounds_toArray, List.set_cons_zero, List.set_cons_succ])) | (apply Calm.still_op; (focus rfl); (focus (intro W hb; obtain ⟨hc, hf⟩ := bcell hb; clear hb hf; go_simp; (try go_bits); (try rfl); done)); (try simp only [Act.put, List.setIfInBounds_toArray, List.set_cons_zero, List.set_cons_succ])))
      refine Calm.still_nil ?_
      intro w2 hb2
      obtain ⟨hb2c, hb2f⟩ := bcell hb2
      have hb2z := hb2.size
      (try simp at hb2z)
      (try have hb2z0 : w.heap.size < w2.heap.size := by omega)
      (try have hb2z1 : w.heap.size + 1 < w2.heap.size := by omega)
      (try have hb2z2 : w.heap.size + 1 + 1 < w2.heap.size := by omega)
      (try have hb2z3 : w.heap.size + 1 + 1 + 1 < w2.heap.size := by omega)
      (try have hb2z4 : w.heap.size + 1 + 1 + 1 + 1 < w2.heap.size := by omega)
      (try have hb2z5 : w.heap.size + 1 + 1 + 1 + 1 + 1 < w2.heap.size := by omega)
      go_wp2
      go_roundw
      case rel => exact ⟨k + 1, by omega, by go_num, HBR.out.trans (hb2.mono hszr)⟩
      case measure => simp [intOf]; omega
    · obtain rfl : k = N := by omega
      go_wp2
      go_ret
      exact ⟨rfl, HBR.out⟩
end Go.Proofs.YtpkldjlljoledaaGreatDoor

/- Contracts of the reference's Explaining and Region. -/
namespace Go.Proofs.YtpkldjlljoledaaGreatDoor
open Go.RowKit
open Calm (bcell Blk)

theorem filter_succ {α : Type} (p : α → Bool) {xs : List α} {k : Nat} (d : α) (hk : k < xs.length) : (xs.take (k + 1)).filter p = (xs.take k).filter p ++ (if p (xs.getD k d) = true then [xs.getD k d] else []) := by
  rw [List.take_succ_eq_append_getElem hk, List.filter_append, List.getD_eq_getElem?_getD, List.getElem?_eq_getElem hk, Option.getD_some]
  by_cases h : p xs[k] = true <;> simp [h]
set_option maxRecDepth 100000 in
set_option maxHeartbeats 8000000 in
theorem refExplaining_any (re le bl ma st lo m k r : Int) (A : Option Addr) (zs : List (Int × Int × Int)) (c : Nat) (w : World) (h : classErr re le bl ma st lo m k r = 0) (hC : RCells w A zs) (hn : zs.length ≤ 1000)
    (hz : ∀ k, k < zs.length → readErr (zs.getD k (0, 0, 0)).1 (zs.getD k (0, 0, 0)).2.1 (zs.getD k (0, 0, 0)).2.2 = 0) :
    Calls Tryz.prog 59 #[.agg #[(.int .i64 (re)), (.int .i64 (le)), (.int .i64 (bl)), (.int .i64 (ma)), (.int .i64 (st)), (.int .i64 (lo)), (.int .i64 (m)), (.int .i64 (k)), (.int .i64 (r))], .slice A zs.length c] w fun x w' => ∃ B e, x = .returned (.slice B (regD re le bl ma st lo m k r zs).length e) ∧ DCells w' B re le bl (regD re le bl ma st lo m k r zs) ∧ Below w.heap.size w w' := by
  obtain ⟨i0, hi, iz0, iz1, iz2⟩ := info_parts Tryz.infoE
  have hlen := drvs_bound h
  obtain ⟨hp, _⟩ := classErr_zero h
  obtain ⟨hd, hA, hB, hD⟩ := class_zero hp
  obtain ⟨_, _, _, d1, d2, d3⟩ := drvErr_zero hd
  have hAll : ∀ W : World, Calls Tryz.prog 101 #[.agg #[(.int .i64 (re)), (.int .i64 (le)), (.int .i64 (bl)), (.int .i64 (ma)), (.int .i64 (st)), (.int .i64 (lo)), (.int .i64 (m)), (.int .i64 (k)), (.int .i64 (r))]] W fun x w' => ∃ B e, x = .returned (.slice B (drvs ma st lo m k r).length e) ∧ DCells w' B re le bl (drvs ma st lo m k r) ∧ Below W.heap.size W w' := fun W => refAll_any re le bl ma st lo m k r W h
  have hx : ∀ x ∈ drvs ma st lo m k r, drvErr re le bl x.1 x.2.1 x.2.2 = 0 := fun x hx => by
    obtain ⟨q1, q2, q3⟩ := mem_drvs hx
    exact drvErr_move hd ⟨by omega, by omega⟩ ⟨by omega, by omega⟩ ⟨by omega, by omega⟩
  obtain ⟨G, hG⟩ : ∃ G, G = regD re le bl ma st lo m k r zs := ⟨_, rfl⟩
  rw [← hG]
  unfold regD at hG
  generalize drvs ma st lo m k r = XS at hlen hAll hx hG
  obtain ⟨p, hpp⟩ : ∃ p : Int × Int × Int → Bool, p = fun x => explB re le bl x.1 x.2.1 x.2.2 zs := ⟨_, rfl⟩
  rw [← hpp] at hG
  have hE : ∀ (W : World) (x : Int × Int × Int), x ∈ XS → RCells W A zs → Calls Tryz.prog 29 #[.agg #[(.int .i64 (re)), (.int .i64 (le)), (.int .i64 (bl)), (.int .i64 (x.1)), (.int .i64 (x.2.1)), (.int .i64 (x.2.2))], .slice A zs.length c] W fun r w' => r = .returned (.bool (p x)) ∧ Below W.heap.size W w' := fun W x hx' k => by
    rw [hpp]
    exact refExplains_any re le bl x.1 x.2.1 x.2.2 A zs c W (hx x hx') k hn hz
  obtain ⟨T, hT⟩ : ∃ T, T = XS.length := ⟨_, rfl⟩
  obtain ⟨N, hN⟩ : ∃ N, N = zs.length := ⟨_, rfl⟩
  rw [← hT] at hlen
  have HAll := Lib.hid (show ∀ W : World, Calls Tryz.prog 101 #[.agg #[(.int .i64 (re)), (.int .i64 (le)), (.int .i64 (bl)), (.int .i64 (ma)), (.int .i64 (st)), (.int .i64 (lo)), (.int .i64 (m)), (.int .i64 (k)), (.int .i64 (r))]] W fun x w' => ∃ B e, x = .returned (.slice B T e) ∧ DCells w' B re le bl XS ∧ Below W.heap.size W w' from fun W => by rw [hT]; exact hAll W)
  rw [← hN] at hE ⊢
  have HE := Lib.hid hE
  have HT := Lib.hid hT
  have HG := Lib.hid hG
  have HC := Lib.hid hC
  clear h hp hd hA hB hD d1 d2 d3 hAll hx hG hE hT hN hC hz hpp
  go_enter Tryz.func59, Tryz.ntmps59
  go_wp2_with (go_at_call 101; refine (HAll.out _).mono ?_; rintro r w1 ⟨BA, ca, rfl, DA, hb1⟩; refine Hid.out ?_)
  unfold Hid
  have hB1 : Below w.heap.size w w1 := ((Below.refl _ _).alloc (Nat.le_refl _) _).trans (hb1.mono (by simp))
  have HDA := Lib.hid DA
  clear hb1 DA
  go_wp2
  go_loopw [6, 7] (fun v x wr => ∃ q : Nat, q ≤ T ∧ x = (.int .i64 ((q : Nat))) ∧ wr.ownsRow w1.heap.size 23 6 v ((XS.take q).filter p).length (flat6 re le bl ((XS.take q).filter p)) ∧ Below w1.heap.size w1 wr) (fun _ x _ => T - (intOf x).toNat)
  case atStart => exact ⟨0, Nat.zero_le _, rfl, World.ownsRow_nil _ _ _ _, Below.refl _ _⟩
  case round =>
    obtain ⟨q, hq, rfl, hown, hBr⟩ := hrel
    have HO := Lib.hid hown
    have HBR := Lib.hid hBr
    have hsz := hBr.size
    have hsz1 := hB1.size
    clear hown
    by_cases hlt : q < T
    · have hlt2 : q < XS.length := by rw [← HT.out]; exact hlt
      obtain ⟨b, o, rfl, l1, k1⟩ := (HDA.out.below hBr) (by omega)
      obtain ⟨x1, x2, x3, x4, x5, x6⟩ := k1 q hlt2
      have HS := Lib.hid (filter_succ p (0, 0, 0) hlt2)
      have hmem : XS.getD q (0, 0, 0) ∈ XS := by rw [List.getD_eq_getElem?_getD, List.getElem?_eq_getElem hlt2, Option.getD_some]; exact List.getElem_mem _
      have hE1 := fun W k => HE.out W _ hmem k
      have hfl : ((XS.take q).filter p).length ≤ q := Nat.le_trans (List.length_filter_le _ _) (List.length_take_le _ _)
      clear k1 hlt2 hBr hmem
      obtain ⟨⟨x, y, z⟩, hx⟩ : ∃ x, x = XS.getD q (0, 0, 0) := ⟨_, rfl⟩
      rw [← hx] at x4 x5 x6 hE1
      have HX := Lib.hid hx
      clear hx
      simp only [] at x4 x5 x6 hE1
      cases hf : p (x, y, z)
      · rw [hf] at hE1
        have HE1 := Lib.hid hE1
        have HF := Lib.hid hf
        clear hE1 hf
        go_wp2_with (go_at_call 29; refine (HE1.out _ (HC.out.below (hB1.trans (HBR.out.mono hsz1)))).mono ?_; rintro r w3 ⟨rfl, hb⟩)
        go_roundw
        case rel => exact ⟨q + 1, by omega, by go_num, by
          rw [HS.out, ← HX.out, HF.out, if_neg (by simp), List.append_nil]
          exact ownsRow_below HO.out hb, HBR.out.trans (hb.mono hsz)⟩
        case measure => simp [intOf]; omega
      · rw [hf] at hE1
        have HE1 := Lib.hid hE1
        have HF := Lib.hid hf
        clear hE1 hf
        go_wp2_with (first
          | (go_at_call 29; refine (HE1.out _ (HC.out.below (hB1.trans (HBR.out.mono hsz1)))).mono ?_; rintro r w3 ⟨rfl, hb⟩; obtain ⟨hc, hff⟩ := bcell hb; have hz := hb.size)
          | (at_builtin; refine wpList_append_own _ rfl _ _ 44 rfl w1.heap.size 23 i0 _ 6 48 Tryz.underlying44 hi iz0 iz1 iz2 rfl (by decide) _ _ _ rfl ((ownsRow_below HO.out hb).alloc _) ⟨w3.heap.size, 0, none⟩ 1 1 [(.int .i64 (re)), (.int .i64 (le)), (.int .i64 (bl)), (.int .i64 (x)), (.int .i64 (y)), (.int .i64 (z))] rfl rfl ?c1 ?c2 ?c3 ?c4 ?c5 ?_))
        case c1 =>
          intro j u hj
          match j, hj with
          | 0, hj => simp at hj; subst hj; simp [Addr.add]
          | 1, hj => simp at hj; subst hj; simp [Addr.add]
          | 2, hj => simp at hj; subst hj; simp [Addr.add]
          | 3, hj => simp at hj; subst hj; simp [Addr.add]
          | 4, hj => simp at hj; subst hj; simp [Addr.add]
          | 5, hj => simp at hj; subst hj; simp [Addr.add]
        case c2 => intro u hu; simp at hu; rcases hu with rfl | rfl | rfl | rfl | rfl | rfl <;> rfl
        case c3 => unfold maxLen; omega
        case c4 => omega
        case c5 => simp; omega
        intro v' w4 hown' hgrow _
        have hB8 : Below w1.heap.size w1 w4 := by
          refine Below.grown (B := w1.heap.size) ?_ hgrow ?_ (fun j hj => (HO.out.lt j hj).1)
          · exact (HBR.out.trans (hb.mono hsz)).alloc (by omega) _
          · simp; omega
        have HO2 := Lib.hid hown'
        clear hgrow hown'
        go_wp2
        go_roundw
        case rel => exact ⟨q + 1, by omega, by go_num, by
          rw [HS.out, ← HX.out, HF.out, if_pos rfl, flat6_append, List.length_append]
          simpa [flat6] using HO2.out, hB8⟩
        case measure => simp [intOf]; omega
    · obtain rfl : q = T := by omega
      have e : XS.take q = XS := by rw [HT.out]; exact List.take_length
      have hown := HO.out
      rw [e, ← HG.out] at hown
      obtain ⟨B, cc, rfl, _, hr⟩ := own_drvs hown rfl
      have HR := Lib.hid hr
      clear hown e hr hBr
      go_wp2
      go_ret
      first | exact ⟨B, cc, rfl, HR.out, hB1.trans (HBR.out.mono hsz1)⟩ | exact ⟨B, ⟨cc, rfl⟩, HR.out, hB1.trans (HBR.out.mono hsz1)⟩

/-- the region of readings, and its error. -/
def regE (G : List (Int × Int × Int)) : Int := if 256 < G.length then 5 else 0
def regG (G : List (Int × Int × Int)) : List (Int × Int × Int) := if 256 < G.length then [] else G
set_option maxRecDepth 100000 in
set_option maxHeartbeats 4000000 in
theorem refRegion_any (re le bl ma st lo m k r : Int) (A : Option Addr) (zs : List (Int × Int × Int)) (c : Nat) (w : World) (h : classErr re le bl ma st lo m k r = 0) (hC : RCells w A zs) (hn : zs.length ≤ 1000)
    (hz : ∀ k, k < zs.length → readErr (zs.getD k (0, 0, 0)).1 (zs.getD k (0, 0, 0)).2.1 (zs.getD k (0, 0, 0)).2.2 = 0) :
    Calls Tryz.prog 17 #[.agg #[(.int .i64 (re)), (.int .i64 (le)), (.int .i64 (bl)), (.int .i64 (ma)), (.int .i64 (st)), (.int .i64 (lo)), (.int .i64 (m)), (.int .i64 (k)), (.int .i64 (r))], .slice A zs.length c] w fun x w' => ∃ B e, x = .returned (.tuple #[.slice B (regG (regD re le bl ma st lo m k r zs)).length e, (.int .i64 (regE (regD re le bl ma st lo m k r zs)))]) ∧ DCells w' B re le bl (regG (regD re le bl ma st lo m k r zs)) ∧ Below w.heap.size w w' := by
  have hX := fun W (kk : RCells W A zs) => refExplaining_any re le bl ma st lo m k r A zs c W h kk hn hz
  generalize regD re le bl ma st lo m k r zs = G at hX ⊢
  unfold regE regG
  obtain ⟨N, hN⟩ : ∃ N, N = zs.length := ⟨_, rfl⟩
  rw [← hN] at hX ⊢
  have HX := Lib.hid hX
  have HC := Lib.hid hC
  clear h hz hX hN hC hn
  by_cases hG : 256 < G.length
  · rw [if_pos hG, if_pos hG]
    go_enter Tryz.func17, Tryz.ntmps17
    go_wp2_with (go_at_call 59; refine (HX.out _ (HC.out.below (by (repeat (first | (with_reducible exact Below.refl _ _) | ((with_reducible refine Below.setCell ?_ ?_ _); rotate_left 1; focus (first | (simp; done) | (simp; omega) | (simp at *; omega))) | ((with_reducible refine Below.alloc ?_ ?_ _); rotate_left 1; focus (first | (simp; done) | (simp; omega) | (simp at *; omega))) | (with_reducible refine Below.drew ?_) | ((with_reducible refine Calm.step (by assumption) ?_ ?_); rotate_left 1; focus (first | (simp; done) | (simp; omega) | (simp at *; omega)))))))).mono ?_; rintro r w1 ⟨B, e, rfl, DA, hb⟩)
    go_ret2
    first | exact ⟨none, ⟨0, rfl⟩, fun h0 => absurd h0 (by simp), ((Below.refl _ _).alloc (Nat.le_refl _) _).trans (hb.mono (by simp))⟩ | exact ⟨none, 0, rfl, fun h0 => absurd h0 (by simp), ((Below.refl _ _).alloc (Nat.le_refl _) _).trans (hb.mono (by simp))⟩
  · rw [if_neg hG, if_neg hG]
    generalize hg : G.length = gl at *
    go_enter Tryz.func17, Tryz.ntmps17
    go_wp2_with (go_at_call 59; refine (HX.out _ (HC.out.below (by (repeat (first | (with_reducible exact Below.refl _ _) | ((with_reducible refine Below.setCell ?_ ?_ _); rotate_left 1; focus (first | (simp; done) | (simp; omega) | (simp at *; omega))) | ((with_reducible refine Below.alloc ?_ ?_ _); rotate_left 1; focus (first | (simp; done) | (simp; omega) | (simp at *; omega))) | (with_reducible refine Below.drew ?_) | ((with_reducible refine Calm.step (by assumption) ?_ ?_); rotate_left 1; focus (first | (simp; done) | (simp; omega) | (simp at *; omega)))))))).mono ?_; rintro r w1 ⟨B, e, rfl, DA, hb⟩; have HDA := Lib.hid DA; clear DA)
    go_ret2
    first | exact ⟨B, ⟨e, rfl⟩, HDA.out, ((Below.refl _ _).alloc (Nat.le_refl _) _).trans (hb.mono (by simp))⟩ | exact ⟨B, e, rfl, HDA.out, ((Below.refl _ _).alloc (Nat.le_refl _) _).trans (hb.mono (by simp))⟩
end Go.Proofs.YtpkldjlljoledaaGreatDoor
