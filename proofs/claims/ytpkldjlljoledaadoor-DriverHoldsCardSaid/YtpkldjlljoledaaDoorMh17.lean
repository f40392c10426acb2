/- Part 17 of the texts of the claim: C7, C8, C9, C10, Fig0. -/
import Derived.Test.YtpkldjlljoledaaDoorMh12
import Derived.Test.YtpkldjlljoledaaDoorMh7
import Derived.Test.YtpkldjlljoledaaDoorMh16
import Derived.Test.YtpkldjlljoledaaDoorMh6
import Derived.Test.YtpkldjlljoledaaDoorMh14
import Derived.ChangeKeysEq

/- Contract of the reference's Lowest. %still -/
namespace Go.Proofs.YtpkldjlljoledaaDoor
open Go.RowKit
open Calm (bcell Blk)

set_option maxHeartbeats 1000000 in
theorem qLowest_nat (n m : Nat) (w : World) (h1 : 1 ≤ n) (h2 : 1 ≤ m) (h3 : n ≤ 1000000000000000) (h4 : m ≤ 1000000000000000) :
    Calls Tryd.prog 91 #[(.int .i64 (n)), (.int .i64 (m))] w fun r w' => r = .returned (.agg #[(.int .i64 (lowN n m)), (.int .i64 (lowD n m))]) ∧ Below w.heap.size w w' := by
  go_enter Tryd.func91, Tryd.ntmps91
  go_wp2
  have hb0 : Below w.heap.size w (w.alloc (.cells #[(.int .i64 (0)), (.int .i64 (0))] 53)) := (Below.refl _ _).alloc (Nat.le_refl _) _
  have k0 : Blk (w.alloc (.cells #[(.int .i64 (0)), (.int .i64 (0))] 53)) w.heap.size #[(.int .i64 (0)), (.int .i64 (0))] := Blk.at_ rfl
  go_loopw [5, 6] (fun x y wr => ∃ a b : Nat, x = (.int .i64 (a)) ∧ y = (.int .i64 (b)) ∧ Nat.gcd a b = Nat.gcd n m ∧ 1 ≤ a ∧ a ≤ 1000000000000000 ∧ b ≤ 1000000000000000 ∧ Below w.heap.size w wr ∧ Blk wr w.heap.size #[(.int .i64 (0)), (.int .i64 (0))]) (fun _ y _ => (intOf y).toNat)
  case atStart => exact ⟨n, m, rfl, rfl, rfl, h1, h3, h4, hb0, k0⟩
  case round =>
    clear hb0 k0
    obtain ⟨a, b, rfl, rfl, hg, ha, ha2, hb2, hB, hk⟩ := hrel
    have HG := Lib.hid hg
    clear hg
    have hkl := hk.lt
    by_cases hb0 : b = 0
    · subst hb0
      have hga : a = Nat.gcd n m := by have := HG.out; simpa using this
      have e : (Int.gcd (n : Int) (m : Int) : Int) = (a : Int) := by rw [hga]; rfl
      have HE := Lib.hid e
      clear e HG hga
      have hne : ¬ a = 0 := by omega
      have hne2 : ((a : Int) == 0) = false := by simp [hne]
      obtain ⟨q1, q2⟩ := IntWalk.tdiv_le n a (by omega) (by omega)
      obtain ⟨q3, q4⟩ := IntWalk.tdiv_le m a (by omega) (by omega)
      have c0 := hk.cell 0 _ rfl
      have c1 := hk.cell 1 _ rfl
      have f := hk.f
      go_wp2
      refine Calm.still_tail 7 (by kernel_rfl) (by kernel_rfl) ?_
      simp only [List.take_succ_cons, List.take_zero, List.drop_succ_cons, List.drop_zero]
      repeat (first | (apply Calm.still_op_move; (focus rfl); (focus (first | exact .inl rfl | exact .inr rfl)); (focus ((try simp only [Act.eval, Array.getD_eq_getD_getElem?, List.getElem?_toArray, List.getElem?_cons_succ, List.getElem?_cons_zero, Option.getD_some]); rfl)); (try simp only [Act.put, List.setIfInBounds_toArray, List.set_cons_zero, List.set_cons_succ])) | (apply Calm.still_op_not; (focus rfl); (try simp only [Act.put, List.setIfInBounds_toArray, List.set_cons_zero, List.set_cons_succ])) | (apply Calm.still_op; (focus rfl); (focus (intro W hb; obtain ⟨hc, hf⟩ := bcell hb; clear hb hf; go_simp; (try go_bits); (try rfl); done)); (try simp only [Act.put, List.setIfInBounds_toArray, List.set_cons_zero, List.set_cons_succ])))
      refine Calm.still_nil ?_
      intro w1 hb
      obtain ⟨hbc, hbf⟩ := bcell hb
      have hbz := hb.size
      (try simp at hbz)
      (try have hbz0 : w.heap.size < w1.heap.size := by omega)
      (try have hbz1 : w.heap.size + 1 < w1.heap.size := by omega)
      (try have hbz2 : w.heap.size + 1 + 1 < w1.heap.size := by omega)
      (try have hbz3 : w.heap.size + 1 + 1 + 1 < w1.heap.size := by omega)
      (try have hbz4 : w.heap.size + 1 + 1 + 1 + 1 < w1.heap.size := by omega)
      (try have hbz5 : w.heap.size + 1 + 1 + 1 + 1 + 1 < w1.heap.size := by omega)
      go_wp2
      refine bodyPost_ret (v := .agg #[(.int .i64 (lowN n m)), (.int .i64 (lowD n m))]) ?_ rfl ⟨rfl, ?_⟩
      · rw [lowN, lowD, HE.out]
        simp [results, Tryd.results91, go_sem, *]
      · repeat (first | (with_reducible exact Below.refl _ _) | ((with_reducible refine Below.setCell ?_ ?_ _); rotate_left 1; focus (first | (simp; done) | (simp; omega) | (simp at *; omega))) | ((with_reducible refine Below.alloc ?_ ?_ _); rotate_left 1; focus (first | (simp; done) | (simp; omega) | (simp at *; omega))) | (with_reducible refine Below.drew ?_) | ((with_reducible refine Calm.step (by assumption) ?_ ?_); rotate_left 1; focus (first | (simp; done) | (simp; omega) | (simp at *; omega))))
    · have hb1 : 1 ≤ b := by omega
      have hne2 : ((b : Int) == 0) = false := by simp [hb0]
      have hne3 : ((b : Int) != 0) = true := by simp [hb0]
      have hm : a % b < b := Nat.mod_lt _ (by omega)
      go_wp2
      refine Calm.still_all (by kernel_rfl) (by kernel_rfl) ?_
      repeat (first | (apply Calm.still_op_move; (focus rfl); (focus (first | exact .inl rfl | exact .inr rfl)); (focus ((try simp only [Act.eval, Array.getD_eq_getD_getElem?, List.getElem?_toArray, List.getElem?_cons_succ, List.getElem?_cons_zero, Option.getD_some]); rfl)); (try simp only [Act.put, List.setIfInBounds_toArray, List.set_cons_zero, List.set_cons_succ])) | (apply Calm.still_op_not; (focus rfl); (try simp only [Act.put, List.setIfInBounds_toArray, List.set_cons_zero, List.set_cons_succ])) | (apply Calm.still_op; (focus rfl); (focus (intro W hb; obtain ⟨hc, hf⟩ := bcell hb; clear hb hf; go_simp; (try go_bits); (try rfl); done)); (try simp only [Act.put, List.setIfInBounds_toArray, List.set_cons_zero, List.set_cons_succ])))
      refine Calm.still_nil ?_
      intro w1 hb
      obtain ⟨hbc, hbf⟩ := bcell hb
      have hbz := hb.size
      (try simp at hbz)
      (try have hbz0 : w.heap.size < w1.heap.size := by omega)
      (try have hbz1 : w.heap.size + 1 < w1.heap.size := by omega)
      (try have hbz2 : w.heap.size + 1 + 1 < w1.heap.size := by omega)
      (try have hbz3 : w.heap.size + 1 + 1 + 1 < w1.heap.size := by omega)
      (try have hbz4 : w.heap.size + 1 + 1 + 1 + 1 < w1.heap.size := by omega)
      (try have hbz5 : w.heap.size + 1 + 1 + 1 + 1 + 1 < w1.heap.size := by omega)
      go_wp2
      go_roundw
      case rel => exact ⟨b, a % b, rfl, by go_num, by rw [← HG.out]; exact (Nat.gcd_comm b (a % b)).trans ((Nat.gcd_rec b a).symm.trans (Nat.gcd_comm b a)), by omega, by omega, by omega, hB.trans (hb.mono hB.size), hk.below hb⟩
      case measure => simp [intOf]; omega
theorem qLowest_any (num den : Int) (w : World) (h1 : 1 ≤ num) (h2 : 1 ≤ den) (h3 : num ≤ 1000000000000000) (h4 : den ≤ 1000000000000000) :
    Calls Tryd.prog 91 #[(.int .i64 (num)), (.int .i64 (den))] w fun r w' => r = .returned (.agg #[(.int .i64 (lowN num den)), (.int .i64 (lowD num den))]) ∧ Below w.heap.size w w' := by
  obtain ⟨n, rfl⟩ := Int.eq_ofNat_of_zero_le (show 0 ≤ num by omega)
  obtain ⟨m, rfl⟩ := Int.eq_ofNat_of_zero_le (show 0 ≤ den by omega)
  exact qLowest_nat n m w (by omega) (by omega) (by omega) (by omega)

end Go.Proofs.YtpkldjlljoledaaDoor

/- Contracts of the reference's figures. %still -/
namespace Go.Proofs.YtpkldjlljoledaaDoor
open Go.RowKit
open Calm (bcell Blk)

theorem refCheckBox_any (air ma st lo : Int) (w : World) :
    Calls Tryd.prog 29 #[.agg #[(.int .i64 (air)), (.int .i64 (ma)), (.int .i64 (st)), (.int .i64 (lo))]] w fun r w' => r = .returned (.int .i64 (boxErr air ma st lo)) ∧ Below w.heap.size w w' := by
  rcases rangeErr_cases air 1 5000 with ⟨h0, _, _⟩ | ⟨h0, _⟩
  · by_cases hm : ma = 0
    · subst hm
      by_cases hs : st = 0
      · subst hs
        by_cases hl : lo = 0
        · subst hl
          go_enter Tryd.func29, Tryd.ntmps29
          go_wp2_with (first | (go_at_call 40; refine (checkRange_any _ _ _ _).mono ?_; rintro r w1 ⟨rfl, rfl⟩))
          go_ret
          refine ⟨ret_i (by simp [boxErr, h0]), ?_⟩
          repeat (first | (with_reducible exact Below.refl _ _) | ((with_reducible refine Below.setCell ?_ ?_ _); rotate_left 1; focus (first | (simp; done) | (simp; omega) | (simp at *; omega))) | ((with_reducible refine Below.alloc ?_ ?_ _); rotate_left 1; focus (first | (simp; done) | (simp; omega) | (simp at *; omega))) | (with_reducible refine Below.drew ?_) | ((with_reducible refine Calm.step (by assumption) ?_ ?_); rotate_left 1; focus (first | (simp; done) | (simp; omega) | (simp at *; omega))))
        · go_enter Tryd.func29, Tryd.ntmps29
          go_wp2_with (first | (go_at_call 40; refine (checkRange_any _ _ _ _).mono ?_; rintro r w1 ⟨rfl, rfl⟩))
          go_ret
          refine ⟨ret_i (by simp [boxErr, h0, hl]), ?_⟩
          repeat (first | (with_reducible exact Below.refl _ _) | ((with_reducible refine Below.setCell ?_ ?_ _); rotate_left 1; focus (first | (simp; done) | (simp; omega) | (simp at *; omega))) | ((with_reducible refine Below.alloc ?_ ?_ _); rotate_left 1; focus (first | (simp; done) | (simp; omega) | (simp at *; omega))) | (with_reducible refine Below.drew ?_) | ((with_reducible refine Calm.step (by assumption) ?_ ?_); rotate_left 1; focus (first | (simp; done) | (simp; omega) | (simp at *; omega))))
      · go_enter Tryd.func29, Tryd.ntmps29
        go_wp2_with (first | (go_at_call 40; refine (checkRange_any _ _ _ _).mono ?_; rintro r w1 ⟨rfl, rfl⟩))
        go_ret
        refine ⟨ret_i (by simp [boxErr, h0, hs]), ?_⟩
        repeat (first | (with_reducible exact Below.refl _ _) | ((with_reducible refine Below.setCell ?_ ?_ _); rotate_left 1; focus (first | (simp; done) | (simp; omega) | (simp at *; omega))) | ((with_reducible refine Below.alloc ?_ ?_ _); rotate_left 1; focus (first | (simp; done) | (simp; omega) | (simp at *; omega))) | (with_reducible refine Below.drew ?_) | ((with_reducible refine Calm.step (by assumption) ?_ ?_); rotate_left 1; focus (first | (simp; done) | (simp; omega) | (simp at *; omega))))
    · go_enter Tryd.func29, Tryd.ntmps29
      go_wp2_with (first | (go_at_call 40; refine (checkRange_any _ _ _ _).mono ?_; rintro r w1 ⟨rfl, rfl⟩))
      refine Calm.still_tail 9 (by kernel_rfl) (by kernel_rfl) ?_
      simp only [List.take_succ_cons, List.take_zero, List.drop_succ_cons, List.drop_zero]
      repeat (first | (first | (apply Calm.still_op_move; (focus rfl); (focus (first | exact .inl rfl | exact .inr rfl)); (focus ((try simp only [Act.eval, Array.getD_eq_getD_getElem?, List.getElem?_toArray, List.getElem?_cons_succ, List.getElem?_cons_zero, Option.getD_some]); rfl)); (try simp only [Act.put, List.setIfInBounds_toArray, List.set_cons_zero, List.set_cons_succ])) | (apply Calm.still_op_not; (focus rfl); (try simp only [Act.put, List.setIfInBounds_toArray, List.set_cons_zero, List.set_cons_succ])) | (apply Calm.still_op; (focus rfl); (focus (intro W hb; obtain ⟨hc, hf⟩ := bcell hb; clear hb hf; go_simp; (try go_bits); (try rfl); done)); (try simp only [Act.put, List.setIfInBounds_toArray, List.set_cons_zero, List.set_cons_succ]))) | (apply Calm.still_op_call; (focus rfl); (focus (intro W hb; obtain ⟨hc, hf⟩ := bcell hb; clear hb hf; go_simp; refine ⟨?_, ?_⟩; rfl; rfl)); (focus (intro W hb; first | (go_at_call 40; exact Calm.call_same hb (checkRange_any _ _ _ _)))); (try simp only [Act.put, List.setIfInBounds_toArray, List.set_cons_zero, List.set_cons_succ])))
      refine Calm.still_nil ?_
      intro w1 hb
      obtain ⟨hbc, hbf⟩ := bcell hb
      have hbz := hb.size
      (try simp at hbz)
      (try have hbz0 : w.heap.size < w1.heap.size := by omega)
      (try have hbz1 : w.heap.size + 1 < w1.heap.size := by omega)
      (try have hbz2 : w.heap.size + 1 + 1 < w1.heap.size := by omega)
      (try have hbz3 : w.heap.size + 1 + 1 + 1 < w1.heap.size := by omega)
      (try have hbz4 : w.heap.size + 1 + 1 + 1 + 1 < w1.heap.size := by omega)
      (try have hbz5 : w.heap.size + 1 + 1 + 1 + 1 + 1 < w1.heap.size := by omega)
      go_wp2_with (first | (go_at_call 16; refine (qFirst3_any _ _ _ _).mono ?_; rintro r w1 ⟨rfl, rfl⟩))
      go_ret
      refine ⟨ret_i (by simp [boxErr, h0, hm]), ?_⟩
      repeat (first | (with_reducible exact Below.refl _ _) | ((with_reducible refine Below.setCell ?_ ?_ _); rotate_left 1; focus (first | (simp; done) | (simp; omega) | (simp at *; omega))) | ((with_reducible refine Below.alloc ?_ ?_ _); rotate_left 1; focus (first | (simp; done) | (simp; omega) | (simp at *; omega))) | (with_reducible refine Below.drew ?_) | ((with_reducible refine Calm.step (by assumption) ?_ ?_); rotate_left 1; focus (first | (simp; done) | (simp; omega) | (simp at *; omega))))
  · go_enter Tryd.func29, Tryd.ntmps29
    go_wp2_with (first | (go_at_call 40; refine (checkRange_any _ _ _ _).mono ?_; rintro r w1 ⟨rfl, rfl⟩))
    go_ret
    refine ⟨ret_i (by simp [boxErr, h0]), ?_⟩
    repeat (first | (with_reducible exact Below.refl _ _) | ((with_reducible refine Below.setCell ?_ ?_ _); rotate_left 1; focus (first | (simp; done) | (simp; omega) | (simp at *; omega))) | ((with_reducible refine Below.alloc ?_ ?_ _); rotate_left 1; focus (first | (simp; done) | (simp; omega) | (simp at *; omega))) | (with_reducible refine Below.drew ?_) | ((with_reducible refine Calm.step (by assumption) ?_ ?_); rotate_left 1; focus (first | (simp; done) | (simp; omega) | (simp at *; omega))))
theorem refResonance_any (re le bl ma st lo : Int) (w : World) (h : drvErr re le bl ma st lo = 0) :
    Calls Tryd.prog 43 #[.agg #[(.int .i64 (re)), (.int .i64 (le)), (.int .i64 (bl)), (.int .i64 (ma)), (.int .i64 (st)), (.int .i64 (lo))]] w fun r w' => r = .returned (.agg #[(.int .i64 (lowN st ma)), (.int .i64 (lowD st ma))]) ∧ Below w.heap.size w w' := by
  obtain ⟨_, _, _, ⟨a1, a2⟩, ⟨a3, a4⟩, _⟩ := drvErr_zero h
  clear h
  go_enter Tryd.func43, Tryd.ntmps43
  go_wp2_with (first | (go_at_call 91; refine (qLowest_any _ _ _ (by omega) (by omega) (by omega) (by omega)).mono ?_; rintro r w1 ⟨rfl, hb⟩; obtain ⟨hc, hf⟩ := bcell hb; have hz := hb.size; (try simp at hz); (try have hz0 : w.heap.size < w1.heap.size := by omega); (try have hz1 : w.heap.size + 1 < w1.heap.size := by omega); (try have hz2 : w.heap.size + 1 + 1 < w1.heap.size := by omega); (try have hz3 : w.heap.size + 1 + 1 + 1 < w1.heap.size := by omega); (try have hz4 : w.heap.size + 1 + 1 + 1 + 1 < w1.heap.size := by omega); (try have hz5 : w.heap.size + 1 + 1 + 1 + 1 + 1 < w1.heap.size := by omega); (try have hz6 : w.heap.size + 1 + 1 + 1 + 1 + 1 + 1 < w1.heap.size := by omega)))
  refine bodyPost_ret (v := .agg #[(.int .i64 (lowN st ma)), (.int .i64 (lowD st ma))]) (by simp [results, Tryd.results43, go_sem, *]) rfl ⟨rfl, ?_⟩
  repeat (first | (with_reducible exact Below.refl _ _) | ((with_reducible refine Below.setCell ?_ ?_ _); rotate_left 1; focus (first | (simp; done) | (simp; omega) | (simp at *; omega))) | ((with_reducible refine Below.alloc ?_ ?_ _); rotate_left 1; focus (first | (simp; done) | (simp; omega) | (simp at *; omega))) | (with_reducible refine Below.drew ?_) | ((with_reducible refine Calm.step (by assumption) ?_ ?_); rotate_left 1; focus (first | (simp; done) | (simp; omega) | (simp at *; omega))))
set_option maxHeartbeats 1000000 in
theorem refQuality_any (re le bl ma st lo : Int) (w : World) (h : drvErr re le bl ma st lo = 0) :
    Calls Tryd.prog 44 #[.agg #[(.int .i64 (re)), (.int .i64 (le)), (.int .i64 (bl)), (.int .i64 (ma)), (.int .i64 (st)), (.int .i64 (lo))]] w fun r w' => r = .returned (.agg #[(.int .i64 (lowN (st * ma) (lo * lo))), (.int .i64 (lowD (st * ma) (lo * lo))), (.int .i64 (lowN (st * ma * re * re) (bl * bl * (bl * bl)))), (.int .i64 (lowD (st * ma * re * re) (bl * bl * (bl * bl)))),
      (.int .i64 (lowN (st * ma * re * re) ((lo * re + bl * bl) * (lo * re + bl * bl)))), (.int .i64 (lowD (st * ma * re * re) ((lo * re + bl * bl) * (lo * re + bl * bl))))]) ∧ Below w.heap.size w w' := by
  obtain ⟨a1, a2, a3, a4, a5, a6⟩ := drvErr_zero h
  obtain ⟨q1, q2⟩ := rng_mul a5 a4
  obtain ⟨q3, q4⟩ := rng_mul a3 a3
  obtain ⟨q5, q6⟩ := rng_mul a6 a1
  obtain ⟨q7, q8⟩ := rng_mul a6 a6
  obtain ⟨q9, q10⟩ := rng_mul (rng_mul a5 a4) a1
  obtain ⟨q11, q12⟩ := rng_mul (rng_mul (rng_mul a5 a4) a1) a1
  obtain ⟨q13, q14⟩ := rng_mul (rng_mul a3 a3) (rng_mul a3 a3)
  have qs : 1 ≤ lo * re + bl * bl ∧ lo * re + bl * bl ≤ 5400 := by omega
  obtain ⟨q15, q16⟩ := rng_mul qs qs
  obtain ⟨q17, q18⟩ := qs
  clear a1 a2 a3 a4 a5 a6 h
  go_enter Tryd.func44, Tryd.ntmps44
  go_wp2
  refine Calm.still_tail 30 (by kernel_rfl) (by kernel_rfl) ?_
  simp only [List.take_succ_cons, List.take_zero, List.drop_succ_cons, List.drop_zero]
  repeat (first | (first | (apply Calm.still_op_move; (focus rfl); (focus (first | exact .inl rfl | exact .inr rfl)); (focus ((try simp only [Act.eval, Array.getD_eq_getD_getElem?, List.getElem?_toArray, List.getElem?_cons_succ, List.getElem?_cons_zero, Option.getD_some]); rfl)); (try simp only [Act.put, List.setIfInBounds_toArray, List.set_cons_zero, List.set_cons_succ])) | (apply Calm.still_op_not; (focus rfl); (try simp only [Act.put, List.setIfInBounds_toArray, List.set_cons_zero, List.set_cons_succ])) | (apply Calm.still_op; (focus rfl); (focus (intro W hb; obtain ⟨hc, hf⟩ := bcell hb; clear hb hf; go_simp; (try go_bits); (try rfl); done)); (try simp only [Act.put, List.setIfInBounds_toArray, List.set_cons_zero, List.set_cons_succ]))) | (apply Calm.still_op_call; (focus rfl); (focus (intro W hb; obtain ⟨hc, hf⟩ := bcell hb; clear hb hf; go_simp; refine ⟨?_, ?_⟩; rfl; rfl)); (focus (intro W hb; first | (go_at_call 91; exact Calm.call_below hb (qLowest_any _ _ _ (by omega) (by omega) (by omega) (by omega))))); (try simp only [Act.put, List.setIfInBounds_toArray, List.set_cons_zero, List.set_cons_succ])))
  refine Calm.still_nil ?_
  intro w3 hb3
  obtain ⟨hb3c, hb3f⟩ := bcell hb3
  have hb3z := hb3.size
  (try simp at hb3z)
  (try have hb3z0 : w.heap.size < w3.heap.size := by omega)
  (try have hb3z1 : w.heap.size + 1 < w3.heap.size := by omega)
  (try have hb3z2 : w.heap.size + 1 + 1 < w3.heap.size := by omega)
  (try have hb3z3 : w.heap.size + 1 + 1 + 1 < w3.heap.size := by omega)
  (try have hb3z4 : w.heap.size + 1 + 1 + 1 + 1 < w3.heap.size := by omega)
  (try have hb3z5 : w.heap.size + 1 + 1 + 1 + 1 + 1 < w3.heap.size := by omega)
  go_wp2
  refine bodyPost_ret (v := .agg #[(.int .i64 (lowN (st * ma) (lo * lo))), (.int .i64 (lowD (st * ma) (lo * lo))), (.int .i64 (lowN (st * ma * re * re) (bl * bl * (bl * bl)))), (.int .i64 (lowD (st * ma * re * re) (bl * bl * (bl * bl)))),
      (.int .i64 (lowN (st * ma * re * re) ((lo * re + bl * bl) * (lo * re + bl * bl)))), (.int .i64 (lowD (st * ma * re * re) ((lo * re + bl * bl) * (lo * re + bl * bl))))]) (by simp [results, Tryd.results44, go_sem, *]) rfl ⟨rfl, ?_⟩
  repeat (first | (with_reducible exact Below.refl _ _) | ((with_reducible refine Below.setCell ?_ ?_ _); rotate_left 1; focus (first | (simp; done) | (simp; omega) | (simp at *; omega))) | ((with_reducible refine Below.alloc ?_ ?_ _); rotate_left 1; focus (first | (simp; done) | (simp; omega) | (simp at *; omega))) | (with_reducible refine Below.drew ?_) | ((with_reducible refine Calm.step (by assumption) ?_ ?_); rotate_left 1; focus (first | (simp; done) | (simp; omega) | (simp at *; omega))))
end Go.Proofs.YtpkldjlljoledaaDoor

/- Contracts of the reference's weighing. %still -/
namespace Go.Proofs.YtpkldjlljoledaaDoor
open Go.RowKit
open Calm (bcell Blk)

set_option maxHeartbeats 1000000 in
theorem refCheckTerm_any (a b : Int) (w : World) : Calls Tryd.prog 41 #[.agg #[(.int .i64 (a)), (.int .i64 (b))]] w fun r w' => r = .returned (.int .i64 (termErr a b)) ∧ Below w.heap.size w w' := by
  by_cases h : termRng a b = 0
  · obtain ⟨⟨b1, b2⟩, ⟨b3, b4⟩⟩ := termRng_zero h
    have h0 : firstOf [rangeErr a 1 10000, rangeErr b 1 10000] = 0 := h
    have hT : termErr a b = if a = lowN a b ∧ b = lowD a b then 0 else 1 := if_pos h
    rw [hT]
    clear hT h
    by_cases e1 : a = lowN a b
    · by_cases e2 : b = lowD a b
      · have f1 : lowN a b = a := e1.symm
        have f2 : lowD a b = b := e2.symm
        rw [if_pos ⟨e1, e2⟩]
        clear e1 e2
        go_enter Tryd.func41, Tryd.ntmps41
        go_wp2
        refine Calm.still_tail 6 (by kernel_rfl) (by kernel_rfl) ?_
        simp only [List.take_succ_cons, List.take_zero, List.drop_succ_cons, List.drop_zero]
        repeat (first | (first | (apply Calm.still_op_move; (focus rfl); (focus (first | exact .inl rfl | exact .inr rfl)); (focus ((try simp only [Act.eval, Array.getD_eq_getD_getElem?, List.getElem?_toArray, List.getElem?_cons_succ, List.getElem?_cons_zero, Option.getD_some]); rfl)); (try simp only [Act.put, List.setIfInBounds_toArray, List.set_cons_zero, List.set_cons_succ])) | (apply Calm.still_op_not; (focus rfl); (try simp only [Act.put, List.setIfInBounds_toArray, List.set_cons_zero, List.set_cons_succ])) | (apply Calm.still_op; (focus rfl); (focus (intro W hb; obtain ⟨hc, hf⟩ := bcell hb; clear hb hf; go_simp; (try go_bits); (try rfl); done)); (try simp only [Act.put, List.setIfInBounds_toArray, List.set_cons_zero, List.set_cons_succ]))) | (apply Calm.still_op_call; (focus rfl); (focus (intro W hb; obtain ⟨hc, hf⟩ := bcell hb; clear hb hf; go_simp; refine ⟨?_, ?_⟩; rfl; rfl)); (focus (intro W hb; first | (go_at_call 40; exact Calm.call_same hb (checkRange_any _ _ _ _)))); (try simp only [Act.put, List.setIfInBounds_toArray, List.set_cons_zero, List.set_cons_succ])))
        refine Calm.still_nil ?_
        intro w1 hb
        obtain ⟨hbc, hbf⟩ := bcell hb
        have hbz := hb.size
        (try simp at hbz)
        (try have hbz0 : w.heap.size < w1.heap.size := by omega)
        (try have hbz1 : w.heap.size + 1 < w1.heap.size := by omega)
        (try have hbz2 : w.heap.size + 1 + 1 < w1.heap.size := by omega)
        (try have hbz3 : w.heap.size + 1 + 1 + 1 < w1.heap.size := by omega)
        (try have hbz4 : w.heap.size + 1 + 1 + 1 + 1 < w1.heap.size := by omega)
        (try have hbz5 : w.heap.size + 1 + 1 + 1 + 1 + 1 < w1.heap.size := by omega)
        go_wp2_with (first | (go_at_call 16; refine (qFirst2_any _ _ _).mono ?_; rintro r w1 ⟨rfl, rfl⟩))
        refine Calm.still_tail 6 (by kernel_rfl) (by kernel_rfl) ?_
        simp only [List.take_succ_cons, List.take_zero, List.drop_succ_cons, List.drop_zero]
        repeat (first | (first | (apply Calm.still_op_move; (focus rfl); (focus (first | exact .inl rfl | exact .inr rfl)); (focus ((try simp only [Act.eval, Array.getD_eq_getD_getElem?, List.getElem?_toArray, List.getElem?_cons_succ, List.getElem?_cons_zero, Option.getD_some]); rfl)); (try simp only [Act.put, List.setIfInBounds_toArray, List.set_cons_zero, List.set_cons_succ])) | (apply Calm.still_op_not; (focus rfl); (try simp only [Act.put, List.setIfInBounds_toArray, List.set_cons_zero, List.set_cons_succ])) | (apply Calm.still_op; (focus rfl); (focus (intro W hb; obtain ⟨hc, hf⟩ := bcell hb; clear hb hf; go_simp; (try go_bits); (try rfl); done)); (try simp only [Act.put, List.setIfInBounds_toArray, List.set_cons_zero, List.set_cons_succ]))) | (apply Calm.still_op_call; (focus rfl); (focus (intro W hb; obtain ⟨hc, hf⟩ := bcell hb; clear hb hf; go_simp; refine ⟨?_, ?_⟩; rfl; rfl)); (focus (intro W hb; first | (go_at_call 91; exact Calm.call_below hb (qLowest_any _ _ _ (by omega) (by omega) (by omega) (by omega))))); (try simp only [Act.put, List.setIfInBounds_toArray, List.set_cons_zero, List.set_cons_succ])))
        refine Calm.still_nil ?_
        intro w2 hb2
        obtain ⟨hb2c, hb2f⟩ := bcell hb2
        have hb2z := hb2.size
        (try simp at hb2z)
        (try have hb2z0 : w.heap.size < w2.heap.size := by omega)
        (try have hb2z1 : w.heap.size + 1 < w2.heap.size := by omega)
        (try have hb2z2 : w.heap.size + 1 + 1 < w2.heap.size := by omega)
        (try have hb2z3 : w.heap.size + 1 + 1 + 1 < w2.heap.size := by omega)
        (try have hb2z4 : w.heap.size + 1 + 1 + 1 + 1 < w2.heap.size := by omega)
        (try have hb2z5 : w.heap.size + 1 + 1 + 1 + 1 + 1 < w2.heap.size := by omega)
        go_wp2
        go_ret
        refine ⟨rfl, ?_⟩
        repeat (first | (with_reducible exact Below.refl _ _) | ((with_reducible refine Below.setCell ?_ ?_ _); rotate_left 1; focus (first | (simp; done) | (simp; omega) | (simp at *; omega))) | ((with_reducible refine Below.alloc ?_ ?_ _); rotate_left 1; focus (first | (simp; done) | (simp; omega) | (simp at *; omega))) | (with_reducible refine Below.drew ?_) | ((with_reducible refine Calm.step (by assumption) ?_ ?_); rotate_left 1; focus (first | (simp; done) | (simp; omega) | (simp at *; omega))))
      · rw [if_neg (fun hh => e2 hh.2)]
        have f1 : lowN a b = a := e1.symm
        clear e1
        go_enter Tryd.func41, Tryd.ntmps41
        go_wp2
        refine Calm.still_tail 6 (by kernel_rfl) (by kernel_rfl) ?_
        simp only [List.take_succ_cons, List.take_zero, List.drop_succ_cons, List.drop_zero]
        repeat (first | (first | (apply Calm.still_op_move; (focus rfl); (focus (first | exact .inl rfl | exact .inr rfl)); (focus ((try simp only [Act.eval, Array.getD_eq_getD_getElem?, List.getElem?_toArray, List.getElem?_cons_succ, List.getElem?_cons_zero, Option.getD_some]); rfl)); (try simp only [Act.put, List.setIfInBounds_toArray, List.set_cons_zero, List.set_cons_succ])) | (apply Calm.still_op_not; (focus rfl); (try simp only [Act.put, List.setIfInBounds_toArray, List.set_cons_zero, List.set_cons_succ])) | (apply Calm.still_op; (focus rfl); (focus (intro W hb; obtain ⟨hc, hf⟩ := bcell hb; clear hb hf; go_simp; (try go_bits); (try rfl); done)); (try simp only [Act.put, List.setIfInBounds_toArray, List.set_cons_zero, List.set_cons_succ]))) | (apply Calm.still_op_call; (focus rfl); (focus (intro W hb; obtain ⟨hc, hf⟩ := bcell hb; clear hb hf; go_simp; refine ⟨?_, ?_⟩; rfl; rfl)); (focus (intro W hb; first | (go_at_call 40; exact Calm.call_same hb (checkRange_any _ _ _ _)))); (try simp only [Act.put, List.setIfInBounds_toArray, List.set_cons_zero, List.set_cons_succ])))
        refine Calm.still_nil ?_
        intro w1 hb
        obtain ⟨hbc, hbf⟩ := bcell hb
        have hbz := hb.size
        (try simp at hbz)
        (try have hbz0 : w.heap.size < w1.heap.size := by omega)
        (try have hbz1 : w.heap.size + 1 < w1.heap.size := by omega)
        (try have hbz2 : w.heap.size + 1 + 1 < w1.heap.size := by omega)
        (try have hbz3 : w.heap.size + 1 + 1 + 1 < w1.heap.size := by omega)
        (try have hbz4 : w.heap.size + 1 + 1 + 1 + 1 < w1.heap.size := by omega)
        (try have hbz5 : w.heap.size + 1 + 1 + 1 + 1 + 1 < w1.heap.size := by omega)
        go_wp2_with (first | (go_at_call 16; refine (qFirst2_any _ _ _).mono ?_; rintro r w1 ⟨rfl, rfl⟩))
        refine Calm.still_tail 6 (by kernel_rfl) (by kernel_rfl) ?_
        simp only [List.take_succ_cons, List.take_zero, List.drop_succ_cons, List.drop_zero]
        repeat (first | (first | (apply Calm.still_op_move; (focus rfl); (focus (first | exact .inl rfl | exact .inr rfl)); (focus ((try simp only [Act.eval, Array.getD_eq_getD_getElem?, List.getElem?_toArray, List.getElem?_cons_succ, List.getElem?_cons_zero, Option.getD_some]); rfl)); (try simp only [Act.put, List.setIfInBounds_toArray, List.set_cons_zero, List.set_cons_succ])) | (apply Calm.still_op_not; (focus rfl); (try simp only [Act.put, List.setIfInBounds_toArray, List.set_cons_zero, List.set_cons_succ])) | (apply Calm.still_op; (focus rfl); (focus (intro W hb; obtain ⟨hc, hf⟩ := bcell hb; clear hb hf; go_simp; (try go_bits); (try rfl); done)); (try simp only [Act.put, List.setIfInBounds_toArray, List.set_cons_zero, List.set_cons_succ]))) | (apply Calm.still_op_call; (focus rfl); (focus (intro W hb; obtain ⟨hc, hf⟩ := bcell hb; clear hb hf; go_simp; refine ⟨?_, ?_⟩; rfl; rfl)); (focus (intro W hb; first | (go_at_call 91; exact Calm.call_below hb (qLowest_any _ _ _ (by omega) (by omega) (by omega) (by omega))))); (try simp only [Act.put, List.setIfInBounds_toArray, List.set_cons_zero, List.set_cons_succ])))
        refine Calm.still_nil ?_
        intro w2 hb2
        obtain ⟨hb2c, hb2f⟩ := bcell hb2
        have hb2z := hb2.size
        (try simp at hb2z)
        (try have hb2z0 : w.heap.size < w2.heap.size := by omega)
        (try have hb2z1 : w.heap.size + 1 < w2.heap.size := by omega)
        (try have hb2z2 : w.heap.size + 1 + 1 < w2.heap.size := by omega)
        (try have hb2z3 : w.heap.size + 1 + 1 + 1 < w2.heap.size := by omega)
        (try have hb2z4 : w.heap.size + 1 + 1 + 1 + 1 < w2.heap.size := by omega)
        (try have hb2z5 : w.heap.size + 1 + 1 + 1 + 1 + 1 < w2.heap.size := by omega)
        go_wp2
        go_ret
        refine ⟨rfl, ?_⟩
        repeat (first | (with_reducible exact Below.refl _ _) | ((with_reducible refine Below.setCell ?_ ?_ _); rotate_left 1; focus (first | (simp; done) | (simp; omega) | (simp at *; omega))) | ((with_reducible refine Below.alloc ?_ ?_ _); rotate_left 1; focus (first | (simp; done) | (simp; omega) | (simp at *; omega))) | (with_reducible refine Below.drew ?_) | ((with_reducible refine Calm.step (by assumption) ?_ ?_); rotate_left 1; focus (first | (simp; done) | (simp; omega) | (simp at *; omega))))
    · rw [if_neg (fun hh => e1 hh.1)]
      go_enter Tryd.func41, Tryd.ntmps41
      go_wp2
      refine Calm.still_tail 6 (by kernel_rfl) (by kernel_rfl) ?_
      simp only [List.take_succ_cons, List.take_zero, List.drop_succ_cons, List.drop_zero]
      repeat (first | (first | (apply Calm.still_op_move; (focus rfl); (focus (first | exact .inl rfl | exact .inr rfl)); (focus ((try simp only [Act.eval, Array.getD_eq_getD_getElem?, List.getElem?_toArray, List.getElem?_cons_succ, List.getElem?_cons_zero, Option.getD_some]); rfl)); (try simp only [Act.put, List.setIfInBounds_toArray, List.set_cons_zero, List.set_cons_succ])) | (apply Calm.still_op_not; (focus rfl); (try simp only [Act.put, List.setIfInBounds_toArray, List.set_cons_zero, List.set_cons_succ])) | (apply Calm.still_op; (focus rfl); (focus (intro W hb; obtain ⟨hc, hf⟩ := bcell hb; clear hb hf; go_simp; (try go_bits); (try rfl); done)); (try simp only [Act.put, List.setIfInBounds_toArray, List.set_cons_zero, List.set_cons_succ]))) | (apply Calm.still_op_call; (focus rfl); (focus (intro W hb; obtain ⟨hc, hf⟩ := bcell hb; clear hb hf; go_simp; refine ⟨?_, ?_⟩; rfl; rfl)); (focus (intro W hb; first | (go_at_call 40; exact Calm.call_same hb (checkRange_any _ _ _ _)))); (try simp only [Act.put, List.setIfInBounds_toArray, List.set_cons_zero, List.set_cons_succ])))
      refine Calm.still_nil ?_
      intro w1 hb
      obtain ⟨hbc, hbf⟩ := bcell hb
      have hbz := hb.size
      (try simp at hbz)
      (try have hbz0 : w.heap.size < w1.heap.size := by omega)
      (try have hbz1 : w.heap.size + 1 < w1.heap.size := by omega)
      (try have hbz2 : w.heap.size + 1 + 1 < w1.heap.size := by omega)
      (try have hbz3 : w.heap.size + 1 + 1 + 1 < w1.heap.size := by omega)
      (try have hbz4 : w.heap.size + 1 + 1 + 1 + 1 < w1.heap.size := by omega)
      (try have hbz5 : w.heap.size + 1 + 1 + 1 + 1 + 1 < w1.heap.size := by omega)
      go_wp2_with (first | (go_at_call 16; refine (qFirst2_any _ _ _).mono ?_; rintro r w1 ⟨rfl, rfl⟩))
      refine Calm.still_tail 6 (by kernel_rfl) (by kernel_rfl) ?_
      simp only [List.take_succ_cons, List.take_zero, List.drop_succ_cons, List.drop_zero]
      repeat (first | (first | (apply Calm.still_op_move; (focus rfl); (focus (first | exact .inl rfl | exact .inr rfl)); (focus ((try simp only [Act.eval, Array.getD_eq_getD_getElem?, List.getElem?_toArray, List.getElem?_cons_succ, List.getElem?_cons_zero, Option.getD_some]); rfl)); (try simp only [Act.put, List.setIfInBounds_toArray, List.set_cons_zero, List.set_cons_succ])) | (apply Calm.still_op_not; (focus rfl); (try simp only [Act.put, List.setIfInBounds_toArray, List.set_cons_zero, List.set_cons_succ])) | (apply Calm.still_op; (focus rfl); (focus (intro W hb; obtain ⟨hc, hf⟩ := bcell hb; clear hb hf; go_simp; (try go_bits); (try rfl); done)); (try simp only [Act.put, List.setIfInBounds_toArray, List.set_cons_zero, List.set_cons_succ]))) | (apply Calm.still_op_call; (focus rfl); (focus (intro W hb; obtain ⟨hc, hf⟩ := bcell hb; clear hb hf; go_simp; refine ⟨?_, ?_⟩; rfl; rfl)); (focus (intro W hb; first | (go_at_call 91; exact Calm.call_below hb (qLowest_any _ _ _ (by omega) (by omega) (by omega) (by omega))))); (try simp only [Act.put, List.setIfInBounds_toArray, List.set_cons_zero, List.set_cons_succ])))
      refine Calm.still_nil ?_
      intro w2 hb2
      obtain ⟨hb2c, hb2f⟩ := bcell hb2
      have hb2z := hb2.size
      (try simp at hb2z)
      (try have hb2z0 : w.heap.size < w2.heap.size := by omega)
      (try have hb2z1 : w.heap.size + 1 < w2.heap.size := by omega)
      (try have hb2z2 : w.heap.size + 1 + 1 < w2.heap.size := by omega)
      (try have hb2z3 : w.heap.size + 1 + 1 + 1 < w2.heap.size := by omega)
      (try have hb2z4 : w.heap.size + 1 + 1 + 1 + 1 < w2.heap.size := by omega)
      (try have hb2z5 : w.heap.size + 1 + 1 + 1 + 1 + 1 < w2.heap.size := by omega)
      go_wp2
      go_ret
      refine ⟨rfl, ?_⟩
      repeat (first | (with_reducible exact Below.refl _ _) | ((with_reducible refine Below.setCell ?_ ?_ _); rotate_left 1; focus (first | (simp; done) | (simp; omega) | (simp at *; omega))) | ((with_reducible refine Below.alloc ?_ ?_ _); rotate_left 1; focus (first | (simp; done) | (simp; omega) | (simp at *; omega))) | (with_reducible refine Below.drew ?_) | ((with_reducible refine Calm.step (by assumption) ?_ ?_); rotate_left 1; focus (first | (simp; done) | (simp; omega) | (simp at *; omega))))
  · have h0 : ¬ firstOf [rangeErr a 1 10000, rangeErr b 1 10000] = 0 := h
    have hT : termErr a b = firstOf [rangeErr a 1 10000, rangeErr b 1 10000] := if_neg h
    rw [hT]
    clear hT h
    go_enter Tryd.func41, Tryd.ntmps41
    go_wp2
    refine Calm.still_tail 6 (by kernel_rfl) (by kernel_rfl) ?_
    simp only [List.take_succ_cons, List.take_zero, List.drop_succ_cons, List.drop_zero]
    repeat (first | (first | (apply Calm.still_op_move; (focus rfl); (focus (first | exact .inl rfl | exact .inr rfl)); (focus ((try simp only [Act.eval, Array.getD_eq_getD_getElem?, List.getElem?_toArray, List.getElem?_cons_succ, List.getElem?_cons_zero, Option.getD_some]); rfl)); (try simp only [Act.put, List.setIfInBounds_toArray, List.set_cons_zero, List.set_cons_succ])) | (apply Calm.still_op_not; (focus rfl); (try simp only [Act.put, List.setIfInBounds_toArray, List.set_cons_zero, List.set_cons_succ])) | (apply Calm.still_op; (focus rfl); (focus (intro W hb; obtain ⟨hc, hf⟩ := bcell hb; clear hb hf; go_simp; (try go_bits); (try rfl); done)); (try simp only [Act.put, List.setIfInBounds_toArray, List.set_cons_zero, List.set_cons_succ]))) | (apply Calm.still_op_call; (focus rfl); (focus (intro W hb; obtain ⟨hc, hf⟩ := bcell hb; clear hb hf; go_simp; refine ⟨?_, ?_⟩; rfl; rfl)); (focus (intro W hb; first | (go_at_call 40; exact Calm.call_same hb (checkRange_any _ _ _ _)))); (try simp only [Act.put, List.setIfInBounds_toArray, List.set_cons_zero, List.set_cons_succ])))
    refine Calm.still_nil ?_
    intro w1 hb
    obtain ⟨hbc, hbf⟩ := bcell hb
    have hbz := hb.size
    (try simp at hbz)
    (try have hbz0 : w.heap.size < w1.heap.size := by omega)
    (try have hbz1 : w.heap.size + 1 < w1.heap.size := by omega)
    (try have hbz2 : w.heap.size + 1 + 1 < w1.heap.size := by omega)
    (try have hbz3 : w.heap.size + 1 + 1 + 1 < w1.heap.size := by omega)
    (try have hbz4 : w.heap.size + 1 + 1 + 1 + 1 < w1.heap.size := by omega)
    (try have hbz5 : w.heap.size + 1 + 1 + 1 + 1 + 1 < w1.heap.size := by omega)
    go_wp2_with (first | (go_at_call 16; refine (qFirst2_any _ _ _).mono ?_; rintro r w1 ⟨rfl, rfl⟩))
    go_ret
    refine ⟨rfl, ?_⟩
    repeat (first | (with_reducible exact Below.refl _ _) | ((with_reducible refine Below.setCell ?_ ?_ _); rotate_left 1; focus (first | (simp; done) | (simp; omega) | (simp at *; omega))) | ((with_reducible refine Below.alloc ?_ ?_ _); rotate_left 1; focus (first | (simp; done) | (simp; omega) | (simp at *; omega))) | (with_reducible refine Below.drew ?_) | ((with_reducible refine Calm.step (by assumption) ?_ ?_); rotate_left 1; focus (first | (simp; done) | (simp; omega) | (simp at *; omega))))

set_option maxHeartbeats 1000000 in
theorem refWeighed_order (a b c d n : Int) (w : World) (h : weighErr a b c d n = 0) (ho : a * d - c * b ≤ 0) :
    Calls Tryd.prog 45 #[.agg #[(.int .i64 (a)), (.int .i64 (b))], .agg #[(.int .i64 (c)), (.int .i64 (d))], (.int .i64 (n))] w fun r w' => r = .returned (.tuple #[.agg #[(.int .i64 (0)), (.int .i64 (0))], .agg #[(.int .i64 (0)), (.int .i64 (0))], (.int .i64 (11))]) ∧ Below w.heap.size w w' := by
  obtain ⟨h1, h2, h3, h4⟩ := weighErr_zero h
  obtain ⟨a1, a2⟩ := (termErr_zero h1).1
  obtain ⟨c1, c2⟩ := (termErr_zero h2).1
  obtain ⟨q1, q2⟩ := rng_mul a1 c2
  obtain ⟨q3, q4⟩ := rng_mul c1 a2
  clear h1 h2
  unfold weighErr at *
  go_enter Tryd.func45, Tryd.ntmps45
  go_wp2
  refine bodyPost_ret (v := .tuple #[.agg #[(.int .i64 (0)), (.int .i64 (0))], .agg #[(.int .i64 (0)), (.int .i64 (0))], (.int .i64 (11))]) (by simp [results, Tryd.results45, go_sem, *]) rfl ⟨rfl, ?_⟩
  repeat (first | (with_reducible exact Below.refl _ _) | ((with_reducible refine Below.setCell ?_ ?_ _); rotate_left 1; focus (first | (simp; done) | (simp; omega) | (simp at *; omega))) | ((with_reducible refine Below.alloc ?_ ?_ _); rotate_left 1; focus (first | (simp; done) | (simp; omega) | (simp at *; omega))) | (with_reducible refine Below.drew ?_) | ((with_reducible refine Calm.step (by assumption) ?_ ?_); rotate_left 1; focus (first | (simp; done) | (simp; omega) | (simp at *; omega))))
set_option maxHeartbeats 1000000 in
theorem refWeighed_ok (a b c d n : Int) (w : World) (h : weighErr a b c d n = 0) (ho : 0 < a * d - c * b) :
    Calls Tryd.prog 45 #[.agg #[(.int .i64 (a)), (.int .i64 (b))], .agg #[(.int .i64 (c)), (.int .i64 (d))], (.int .i64 (n))] w
      fun r w' => r = .returned (.tuple #[.agg #[(.int .i64 (lowN (n * c * b) (a * d - c * b))), (.int .i64 (lowD (n * c * b) (a * d - c * b)))], .agg #[(.int .i64 (lowN (n * c * a) (a * d - c * b))), (.int .i64 (lowD (n * c * a) (a * d - c * b)))], (.int .i64 (0))]) ∧ Below w.heap.size w w' := by
  obtain ⟨h1, h2, h3⟩ := weighErr_zero h
  obtain ⟨a1, a2⟩ := (termErr_zero h1).1
  obtain ⟨c1, c2⟩ := (termErr_zero h2).1
  obtain ⟨q1, q2⟩ := rng_mul a1 c2
  obtain ⟨q3, q4⟩ := rng_mul c1 a2
  obtain ⟨q5, q6⟩ := rng_mul h3 c1
  obtain ⟨q7, q8⟩ := rng_mul (rng_mul h3 c1) a2
  obtain ⟨q9, q10⟩ := rng_mul (rng_mul h3 c1) a1
  clear h1 h2 h3 a1 a2 c1 c2
  unfold weighErr at *
  go_enter Tryd.func45, Tryd.ntmps45
  go_wp2_with (first | (go_at_call 91; refine (qLowest_any _ _ _ (by omega) (by omega) (by omega) (by omega)).mono ?_; rintro r w1 ⟨rfl, hb⟩; obtain ⟨hc, hf⟩ := bcell hb; have hz := hb.size; (try simp at hz); (try have hz0 : w.heap.size < w1.heap.size := by omega); (try have hz1 : w.heap.size + 1 < w1.heap.size := by omega); (try have hz2 : w.heap.size + 1 + 1 < w1.heap.size := by omega); (try have hz3 : w.heap.size + 1 + 1 + 1 < w1.heap.size := by omega); (try have hz4 : w.heap.size + 1 + 1 + 1 + 1 < w1.heap.size := by omega); (try have hz5 : w.heap.size + 1 + 1 + 1 + 1 + 1 < w1.heap.size := by omega); (try have hz6 : w.heap.size + 1 + 1 + 1 + 1 + 1 + 1 < w1.heap.size := by omega)))
  refine Calm.still_tail 10 (by kernel_rfl) (by kernel_rfl) ?_
  simp only [List.take_succ_cons, List.take_zero, List.drop_succ_cons, List.drop_zero]
  repeat (first | (first | (apply Calm.still_op_move; (focus rfl); (focus (first | exact .inl rfl | exact .inr rfl)); (focus ((try simp only [Act.eval, Array.getD_eq_getD_getElem?, List.getElem?_toArray, List.getElem?_cons_succ, List.getElem?_cons_zero, Option.getD_some]); rfl)); (try simp only [Act.put, List.setIfInBounds_toArray, List.set_cons_zero, List.set_cons_succ])) | (apply Calm.still_op_not; (focus rfl); (try simp only [Act.put, List.setIfInBounds_toArray, List.set_cons_zero, List.set_cons_succ])) | (apply Calm.still_op; (focus rfl); (focus (intro W hb; obtain ⟨hc, hf⟩ := bcell hb; clear hb hf; go_simp; (try go_bits); (try rfl); done)); (try simp only [Act.put, List.setIfInBounds_toArray, List.set_cons_zero, List.set_cons_succ]))) | (apply Calm.still_op_call; (focus rfl); (focus (intro W hb; obtain ⟨hc, hf⟩ := bcell hb; clear hb hf; go_simp; refine ⟨?_, ?_⟩; rfl; rfl)); (focus (intro W hb; first | (go_at_call 91; exact Calm.call_below hb (qLowest_any _ _ _ (by omega) (by omega) (by omega) (by omega))))); (try simp only [Act.put, List.setIfInBounds_toArray, List.set_cons_zero, List.set_cons_succ])))
  refine Calm.still_nil ?_
  intro w2 hb2
  obtain ⟨hb2c, hb2f⟩ := bcell hb2
  have hb2z := hb2.size
  (try simp at hb2z)
  (try have hb2z0 : w.heap.size < w2.heap.size := by omega)
  (try have hb2z1 : w.heap.size + 1 < w2.heap.size := by omega)
  (try have hb2z2 : w.heap.size + 1 + 1 < w2.heap.size := by omega)
  (try have hb2z3 : w.heap.size + 1 + 1 + 1 < w2.heap.size := by omega)
  (try have hb2z4 : w.heap.size + 1 + 1 + 1 + 1 < w2.heap.size := by omega)
  (try have hb2z5 : w.heap.size + 1 + 1 + 1 + 1 + 1 < w2.heap.size := by omega)
  go_wp2
  refine bodyPost_ret (v := .tuple #[.agg #[(.int .i64 (lowN (n * c * b) (a * d - c * b))), (.int .i64 (lowD (n * c * b) (a * d - c * b)))], .agg #[(.int .i64 (lowN (n * c * a) (a * d - c * b))), (.int .i64 (lowD (n * c * a) (a * d - c * b)))], (.int .i64 (0))]) (by simp [results, Tryd.results45, go_sem, *]) rfl ⟨rfl, ?_⟩
  repeat (first | (with_reducible exact Below.refl _ _) | ((with_reducible refine Below.setCell ?_ ?_ _); rotate_left 1; focus (first | (simp; done) | (simp; omega) | (simp at *; omega))) | ((with_reducible refine Below.alloc ?_ ?_ _); rotate_left 1; focus (first | (simp; done) | (simp; omega) | (simp at *; omega))) | (with_reducible refine Below.drew ?_) | ((with_reducible refine Calm.step (by assumption) ?_ ?_); rotate_left 1; focus (first | (simp; done) | (simp; omega) | (simp at *; omega))))

end Go.Proofs.YtpkldjlljoledaaDoor

/- Contracts of the reference's Tuning and Closed. %still -/
namespace Go.Proofs.YtpkldjlljoledaaDoor
open Go.RowKit
open Calm (bcell Blk)

theorem refTuning_none (air bs bo : Int) (w : World) :
    Calls Tryd.prog 33 #[.agg #[(.int .i64 (air)), (.int .i64 (0)), (.int .i64 (bs)), (.int .i64 (bo))]] w fun r w' => r = .returned (.tuple #[.agg #[(.int .i64 (0)), (.int .i64 (0))], (.int .i64 (7))]) ∧ Below w.heap.size w w' := by
  go_enter Tryd.func33, Tryd.ntmps33
  go_wp2
  refine bodyPost_ret (v := .tuple #[.agg #[(.int .i64 (0)), (.int .i64 (0))], (.int .i64 (7))]) (by simp [results, Tryd.results33, go_sem, *]) rfl ⟨rfl, ?_⟩
  repeat (first | (with_reducible exact Below.refl _ _) | ((with_reducible refine Below.setCell ?_ ?_ _); rotate_left 1; focus (first | (simp; done) | (simp; omega) | (simp at *; omega))) | ((with_reducible refine Below.alloc ?_ ?_ _); rotate_left 1; focus (first | (simp; done) | (simp; omega) | (simp at *; omega))) | (with_reducible refine Below.drew ?_) | ((with_reducible refine Calm.step (by assumption) ?_ ?_); rotate_left 1; focus (first | (simp; done) | (simp; omega) | (simp at *; omega))))
theorem refTuning_ok (air bm bs bo : Int) (w : World) (hm : bm ≠ 0) (h : boxErr air bm bs bo = 0) :
    Calls Tryd.prog 33 #[.agg #[(.int .i64 (air)), (.int .i64 (bm)), (.int .i64 (bs)), (.int .i64 (bo))]] w fun r w' => r = .returned (.tuple #[.agg #[(.int .i64 (lowN (air + bs) bm)), (.int .i64 (lowD (air + bs) bm))], (.int .i64 (0))]) ∧ Below w.heap.size w w' := by
  obtain ⟨⟨b1, b2⟩, hb0⟩ := boxErr_zero h
  obtain ⟨⟨b3, b4⟩, ⟨b5, b6⟩, ⟨b7, b8⟩⟩ := hb0.resolve_left (fun hh => hm hh.1)
  clear hb0 h
  have hm2 : (bm == 0) = false := by simp [hm]
  go_enter Tryd.func33, Tryd.ntmps33
  go_wp2_with (first | (go_at_call 91; refine (qLowest_any _ _ _ (by omega) (by omega) (by omega) (by omega)).mono ?_; rintro r w1 ⟨rfl, hb⟩; obtain ⟨hc, hf⟩ := bcell hb; have hz := hb.size; (try simp at hz); (try have hz0 : w.heap.size < w1.heap.size := by omega); (try have hz1 : w.heap.size + 1 < w1.heap.size := by omega); (try have hz2 : w.heap.size + 1 + 1 < w1.heap.size := by omega); (try have hz3 : w.heap.size + 1 + 1 + 1 < w1.heap.size := by omega); (try have hz4 : w.heap.size + 1 + 1 + 1 + 1 < w1.heap.size := by omega); (try have hz5 : w.heap.size + 1 + 1 + 1 + 1 + 1 < w1.heap.size := by omega); (try have hz6 : w.heap.size + 1 + 1 + 1 + 1 + 1 + 1 < w1.heap.size := by omega)))
  refine bodyPost_ret (v := .tuple #[.agg #[(.int .i64 (lowN (air + bs) bm)), (.int .i64 (lowD (air + bs) bm))], (.int .i64 (0))]) (by simp [results, Tryd.results33, go_sem, *]) rfl ⟨rfl, ?_⟩
  repeat (first | (with_reducible exact Below.refl _ _) | ((with_reducible refine Below.setCell ?_ ?_ _); rotate_left 1; focus (first | (simp; done) | (simp; omega) | (simp at *; omega))) | ((with_reducible refine Below.alloc ?_ ?_ _); rotate_left 1; focus (first | (simp; done) | (simp; omega) | (simp at *; omega))) | (with_reducible refine Below.drew ?_) | ((with_reducible refine Calm.step (by assumption) ?_ ?_); rotate_left 1; focus (first | (simp; done) | (simp; omega) | (simp at *; omega))))
theorem refClosed_bad (re le bl ma st lo x : Int) (w : World) (h1 : 0 ≤ st ∧ st ≤ 10000) (h2 : 0 ≤ x ∧ x ≤ 10000) (h : 5000 < st + x) :
    Calls Tryd.prog 42 #[.agg #[(.int .i64 (re)), (.int .i64 (le)), (.int .i64 (bl)), (.int .i64 (ma)), (.int .i64 (st)), (.int .i64 (lo))], (.int .i64 (x))] w fun r w' => r = .returned (.tuple #[.agg #[(.int .i64 (0)), (.int .i64 (0)), (.int .i64 (0)), (.int .i64 (0)), (.int .i64 (0)), (.int .i64 (0))], (.int .i64 (3))]) ∧ Below w.heap.size w w' := by
  obtain ⟨a1, a2⟩ := h1
  obtain ⟨a3, a4⟩ := h2
  go_enter Tryd.func42, Tryd.ntmps42
  go_wp2
  refine bodyPost_ret (v := .tuple #[.agg #[(.int .i64 (0)), (.int .i64 (0)), (.int .i64 (0)), (.int .i64 (0)), (.int .i64 (0)), (.int .i64 (0))], (.int .i64 (3))]) (by simp [results, Tryd.results42, go_sem, *]) rfl ⟨rfl, ?_⟩
  repeat (first | (with_reducible exact Below.refl _ _) | ((with_reducible refine Below.setCell ?_ ?_ _); rotate_left 1; focus (first | (simp; done) | (simp; omega) | (simp at *; omega))) | ((with_reducible refine Below.alloc ?_ ?_ _); rotate_left 1; focus (first | (simp; done) | (simp; omega) | (simp at *; omega))) | (with_reducible refine Below.drew ?_) | ((with_reducible refine Calm.step (by assumption) ?_ ?_); rotate_left 1; focus (first | (simp; done) | (simp; omega) | (simp at *; omega))))
theorem refClosed_ok (re le bl ma st lo x : Int) (w : World) (h1 : 0 ≤ st ∧ st ≤ 10000) (h2 : 0 ≤ x ∧ x ≤ 10000) (h : st + x ≤ 5000) :
    Calls Tryd.prog 42 #[.agg #[(.int .i64 (re)), (.int .i64 (le)), (.int .i64 (bl)), (.int .i64 (ma)), (.int .i64 (st)), (.int .i64 (lo))], (.int .i64 (x))] w fun r w' => r = .returned (.tuple #[.agg #[(.int .i64 (re)), (.int .i64 (le)), (.int .i64 (bl)), (.int .i64 (ma)), (.int .i64 (st + x)), (.int .i64 (lo))], (.int .i64 (0))]) ∧ Below w.heap.size w w' := by
  obtain ⟨a1, a2⟩ := h1
  obtain ⟨a3, a4⟩ := h2
  go_enter Tryd.func42, Tryd.ntmps42
  go_wp2
  refine bodyPost_ret (v := .tuple #[.agg #[(.int .i64 (re)), (.int .i64 (le)), (.int .i64 (bl)), (.int .i64 (ma)), (.int .i64 (st + x)), (.int .i64 (lo))], (.int .i64 (0))]) (by simp [results, Tryd.results42, go_sem, *]) rfl ⟨rfl, ?_⟩
  repeat (first | (with_reducible exact Below.refl _ _) | ((with_reducible refine Below.setCell ?_ ?_ _); rotate_left 1; focus (first | (simp; done) | (simp; omega) | (simp at *; omega))) | ((with_reducible refine Below.alloc ?_ ?_ _); rotate_left 1; focus (first | (simp; done) | (simp; omega) | (simp at *; omega))) | (with_reducible refine Below.drew ?_) | ((with_reducible refine Calm.step (by assumption) ?_ ?_); rotate_left 1; focus (first | (simp; done) | (simp; omega) | (simp at *; omega))))
end Go.Proofs.YtpkldjlljoledaaDoor

/- For the law on figures: blocks that are stored into whole; the same values from the program and from the reference. -/
namespace Go.Proofs.YtpkldjlljoledaaDoor
open Go.RowKit
open Calm (bcell Blk)

theorem info53 : (Tryd.prog.info? 53).map (fun i => (i.zero, i.size, i.bytes)) = some (some (.agg #[.int .i64 0, .int .i64 0]), 2, 16) := by kernel_rfl
theorem cells53 : Tryd.prog.cellsOf 53 = 2 := by kernel_rfl
theorem eq70 (a b c d e f : Int) (W : World) : Sem.run Tryd.prog (binOp BinOp.eql 70 (.agg #[(.int .i64 (a)), (.int .i64 (b)), (.int .i64 (c)), (.int .i64 (d)), (.int .i64 (e)), (.int .i64 (f))]) (.agg #[(.int .i64 (a)), (.int .i64 (b)), (.int .i64 (c)), (.int .i64 (d)), (.int .i64 (e)), (.int .i64 (f))])) W = .ok (.bool true) W := by
  obtain ⟨i, hi, _⟩ := info_parts info53
  rw [run_eql_struct]
  rw [run_equalIn_array W 9999 _ _ Tryd.underlying70 hi, cells53]
  simp [go_sem, Op.eqItems, List.range_succ]

def st2 (w : World) (g : Nat) (a b : Value) : World := (w.setCell ⟨g, 0, none⟩ a).setCell ⟨g, 1, none⟩ b
def st6 (w : World) (g : Nat) (a b c d e f : Value) : World := (((((w.setCell ⟨g, 0, none⟩ a).setCell ⟨g, 1, none⟩ b).setCell ⟨g, 2, none⟩ c).setCell ⟨g, 3, none⟩ d).setCell ⟨g, 4, none⟩ e).setCell ⟨g, 5, none⟩ f
theorem st2_blk {w : World} {g : Nat} {x y : Value} (h : Blk w g #[x, y]) (a b : Value) : Blk (st2 w g a b) g #[a, b] := by
  have := (h.set (i := 0) (by simp) a).set (i := 1) (by simp) b
  simpa [st2] using this
theorem st6_blk {w : World} {g : Nat} {x y z u v t : Value} (h : Blk w g #[x, y, z, u, v, t]) (a b c d e f : Value) : Blk (st6 w g a b c d e f) g #[a, b, c, d, e, f] := by
  have := (((((h.set (i := 0) (by simp) a).set (i := 1) (by simp) b).set (i := 2) (by simp) c).set (i := 3) (by simp) d).set (i := 4) (by simp) e).set (i := 5) (by simp) f
  simpa [st6] using this
theorem st2_far {w : World} {g g' : Nat} {cs : Array Value} (h : Blk w g' cs) (hne : g ≠ g') (a b : Value) : Blk (st2 w g a b) g' cs := (h.far hne _).far hne _
theorem st6_far {w : World} {g g' : Nat} {cs : Array Value} (h : Blk w g' cs) (hne : g ≠ g') (a b c d e f : Value) : Blk (st6 w g a b c d e f) g' cs := (((((h.far hne _).far hne _).far hne _).far hne _).far hne _).far hne _
theorem st2_below {B : Nat} {w0 w : World} (h : Below B w0 w) {g : Nat} (hg : B ≤ g) (a b : Value) : Below B w0 (st2 w g a b) := (h.setCell (p := ⟨g, 0, none⟩) hg _).setCell (p := ⟨g, 1, none⟩) hg _
theorem st6_below {B : Nat} {w0 w : World} (h : Below B w0 w) {g : Nat} (hg : B ≤ g) (a b c d e f : Value) : Below B w0 (st6 w g a b c d e f) :=
  (((((h.setCell (p := ⟨g, 0, none⟩) hg _).setCell (p := ⟨g, 1, none⟩) hg _).setCell (p := ⟨g, 2, none⟩) hg _).setCell (p := ⟨g, 3, none⟩) hg _).setCell (p := ⟨g, 4, none⟩) hg _).setCell (p := ⟨g, 5, none⟩) hg _

/-- what Closed gives when nothing is wrong with its arguments: the program and the reference alike. -/
theorem closed_same (re le bl ma st lo k : Int) (h : closedErr re le bl ma st lo k = 0) : ∃ c1 c2 c3 c4 c5 c6 e : Int,
    (∀ W, Lim W → Calls Tryd.prog 36 #[.agg #[(.int .i64 (re)), (.int .i64 (le)), (.int .i64 (bl)), (.int .i64 (ma)), (.int .i64 (st)), (.int .i64 (lo))], (.int .i64 (k))] W fun r w' => r = .returned (.tuple #[.agg #[(.int .i64 (c1)), (.int .i64 (c2)), (.int .i64 (c3)), (.int .i64 (c4)), (.int .i64 (c5)), (.int .i64 (c6))], (.int .i64 (e))]) ∧ Below W.heap.size W w') ∧
    (∀ W, Calls Tryd.prog 42 #[.agg #[(.int .i64 (re)), (.int .i64 (le)), (.int .i64 (bl)), (.int .i64 (ma)), (.int .i64 (st)), (.int .i64 (lo))], (.int .i64 (k))] W fun r w' => r = .returned (.tuple #[.agg #[(.int .i64 (c1)), (.int .i64 (c2)), (.int .i64 (c3)), (.int .i64 (c4)), (.int .i64 (c5)), (.int .i64 (c6))], (.int .i64 (e))]) ∧ Below W.heap.size W w') := by
  have h2 := firstOf_eq_zero.1 h
  obtain ⟨_, _, _, _, hs, _⟩ := drvErr_zero (h2 (drvErr re le bl ma st lo) (by simp))
  have hk := rangeErr_zero.1 (h2 (rangeErr k 0 5000) (by simp))
  by_cases hf : st + k ≤ 5000
  · exact ⟨_, _, _, _, _, _, _, fun W hL => closed_ok re le bl ma st lo k W hL h hf, fun W => refClosed_ok re le bl ma st lo k W (by omega) (by omega) hf⟩
  · exact ⟨_, _, _, _, _, _, _, fun W hL => closed_far re le bl ma st lo k W hL h (by omega), fun W => refClosed_bad re le bl ma st lo k W (by omega) (by omega) (by omega)⟩
theorem weighed_same (a b c d n : Int) (h : weighErr a b c d n = 0) : ∃ m1 m2 s1 s2 e : Int, (e = 0 ∨ (m1 = 0 ∧ m2 = 0) ∧ (s1 = 0 ∧ s2 = 0)) ∧
    (∀ W, Calls Tryd.prog 39 #[.agg #[(.int .i64 (a)), (.int .i64 (b))], .agg #[(.int .i64 (c)), (.int .i64 (d))], (.int .i64 (n))] W fun r w' => r = .returned (.tuple #[.agg #[(.int .i64 (m1)), (.int .i64 (m2))], .agg #[(.int .i64 (s1)), (.int .i64 (s2))], (.int .i64 (e))]) ∧ Below W.heap.size W w') ∧
    (∀ W, Calls Tryd.prog 45 #[.agg #[(.int .i64 (a)), (.int .i64 (b))], .agg #[(.int .i64 (c)), (.int .i64 (d))], (.int .i64 (n))] W fun r w' => r = .returned (.tuple #[.agg #[(.int .i64 (m1)), (.int .i64 (m2))], .agg #[(.int .i64 (s1)), (.int .i64 (s2))], (.int .i64 (e))]) ∧ Below W.heap.size W w') := by
  by_cases ho : 0 < a * d - c * b
  · exact ⟨_, _, _, _, _, .inl rfl, fun W => weighed_ok a b c d n W h ho, fun W => refWeighed_ok a b c d n W h ho⟩
  · exact ⟨_, _, _, _, _, .inr ⟨⟨rfl, rfl⟩, rfl, rfl⟩, fun W => weighed_order a b c d n W h (by omega), fun W => refWeighed_order a b c d n W h (by omega)⟩
theorem ratio_same (a b e : Int) (h : e = 0 ∨ (a = 0 ∧ b = 0)) (w : World) : Calls Tryd.prog 35 #[.agg #[(.int .i64 (a)), (.int .i64 (b))], (.int .i64 (e)), (.int .i64 (e)), .agg #[(.int .i64 (a)), (.int .i64 (b))]] w fun r w' => r = .returned (.bool true) ∧ Below w.heap.size w w' := by
  by_cases he : e = 0
  · subst he; exact ratio_ok a b w
  · rcases h with h | ⟨rfl, rfl⟩
    · exact absurd h he
    · exact ratio_bad e w he
end Go.Proofs.YtpkldjlljoledaaDoor
