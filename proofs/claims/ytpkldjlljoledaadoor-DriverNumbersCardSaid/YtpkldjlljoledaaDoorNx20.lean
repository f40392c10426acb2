/- Part 20 of the texts of the claim: C1, C7, C8. -/
import Derived.Test.YtpkldjlljoledaaDoorNx7
import Derived.Test.YtpkldjlljoledaaDoorNx12
import Derived.Test.YtpkldjlljoledaaDoorNx10

/- Contracts of the reference's checks. %still -/
namespace Go.Proofs.YtpkldjlljoledaaDoor
open Go.RowKit
open Calm (bcell Blk)

theorem qFirst_any (l : List Int) (b off c : Nat) (w : World) (hl : l.length ≤ 64) (hc : ∀ k, k < l.length → w.cell? ⟨b, off + k, none⟩ = some (.int .i64 (l.getD k 0))) :
    Calls Tryd.prog 16 #[.slice (some ⟨b, off, none⟩) l.length c] w fun r w' => r = .returned (.int .i64 (firstOf l)) ∧ w = w' := by
  go_enter Tryd.func16, Tryd.ntmps16
  go_wp2
  go_loop [3] (fun i => ∃ k : Nat, k ≤ l.length ∧ i = (.int .i64 (k)) ∧ ∀ j, j < k → l.getD j 0 = 0) (fun i => l.length - (intOf i).toNat)
  case atStart => exact ⟨0, Nat.zero_le _, rfl, fun j hj => by omega⟩
  case round =>
    obtain ⟨k, hk, rfl, hz⟩ := hrel
    have HZ := Lib.hid hz
    clear hz
    by_cases hlt : k < l.length
    · have hck := hc k hlt
      clear hc
      by_cases h0 : l.getD k 0 = 0
      · rw [h0] at hck
        have H0 := Lib.hid h0
        clear h0
        go_wp2
        go_round
        case rel => exact ⟨k + 1, by omega, by go_num, fun j hj => by
          rcases Nat.lt_or_ge j k with hjk | hjk
          · exact HZ.out j hjk
          · obtain rfl : j = k := by omega
            exact H0.out⟩
        case measure => simp [intOf]; omega
      · obtain ⟨x, hx⟩ : ∃ x, x = l.getD k 0 := ⟨_, rfl⟩
        rw [← hx] at hck h0
        have H0 := Lib.hid hx
        clear hx
        go_wp2
        go_ret
        exact ⟨ret_i (by rw [firstOf_take HZ.out hlt (by rw [← H0.out]; exact h0)]; exact H0.out), rfl⟩
    · clear hc
      go_wp2
      go_ret
      exact ⟨ret_i (by rw [firstOf_zero (fun j hj => HZ.out j (by omega))]), rfl⟩

theorem checkRange_any (n lo hi : Int) (w : World) : Calls Tryd.prog 40 #[(.int .i64 (n)), (.int .i64 (lo)), (.int .i64 (hi))] w fun r w' => r = .returned (.int .i64 (rangeErr n lo hi)) ∧ w = w' := by
  by_cases h1 : n < lo
  · rw [rangeErr_lo h1]
    go_enter Tryd.func40, Tryd.ntmps40
    go_wp2
    go_ret
    exact ⟨rfl, rfl⟩
  · by_cases h2 : hi < n
    · rw [rangeErr_hi h2]
      go_enter Tryd.func40, Tryd.ntmps40
      go_wp2
      go_ret
      exact ⟨rfl, rfl⟩
    · rw [rangeErr_in (by omega) (by omega)]
      go_enter Tryd.func40, Tryd.ntmps40
      go_wp2
      go_ret
      exact ⟨rfl, rfl⟩
theorem refCheckW_any (n : Int) (w : World) : Calls Tryd.prog 18 #[(.int .i64 (n))] w fun r w' => r = .returned (.int .i64 (rangeErr n 1 8)) ∧ w = w' := by
  go_enter Tryd.func18, Tryd.ntmps18
  go_wp2_with (first | (go_at_call 40; refine (checkRange_any _ _ _ _).mono ?_; rintro r w1 ⟨rfl, rfl⟩))
  go_ret
  exact ⟨rfl, rfl⟩
theorem qFirst2_any (a b : Int) (W : World) : Calls Tryd.prog 16 #[.slice (some ⟨W.heap.size, 0, none⟩) 2 2] (W.alloc (.cells #[(.int .i64 (a)), (.int .i64 (b))] 3)) fun r w' => r = .returned (.int .i64 (firstOf [a, b])) ∧ W.alloc (.cells #[(.int .i64 (a)), (.int .i64 (b))] 3) = w' :=
  qFirst_any [a, b] W.heap.size 0 2 _ (by simp) fun k hk => by
    have : k = 0 ∨ k = 1 := by simp at hk; omega
    rcases this with rfl | rfl <;> simp
theorem qFirst3_any (a b c : Int) (W : World) : Calls Tryd.prog 16 #[.slice (some ⟨W.heap.size, 0, none⟩) 3 3] (W.alloc (.cells #[(.int .i64 (a)), (.int .i64 (b)), (.int .i64 (c))] 3)) fun r w' => r = .returned (.int .i64 (firstOf [a, b, c])) ∧ W.alloc (.cells #[(.int .i64 (a)), (.int .i64 (b)), (.int .i64 (c))] 3) = w' :=
  qFirst_any [a, b, c] W.heap.size 0 3 _ (by simp) fun k hk => by
    have : k = 0 ∨ k = 1 ∨ k = 2 := by simp at hk; omega
    rcases this with rfl | rfl | rfl <;> simp
theorem qFirst4_any (a b c d : Int) (W : World) : Calls Tryd.prog 16 #[.slice (some ⟨W.heap.size, 0, none⟩) 4 4] (W.alloc (.cells #[(.int .i64 (a)), (.int .i64 (b)), (.int .i64 (c)), (.int .i64 (d))] 3)) fun r w' => r = .returned (.int .i64 (firstOf [a, b, c, d])) ∧ W.alloc (.cells #[(.int .i64 (a)), (.int .i64 (b)), (.int .i64 (c)), (.int .i64 (d))] 3) = w' :=
  qFirst_any [a, b, c, d] W.heap.size 0 4 _ (by simp) fun k hk => by
    have : k = 0 ∨ k = 1 ∨ k = 2 ∨ k = 3 := by simp at hk; omega
    rcases this with rfl | rfl | rfl | rfl <;> simp
theorem qFirst6_any (a b c d e f : Int) (W : World) : Calls Tryd.prog 16 #[.slice (some ⟨W.heap.size, 0, none⟩) 6 6] (W.alloc (.cells #[(.int .i64 (a)), (.int .i64 (b)), (.int .i64 (c)), (.int .i64 (d)), (.int .i64 (e)), (.int .i64 (f))] 3)) fun r w' => r = .returned (.int .i64 (firstOf [a, b, c, d, e, f])) ∧ W.alloc (.cells #[(.int .i64 (a)), (.int .i64 (b)), (.int .i64 (c)), (.int .i64 (d)), (.int .i64 (e)), (.int .i64 (f))] 3) = w' :=
  qFirst_any [a, b, c, d, e, f] W.heap.size 0 6 _ (by simp) fun k hk => by
    have : k = 0 ∨ k = 1 ∨ k = 2 ∨ k = 3 ∨ k = 4 ∨ k = 5 := by simp at hk; omega
    rcases this with rfl | rfl | rfl | rfl | rfl | rfl <;> simp
set_option maxHeartbeats 1000000 in
theorem refCheckDriver_any (re le bl ma st lo : Int) (w : World) :
    Calls Tryd.prog 17 #[.agg #[(.int .i64 (re)), (.int .i64 (le)), (.int .i64 (bl)), (.int .i64 (ma)), (.int .i64 (st)), (.int .i64 (lo))]] w fun r w' => r = .returned (.int .i64 (drvErr re le bl ma st lo)) ∧ Below w.heap.size w w' := by
  have hE : drvErr re le bl ma st lo = firstOf [rangeErr re 1 50, rangeErr le 0 10, rangeErr bl 1 20, rangeErr ma 1 100, rangeErr st 1 5000, rangeErr lo 1 100] := rfl
  rw [hE]
  clear hE
  go_enter Tryd.func17, Tryd.ntmps17
  go_wp2
  refine Calm.still_tail 18 (by kernel_rfl) (by kernel_rfl) ?_
  simp only [List.take_succ_cons, List.take_zero, List.drop_succ_cons, List.drop_zero]
  repeat (first | (first | (apply Calm.still_op_move; (focus rfl); (focus (first | exact .inl rfl | exact .inr rfl)); (focus ((try simp only [Act.eval, Array.getD_eq_getD_getElem?, List.getElem?_toArray, List.getElem?_cons_succ, List.getElem?_cons_zero, Option.getD_some]); rfl)); (try simp only [Act.put, List.setIfInBounds_toArray, List.set_cons_zero, List.set_cons_succ])) | (apply Calm.still_op_not; (focus rfl); (try simp only [Act.put, List.setIfInBounds_toArray, List.set_cons_zero, List.set_cons_succ])) | (apply Calm.still_op; (focus rfl); (focus (intro W hb; obtain ⟨hc, hf⟩ := bcell hb; clear hb hf; go_simp; (try go_bits); (try rfl); done)); (try simp only [Act.put, List.setIfInBounds_toArray, List.set_cons_zero, List.set_cons_succ]))) | (apply Calm.still_op_call; (focus rfl); (focus (intro W hb; obtain ⟨hc, hf⟩ := bcell hb; clear hb hf; go_simp; refine ⟨?_, ?_⟩; rfl; rfl)); (focus (intro W hb; first | (go_at_call 40; exact Calm.call_same hb (checkRange_any _ _ _ _)))); (try simp only [Act.put, List.setIfInBounds_toArray, List.set_cons_zero, List.set_cons_succ])))
  refine Calm.still_nil ?_
  intro w1 hb
  obtain ⟨hbc, hbf⟩ := bcell hb
  have hbz := hb.size
  (try simp at hbz)
  (try have hbz0 : w.heap.size < w1.heap.size := by omega)
  (try have hbz1 : w.heap.size + 1 < w1.heap.size := by omega)
  (try have hbz2 : w.heap.size + 1 + 1 < w1.heap.size := by omega)
  (try have hbz3 : w.heap.size + 1 + 1 + 1 < w1.heap.size := by omega)
  (try have hbz4 : w.heap.size + 1 + 1 + 1 + 1 < w1.heap.size := by omega)
  (try have hbz5 : w.heap.size + 1 + 1 + 1 + 1 + 1 < w1.heap.size := by omega)
  go_wp2_with (first | (go_at_call 16; refine (qFirst6_any _ _ _ _ _ _ _).mono ?_; rintro r w1 ⟨rfl, rfl⟩))
  go_ret
  refine ⟨by first | rfl | (simp; done), ?_⟩
  repeat (first | (with_reducible exact Below.refl _ _) | ((with_reducible refine Below.setCell ?_ ?_ _); rotate_left 1; focus (first | (simp; done) | (simp; omega) | (simp at *; omega))) | ((with_reducible refine Below.alloc ?_ ?_ _); rotate_left 1; focus (first | (simp; done) | (simp; omega) | (simp at *; omega))) | (with_reducible refine Below.drew ?_) | ((with_reducible refine Calm.step (by assumption) ?_ ?_); rotate_left 1; focus (first | (simp; done) | (simp; omega) | (simp at *; omega))))
end Go.Proofs.YtpkldjlljoledaaDoor

/- Contract of the reference's Lowest. %still -/
namespace Go.Proofs.YtpkldjlljoledaaDoor
open Go.RowKit
open Calm (bcell Blk)

set_option maxHeartbeats 1000000 in
theorem qLowest_nat (n m : Nat) (w : World) (h1 : 1 ≤ n) (h2 : 1 ≤ m) (h3 : n ≤ 1000000000000000) (h4 : m ≤ 1000000000000000) :
    Calls Tryd.prog 91 #[(.int .i64 (n)), (.int .i64 (m))] w fun r w' => r = .returned (.agg #[(.int .i64 (lowN n m)), (.int .i64 (lowD n m))]) ∧ Below w.heap.size w w' := by
  go_enter Tryd.func91, Tryd.ntmps91
  go_wp2
  have hb0 : Below w.heap.size w (w.alloc (.cells #[(.int .i64 (0)), (.int .i64 (0))] 53)) := (Below.refl _ _).alloc (Nat.le_refl _) _
  have k0 : Blk (w.alloc (.cells #[(.int .i64 (0)), (.int .i64 (0))] 53)) w.heap.size #[(.int .i64 (0)), (.int .i64 (0))] := Blk.at_ rfl
  go_loopw [5, 6] (fun x y wr => ∃ a b : Nat, x = (.int .i64 (a)) ∧ y = (.int .i64 (b)) ∧ Nat.gcd a b = Nat.gcd n m ∧ 1 ≤ a ∧ a ≤ 1000000000000000 ∧ b ≤ 1000000000000000 ∧ Below w.heap.size w wr ∧ Blk wr w.heap.size #[(.int .i64 (0)), (.int .i64 (0))]) (fun _ y _ => (intOf y).toNat)
  case atStart => exact ⟨n, m, rfl, rfl, rfl, h1, h3, h4, hb0, k0⟩
  case round =>
    clear hb0 k0
    obtain ⟨a, b, rfl, rfl, hg, ha, ha2, hb2, hB, hk⟩ := hrel
    have HG := Lib.hid hg
    clear hg
    have hkl := hk.lt
    by_cases hb0 : b = 0
    · subst hb0
      have hga : a = Nat.gcd n m := by have := HG.out; simpa using this
      have e : (Int.gcd (n : Int) (m : Int) : Int) = (a : Int) := by rw [hga]; rfl
      have HE := Lib.hid e
      clear e HG hga
      have hne : ¬ a = 0 := by omega
      have hne2 : ((a : Int) == 0) = false := by simp [hne]
      obtain ⟨q1, q2⟩ := IntWalk.tdiv_le n a (by omega) (by omega)
      obtain ⟨q3, q4⟩ := IntWalk.tdiv_le m a (by omega) (by omega)
      have c0 := hk.cell 0 _ rfl
      have c1 := hk.cell 1 _ rfl
      have f := hk.f
      go_wp2
      refine Calm.still_tail 7 (by kernel_rfl) (by kernel_rfl) ?_
      simp only [List.take_succ_cons, List.take_zero, List.drop_succ_cons, List.drop_zero]
      repeat (first | (apply Calm.still_op_move; (focus rfl); (focus (first | exact .inl rfl | exact .inr rfl)); (focus ((try simp only [Act.eval, Array.getD_eq_getD_getElem?, List.getElem?_toArray, List.getElem?_cons_succ, List.getElem?_cons_zero, Option.getD_some]); rfl)); (try simp only [Act.put, List.setIfInBounds_toArray, List.set_cons_zero, List.set_cons_succ])) | (apply Calm.still_op_not; (focus rfl); (try simp only [Act.put, List.setIfInBounds_toArray, List.set_cons_zero, List.set_cons_succ])) | (apply Calm.still_op; (focus rfl); (focus (intro W hb; obtain ⟨hc, hf⟩ := bcell hb; clear hb hf; go_simp; (try go_bits); (try rfl); done)); (try simp only [Act.put, List.setIfInBounds_toArray, List.set_cons_zero, List.set_cons_succ])))
      refine Calm.still_nil ?_
      intro w1 hb
      obtain ⟨hbc, hbf⟩ := bcell hb
      have hbz := hb.size
      (try simp at hbz)
      (try have hbz0 : w.heap.size < w1.heap.size := by omega)
      (try have hbz1 : w.heap.size + 1 < w1.heap.size := by omega)
      (try have hbz2 : w.heap.size + 1 + 1 < w1.heap.size := by omega)
      (try have hbz3 : w.heap.size + 1 + 1 + 1 < w1.heap.size := by omega)
      (try have hbz4 : w.heap.size + 1 + 1 + 1 + 1 < w1.heap.size := by omega)
      (try have hbz5 : w.heap.size + 1 + 1 + 1 + 1 + 1 < w1.heap.size := by omega)
      go_wp2
      refine bodyPost_ret (v := .agg #[(.int .i64 (lowN n m)), (.int .i64 (lowD n m))]) ?_ rfl ⟨rfl, ?_⟩
      · rw [lowN, lowD, HE.out]
        simp [results, Tryd.results91, go_sem, *]
      · repeat (first | (with_reducible exact Below.refl _ _) | ((with_reducible refine Below.setCell ?_ ?_ _); rotate_left 1; focus (first | (simp; done) | (simp; omega) | (simp at *; omega))) | ((with_reducible refine Below.alloc ?_ ?_ _); rotate_left 1; focus (first | (simp; done) | (simp; omega) | (simp at *; omega))) | (with_reducible refine Below.drew ?_) | ((with_reducible refine Calm.step (by assumption) ?_ ?_); rotate_left 1; focus (first | (simp; done) | (simp; omega) | (simp at *; omega))))
    · have hb1 : 1 ≤ b := by omega
      have hne2 : ((b : Int) == 0) = false := by simp [hb0]
      have hne3 : ((b : Int) != 0) = true := by simp [hb0]
      have hm : a % b < b := Nat.mod_lt _ (by omega)
      go_wp2
      refine Calm.still_all (by kernel_rfl) (by kernel_rfl) ?_
      repeat (first | (apply Calm.still_op_move; (focus rfl); (focus (first | exact .inl rfl | exact .inr rfl)); (focus ((try simp only [Act.eval, Array.getD_eq_getD_getElem?, List.getElem?_toArray, List.getElem?_cons_succ, List.getElem?_cons_zero, Option.getD_some]); rfl)); (try simp only [Act.put, List.setIfInBounds_toArray, List.set_cons_zero, List.set_cons_succ])) | (apply Calm.still_op_not; (focus rfl); (try simp only [Act.put, List.setIfInBounds_toArray, List.set_cons_zero, List.set_cons_succ])) | (apply Calm.still_op; (focus rfl); (focus (intro W hb; obtain ⟨hc, hf⟩ := bcell hb; clear hb hf; go_simp; (try go_bits); (try rfl); done)); (try simp only [Act.put, List.setIfInBounds_toArray, List.set_cons_zero, List.set_cons_succ])))
      refine Calm.still_nil ?_
      intro w1 hb
      obtain ⟨hbc, hbf⟩ := bcell hb
      have hbz := hb.size
      (try simp at hbz)
      (try have hbz0 : w.heap.size < w1.heap.size := by omega)
      (try have hbz1 : w.heap.size + 1 < w1.heap.size := by omega)
      (try have hbz2 : w.heap.size + 1 + 1 < w1.heap.size := by omega)
      (try have hbz3 : w.heap.size + 1 + 1 + 1 < w1.heap.size := by omega)
      (try have hbz4 : w.heap.size + 1 + 1 + 1 + 1 < w1.heap.size := by omega)
      (try have hbz5 : w.heap.size + 1 + 1 + 1 + 1 + 1 < w1.heap.size := by omega)
      go_wp2
      go_roundw
      case rel => exact ⟨b, a % b, rfl, by go_num, by rw [← HG.out]; exact (Nat.gcd_comm b (a % b)).trans ((Nat.gcd_rec b a).symm.trans (Nat.gcd_comm b a)), by omega, by omega, by omega, hB.trans (hb.mono hB.size), hk.below hb⟩
      case measure => simp [intOf]; omega
theorem qLowest_any (num den : Int) (w : World) (h1 : 1 ≤ num) (h2 : 1 ≤ den) (h3 : num ≤ 1000000000000000) (h4 : den ≤ 1000000000000000) :
    Calls Tryd.prog 91 #[(.int .i64 (num)), (.int .i64 (den))] w fun r w' => r = .returned (.agg #[(.int .i64 (lowN num den)), (.int .i64 (lowD num den))]) ∧ Below w.heap.size w w' := by
  obtain ⟨n, rfl⟩ := Int.eq_ofNat_of_zero_le (show 0 ≤ num by omega)
  obtain ⟨m, rfl⟩ := Int.eq_ofNat_of_zero_le (show 0 ≤ den by omega)
  exact qLowest_nat n m w (by omega) (by omega) (by omega) (by omega)

end Go.Proofs.YtpkldjlljoledaaDoor

/- Contracts of the reference's figures. %still -/
namespace Go.Proofs.YtpkldjlljoledaaDoor
open Go.RowKit
open Calm (bcell Blk)

theorem refCheckBox_any (air ma st lo : Int) (w : World) :
    Calls Tryd.prog 29 #[.agg #[(.int .i64 (air)), (.int .i64 (ma)), (.int .i64 (st)), (.int .i64 (lo))]] w fun r w' => r = .returned (.int .i64 (boxErr air ma st lo)) ∧ Below w.heap.size w w' := by
  rcases rangeErr_cases air 1 5000 with ⟨h0, _, _⟩ | ⟨h0, _⟩
  · by_cases hm : ma = 0
    · subst hm
      by_cases hs : st = 0
      · subst hs
        by_cases hl : lo = 0
        · subst hl
          go_enter Tryd.func29, Tryd.ntmps29
          go_wp2_with (first | (go_at_call 40; refine (checkRange_any _ _ _ _).mono ?_; rintro r w1 ⟨rfl, rfl⟩))
          go_ret
          refine ⟨ret_i (by simp [boxErr, h0]), ?_⟩
          repeat (first | (with_reducible exact Below.refl _ _) | ((with_reducible refine Below.setCell ?_ ?_ _); rotate_left 1; focus (first | (simp; done) | (simp; omega) | (simp at *; omega))) | ((with_reducible refine Below.alloc ?_ ?_ _); rotate_left 1; focus (first | (simp; done) | (simp; omega) | (simp at *; omega))) | (with_reducible refine Below.drew ?_) | ((with_reducible refine Calm.step (by assumption) ?_ ?_); rotate_left 1; focus (first | (simp; done) | (simp; omega) | (simp at *; omega))))
        · go_enter Tryd.func29, Tryd.ntmps29
          go_wp2_with (first | (go_at_call 40; refine (checkRange_any _ _ _ _).mono ?_; rintro r w1 ⟨rfl, rfl⟩))
          go_ret
          refine ⟨ret_i (by simp [boxErr, h0, hl]), ?_⟩
          repeat (first | (with_reducible exact Below.refl _ _) | ((with_reducible refine Below.setCell ?_ ?_ _); rotate_left 1; focus (first | (simp; done) | (simp; omega) | (simp at *; omega))) | ((with_reducible refine Below.alloc ?_ ?_ _); rotate_left 1; focus (first | (simp; done) | (simp; omega) | (simp at *; omega))) | (with_reducible refine Below.drew ?_) | ((with_reducible refine Calm.step (by assumption) ?_ ?_); rotate_left 1; focus (first | (simp; done) | (simp; omega) | (simp at *; omega))))
      · go_enter Tryd.func29, Tryd.ntmps29
        go_wp2_with (first | (go_at_call 40; refine (checkRange_any _ _ _ _).mono ?_; rintro r w1 ⟨rfl, rfl⟩))
        go_ret
        refine ⟨ret_i (by simp [boxErr, h0, hs]), ?_⟩
        repeat (first | (with_reducible exact Below.refl _ _) | ((with_reducible refine Below.setCell ?_ ?_ _); rotate_left 1; focus (first | (simp; done) | (simp; omega) | (simp at *; omega))) | ((with_reducible refine Below.alloc ?_ ?_ _); rotate_left 1; focus (first | (simp; done) | (simp; omega) | (simp at *; omega))) | (with_reducible refine Below.drew ?_) | ((with_reducible refine Calm.step (by assumption) ?_ ?_); rotate_left 1; focus (first | (simp; done) | (simp; omega) | (simp at *; omega))))
    · go_enter Tryd.func29, Tryd.ntmps29
      go_wp2_with (first | (go_at_call 40; refine (checkRange_any _ _ _ _).mono ?_; rintro r w1 ⟨rfl, rfl⟩))
      refine Calm.still_tail 9 (by kernel_rfl) (by kernel_rfl) ?_
      simp only [List.take_succ_cons, List.take_zero, List.drop_succ_cons, List.drop_zero]
      repeat (first | (first | (apply Calm.still_op_move; (focus rfl); (focus (first | exact .inl rfl | exact .inr rfl)); (focus ((try simp only [Act.eval, Array.getD_eq_getD_getElem?, List.getElem?_toArray, List.getElem?_cons_succ, List.getElem?_cons_zero, Option.getD_some]); rfl)); (try simp only [Act.put, List.setIfInBounds_toArray, List.set_cons_zero, List.set_cons_succ])) | (apply Calm.still_op_not; (focus rfl); (try simp only [Act.put, List.setIfInBounds_toArray, List.set_cons_zero, List.set_cons_succ])) | (apply Calm.still_op; (focus rfl); (focus (intro W hb; obtain ⟨hc, hf⟩ := bcell hb; clear hb hf; go_simp; (try go_bits); (try rfl); done)); (try simp only [Act.put, List.setIfInBounds_toArray, List.set_cons_zero, List.set_cons_succ]))) | (apply Calm.still_op_call; (focus rfl); (focus (intro W hb; obtain ⟨hc, hf⟩ := bcell hb; clear hb hf; go_simp; refine ⟨?_, ?_⟩; rfl; rfl)); (focus (intro W hb; first | (go_at_call 40; exact Calm.call_same hb (checkRange_any _ _ _ _)))); (try simp only [Act.put, List.setIfInBounds_toArray, List.set_cons_zero, List.set_cons_succ])))
      refine Calm.still_nil ?_
      intro w1 hb
      obtain ⟨hbc, hbf⟩ := bcell hb
      have hbz := hb.size
      (try simp at hbz)
      (try have hbz0 : w.heap.size < w1.heap.size := by omega)
      (try have hbz1 : w.heap.size + 1 < w1.heap.size := by omega)
      (try have hbz2 : w.heap.size + 1 + 1 < w1.heap.size := by omega)
      (try have hbz3 : w.heap.size + 1 + 1 + 1 < w1.heap.size := by omega)
      (try have hbz4 : w.heap.size + 1 + 1 + 1 + 1 < w1.heap.size := by omega)
      (try have hbz5 : w.heap.size + 1 + 1 + 1 + 1 + 1 < w1.heap.size := by omega)
      go_wp2_with (first | (go_at_call 16; refine (qFirst3_any _ _ _ _).mono ?_; rintro r w1 ⟨rfl, rfl⟩))
      go_ret
      refine ⟨ret_i (by simp [boxErr, h0, hm]), ?_⟩
      repeat (first | (with_reducible exact Below.refl _ _) | ((with_reducible refine Below.setCell ?_ ?_ _); rotate_left 1; focus (first | (simp; done) | (simp; omega) | (simp at *; omega))) | ((with_reducible refine Below.alloc ?_ ?_ _); rotate_left 1; focus (first | (simp; done) | (simp; omega) | (simp at *; omega))) | (with_reducible refine Below.drew ?_) | ((with_reducible refine Calm.step (by assumption) ?_ ?_); rotate_left 1; focus (first | (simp; done) | (simp; omega) | (simp at *; omega))))
  · go_enter Tryd.func29, Tryd.ntmps29
    go_wp2_with (first | (go_at_call 40; refine (checkRange_any _ _ _ _).mono ?_; rintro r w1 ⟨rfl, rfl⟩))
    go_ret
    refine ⟨ret_i (by simp [boxErr, h0]), ?_⟩
    repeat (first | (with_reducible exact Below.refl _ _) | ((with_reducible refine Below.setCell ?_ ?_ _); rotate_left 1; focus (first | (simp; done) | (simp; omega) | (simp at *; omega))) | ((with_reducible refine Below.alloc ?_ ?_ _); rotate_left 1; focus (first | (simp; done) | (simp; omega) | (simp at *; omega))) | (with_reducible refine Below.drew ?_) | ((with_reducible refine Calm.step (by assumption) ?_ ?_); rotate_left 1; focus (first | (simp; done) | (simp; omega) | (simp at *; omega))))
theorem refResonance_any (re le bl ma st lo : Int) (w : World) (h : drvErr re le bl ma st lo = 0) :
    Calls Tryd.prog 43 #[.agg #[(.int .i64 (re)), (.int .i64 (le)), (.int .i64 (bl)), (.int .i64 (ma)), (.int .i64 (st)), (.int .i64 (lo))]] w fun r w' => r = .returned (.agg #[(.int .i64 (lowN st ma)), (.int .i64 (lowD st ma))]) ∧ Below w.heap.size w w' := by
  obtain ⟨_, _, _, ⟨a1, a2⟩, ⟨a3, a4⟩, _⟩ := drvErr_zero h
  clear h
  go_enter Tryd.func43, Tryd.ntmps43
  go_wp2_with (first | (go_at_call 91; refine (qLowest_any _ _ _ (by omega) (by omega) (by omega) (by omega)).mono ?_; rintro r w1 ⟨rfl, hb⟩; obtain ⟨hc, hf⟩ := bcell hb; have hz := hb.size; (try simp at hz); (try have hz0 : w.heap.size < w1.heap.size := by omega); (try have hz1 : w.heap.size + 1 < w1.heap.size := by omega); (try have hz2 : w.heap.size + 1 + 1 < w1.heap.size := by omega); (try have hz3 : w.heap.size + 1 + 1 + 1 < w1.heap.size := by omega); (try have hz4 : w.heap.size + 1 + 1 + 1 + 1 < w1.heap.size := by omega); (try have hz5 : w.heap.size + 1 + 1 + 1 + 1 + 1 < w1.heap.size := by omega); (try have hz6 : w.heap.size + 1 + 1 + 1 + 1 + 1 + 1 < w1.heap.size := by omega)))
  refine bodyPost_ret (v := .agg #[(.int .i64 (lowN st ma)), (.int .i64 (lowD st ma))]) (by simp [results, Tryd.results43, go_sem, *]) rfl ⟨rfl, ?_⟩
  repeat (first | (with_reducible exact Below.refl _ _) | ((with_reducible refine Below.setCell ?_ ?_ _); rotate_left 1; focus (first | (simp; done) | (simp; omega) | (simp at *; omega))) | ((with_reducible refine Below.alloc ?_ ?_ _); rotate_left 1; focus (first | (simp; done) | (simp; omega) | (simp at *; omega))) | (with_reducible refine Below.drew ?_) | ((with_reducible refine Calm.step (by assumption) ?_ ?_); rotate_left 1; focus (first | (simp; done) | (simp; omega) | (simp at *; omega))))
set_option maxHeartbeats 1000000 in
theorem refQuality_any (re le bl ma st lo : Int) (w : World) (h : drvErr re le bl ma st lo = 0) :
    Calls Tryd.prog 44 #[.agg #[(.int .i64 (re)), (.int .i64 (le)), (.int .i64 (bl)), (.int .i64 (ma)), (.int .i64 (st)), (.int .i64 (lo))]] w fun r w' => r = .returned (.agg #[(.int .i64 (lowN (st * ma) (lo * lo))), (.int .i64 (lowD (st * ma) (lo * lo))), (.int .i64 (lowN (st * ma * re * re) (bl * bl * (bl * bl)))), (.int .i64 (lowD (st * ma * re * re) (bl * bl * (bl * bl)))),
      (.int .i64 (lowN (st * ma * re * re) ((lo * re + bl * bl) * (lo * re + bl * bl)))), (.int .i64 (lowD (st * ma * re * re) ((lo * re + bl * bl) * (lo * re + bl * bl))))]) ∧ Below w.heap.size w w' := by
  obtain ⟨a1, a2, a3, a4, a5, a6⟩ := drvErr_zero h
  obtain ⟨q1, q2⟩ := rng_mul a5 a4
  obtain ⟨q3, q4⟩ := rng_mul a3 a3
  obtain ⟨q5, q6⟩ := rng_mul a6 a1
  obtain ⟨q7, q8⟩ := rng_mul a6 a6
  obtain ⟨q9, q10⟩ := rng_mul (rng_mul a5 a4) a1
  obtain ⟨q11, q12⟩ := rng_mul (rng_mul (rng_mul a5 a4) a1) a1
  obtain ⟨q13, q14⟩ := rng_mul (rng_mul a3 a3) (rng_mul a3 a3)
  have qs : 1 ≤ lo * re + bl * bl ∧ lo * re + bl * bl ≤ 5400 := by omega
  obtain ⟨q15, q16⟩ := rng_mul qs qs
  obtain ⟨q17, q18⟩ := qs
  clear a1 a2 a3 a4 a5 a6 h
  go_enter Tryd.func44, Tryd.ntmps44
  go_wp2
  refine Calm.still_tail 30 (by kernel_rfl) (by kernel_rfl) ?_
  simp only [List.take_succ_cons, List.take_zero, List.drop_succ_cons, List.drop_zero]
  repeat (first | (first | (apply Calm.still_op_move; (focus rfl); (focus (first | exact .inl rfl | exact .inr rfl)); (focus ((try simp only [Act.eval, Array.getD_eq_getD_getElem?, List.getElem?_toArray, List.getElem?_cons_succ, List.getElem?_cons_zero, Option.getD_some]); rfl)); (try simp only [Act.put, List.setIfInBounds_toArray, List.set_cons_zero, List.set_cons_succ])) | (apply Calm.still_op_not; (focus rfl); (try simp only [Act.put, List.setIfInBounds_toArray, List.set_cons_zero, List.set_cons_succ])) | (apply Calm.still_op; (focus rfl); (focus (intro W hb; obtain ⟨hc, hf⟩ := bcell hb; clear hb hf; go_simp; (try go_bits); (try rfl); done)); (try simp only [Act.put, List.setIfInBounds_toArray, List.set_cons_zero, List.set_cons_succ]))) | (apply Calm.still_op_call; (focus rfl); (focus (intro W hb; obtain ⟨hc, hf⟩ := bcell hb; clear hb hf; go_simp; refine ⟨?_, ?_⟩; rfl; rfl)); (focus (intro W hb; first | (go_at_call 91; exact Calm.call_below hb (qLowest_any _ _ _ (by omega) (by omega) (by omega) (by omega))))); (try simp only [Act.put, List.setIfInBounds_toArray, List.set_cons_zero, List.set_cons_succ])))
  refine Calm.still_nil ?_
  intro w3 hb3
  obtain ⟨hb3c, hb3f⟩ := bcell hb3
  have hb3z := hb3.size
  (try simp at hb3z)
  (try have hb3z0 : w.heap.size < w3.heap.size := by omega)
  (try have hb3z1 : w.heap.size + 1 < w3.heap.size := by omega)
  (try have hb3z2 : w.heap.size + 1 + 1 < w3.heap.size := by omega)
  (try have hb3z3 : w.heap.size + 1 + 1 + 1 < w3.heap.size := by omega)
  (try have hb3z4 : w.heap.size + 1 + 1 + 1 + 1 < w3.heap.size := by omega)
  (try have hb3z5 : w.heap.size + 1 + 1 + 1 + 1 + 1 < w3.heap.size := by omega)
  go_wp2
  refine bodyPost_ret (v := .agg #[(.int .i64 (lowN (st * ma) (lo * lo))), (.int .i64 (lowD (st * ma) (lo * lo))), (.int .i64 (lowN (st * ma * re * re) (bl * bl * (bl * bl)))), (.int .i64 (lowD (st * ma * re * re) (bl * bl * (bl * bl)))),
      (.int .i64 (lowN (st * ma * re * re) ((lo * re + bl * bl) * (lo * re + bl * bl)))), (.int .i64 (lowD (st * ma * re * re) ((lo * re + bl * bl) * (lo * re + bl * bl))))]) (by simp [results, Tryd.results44, go_sem, *]) rfl ⟨rfl, ?_⟩
  repeat (first | (with_reducible exact Below.refl _ _) | ((with_reducible refine Below.setCell ?_ ?_ _); rotate_left 1; focus (first | (simp; done) | (simp; omega) | (simp at *; omega))) | ((with_reducible refine Below.alloc ?_ ?_ _); rotate_left 1; focus (first | (simp; done) | (simp; omega) | (simp at *; omega))) | (with_reducible refine Below.drew ?_) | ((with_reducible refine Calm.step (by assumption) ?_ ?_); rotate_left 1; focus (first | (simp; done) | (simp; omega) | (simp at *; omega))))
end Go.Proofs.YtpkldjlljoledaaDoor
