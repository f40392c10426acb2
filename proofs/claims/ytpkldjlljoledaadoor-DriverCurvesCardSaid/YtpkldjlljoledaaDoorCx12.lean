/- Part 12 of the texts of the claim: K1, C12, K2, Rel2. -/
import Derived.Test.YtpkldjlljoledaaDoorCx11
import Derived.Test.YtpkldjlljoledaaDoorCx5

/- Contract of the reference's CheckCurve. -/
namespace Go.Proofs.YtpkldjlljoledaaDoor
open Go.RowKit
open Calm (bcell Blk)

set_option maxHeartbeats 1000000 in
theorem refCheckCurve_shape (A1 A2 : Option Addr) (xs ys : List Int) (c1 c2 : Nat) (w : World) (h1 : xs.length ≤ 100000) (h2 : ys.length ≤ 100000) (h : xs.length % 2 = 0 ∨ xs.length < 3 ∨ 33 < xs.length ∨ ys.length ≠ xs.length) :
    Calls Tryd.prog 48 #[.agg #[.slice A1 xs.length c1, .slice A2 ys.length c2]] w fun r w' => r = .returned (.int .i64 (2)) ∧ Below w.heap.size w w' := by
  generalize xs.length = n at *
  generalize ys.length = m at *
  by_cases e1 : n % 2 = 0
  · clear h
    have f1 : ((n : Int) % 2 == 0) = true := by rw [beq_iff_eq]; omega
    go_enter Tryd.func48, Tryd.ntmps48
    go_wp2
    go_ret
    refine ⟨rfl, ?_⟩
    repeat (first | (with_reducible exact Below.refl _ _) | ((with_reducible refine Below.setCell ?_ ?_ _); rotate_left 1; focus (first | (simp; done) | (simp; omega) | (simp at *; omega))) | ((with_reducible refine Below.alloc ?_ ?_ _); rotate_left 1; focus (first | (simp; done) | (simp; omega) | (simp at *; omega))) | (with_reducible refine Below.drew ?_) | ((with_reducible refine Calm.step (by assumption) ?_ ?_); rotate_left 1; focus (first | (simp; done) | (simp; omega) | (simp at *; omega))))
  · have f1 : ((n : Int) % 2 == 0) = false := by rw [beq_eq_false_iff_ne]; omega
    by_cases e2 : n < 3
    · clear h e1
      go_enter Tryd.func48, Tryd.ntmps48
      go_wp2
      go_ret
      refine ⟨rfl, ?_⟩
      repeat (first | (with_reducible exact Below.refl _ _) | ((with_reducible refine Below.setCell ?_ ?_ _); rotate_left 1; focus (first | (simp; done) | (simp; omega) | (simp at *; omega))) | ((with_reducible refine Below.alloc ?_ ?_ _); rotate_left 1; focus (first | (simp; done) | (simp; omega) | (simp at *; omega))) | (with_reducible refine Below.drew ?_) | ((with_reducible refine Calm.step (by assumption) ?_ ?_); rotate_left 1; focus (first | (simp; done) | (simp; omega) | (simp at *; omega))))
    · by_cases e3 : 33 < n
      · clear h e1
        go_enter Tryd.func48, Tryd.ntmps48
        go_wp2
        go_ret
        refine ⟨rfl, ?_⟩
        repeat (first | (with_reducible exact Below.refl _ _) | ((with_reducible refine Below.setCell ?_ ?_ _); rotate_left 1; focus (first | (simp; done) | (simp; omega) | (simp at *; omega))) | ((with_reducible refine Below.alloc ?_ ?_ _); rotate_left 1; focus (first | (simp; done) | (simp; omega) | (simp at *; omega))) | (with_reducible refine Below.drew ?_) | ((with_reducible refine Calm.step (by assumption) ?_ ?_); rotate_left 1; focus (first | (simp; done) | (simp; omega) | (simp at *; omega))))
      · have e4 : ¬ m = n := by omega
        have f4 : ((m : Int) != n) = true := by rw [bne_iff_ne]; omega
        clear h e1
        go_enter Tryd.func48, Tryd.ntmps48
        go_wp2
        go_ret
        refine ⟨rfl, ?_⟩
        repeat (first | (with_reducible exact Below.refl _ _) | ((with_reducible refine Below.setCell ?_ ?_ _); rotate_left 1; focus (first | (simp; done) | (simp; omega) | (simp at *; omega))) | ((with_reducible refine Below.alloc ?_ ?_ _); rotate_left 1; focus (first | (simp; done) | (simp; omega) | (simp at *; omega))) | (with_reducible refine Below.drew ?_) | ((with_reducible refine Calm.step (by assumption) ?_ ?_); rotate_left 1; focus (first | (simp; done) | (simp; omega) | (simp at *; omega))))

set_option maxRecDepth 100000 in
set_option maxHeartbeats 8000000 in
theorem refCheckCurve_len (A1 A2 : Option Addr) (xs ys : List Int) (c1 c2 : Nat) (w : World) (hC1 : Cells w A1 xs) (hC2 : Cells w A2 ys) (h : ¬ (xs.length % 2 = 0 ∨ xs.length < 3 ∨ 33 < xs.length ∨ ys.length ≠ xs.length)) :
    Calls Tryd.prog 48 #[.agg #[.slice A1 xs.length c1, .slice A2 ys.length c2]] w fun r w' => r = .returned (.int .i64 (curveErr xs ys)) ∧ Below w.heap.size w w' := by
  have hlen : ys.length = xs.length := Classical.byContradiction fun hh => h (.inr (.inr (.inr hh)))
  have hE : curveErr xs ys = if (∀ x ∈ xs, 1 ≤ x ∧ x ≤ 999999999) ∧ (∀ y ∈ ys, 1 ≤ y ∧ y ≤ 999999999) then 0 else 3 := if_neg h
  have g1 : 3 ≤ xs.length ∧ xs.length ≤ 33 ∧ xs.length % 2 = 1 := by omega
  clear h
  obtain ⟨b1, o1, rfl, l1, k1⟩ := hC1 (by omega)
  obtain ⟨b2, o2, rfl, l2, k2⟩ := hC2 (by omega)
  obtain ⟨R, hR⟩ : ∃ R, R = curveErr xs ys := ⟨_, rfl⟩
  rw [← hR]
  have HE := Lib.hid (hR.trans hE)
  clear hR
  clear hE hC1 hC2
  rw [hlen] at k2 ⊢
  obtain ⟨n, hn⟩ : ∃ n, n = xs.length := ⟨_, rfl⟩
  rw [← hn] at g1 k1 k2 hlen ⊢
  have HN := Lib.hid hn
  clear hn
  have HL := Lib.hid hlen
  clear hlen
  have HK1 := Lib.hid k1
  have HK2 := Lib.hid k2
  clear k1 k2
  obtain ⟨g2, g3, g4⟩ := g1
  have f1 : ((n : Int) % 2 == 0) = false := by rw [beq_eq_false_iff_ne]; omega
  go_enter Tryd.func48, Tryd.ntmps48
  go_wp2
  have k0 : Blk (w.alloc (.cells #[.slice (some ⟨b1, o1, none⟩) n c1, .slice (some ⟨b2, o2, none⟩) n c2] 85)) w.heap.size #[.slice (some ⟨b1, o1, none⟩) n c1, .slice (some ⟨b2, o2, none⟩) n c2] := Blk.at_ rfl
  have hb0 : Below w.heap.size w (w.alloc (.cells #[.slice (some ⟨b1, o1, none⟩) n c1, .slice (some ⟨b2, o2, none⟩) n c2] 85)) := (Below.refl _ _).alloc (Nat.le_refl _) _
  go_loopw [4] (fun i wr => ∃ k : Nat, k ≤ n ∧ i = (.int .i64 (k)) ∧ (∀ j, j < k → (1 ≤ xs.getD j 0 ∧ xs.getD j 0 ≤ 999999999)) ∧ Below w.heap.size w wr ∧ Blk wr w.heap.size #[.slice (some ⟨b1, o1, none⟩) n c1, .slice (some ⟨b2, o2, none⟩) n c2]) (fun i _ => n - (intOf i).toNat)
  case atStart => exact ⟨0, Nat.zero_le _, rfl, fun j hj => by omega, hb0, k0⟩
  case round =>
    clear k0 hb0
    obtain ⟨k, hk, rfl, hz, hB, hK⟩ := hrel
    have HZ := Lib.hid hz
    clear hz
    have d0 := hK.cell 0 _ rfl
    have d1 := hK.cell 1 _ rfl
    have dl := hK.lt
    by_cases hlt : k < n
    · have x1 : wr.cell? ⟨b1, o1 + k, none⟩ = some (.int .i64 (xs.getD k 0)) := (hB.cell (p := ⟨b1, o1 + k, none⟩) l1).trans (HK1.out k hlt)
      have y1 : b1 < wr.heap.size := by omega
      obtain ⟨x, hx⟩ : ∃ x, x = xs.getD k 0 := ⟨_, rfl⟩
      rw [← hx] at x1
      have HX := Lib.hid hx
      clear hx
      by_cases hok : 1 ≤ x ∧ x ≤ 999999999
      · have e0 : rangeErr x 1 999999999 = 0 := rangeErr_in hok.1 hok.2
        have HO := Lib.hid hok
        clear hok
        go_wp2_with (first | (go_at_call 40; refine (checkRange_any _ _ _ _).mono ?_; rintro r w1 ⟨rfl, rfl⟩))
        go_roundw
        case rel => exact ⟨k + 1, by omega, by go_num, fun j hj => by
          rcases Nat.lt_or_ge j k with h | h
          · exact HZ.out j h
          · obtain rfl : j = k := by omega
            rw [← HX.out]
            exact HO.out, hB, hK⟩
        case measure => simp [intOf]; omega
      · have e0 : rangeErr x 1 999999999 = 3 := rangeErr3 hok
        have HO := Lib.hid hok
        clear hok
        go_wp2_with (first | (go_at_call 40; refine (checkRange_any _ _ _ _).mono ?_; rintro r w1 ⟨rfl, rfl⟩))
        go_ret
        refine ⟨ret_i ((HE.out.trans (if_neg (fun hh => HO.out ?_))).symm), hB⟩
        rw [HX.out]; exact hh.1 _ (getD_mem (by rw [← HN.out]; exact hlt))
    · obtain rfl : k = n := by omega
      clear hlt
      go_wp2
      go_loopw [6] (fun i wr => ∃ m : Nat, m ≤ k ∧ i = (.int .i64 (m)) ∧ (∀ j, j < m → (1 ≤ ys.getD j 0 ∧ ys.getD j 0 ≤ 999999999)) ∧ Below w.heap.size w wr ∧ Blk wr w.heap.size #[.slice (some ⟨b1, o1, none⟩) k c1, .slice (some ⟨b2, o2, none⟩) k c2]) (fun i _ => k - (intOf i).toNat)
      case atStart => exact ⟨0, Nat.zero_le _, rfl, fun j hj => by omega, hB, hK⟩
      case round =>
        clear d0 d1 dl hB hK hk
        obtain ⟨m, hm, rfl, hz, hB, hK⟩ := hrel
        have HZ2 := Lib.hid hz
        clear hz
        have d0 := hK.cell 0 _ rfl
        have d1 := hK.cell 1 _ rfl
        have dl := hK.lt
        by_cases hlt : m < k
        · have x2 : wr.cell? ⟨b2, o2 + m, none⟩ = some (.int .i64 (ys.getD m 0)) := (hB.cell (p := ⟨b2, o2 + m, none⟩) l2).trans (HK2.out m hlt)
          have y2 : b2 < wr.heap.size := by omega
          obtain ⟨y, hy⟩ : ∃ y, y = ys.getD m 0 := ⟨_, rfl⟩
          rw [← hy] at x2
          have HY := Lib.hid hy
          clear hy
          by_cases hok : 1 ≤ y ∧ y ≤ 999999999
          · have e0 : rangeErr y 1 999999999 = 0 := rangeErr_in hok.1 hok.2
            have HO := Lib.hid hok
            clear hok
            go_wp2_with (first | (go_at_call 40; refine (checkRange_any _ _ _ _).mono ?_; rintro r w1 ⟨rfl, rfl⟩))
            go_roundw
            case rel => exact ⟨m + 1, by omega, by go_num, fun j hj => by
              rcases Nat.lt_or_ge j m with h | h
              · exact HZ2.out j h
              · obtain rfl : j = m := by omega
                rw [← HY.out]
                exact HO.out, hB, hK⟩
            case measure => simp [intOf]; omega
          · have e0 : rangeErr y 1 999999999 = 3 := rangeErr3 hok
            have HO := Lib.hid hok
            clear hok
            go_wp2_with (first | (go_at_call 40; refine (checkRange_any _ _ _ _).mono ?_; rintro r w1 ⟨rfl, rfl⟩))
            go_ret
            refine ⟨ret_i ((HE.out.trans (if_neg (fun hh => HO.out ?_))).symm), hB⟩
            rw [HY.out]; exact hh.2 _ (getD_mem (by rw [HL.out]; exact hlt))
        · go_wp2
          go_ret
          refine ⟨ret_i (HE.out.trans (if_pos ⟨mem_getD fun j hj => ?_, mem_getD fun j hj => ?_⟩)).symm, hB⟩
          · exact HZ.out j (by rw [← HN.out] at hj; omega)
          · exact HZ2.out j (by rw [HL.out] at hj; omega)

theorem refCheckCurve_any (A1 A2 : Option Addr) (xs ys : List Int) (c1 c2 : Nat) (w : World) (hC1 : Cells w A1 xs) (hC2 : Cells w A2 ys) (h1 : xs.length ≤ 100000) (h2 : ys.length ≤ 100000) :
    Calls Tryd.prog 48 #[.agg #[.slice A1 xs.length c1, .slice A2 ys.length c2]] w fun r w' => r = .returned (.int .i64 (curveErr xs ys)) ∧ Below w.heap.size w w' := by
  by_cases h : xs.length % 2 = 0 ∨ xs.length < 3 ∨ 33 < xs.length ∨ ys.length ≠ xs.length
  · have e : curveErr xs ys = 2 := if_pos h
    rw [e]
    exact refCheckCurve_shape A1 A2 xs ys c1 c2 w h1 h2 h
  · exact refCheckCurve_len A1 A2 xs ys c1 c2 w hC1 hC2 h
end Go.Proofs.YtpkldjlljoledaaDoor

/- Contract of the reference's keeps. %still -/
namespace Go.Proofs.YtpkldjlljoledaaDoor
open Go.RowKit
open Calm (bcell Blk)

set_option maxHeartbeats 4000000 in
set_option maxRecDepth 100000 in
theorem keeps_any (xs ys : List Int) (i n : Nat) (fo st : Int) (A1 A2 : Option Addr) (c1 c2 : Nat) (w : World)
    (hN : n = xs.length / 2) (h16 : xs.length ≤ 100) (hC1 : Cells w A1 xs) (hC2 : Cells w A2 ys) (hl : ys.length = xs.length) (hi : i < xs.length) (hn : n < xs.length)
    (h1 : ∀ x ∈ xs, 1 ≤ x ∧ x ≤ 999999999) (h2 : ∀ y ∈ ys, 1 ≤ y ∧ y ≤ 999999999) (hf : 1 ≤ fo ∧ fo ≤ 100) (hs : 100 ≤ st ∧ st ≤ 1000) :
    Calls Tryd.prog 94 #[.agg #[.slice A1 xs.length c1, .slice A2 ys.length c2], (.int .i64 (i)), (.int .i64 (fo)), (.int .i64 (st))] w fun r w' => r = .returned (.bool (fineB xs ys n fo st i)) ∧ Below w.heap.size w w' := by
  obtain ⟨b1, o1, rfl, l1, m1⟩ := hC1 (by omega)
  obtain ⟨b2, o2, rfl, l2, m2⟩ := hC2 (by omega)
  rw [hl] at m2 ⊢
  have x1 := m1 i hi
  have x2 := m1 n hn
  have y1 := m2 i hi
  have y2 := m2 n hn
  have a1 := h1 _ (getD_mem hi)
  have a2 := h1 _ (getD_mem hn)
  have e1 := h2 _ (getD_mem (k := i) (by omega))
  have e2 := h2 _ (getD_mem (k := n) (by omega))
  unfold fineB
  have hq : Int.tdiv (xs.length : Int) 2 = n := by rw [Int.tdiv_eq_ediv_of_nonneg (by omega)]; omega
  have hq2 : (xs.length : Int) / 2 = n := by omega
  clear hN
  clear m1 m2 hC1 hC2 h1 h2 hl
  generalize xs.length = N at *
  generalize xs.getD i 0 = x at *
  generalize xs.getD n 0 = x' at *
  generalize ys.getD i 0 = y at *
  generalize ys.getD n 0 = y' at *
  have p1 : Bd 100 fo := ⟨by omega, by omega⟩
  have p2 : Bd 999999999 x' := ⟨by omega, by omega⟩
  have p3 : Bd 1000 st := ⟨by omega, by omega⟩
  have p4 : Bd 999999999 y' := ⟨by omega, by omega⟩
  obtain ⟨u1, u2⟩ := p1.mul p2 (by omega)
  obtain ⟨u3, u4⟩ := p3.mul p4 (by omega)
  clear p1 p2 p3 p4
  by_cases v1 : fo * x' ≤ 100 * x
  · rw [decide_eq_true v1]
    by_cases v2 : 100 * y ≤ st * y'
    · rw [decide_eq_true v2]
      go_enter Tryd.func94, Tryd.ntmps94
      go_wp2
      refine Calm.still_tail 29 (by kernel_rfl) (by kernel_rfl) ?_
      simp only [List.take_succ_cons, List.take_zero, List.drop_succ_cons, List.drop_zero]
      repeat (first | (apply Calm.still_op_move; (focus rfl); (focus (first | exact .inl rfl | exact .inr rfl)); (focus ((try simp only [Act.eval, Array.getD_eq_getD_getElem?, List.getElem?_toArray, List.getElem?_cons_succ, List.getElem?_cons_zero, Option.getD_some]); rfl)); (try simp only [Act.put, List.setIfInBounds_toArray, List.set_cons_zero, List.set_cons_succ])) | (apply Calm.still_op_not; (focus rfl); (try simp only [Act.put, List.setIfInBounds_toArray, List.set_cons_zero, List.set_cons_succ])) | (apply Calm.still_op; (focus rfl); (focus (intro W hb; obtain ⟨hc, hf⟩ := bcell hb; clear hb hf; go_simp; (try go_bits); (try rfl); done)); (try simp only [Act.put, List.setIfInBounds_toArray, List.set_cons_zero, List.set_cons_succ])))
      refine Calm.still_nil ?_
      intro w1 hb
      obtain ⟨hbc, hbf⟩ := bcell hb
      have hbz := hb.size
      (try simp at hbz)
      (try have hbz0 : w.heap.size < w1.heap.size := by omega)
      (try have hbz1 : w.heap.size + 1 < w1.heap.size := by omega)
      (try have hbz2 : w.heap.size + 1 + 1 < w1.heap.size := by omega)
      (try have hbz3 : w.heap.size + 1 + 1 + 1 < w1.heap.size := by omega)
      (try have hbz4 : w.heap.size + 1 + 1 + 1 + 1 < w1.heap.size := by omega)
      (try have hbz5 : w.heap.size + 1 + 1 + 1 + 1 + 1 < w1.heap.size := by omega)
      go_wp2
      go_ret
      refine ⟨by first | rfl | (simp; done) | (simp; omega), ?_⟩
      repeat (first | (with_reducible exact Below.refl _ _) | ((with_reducible refine Below.setCell ?_ ?_ _); rotate_left 1; focus (first | (simp; done) | (simp; omega) | (simp at *; omega))) | ((with_reducible refine Below.alloc ?_ ?_ _); rotate_left 1; focus (first | (simp; done) | (simp; omega) | (simp at *; omega))) | (with_reducible refine Below.drew ?_) | ((with_reducible refine Calm.step (by assumption) ?_ ?_); rotate_left 1; focus (first | (simp; done) | (simp; omega) | (simp at *; omega))))
    · rw [decide_eq_false v2]
      go_enter Tryd.func94, Tryd.ntmps94
      go_wp2
      refine Calm.still_tail 29 (by kernel_rfl) (by kernel_rfl) ?_
      simp only [List.take_succ_cons, List.take_zero, List.drop_succ_cons, List.drop_zero]
      repeat (first | (apply Calm.still_op_move; (focus rfl); (focus (first | exact .inl rfl | exact .inr rfl)); (focus ((try simp only [Act.eval, Array.getD_eq_getD_getElem?, List.getElem?_toArray, List.getElem?_cons_succ, List.getElem?_cons_zero, Option.getD_some]); rfl)); (try simp only [Act.put, List.setIfInBounds_toArray, List.set_cons_zero, List.set_cons_succ])) | (apply Calm.still_op_not; (focus rfl); (try simp only [Act.put, List.setIfInBounds_toArray, List.set_cons_zero, List.set_cons_succ])) | (apply Calm.still_op; (focus rfl); (focus (intro W hb; obtain ⟨hc, hf⟩ := bcell hb; clear hb hf; go_simp; (try go_bits); (try rfl); done)); (try simp only [Act.put, List.setIfInBounds_toArray, List.set_cons_zero, List.set_cons_succ])))
      refine Calm.still_nil ?_
      intro w1 hb
      obtain ⟨hbc, hbf⟩ := bcell hb
      have hbz := hb.size
      (try simp at hbz)
      (try have hbz0 : w.heap.size < w1.heap.size := by omega)
      (try have hbz1 : w.heap.size + 1 < w1.heap.size := by omega)
      (try have hbz2 : w.heap.size + 1 + 1 < w1.heap.size := by omega)
      (try have hbz3 : w.heap.size + 1 + 1 + 1 < w1.heap.size := by omega)
      (try have hbz4 : w.heap.size + 1 + 1 + 1 + 1 < w1.heap.size := by omega)
      (try have hbz5 : w.heap.size + 1 + 1 + 1 + 1 + 1 < w1.heap.size := by omega)
      go_wp2
      go_ret
      refine ⟨by first | rfl | (simp; done) | (simp; omega), ?_⟩
      repeat (first | (with_reducible exact Below.refl _ _) | ((with_reducible refine Below.setCell ?_ ?_ _); rotate_left 1; focus (first | (simp; done) | (simp; omega) | (simp at *; omega))) | ((with_reducible refine Below.alloc ?_ ?_ _); rotate_left 1; focus (first | (simp; done) | (simp; omega) | (simp at *; omega))) | (with_reducible refine Below.drew ?_) | ((with_reducible refine Calm.step (by assumption) ?_ ?_); rotate_left 1; focus (first | (simp; done) | (simp; omega) | (simp at *; omega))))
  · rw [decide_eq_false v1]
    go_enter Tryd.func94, Tryd.ntmps94
    go_wp2
    refine Calm.still_tail 29 (by kernel_rfl) (by kernel_rfl) ?_
    simp only [List.take_succ_cons, List.take_zero, List.drop_succ_cons, List.drop_zero]
    (first | (apply Calm.still_op_move; (focus rfl); (focus (first | exact .inl rfl | exact .inr rfl)); (focus ((try simp only [Act.eval, Array.getD_eq_getD_getElem?, List.getElem?_toArray, List.getElem?_cons_succ, List.getElem?_cons_zero, Option.getD_some]); rfl)); (try simp only [Act.put, List.setIfInBounds_toArray, List.set_cons_zero, List.set_cons_succ])) | (apply Calm.still_op_not; (focus rfl); (try simp only [Act.put, List.setIfInBounds_toArray, List.set_cons_zero, List.set_cons_succ])) | (apply Calm.still_op; (focus rfl); (focus (intro W hb; obtain ⟨hc, hf⟩ := bcell hb; clear hb hf; go_simp; (try go_bits); (try rfl); done)); (try simp only [Act.put, List.setIfInBounds_toArray, List.set_cons_zero, List.set_cons_succ])))
    (first | (apply Calm.still_op_move; (focus rfl); (focus (first | exact .inl rfl | exact .inr rfl)); (focus ((try simp only [Act.eval, Array.getD_eq_getD_getElem?, List.getElem?_toArray, List.getElem?_cons_succ, List.getElem?_cons_zero, Option.getD_some]); rfl)); (try simp only [Act.put, List.setIfInBounds_toArray, List.set_cons_zero, List.set_cons_succ])) | (apply Calm.still_op_not; (focus rfl); (try simp only [Act.put, List.setIfInBounds_toArray, List.set_cons_zero, List.set_cons_succ])) | (apply Calm.still_op; (focus rfl); (focus (intro W hb; obtain ⟨hc, hf⟩ := bcell hb; clear hb hf; go_simp; (try go_bits); (try rfl); done)); (try simp only [Act.put, List.setIfInBounds_toArray, List.set_cons_zero, List.set_cons_succ])))
    (first | (apply Calm.still_op_move; (focus rfl); (focus (first | exact .inl rfl | exact .inr rfl)); (focus ((try simp only [Act.eval, Array.getD_eq_getD_getElem?, List.getElem?_toArray, List.getElem?_cons_succ, List.getElem?_cons_zero, Option.getD_some]); rfl)); (try simp only [Act.put, List.setIfInBounds_toArray, List.set_cons_zero, List.set_cons_succ])) | (apply Calm.still_op_not; (focus rfl); (try simp only [Act.put, List.setIfInBounds_toArray, List.set_cons_zero, List.set_cons_succ])) | (apply Calm.still_op; (focus rfl); (focus (intro W hb; obtain ⟨hc, hf⟩ := bcell hb; clear hb hf; go_simp; (try go_bits); (try rfl); done)); (try simp only [Act.put, List.setIfInBounds_toArray, List.set_cons_zero, List.set_cons_succ])))
    (first | (apply Calm.still_op_move; (focus rfl); (focus (first | exact .inl rfl | exact .inr rfl)); (focus ((try simp only [Act.eval, Array.getD_eq_getD_getElem?, List.getElem?_toArray, List.getElem?_cons_succ, List.getElem?_cons_zero, Option.getD_some]); rfl)); (try simp only [Act.put, List.setIfInBounds_toArray, List.set_cons_zero, List.set_cons_succ])) | (apply Calm.still_op_not; (focus rfl); (try simp only [Act.put, List.setIfInBounds_toArray, List.set_cons_zero, List.set_cons_succ])) | (apply Calm.still_op; (focus rfl); (focus (intro W hb; obtain ⟨hc, hf⟩ := bcell hb; clear hb hf; go_simp; (try go_bits); (try rfl); done)); (try simp only [Act.put, List.setIfInBounds_toArray, List.set_cons_zero, List.set_cons_succ])))
    (first | (apply Calm.still_op_move; (focus rfl); (focus (first | exact .inl rfl | exact .inr rfl)); (focus ((try simp only [Act.eval, Array.getD_eq_getD_getElem?, List.getElem?_toArray, List.getElem?_cons_succ, List.getElem?_cons_zero, Option.getD_some]); rfl)); (try simp only [Act.put, List.setIfInBounds_toArray, List.set_cons_zero, List.set_cons_succ])) | (apply Calm.still_op_not; (focus rfl); (try simp only [Act.put, List.setIfInBounds_toArray, List.set_cons_zero, List.set_cons_succ])) | (apply Calm.still_op; (focus rfl); (focus (intro W hb; obtain ⟨hc, hf⟩ := bcell hb; clear hb hf; go_simp; (try go_bits); (try rfl); done)); (try simp only [Act.put, List.setIfInBounds_toArray, List.set_cons_zero, List.set_cons_succ])))
    (first | (apply Calm.still_op_move; (focus rfl); (focus (first | exact .inl rfl | exact .inr rfl)); (focus ((try simp only [Act.eval, Array.getD_eq_getD_getElem?, List.getElem?_toArray, List.getElem?_cons_succ, List.getElem?_cons_zero, Option.getD_some]); rfl)); (try simp only [Act.put, List.setIfInBounds_toArray, List.set_cons_zero, List.set_cons_succ])) | (apply Calm.still_op_not; (focus rfl); (try simp only [Act.put, List.setIfInBounds_toArray, List.set_cons_zero, List.set_cons_succ])) | (apply Calm.still_op; (focus rfl); (focus (intro W hb; obtain ⟨hc, hf⟩ := bcell hb; clear hb hf; go_simp; (try go_bits); (try rfl); done)); (try simp only [Act.put, List.setIfInBounds_toArray, List.set_cons_zero, List.set_cons_succ])))
    (first | (apply Calm.still_op_move; (focus rfl); (focus (first | exact .inl rfl | exact .inr rfl)); (focus ((try simp only [Act.eval, Array.getD_eq_getD_getElem?, List.getElem?_toArray, List.getElem?_cons_succ, List.getElem?_cons_zero, Option.getD_some]); rfl)); (try simp only [Act.put, List.setIfInBounds_toArray, List.set_cons_zero, List.set_cons_succ])) | (apply Calm.still_op_not; (focus rfl); (try simp only [Act.put, List.setIfInBounds_toArray, List.set_cons_zero, List.set_cons_succ])) | (apply Calm.still_op; (focus rfl); (focus (intro W hb; obtain ⟨hc, hf⟩ := bcell hb; clear hb hf; go_simp; (try go_bits); (try rfl); done)); (try simp only [Act.put, List.setIfInBounds_toArray, List.set_cons_zero, List.set_cons_succ])))
    (first | (apply Calm.still_op_move; (focus rfl); (focus (first | exact .inl rfl | exact .inr rfl)); (focus ((try simp only [Act.eval, Array.getD_eq_getD_getElem?, List.getElem?_toArray, List.getElem?_cons_succ, List.getElem?_cons_zero, Option.getD_some]); rfl)); (try simp only [Act.put, List.setIfInBounds_toArray, List.set_cons_zero, List.set_cons_succ])) | (apply Calm.still_op_not; (focus rfl); (try simp only [Act.put, List.setIfInBounds_toArray, List.set_cons_zero, List.set_cons_succ])) | (apply Calm.still_op; (focus rfl); (focus (intro W hb; obtain ⟨hc, hf⟩ := bcell hb; clear hb hf; go_simp; (try go_bits); (try rfl); done)); (try simp only [Act.put, List.setIfInBounds_toArray, List.set_cons_zero, List.set_cons_succ])))
    (first | (apply Calm.still_op_move; (focus rfl); (focus (first | exact .inl rfl | exact .inr rfl)); (focus ((try simp only [Act.eval, Array.getD_eq_getD_getElem?, List.getElem?_toArray, List.getElem?_cons_succ, List.getElem?_cons_zero, Option.getD_some]); rfl)); (try simp only [Act.put, List.setIfInBounds_toArray, List.set_cons_zero, List.set_cons_succ])) | (apply Calm.still_op_not; (focus rfl); (try simp only [Act.put, List.setIfInBounds_toArray, List.set_cons_zero, List.set_cons_succ])) | (apply Calm.still_op; (focus rfl); (focus (intro W hb; obtain ⟨hc, hf⟩ := bcell hb; clear hb hf; go_simp; (try go_bits); (try rfl); done)); (try simp only [Act.put, List.setIfInBounds_toArray, List.set_cons_zero, List.set_cons_succ])))
    (first | (apply Calm.still_op_move; (focus rfl); (focus (first | exact .inl rfl | exact .inr rfl)); (focus ((try simp only [Act.eval, Array.getD_eq_getD_getElem?, List.getElem?_toArray, List.getElem?_cons_succ, List.getElem?_cons_zero, Option.getD_some]); rfl)); (try simp only [Act.put, List.setIfInBounds_toArray, List.set_cons_zero, List.set_cons_succ])) | (apply Calm.still_op_not; (focus rfl); (try simp only [Act.put, List.setIfInBounds_toArray, List.set_cons_zero, List.set_cons_succ])) | (apply Calm.still_op; (focus rfl); (focus (intro W hb; obtain ⟨hc, hf⟩ := bcell hb; clear hb hf; go_simp; (try go_bits); (try rfl); done)); (try simp only [Act.put, List.setIfInBounds_toArray, List.set_cons_zero, List.set_cons_succ])))
    (first | (apply Calm.still_op_move; (focus rfl); (focus (first | exact .inl rfl | exact .inr rfl)); (focus ((try simp only [Act.eval, Array.getD_eq_getD_getElem?, List.getElem?_toArray, List.getElem?_cons_succ, List.getElem?_cons_zero, Option.getD_some]); rfl)); (try simp only [Act.put, List.setIfInBounds_toArray, List.set_cons_zero, List.set_cons_succ])) | (apply Calm.still_op_not; (focus rfl); (try simp only [Act.put, List.setIfInBounds_toArray, List.set_cons_zero, List.set_cons_succ])) | (apply Calm.still_op; (focus rfl); (focus (intro W hb; obtain ⟨hc, hf⟩ := bcell hb; clear hb hf; go_simp; (try go_bits); (try rfl); done)); (try simp only [Act.put, List.setIfInBounds_toArray, List.set_cons_zero, List.set_cons_succ])))
    (first | (apply Calm.still_op_move; (focus rfl); (focus (first | exact .inl rfl | exact .inr rfl)); (focus ((try simp only [Act.eval, Array.getD_eq_getD_getElem?, List.getElem?_toArray, List.getElem?_cons_succ, List.getElem?_cons_zero, Option.getD_some]); rfl)); (try simp only [Act.put, List.setIfInBounds_toArray, List.set_cons_zero, List.set_cons_succ])) | (apply Calm.still_op_not; (focus rfl); (try simp only [Act.put, List.setIfInBounds_toArray, List.set_cons_zero, List.set_cons_succ])) | (apply Calm.still_op; (focus rfl); (focus (intro W hb; obtain ⟨hc, hf⟩ := bcell hb; clear hb hf; go_simp; (try go_bits); (try rfl); done)); (try simp only [Act.put, List.setIfInBounds_toArray, List.set_cons_zero, List.set_cons_succ])))
    (first | (apply Calm.still_op_move; (focus rfl); (focus (first | exact .inl rfl | exact .inr rfl)); (focus ((try simp only [Act.eval, Array.getD_eq_getD_getElem?, List.getElem?_toArray, List.getElem?_cons_succ, List.getElem?_cons_zero, Option.getD_some]); rfl)); (try simp only [Act.put, List.setIfInBounds_toArray, List.set_cons_zero, List.set_cons_succ])) | (apply Calm.still_op_not; (focus rfl); (try simp only [Act.put, List.setIfInBounds_toArray, List.set_cons_zero, List.set_cons_succ])) | (apply Calm.still_op; (focus rfl); (focus (intro W hb; obtain ⟨hc, hf⟩ := bcell hb; clear hb hf; go_simp; (try go_bits); (try rfl); done)); (try simp only [Act.put, List.setIfInBounds_toArray, List.set_cons_zero, List.set_cons_succ])))
    apply Calm.still_op (.bool false)
    focus rfl
    focus (intro W hb; obtain ⟨hc, hf⟩ := bcell hb; clear hb hf; go_simp; (try (first | (simp; done) | (simp; omega) | omega)))
    (try simp only [Act.put, List.setIfInBounds_toArray, List.set_cons_zero, List.set_cons_succ])
    repeat (first | (apply Calm.still_op_move; (focus rfl); (focus (first | exact .inl rfl | exact .inr rfl)); (focus ((try simp only [Act.eval, Array.getD_eq_getD_getElem?, List.getElem?_toArray, List.getElem?_cons_succ, List.getElem?_cons_zero, Option.getD_some]); rfl)); (try simp only [Act.put, List.setIfInBounds_toArray, List.set_cons_zero, List.set_cons_succ])) | (apply Calm.still_op_not; (focus rfl); (try simp only [Act.put, List.setIfInBounds_toArray, List.set_cons_zero, List.set_cons_succ])) | (apply Calm.still_op; (focus rfl); (focus (intro W hb; obtain ⟨hc, hf⟩ := bcell hb; clear hb hf; go_simp; (try go_bits); (try rfl); done)); (try simp only [Act.put, List.setIfInBounds_toArray, List.set_cons_zero, List.set_cons_succ])))
    refine Calm.still_nil ?_
    intro w1 hb
    obtain ⟨hbc, hbf⟩ := bcell hb
    have hbz := hb.size
    (try simp at hbz)
    (try have hbz0 : w.heap.size < w1.heap.size := by omega)
    (try have hbz1 : w.heap.size + 1 < w1.heap.size := by omega)
    (try have hbz2 : w.heap.size + 1 + 1 < w1.heap.size := by omega)
    (try have hbz3 : w.heap.size + 1 + 1 + 1 < w1.heap.size := by omega)
    (try have hbz4 : w.heap.size + 1 + 1 + 1 + 1 < w1.heap.size := by omega)
    (try have hbz5 : w.heap.size + 1 + 1 + 1 + 1 + 1 < w1.heap.size := by omega)
    go_wp2
    go_ret
    refine ⟨by first | rfl | (simp; done) | (simp; omega), ?_⟩
    repeat (first | (with_reducible exact Below.refl _ _) | ((with_reducible refine Below.setCell ?_ ?_ _); rotate_left 1; focus (first | (simp; done) | (simp; omega) | (simp at *; omega))) | ((with_reducible refine Below.alloc ?_ ?_ _); rotate_left 1; focus (first | (simp; done) | (simp; omega) | (simp at *; omega))) | (with_reducible refine Below.drew ?_) | ((with_reducible refine Calm.step (by assumption) ?_ ?_); rotate_left 1; focus (first | (simp; done) | (simp; omega) | (simp at *; omega))))
end Go.Proofs.YtpkldjlljoledaaDoor

/- Contract of the reference's Linear. %still -/
namespace Go.Proofs.YtpkldjlljoledaaDoor
open Go.RowKit
open Calm (bcell Blk)

set_option maxRecDepth 100000 in
set_option maxHeartbeats 4000000 in
theorem refLinear_ok (xs ys : List Int) (fo st : Int) (A1 A2 : Option Addr) (c1 c2 : Nat) (w : World) (hC1 : Cells w A1 xs) (hC2 : Cells w A2 ys) (h : linErr xs ys fo st = 0) :
    Calls Tryd.prog 49 #[.agg #[.slice A1 xs.length c1, .slice A2 ys.length c2], (.int .i64 (fo)), (.int .i64 (st))] w fun r w' => r = .returned (.int .i64 (linD xs ys fo st)) ∧ Below w.heap.size w w' := by
  have HC1 := Lib.hid hC1
  have HC2 := Lib.hid hC2
  clear hC1 hC2
  unfold linErr at h
  have hh := firstOf_eq_zero.1 h
  simp only [List.mem_cons, List.not_mem_nil, or_false, forall_eq_or_imp, forall_eq, rangeErr_zero] at hh
  obtain ⟨g1, g2, g3⟩ := hh
  have HZ := Lib.hid (curve_zero g1)
  have HF := Lib.hid g2
  have HS := Lib.hid g3
  have hlen := (curve_zero g1).1
  clear g1 g2 g3 h
  obtain ⟨R, hR⟩ : ∃ R, R = linD xs ys fo st := ⟨_, rfl⟩
  have HR := Lib.hid hR
  rw [← hR]
  clear hR
  obtain ⟨l1, l2, l3, l4⟩ := hlen
  rw [l4]
  obtain ⟨N, hN⟩ : ∃ N, N = xs.length := ⟨_, rfl⟩
  have HN := Lib.hid hN
  have HN2 := Lib.hid (l4.trans hN.symm)
  rw [← hN] at l1 l2 l3 ⊢
  clear l4 hN
  obtain ⟨m, hm⟩ : ∃ m, m = N / 2 := ⟨_, rfl⟩
  have hq : Int.tdiv (N : Int) 2 = m := by rw [Int.tdiv_eq_ediv_of_nonneg (by omega)]; omega
  have hq2 : (N : Int) / 2 = m := by omega
  have HM := Lib.hid hm
  have hRm : R = climb (fun d => fineB xs ys m fo st (m - d - 1) && fineB xs ys m fo st (m + d + 1)) m := by
    rw [HR.out]
    unfold linD
    rw [← HN.out, ← HM.out]
  have HRM := Lib.hid hRm
  clear hRm
  have hm16 : m ≤ 16 := by omega
  have hNm : N = m + m + 1 := by omega
  clear hm
  have hFine : ∀ (W : World) (i : Nat) (z : Int), z = i → i < N → Cells W A1 xs → Cells W A2 ys →
      Calls Tryd.prog 94 #[.agg #[.slice A1 N c1, .slice A2 N c2], (.int .i64 (z)), (.int .i64 (fo)), (.int .i64 (st))] W fun r w' => r = .returned (.bool (fineB xs ys m fo st i)) ∧ Below W.heap.size W w' := by
    intro W i z hz hi k5 k6
    subst hz
    have e1 := HN.out
    have e2 := HN2.out
    have := keeps_any xs ys i m fo st A1 A2 c1 c2 W (by rw [← e1]; exact HM.out) (by omega) k5 k6 (by omega) (by omega) (by omega) HZ.out.2.1 HZ.out.2.2 HF.out HS.out
    rwa [e2, ← e1] at this
  have HFI := Lib.hid hFine
  have HNM := Lib.hid hNm
  clear hFine hNm
  go_enter Tryd.func49, Tryd.ntmps49
  go_wp2
  have k0 : Blk (w.alloc (.cells #[.slice A1 N c1, .slice A2 N c2] 85)) w.heap.size #[.slice A1 N c1, .slice A2 N c2] := Blk.at_ rfl
  have hb0 : Below w.heap.size w (w.alloc (.cells #[.slice A1 N c1, .slice A2 N c2] 85)) := (Below.refl _ _).alloc (Nat.le_refl _) _
  go_loopw [8] (fun d wr => ∃ k : Nat, k ≤ m ∧ d = (.int .i64 (k)) ∧ (∀ j, j < k → (fineB xs ys m fo st (m - j - 1) && fineB xs ys m fo st (m + j + 1)) = true) ∧ Below w.heap.size w wr ∧ Blk wr w.heap.size #[.slice A1 N c1, .slice A2 N c2]) (fun d _ => m - (intOf d).toNat)
  case atStart => exact ⟨0, Nat.zero_le _, rfl, fun j hj => by omega, hb0, k0⟩
  case round =>
    clear k0 hb0
    obtain ⟨k, hk, rfl, hz, hB, K1⟩ := hrel
    have HJ := Lib.hid hz
    clear hz
    have hsz := hB.size
    have d0 := K1.cell 0 _ rfl
    have d1 := K1.cell 1 _ rfl
    have dl := K1.lt
    by_cases hlt : k < m
    · cases f1 : fineB xs ys m fo st (m - k - 1)
      · have HF1 := Lib.hid f1
        clear f1
        go_wp2_with (go_at_call 94; refine (HFI.out _ (m - k - 1) _ (by omega) (by have := HNM.out; omega) (HC1.out.below hB) (HC2.out.below hB)).mono ?_; rw [HF1.out]; rintro r w2 ⟨rfl, hb2⟩; obtain ⟨hc2, hf2⟩ := bcell hb2)
        go_ret
        have hR : R = k := HRM.out.trans (climb_eq HJ.out hk (.inr (by simp [HF1.out])))
        refine ⟨by rw [hR]; first | rfl | (simp; done), ?_⟩
        exact hB.trans (Below.mono (by (repeat (first | (with_reducible exact Below.refl _ _) | ((with_reducible refine Below.setCell ?_ ?_ _); rotate_left 1; focus (first | (simp; done) | (simp; omega) | (simp at *; omega))) | ((with_reducible refine Below.alloc ?_ ?_ _); rotate_left 1; focus (first | (simp; done) | (simp; omega) | (simp at *; omega))) | (with_reducible refine Below.drew ?_) | ((with_reducible refine Calm.step (by assumption) ?_ ?_); rotate_left 1; focus (first | (simp; done) | (simp; omega) | (simp at *; omega)))))) hsz)
      · have HF1 := Lib.hid f1
        clear f1
        cases f2 : fineB xs ys m fo st (m + k + 1)
        · have HF2 := Lib.hid f2
          clear f2
          go_wp2_with (first
            | (go_at_call 94; refine (HFI.out _ (m - k - 1) _ (by omega) (by have := HNM.out; omega) (HC1.out.below hB) (HC2.out.below hB)).mono ?_; rw [HF1.out]; rintro r w2 ⟨rfl, hb2⟩; obtain ⟨hc2, hf2⟩ := bcell hb2)
            | (go_at_call 94; refine (HFI.out _ (m + k + 1) _ (by omega) (by have := HNM.out; omega) ((HC1.out.below hB).below hb2) ((HC2.out.below hB).below hb2)).mono ?_; rw [HF2.out]; rintro r w3 ⟨rfl, hb3⟩; obtain ⟨hc3, hf3⟩ := bcell hb3))
          go_ret
          have hR : R = k := HRM.out.trans (climb_eq HJ.out hk (.inr (by simp [HF2.out])))
          refine ⟨by rw [hR]; first | rfl | (simp; done), ?_⟩
          exact hB.trans (Below.mono (hb2.trans (Below.mono hb3 hb2.size)) hsz)
        · have HF2 := Lib.hid f2
          clear f2
          go_wp2_with (first
            | (go_at_call 94; refine (HFI.out _ (m - k - 1) _ (by omega) (by have := HNM.out; omega) (HC1.out.below hB) (HC2.out.below hB)).mono ?_; rw [HF1.out]; rintro r w2 ⟨rfl, hb2⟩; obtain ⟨hc2, hf2⟩ := bcell hb2)
            | (go_at_call 94; refine (HFI.out _ (m + k + 1) _ (by omega) (by have := HNM.out; omega) ((HC1.out.below hB).below hb2) ((HC2.out.below hB).below hb2)).mono ?_; rw [HF2.out]; rintro r w3 ⟨rfl, hb3⟩; obtain ⟨hc3, hf3⟩ := bcell hb3))
          go_roundw
          case rel => exact ⟨k + 1, by omega, by go_num, fun j hj => by
            rcases Nat.lt_or_ge j k with h | h
            · exact HJ.out j h
            · obtain rfl : j = k := by omega
              rw [HF1.out, HF2.out]; rfl, hB.trans (Below.mono (hb2.trans (Below.mono hb3 hb2.size)) hsz), (K1.below hb2).below hb3⟩
          case measure => simp [intOf]; omega
    · obtain rfl : k = m := by omega
      go_wp2
      go_ret
      have hR : R = k := HRM.out.trans (climb_eq HJ.out hk (.inl rfl))
      exact ⟨by rw [hR]; first | rfl | (simp; done), hB⟩
end Go.Proofs.YtpkldjlljoledaaDoor

/- More for regions whose head makes memory: a slice of its own. -/
namespace Go.Proofs.YtpkldjlljoledaaDoor.Rel
open Go.RowKit
variable {P : Program} {DS : List Tmp} {w0 : World} {a0 : Act} {T : Ctx → Prop} {Γ : Ctx} {o : Oper} {rest : List Oper}
/-- A new slice that holds just these cells. -/
def NewS (B n c : Nat) (cs : Array Value) : Know := fun u W => ∃ g, u = .slice (some ⟨g, 0, none⟩) n c ∧ B ≤ g ∧ Calm.Blk W g cs
theorem stable_newS (B n c : Nat) (cs : Array Value) : Stable (NewS B n c cs) := fun _ _ _ ⟨g, h1, h2, h3⟩ hb => ⟨g, h1, h2, h3.below hb⟩
theorem build (t : TypeId) (n c : Nat) (cs : Array Value) (hg : o.guard = none)
    (h : ∀ (a : Act) (W : World), Below w0.heap.size w0 W → deps Γ a W (o.after.toList.map (·.on)) → (∀ t, t ∉ DS → a.eval (.tmp t) = a0.eval (.tmp t)) → (execOp a.eval o).run P W = .ok (.value (.slice (some ⟨W.heap.size, 0, none⟩) n c)) (W.alloc (.cells cs t)))
    (hn : walk2 P DS w0 a0 T (Γ ++ [(o.dst, NewS w0.heap.size n c cs)]) rest) : walk2 P DS w0 a0 T Γ (o :: rest) :=
  ⟨_, stable_newS _ n c cs, hg, fun a W hb hd hbase K Q hK => by
    unfold Oper.wp
    rw [h a W hb hd hbase]
    exact hK _ _ ⟨_, rfl, hb.size, Calm.Blk.new W t cs⟩ ((Below.refl _ _).alloc (Nat.le_refl _) _), hn⟩
end Go.Proofs.YtpkldjlljoledaaDoor.Rel
namespace Go.Proofs.YtpkldjlljoledaaDoor.Calm
open Go.RowKit
theorem Blk.of {w w' : World} {B g : Nat} {cs : Array Value} (h : Blk w g cs) (hg : g < B) (hb : Below B w w') : Blk w' g cs :=
  ⟨Nat.lt_of_lt_of_le h.lt hb.size, fun i => (hb.cell (p := ⟨g, i, none⟩) hg).trans (h.c i), fun i => (hb.frozen (p := ⟨g, i, none⟩) hg).trans (h.f i)⟩
end Go.Proofs.YtpkldjlljoledaaDoor.Calm
