/- Part 14 of the texts of the claim: J1, J2, J3, J4. -/
import Derived.Test.YtleemphfkhbhaaaDoorMl13
import Derived.BigRegion

/- Contracts of the references: First, CheckRange, SameInts, CheckInput, CheckValue, CheckSignal. -/
namespace Go.Proofs.YtleemphfkhbhaaaDoor
open Go.RowKit
open Calm (bcell Blk)

theorem qRange_any (n lo hi : Int) (w : World) : Calls Tryd.prog 20 #[(.int .i64 (n)), (.int .i64 (lo)), (.int .i64 (hi))] w fun r w' => r = .returned (.int .i64 (rangeErr n lo hi)) ∧ w = w' := by
  rcases Int.lt_or_le n lo with h | h
  · go_enter Tryd.func20, Tryd.ntmps20
    go_wp2
    go_ret
    exact ⟨ret_i (rangeErr_lo h).symm, rfl⟩
  · rcases Int.lt_or_le hi n with h' | h'
    · go_enter Tryd.func20, Tryd.ntmps20
      go_wp2
      go_ret
      exact ⟨ret_i (rangeErr_hi h').symm, rfl⟩
    · go_enter Tryd.func20, Tryd.ntmps20
      go_wp2
      go_ret
      exact ⟨ret_i (rangeErr_in (by omega) (by omega)).symm, rfl⟩
theorem tInput_any (n : Int) (w : World) : Calls Tryd.prog 11 #[(.int .i64 (n))] w fun r w' => r = .returned (.int .i64 (rangeErr n (-32767) 32767)) ∧ w = w' := by
  go_enter Tryd.func11, Tryd.ntmps11
  go_wp2_with (go_at_call 20; refine (qRange_any _ _ _ _).mono ?_; rintro r w' ⟨rfl, rfl⟩)
  go_ret
  exact ⟨rfl, rfl⟩
theorem pValue_any (n : Int) (w : World) : Calls Tryd.prog 29 #[(.int .i64 (n))] w fun r w' => r = .returned (.int .i64 (rangeErr n (-2048) 2048)) ∧ w = w' := by
  go_enter Tryd.func29, Tryd.ntmps29
  go_wp2_with (go_at_call 20; refine (qRange_any _ _ _ _).mono ?_; rintro r w' ⟨rfl, rfl⟩)
  go_ret
  exact ⟨rfl, rfl⟩
theorem qFirst_any (l : List Int) (A : Option Addr) (c : Nat) (w : World) (hl : l.length ≤ 5000) (hC : Cells w A l) :
    Calls Tryd.prog 19 #[.slice A l.length c] w fun r w' => r = .returned (.int .i64 (firstOf l)) ∧ w = w' := by
  go_enter Tryd.func19, Tryd.ntmps19
  go_wp2
  go_loop [3] (fun i => ∃ k : Nat, k ≤ l.length ∧ i = (.int .i64 (k)) ∧ ∀ j, j < k → l.getD j 0 = 0) (fun i => l.length - (intOf i).toNat)
  case atStart => exact ⟨0, Nat.zero_le _, rfl, fun j hj => by omega⟩
  case round =>
    obtain ⟨k, hk, rfl, hz⟩ := hrel
    have HZ := Lib.hid hz
    clear hz
    by_cases hlt : k < l.length
    · obtain ⟨b, off, rfl, hbl, hc⟩ := hC (by omega)
      have hck := hc k hlt
      clear hc hC
      by_cases h0 : l.getD k 0 = 0
      · rw [h0] at hck
        have H0 := Lib.hid h0
        clear h0
        go_wp2
        go_round
        case rel => exact ⟨k + 1, by omega, by go_num, fun j hj => by
          rcases Nat.lt_or_ge j k with hjk | hjk
          · exact HZ.out j hjk
          · obtain rfl : j = k := by omega
            exact H0.out⟩
        case measure => simp [intOf]; omega
      · obtain ⟨x, hx⟩ : ∃ x, x = l.getD k 0 := ⟨_, rfl⟩
        rw [← hx] at hck h0
        have H0 := Lib.hid hx
        clear hx
        go_wp2
        go_ret
        exact ⟨ret_i (by rw [firstOf_take HZ.out hlt (by rw [← H0.out]; exact h0)]; exact H0.out), rfl⟩
    · clear hC
      go_wp2
      go_ret
      exact ⟨ret_i (by rw [firstOf_zero (fun j hj => HZ.out j (by omega))]), rfl⟩
theorem tSignal_any (xs : List Int) (A : Option Addr) (c : Nat) (w : World) (hC : Cells w A xs) (hn : xs.length ≤ 5000) :
    Calls Tryd.prog 8 #[.slice A xs.length c] w fun r w' => r = .returned (.int .i64 (ssigErr xs)) ∧ w = w' := by
  have hm : ∀ k, k < (xs.map fun n => rangeErr n (-32767) 32767).length → (xs.map fun n => rangeErr n (-32767) 32767).getD k 0 = rangeErr (xs.getD k 0) (-32767) 32767 := fun k hk => by
    have hk' : k < xs.length := by simpa using hk
    simp [List.getD_eq_getElem?_getD, hk']
  have HM := Lib.hid hm
  have HL : Hid ((xs.map fun n => rangeErr n (-32767) 32767).length = xs.length) := Lib.hid (by simp)
  have HC := Lib.hid hC
  obtain ⟨R, hR⟩ : ∃ R, R = ssigErr xs := ⟨_, rfl⟩
  have HR : Hid (R = firstOf [if 4096 < xs.length then 5 else 0, eachErr xs (-32767) 32767]) := Lib.hid hR
  rw [← hR]
  obtain ⟨N, hN⟩ : ∃ N, N = xs.length := ⟨_, rfl⟩
  have HN := Lib.hid hN
  rw [← hN] at HL hn HR ⊢
  clear hC hR hN hm
  by_cases hb : 4096 < N
  · have hbi : (4096 : Int) < (N : Int) := by omega
    have HE : Hid (R = 5) := Lib.hid (by rw [HR.out, if_pos hb]; simp [firstOf])
    clear HR
    go_enter Tryd.func8, Tryd.ntmps8
    go_wp2
    go_ret
    exact ⟨ret_i HE.out.symm, rfl⟩
  · have hbi : ¬ (4096 : Int) < (N : Int) := by omega
    have HE : Hid (R = eachErr xs (-32767) 32767) := Lib.hid (by rw [HR.out, if_neg hb]; by_cases h0 : eachErr xs (-32767) 32767 = 0 <;> simp [firstOf, h0])
    clear HR
    go_enter Tryd.func8, Tryd.ntmps8
    go_wp2
    go_loop [3, 4] (fun i _ => ∃ k : Nat, k ≤ N ∧ i = (.int .i64 (k)) ∧ ∀ j, j < k → (xs.map fun n => rangeErr n (-32767) 32767).getD j 0 = 0) (fun i _ => N - (intOf i).toNat)
    case atStart => exact ⟨0, Nat.zero_le _, rfl, fun j hj => by omega⟩
    case round =>
      obtain ⟨k, hk, rfl, hz⟩ := hrel
      have HZ := Lib.hid hz
      clear hz
      by_cases hlt : k < N
      · obtain ⟨b, off, rfl, hbl, hc⟩ := HC.out (by rw [← HN.out]; omega)
        have hck := hc k (by rw [← HN.out]; exact hlt)
        have HG := Lib.hid (HM.out k (by rw [HL.out]; exact hlt))
        clear hc
        obtain ⟨x, hx⟩ : ∃ x, x = xs.getD k 0 := ⟨_, rfl⟩
        rw [← hx] at hck HG
        clear hx
        by_cases h0 : rangeErr x (-32767) 32767 = 0
        · have H0 := Lib.hid h0
          clear h0
          go_wp2_with (go_at_call 11; refine (tInput_any _ _).mono ?_; rw [H0.out]; rintro r w' ⟨rfl, rfl⟩)
          go_round
          case rel => exact ⟨k + 1, by omega, by go_num, fun j hj => by
            rcases Nat.lt_or_ge j k with hjk | hjk
            · exact HZ.out j hjk
            · obtain rfl : j = k := by omega
              rw [HG.out]; exact H0.out⟩
          case measure => simp [intOf]; omega
        · obtain ⟨e, he⟩ : ∃ e, e = rangeErr x (-32767) 32767 := ⟨_, rfl⟩
          rw [← he] at h0 HG
          have H1 := Lib.hid he
          clear he
          go_wp2_with (go_at_call 11; refine (tInput_any _ _).mono ?_; rw [← H1.out]; rintro r w' ⟨rfl, rfl⟩)
          go_ret
          exact ⟨ret_i (by rw [HE.out]; unfold eachErr; rw [firstOf_take HZ.out (by rw [HL.out]; exact hlt) (by rw [HG.out]; exact h0), HG.out]), rfl⟩
      · go_wp2
        go_ret
        exact ⟨ret_i (by rw [HE.out]; unfold eachErr; rw [firstOf_zero (fun j hj => HZ.out j (by rw [HL.out] at hj; omega))]), rfl⟩
theorem pSignal_any (xs : List Int) (A : Option Addr) (c : Nat) (w : World) (hC : Cells w A xs) (hn : xs.length ≤ 5000) :
    Calls Tryd.prog 14 #[.slice A xs.length c] w fun r w' => r = .returned (.int .i64 (sigErr xs)) ∧ w = w' := by
  have hm : ∀ k, k < (xs.map fun n => rangeErr n (-2048) 2048).length → (xs.map fun n => rangeErr n (-2048) 2048).getD k 0 = rangeErr (xs.getD k 0) (-2048) 2048 := fun k hk => by
    have hk' : k < xs.length := by simpa using hk
    simp [List.getD_eq_getElem?_getD, hk']
  have HM := Lib.hid hm
  have HL : Hid ((xs.map fun n => rangeErr n (-2048) 2048).length = xs.length) := Lib.hid (by simp)
  have HC := Lib.hid hC
  obtain ⟨R, hR⟩ : ∃ R, R = sigErr xs := ⟨_, rfl⟩
  have HR : Hid (R = firstOf [if 4096 < xs.length then 5 else 0, eachErr xs (-2048) 2048]) := Lib.hid hR
  rw [← hR]
  obtain ⟨N, hN⟩ : ∃ N, N = xs.length := ⟨_, rfl⟩
  have HN := Lib.hid hN
  rw [← hN] at HL hn HR ⊢
  clear hC hR hN hm
  by_cases hb : 4096 < N
  · have hbi : (4096 : Int) < (N : Int) := by omega
    have HE : Hid (R = 5) := Lib.hid (by rw [HR.out, if_pos hb]; simp [firstOf])
    clear HR
    go_enter Tryd.func14, Tryd.ntmps14
    go_wp2
    go_ret
    exact ⟨ret_i HE.out.symm, rfl⟩
  · have hbi : ¬ (4096 : Int) < (N : Int) := by omega
    have HE : Hid (R = eachErr xs (-2048) 2048) := Lib.hid (by rw [HR.out, if_neg hb]; by_cases h0 : eachErr xs (-2048) 2048 = 0 <;> simp [firstOf, h0])
    clear HR
    go_enter Tryd.func14, Tryd.ntmps14
    go_wp2
    go_loop [3, 4] (fun i _ => ∃ k : Nat, k ≤ N ∧ i = (.int .i64 (k)) ∧ ∀ j, j < k → (xs.map fun n => rangeErr n (-2048) 2048).getD j 0 = 0) (fun i _ => N - (intOf i).toNat)
    case atStart => exact ⟨0, Nat.zero_le _, rfl, fun j hj => by omega⟩
    case round =>
      obtain ⟨k, hk, rfl, hz⟩ := hrel
      have HZ := Lib.hid hz
      clear hz
      by_cases hlt : k < N
      · obtain ⟨b, off, rfl, hbl, hc⟩ := HC.out (by rw [← HN.out]; omega)
        have hck := hc k (by rw [← HN.out]; exact hlt)
        have HG := Lib.hid (HM.out k (by rw [HL.out]; exact hlt))
        clear hc
        obtain ⟨x, hx⟩ : ∃ x, x = xs.getD k 0 := ⟨_, rfl⟩
        rw [← hx] at hck HG
        clear hx
        by_cases h0 : rangeErr x (-2048) 2048 = 0
        · have H0 := Lib.hid h0
          clear h0
          go_wp2_with (go_at_call 29; refine (pValue_any _ _).mono ?_; rw [H0.out]; rintro r w' ⟨rfl, rfl⟩)
          go_round
          case rel => exact ⟨k + 1, by omega, by go_num, fun j hj => by
            rcases Nat.lt_or_ge j k with hjk | hjk
            · exact HZ.out j hjk
            · obtain rfl : j = k := by omega
              rw [HG.out]; exact H0.out⟩
          case measure => simp [intOf]; omega
        · obtain ⟨e, he⟩ : ∃ e, e = rangeErr x (-2048) 2048 := ⟨_, rfl⟩
          rw [← he] at h0 HG
          have H1 := Lib.hid he
          clear he
          go_wp2_with (go_at_call 29; refine (pValue_any _ _).mono ?_; rw [← H1.out]; rintro r w' ⟨rfl, rfl⟩)
          go_ret
          exact ⟨ret_i (by rw [HE.out]; unfold eachErr; rw [firstOf_take HZ.out (by rw [HL.out]; exact hlt) (by rw [HG.out]; exact h0), HG.out]), rfl⟩
      · go_wp2
        go_ret
        exact ⟨ret_i (by rw [HE.out]; unfold eachErr; rw [firstOf_zero (fun j hj => HZ.out j (by rw [HL.out] at hj; omega))]), rfl⟩
set_option maxRecDepth 100000 in
set_option maxHeartbeats 4000000 in
theorem sameInts_any (A B : Option Addr) (a b : List Int) (ca cb : Nat) (w : World) (hA : Cells w A a) (hB : Cells w B b) (h1 : a.length ≤ 100000) (h2 : b.length ≤ 100000) :
    Calls Tryd.prog 22 #[.slice A a.length ca, .slice B b.length cb] w fun x w' => x = .returned (.bool (decide (a = b))) ∧ Below w.heap.size w w' := by
  obtain ⟨E, hE⟩ : ∃ E, E = decide (a = b) := ⟨_, rfl⟩
  have HE := Lib.hid hE
  have HCA := Lib.hid hA
  have HCB := Lib.hid hB
  obtain ⟨N, hN⟩ : ∃ N, N = a.length := ⟨_, rfl⟩
  obtain ⟨M, hM⟩ : ∃ M, M = b.length := ⟨_, rfl⟩
  have HN := Lib.hid hN
  have HM := Lib.hid hM
  rw [← hE]
  rw [← hN] at h1 ⊢
  rw [← hM] at h2 ⊢
  clear hE hA hB hN hM
  by_cases hnm : N = M
  · have HNM := Lib.hid hnm
    subst hnm
    go_enter Tryd.func22, Tryd.ntmps22
    go_wp2
    go_loopw [5] (fun i wr => ∃ k : Nat, k ≤ N ∧ i = (.int .i64 ((k : Nat))) ∧ (∀ j, j < k → a.getD j 0 = b.getD j 0) ∧ Below w.heap.size w wr) (fun i _ => N - (intOf i).toNat)
    case atStart => exact ⟨0, by omega, rfl, fun j hj => by omega, Below.refl _ _⟩
    case round =>
      obtain ⟨k, hk, rfl, hz, hBr⟩ := hrel
      have HZ := Lib.hid hz
      have HBR := Lib.hid hBr
      have hszr := hBr.size
      clear hz hBr
      by_cases hlt : k < N
      · have l1 : k < a.length := by rw [← HN.out]; exact hlt
        have l2 : k < b.length := by rw [← HM.out]; exact hlt
        obtain ⟨g, o, rfl, q1, k1⟩ := (HCA.out.below HBR.out) (by omega)
        obtain ⟨g', o', rfl, q2, k2⟩ := (HCB.out.below HBR.out) (by omega)
        have y1 := k1 k l1
        have y2 := k2 k l2
        obtain ⟨x, hx⟩ : ∃ x, x = a.getD k 0 := ⟨_, rfl⟩
        obtain ⟨y, hy⟩ : ∃ y, y = b.getD k 0 := ⟨_, rfl⟩
        rw [← hx] at y1
        rw [← hy] at y2
        have HX := Lib.hid hx
        have HY := Lib.hid hy
        clear k1 k2 hx hy l1 l2
        by_cases hxy : x = y
        · subst hxy
          go_wp2
          refine Calm.tail_below 8 (by kernel_rfl) (by kernel_rfl) ?_
          simp only [List.take_succ_cons, List.take_zero, List.drop_succ_cons, List.drop_zero]
          repeat (first | (apply Calm.op_move; (focus rfl); (focus (first | exact .inl rfl | exact .inr rfl)); (focus ((try simp only [Act.eval, Array.getD_eq_getD_getElem?, List.getElem?_toArray, List.getElem?_cons_succ, List.getElem?_cons_zero, Option.getD_some]); rfl)); (try simp only [Act.put, List.setIfInBounds_toArray, List.set_cons_zero, List.set_cons_succ])) | (apply Calm.op_not; (focus rfl); (try simp only [Act.put, List.setIfInBounds_toArray, List.set_cons_zero, List.set_cons_succ])) | (apply Calm.op; (focus rfl); (focus (intro W hb; obtain ⟨hc, hf⟩ := bcell hb; clear hb hf; go_simp; (try go_bits); (try rfl); done)); (try simp only [Act.put, List.setIfInBounds_toArray, List.set_cons_zero, List.set_cons_succ])))
          refine wpQuiet_nil ?_
          intro w2 hb2
          obtain ⟨hb2c, hb2f⟩ := bcell hb2
          have hb2z := hb2.size
          (try simp at hb2z)
          (try have hb2z0 : w.heap.size < w2.heap.size := by omega)
          (try have hb2z1 : w.heap.size + 1 < w2.heap.size := by omega)
          (try have hb2z2 : w.heap.size + 1 + 1 < w2.heap.size := by omega)
          (try have hb2z3 : w.heap.size + 1 + 1 + 1 < w2.heap.size := by omega)
          (try have hb2z4 : w.heap.size + 1 + 1 + 1 + 1 < w2.heap.size := by omega)
          (try have hb2z5 : w.heap.size + 1 + 1 + 1 + 1 + 1 < w2.heap.size := by omega)
          go_wp2
          go_roundw
          case rel =>
            refine ⟨k + 1, by omega, by go_num, fun j hj => ?_, HBR.out.trans (hb2.mono hszr)⟩
            rcases Nat.lt_or_ge j k with h | h
            · exact HZ.out j h
            · obtain rfl : j = k := by omega
              rw [← HX.out, ← HY.out]
          case measure => simp [intOf]; omega
        · have HEE := Lib.hid (show E = false by
            rw [HE.out]
            refine decide_eq_false (fun e => hxy ?_)
            rw [HX.out, HY.out, e])
          go_wp2
          refine Calm.tail_below 8 (by kernel_rfl) (by kernel_rfl) ?_
          simp only [List.take_succ_cons, List.take_zero, List.drop_succ_cons, List.drop_zero]
          repeat (first | (apply Calm.op_move; (focus rfl); (focus (first | exact .inl rfl | exact .inr rfl)); (focus ((try simp only [Act.eval, Array.getD_eq_getD_getElem?, List.getElem?_toArray, List.getElem?_cons_succ, List.getElem?_cons_zero, Option.getD_some]); rfl)); (try simp only [Act.put, List.setIfInBounds_toArray, List.set_cons_zero, List.set_cons_succ])) | (apply Calm.op_not; (focus rfl); (try simp only [Act.put, List.setIfInBounds_toArray, List.set_cons_zero, List.set_cons_succ])) | (apply Calm.op; (focus rfl); (focus (intro W hb; obtain ⟨hc, hf⟩ := bcell hb; clear hb hf; go_simp; (try go_bits); (try rfl); done)); (try simp only [Act.put, List.setIfInBounds_toArray, List.set_cons_zero, List.set_cons_succ])))
          refine wpQuiet_nil ?_
          intro w2 hb2
          obtain ⟨hb2c, hb2f⟩ := bcell hb2
          have hb2z := hb2.size
          (try simp at hb2z)
          (try have hb2z0 : w.heap.size < w2.heap.size := by omega)
          (try have hb2z1 : w.heap.size + 1 < w2.heap.size := by omega)
          (try have hb2z2 : w.heap.size + 1 + 1 < w2.heap.size := by omega)
          (try have hb2z3 : w.heap.size + 1 + 1 + 1 < w2.heap.size := by omega)
          (try have hb2z4 : w.heap.size + 1 + 1 + 1 + 1 < w2.heap.size := by omega)
          (try have hb2z5 : w.heap.size + 1 + 1 + 1 + 1 + 1 < w2.heap.size := by omega)
          go_wp2
          go_ret
          exact ⟨by rw [HEE.out]; rfl, HBR.out.trans (hb2.mono hszr)⟩
      · obtain rfl : k = N := by omega
        have HEE := Lib.hid (show E = true by
          rw [HE.out]
          refine decide_eq_true (List.ext_getElem? fun i => ?_)
          have hl : a.length = b.length := HN.out.symm.trans HM.out
          rcases Nat.lt_or_ge i a.length with h | h
          · have := HZ.out i (by rw [HN.out]; exact h)
            simpa [h, show i < b.length by omega] using this
          · rw [List.getElem?_eq_none h, List.getElem?_eq_none (by omega)])
        go_wp2
        go_ret
        exact ⟨by rw [HEE.out]; rfl, HBR.out⟩
  · have HEE := Lib.hid (show E = false by
      rw [HE.out]
      refine decide_eq_false (fun e => hnm ?_)
      rw [HN.out, HM.out, e])
    have hnm2 : ¬ (N : Int) = (M : Int) := by omega
    go_enter Tryd.func22, Tryd.ntmps22
    go_wp2
    go_ret
    exact ⟨by rw [HEE.out]; rfl, Below.refl _ _⟩
end Go.Proofs.YtleemphfkhbhaaaDoor

/- Contracts of the reference's numbers, CheckSection, CheckSections. -/
namespace Go.Proofs.YtleemphfkhbhaaaDoor
open Go.RowKit
open Calm (bcell Blk)

theorem first0 (e : Int) : firstOf [0, e] = e := by by_cases h0 : e = 0 <;> simp [firstOf, h0]
theorem tNumbers_any (b0 b1 b2 a1 a2 sh : Int) (w : World) : Calls Tryd.prog 43 #[.agg #[(.int .i64 (b0)), (.int .i64 (b1)), (.int .i64 (b2)), (.int .i64 (a1)), (.int .i64 (a2)), (.int .i64 (sh))]] w fun r w' => (∃ B, r = .returned (.slice B 6 6) ∧ Cells w' B [b0, b1, b2, a1, a2, sh]) ∧ Below w.heap.size w w' := by
  go_enter Tryd.func43, Tryd.ntmps43
  go_wp2
  go_ret
  exact ⟨⟨_, rfl, Cells.row (zs := [b0, b1, b2, a1, a2, sh]) (heap_new (by simp))⟩, by (repeat (first | (with_reducible exact Below.refl _ _) | ((with_reducible refine Below.setCell ?_ ?_ _); rotate_left 1; focus (first | (simp; done) | (simp; omega) | (simp at *; omega))) | ((with_reducible refine Below.alloc ?_ ?_ _); rotate_left 1; focus (first | (simp; done) | (simp; omega) | (simp at *; omega))) | (with_reducible refine Below.drew ?_) | ((with_reducible refine Calm.step (by assumption) ?_ ?_); rotate_left 1; focus (first | (simp; done) | (simp; omega) | (simp at *; omega)))))⟩
set_option maxHeartbeats 1000000 in
theorem tSection_any (b0 b1 b2 a1 a2 sh : Int) (w : World) : Calls Tryd.prog 21 #[.agg #[(.int .i64 (b0)), (.int .i64 (b1)), (.int .i64 (b2)), (.int .i64 (a1)), (.int .i64 (a2)), (.int .i64 (sh))]] w fun r w' => r = .returned (.int .i64 (secErr b0 b1 b2 a1 a2 sh)) ∧ Below w.heap.size w w' := by
  have HG : Hid (∀ k, k < 5 → ([b0, b1, b2, a1, a2].map fun n => rangeErr n (-32767) 32767).getD k 0 = rangeErr ([b0, b1, b2, a1, a2, sh].getD k 0) (-32767) 32767) := Lib.hid (fun k hk => by
    match k, hk with
    | 0, _ => rfl
    | 1, _ => rfl
    | 2, _ => rfl
    | 3, _ => rfl
    | 4, _ => rfl
    | k + 5, h => omega)
  have HL : Hid (([b0, b1, b2, a1, a2].map fun n => rangeErr n (-32767) 32767).length = 5) := Lib.hid rfl
  obtain ⟨L, hL⟩ : ∃ L, L = [b0, b1, b2, a1, a2].map fun n => rangeErr n (-32767) 32767 := ⟨_, rfl⟩
  obtain ⟨R, hR⟩ : ∃ R, R = secErr b0 b1 b2 a1 a2 sh := ⟨_, rfl⟩
  have HR : Hid (R = firstOf [firstOf L, rangeErr sh 0 15]) := Lib.hid (by rw [hR, hL]; rfl)
  rw [← hL] at HG HL
  rw [← hR]
  have HN : Hid (∀ W, Calls Tryd.prog 43 #[.agg #[(.int .i64 (b0)), (.int .i64 (b1)), (.int .i64 (b2)), (.int .i64 (a1)), (.int .i64 (a2)), (.int .i64 (sh))]] W fun r w' => (∃ B, r = .returned (.slice B 6 6) ∧ Cells w' B [b0, b1, b2, a1, a2, sh]) ∧ Below W.heap.size W w') := Lib.hid (tNumbers_any b0 b1 b2 a1 a2 sh)
  have H6 : Hid ([b0, b1, b2, a1, a2, sh].length = 6) := Lib.hid rfl
  obtain ⟨L6, hL6⟩ : ∃ L6, L6 = [b0, b1, b2, a1, a2, sh] := ⟨_, rfl⟩
  rw [← hL6] at HG HN H6
  clear hL hR hL6
  go_enter Tryd.func21, Tryd.ntmps21
  go_wp2_with (go_at_call 43; refine (HN.out _).mono ?_; rintro r w1 ⟨⟨B, rfl, hc1⟩, hb1⟩; have HC1 := Lib.hid hc1; have HB1 := Lib.hid (show Below w.heap.size w w1 from Below.trans (by (repeat (first | (with_reducible exact Below.refl _ _) | ((with_reducible refine Below.setCell ?_ ?_ _); rotate_left 1; focus (first | (simp; done) | (simp; omega) | (simp at *; omega))) | ((with_reducible refine Below.alloc ?_ ?_ _); rotate_left 1; focus (first | (simp; done) | (simp; omega) | (simp at *; omega))) | (with_reducible refine Below.drew ?_) | ((with_reducible refine Calm.step (by assumption) ?_ ?_); rotate_left 1; focus (first | (simp; done) | (simp; omega) | (simp at *; omega)))))) (hb1.mono (by simp))); have K1 : Blk w1 w.heap.size #[(.int .i64 (b0)), (.int .i64 (b1)), (.int .i64 (b2)), (.int .i64 (a1)), (.int .i64 (a2)), (.int .i64 (sh))] := Blk.below (by (repeat (first | ((with_reducible refine Blk.at_ ?_); focus (first | rfl | (simp; done) | (simp; omega))) | (with_reducible refine Blk.alloc ?_ _) | (with_reducible refine Blk.below ?_ (by with_reducible assumption)) | (with_reducible refine Blk.drew ?_)))) hb1; obtain ⟨c0, c1, c2, c3, c4, c5, cl, cf⟩ := K1.o6; clear K1 hb1 hc1)
  go_loop [4, 5] (fun i _ => ∃ k : Nat, k ≤ 5 ∧ i = (.int .i64 (k)) ∧ ∀ j, j < k → L.getD j 0 = 0) (fun i _ => 5 - (intOf i).toNat)
  case atStart => exact ⟨0, Nat.zero_le _, rfl, fun j hj => by omega⟩
  case round =>
    obtain ⟨k, hk, rfl, hz⟩ := hrel
    have HZ := Lib.hid hz
    clear hz
    by_cases hlt : k < 5
    · obtain ⟨b, off, rfl, hbl, hc⟩ := HC1.out (by rw [H6.out]; omega)
      have hck := hc k (by rw [H6.out]; omega)
      have HG1 := Lib.hid (HG.out k hlt)
      clear hc
      obtain ⟨x, hx⟩ : ∃ x, x = L6.getD k 0 := ⟨_, rfl⟩
      rw [← hx] at hck HG1
      clear hx
      by_cases h0 : rangeErr x (-32767) 32767 = 0
      · have H0 := Lib.hid h0
        clear h0
        go_wp2_with (go_at_call 20; refine (qRange_any _ _ _ _).mono ?_; rw [H0.out]; rintro r w' ⟨rfl, rfl⟩)
        go_round
        case rel => exact ⟨k + 1, by omega, by go_num, fun j hj => by
          rcases Nat.lt_or_ge j k with hjk | hjk
          · exact HZ.out j hjk
          · obtain rfl : j = k := by omega
            rw [HG1.out]; exact H0.out⟩
        case measure => simp [intOf]; omega
      · obtain ⟨e, he⟩ : ∃ e, e = rangeErr x (-32767) 32767 := ⟨_, rfl⟩
        rw [← he] at h0 HG1
        have H1 := Lib.hid he
        have H2 := Lib.hid h0
        clear he
        go_wp2_with (go_at_call 20; refine (qRange_any _ _ _ _).mono ?_; rw [← H1.out]; rintro r w' ⟨rfl, rfl⟩)
        go_ret
        exact ⟨ret_i (by
          have h3 : firstOf L = e := by rw [firstOf_take HZ.out (by rw [HL.out]; exact hlt) (by rw [HG1.out]; exact H2.out), HG1.out]
          rw [HR.out, h3]; simp [firstOf, H2.out]), HB1.out⟩
    · have h5 : k = 5 := by omega
      subst h5
      have H3 : Hid (firstOf L = 0) := Lib.hid (firstOf_zero (fun j hj => HZ.out j (by rw [HL.out] at hj; omega)))
      go_wp2_with (go_at_call 20; refine (qRange_any _ _ _ _).mono ?_; rintro r w' ⟨rfl, rfl⟩)
      go_ret
      exact ⟨ret_i (by rw [HR.out, H3.out]; by_cases h0 : rangeErr sh 0 15 = 0 <;> simp [firstOf, h0]), HB1.out⟩
set_option maxHeartbeats 1000000 in
theorem tSections_any (l : List Sec) (A : Option Addr) (c : Nat) (w : World) (hC : SCells w A l) (hn : l.length ≤ 5000) :
    Calls Tryd.prog 7 #[.slice A l.length c] w fun r w' => r = .returned (.int .i64 (secsErr l)) ∧ Below w.heap.size w w' := by
  have hm : ∀ k, k < (l.map secE).length → (l.map secE).getD k 0 = secE (l.getD k Sec0) := fun k hk => by
    have hk' : k < l.length := by simpa using hk
    simp [List.getD_eq_getElem?_getD, hk']
  have HM := Lib.hid hm
  have HL : Hid ((l.map secE).length = l.length) := Lib.hid (by simp)
  have HC := Lib.hid hC
  obtain ⟨R, hR⟩ : ∃ R, R = secsErr l := ⟨_, rfl⟩
  have HR : Hid (R = firstOf [if 8 < l.length then 5 else 0, firstOf (l.map secE)]) := Lib.hid hR
  rw [← hR]
  obtain ⟨N, hN⟩ : ∃ N, N = l.length := ⟨_, rfl⟩
  have HN := Lib.hid hN
  rw [← hN] at HL hn HR ⊢
  clear hC hR hN hm
  by_cases hb : 8 < N
  · have hbi : (8 : Int) < (N : Int) := by omega
    have HE : Hid (R = 5) := Lib.hid (by rw [HR.out, if_pos hb]; simp [firstOf])
    clear HR
    go_enter Tryd.func7, Tryd.ntmps7
    go_wp2
    go_ret
    exact ⟨ret_i HE.out.symm, Below.refl _ _⟩
  · have hbi : ¬ (8 : Int) < (N : Int) := by omega
    have HE : Hid (R = firstOf (l.map secE)) := Lib.hid (by rw [HR.out, if_neg hb, first0])
    clear HR
    go_enter Tryd.func7, Tryd.ntmps7
    go_wp2
    go_loopw [3, 4] (fun i _ wr => ∃ k : Nat, k ≤ N ∧ i = (.int .i64 ((k : Nat))) ∧ (∀ j, j < k → (l.map secE).getD j 0 = 0) ∧ Below w.heap.size w wr) (fun i _ _ => N - (intOf i).toNat)
    case atStart => exact ⟨0, Nat.zero_le _, rfl, fun j hj => by omega, Below.refl _ _⟩
    case round =>
      obtain ⟨k, hk, rfl, hz, hB⟩ := hrel
      have HZ := Lib.hid hz
      have hsz := hB.size
      clear hz
      by_cases hlt : k < N
      · obtain ⟨b, o, rfl, l1, k1⟩ := HC.out (by rw [← HN.out]; omega)
        obtain ⟨q0, q1, q2, q3, q4, q5⟩ := k1 k (by rw [← HN.out]; exact hlt)
        have x0 := (hB.cell (p := ⟨b, o + k * 6, none⟩) l1).trans q0
        have x1 := (hB.cell (p := ⟨b, o + k * 6 + 1, none⟩) l1).trans q1
        have x2 := (hB.cell (p := ⟨b, o + k * 6 + 2, none⟩) l1).trans q2
        have x3 := (hB.cell (p := ⟨b, o + k * 6 + 3, none⟩) l1).trans q3
        have x4 := (hB.cell (p := ⟨b, o + k * 6 + 4, none⟩) l1).trans q4
        have x5 := (hB.cell (p := ⟨b, o + k * 6 + 5, none⟩) l1).trans q5
        have HG := Lib.hid (HM.out k (by rw [HL.out]; exact hlt))
        obtain ⟨s, hS⟩ : ∃ S, S = l.getD k Sec0 := ⟨_, rfl⟩
        rw [← hS] at x0 x1 x2 x3 x4 x5 HG
        have HCK : Hid (∀ W, Calls Tryd.prog 21 #[.agg #[(.int .i64 (s.b0)), (.int .i64 (s.b1)), (.int .i64 (s.b2)), (.int .i64 (s.a1)), (.int .i64 (s.a2)), (.int .i64 (s.sh))]] W fun r w' => r = .returned (.int .i64 (secE s)) ∧ Below W.heap.size W w') := Lib.hid (fun W => tSection_any _ _ _ _ _ _ W)
        clear q0 q1 q2 q3 q4 q5 k1 hS
        by_cases h0 : secE s = 0
        · have H0 := Lib.hid h0
          rw [h0] at HCK
          clear h0
          go_wp2_with (go_at_call 21; refine (HCK.out _).mono ?_; rintro r w2 ⟨rfl, hb2⟩; have HB2 := Lib.hid (hB.trans (hb2.mono hsz)); clear hb2)
          go_roundw
          case rel => exact ⟨k + 1, by omega, by go_num, fun j hj => by
            rcases Nat.lt_or_ge j k with hjk | hjk
            · exact HZ.out j hjk
            · obtain rfl : j = k := by omega
              rw [HG.out]; exact H0.out, HB2.out⟩
          case measure => simp [intOf]; omega
        · obtain ⟨e, he⟩ : ∃ e, e = secE s := ⟨_, rfl⟩
          rw [← he] at h0 HG HCK
          clear he
          have H2 := Lib.hid h0
          go_wp2_with (go_at_call 21; refine (HCK.out _).mono ?_; rintro r w2 ⟨rfl, hb2⟩; have HB2 := Lib.hid (hB.trans (hb2.mono hsz)); clear hb2)
          go_ret
          exact ⟨ret_i (by rw [HE.out, firstOf_take HZ.out (by rw [HL.out]; exact hlt) (by rw [HG.out]; exact H2.out), HG.out]), HB2.out⟩
      · go_wp2
        go_ret
        exact ⟨ret_i (by rw [HE.out, firstOf_zero (fun j hj => HZ.out j (by rw [HL.out] at hj; omega))]), hB⟩
end Go.Proofs.YtleemphfkhbhaaaDoor

/- A guard's error, number by number; a guard without error is valid. No walk. -/
namespace Go.Proofs.YtleemphfkhbhaaaDoor
open Go.RowKit

theorem fo_cons0 (l : List Int) : firstOf (0 :: l) = firstOf l := by simp [firstOf]
theorem fo_consN {a : Int} (h : a ≠ 0) (l : List Int) : firstOf (a :: l) = a := by simp [firstOf, h]
theorem fo_two (a b : Int) (l : List Int) : firstOf (a :: b :: l) = if firstOf [a, b] = 0 then firstOf l else firstOf [a, b] := by
  by_cases ha : a = 0
  · subst ha
    rw [fo_cons0, fo_cons0]
    by_cases hb : b = 0
    · subst hb; simp [firstOf]
    · rw [fo_consN hb, fo_consN hb, if_neg hb]
  · rw [fo_consN ha, fo_consN ha, if_neg ha]
/-- the error of the gain at an index. -/
def eltG (gs : List Int) (k : Nat) : Int := firstOf [rangeErr (gs.getD k 0) 0 16, if k = 0 ∧ gs.getD 0 0 ≠ 0 ∨ 0 < k ∧ gs.getD k 0 ≤ gs.getD (k - 1) 0 then 11 else 0]
theorem eltG_pos {gs : List Int} {k : Nat} (h : 0 < k) : eltG gs k = ascAt gs 0 16 k := by
  unfold eltG ascAt
  have h0 : ¬ k = 0 := by omega
  simp [h, h0]
theorem eltG_zero (gs : List Int) : eltG gs 0 = firstOf [rangeErr (gs.getD 0 0) 0 16, if gs.getD 0 0 ≠ 0 then 11 else 0] := by simp [eltG]
theorem asc0 (gs : List Int) : ascAt gs 0 16 0 = rangeErr (gs.getD 0 0) 0 16 := by
  unfold ascAt
  simp only [Nat.lt_irrefl, false_and, if_false]
  by_cases h : rangeErr (gs.getD 0 0) 0 16 = 0
  · rw [h]; simp [firstOf]
  · rw [fo_consN h]
theorem g2_split (gs : List Int) : guardErr2 gs = if eltG gs 0 = 0 then ascErr gs 0 16 else eltG gs 0 := by
  rw [eltG_zero]
  unfold guardErr2
  rw [fo_two]
  have h1 : firstOf [ascErr gs 0 16] = ascErr gs 0 16 := by
    by_cases h : ascErr gs 0 16 = 0
    · rw [h]; simp [firstOf]
    · rw [fo_consN h]
  rw [h1]
theorem elt_asc {gs : List Int} {k : Nat} (h : ∀ j, j < k → eltG gs j = 0) : ∀ j, j < k → ascAt gs 0 16 j = 0 := by
  intro j hj
  rcases Nat.eq_zero_or_pos j with rfl | h0
  · rw [asc0]
    have := h 0 hj
    rw [eltG_zero, firstOf_eq_zero] at this
    exact this _ (by simp)
  · rw [← eltG_pos h0]; exact h j hj
theorem g2_at {gs : List Int} {k : Nat} (h : ∀ j, j < k → eltG gs j = 0) (hk : k < gs.length) (hn : eltG gs k ≠ 0) : guardErr2 gs = eltG gs k := by
  rw [g2_split]
  rcases Nat.eq_zero_or_pos k with rfl | h0
  · rw [if_neg hn]
  · rw [if_pos (h 0 h0)]
    have e := asc_get gs 0 16 hk
    unfold ascErr
    rw [firstOf_take (k := k) (fun j hj => by rw [asc_get gs 0 16 (by omega)]; exact elt_asc h j hj) (by simpa using hk) (by rw [e, ← eltG_pos h0]; exact hn), e, eltG_pos h0]
theorem g2_zero {gs : List Int} (h : ∀ j, j < gs.length → eltG gs j = 0) (h0 : 0 < gs.length) : guardErr2 gs = 0 := by
  rw [g2_split, if_pos (h 0 h0)]
  exact firstOf_zero (fun j hj => by
    have hj' : j < gs.length := by simpa using hj
    rw [asc_get gs 0 16 hj']; exact elt_asc h j hj')
/-- the error, from the first number that is not yet known to be right. -/
def G1 (gs : List Int) (l : List Int) : Int := if firstOf l = 0 then guardErr2 gs else firstOf l
theorem G1_cons0 (gs l : List Int) : G1 gs (0 :: l) = G1 gs l := by unfold G1; rw [fo_cons0]
theorem G1_consN (gs l : List Int) {a : Int} (h : a ≠ 0) : G1 gs (a :: l) = a := by unfold G1; rw [fo_consN h, if_neg h]
theorem G1_two0 (gs l : List Int) {a b : Int} (h : firstOf [a, b] = 0) : G1 gs (a :: b :: l) = G1 gs l := by unfold G1; rw [fo_two, if_pos h]
theorem G1_twoN (gs l : List Int) {a b : Int} (h : firstOf [a, b] ≠ 0) : G1 gs (a :: b :: l) = firstOf [a, b] := by unfold G1; rw [fo_two, if_neg h, if_neg h]
theorem G1_nil (gs : List Int) : G1 gs [] = guardErr2 gs := by simp [G1, firstOf]
theorem some0 {n : Nat} (h : n = 0) (m : Int) : someErr (n : Int) m = 12 := by simp [someErr, firstOf, h]
theorem some5 {n : Nat} (h : 8 < n) : someErr (n : Int) 8 = 5 := by
  have h1 : ¬ ((n : Int) = 0) := by omega
  have h2 : (8 : Int) < (n : Int) := by omega
  simp only [someErr, if_neg h1, if_pos h2]
  simp [firstOf]
theorem someOk {n : Nat} (h : 0 < n) (h2 : n ≤ 8) : someErr (n : Int) 8 = 0 := by
  have h1 : ¬ ((n : Int) = 0) := by omega
  have h3 : ¬ (8 : Int) < (n : Int) := by omega
  simp only [someErr, if_neg h1, if_neg h3]
  simp [firstOf]
theorem someErr_zero {n : Nat} (h : someErr (n : Int) 8 = 0) : 1 ≤ n ∧ n ≤ 8 := by
  rcases Nat.eq_zero_or_pos n with h0 | h0
  · rw [some0 h0] at h; simp at h
  · rcases Nat.lt_or_ge 8 n with h1 | h1
    · rw [some5 h1] at h; simp at h
    · exact ⟨h0, h1⟩
theorem guard_valid {lk ht rc : Int} {ts gs : List Int} (h : guardErr lk ht rc ts gs = 0) : Valid lk ht rc ts gs := by
  unfold guardErr at h
  split at h
  · rename_i h1
    have h1 := firstOf_eq_zero.1 h1
    have h2 := firstOf_eq_zero.1 h
    have k1 := rangeErr_zero.1 (h1 (rangeErr lk 1 8) (by simp))
    have k2 := rangeErr_zero.1 (h1 (rangeErr ht 0 536870912) (by simp))
    have k3 := someErr_zero (h1 (someErr ts.length 8) (by simp))
    have k4 := eachErr_zero.1 (h1 (eachErr ts (-64) 64) (by simp))
    have k5 := rangeErr_zero.1 (h1 (rangeErr rc 0 1048576) (by simp))
    have k6 := someErr_zero (h1 (someErr gs.length 8) (by simp))
    have k7 := h2 (if gs.getD 0 0 ≠ 0 then 11 else 0) (by simp)
    have k8 := firstOf_eq_zero.1 (h2 (ascErr gs 0 16) (by simp))
    refine ⟨k1, k2, k5, k3, k4, k6, fun k => ?_, ?_⟩
    · rcases Nat.lt_or_ge k gs.length with hk | hk
      · have h3 := k8 (ascAt gs 0 16 k) (List.mem_map.2 ⟨k, by simpa using hk, rfl⟩)
        have h4 := firstOf_eq_zero.1 h3
        exact rangeErr_zero.1 (h4 _ (List.mem_cons_self ..))
      · rw [List.getD_eq_getElem?_getD, List.getElem?_eq_none hk]; simp
    · by_cases hg : gs.getD 0 0 = 0
      · exact hg
      · rw [if_pos hg] at k7; simp at k7
  · rename_i h1
    exact absurd h h1
end Go.Proofs.YtleemphfkhbhaaaDoor

/- Contract of the reference's CheckGuard: the same error. -/
namespace Go.Proofs.YtleemphfkhbhaaaDoor
open Go.RowKit
open Calm (bcell Blk)

set_option maxRecDepth 100000 in
set_option maxHeartbeats 40000000 in
theorem pGuard_any (lk ht rc : Int) (ts gs : List Int) (A1 A2 : Option Addr) (c1 c2 : Nat) (w : World) (hT0 : Cells w A1 ts) (hG0 : Cells w A2 gs) (h1 : ts.length ≤ 5000) (h2 : gs.length ≤ 5000) :
    Calls Tryd.prog 6 #[.agg #[(.int .i64 (lk)), (.int .i64 (ht)), .slice A1 ts.length c1, (.int .i64 (rc)), .slice A2 gs.length c2]] w fun r w' => r = .returned (.int .i64 (guardErr lk ht rc ts gs)) ∧ Below w.heap.size w w' := by
  have HT := Lib.hid hT0
  have HGS := Lib.hid hG0
  obtain ⟨M, hM⟩ : ∃ M, M = ts.length := ⟨_, rfl⟩
  obtain ⟨L, hL⟩ : ∃ L, L = gs.length := ⟨_, rfl⟩
  have HM := Lib.hid hM
  have HL := Lib.hid hL
  have HF2 : Hid (∀ (W : World) (a b : Int), Calls Tryd.prog 19 #[.slice (some ⟨W.heap.size, 0, none⟩) 2 2] (W.alloc (.cells #[(.int .i64 (a)), (.int .i64 (b))] 3)) fun r w' => r = .returned (.int .i64 (firstOf [a, b])) ∧ (W.alloc (.cells #[(.int .i64 (a)), (.int .i64 (b))] 3)) = w') := Lib.hid (fun W a b => qFirst_any [a, b] _ _ _ (by simp) (Cells.row (heap_new rfl)))
  obtain ⟨R, hR⟩ : ∃ R, R = guardErr lk ht rc ts gs := ⟨_, rfl⟩
  have HR0 : Hid (R = G1 gs [rangeErr lk 1 8, rangeErr ht 0 536870912, someErr M 8, eachErr ts (-64) 64, rangeErr rc 0 1048576, someErr L 8]) := Lib.hid (by rw [hR, hM, hL]; rfl)
  rw [← hR]
  rw [← hM] at h1 ⊢
  rw [← hL] at h2 ⊢
  clear hM hL hR hT0 hG0
  go_enter Tryd.func6, Tryd.ntmps6
  go_wp2
  refine Calm.tail_below 6 (by kernel_rfl) (by kernel_rfl) ?_
  simp only [List.take_succ_cons, List.take_zero, List.drop_succ_cons, List.drop_zero]
  repeat (first | (first | (apply Calm.op_move; (focus rfl); (focus (first | exact .inl rfl | exact .inr rfl)); (focus ((try simp only [Act.eval, Array.getD_eq_getD_getElem?, List.getElem?_toArray, List.getElem?_cons_succ, List.getElem?_cons_zero, Option.getD_some]); rfl)); (try simp only [Act.put, List.setIfInBounds_toArray, List.set_cons_zero, List.set_cons_succ])) | (apply Calm.op_not; (focus rfl); (try simp only [Act.put, List.setIfInBounds_toArray, List.set_cons_zero, List.set_cons_succ])) | (apply Calm.op; (focus rfl); (focus (intro W hb; obtain ⟨hc, hf⟩ := bcell hb; clear hb hf; go_simp; (try go_bits); (try rfl); done)); (try simp only [Act.put, List.setIfInBounds_toArray, List.set_cons_zero, List.set_cons_succ]))) | (apply Calm.op_call; (focus rfl); (focus (intro W hb; obtain ⟨hc, hf⟩ := bcell hb; clear hb hf; go_simp; refine ⟨?_, ?_⟩; rfl; rfl)); (focus (intro W hb; first | (go_at_call 20; exact Calm.call_same hb (qRange_any _ _ _ _)))); (try simp only [Act.put, List.setIfInBounds_toArray, List.set_cons_zero, List.set_cons_succ])))
  refine wpQuiet_nil ?_
  intro w1 hb1
  obtain ⟨hb1c, hb1f⟩ := bcell hb1
  have hb1z := hb1.size
  (try simp at hb1z)
  (try have hb1z0 : w.heap.size < w1.heap.size := by omega)
  (try have hb1z1 : w.heap.size + 1 < w1.heap.size := by omega)
  (try have hb1z2 : w.heap.size + 1 + 1 < w1.heap.size := by omega)
  (try have hb1z3 : w.heap.size + 1 + 1 + 1 < w1.heap.size := by omega)
  (try have hb1z4 : w.heap.size + 1 + 1 + 1 + 1 < w1.heap.size := by omega)
  (try have hb1z5 : w.heap.size + 1 + 1 + 1 + 1 + 1 < w1.heap.size := by omega)
  have hb1' : Below w.heap.size w w1 := Below.trans (by (repeat (first | (with_reducible exact Below.refl _ _) | ((with_reducible refine Below.setCell ?_ ?_ _); rotate_left 1; focus (first | (simp; done) | (simp; omega) | (simp at *; omega))) | ((with_reducible refine Below.alloc ?_ ?_ _); rotate_left 1; focus (first | (simp; done) | (simp; omega) | (simp at *; omega))) | (with_reducible refine Below.drew ?_) | ((with_reducible refine Calm.step (by assumption) ?_ ?_); rotate_left 1; focus (first | (simp; done) | (simp; omega) | (simp at *; omega)))))) (hb1.mono (by simp))
  have K0 : Blk w1 w.heap.size #[(.int .i64 (lk)), (.int .i64 (ht)), .slice A1 M c1, (.int .i64 (rc)), .slice A2 L c2] := Blk.below (by (repeat (first | ((with_reducible refine Blk.at_ ?_); focus (first | rfl | (simp; done) | (simp; omega))) | (with_reducible refine Blk.alloc ?_ _) | (with_reducible refine Blk.below ?_ (by with_reducible assumption)) | (with_reducible refine Blk.drew ?_)))) hb1
  obtain ⟨E, hE⟩ : ∃ E, E = firstOf [rangeErr lk 1 8, rangeErr ht 0 536870912] := ⟨_, rfl⟩
  have HE := Lib.hid hE
  obtain ⟨w2, hw2⟩ : ∃ w2, w2 = w1.alloc (.cells #[(.int .i64 (rangeErr lk 1 8)), (.int .i64 (rangeErr ht 0 536870912))] 3) := ⟨_, rfl⟩
  have HB2 : Hid (Below w.heap.size w w2) := Lib.hid (by rw [hw2]; exact hb1'.alloc hb1'.size _)
  have K2 : Blk w2 w.heap.size #[(.int .i64 (lk)), (.int .i64 (ht)), .slice A1 M c1, (.int .i64 (rc)), .slice A2 L c2] := by rw [hw2]; exact K0.alloc _
  have hF := HF2.out w1 (rangeErr lk 1 8) (rangeErr ht 0 536870912)
  rw [← hw2, ← hE] at hF
  have HW2 := Lib.hid hw2
  have HFF := Lib.hid hF
  obtain ⟨c00, c01, c02, c03, c04, l0, f0⟩ := K2.o5
  clear hb1 hb1c hb1f hb1' K0 hE hw2 hF K2
  by_cases h0 : E = 0
  · have HR1 : Hid (R = G1 gs [someErr M 8, eachErr ts (-64) 64, rangeErr rc 0 1048576, someErr L 8]) := Lib.hid (by rw [HR0.out, G1_two0 _ _ (by rw [← HE.out]; exact h0)])
    rw [h0] at HFF
    clear HR0 HE h0
    by_cases hm0 : M = 0
    · have HRR : Hid (R = 12) := Lib.hid (by rw [HR1.out, some0 hm0, G1_consN _ _ (by decide)])
      have hmi : ((M : Nat) : Int) = 0 := by omega
      clear HR1
      go_wp2_with (go_at_call 19; rw [← HW2.out]; refine HFF.out.mono ?_; rintro r w3 ⟨rfl, rfl⟩)
      go_ret
      exact ⟨ret_i HRR.out.symm, HB2.out⟩
    · have hmi : ¬ ((M : Nat) : Int) = 0 := by omega
      by_cases hm8 : 8 < M
      · have HRR : Hid (R = 5) := Lib.hid (by rw [HR1.out, some5 hm8, G1_consN _ _ (by decide)])
        have hmj : (8 : Int) < ((M : Nat) : Int) := by omega
        clear HR1
        go_wp2_with (go_at_call 19; rw [← HW2.out]; refine HFF.out.mono ?_; rintro r w3 ⟨rfl, rfl⟩)
        go_ret
        exact ⟨ret_i HRR.out.symm, HB2.out⟩
      · have hmj : ¬ (8 : Int) < ((M : Nat) : Int) := by omega
        have HR2 : Hid (R = G1 gs [eachErr ts (-64) 64, rangeErr rc 0 1048576, someErr L 8]) := Lib.hid (by rw [HR1.out, someOk (by omega) (by omega), G1_cons0])
        have hm : ∀ k, k < (ts.map fun n => rangeErr n (-64) 64).length → (ts.map fun n => rangeErr n (-64) 64).getD k 0 = rangeErr (ts.getD k 0) (-64) 64 := fun k hk => by
          have hk' : k < ts.length := by simpa using hk
          simp [List.getD_eq_getElem?_getD, hk']
        have HMG := Lib.hid hm
        have HML : Hid ((ts.map fun n => rangeErr n (-64) 64).length = M) := Lib.hid (by rw [List.length_map, ← HM.out])
        clear HR1 hm
        go_wp2_with (go_at_call 19; rw [← HW2.out]; refine HFF.out.mono ?_; rintro r w3 ⟨rfl, rfl⟩)
        clear HW2 HFF HF2
        rw [show (((M : Nat) : Int) == 0) = false from beq_eq_false_iff_ne.2 hmi]
        go_loop [4, 5] (fun i _ => ∃ k : Nat, k ≤ M ∧ i = (.int .i64 ((k : Nat))) ∧ ∀ j, j < k → (ts.map fun n => rangeErr n (-64) 64).getD j 0 = 0) (fun i _ => M - (intOf i).toNat)
        case atStart => exact ⟨0, Nat.zero_le _, rfl, fun j hj => by omega⟩
        case round =>
          obtain ⟨k, hk, rfl, hz⟩ := hrel
          have HZ := Lib.hid hz
          clear hz
          by_cases hlt : k < M
          · obtain ⟨b, off, rfl, hbl, hc⟩ := HT.out (by rw [← HM.out]; omega)
            have hck := (HB2.out.cell (p := ⟨b, off + k, none⟩) hbl).trans (hc k (by rw [← HM.out]; exact hlt))
            have hbl2 := Nat.lt_of_lt_of_le hbl HB2.out.size
            have HG := Lib.hid (HMG.out k (by rw [HML.out]; exact hlt))
            clear hc
            obtain ⟨x, hx⟩ : ∃ x, x = ts.getD k 0 := ⟨_, rfl⟩
            rw [← hx] at hck HG
            clear hx
            by_cases h0 : rangeErr x (-64) 64 = 0
            · have H0 := Lib.hid h0
              clear h0
              go_wp2_with (go_at_call 20; refine (qRange_any _ _ _ _).mono ?_; rw [H0.out]; rintro r w' ⟨rfl, rfl⟩)
              go_round
              case rel => exact ⟨k + 1, by omega, by go_num, fun j hj => by
                rcases Nat.lt_or_ge j k with hjk | hjk
                · exact HZ.out j hjk
                · obtain rfl : j = k := by omega
                  rw [HG.out]; exact H0.out⟩
              case measure => simp [intOf]; omega
            · obtain ⟨e, he⟩ : ∃ e, e = rangeErr x (-64) 64 := ⟨_, rfl⟩
              rw [← he] at h0 HG
              have H1 := Lib.hid he
              have H2 := Lib.hid h0
              clear he
              go_wp2_with (go_at_call 20; refine (qRange_any _ _ _ _).mono ?_; rw [← H1.out]; rintro r w' ⟨rfl, rfl⟩)
              go_ret
              exact ⟨ret_i (by
                have h3 : eachErr ts (-64) 64 = e := by unfold eachErr; rw [firstOf_take HZ.out (by rw [HML.out]; exact hlt) (by rw [HG.out]; exact H2.out), HG.out]
                rw [HR2.out, h3, G1_consN _ _ H2.out]), HB2.out⟩
          · have HR3 : Hid (R = G1 gs [rangeErr rc 0 1048576, someErr L 8]) := Lib.hid (by
              have h3 : eachErr ts (-64) 64 = 0 := firstOf_zero (fun j hj => HZ.out j (by rw [HML.out] at hj; omega))
              rw [HR2.out, h3, G1_cons0])
            clear HR2 HMG HML HZ
            by_cases hrc : rangeErr rc 0 1048576 = 0
            · have H0 := Lib.hid hrc
              have HR4 : Hid (R = G1 gs [someErr L 8]) := Lib.hid (by rw [HR3.out, hrc, G1_cons0])
              clear HR3 hrc
              by_cases hl0 : L = 0
              · have HRR : Hid (R = 12) := Lib.hid (by rw [HR4.out, some0 hl0, G1_consN _ _ (by decide)])
                have hli : ((L : Nat) : Int) = 0 := by omega
                clear HR4
                go_wp2_with (go_at_call 20; refine (qRange_any _ _ _ _).mono ?_; rw [H0.out]; rintro r w' ⟨rfl, rfl⟩)
                go_ret
                exact ⟨ret_i HRR.out.symm, HB2.out⟩
              · have hli : ¬ ((L : Nat) : Int) = 0 := by omega
                by_cases hl8 : 8 < L
                · have HRR : Hid (R = 5) := Lib.hid (by rw [HR4.out, some5 hl8, G1_consN _ _ (by decide)])
                  have hlj : (8 : Int) < ((L : Nat) : Int) := by omega
                  clear HR4
                  go_wp2_with (go_at_call 20; refine (qRange_any _ _ _ _).mono ?_; rw [H0.out]; rintro r w' ⟨rfl, rfl⟩)
                  go_ret
                  exact ⟨ret_i HRR.out.symm, HB2.out⟩
                · have hlj : ¬ (8 : Int) < ((L : Nat) : Int) := by omega
                  have HR5 : Hid (R = guardErr2 gs) := Lib.hid (by rw [HR4.out, someOk (by omega) (by omega), G1_cons0, G1_nil])
                  clear HR4
                  go_wp2_with (go_at_call 20; refine (qRange_any _ _ _ _).mono ?_; rw [H0.out]; rintro r w' ⟨rfl, rfl⟩)
                  rw [show (((L : Nat) : Int) == 0) = false from beq_eq_false_iff_ne.2 hli]
                  go_loopw [7] (fun i wr => ∃ k : Nat, k ≤ L ∧ i = (.int .i64 ((k : Nat))) ∧ (∀ j, j < k → eltG gs j = 0) ∧ Below w2.heap.size w2 wr) (fun i _ => L - (intOf i).toNat)
                  case atStart => exact ⟨0, Nat.zero_le _, rfl, fun j hj => by omega, Below.refl _ _⟩
                  case round =>
                    obtain ⟨k, hk, rfl, hz, hB⟩ := hrel
                    have HZ := Lib.hid hz
                    have hsz := hB.size
                    obtain ⟨hbc, hbf⟩ := bcell hB
                    have HB := Lib.hid (HB2.out.trans (hB.mono HB2.out.size))
                    have HBB := Lib.hid hB
                    have l0' : w.heap.size < wr.heap.size := by omega
                    have d00 := (hbc _ 0 l0).trans c00
                    have d01 := (hbc _ 1 l0).trans c01
                    have d02 := (hbc _ 2 l0).trans c02
                    have d03 := (hbc _ 3 l0).trans c03
                    have d04 := (hbc _ 4 l0).trans c04
                    clear hz hB hbc hbf
                    by_cases hlt : k < L
                    · obtain ⟨b, off, rfl, hbl, hc⟩ := HGS.out (by rw [← HL.out]; omega)
                      have hck := (HB.out.cell (p := ⟨b, off + k, none⟩) hbl).trans (hc k (by rw [← HL.out]; exact hlt))
                      have hbl2 := Nat.lt_of_lt_of_le hbl HB.out.size
                      have HC0 := Lib.hid (fun j (hj : j < L) => (HB.out.cell (p := ⟨b, off + j, none⟩) hbl).trans (hc j (by rw [← HL.out]; exact hj)))
                      clear hc
                      obtain ⟨x, hx⟩ : ∃ x, x = gs.getD k 0 := ⟨_, rfl⟩
                      rw [← hx] at hck
                      have HX := Lib.hid hx
                      clear hx
                      by_cases hx0 : rangeErr x 0 16 = 0
                      · have H0x := Lib.hid hx0
                        clear hx0
                        by_cases hk0 : k = 0
                        · subst hk0
                          rw [Nat.add_zero] at hck
                          by_cases hxz : x = 0
                          · have HE0 : Hid (eltG gs 0 = 0) := Lib.hid (by rw [eltG_zero, ← HX.out, H0x.out, if_neg (by simp [hxz]), first0])
                            subst hxz
                            go_wp2_with (go_at_call 20; refine (qRange_any _ _ _ _).mono ?_; rw [H0x.out]; rintro r w' ⟨rfl, rfl⟩)
                            go_region
                            go_wp2
                            go_roundw
                            case rel => exact ⟨1, by omega, by first | rfl | go_num, fun j hj => by
                              obtain rfl : j = 0 := by omega
                              exact HE0.out, (by first | exact HBB.out | exact HBB.out.drew)⟩
                            case measure => simp [intOf]; omega
                          · have hxb1 : (x == 0) = false := beq_eq_false_iff_ne.2 hxz
                            have hxb2 : (x != 0) = true := bne_iff_ne.2 hxz
                            have HRR : Hid (R = 11) := Lib.hid (by
                              have h3 : eltG gs 0 = 11 := by rw [eltG_zero, ← HX.out, H0x.out, if_pos hxz, first0]
                              rw [HR5.out, g2_at HZ.out (by rw [← HL.out]; exact hlt) (by rw [h3]; decide), h3])
                            go_wp2_with (go_at_call 20; refine (qRange_any _ _ _ _).mono ?_; rw [H0x.out]; rintro r w' ⟨rfl, rfl⟩)
                            go_region
                            go_wp2
                            go_ret
                            exact ⟨ret_i HRR.out.symm, (by first | exact HB.out | exact HB.out.drew)⟩
                        · have hkp : 0 < k := by omega
                          obtain ⟨m, rfl⟩ : ∃ m, k = m + 1 := ⟨k - 1, by omega⟩
                          have hck2 := HC0.out m (by omega)
                          have hkb : (((m : Nat) : Int) + 1 == 0) = false := beq_eq_false_iff_ne.2 (by omega)
                          have hkj : (0 : Int) < ((m : Nat) : Int) + 1 := by omega
                          have hk2 : ((m : Nat) : Int) + 1 < (L : Int) := by omega
                          have hk3 : ((m : Nat) : Int) < (L : Int) := by omega
                          have hmL : m < L := by omega
                          have HEE : Hid (eltG gs (m + 1) = if x ≤ gs.getD m 0 then 11 else 0) := Lib.hid (by rw [eltG_pos hkp]; unfold ascAt; rw [← HX.out, H0x.out, first0]; simp)
                          obtain ⟨y, hy⟩ : ∃ y, y = gs.getD m 0 := ⟨_, rfl⟩
                          rw [← hy] at hck2 HEE
                          clear hy
                          by_cases hxy : x ≤ y
                          · have HRR : Hid (R = 11) := Lib.hid (by
                              have h3 : eltG gs (m + 1) = 11 := by rw [HEE.out, if_pos hxy]
                              rw [HR5.out, g2_at HZ.out (by rw [← HL.out]; exact hlt) (by rw [h3]; decide), h3])
                            go_wp2_with (go_at_call 20; refine (qRange_any _ _ _ _).mono ?_; rw [H0x.out]; rintro r w' ⟨rfl, rfl⟩)
                            refine Calm.tail_below 24 (by kernel_rfl) (by kernel_rfl) ?_
                            simp only [List.take_succ_cons, List.take_zero, List.drop_succ_cons, List.drop_zero]
                            repeat (first | (apply Calm.op_move; (focus rfl); (focus (first | exact .inl rfl | exact .inr rfl)); (focus ((try simp only [Act.eval, Array.getD_eq_getD_getElem?, List.getElem?_toArray, List.getElem?_cons_succ, List.getElem?_cons_zero, Option.getD_some]); rfl)); (try simp only [Act.put, List.setIfInBounds_toArray, List.set_cons_zero, List.set_cons_succ])) | (apply Calm.op_not; (focus rfl); (try simp only [Act.put, List.setIfInBounds_toArray, List.set_cons_zero, List.set_cons_succ])) | (apply Calm.op; (focus rfl); (focus (intro W hb; obtain ⟨hc, hf⟩ := bcell hb; clear hb hf; go_simp; (try go_bits); (try rfl); done)); (try simp only [Act.put, List.setIfInBounds_toArray, List.set_cons_zero, List.set_cons_succ])))
                            refine wpQuiet_nil ?_
                            intro w5 hb5
                            obtain ⟨hb5c, hb5f⟩ := bcell hb5
                            have hb5z := hb5.size
                            (try simp at hb5z)
                            (try have hb5z0 : w.heap.size < w5.heap.size := by omega)
                            (try have hb5z1 : w.heap.size + 1 < w5.heap.size := by omega)
                            (try have hb5z2 : w.heap.size + 1 + 1 < w5.heap.size := by omega)
                            (try have hb5z3 : w.heap.size + 1 + 1 + 1 < w5.heap.size := by omega)
                            (try have hb5z4 : w.heap.size + 1 + 1 + 1 + 1 < w5.heap.size := by omega)
                            (try have hb5z5 : w.heap.size + 1 + 1 + 1 + 1 + 1 < w5.heap.size := by omega)
                            have HB5 := Lib.hid (HBB.out.trans (hb5.mono hsz))
                            go_wp2
                            go_ret
                            exact ⟨ret_i HRR.out.symm, HB2.out.trans (HB5.out.mono HB2.out.size)⟩
                          · have HE0 : Hid (eltG gs (m + 1) = 0) := Lib.hid (by rw [HEE.out, if_neg hxy])
                            go_wp2_with (go_at_call 20; refine (qRange_any _ _ _ _).mono ?_; rw [H0x.out]; rintro r w' ⟨rfl, rfl⟩)
                            refine Calm.tail_below 24 (by kernel_rfl) (by kernel_rfl) ?_
                            simp only [List.take_succ_cons, List.take_zero, List.drop_succ_cons, List.drop_zero]
                            repeat (first | (apply Calm.op_move; (focus rfl); (focus (first | exact .inl rfl | exact .inr rfl)); (focus ((try simp only [Act.eval, Array.getD_eq_getD_getElem?, List.getElem?_toArray, List.getElem?_cons_succ, List.getElem?_cons_zero, Option.getD_some]); rfl)); (try simp only [Act.put, List.setIfInBounds_toArray, List.set_cons_zero, List.set_cons_succ])) | (apply Calm.op_not; (focus rfl); (try simp only [Act.put, List.setIfInBounds_toArray, List.set_cons_zero, List.set_cons_succ])) | (apply Calm.op; (focus rfl); (focus (intro W hb; obtain ⟨hc, hf⟩ := bcell hb; clear hb hf; go_simp; (try go_bits); (try rfl); done)); (try simp only [Act.put, List.setIfInBounds_toArray, List.set_cons_zero, List.set_cons_succ])))
                            refine wpQuiet_nil ?_
                            intro w5 hb5
                            obtain ⟨hb5c, hb5f⟩ := bcell hb5
                            have hb5z := hb5.size
                            (try simp at hb5z)
                            (try have hb5z0 : w.heap.size < w5.heap.size := by omega)
                            (try have hb5z1 : w.heap.size + 1 < w5.heap.size := by omega)
                            (try have hb5z2 : w.heap.size + 1 + 1 < w5.heap.size := by omega)
                            (try have hb5z3 : w.heap.size + 1 + 1 + 1 < w5.heap.size := by omega)
                            (try have hb5z4 : w.heap.size + 1 + 1 + 1 + 1 < w5.heap.size := by omega)
                            (try have hb5z5 : w.heap.size + 1 + 1 + 1 + 1 + 1 < w5.heap.size := by omega)
                            have HB5 := Lib.hid (HBB.out.trans (hb5.mono hsz))
                            go_wp2
                            go_roundw
                            case rel => exact ⟨m + 1 + 1, by omega, by go_num, fun j hj => by
                              rcases Nat.lt_or_ge j (m + 1) with hjk | hjk
                              · exact HZ.out j hjk
                              · obtain rfl : j = m + 1 := by omega
                                exact HE0.out, HB5.out⟩
                            case measure => simp [intOf]; omega
                      · obtain ⟨e, he⟩ : ∃ e, e = rangeErr x 0 16 := ⟨_, rfl⟩
                        rw [← he] at hx0
                        have H1 := Lib.hid he
                        have HRR : Hid (R = e) := Lib.hid (by
                          have h3 : eltG gs k = e := by unfold eltG; rw [← HX.out, ← H1.out, fo_consN hx0]
                          rw [HR5.out, g2_at HZ.out (by rw [← HL.out]; exact hlt) (by rw [h3]; exact hx0), h3])
                        clear he
                        go_wp2_with (go_at_call 20; refine (qRange_any _ _ _ _).mono ?_; rw [← H1.out]; rintro r w' ⟨rfl, rfl⟩)
                        go_ret
                        exact ⟨ret_i HRR.out.symm, HB.out⟩
                    · obtain rfl : k = L := by omega
                      have HRR : Hid (R = 0) := Lib.hid (by rw [HR5.out]; exact g2_zero (fun j hj => HZ.out j (by rw [HL.out]; exact hj)) (by rw [← HL.out]; omega))
                      go_wp2
                      go_ret
                      exact ⟨ret_i HRR.out.symm, HB.out⟩
            · obtain ⟨e, he⟩ : ∃ e, e = rangeErr rc 0 1048576 := ⟨_, rfl⟩
              rw [← he] at hrc HR3
              have H1 := Lib.hid he
              have HRR : Hid (R = e) := Lib.hid (by rw [HR3.out, G1_consN _ _ hrc])
              clear he HR3
              go_wp2_with (go_at_call 20; refine (qRange_any _ _ _ _).mono ?_; rw [← H1.out]; rintro r w' ⟨rfl, rfl⟩)
              go_ret
              exact ⟨ret_i HRR.out.symm, HB2.out⟩
  · have HRR : Hid (R = E) := Lib.hid (by rw [HR0.out, G1_twoN _ _ (by rw [← HE.out]; exact h0), HE.out])
    clear HR0 HE
    go_wp2_with (go_at_call 19; rw [← HW2.out]; refine HFF.out.mono ?_; rintro r w3 ⟨rfl, rfl⟩)
    go_ret
    exact ⟨ret_i HRR.out.symm, HB2.out⟩
end Go.Proofs.YtleemphfkhbhaaaDoor
