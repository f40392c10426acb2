/- Part 11 of the texts of the claim: J3, J4, J5, J6, J7. -/
import Derived.Test.YtleemphfkhbhaaaDoorMp10
import Derived.BigRegion
import Derived.Test.YtleemphfkhbhaaaDoorMp2

/- A guard's error, number by number; a guard without error is valid. No walk. -/
namespace Go.Proofs.YtleemphfkhbhaaaDoor
open Go.RowKit

theorem fo_cons0 (l : List Int) : firstOf (0 :: l) = firstOf l := by simp [firstOf]
theorem fo_consN {a : Int} (h : a ≠ 0) (l : List Int) : firstOf (a :: l) = a := by simp [firstOf, h]
theorem fo_two (a b : Int) (l : List Int) : firstOf (a :: b :: l) = if firstOf [a, b] = 0 then firstOf l else firstOf [a, b] := by
  by_cases ha : a = 0
  · subst ha
    rw [fo_cons0, fo_cons0]
    by_cases hb : b = 0
    · subst hb; simp [firstOf]
    · rw [fo_consN hb, fo_consN hb, if_neg hb]
  · rw [fo_consN ha, fo_consN ha, if_neg ha]
/-- the error of the gain at an index. -/
def eltG (gs : List Int) (k : Nat) : Int := firstOf [rangeErr (gs.getD k 0) 0 16, if k = 0 ∧ gs.getD 0 0 ≠ 0 ∨ 0 < k ∧ gs.getD k 0 ≤ gs.getD (k - 1) 0 then 11 else 0]
theorem eltG_pos {gs : List Int} {k : Nat} (h : 0 < k) : eltG gs k = ascAt gs 0 16 k := by
  unfold eltG ascAt
  have h0 : ¬ k = 0 := by omega
  simp [h, h0]
theorem eltG_zero (gs : List Int) : eltG gs 0 = firstOf [rangeErr (gs.getD 0 0) 0 16, if gs.getD 0 0 ≠ 0 then 11 else 0] := by simp [eltG]
theorem asc0 (gs : List Int) : ascAt gs 0 16 0 = rangeErr (gs.getD 0 0) 0 16 := by
  unfold ascAt
  simp only [Nat.lt_irrefl, false_and, if_false]
  by_cases h : rangeErr (gs.getD 0 0) 0 16 = 0
  · rw [h]; simp [firstOf]
  · rw [fo_consN h]
theorem g2_split (gs : List Int) : guardErr2 gs = if eltG gs 0 = 0 then ascErr gs 0 16 else eltG gs 0 := by
  rw [eltG_zero]
  unfold guardErr2
  rw [fo_two]
  have h1 : firstOf [ascErr gs 0 16] = ascErr gs 0 16 := by
    by_cases h : ascErr gs 0 16 = 0
    · rw [h]; simp [firstOf]
    · rw [fo_consN h]
  rw [h1]
theorem elt_asc {gs : List Int} {k : Nat} (h : ∀ j, j < k → eltG gs j = 0) : ∀ j, j < k → ascAt gs 0 16 j = 0 := by
  intro j hj
  rcases Nat.eq_zero_or_pos j with rfl | h0
  · rw [asc0]
    have := h 0 hj
    rw [eltG_zero, firstOf_eq_zero] at this
    exact this _ (by simp)
  · rw [← eltG_pos h0]; exact h j hj
theorem g2_at {gs : List Int} {k : Nat} (h : ∀ j, j < k → eltG gs j = 0) (hk : k < gs.length) (hn : eltG gs k ≠ 0) : guardErr2 gs = eltG gs k := by
  rw [g2_split]
  rcases Nat.eq_zero_or_pos k with rfl | h0
  · rw [if_neg hn]
  · rw [if_pos (h 0 h0)]
    have e := asc_get gs 0 16 hk
    unfold ascErr
    rw [firstOf_take (k := k) (fun j hj => by rw [asc_get gs 0 16 (by omega)]; exact elt_asc h j hj) (by simpa using hk) (by rw [e, ← eltG_pos h0]; exact hn), e, eltG_pos h0]
theorem g2_zero {gs : List Int} (h : ∀ j, j < gs.length → eltG gs j = 0) (h0 : 0 < gs.length) : guardErr2 gs = 0 := by
  rw [g2_split, if_pos (h 0 h0)]
  exact firstOf_zero (fun j hj => by
    have hj' : j < gs.length := by simpa using hj
    rw [asc_get gs 0 16 hj']; exact elt_asc h j hj')
/-- the error, from the first number that is not yet known to be right. -/
def G1 (gs : List Int) (l : List Int) : Int := if firstOf l = 0 then guardErr2 gs else firstOf l
theorem G1_cons0 (gs l : List Int) : G1 gs (0 :: l) = G1 gs l := by unfold G1; rw [fo_cons0]
theorem G1_consN (gs l : List Int) {a : Int} (h : a ≠ 0) : G1 gs (a :: l) = a := by unfold G1; rw [fo_consN h, if_neg h]
theorem G1_two0 (gs l : List Int) {a b : Int} (h : firstOf [a, b] = 0) : G1 gs (a :: b :: l) = G1 gs l := by unfold G1; rw [fo_two, if_pos h]
theorem G1_twoN (gs l : List Int) {a b : Int} (h : firstOf [a, b] ≠ 0) : G1 gs (a :: b :: l) = firstOf [a, b] := by unfold G1; rw [fo_two, if_neg h, if_neg h]
theorem G1_nil (gs : List Int) : G1 gs [] = guardErr2 gs := by simp [G1, firstOf]
theorem some0 {n : Nat} (h : n = 0) (m : Int) : someErr (n : Int) m = 12 := by simp [someErr, firstOf, h]
theorem some5 {n : Nat} (h : 8 < n) : someErr (n : Int) 8 = 5 := by
  have h1 : ¬ ((n : Int) = 0) := by omega
  have h2 : (8 : Int) < (n : Int) := by omega
  simp only [someErr, if_neg h1, if_pos h2]
  simp [firstOf]
theorem someOk {n : Nat} (h : 0 < n) (h2 : n ≤ 8) : someErr (n : Int) 8 = 0 := by
  have h1 : ¬ ((n : Int) = 0) := by omega
  have h3 : ¬ (8 : Int) < (n : Int) := by omega
  simp only [someErr, if_neg h1, if_neg h3]
  simp [firstOf]
theorem someErr_zero {n : Nat} (h : someErr (n : Int) 8 = 0) : 1 ≤ n ∧ n ≤ 8 := by
  rcases Nat.eq_zero_or_pos n with h0 | h0
  · rw [some0 h0] at h; simp at h
  · rcases Nat.lt_or_ge 8 n with h1 | h1
    · rw [some5 h1] at h; simp at h
    · exact ⟨h0, h1⟩
theorem guard_valid {lk ht rc : Int} {ts gs : List Int} (h : guardErr lk ht rc ts gs = 0) : Valid lk ht rc ts gs := by
  unfold guardErr at h
  split at h
  · rename_i h1
    have h1 := firstOf_eq_zero.1 h1
    have h2 := firstOf_eq_zero.1 h
    have k1 := rangeErr_zero.1 (h1 (rangeErr lk 1 8) (by simp))
    have k2 := rangeErr_zero.1 (h1 (rangeErr ht 0 536870912) (by simp))
    have k3 := someErr_zero (h1 (someErr ts.length 8) (by simp))
    have k4 := eachErr_zero.1 (h1 (eachErr ts (-64) 64) (by simp))
    have k5 := rangeErr_zero.1 (h1 (rangeErr rc 0 1048576) (by simp))
    have k6 := someErr_zero (h1 (someErr gs.length 8) (by simp))
    have k7 := h2 (if gs.getD 0 0 ≠ 0 then 11 else 0) (by simp)
    have k8 := firstOf_eq_zero.1 (h2 (ascErr gs 0 16) (by simp))
    refine ⟨k1, k2, k5, k3, k4, k6, fun k => ?_, ?_⟩
    · rcases Nat.lt_or_ge k gs.length with hk | hk
      · have h3 := k8 (ascAt gs 0 16 k) (List.mem_map.2 ⟨k, by simpa using hk, rfl⟩)
        have h4 := firstOf_eq_zero.1 h3
        exact rangeErr_zero.1 (h4 _ (List.mem_cons_self ..))
      · rw [List.getD_eq_getElem?_getD, List.getElem?_eq_none hk]; simp
    · by_cases hg : gs.getD 0 0 = 0
      · exact hg
      · rw [if_pos hg] at k7; simp at k7
  · rename_i h1
    exact absurd h h1
end Go.Proofs.YtleemphfkhbhaaaDoor

/- Contract of the reference's CheckGuard: the same error. -/
namespace Go.Proofs.YtleemphfkhbhaaaDoor
open Go.RowKit
open Calm (bcell Blk)

set_option maxRecDepth 100000 in
set_option maxHeartbeats 40000000 in
theorem pGuard_any (lk ht rc : Int) (ts gs : List Int) (A1 A2 : Option Addr) (c1 c2 : Nat) (w : World) (hT0 : Cells w A1 ts) (hG0 : Cells w A2 gs) (h1 : ts.length ≤ 5000) (h2 : gs.length ≤ 5000) :
    Calls Tryd.prog 6 #[.agg #[(.int .i64 (lk)), (.int .i64 (ht)), .slice A1 ts.length c1, (.int .i64 (rc)), .slice A2 gs.length c2]] w fun r w' => r = .returned (.int .i64 (guardErr lk ht rc ts gs)) ∧ Below w.heap.size w w' := by
  have HT := Lib.hid hT0
  have HGS := Lib.hid hG0
  obtain ⟨M, hM⟩ : ∃ M, M = ts.length := ⟨_, rfl⟩
  obtain ⟨L, hL⟩ : ∃ L, L = gs.length := ⟨_, rfl⟩
  have HM := Lib.hid hM
  have HL := Lib.hid hL
  have HF2 : Hid (∀ (W : World) (a b : Int), Calls Tryd.prog 19 #[.slice (some ⟨W.heap.size, 0, none⟩) 2 2] (W.alloc (.cells #[(.int .i64 (a)), (.int .i64 (b))] 3)) fun r w' => r = .returned (.int .i64 (firstOf [a, b])) ∧ (W.alloc (.cells #[(.int .i64 (a)), (.int .i64 (b))] 3)) = w') := Lib.hid (fun W a b => qFirst_any [a, b] _ _ _ (by simp) (Cells.row (heap_new rfl)))
  obtain ⟨R, hR⟩ : ∃ R, R = guardErr lk ht rc ts gs := ⟨_, rfl⟩
  have HR0 : Hid (R = G1 gs [rangeErr lk 1 8, rangeErr ht 0 536870912, someErr M 8, eachErr ts (-64) 64, rangeErr rc 0 1048576, someErr L 8]) := Lib.hid (by rw [hR, hM, hL]; rfl)
  rw [← hR]
  rw [← hM] at h1 ⊢
  rw [← hL] at h2 ⊢
  clear hM hL hR hT0 hG0
  go_enter Tryd.func6, Tryd.ntmps6
  go_wp2
  refine Calm.tail_below 6 (by kernel_rfl) (by kernel_rfl) ?_
  simp only [List.take_succ_cons, List.take_zero, List.drop_succ_cons, List.drop_zero]
  repeat (first | (first | (apply Calm.op_move; (focus rfl); (focus (first | exact .inl rfl | exact .inr rfl)); (focus ((try simp only [Act.eval, Array.getD_eq_getD_getElem?, List.getElem?_toArray, List.getElem?_cons_succ, List.getElem?_cons_zero, Option.getD_some]); rfl)); (try simp only [Act.put, List.setIfInBounds_toArray, List.set_cons_zero, List.set_cons_succ])) | (apply Calm.op_not; (focus rfl); (try simp only [Act.put, List.setIfInBounds_toArray, List.set_cons_zero, List.set_cons_succ])) | (apply Calm.op; (focus rfl); (focus (intro W hb; obtain ⟨hc, hf⟩ := bcell hb; clear hb hf; go_simp; (try go_bits); (try rfl); done)); (try simp only [Act.put, List.setIfInBounds_toArray, List.set_cons_zero, List.set_cons_succ]))) | (apply Calm.op_call; (focus rfl); (focus (intro W hb; obtain ⟨hc, hf⟩ := bcell hb; clear hb hf; go_simp; refine ⟨?_, ?_⟩; rfl; rfl)); (focus (intro W hb; first | (go_at_call 20; exact Calm.call_same hb (qRange_any _ _ _ _)))); (try simp only [Act.put, List.setIfInBounds_toArray, List.set_cons_zero, List.set_cons_succ])))
  refine wpQuiet_nil ?_
  intro w1 hb1
  obtain ⟨hb1c, hb1f⟩ := bcell hb1
  have hb1z := hb1.size
  (try simp at hb1z)
  (try have hb1z0 : w.heap.size < w1.heap.size := by omega)
  (try have hb1z1 : w.heap.size + 1 < w1.heap.size := by omega)
  (try have hb1z2 : w.heap.size + 1 + 1 < w1.heap.size := by omega)
  (try have hb1z3 : w.heap.size + 1 + 1 + 1 < w1.heap.size := by omega)
  (try have hb1z4 : w.heap.size + 1 + 1 + 1 + 1 < w1.heap.size := by omega)
  (try have hb1z5 : w.heap.size + 1 + 1 + 1 + 1 + 1 < w1.heap.size := by omega)
  have hb1' : Below w.heap.size w w1 := Below.trans (by (repeat (first | (with_reducible exact Below.refl _ _) | ((with_reducible refine Below.setCell ?_ ?_ _); rotate_left 1; focus (first | (simp; done) | (simp; omega) | (simp at *; omega))) | ((with_reducible refine Below.alloc ?_ ?_ _); rotate_left 1; focus (first | (simp; done) | (simp; omega) | (simp at *; omega))) | (with_reducible refine Below.drew ?_) | ((with_reducible refine Calm.step (by assumption) ?_ ?_); rotate_left 1; focus (first | (simp; done) | (simp; omega) | (simp at *; omega)))))) (hb1.mono (by simp))
  have K0 : Blk w1 w.heap.size #[(.int .i64 (lk)), (.int .i64 (ht)), .slice A1 M c1, (.int .i64 (rc)), .slice A2 L c2] := Blk.below (by (repeat (first | ((with_reducible refine Blk.at_ ?_); focus (first | rfl | (simp; done) | (simp; omega))) | (with_reducible refine Blk.alloc ?_ _) | (with_reducible refine Blk.below ?_ (by with_reducible assumption)) | (with_reducible refine Blk.drew ?_)))) hb1
  obtain ⟨E, hE⟩ : ∃ E, E = firstOf [rangeErr lk 1 8, rangeErr ht 0 536870912] := ⟨_, rfl⟩
  have HE := Lib.hid hE
  obtain ⟨w2, hw2⟩ : ∃ w2, w2 = w1.alloc (.cells #[(.int .i64 (rangeErr lk 1 8)), (.int .i64 (rangeErr ht 0 536870912))] 3) := ⟨_, rfl⟩
  have HB2 : Hid (Below w.heap.size w w2) := Lib.hid (by rw [hw2]; exact hb1'.alloc hb1'.size _)
  have K2 : Blk w2 w.heap.size #[(.int .i64 (lk)), (.int .i64 (ht)), .slice A1 M c1, (.int .i64 (rc)), .slice A2 L c2] := by rw [hw2]; exact K0.alloc _
  have hF := HF2.out w1 (rangeErr lk 1 8) (rangeErr ht 0 536870912)
  rw [← hw2, ← hE] at hF
  have HW2 := Lib.hid hw2
  have HFF := Lib.hid hF
  obtain ⟨c00, c01, c02, c03, c04, l0, f0⟩ := K2.o5
  clear hb1 hb1c hb1f hb1' K0 hE hw2 hF K2
  by_cases h0 : E = 0
  · have HR1 : Hid (R = G1 gs [someErr M 8, eachErr ts (-64) 64, rangeErr rc 0 1048576, someErr L 8]) := Lib.hid (by rw [HR0.out, G1_two0 _ _ (by rw [← HE.out]; exact h0)])
    rw [h0] at HFF
    clear HR0 HE h0
    by_cases hm0 : M = 0
    · have HRR : Hid (R = 12) := Lib.hid (by rw [HR1.out, some0 hm0, G1_consN _ _ (by decide)])
      have hmi : ((M : Nat) : Int) = 0 := by omega
      clear HR1
      go_wp2_with (go_at_call 19; rw [← HW2.out]; refine HFF.out.mono ?_; rintro r w3 ⟨rfl, rfl⟩)
      go_ret
      exact ⟨ret_i HRR.out.symm, HB2.out⟩
    · have hmi : ¬ ((M : Nat) : Int) = 0 := by omega
      by_cases hm8 : 8 < M
      · have HRR : Hid (R = 5) := Lib.hid (by rw [HR1.out, some5 hm8, G1_consN _ _ (by decide)])
        have hmj : (8 : Int) < ((M : Nat) : Int) := by omega
        clear HR1
        go_wp2_with (go_at_call 19; rw [← HW2.out]; refine HFF.out.mono ?_; rintro r w3 ⟨rfl, rfl⟩)
        go_ret
        exact ⟨ret_i HRR.out.symm, HB2.out⟩
      · have hmj : ¬ (8 : Int) < ((M : Nat) : Int) := by omega
        have HR2 : Hid (R = G1 gs [eachErr ts (-64) 64, rangeErr rc 0 1048576, someErr L 8]) := Lib.hid (by rw [HR1.out, someOk (by omega) (by omega), G1_cons0])
        have hm : ∀ k, k < (ts.map fun n => rangeErr n (-64) 64).length → (ts.map fun n => rangeErr n (-64) 64).getD k 0 = rangeErr (ts.getD k 0) (-64) 64 := fun k hk => by
          have hk' : k < ts.length := by simpa using hk
          simp [List.getD_eq_getElem?_getD, hk']
        have HMG := Lib.hid hm
        have HML : Hid ((ts.map fun n => rangeErr n (-64) 64).length = M) := Lib.hid (by rw [List.length_map, ← HM.out])
        clear HR1 hm
        go_wp2_with (go_at_call 19; rw [← HW2.out]; refine HFF.out.mono ?_; rintro r w3 ⟨rfl, rfl⟩)
        clear HW2 HFF HF2
        rw [show (((M : Nat) : Int) == 0) = false from beq_eq_false_iff_ne.2 hmi]
        go_loop [4, 5] (fun i _ => ∃ k : Nat, k ≤ M ∧ i = (.int .i64 ((k : Nat))) ∧ ∀ j, j < k → (ts.map fun n => rangeErr n (-64) 64).getD j 0 = 0) (fun i _ => M - (intOf i).toNat)
        case atStart => exact ⟨0, Nat.zero_le _, rfl, fun j hj => by omega⟩
        case round =>
          obtain ⟨k, hk, rfl, hz⟩ := hrel
          have HZ := Lib.hid hz
          clear hz
          by_cases hlt : k < M
          · obtain ⟨b, off, rfl, hbl, hc⟩ := HT.out (by rw [← HM.out]; omega)
            have hck := (HB2.out.cell (p := ⟨b, off + k, none⟩) hbl).trans (hc k (by rw [← HM.out]; exact hlt))
            have hbl2 := Nat.lt_of_lt_of_le hbl HB2.out.size
            have HG := Lib.hid (HMG.out k (by rw [HML.out]; exact hlt))
            clear hc
            obtain ⟨x, hx⟩ : ∃ x, x = ts.getD k 0 := ⟨_, rfl⟩
            rw [← hx] at hck HG
            clear hx
            by_cases h0 : rangeErr x (-64) 64 = 0
            · have H0 := Lib.hid h0
              clear h0
              go_wp2_with (go_at_call 20; refine (qRange_any _ _ _ _).mono ?_; rw [H0.out]; rintro r w' ⟨rfl, rfl⟩)
              go_round
              case rel => exact ⟨k + 1, by omega, by go_num, fun j hj => by
                rcases Nat.lt_or_ge j k with hjk | hjk
                · exact HZ.out j hjk
                · obtain rfl : j = k := by omega
                  rw [HG.out]; exact H0.out⟩
              case measure => simp [intOf]; omega
            · obtain ⟨e, he⟩ : ∃ e, e = rangeErr x (-64) 64 := ⟨_, rfl⟩
              rw [← he] at h0 HG
              have H1 := Lib.hid he
              have H2 := Lib.hid h0
              clear he
              go_wp2_with (go_at_call 20; refine (qRange_any _ _ _ _).mono ?_; rw [← H1.out]; rintro r w' ⟨rfl, rfl⟩)
              go_ret
              exact ⟨ret_i (by
                have h3 : eachErr ts (-64) 64 = e := by unfold eachErr; rw [firstOf_take HZ.out (by rw [HML.out]; exact hlt) (by rw [HG.out]; exact H2.out), HG.out]
                rw [HR2.out, h3, G1_consN _ _ H2.out]), HB2.out⟩
          · have HR3 : Hid (R = G1 gs [rangeErr rc 0 1048576, someErr L 8]) := Lib.hid (by
              have h3 : eachErr ts (-64) 64 = 0 := firstOf_zero (fun j hj => HZ.out j (by rw [HML.out] at hj; omega))
              rw [HR2.out, h3, G1_cons0])
            clear HR2 HMG HML HZ
            by_cases hrc : rangeErr rc 0 1048576 = 0
            · have H0 := Lib.hid hrc
              have HR4 : Hid (R = G1 gs [someErr L 8]) := Lib.hid (by rw [HR3.out, hrc, G1_cons0])
              clear HR3 hrc
              by_cases hl0 : L = 0
              · have HRR : Hid (R = 12) := Lib.hid (by rw [HR4.out, some0 hl0, G1_consN _ _ (by decide)])
                have hli : ((L : Nat) : Int) = 0 := by omega
                clear HR4
                go_wp2_with (go_at_call 20; refine (qRange_any _ _ _ _).mono ?_; rw [H0.out]; rintro r w' ⟨rfl, rfl⟩)
                go_ret
                exact ⟨ret_i HRR.out.symm, HB2.out⟩
              · have hli : ¬ ((L : Nat) : Int) = 0 := by omega
                by_cases hl8 : 8 < L
                · have HRR : Hid (R = 5) := Lib.hid (by rw [HR4.out, some5 hl8, G1_consN _ _ (by decide)])
                  have hlj : (8 : Int) < ((L : Nat) : Int) := by omega
                  clear HR4
                  go_wp2_with (go_at_call 20; refine (qRange_any _ _ _ _).mono ?_; rw [H0.out]; rintro r w' ⟨rfl, rfl⟩)
                  go_ret
                  exact ⟨ret_i HRR.out.symm, HB2.out⟩
                · have hlj : ¬ (8 : Int) < ((L : Nat) : Int) := by omega
                  have HR5 : Hid (R = guardErr2 gs) := Lib.hid (by rw [HR4.out, someOk (by omega) (by omega), G1_cons0, G1_nil])
                  clear HR4
                  go_wp2_with (go_at_call 20; refine (qRange_any _ _ _ _).mono ?_; rw [H0.out]; rintro r w' ⟨rfl, rfl⟩)
                  rw [show (((L : Nat) : Int) == 0) = false from beq_eq_false_iff_ne.2 hli]
                  go_loopw [7] (fun i wr => ∃ k : Nat, k ≤ L ∧ i = (.int .i64 ((k : Nat))) ∧ (∀ j, j < k → eltG gs j = 0) ∧ Below w2.heap.size w2 wr) (fun i _ => L - (intOf i).toNat)
                  case atStart => exact ⟨0, Nat.zero_le _, rfl, fun j hj => by omega, Below.refl _ _⟩
                  case round =>
                    obtain ⟨k, hk, rfl, hz, hB⟩ := hrel
                    have HZ := Lib.hid hz
                    have hsz := hB.size
                    obtain ⟨hbc, hbf⟩ := bcell hB
                    have HB := Lib.hid (HB2.out.trans (hB.mono HB2.out.size))
                    have HBB := Lib.hid hB
                    have l0' : w.heap.size < wr.heap.size := by omega
                    have d00 := (hbc _ 0 l0).trans c00
                    have d01 := (hbc _ 1 l0).trans c01
                    have d02 := (hbc _ 2 l0).trans c02
                    have d03 := (hbc _ 3 l0).trans c03
                    have d04 := (hbc _ 4 l0).trans c04
                    clear hz hB hbc hbf
                    by_cases hlt : k < L
                    · obtain ⟨b, off, rfl, hbl, hc⟩ := HGS.out (by rw [← HL.out]; omega)
                      have hck := (HB.out.cell (p := ⟨b, off + k, none⟩) hbl).trans (hc k (by rw [← HL.out]; exact hlt))
                      have hbl2 := Nat.lt_of_lt_of_le hbl HB.out.size
                      have HC0 := Lib.hid (fun j (hj : j < L) => (HB.out.cell (p := ⟨b, off + j, none⟩) hbl).trans (hc j (by rw [← HL.out]; exact hj)))
                      clear hc
                      obtain ⟨x, hx⟩ : ∃ x, x = gs.getD k 0 := ⟨_, rfl⟩
                      rw [← hx] at hck
                      have HX := Lib.hid hx
                      clear hx
                      by_cases hx0 : rangeErr x 0 16 = 0
                      · have H0x := Lib.hid hx0
                        clear hx0
                        by_cases hk0 : k = 0
                        · subst hk0
                          rw [Nat.add_zero] at hck
                          by_cases hxz : x = 0
                          · have HE0 : Hid (eltG gs 0 = 0) := Lib.hid (by rw [eltG_zero, ← HX.out, H0x.out, if_neg (by simp [hxz]), first0])
                            subst hxz
                            go_wp2_with (go_at_call 20; refine (qRange_any _ _ _ _).mono ?_; rw [H0x.out]; rintro r w' ⟨rfl, rfl⟩)
                            go_region
                            go_wp2
                            go_roundw
                            case rel => exact ⟨1, by omega, by first | rfl | go_num, fun j hj => by
                              obtain rfl : j = 0 := by omega
                              exact HE0.out, (by first | exact HBB.out | exact HBB.out.drew)⟩
                            case measure => simp [intOf]; omega
                          · have hxb1 : (x == 0) = false := beq_eq_false_iff_ne.2 hxz
                            have hxb2 : (x != 0) = true := bne_iff_ne.2 hxz
                            have HRR : Hid (R = 11) := Lib.hid (by
                              have h3 : eltG gs 0 = 11 := by rw [eltG_zero, ← HX.out, H0x.out, if_pos hxz, first0]
                              rw [HR5.out, g2_at HZ.out (by rw [← HL.out]; exact hlt) (by rw [h3]; decide), h3])
                            go_wp2_with (go_at_call 20; refine (qRange_any _ _ _ _).mono ?_; rw [H0x.out]; rintro r w' ⟨rfl, rfl⟩)
                            go_region
                            go_wp2
                            go_ret
                            exact ⟨ret_i HRR.out.symm, (by first | exact HB.out | exact HB.out.drew)⟩
                        · have hkp : 0 < k := by omega
                          obtain ⟨m, rfl⟩ : ∃ m, k = m + 1 := ⟨k - 1, by omega⟩
                          have hck2 := HC0.out m (by omega)
                          have hkb : (((m : Nat) : Int) + 1 == 0) = false := beq_eq_false_iff_ne.2 (by omega)
                          have hkj : (0 : Int) < ((m : Nat) : Int) + 1 := by omega
                          have hk2 : ((m : Nat) : Int) + 1 < (L : Int) := by omega
                          have hk3 : ((m : Nat) : Int) < (L : Int) := by omega
                          have hmL : m < L := by omega
                          have HEE : Hid (eltG gs (m + 1) = if x ≤ gs.getD m 0 then 11 else 0) := Lib.hid (by rw [eltG_pos hkp]; unfold ascAt; rw [← HX.out, H0x.out, first0]; simp)
                          obtain ⟨y, hy⟩ : ∃ y, y = gs.getD m 0 := ⟨_, rfl⟩
                          rw [← hy] at hck2 HEE
                          clear hy
                          by_cases hxy : x ≤ y
                          · have HRR : Hid (R = 11) := Lib.hid (by
                              have h3 : eltG gs (m + 1) = 11 := by rw [HEE.out, if_pos hxy]
                              rw [HR5.out, g2_at HZ.out (by rw [← HL.out]; exact hlt) (by rw [h3]; decide), h3])
                            go_wp2_with (go_at_call 20; refine (qRange_any _ _ _ _).mono ?_; rw [H0x.out]; rintro r w' ⟨rfl, rfl⟩)
                            refine Calm.tail_below 24 (by kernel_rfl) (by kernel_rfl) ?_
                            simp only [List.take_succ_cons, List.take_zero, List.drop_succ_cons, List.drop_zero]
                            repeat (first | (apply Calm.op_move; (focus rfl); (focus (first | exact .inl rfl | exact .inr rfl)); (focus ((try simp only [Act.eval, Array.getD_eq_getD_getElem?, List.getElem?_toArray, List.getElem?_cons_succ, List.getElem?_cons_zero, Option.getD_some]); rfl)); (try simp only [Act.put, List.setIfInBounds_toArray, List.set_cons_zero, List.set_cons_succ])) | (apply Calm.op_not; (focus rfl); (try simp only [Act.put, List.setIfInBounds_toArray, List.set_cons_zero, List.set_cons_succ])) | (apply Calm.op; (focus rfl); (focus (intro W hb; obtain ⟨hc, hf⟩ := bcell hb; clear hb hf; go_simp; (try go_bits); (try rfl); done)); (try simp only [Act.put, List.setIfInBounds_toArray, List.set_cons_zero, List.set_cons_succ])))
                            refine wpQuiet_nil ?_
                            intro w5 hb5
                            obtain ⟨hb5c, hb5f⟩ := bcell hb5
                            have hb5z := hb5.size
                            (try simp at hb5z)
                            (try have hb5z0 : w.heap.size < w5.heap.size := by omega)
                            (try have hb5z1 : w.heap.size + 1 < w5.heap.size := by omega)
                            (try have hb5z2 : w.heap.size + 1 + 1 < w5.heap.size := by omega)
                            (try have hb5z3 : w.heap.size + 1 + 1 + 1 < w5.heap.size := by omega)
                            (try have hb5z4 : w.heap.size + 1 + 1 + 1 + 1 < w5.heap.size := by omega)
                            (try have hb5z5 : w.heap.size + 1 + 1 + 1 + 1 + 1 < w5.heap.size := by omega)
                            have HB5 := Lib.hid (HBB.out.trans (hb5.mono hsz))
                            go_wp2
                            go_ret
                            exact ⟨ret_i HRR.out.symm, HB2.out.trans (HB5.out.mono HB2.out.size)⟩
                          · have HE0 : Hid (eltG gs (m + 1) = 0) := Lib.hid (by rw [HEE.out, if_neg hxy])
                            go_wp2_with (go_at_call 20; refine (qRange_any _ _ _ _).mono ?_; rw [H0x.out]; rintro r w' ⟨rfl, rfl⟩)
                            refine Calm.tail_below 24 (by kernel_rfl) (by kernel_rfl) ?_
                            simp only [List.take_succ_cons, List.take_zero, List.drop_succ_cons, List.drop_zero]
                            repeat (first | (apply Calm.op_move; (focus rfl); (focus (first | exact .inl rfl | exact .inr rfl)); (focus ((try simp only [Act.eval, Array.getD_eq_getD_getElem?, List.getElem?_toArray, List.getElem?_cons_succ, List.getElem?_cons_zero, Option.getD_some]); rfl)); (try simp only [Act.put, List.setIfInBounds_toArray, List.set_cons_zero, List.set_cons_succ])) | (apply Calm.op_not; (focus rfl); (try simp only [Act.put, List.setIfInBounds_toArray, List.set_cons_zero, List.set_cons_succ])) | (apply Calm.op; (focus rfl); (focus (intro W hb; obtain ⟨hc, hf⟩ := bcell hb; clear hb hf; go_simp; (try go_bits); (try rfl); done)); (try simp only [Act.put, List.setIfInBounds_toArray, List.set_cons_zero, List.set_cons_succ])))
                            refine wpQuiet_nil ?_
                            intro w5 hb5
                            obtain ⟨hb5c, hb5f⟩ := bcell hb5
                            have hb5z := hb5.size
                            (try simp at hb5z)
                            (try have hb5z0 : w.heap.size < w5.heap.size := by omega)
                            (try have hb5z1 : w.heap.size + 1 < w5.heap.size := by omega)
                            (try have hb5z2 : w.heap.size + 1 + 1 < w5.heap.size := by omega)
                            (try have hb5z3 : w.heap.size + 1 + 1 + 1 < w5.heap.size := by omega)
                            (try have hb5z4 : w.heap.size + 1 + 1 + 1 + 1 < w5.heap.size := by omega)
                            (try have hb5z5 : w.heap.size + 1 + 1 + 1 + 1 + 1 < w5.heap.size := by omega)
                            have HB5 := Lib.hid (HBB.out.trans (hb5.mono hsz))
                            go_wp2
                            go_roundw
                            case rel => exact ⟨m + 1 + 1, by omega, by go_num, fun j hj => by
                              rcases Nat.lt_or_ge j (m + 1) with hjk | hjk
                              · exact HZ.out j hjk
                              · obtain rfl : j = m + 1 := by omega
                                exact HE0.out, HB5.out⟩
                            case measure => simp [intOf]; omega
                      · obtain ⟨e, he⟩ : ∃ e, e = rangeErr x 0 16 := ⟨_, rfl⟩
                        rw [← he] at hx0
                        have H1 := Lib.hid he
                        have HRR : Hid (R = e) := Lib.hid (by
                          have h3 : eltG gs k = e := by unfold eltG; rw [← HX.out, ← H1.out, fo_consN hx0]
                          rw [HR5.out, g2_at HZ.out (by rw [← HL.out]; exact hlt) (by rw [h3]; exact hx0), h3])
                        clear he
                        go_wp2_with (go_at_call 20; refine (qRange_any _ _ _ _).mono ?_; rw [← H1.out]; rintro r w' ⟨rfl, rfl⟩)
                        go_ret
                        exact ⟨ret_i HRR.out.symm, HB.out⟩
                    · obtain rfl : k = L := by omega
                      have HRR : Hid (R = 0) := Lib.hid (by rw [HR5.out]; exact g2_zero (fun j hj => HZ.out j (by rw [HL.out]; exact hj)) (by rw [← HL.out]; omega))
                      go_wp2
                      go_ret
                      exact ⟨ret_i HRR.out.symm, HB.out⟩
            · obtain ⟨e, he⟩ : ∃ e, e = rangeErr rc 0 1048576 := ⟨_, rfl⟩
              rw [← he] at hrc HR3
              have H1 := Lib.hid he
              have HRR : Hid (R = e) := Lib.hid (by rw [HR3.out, G1_consN _ _ hrc])
              clear he HR3
              go_wp2_with (go_at_call 20; refine (qRange_any _ _ _ _).mono ?_; rw [← H1.out]; rintro r w' ⟨rfl, rfl⟩)
              go_ret
              exact ⟨ret_i HRR.out.symm, HB2.out⟩
  · have HRR : Hid (R = E) := Lib.hid (by rw [HR0.out, G1_twoN _ _ (by rw [← HE.out]; exact h0), HE.out])
    clear HR0 HE
    go_wp2_with (go_at_call 19; rw [← HW2.out]; refine HFF.out.mono ?_; rintro r w3 ⟨rfl, rfl⟩)
    go_ret
    exact ⟨ret_i HRR.out.symm, HB2.out⟩
end Go.Proofs.YtleemphfkhbhaaaDoor

/- Contracts of Short and of dustGuard. -/
namespace Go.Proofs.YtleemphfkhbhaaaDoor
open Go.RowKit
open Calm (bcell Blk)

theorem cells_at {W : World} {A : Option Addr} {xs : List Int} (h : Cells W A xs) (n : Nat) (hn : n = xs.length) : 0 < n → ∃ ad, A = some ad ∧ ∀ j u, (xs.map fun z => ((.int .i64 (z)) : Value))[j]? = some u → W.cell? (ad.add j) = some u := by
  intro h0
  obtain ⟨b, off, hA, _, hc⟩ := h (by omega)
  exact ⟨_, hA, fun j u hj => cells_src hc j u hj⟩
theorem pShort_any (lk ht rc : Int) (A1 A2 : Option Addr) (M L c1 c2 : Nat) (w : World) :
    Calls Tryd.prog 5 #[.agg #[(.int .i64 (lk)), (.int .i64 (ht)), .slice A1 M c1, (.int .i64 (rc)), .slice A2 L c2]] w fun r w' => r = .returned (.bool (decide (M ≤ 9 ∧ L ≤ 9))) ∧ Below w.heap.size w w' := by
  by_cases h1 : M ≤ 9
  · have h1i : (M : Int) ≤ 9 := by omega
    by_cases h2 : L ≤ 9
    · have h2i : (L : Int) ≤ 9 := by omega
      have HE := Lib.hid (show decide (M ≤ 9 ∧ L ≤ 9) = true from decide_eq_true ⟨h1, h2⟩)
      go_enter Tryd.func5, Tryd.ntmps5
      go_wp2
      go_ret
      exact ⟨by first | rfl | (rw [HE.out]; rfl) | (simp [h2]; done), by (repeat (first | (with_reducible exact Below.refl _ _) | ((with_reducible refine Below.setCell ?_ ?_ _); rotate_left 1; focus (first | (simp; done) | (simp; omega) | (simp at *; omega))) | ((with_reducible refine Below.alloc ?_ ?_ _); rotate_left 1; focus (first | (simp; done) | (simp; omega) | (simp at *; omega))) | (with_reducible refine Below.drew ?_) | ((with_reducible refine Calm.step (by assumption) ?_ ?_); rotate_left 1; focus (first | (simp; done) | (simp; omega) | (simp at *; omega)))))⟩
    · have h2i : ¬ (L : Int) ≤ 9 := by omega
      have HE := Lib.hid (show decide (M ≤ 9 ∧ L ≤ 9) = false from decide_eq_false (fun h => h2 h.2))
      go_enter Tryd.func5, Tryd.ntmps5
      go_wp2
      go_ret
      exact ⟨by first | rfl | (rw [HE.out]; rfl) | (simp [h2]; done), by (repeat (first | (with_reducible exact Below.refl _ _) | ((with_reducible refine Below.setCell ?_ ?_ _); rotate_left 1; focus (first | (simp; done) | (simp; omega) | (simp at *; omega))) | ((with_reducible refine Below.alloc ?_ ?_ _); rotate_left 1; focus (first | (simp; done) | (simp; omega) | (simp at *; omega))) | (with_reducible refine Below.drew ?_) | ((with_reducible refine Calm.step (by assumption) ?_ ?_); rotate_left 1; focus (first | (simp; done) | (simp; omega) | (simp at *; omega)))))⟩
  · have h1i : ¬ (M : Int) ≤ 9 := by omega
    have HE := Lib.hid (show decide (M ≤ 9 ∧ L ≤ 9) = false from decide_eq_false (fun h => h1 h.1))
    go_enter Tryd.func5, Tryd.ntmps5
    go_wp2
    go_ret
    exact ⟨by first | rfl | (rw [HE.out]; rfl) | (simp [h2]; done), by (repeat (first | (with_reducible exact Below.refl _ _) | ((with_reducible refine Below.setCell ?_ ?_ _); rotate_left 1; focus (first | (simp; done) | (simp; omega) | (simp at *; omega))) | ((with_reducible refine Below.alloc ?_ ?_ _); rotate_left 1; focus (first | (simp; done) | (simp; omega) | (simp at *; omega))) | (with_reducible refine Below.drew ?_) | ((with_reducible refine Calm.step (by assumption) ?_ ?_); rotate_left 1; focus (first | (simp; done) | (simp; omega) | (simp at *; omega)))))⟩
set_option maxRecDepth 100000 in
set_option maxHeartbeats 4000000 in
theorem dustGuard_any (lk ht rc : Int) (ts gs : List Int) (A1 A2 : Option Addr) (M L c1 c2 : Nat) (w : World) (hM : M = ts.length) (hL : L = gs.length) (hT : Cells w A1 ts) (hG : Cells w A2 gs) (h1 : M ≤ 1000) (h2 : L ≤ 1000) :
    Calls Tryd.prog 13 #[.agg #[(.int .i64 (lk)), (.int .i64 (ht)), .slice A1 M c1, (.int .i64 (rc)), .slice A2 L c2]] w fun r w' => (∃ B1 d1 B2 d2, r = .returned (.agg #[(.int .i64 (lk)), (.int .i64 (ht)), .slice B1 M d1, (.int .i64 (rc)), .slice B2 L d2]) ∧ Cells w' B1 ts ∧ Cells w' B2 gs) ∧ Below w.heap.size w w' := by
  obtain ⟨i1, hi1, jz0, jz1, jz2⟩ := info_parts Tryd.infoI
  have HT := Lib.hid hT
  have HG := Lib.hid hG
  have HM := Lib.hid hM
  have HL := Lib.hid hL
  clear hT hG hM hL
  go_enter Tryd.func13, Tryd.ntmps13
  go_wp2
  refine Rel.region3 14 (by kernel_rfl) (by kernel_rfl) (by kernel_rfl) ?_
  simp only [List.take_succ_cons, List.take_zero, List.drop_succ_cons, List.drop_zero, List.filterMap_cons, List.filterMap_nil]
  iterate 4 (apply Rel.op3; (focus (first | exact Rel.gno rfl | exact Rel.gyes _ true _ rfl rfl rfl | exact Rel.gyes _ false _ rfl rfl rfl)); (focus (intro a W hb hd hbase; obtain ⟨hc, hf⟩ := bcell hb; clear hb hf; simp [Rel.deps, Rel.dep1, Rel.ons, Region.binds, Act.eval] at hd; simp only [Act.eval, List.mem_cons, List.not_mem_nil, not_or, and_imp, or_false, Array.getD_eq_getD_getElem?] at hbase; go_simp; (try go_bits); (try rfl); done)); (try simp only [List.nil_append, List.cons_append]))
  (apply Rel.empty3 3 1; (focus (first | exact Rel.gno rfl | exact Rel.gyes _ true _ rfl rfl rfl | exact Rel.gyes _ false _ rfl rfl rfl)); (focus (intro a W; go_simp; (first | done | rfl | (refine ⟨?_, ?_⟩ <;> rfl)))); (try simp only [List.nil_append, List.cons_append]))
  iterate 2 (apply Rel.op3; (focus (first | exact Rel.gno rfl | exact Rel.gyes _ true _ rfl rfl rfl | exact Rel.gyes _ false _ rfl rfl rfl)); (focus (intro a W hb hd hbase; obtain ⟨hc, hf⟩ := bcell hb; clear hb hf; simp [Rel.deps, Rel.dep1, Rel.ons, Region.binds, Act.eval] at hd; simp only [Act.eval, List.mem_cons, List.not_mem_nil, not_or, and_imp, or_false, Array.getD_eq_getD_getElem?] at hbase; go_simp; (try go_bits); (try rfl); done)); (try simp only [List.nil_append, List.cons_append]))
  refine Rel.app3 (.tmp 7) (.tmp 9) 22 rfl 3 i1 _ 1 8 Tryd.underlying22 hi1 jz0 jz1 jz2 rfl (by decide) M (ts.map fun z => (.int .i64 (z))) (by rw [List.length_map, HM.out, Nat.mul_one]) (by intro u hu; obtain ⟨z, _, rfl⟩ := List.mem_map.1 hu; rfl) (by unfold maxLen; omega) (by omega) (Rel.gno rfl) ?_ ?_
  · intro a W hb hd hbase
    simp [Rel.deps, Rel.dep1, Rel.ons, Region.binds] at hd
    obtain ⟨hs, hx⟩ := hd
    exact ⟨⟨_, rfl, by simpa using hs⟩, _, _, hx, cells_at (HT.out.below (Below.trans (by (repeat (first | (with_reducible exact Below.refl _ _) | ((with_reducible refine Below.setCell ?_ ?_ _); rotate_left 1; focus (first | (simp; done) | (simp; omega) | (simp at *; omega))) | ((with_reducible refine Below.alloc ?_ ?_ _); rotate_left 1; focus (first | (simp; done) | (simp; omega) | (simp at *; omega))) | (with_reducible refine Below.drew ?_) | ((with_reducible refine Calm.step (by assumption) ?_ ?_); rotate_left 1; focus (first | (simp; done) | (simp; omega) | (simp at *; omega)))))) (hb.mono (by simp <;> omega)))) M HM.out⟩
  (try simp only [List.nil_append, List.cons_append])
  iterate 2 (apply Rel.op3; (focus (first | exact Rel.gno rfl | exact Rel.gyes _ true _ rfl rfl rfl | exact Rel.gyes _ false _ rfl rfl rfl)); (focus (intro a W hb hd hbase; obtain ⟨hc, hf⟩ := bcell hb; clear hb hf; simp [Rel.deps, Rel.dep1, Rel.ons, Region.binds, Act.eval] at hd; simp only [Act.eval, List.mem_cons, List.not_mem_nil, not_or, and_imp, or_false, Array.getD_eq_getD_getElem?] at hbase; go_simp; (try go_bits); (try rfl); done)); (try simp only [List.nil_append, List.cons_append]))
  (apply Rel.empty3 3 1; (focus (first | exact Rel.gno rfl | exact Rel.gyes _ true _ rfl rfl rfl | exact Rel.gyes _ false _ rfl rfl rfl)); (focus (intro a W; go_simp; (first | done | rfl | (refine ⟨?_, ?_⟩ <;> rfl)))); (try simp only [List.nil_append, List.cons_append]))
  iterate 2 (apply Rel.op3; (focus (first | exact Rel.gno rfl | exact Rel.gyes _ true _ rfl rfl rfl | exact Rel.gyes _ false _ rfl rfl rfl)); (focus (intro a W hb hd hbase; obtain ⟨hc, hf⟩ := bcell hb; clear hb hf; simp [Rel.deps, Rel.dep1, Rel.ons, Region.binds, Act.eval] at hd; simp only [Act.eval, List.mem_cons, List.not_mem_nil, not_or, and_imp, or_false, Array.getD_eq_getD_getElem?] at hbase; go_simp; (try go_bits); (try rfl); done)); (try simp only [List.nil_append, List.cons_append]))
  refine Rel.app3 (.tmp 13) (.tmp 15) 22 rfl 3 i1 _ 1 8 Tryd.underlying22 hi1 jz0 jz1 jz2 rfl (by decide) L (gs.map fun z => (.int .i64 (z))) (by rw [List.length_map, HL.out, Nat.mul_one]) (by intro u hu; obtain ⟨z, _, rfl⟩ := List.mem_map.1 hu; rfl) (by unfold maxLen; omega) (by omega) (Rel.gno rfl) ?_ ?_
  · intro a W hb hd hbase
    simp [Rel.deps, Rel.dep1, Rel.ons, Region.binds] at hd
    obtain ⟨hs, hx, _⟩ := hd
    exact ⟨⟨_, rfl, by simpa using hs⟩, _, _, hx, cells_at (HG.out.below (Below.trans (by (repeat (first | (with_reducible exact Below.refl _ _) | ((with_reducible refine Below.setCell ?_ ?_ _); rotate_left 1; focus (first | (simp; done) | (simp; omega) | (simp at *; omega))) | ((with_reducible refine Below.alloc ?_ ?_ _); rotate_left 1; focus (first | (simp; done) | (simp; omega) | (simp at *; omega))) | (with_reducible refine Below.drew ?_) | ((with_reducible refine Calm.step (by assumption) ?_ ?_); rotate_left 1; focus (first | (simp; done) | (simp; omega) | (simp at *; omega)))))) (hb.mono (by simp <;> omega)))) L HL.out⟩
  (try simp only [List.nil_append, List.cons_append])
  refine Rel.done3 ?_
  intro xx w8 h8 hx
  simp only [Rel.facts, Nat.zero_add, Nat.reduceAdd] at hx
  obtain ⟨e0, e1, e2, e3, em4, e5, e6, o7, e8, e9, em10, e11, e12, o13, _⟩ := hx
  obtain ⟨B1, d1, e7, hf1, hc1⟩ := own_ints o7 HM.out
  obtain ⟨B2, d2, e13, hf2, hc2⟩ := own_ints o13 HL.out
  simp only [World.size_alloc] at hf1 hf2
  simp only [Rel.fill, Nat.zero_add, Nat.reduceAdd, e0, e1, e2, e3, e5, e6, e7, e8, e9, e11, e12, e13]
  simp only [Act.put, List.setIfInBounds_toArray, List.set_cons_zero, List.set_cons_succ]
  have HB8 := Lib.hid (show Below w.heap.size w w8 from Below.trans (by (repeat (first | (with_reducible exact Below.refl _ _) | ((with_reducible refine Below.setCell ?_ ?_ _); rotate_left 1; focus (first | (simp; done) | (simp; omega) | (simp at *; omega))) | ((with_reducible refine Below.alloc ?_ ?_ _); rotate_left 1; focus (first | (simp; done) | (simp; omega) | (simp at *; omega))) | (with_reducible refine Below.drew ?_) | ((with_reducible refine Calm.step (by assumption) ?_ ?_); rotate_left 1; focus (first | (simp; done) | (simp; omega) | (simp at *; omega)))))) (h8.mono (by simp <;> omega)))
  have K8 : Blk w8 (w.heap.size + 1) #[(.int .i64 (0)), (.int .i64 (0)), .slice none 0 0, (.int .i64 (0)), .slice none 0 0] := Blk.below (by (repeat (first | ((with_reducible refine Blk.at_ ?_); focus (first | rfl | (simp; done) | (simp; omega))) | (with_reducible refine Blk.alloc ?_ _) | (with_reducible refine Blk.below ?_ (by with_reducible assumption)) | (with_reducible refine Blk.drew ?_)))) h8
  obtain ⟨c0, c1', c2', c3, c4, cl, cf⟩ := K8.o5
  have HK8 := Lib.hid K8
  have HC1 := Lib.hid hc1
  have HC2 := Lib.hid hc2
  clear e0 e1 e2 e3 em4 e5 e6 o7 e8 e9 em10 e11 e12 o13 e7 e13 h8 K8 hc1 hc2
  go_wp2
  have hn1 : 0 < ts.length → ∀ p, B1 = some p → p.block ≠ w.heap.size + 1 := fun _ p e => by have := hf1 p e; omega
  have hn2 : 0 < gs.length → ∀ p, B2 = some p → p.block ≠ w.heap.size + 1 := fun _ p e => by have := hf2 p e; omega
  exact bodyPost_ret (v := .agg #[(.int .i64 (lk)), (.int .i64 (ht)), .slice B1 M d1, (.int .i64 (rc)), .slice B2 L d2]) (by simp [results, Tryd.results13, go_sem, *]) rfl
    ⟨⟨B1, d1, B2, d2, rfl, ((((HC1.out.sets hn1 _ _).sets hn1 _ _).sets hn1 _ _).sets hn1 _ _).sets hn1 _ _, ((((HC2.out.sets hn2 _ _).sets hn2 _ _).sets hn2 _ _).sets hn2 _ _).sets hn2 _ _⟩,
      ((((HB8.out.setCell (by simp <;> omega) _).setCell (by simp <;> omega) _).setCell (by simp <;> omega) _).setCell (by simp <;> omega) _).setCell (by simp <;> omega) _⟩
end Go.Proofs.YtleemphfkhbhaaaDoor

/- Contract of dustAmp: its three examples hold. -/
namespace Go.Proofs.YtleemphfkhbhaaaDoor
open Go.RowKit
open Calm (bcell Blk)

theorem blk_cells {w : World} {g : Nat} {zs : List Int} (h : Blk w g (zs.map (Value.int .i64)).toArray) : Cells w (some ⟨g, 0, none⟩) zs := fun _ =>
  ⟨g, 0, rfl, h.lt, fun k hk => by
    rw [Nat.zero_add]
    refine h.cell k _ ?_
    rw [List.getElem?_toArray, List.getElem?_map, List.getD_eq_getElem?_getD, List.getElem?_eq_getElem hk]
    rfl⟩
set_option maxRecDepth 100000 in
set_option maxHeartbeats 4000000 in
theorem dustAmp_any (w : World) (hL : Lim w) : Calls Tryd.prog 9 #[] w fun r w' => r = .returned (.bool true) ∧ Below w.heap.size w w' := by
  have hV : Valid 1 100 20 [1, 2] [0, 16] := guard_valid (by decide)
  have HRUN : Hid (∀ (A1 A2 A3 : Option Addr) (c1 c2 c3 : Nat) (W : World), Lim W → Cells W A1 [1, 2] → Cells W A2 [0, 16] → Cells W A3 [6, 12, 6] → Calls Tryd.prog 12 #[.agg #[(.int .i64 (1)), (.int .i64 (100)), .slice A1 2 c1, (.int .i64 (20)), .slice A2 2 c2], .slice A3 3 c3] W fun r w' => (∃ B d, r = .returned (.tuple #[.slice B 3 d, (.int .i64 (0))]) ∧ Cells w' B [6, 0, 6]) ∧ Below W.heap.size W w') := Lib.hid (fun A1 A2 A3 c1 c2 c3 W q0 q1 q2 q3 => by
    have := run_ok 1 100 20 [1, 2] [0, 16] [6, 12, 6] A1 A2 A3 c1 c2 c3 W q0 hV q1 q2 q3 (by unfold inB; decide) (by simp) (by simp) (by simp) (by decide)
    rwa [show ([6, 12, 6] : List Int).length = 3 from rfl, show outsK 1 100 20 [1, 2] [0, 16] [6, 12, 6] 3 = [6, 0, 6] by decide] at this)
  have HSEC : Hid (∀ (A : Option Addr) (c : Nat) (W : World), Cells W A [6, 0, 6] → Calls Tryd.prog 15 #[.agg #[(.int .i64 (1)), (.int .i64 (2)), (.int .i64 (0)), (.int .i64 (0)), (.int .i64 (0)), (.int .i64 (0))], .slice A 3 c] W fun r w' => (∃ B d, r = .returned (.tuple #[.slice B 3 d, (.int .i64 (0))]) ∧ Cells w' B [6, 12, 6]) ∧ Below W.heap.size W w') := Lib.hid (fun A c W q => by
    have := Run_ok 1 2 0 0 0 0 [6, 0, 6] A c W (by unfold bd15; decide) (by unfold bd15; decide) (by unfold bd15; decide) (by unfold bd15; decide) (by unfold bd15; decide) (by decide) (by unfold inB; decide) (by simp) q (by decide) (by decide)
    refine this.mono ?_
    rintro r w' ⟨⟨B, d, h1, h2, h3⟩, hb⟩
    exact ⟨⟨B, d, h1, by rwa [show ([6, 0, 6] : List Int).length = 3 from rfl, show soK 1 2 0 0 0 0 (0, 0, 0, 0) [6, 0, 6] 3 = [6, 12, 6] by decide] at h3⟩, hb⟩)
  have HPK : Hid (∀ (A1 A2 A3 : Option Addr) (c1 c2 c3 : Nat) (W : World), Cells W A1 [1, 2] → Cells W A2 [0, 16] → Cells W A3 [6, 0, 6] → Calls Tryd.prog 16 #[.agg #[(.int .i64 (1)), (.int .i64 (100)), .slice A1 2 c1, (.int .i64 (20)), .slice A2 2 c2], .slice A3 3 c3] W fun r w' => r = .returned (.tuple #[.agg #[(.int .i64 (45)), (.int .i64 (12))], (.int .i64 (0))]) ∧ Below W.heap.size W w') := Lib.hid (fun A1 A2 A3 c1 c2 c3 W q1 q2 q3 => by
    have := peaks_ok 1 100 20 [1, 2] [0, 16] [6, 0, 6] A1 A2 A3 c1 c2 c3 W hV q1 q2 q3 (by unfold inB; decide) (by simp) (by simp) (by simp) (by decide)
    rwa [show ([6, 0, 6] : List Int).length = 3 from rfl, show pkH 1 [6, 0, 6] 3 = 45 by decide, show pkX [1, 2] [6, 0, 6] 3 = 12 by decide] at this)
  have HSM : Hid (∀ (A B : Option Addr) (ca cb : Nat) (zs : List Int) (W : World), zs.length = 3 → Cells W A zs → Cells W B zs → Calls Tryd.prog 22 #[.slice A 3 ca, .slice B 3 cb] W fun x w' => x = .returned (.bool true) ∧ Below W.heap.size W w') := Lib.hid (fun A B ca cb zs W h3 q1 q2 => by
    have := sameInts_any A B zs zs ca cb W q1 q2 (by omega) (by omega)
    rw [h3] at this
    simpa using this)
  have HL := Lib.hid hL
  clear hV hL
  go_enter Tryd.func9, Tryd.ntmps9
  go_wp2_with (go_at_call 12; refine (HRUN.out _ _ _ _ _ _ _ (HL.out.below (by (repeat (first | (with_reducible exact Below.refl _ _) | ((with_reducible refine Below.setCell ?_ ?_ _); rotate_left 1; focus (first | (simp; done) | (simp; omega) | (simp at *; omega))) | ((with_reducible refine Below.alloc ?_ ?_ _); rotate_left 1; focus (first | (simp; done) | (simp; omega) | (simp at *; omega))) | (with_reducible refine Below.drew ?_) | ((with_reducible refine Calm.step (by assumption) ?_ ?_); rotate_left 1; focus (first | (simp; done) | (simp; omega) | (simp at *; omega))))))) (blk_cells (zs := [1, 2]) (show Blk _ _ #[(.int .i64 (1)), (.int .i64 (2))] by (repeat (first | ((with_reducible refine Blk.at_ ?_); focus (first | rfl | (simp; done) | (simp; omega))) | (with_reducible refine Blk.alloc ?_ _) | (with_reducible refine Blk.below ?_ (by with_reducible assumption)) | (with_reducible refine Blk.drew ?_))))) (blk_cells (zs := [0, 16]) (show Blk _ _ #[(.int .i64 (0)), (.int .i64 (16))] by (repeat (first | ((with_reducible refine Blk.at_ ?_); focus (first | rfl | (simp; done) | (simp; omega))) | (with_reducible refine Blk.alloc ?_ _) | (with_reducible refine Blk.below ?_ (by with_reducible assumption)) | (with_reducible refine Blk.drew ?_))))) (blk_cells (zs := [6, 12, 6]) (show Blk _ _ #[(.int .i64 (6)), (.int .i64 (12)), (.int .i64 (6))] by (repeat (first | ((with_reducible refine Blk.at_ ?_); focus (first | rfl | (simp; done) | (simp; omega))) | (with_reducible refine Blk.alloc ?_ _) | (with_reducible refine Blk.below ?_ (by with_reducible assumption)) | (with_reducible refine Blk.drew ?_)))))).mono ?_; rintro r w1 ⟨⟨B, d, rfl, hc1⟩, hb1⟩; have HC1 := Lib.hid hc1; have HB1 := Lib.hid (show Below w.heap.size w w1 from Below.trans (by (repeat (first | (with_reducible exact Below.refl _ _) | ((with_reducible refine Below.setCell ?_ ?_ _); rotate_left 1; focus (first | (simp; done) | (simp; omega) | (simp at *; omega))) | ((with_reducible refine Below.alloc ?_ ?_ _); rotate_left 1; focus (first | (simp; done) | (simp; omega) | (simp at *; omega))) | (with_reducible refine Below.drew ?_) | ((with_reducible refine Calm.step (by assumption) ?_ ?_); rotate_left 1; focus (first | (simp; done) | (simp; omega) | (simp at *; omega)))))) (hb1.mono (by simp; omega))); have KA := Lib.hid (show Blk w1 w.heap.size #[(.int .i64 (1)), (.int .i64 (2))] from Blk.below (by (repeat (first | ((with_reducible refine Blk.at_ ?_); focus (first | rfl | (simp; done) | (simp; omega))) | (with_reducible refine Blk.alloc ?_ _) | (with_reducible refine Blk.below ?_ (by with_reducible assumption)) | (with_reducible refine Blk.drew ?_)))) hb1); have KB := Lib.hid (show Blk w1 (w.heap.size + 1) #[(.int .i64 (0)), (.int .i64 (16))] from Blk.below (by (repeat (first | ((with_reducible refine Blk.at_ ?_); focus (first | rfl | (simp; done) | (simp; omega))) | (with_reducible refine Blk.alloc ?_ _) | (with_reducible refine Blk.below ?_ (by with_reducible assumption)) | (with_reducible refine Blk.drew ?_)))) hb1); have KG := Lib.hid (show Blk w1 (w.heap.size + 1 + 1) #[(.int .i64 (1)), (.int .i64 (100)), .slice (some ⟨w.heap.size, 0, none⟩) 2 2, (.int .i64 (20)), .slice (some ⟨w.heap.size + 1, 0, none⟩) 2 2] from Blk.below (by (repeat (first | ((with_reducible refine Blk.at_ ?_); focus (first | rfl | (simp; done) | (simp; omega))) | (with_reducible refine Blk.alloc ?_ _) | (with_reducible refine Blk.below ?_ (by with_reducible assumption)) | (with_reducible refine Blk.drew ?_)))) hb1); clear hb1 hc1; refine Hid.out ?_)
  obtain ⟨g0, g1, g2, g3, g4, gl, gf⟩ := KG.out.o5
  unfold Hid
  go_wp2_with (go_at_call 15; refine (HSEC.out _ _ _ (blk_cells (zs := [6, 0, 6]) (show Blk _ _ #[(.int .i64 (6)), (.int .i64 (0)), (.int .i64 (6))] by (repeat (first | ((with_reducible refine Blk.at_ ?_); focus (first | rfl | (simp; done) | (simp; omega))) | (with_reducible refine Blk.alloc ?_ _) | (with_reducible refine Blk.below ?_ (by with_reducible assumption)) | (with_reducible refine Blk.drew ?_)))))).mono ?_; rintro r w2 ⟨⟨B2, d2, rfl, hc2⟩, hb2⟩; have HC2 := Lib.hid hc2; have hs2 := hb2.size; have hb12 : Below w1.heap.size w1 w2 := Below.trans (by (repeat (first | (with_reducible exact Below.refl _ _) | ((with_reducible refine Below.setCell ?_ ?_ _); rotate_left 1; focus (first | (simp; done) | (simp; omega) | (simp at *; omega))) | ((with_reducible refine Below.alloc ?_ ?_ _); rotate_left 1; focus (first | (simp; done) | (simp; omega) | (simp at *; omega))) | (with_reducible refine Below.drew ?_) | ((with_reducible refine Calm.step (by assumption) ?_ ?_); rotate_left 1; focus (first | (simp; done) | (simp; omega) | (simp at *; omega)))))) (hb2.mono (by simp)); have HB2 := Lib.hid (HB1.out.trans (hb12.mono HB1.out.size)); have HC1' := Lib.hid (HC1.out.below hb12); have KA2 := Lib.hid (KA.out.below hb12); have KB2 := Lib.hid (KB.out.below hb12); have KG2 := Lib.hid (KG.out.below hb12); clear hb2 hc2 hb12 g0 g1 g2 g3 g4 gl gf; refine Hid.out ?_)
  clear KA KB KG HC1
  obtain ⟨g0, g1, g2, g3, g4, gl, gf⟩ := KG2.out.o5
  unfold Hid
  go_wp2_with (go_at_call 16; refine (HPK.out _ _ _ _ _ _ _ (blk_cells (zs := [1, 2]) (show Blk _ _ #[(.int .i64 (1)), (.int .i64 (2))] from KA2.out.alloc _)) (blk_cells (zs := [0, 16]) (show Blk _ _ #[(.int .i64 (0)), (.int .i64 (16))] from KB2.out.alloc _)) (blk_cells (zs := [6, 0, 6]) (show Blk _ _ #[(.int .i64 (6)), (.int .i64 (0)), (.int .i64 (6))] by (repeat (first | ((with_reducible refine Blk.at_ ?_); focus (first | rfl | (simp; done) | (simp; omega))) | (with_reducible refine Blk.alloc ?_ _) | (with_reducible refine Blk.below ?_ (by with_reducible assumption)) | (with_reducible refine Blk.drew ?_)))))).mono ?_; rintro r w3 ⟨rfl, hb3⟩; have hb13 : Below w2.heap.size w2 w3 := Below.trans (by (repeat (first | (with_reducible exact Below.refl _ _) | ((with_reducible refine Below.setCell ?_ ?_ _); rotate_left 1; focus (first | (simp; done) | (simp; omega) | (simp at *; omega))) | ((with_reducible refine Below.alloc ?_ ?_ _); rotate_left 1; focus (first | (simp; done) | (simp; omega) | (simp at *; omega))) | (with_reducible refine Below.drew ?_) | ((with_reducible refine Calm.step (by assumption) ?_ ?_); rotate_left 1; focus (first | (simp; done) | (simp; omega) | (simp at *; omega)))))) (hb3.mono (by simp)); have HB3 := Lib.hid (HB2.out.trans (hb13.mono HB2.out.size)); have HC13 := Lib.hid (HC1'.out.below hb13); have HC23 := Lib.hid (HC2.out.below hb13); clear hb3 hb13 g0 g1 g2 g3 g4 gl gf; refine Hid.out ?_)
  clear KA2 KB2 KG2 HC1' HC2
  unfold Hid
  have hz3 : w.heap.size ≤ w3.heap.size := HB3.out.size
  go_wp2_with (go_at_call 22; refine (HSM.out _ _ _ _ [6, 0, 6] _ rfl (HC13.out.below (by (repeat (first | (with_reducible exact Below.refl _ _) | ((with_reducible refine Below.setCell ?_ ?_ _); rotate_left 1; focus (first | (simp; done) | (simp; omega) | (simp at *; omega))) | ((with_reducible refine Below.alloc ?_ ?_ _); rotate_left 1; focus (first | (simp; done) | (simp; omega) | (simp at *; omega))) | (with_reducible refine Below.drew ?_) | ((with_reducible refine Calm.step (by assumption) ?_ ?_); rotate_left 1; focus (first | (simp; done) | (simp; omega) | (simp at *; omega))))))) (blk_cells (zs := [6, 0, 6]) (show Blk _ _ #[(.int .i64 (6)), (.int .i64 (0)), (.int .i64 (6))] by (repeat (first | ((with_reducible refine Blk.at_ ?_); focus (first | rfl | (simp; done) | (simp; omega))) | (with_reducible refine Blk.alloc ?_ _) | (with_reducible refine Blk.below ?_ (by with_reducible assumption)) | (with_reducible refine Blk.drew ?_)))))).mono ?_; rintro r w4 ⟨rfl, hb4⟩; have hb34 : Below w3.heap.size w3 w4 := Below.trans (by (repeat (first | (with_reducible exact Below.refl _ _) | ((with_reducible refine Below.setCell ?_ ?_ _); rotate_left 1; focus (first | (simp; done) | (simp; omega) | (simp at *; omega))) | ((with_reducible refine Below.alloc ?_ ?_ _); rotate_left 1; focus (first | (simp; done) | (simp; omega) | (simp at *; omega))) | (with_reducible refine Below.drew ?_) | ((with_reducible refine Calm.step (by assumption) ?_ ?_); rotate_left 1; focus (first | (simp; done) | (simp; omega) | (simp at *; omega)))))) (hb4.mono (by simp; omega)); have HB4 := Lib.hid (HB3.out.trans (hb34.mono HB3.out.size)); have HC24 := Lib.hid (HC23.out.below hb34); have KP := Lib.hid (show Blk w4 w3.heap.size #[(.int .i64 (45)), (.int .i64 (12))] from Blk.below (by (repeat (first | ((with_reducible refine Blk.at_ ?_); focus (first | rfl | (simp; done) | (simp; omega))) | (with_reducible refine Blk.alloc ?_ _) | (with_reducible refine Blk.below ?_ (by with_reducible assumption)) | (with_reducible refine Blk.drew ?_)))) hb4); clear hb34 hb4; refine Hid.out ?_)
  unfold Hid
  obtain ⟨p0, p1, pl, pf⟩ := KP.out.o2
  have hz4 : w.heap.size ≤ w4.heap.size := HB4.out.size
  go_wp2_with (go_at_call 22; refine (HSM.out _ _ _ _ [6, 12, 6] _ rfl (HC24.out.below (by (repeat (first | (with_reducible exact Below.refl _ _) | ((with_reducible refine Below.setCell ?_ ?_ _); rotate_left 1; focus (first | (simp; done) | (simp; omega) | (simp at *; omega))) | ((with_reducible refine Below.alloc ?_ ?_ _); rotate_left 1; focus (first | (simp; done) | (simp; omega) | (simp at *; omega))) | (with_reducible refine Below.drew ?_) | ((with_reducible refine Calm.step (by assumption) ?_ ?_); rotate_left 1; focus (first | (simp; done) | (simp; omega) | (simp at *; omega))))))) (blk_cells (zs := [6, 12, 6]) (show Blk _ _ #[(.int .i64 (6)), (.int .i64 (12)), (.int .i64 (6))] by (repeat (first | ((with_reducible refine Blk.at_ ?_); focus (first | rfl | (simp; done) | (simp; omega))) | (with_reducible refine Blk.alloc ?_ _) | (with_reducible refine Blk.below ?_ (by with_reducible assumption)) | (with_reducible refine Blk.drew ?_)))))).mono ?_; rintro r w5 ⟨rfl, hb5⟩; have hb45 : Below w4.heap.size w4 w5 := Below.trans (by (repeat (first | (with_reducible exact Below.refl _ _) | ((with_reducible refine Below.setCell ?_ ?_ _); rotate_left 1; focus (first | (simp; done) | (simp; omega) | (simp at *; omega))) | ((with_reducible refine Below.alloc ?_ ?_ _); rotate_left 1; focus (first | (simp; done) | (simp; omega) | (simp at *; omega))) | (with_reducible refine Below.drew ?_) | ((with_reducible refine Calm.step (by assumption) ?_ ?_); rotate_left 1; focus (first | (simp; done) | (simp; omega) | (simp at *; omega)))))) (hb5.mono (by simp)); have HB5 := Lib.hid (HB4.out.trans (hb45.mono HB4.out.size)); have KP5 := Lib.hid (KP.out.below hb45); clear hb45 hb5 p0 p1 pl pf; refine Hid.out ?_)
  unfold Hid
  obtain ⟨p0, p1, pl, pf⟩ := KP5.out.o2
  go_wp2
  go_ret
  exact ⟨rfl, HB5.out⟩
end Go.Proofs.YtleemphfkhbhaaaDoor

/- What TopDustPlayed says, as plain laws: outputs keep all limits; a section with the tails as taps gives the excursions; halves warm no more. No walk. -/
namespace Go.Proofs.YtleemphfkhbhaaaDoor
open Go.RowKit

theorem outsK_get {lk ht rc : Int} {ts gs xs : List Int} {n k : Nat} (h : k < n) : (outsK lk ht rc ts gs xs n).getD k 0 = outAt lk ht rc ts gs xs k := by
  simp [outsK, List.getD_eq_getElem?_getD, h]
theorem state_eq (lk ht rc : Int) (ts gs xs : List Int) (n : Nat) : ∀ k, k ≤ n → bhAt lk (outsK lk ht rc ts gs xs n) k = (stAt lk ht rc ts gs xs k).h ∧ bpAt (ts.length - 1) (outsK lk ht rc ts gs xs n) k = (stAt lk ht rc ts gs xs k).ps
  | 0, _ => ⟨rfl, rfl⟩
  | k + 1, h => by
    obtain ⟨h1, h2⟩ := state_eq lk ht rc ts gs xs n k (by omega)
    have h3 := outsK_get (lk := lk) (ht := ht) (rc := rc) (ts := ts) (gs := gs) (xs := xs) (show k < n by omega)
    exact ⟨by simp only [bhAt]; rw [h1, h3]; rfl, by simp only [bpAt]; rw [h2, h3]; rfl⟩
theorem outs_safe {lk ht rc : Int} {ts gs xs : List Int} (hV : Valid lk ht rc ts gs) (hx : inB 2048 xs) {n k : Nat} (hk : k < n) :
    bhAt lk (outsK lk ht rc ts gs xs n) (k + 1) ≤ ht ∧ absI (exAt ts (outsK lk ht rc ts gs xs n) k) ≤ rc := by
  have hg := step_good hV (good_at hV hx k) (inB_get hx (by omega) k)
  refine ⟨?_, ?_⟩
  · rw [(state_eq lk ht rc ts gs xs n (k + 1) (by omega)).1]
    exact (good_at hV hx (k + 1)).h.2
  · unfold exAt
    rw [(state_eq lk ht rc ts gs xs n k (by omega)).2, outsK_get hk]
    exact hg.2.2.1
theorem outs_in {lk ht rc : Int} {ts gs xs : List Int} (hV : Valid lk ht rc ts gs) (hx : inB 2048 xs) (n : Nat) : inB 2048 (outsK lk ht rc ts gs xs n) := by
  intro y hy
  simp only [outsK, List.mem_map] at hy
  obtain ⟨k, _, rfl⟩ := hy
  exact (step_good hV (good_at hV hx k) (inB_get hx (by omega) k)).2.1
theorem pkH_le {lk ht : Int} {ys : List Int} (h0 : 0 ≤ ht) : ∀ n, (∀ k, k < n → bhAt lk ys (k + 1) ≤ ht) → pkH lk ys n ≤ ht
  | 0, _ => h0
  | n + 1, h => by
    have h1 := pkH_le h0 n (fun k hk => h k (by omega))
    have h2 := h n (by omega)
    simp only [pkH, mx_eq]
    omega
theorem pkX_le {rc : Int} {ts ys : List Int} (h0 : 0 ≤ rc) : ∀ n, (∀ k, k < n → absI (exAt ts ys k) ≤ rc) → pkX ts ys n ≤ rc
  | 0, _ => h0
  | n + 1, h => by
    have h1 := pkX_le h0 n (fun k hk => h k (by omega))
    have h2 := h n (by omega)
    simp only [pkX, mx_eq]
    omega
/-- cooling keeps the order of heats. -/
theorem coolF_mono (lk : Int) {a b : Int} (h : a ≤ b) : coolF lk a ≤ coolF lk b := by
  unfold coolF
  have hd : (0 : Int) < 2 ^ lk.toNat := Int.pow_pos (by decide)
  obtain ⟨d, hd2⟩ : ∃ d : Int, d = 2 ^ lk.toNat := ⟨_, rfl⟩
  rw [← hd2] at hd ⊢
  obtain ⟨s, rfl⟩ : ∃ s, b = a + s := ⟨b - a, by omega⟩
  have h1 : (a + s) / d < a / d + s + 1 := by
    refine Int.ediv_lt_of_lt_mul hd ?_
    have h2 := Int.lt_ediv_add_one_mul_self a hd
    have h3 : s * 1 ≤ s * d := Int.mul_le_mul_of_nonneg_left (by omega) (by omega)
    have h4 : (a / d + s + 1) * d = (a / d + 1) * d + s * d := by rw [show a / d + s + 1 = (a / d + 1) + s by omega, Int.add_mul]
    omega
  omega
def halves (ys : List Int) : List Int := ys.map fun y => Int.tdiv y 2
theorem halves_get (ys : List Int) (k : Nat) : (halves ys).getD k 0 = Int.tdiv (ys.getD k 0) 2 := by
  unfold halves
  rw [List.getD_eq_getElem?_getD, List.getD_eq_getElem?_getD, List.getElem?_map]
  cases ys[k]? <;> rfl
theorem half_sq (y : Int) : Int.tdiv y 2 * Int.tdiv y 2 ≤ y * y := by
  rcases Int.le_total 0 y with h | h
  · have h1 : 0 ≤ Int.tdiv y 2 := Int.tdiv_nonneg h (by decide)
    have h2 : Int.tdiv y 2 ≤ y := Int.tdiv_le_self 2 h
    exact Int.mul_le_mul h2 h2 h1 h
  · have e : Int.tdiv y 2 = -Int.tdiv (-y) 2 := by rw [Int.neg_tdiv, Int.neg_neg]
    have h1 : 0 ≤ Int.tdiv (-y) 2 := Int.tdiv_nonneg (by omega) (by decide)
    have h2 : Int.tdiv (-y) 2 ≤ -y := Int.tdiv_le_self 2 (by omega)
    rw [e, Int.neg_mul_neg]
    have := Int.mul_le_mul h2 h2 h1 (show 0 ≤ -y by omega)
    rwa [Int.neg_mul_neg] at this
theorem halves_in {ys : List Int} (h : inB 2048 ys) : inB 2048 (halves ys) := by
  intro z hz
  simp only [halves, List.mem_map] at hz
  obtain ⟨y, hy, rfl⟩ := hz
  have := h y hy
  rcases Int.le_total 0 y with h0 | h0
  · have h1 : 0 ≤ Int.tdiv y 2 := Int.tdiv_nonneg h0 (by decide)
    have h2 : Int.tdiv y 2 ≤ y := Int.tdiv_le_self 2 h0
    omega
  · have e : Int.tdiv y 2 = -Int.tdiv (-y) 2 := by rw [Int.neg_tdiv, Int.neg_neg]
    have h1 : 0 ≤ Int.tdiv (-y) 2 := Int.tdiv_nonneg (by omega) (by decide)
    have h2 : Int.tdiv (-y) 2 ≤ -y := Int.tdiv_le_self 2 (by omega)
    omega
theorem bh_half (lk : Int) (ys : List Int) : ∀ k, bhAt lk (halves ys) k ≤ bhAt lk ys k
  | 0 => Int.le_refl _
  | k + 1 => by
    have h1 := coolF_mono lk (bh_half lk ys k)
    have h2 := half_sq (ys.getD k 0)
    simp only [bhAt, halves_get]
    omega
theorem pk_half (lk : Int) (ys : List Int) : ∀ n, pkH lk (halves ys) n ≤ pkH lk ys n
  | 0 => Int.le_refl _
  | n + 1 => by
    have h1 := pk_half lk ys n
    have h2 := bh_half lk ys (n + 1)
    simp only [pkH, mx_eq]
    omega
end Go.Proofs.YtleemphfkhbhaaaDoor
