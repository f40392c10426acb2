/- Part 19 of the texts of the claim: J4, J5, Lh, N1, N2, N3, N4, N5, N6, QK, QO. -/
import Derived.Test.YtdeapbihbhoefaaDoorLz7
import Derived.BigRegion
import Derived.Test.YtdeapbihbhoefaaDoorLz1
import Derived.Test.YtdeapbihbhoefaaDoorLz18
import Derived.Test.YtdeapbihbhoefaaDoorLz14
import Derived.Test.YtdeapbihbhoefaaDoorLz13

/- Contract of the reference's CheckGuard: the same error. -/
namespace Go.Proofs.YtdeapbihbhoefaaDoor
open Go.RowKit
open Calm (bcell Blk)

set_option maxRecDepth 100000 in
set_option maxHeartbeats 40000000 in
theorem pGuard_any (lk ht rc : Int) (ts gs : List Int) (A1 A2 : Option Addr) (c1 c2 : Nat) (w : World) (hT0 : Cells w A1 ts) (hG0 : Cells w A2 gs) (h1 : ts.length ≤ 5000) (h2 : gs.length ≤ 5000) :
    Calls Tryd.prog 18 #[.agg #[(.int .i64 lk), (.int .i64 ht), .slice A1 ts.length c1, (.int .i64 rc), .slice A2 gs.length c2]] w fun r w' => r = .returned (.int .i64 (guardErr lk ht rc ts gs)) ∧ Below w.heap.size w w' := by
  have HT := Lib.hid hT0
  have HGS := Lib.hid hG0
  obtain ⟨M, hM⟩ : ∃ M, M = ts.length := ⟨_, rfl⟩
  obtain ⟨L, hL⟩ : ∃ L, L = gs.length := ⟨_, rfl⟩
  have HM := Lib.hid hM
  have HL := Lib.hid hL
  have HF2 : Hid (∀ (W : World) (a b : Int), Calls Tryd.prog 31 #[.slice (some ⟨W.heap.size, 0, none⟩) 2 2] (W.alloc (.cells #[(.int .i64 a), (.int .i64 b)] 3)) fun r w' => r = .returned (.int .i64 (firstOf [a, b])) ∧ (W.alloc (.cells #[(.int .i64 a), (.int .i64 b)] 3)) = w') := Lib.hid (fun W a b => qFirst_any [a, b] _ _ _ (by simp) (Cells.row (heap_new rfl)))
  obtain ⟨R, hR⟩ : ∃ R, R = guardErr lk ht rc ts gs := ⟨_, rfl⟩
  have HR0 : Hid (R = G1 gs [rangeErr lk 1 8, rangeErr ht 0 536870912, someErr M 8, eachErr ts (-64) 64, rangeErr rc 0 1048576, someErr L 8]) := Lib.hid (by rw [hR, hM, hL]; rfl)
  rw [← hR]
  rw [← hM] at h1 ⊢
  rw [← hL] at h2 ⊢
  clear hM hL hR hT0 hG0
  go_enter Tryd.func18, Tryd.ntmps18
  go_wp2
  refine Calm.tail_below 6 (by kernel_rfl) (by kernel_rfl) ?_
  simp only [List.take_succ_cons, List.take_zero, List.drop_succ_cons, List.drop_zero]
  repeat (first | (first | (apply Calm.op_move; (focus rfl); (focus (first | exact .inl rfl | exact .inr rfl)); (focus ((try simp only [Act.eval, Array.getD_eq_getD_getElem?, List.getElem?_toArray, List.getElem?_cons_succ, List.getElem?_cons_zero, Option.getD_some]); rfl)); (try simp only [Act.put, List.setIfInBounds_toArray, List.set_cons_zero, List.set_cons_succ])) | (apply Calm.op_not; (focus rfl); (try simp only [Act.put, List.setIfInBounds_toArray, List.set_cons_zero, List.set_cons_succ])) | (apply Calm.op; (focus rfl); (focus (intro W hb; obtain ⟨hc, hf⟩ := bcell hb; clear hb hf; go_simp; (try go_bits); (try rfl); done)); (try simp only [Act.put, List.setIfInBounds_toArray, List.set_cons_zero, List.set_cons_succ]))) | (apply Calm.op_call; (focus rfl); (focus (intro W hb; obtain ⟨hc, hf⟩ := bcell hb; clear hb hf; go_simp; refine ⟨?_, ?_⟩; rfl; rfl)); (focus (intro W hb; first | (go_at_call 58; exact Calm.call_same hb (qRange_any _ _ _ _)))); (try simp only [Act.put, List.setIfInBounds_toArray, List.set_cons_zero, List.set_cons_succ])))
  refine wpQuiet_nil ?_
  intro w1 hb1
  obtain ⟨hb1c, hb1f⟩ := bcell hb1
  have hb1z := hb1.size
  (try simp at hb1z)
  (try have hb1z0 : w.heap.size < w1.heap.size := by omega)
  (try have hb1z1 : w.heap.size + 1 < w1.heap.size := by omega)
  (try have hb1z2 : w.heap.size + 1 + 1 < w1.heap.size := by omega)
  (try have hb1z3 : w.heap.size + 1 + 1 + 1 < w1.heap.size := by omega)
  (try have hb1z4 : w.heap.size + 1 + 1 + 1 + 1 < w1.heap.size := by omega)
  (try have hb1z5 : w.heap.size + 1 + 1 + 1 + 1 + 1 < w1.heap.size := by omega)
  have hb1' : Below w.heap.size w w1 := Below.trans (by (repeat (first | (with_reducible exact Below.refl _ _) | ((with_reducible refine Below.setCell ?_ ?_ _); rotate_left 1; focus (first | (simp; done) | (simp; omega) | (simp at *; omega))) | ((with_reducible refine Below.alloc ?_ ?_ _); rotate_left 1; focus (first | (simp; done) | (simp; omega) | (simp at *; omega))) | (with_reducible refine Below.drew ?_) | ((with_reducible refine Calm.step (by assumption) ?_ ?_); rotate_left 1; focus (first | (simp; done) | (simp; omega) | (simp at *; omega)))))) (hb1.mono (by simp))
  have K0 : Blk w1 w.heap.size #[(.int .i64 lk), (.int .i64 ht), .slice A1 M c1, (.int .i64 rc), .slice A2 L c2] := Blk.below (by (repeat (first | ((with_reducible refine Blk.at_ ?_); focus (first | rfl | (simp; done) | (simp; omega))) | (with_reducible refine Blk.alloc ?_ _) | (with_reducible refine Blk.below ?_ (by with_reducible assumption)) | (with_reducible refine Blk.drew ?_)))) hb1
  obtain ⟨E, hE⟩ : ∃ E, E = firstOf [rangeErr lk 1 8, rangeErr ht 0 536870912] := ⟨_, rfl⟩
  have HE := Lib.hid hE
  obtain ⟨w2, hw2⟩ : ∃ w2, w2 = w1.alloc (.cells #[(.int .i64 (rangeErr lk 1 8)), (.int .i64 (rangeErr ht 0 536870912))] 3) := ⟨_, rfl⟩
  have HB2 : Hid (Below w.heap.size w w2) := Lib.hid (by rw [hw2]; exact hb1'.alloc hb1'.size _)
  have K2 : Blk w2 w.heap.size #[(.int .i64 lk), (.int .i64 ht), .slice A1 M c1, (.int .i64 rc), .slice A2 L c2] := by rw [hw2]; exact K0.alloc _
  have hF := HF2.out w1 (rangeErr lk 1 8) (rangeErr ht 0 536870912)
  rw [← hw2, ← hE] at hF
  have HW2 := Lib.hid hw2
  have HFF := Lib.hid hF
  obtain ⟨c00, c01, c02, c03, c04, l0, f0⟩ := K2.o5
  clear hb1 hb1c hb1f hb1' K0 hE hw2 hF K2
  by_cases h0 : E = 0
  · have HR1 : Hid (R = G1 gs [someErr M 8, eachErr ts (-64) 64, rangeErr rc 0 1048576, someErr L 8]) := Lib.hid (by rw [HR0.out, G1_two0 _ _ (by rw [← HE.out]; exact h0)])
    rw [h0] at HFF
    clear HR0 HE h0
    by_cases hm0 : M = 0
    · have HRR : Hid (R = 12) := Lib.hid (by rw [HR1.out, some0 hm0, G1_consN _ _ (by decide)])
      have hmi : ((M : Nat) : Int) = 0 := by omega
      clear HR1
      go_wp2_with (go_at_call 31; rw [← HW2.out]; refine HFF.out.mono ?_; rintro r w3 ⟨rfl, rfl⟩)
      go_ret
      exact ⟨ret_i HRR.out.symm, HB2.out⟩
    · have hmi : ¬ ((M : Nat) : Int) = 0 := by omega
      by_cases hm8 : 8 < M
      · have HRR : Hid (R = 5) := Lib.hid (by rw [HR1.out, some5 hm8, G1_consN _ _ (by decide)])
        have hmj : (8 : Int) < ((M : Nat) : Int) := by omega
        clear HR1
        go_wp2_with (go_at_call 31; rw [← HW2.out]; refine HFF.out.mono ?_; rintro r w3 ⟨rfl, rfl⟩)
        go_ret
        exact ⟨ret_i HRR.out.symm, HB2.out⟩
      · have hmj : ¬ (8 : Int) < ((M : Nat) : Int) := by omega
        have HR2 : Hid (R = G1 gs [eachErr ts (-64) 64, rangeErr rc 0 1048576, someErr L 8]) := Lib.hid (by rw [HR1.out, someOk (by omega) (by omega), G1_cons0])
        have hm : ∀ k, k < (ts.map fun n => rangeErr n (-64) 64).length → (ts.map fun n => rangeErr n (-64) 64).getD k 0 = rangeErr (ts.getD k 0) (-64) 64 := fun k hk => by
          have hk' : k < ts.length := by simpa using hk
          simp [List.getD_eq_getElem?_getD, hk']
        have HMG := Lib.hid hm
        have HML : Hid ((ts.map fun n => rangeErr n (-64) 64).length = M) := Lib.hid (by rw [List.length_map, ← HM.out])
        clear HR1 hm
        go_wp2_with (go_at_call 31; rw [← HW2.out]; refine HFF.out.mono ?_; rintro r w3 ⟨rfl, rfl⟩)
        clear HW2 HFF HF2
        rw [show (((M : Nat) : Int) == 0) = false from beq_eq_false_iff_ne.2 hmi]
        go_loop [4, 5] (fun i _ => ∃ k : Nat, k ≤ M ∧ i = (.int .i64 ((k : Nat))) ∧ ∀ j, j < k → (ts.map fun n => rangeErr n (-64) 64).getD j 0 = 0) (fun i _ => M - (intOf i).toNat)
        case atStart => exact ⟨0, Nat.zero_le _, rfl, fun j hj => by omega⟩
        case round =>
          obtain ⟨k, hk, rfl, hz⟩ := hrel
          have HZ := Lib.hid hz
          clear hz
          by_cases hlt : k < M
          · obtain ⟨b, off, rfl, hbl, hc⟩ := HT.out (by rw [← HM.out]; omega)
            have hck := (HB2.out.cell (p := ⟨b, off + k, none⟩) hbl).trans (hc k (by rw [← HM.out]; exact hlt))
            have hbl2 := Nat.lt_of_lt_of_le hbl HB2.out.size
            have HG := Lib.hid (HMG.out k (by rw [HML.out]; exact hlt))
            clear hc
            obtain ⟨x, hx⟩ : ∃ x, x = ts.getD k 0 := ⟨_, rfl⟩
            rw [← hx] at hck HG
            clear hx
            by_cases h0 : rangeErr x (-64) 64 = 0
            · have H0 := Lib.hid h0
              clear h0
              go_wp2_with (go_at_call 58; refine (qRange_any _ _ _ _).mono ?_; rw [H0.out]; rintro r w' ⟨rfl, rfl⟩)
              go_round
              case rel => exact ⟨k + 1, by omega, by go_num, fun j hj => by
                rcases Nat.lt_or_ge j k with hjk | hjk
                · exact HZ.out j hjk
                · obtain rfl : j = k := by omega
                  rw [HG.out]; exact H0.out⟩
              case measure => simp [intOf]; omega
            · obtain ⟨e, he⟩ : ∃ e, e = rangeErr x (-64) 64 := ⟨_, rfl⟩
              rw [← he] at h0 HG
              have H1 := Lib.hid he
              have H2 := Lib.hid h0
              clear he
              go_wp2_with (go_at_call 58; refine (qRange_any _ _ _ _).mono ?_; rw [← H1.out]; rintro r w' ⟨rfl, rfl⟩)
              go_ret
              exact ⟨ret_i (by
                have h3 : eachErr ts (-64) 64 = e := by unfold eachErr; rw [firstOf_take HZ.out (by rw [HML.out]; exact hlt) (by rw [HG.out]; exact H2.out), HG.out]
                rw [HR2.out, h3, G1_consN _ _ H2.out]), HB2.out⟩
          · have HR3 : Hid (R = G1 gs [rangeErr rc 0 1048576, someErr L 8]) := Lib.hid (by
              have h3 : eachErr ts (-64) 64 = 0 := firstOf_zero (fun j hj => HZ.out j (by rw [HML.out] at hj; omega))
              rw [HR2.out, h3, G1_cons0])
            clear HR2 HMG HML HZ
            by_cases hrc : rangeErr rc 0 1048576 = 0
            · have H0 := Lib.hid hrc
              have HR4 : Hid (R = G1 gs [someErr L 8]) := Lib.hid (by rw [HR3.out, hrc, G1_cons0])
              clear HR3 hrc
              by_cases hl0 : L = 0
              · have HRR : Hid (R = 12) := Lib.hid (by rw [HR4.out, some0 hl0, G1_consN _ _ (by decide)])
                have hli : ((L : Nat) : Int) = 0 := by omega
                clear HR4
                go_wp2_with (go_at_call 58; refine (qRange_any _ _ _ _).mono ?_; rw [H0.out]; rintro r w' ⟨rfl, rfl⟩)
                go_ret
                exact ⟨ret_i HRR.out.symm, HB2.out⟩
              · have hli : ¬ ((L : Nat) : Int) = 0 := by omega
                by_cases hl8 : 8 < L
                · have HRR : Hid (R = 5) := Lib.hid (by rw [HR4.out, some5 hl8, G1_consN _ _ (by decide)])
                  have hlj : (8 : Int) < ((L : Nat) : Int) := by omega
                  clear HR4
                  go_wp2_with (go_at_call 58; refine (qRange_any _ _ _ _).mono ?_; rw [H0.out]; rintro r w' ⟨rfl, rfl⟩)
                  go_ret
                  exact ⟨ret_i HRR.out.symm, HB2.out⟩
                · have hlj : ¬ (8 : Int) < ((L : Nat) : Int) := by omega
                  have HR5 : Hid (R = guardErr2 gs) := Lib.hid (by rw [HR4.out, someOk (by omega) (by omega), G1_cons0, G1_nil])
                  clear HR4
                  go_wp2_with (go_at_call 58; refine (qRange_any _ _ _ _).mono ?_; rw [H0.out]; rintro r w' ⟨rfl, rfl⟩)
                  rw [show (((L : Nat) : Int) == 0) = false from beq_eq_false_iff_ne.2 hli]
                  go_loopw [7] (fun i wr => ∃ k : Nat, k ≤ L ∧ i = (.int .i64 ((k : Nat))) ∧ (∀ j, j < k → eltG gs j = 0) ∧ Below w2.heap.size w2 wr) (fun i _ => L - (intOf i).toNat)
                  case atStart => exact ⟨0, Nat.zero_le _, rfl, fun j hj => by omega, Below.refl _ _⟩
                  case round =>
                    obtain ⟨k, hk, rfl, hz, hB⟩ := hrel
                    have HZ := Lib.hid hz
                    have hsz := hB.size
                    obtain ⟨hbc, hbf⟩ := bcell hB
                    have HB := Lib.hid (HB2.out.trans (hB.mono HB2.out.size))
                    have HBB := Lib.hid hB
                    have l0' : w.heap.size < wr.heap.size := by omega
                    have d00 := (hbc _ 0 l0).trans c00
                    have d01 := (hbc _ 1 l0).trans c01
                    have d02 := (hbc _ 2 l0).trans c02
                    have d03 := (hbc _ 3 l0).trans c03
                    have d04 := (hbc _ 4 l0).trans c04
                    clear hz hB hbc hbf
                    by_cases hlt : k < L
                    · obtain ⟨b, off, rfl, hbl, hc⟩ := HGS.out (by rw [← HL.out]; omega)
                      have hck := (HB.out.cell (p := ⟨b, off + k, none⟩) hbl).trans (hc k (by rw [← HL.out]; exact hlt))
                      have hbl2 := Nat.lt_of_lt_of_le hbl HB.out.size
                      have HC0 := Lib.hid (fun j (hj : j < L) => (HB.out.cell (p := ⟨b, off + j, none⟩) hbl).trans (hc j (by rw [← HL.out]; exact hj)))
                      clear hc
                      obtain ⟨x, hx⟩ : ∃ x, x = gs.getD k 0 := ⟨_, rfl⟩
                      rw [← hx] at hck
                      have HX := Lib.hid hx
                      clear hx
                      by_cases hx0 : rangeErr x 0 16 = 0
                      · have H0x := Lib.hid hx0
                        clear hx0
                        by_cases hk0 : k = 0
                        · subst hk0
                          rw [Nat.add_zero] at hck
                          by_cases hxz : x = 0
                          · have HE0 : Hid (eltG gs 0 = 0) := Lib.hid (by rw [eltG_zero, ← HX.out, H0x.out, if_neg (by simp [hxz]), first0])
                            subst hxz
                            go_wp2_with (go_at_call 58; refine (qRange_any _ _ _ _).mono ?_; rw [H0x.out]; rintro r w' ⟨rfl, rfl⟩)
                            go_region
                            go_wp2
                            go_roundw
                            case rel => exact ⟨1, by omega, by first | rfl | go_num, fun j hj => by
                              obtain rfl : j = 0 := by omega
                              exact HE0.out, (by first | exact HBB.out | exact HBB.out.drew)⟩
                            case measure => simp [intOf]; omega
                          · have hxb1 : (x == 0) = false := beq_eq_false_iff_ne.2 hxz
                            have hxb2 : (x != 0) = true := bne_iff_ne.2 hxz
                            have HRR : Hid (R = 11) := Lib.hid (by
                              have h3 : eltG gs 0 = 11 := by rw [eltG_zero, ← HX.out, H0x.out, if_pos hxz, first0]
                              rw [HR5.out, g2_at HZ.out (by rw [← HL.out]; exact hlt) (by rw [h3]; decide), h3])
                            go_wp2_with (go_at_call 58; refine (qRange_any _ _ _ _).mono ?_; rw [H0x.out]; rintro r w' ⟨rfl, rfl⟩)
                            go_region
                            go_wp2
                            go_ret
                            exact ⟨ret_i HRR.out.symm, (by first | exact HB.out | exact HB.out.drew)⟩
                        · have hkp : 0 < k := by omega
                          obtain ⟨m, rfl⟩ : ∃ m, k = m + 1 := ⟨k - 1, by omega⟩
                          have hck2 := HC0.out m (by omega)
                          have hkb : (((m : Nat) : Int) + 1 == 0) = false := beq_eq_false_iff_ne.2 (by omega)
                          have hkj : (0 : Int) < ((m : Nat) : Int) + 1 := by omega
                          have hk2 : ((m : Nat) : Int) + 1 < (L : Int) := by omega
                          have hk3 : ((m : Nat) : Int) < (L : Int) := by omega
                          have hmL : m < L := by omega
                          have HEE : Hid (eltG gs (m + 1) = if x ≤ gs.getD m 0 then 11 else 0) := Lib.hid (by rw [eltG_pos hkp]; unfold ascAt; rw [← HX.out, H0x.out, first0]; simp)
                          obtain ⟨y, hy⟩ : ∃ y, y = gs.getD m 0 := ⟨_, rfl⟩
                          rw [← hy] at hck2 HEE
                          clear hy
                          by_cases hxy : x ≤ y
                          · have HRR : Hid (R = 11) := Lib.hid (by
                              have h3 : eltG gs (m + 1) = 11 := by rw [HEE.out, if_pos hxy]
                              rw [HR5.out, g2_at HZ.out (by rw [← HL.out]; exact hlt) (by rw [h3]; decide), h3])
                            go_wp2_with (go_at_call 58; refine (qRange_any _ _ _ _).mono ?_; rw [H0x.out]; rintro r w' ⟨rfl, rfl⟩)
                            refine Calm.tail_below 24 (by kernel_rfl) (by kernel_rfl) ?_
                            simp only [List.take_succ_cons, List.take_zero, List.drop_succ_cons, List.drop_zero]
                            repeat (first | (apply Calm.op_move; (focus rfl); (focus (first | exact .inl rfl | exact .inr rfl)); (focus ((try simp only [Act.eval, Array.getD_eq_getD_getElem?, List.getElem?_toArray, List.getElem?_cons_succ, List.getElem?_cons_zero, Option.getD_some]); rfl)); (try simp only [Act.put, List.setIfInBounds_toArray, List.set_cons_zero, List.set_cons_succ])) | (apply Calm.op_not; (focus rfl); (try simp only [Act.put, List.setIfInBounds_toArray, List.set_cons_zero, List.set_cons_succ])) | (apply Calm.op; (focus rfl); (focus (intro W hb; obtain ⟨hc, hf⟩ := bcell hb; clear hb hf; go_simp; (try go_bits); (try rfl); done)); (try simp only [Act.put, List.setIfInBounds_toArray, List.set_cons_zero, List.set_cons_succ])))
                            refine wpQuiet_nil ?_
                            intro w5 hb5
                            obtain ⟨hb5c, hb5f⟩ := bcell hb5
                            have hb5z := hb5.size
                            (try simp at hb5z)
                            (try have hb5z0 : w.heap.size < w5.heap.size := by omega)
                            (try have hb5z1 : w.heap.size + 1 < w5.heap.size := by omega)
                            (try have hb5z2 : w.heap.size + 1 + 1 < w5.heap.size := by omega)
                            (try have hb5z3 : w.heap.size + 1 + 1 + 1 < w5.heap.size := by omega)
                            (try have hb5z4 : w.heap.size + 1 + 1 + 1 + 1 < w5.heap.size := by omega)
                            (try have hb5z5 : w.heap.size + 1 + 1 + 1 + 1 + 1 < w5.heap.size := by omega)
                            have HB5 := Lib.hid (HBB.out.trans (hb5.mono hsz))
                            go_wp2
                            go_ret
                            exact ⟨ret_i HRR.out.symm, HB2.out.trans (HB5.out.mono HB2.out.size)⟩
                          · have HE0 : Hid (eltG gs (m + 1) = 0) := Lib.hid (by rw [HEE.out, if_neg hxy])
                            go_wp2_with (go_at_call 58; refine (qRange_any _ _ _ _).mono ?_; rw [H0x.out]; rintro r w' ⟨rfl, rfl⟩)
                            refine Calm.tail_below 24 (by kernel_rfl) (by kernel_rfl) ?_
                            simp only [List.take_succ_cons, List.take_zero, List.drop_succ_cons, List.drop_zero]
                            repeat (first | (apply Calm.op_move; (focus rfl); (focus (first | exact .inl rfl | exact .inr rfl)); (focus ((try simp only [Act.eval, Array.getD_eq_getD_getElem?, List.getElem?_toArray, List.getElem?_cons_succ, List.getElem?_cons_zero, Option.getD_some]); rfl)); (try simp only [Act.put, List.setIfInBounds_toArray, List.set_cons_zero, List.set_cons_succ])) | (apply Calm.op_not; (focus rfl); (try simp only [Act.put, List.setIfInBounds_toArray, List.set_cons_zero, List.set_cons_succ])) | (apply Calm.op; (focus rfl); (focus (intro W hb; obtain ⟨hc, hf⟩ := bcell hb; clear hb hf; go_simp; (try go_bits); (try rfl); done)); (try simp only [Act.put, List.setIfInBounds_toArray, List.set_cons_zero, List.set_cons_succ])))
                            refine wpQuiet_nil ?_
                            intro w5 hb5
                            obtain ⟨hb5c, hb5f⟩ := bcell hb5
                            have hb5z := hb5.size
                            (try simp at hb5z)
                            (try have hb5z0 : w.heap.size < w5.heap.size := by omega)
                            (try have hb5z1 : w.heap.size + 1 < w5.heap.size := by omega)
                            (try have hb5z2 : w.heap.size + 1 + 1 < w5.heap.size := by omega)
                            (try have hb5z3 : w.heap.size + 1 + 1 + 1 < w5.heap.size := by omega)
                            (try have hb5z4 : w.heap.size + 1 + 1 + 1 + 1 < w5.heap.size := by omega)
                            (try have hb5z5 : w.heap.size + 1 + 1 + 1 + 1 + 1 < w5.heap.size := by omega)
                            have HB5 := Lib.hid (HBB.out.trans (hb5.mono hsz))
                            go_wp2
                            go_roundw
                            case rel => exact ⟨m + 1 + 1, by omega, by go_num, fun j hj => by
                              rcases Nat.lt_or_ge j (m + 1) with hjk | hjk
                              · exact HZ.out j hjk
                              · obtain rfl : j = m + 1 := by omega
                                exact HE0.out, HB5.out⟩
                            case measure => simp [intOf]; omega
                      · obtain ⟨e, he⟩ : ∃ e, e = rangeErr x 0 16 := ⟨_, rfl⟩
                        rw [← he] at hx0
                        have H1 := Lib.hid he
                        have HRR : Hid (R = e) := Lib.hid (by
                          have h3 : eltG gs k = e := by unfold eltG; rw [← HX.out, ← H1.out, fo_consN hx0]
                          rw [HR5.out, g2_at HZ.out (by rw [← HL.out]; exact hlt) (by rw [h3]; exact hx0), h3])
                        clear he
                        go_wp2_with (go_at_call 58; refine (qRange_any _ _ _ _).mono ?_; rw [← H1.out]; rintro r w' ⟨rfl, rfl⟩)
                        go_ret
                        exact ⟨ret_i HRR.out.symm, HB.out⟩
                    · obtain rfl : k = L := by omega
                      have HRR : Hid (R = 0) := Lib.hid (by rw [HR5.out]; exact g2_zero (fun j hj => HZ.out j (by rw [HL.out]; exact hj)) (by rw [← HL.out]; omega))
                      go_wp2
                      go_ret
                      exact ⟨ret_i HRR.out.symm, HB.out⟩
            · obtain ⟨e, he⟩ : ∃ e, e = rangeErr rc 0 1048576 := ⟨_, rfl⟩
              rw [← he] at hrc HR3
              have H1 := Lib.hid he
              have HRR : Hid (R = e) := Lib.hid (by rw [HR3.out, G1_consN _ _ hrc])
              clear he HR3
              go_wp2_with (go_at_call 58; refine (qRange_any _ _ _ _).mono ?_; rw [← H1.out]; rintro r w' ⟨rfl, rfl⟩)
              go_ret
              exact ⟨ret_i HRR.out.symm, HB2.out⟩
  · have HRR : Hid (R = E) := Lib.hid (by rw [HR0.out, G1_twoN _ _ (by rw [← HE.out]; exact h0), HE.out])
    clear HR0 HE
    go_wp2_with (go_at_call 31; rw [← HW2.out]; refine HFF.out.mono ?_; rintro r w3 ⟨rfl, rfl⟩)
    go_ret
    exact ⟨ret_i HRR.out.symm, HB2.out⟩
end Go.Proofs.YtdeapbihbhoefaaDoor

/- Contracts of Short and of dustGuard. -/
namespace Go.Proofs.YtdeapbihbhoefaaDoor
open Go.RowKit
open Calm (bcell Blk)

theorem pShort_any (lk ht rc : Int) (A1 A2 : Option Addr) (M L c1 c2 : Nat) (w : World) :
    Calls Tryd.prog 13 #[.agg #[(.int .i64 lk), (.int .i64 ht), .slice A1 M c1, (.int .i64 rc), .slice A2 L c2]] w fun r w' => r = .returned (.bool (decide (M ≤ 9 ∧ L ≤ 9))) ∧ Below w.heap.size w w' := by
  by_cases h1 : M ≤ 9
  · have h1i : (M : Int) ≤ 9 := by omega
    by_cases h2 : L ≤ 9
    · have h2i : (L : Int) ≤ 9 := by omega
      have HE := Lib.hid (show decide (M ≤ 9 ∧ L ≤ 9) = true from decide_eq_true ⟨h1, h2⟩)
      go_enter Tryd.func13, Tryd.ntmps13
      go_wp2
      go_ret
      exact ⟨by first | rfl | (rw [HE.out]; rfl) | (simp [h2]; done), by (repeat (first | (with_reducible exact Below.refl _ _) | ((with_reducible refine Below.setCell ?_ ?_ _); rotate_left 1; focus (first | (simp; done) | (simp; omega) | (simp at *; omega))) | ((with_reducible refine Below.alloc ?_ ?_ _); rotate_left 1; focus (first | (simp; done) | (simp; omega) | (simp at *; omega))) | (with_reducible refine Below.drew ?_) | ((with_reducible refine Calm.step (by assumption) ?_ ?_); rotate_left 1; focus (first | (simp; done) | (simp; omega) | (simp at *; omega)))))⟩
    · have h2i : ¬ (L : Int) ≤ 9 := by omega
      have HE := Lib.hid (show decide (M ≤ 9 ∧ L ≤ 9) = false from decide_eq_false (fun h => h2 h.2))
      go_enter Tryd.func13, Tryd.ntmps13
      go_wp2
      go_ret
      exact ⟨by first | rfl | (rw [HE.out]; rfl) | (simp [h2]; done), by (repeat (first | (with_reducible exact Below.refl _ _) | ((with_reducible refine Below.setCell ?_ ?_ _); rotate_left 1; focus (first | (simp; done) | (simp; omega) | (simp at *; omega))) | ((with_reducible refine Below.alloc ?_ ?_ _); rotate_left 1; focus (first | (simp; done) | (simp; omega) | (simp at *; omega))) | (with_reducible refine Below.drew ?_) | ((with_reducible refine Calm.step (by assumption) ?_ ?_); rotate_left 1; focus (first | (simp; done) | (simp; omega) | (simp at *; omega)))))⟩
  · have h1i : ¬ (M : Int) ≤ 9 := by omega
    have HE := Lib.hid (show decide (M ≤ 9 ∧ L ≤ 9) = false from decide_eq_false (fun h => h1 h.1))
    go_enter Tryd.func13, Tryd.ntmps13
    go_wp2
    go_ret
    exact ⟨by first | rfl | (rw [HE.out]; rfl) | (simp [h2]; done), by (repeat (first | (with_reducible exact Below.refl _ _) | ((with_reducible refine Below.setCell ?_ ?_ _); rotate_left 1; focus (first | (simp; done) | (simp; omega) | (simp at *; omega))) | ((with_reducible refine Below.alloc ?_ ?_ _); rotate_left 1; focus (first | (simp; done) | (simp; omega) | (simp at *; omega))) | (with_reducible refine Below.drew ?_) | ((with_reducible refine Calm.step (by assumption) ?_ ?_); rotate_left 1; focus (first | (simp; done) | (simp; omega) | (simp at *; omega)))))⟩
end Go.Proofs.YtdeapbihbhoefaaDoor

/- Helpers of the laws: copies of numbers, guards, states. -/
namespace Go.Proofs.YtdeapbihbhoefaaDoor
open Go.RowKit
open Calm (bcell Blk)

theorem own_ksi {W : World} {base n : Nat} {v : Value} {xs : List Int} (hn : n = xs.length) (h : W.ownsRow base 3 1 v n (xs.map (Value.int .i64))) : KSI n xs v W := by
  obtain ⟨A, c, rfl, _, hC⟩ := own_ints h hn
  refine ⟨A, c, rfl, hC, fun p hp => ?_⟩
  subst hp
  rcases h.2 with ⟨e, _⟩ | ⟨g, cap, cur, e, _, hg, _⟩
  · cases e
  · cases e
    exact ⟨cur, hg⟩
set_option maxHeartbeats 1000000 in
theorem ints_K {n : Nat} {xs : List Int} {u : Value} {W : World} (hn : n = xs.length) (h5 : n ≤ 100000) (hu : KS n xs u W) : Calls Tryd.prog 41 #[u] W (KP (KSI n xs) W) := by
  obtain ⟨A, c, rfl, hC⟩ := hu
  have HC := Lib.hid hC
  have HN := Lib.hid hn
  clear hC hn
  go_enter Tryd.func41, Tryd.ntmps41
  go_wp2_with (at_builtin; refine wpList_appC rfl _ _ rfl W.heap.size n c A xs HN.out rfl rfl ⟨by simp, .inr ⟨_, 0, #[], rfl, Nat.le_refl _, by show (W.heap.push _)[W.heap.size]? = _; simp, Nat.le_refl _, Nat.zero_le _, by simp, by simp⟩⟩ h5 (HC.out.below ((Below.refl _ _).alloc (Nat.le_refl _) _)) ?_; intro B d w1 hb1 hown; have HB1 := Lib.hid (((Below.refl W.heap.size W).alloc (Nat.le_refl _) (.cells #[] 3)).trans (hb1.mono (by simp))); have HK := Lib.hid (own_ksi HN.out hown); clear hb1 hown)
  go_ret
  exact ⟨_, rfl, HK.out, HB1.out⟩
theorem Short_K {lk ht rc : Int} {M L : Nat} {ts gs : List Int} {u : Value} {W : World} (hu : KG lk ht rc M ts L gs u W) : Calls Tryd.prog 13 #[u] W (KP (KV (.bool (decide (M ≤ 9 ∧ L ≤ 9)))) W) := by
  obtain ⟨A1, c1, A2, c2, rfl, _, _⟩ := hu
  exact (pShort_any lk ht rc A1 A2 M L c1 c2 W).mono fun e W' ⟨h, hb⟩ => ⟨_, h, rfl, hb⟩
theorem kgo (u : Value) (W : World) {lk ht rc : Int} {M : Nat} {ts : List Int} {L : Nat} {gs : List Int} (h : KG lk ht rc M ts L gs u W) : ∃ A1 c1 A2 c2, u = .agg #[(.int .i64 lk), (.int .i64 ht), .slice A1 M c1, (.int .i64 rc), .slice A2 L c2] ∧ KS M ts (.slice A1 M c1) W ∧ KS L gs (.slice A2 L c2) W := by
  obtain ⟨A1, c1, A2, c2, e, h1, h2⟩ := h
  exact ⟨A1, c1, A2, c2, e, ⟨_, _, rfl, h1⟩, ⟨_, _, rfl, h2⟩⟩

set_option maxRecDepth 100000 in
set_option maxHeartbeats 2000000 in
theorem guard_K {lk ht rc : Int} {M L : Nat} {ts gs : List Int} {u : Value} {w : World} (hM : M = ts.length) (hL : L = gs.length) (h1 : M ≤ 1000) (h2 : L ≤ 1000) (hu : KG lk ht rc M ts L gs u w) : Calls Tryd.prog 17 #[u] w (KP (KGI lk ht rc M ts L gs) w) := by
  obtain ⟨A1, c1, A2, c2, rfl, hT, hG⟩ := kgo _ _ hu
  have HT := Lib.hid hT
  have HG := Lib.hid hG
  have HM := Lib.hid hM
  have HL := Lib.hid hL
  clear hT hG hM hL hu
  go_enter Tryd.func17, Tryd.ntmps17
  have HB0 := Lib.hid (Below.refl w.heap.size w)
  go_wp2
  refine name_world ?_
  intro w1 e1
  have h1 : Below w.heap.size w w1 := by rw [e1]; (repeat (first | (with_reducible exact Below.refl _ _) | ((with_reducible refine Below.setCell ?_ ?_ _); rotate_left 1; (focus (first | (simp; done) | (simp; omega) | (simp at *; omega)))) | ((with_reducible refine Below.alloc ?_ ?_ _); rotate_left 1; (focus (first | (simp; done) | (simp; omega) | (simp at *; omega))))))
  have fHT_1 := Lib.hid (KS.st _ _ _ _ _ HT.out h1)
  have fHG_1 := Lib.hid (KS.st _ _ _ _ _ HG.out h1)
  have HB1 := Lib.hid (HB0.out.trans (h1.mono HB0.out.size))
  have bg_1 := Lib.hid (show Blk w1 w.heap.size #[(.int .i64 lk), (.int .i64 ht), .slice A1 M c1, (.int .i64 rc), .slice A2 L c2] from by rw [e1]; (repeat (first | ((with_reducible refine Blk.at_ ?_); focus (first | rfl | (simp; done) | (simp; omega))) | (with_reducible refine Blk.alloc ?_ _) | (with_reducible refine Blk.below ?_ (by with_reducible assumption)) | (with_reducible refine Blk.drew ?_))))
  have bz_1 := Lib.hid (show Blk w1 (w.heap.size + 1) #[(.int .i64 0), (.int .i64 0), .slice none 0 0, (.int .i64 0), .slice none 0 0] from by rw [e1]; (repeat (first | ((with_reducible refine Blk.at_ ?_); focus (first | rfl | (simp; done) | (simp; omega))) | (with_reducible refine Blk.alloc ?_ _) | (with_reducible refine Blk.below ?_ (by with_reducible assumption)) | (with_reducible refine Blk.drew ?_))))
  have ty_1 := Lib.hid (show IsTy w1 (w.heap.size + 1) 34 from by rw [e1]; exact ⟨_, heap_new (by simp)⟩)
  clear e1 h1
  obtain ⟨f0, f1, f2, f3, f4, fl, -⟩ := bg_1.out.o5
  refine Rel.region3 12 (by kernel_rfl) (by kernel_rfl) (by kernel_rfl) ?_
  simp only [List.take_succ_cons, List.take_zero, List.drop_succ_cons, List.drop_zero, List.filterMap_cons, List.filterMap_nil]
  iterate 6 (apply Rel.op3; (focus (first | exact Rel.gno rfl | exact Rel.gyes _ true _ rfl rfl rfl | exact Rel.gyes _ false _ rfl rfl rfl)); (focus (intro a W hb hd hbase; obtain ⟨hc, hf⟩ := bcell hb; clear hb hf; simp [Rel.deps, Rel.dep1, Rel.ons, Region.binds, Act.eval, KV] at hd; simp only [Act.eval, List.mem_cons, List.not_mem_nil, not_or, and_imp, or_false, Array.getD_eq_getD_getElem?] at hbase; go_simp; (try go_bits); (try rfl); done)); (try simp only [List.nil_append, List.cons_append]))
  refine Rel.callK 41 (KSI M ts) ((KSI.ik _ _).st) (Rel.gno rfl) ?_ ?_
  · intro a W hb hd hbase
    have q1 : a.eval (.tmp 8) = _ := (Rel.dep_at hd 5 rfl rfl)
    refine ⟨#[a.eval (.tmp 8)], ?_, by rw [q1]; exact ints_K HM.out (by omega) (KS.st _ _ _ _ _ fHT_1.out hb)⟩
    clear hd hbase hb
    go_simp
    (first | done | rfl | (refine ⟨?_, ?_⟩ <;> rfl))
  (try simp only [List.nil_append, List.cons_append])
  iterate 4 (apply Rel.op3; (focus (first | exact Rel.gno rfl | exact Rel.gyes _ true _ rfl rfl rfl | exact Rel.gyes _ false _ rfl rfl rfl)); (focus (intro a W hb hd hbase; obtain ⟨hc, hf⟩ := bcell hb; clear hb hf; simp [Rel.deps, Rel.dep1, Rel.ons, Region.binds, Act.eval, KV] at hd; simp only [Act.eval, List.mem_cons, List.not_mem_nil, not_or, and_imp, or_false, Array.getD_eq_getD_getElem?] at hbase; go_simp; (try go_bits); (try rfl); done)); (try simp only [List.nil_append, List.cons_append]))
  refine Rel.callK 41 (KSI L gs) ((KSI.ik _ _).st) (Rel.gno rfl) ?_ ?_
  · intro a W hb hd hbase
    have q1 : a.eval (.tmp 13) = _ := (Rel.dep_at hd 10 rfl rfl)
    refine ⟨#[a.eval (.tmp 13)], ?_, by rw [q1]; exact ints_K HL.out (by omega) (KS.st _ _ _ _ _ fHG_1.out hb)⟩
    clear hd hbase hb
    go_simp
    (first | done | rfl | (refine ⟨?_, ?_⟩ <;> rfl))
  (try simp only [List.nil_append, List.cons_append])
  refine Rel.done3 ?_
  intro x w2 h2 hx
  simp only [Rel.facts, Nat.zero_add, Nat.reduceAdd] at hx
  obtain ⟨e0, e1, e2, e3, e4, e5, ⟨B0, d0, e6, hc0, hi0⟩, e7, e8, e9, e10, ⟨B1, d1, e11, hc1, hi1⟩, _⟩ := hx
  simp only [Rel.fill, Nat.zero_add, Nat.reduceAdd, e0, e1, e2, e3, e4, e5, e6, e7, e8, e9, e10, e11]
  simp only [Act.put, List.setIfInBounds_toArray, List.set_cons_zero, List.set_cons_succ]
  clear e0 e1 e2 e3 e4 e5 e6 e7 e8 e9 e10 e11
  have fHT_2 := Lib.hid (KS.st _ _ _ _ _ fHT_1.out h2)
  have fHG_2 := Lib.hid (KS.st _ _ _ _ _ fHG_1.out h2)
  have bg_2 := Lib.hid (bg_1.out.below h2)
  have bz_2 := Lib.hid (bz_1.out.below h2)
  have ty_2 := Lib.hid (ty_1.out.below h2)
  have HB2 := Lib.hid (HB1.out.trans (h2.mono HB1.out.size))
  have r0 := Lib.hid (show KSI M ts (.slice B0 M d0) w2 from ⟨_, _, rfl, hc0, hi0⟩)
  clear hc0 hi0
  have r1 := Lib.hid (show KSI L gs (.slice B1 L d1) w2 from ⟨_, _, rfl, hc1, hi1⟩)
  clear hc1 hi1
  clear h2 f0 f1 f2 f3 f4 fl
  obtain ⟨z0, z1, z2, z3, z4, zl, zf⟩ := bz_2.out.o5
  go_wp2
  clear z0 z1 z2 z3 z4 zl zf
  have KR := (((((bz_2.out.set (i := 0) (by simp) ((.int .i64 lk))).set (i := 1) (by simp) ((.int .i64 ht))).set (i := 2) (by simp) (.slice B0 M d0)).set (i := 3) (by simp) ((.int .i64 rc))).set (i := 4) (by simp) (.slice B1 L d1))
  obtain ⟨k0, k1, k2, k3, k4, -, -⟩ := KR.o5
  obtain ⟨_, _, ee0, x0, y0⟩ := (((((r0.out.put ty_2.out (by decide) 0 ((.int .i64 lk))).put (ty_2.out.put 0 ((.int .i64 lk))) (by decide) 1 ((.int .i64 ht))).put ((ty_2.out.put 0 ((.int .i64 lk))).put 1 ((.int .i64 ht))) (by decide) 2 (.slice B0 M d0)).put (((ty_2.out.put 0 ((.int .i64 lk))).put 1 ((.int .i64 ht))).put 2 (.slice B0 M d0)) (by decide) 3 ((.int .i64 rc))).put ((((ty_2.out.put 0 ((.int .i64 lk))).put 1 ((.int .i64 ht))).put 2 (.slice B0 M d0)).put 3 ((.int .i64 rc))) (by decide) 4 (.slice B1 L d1))
  cases ee0
  obtain ⟨_, _, ee1, x1, y1⟩ := (((((r1.out.put ty_2.out (by decide) 0 ((.int .i64 lk))).put (ty_2.out.put 0 ((.int .i64 lk))) (by decide) 1 ((.int .i64 ht))).put ((ty_2.out.put 0 ((.int .i64 lk))).put 1 ((.int .i64 ht))) (by decide) 2 (.slice B0 M d0)).put (((ty_2.out.put 0 ((.int .i64 lk))).put 1 ((.int .i64 ht))).put 2 (.slice B0 M d0)) (by decide) 3 ((.int .i64 rc))).put ((((ty_2.out.put 0 ((.int .i64 lk))).put 1 ((.int .i64 ht))).put 2 (.slice B0 M d0)).put 3 ((.int .i64 rc))) (by decide) 4 (.slice B1 L d1))
  cases ee1
  refine bodyPost_ret (v := .agg #[(.int .i64 lk), (.int .i64 ht), .slice B0 M d0, (.int .i64 rc), .slice B1 L d1]) ?_ rfl ⟨_, rfl, ⟨B0, d0, B1, d1, rfl, x0, x1, y0, y1⟩, (((((HB2.out.setCell (p := ⟨w.heap.size + 1, 0, none⟩) (by simp) ((.int .i64 lk))).setCell (p := ⟨w.heap.size + 1, 1, none⟩) (by simp) ((.int .i64 ht))).setCell (p := ⟨w.heap.size + 1, 2, none⟩) (by simp) (.slice B0 M d0)).setCell (p := ⟨w.heap.size + 1, 3, none⟩) (by simp) ((.int .i64 rc))).setCell (p := ⟨w.heap.size + 1, 4, none⟩) (by simp) (.slice B1 L d1))⟩
  simp [results, Tryd.results17, go_sem, k0, k1, k2, k3, k4]
end Go.Proofs.YtdeapbihbhoefaaDoor

/- The reference's small functions: power, cooled, abs, By, CheckHeat. -/
namespace Go.Proofs.YtdeapbihbhoefaaDoor
open Go.RowKit
open Calm (bcell Blk)

end Go.Proofs.YtdeapbihbhoefaaDoor

/- The reference's Begin, CheckState, SameState. -/
namespace Go.Proofs.YtdeapbihbhoefaaDoor
open Go.RowKit
open Calm (bcell Blk)

theorem rGuard_K {lk ht rc : Int} {M L : Nat} {ts gs : List Int} {u : Value} {W : World} (hM : M = ts.length) (hL : L = gs.length) (h1 : M ≤ 1000) (h2 : L ≤ 1000) (hu : KG lk ht rc M ts L gs u W) : Calls Tryd.prog 18 #[u] W (KP (KV (.int .i64 (guardErr lk ht rc ts gs))) W) := by
  obtain ⟨A1, c1, A2, c2, rfl, hT, hG⟩ := hu
  subst hM hL
  exact (pGuard_any lk ht rc ts gs A1 A2 c1 c2 W hT hG (by omega) (by omega)).mono fun e W' ⟨h, hb⟩ => ⟨_, h, rfl, hb⟩
end Go.Proofs.YtdeapbihbhoefaaDoor

/- The reference's Steady, Quiet, Cool. -/
namespace Go.Proofs.YtdeapbihbhoefaaDoor
open Go.RowKit
open Calm (bcell Blk)

end Go.Proofs.YtdeapbihbhoefaaDoor

/- The reference's Behind. -/
namespace Go.Proofs.YtdeapbihbhoefaaDoor
open Go.RowKit
open Calm (bcell Blk)

theorem Cells.takeN {w : World} {A : Option Addr} {zs : List Int} (h : Cells w A zs) (n : Nat) : Cells w A (zs.take n) := by
  intro h0
  obtain ⟨b, o, hA, hl, hc⟩ := h (by simp at h0; omega)
  refine ⟨b, o, hA, hl, fun k hk => ?_⟩
  have hk2 : k < n ∧ k < zs.length := by simp at hk; omega
  rw [hc k hk2.2]
  simp [List.getD, hk2.1]
namespace RelH
open Rel (ons Know)
variable {DS : List Tmp} {w0 : World} {a0 : Act} {T : Ctx → Prop} {Γ : Ctx} {o : Oper} {rest : List Oper}
end RelH

end Go.Proofs.YtdeapbihbhoefaaDoor

/- The reference's Tails. -/
namespace Go.Proofs.YtdeapbihbhoefaaDoor
open Go.RowKit
open Calm (bcell Blk)
end Go.Proofs.YtdeapbihbhoefaaDoor

/- The reference's Safe. -/
namespace Go.Proofs.YtdeapbihbhoefaaDoor
open Go.RowKit
open Calm (bcell Blk)
end Go.Proofs.YtdeapbihbhoefaaDoor

/- Plain laws of ProtectKeeps: the limits as sums of the taps. -/
namespace Go.Proofs.YtdeapbihbhoefaaDoor
open Go.RowKit

/-- the output so many outputs before the last one of some. -/
def revD (os : List Int) (j : Nat) : Int := if j < os.length then os.getD (os.length - 1 - j) 0 else 0
/-- the last n outputs, the latest one first. -/
def pastL (n : Nat) (os : List Int) : List Int := (List.range n).map (revD os)
/-- the sum of m taps from one on, over the last outputs. -/
def latK (ts os : List Int) (later : Nat) : Nat → Int
  | 0 => 0
  | m + 1 => latK ts os later m + ts.getD (later + m) 0 * revD os m
/-- the heat behind the last one of some outputs, and the excursions at it and behind it, keep the limits. -/
def keepsF (lk ht rc h : Int) (ts os : List Int) : Bool :=
  decide (coolF lk h + revD os 0 * revD os 0 ≤ ht) && (List.range ts.length).all fun later => decide (absI (latK ts os later (ts.length - later)) ≤ rc)
theorem revD_snoc0 (os : List Int) (y : Int) : revD (os ++ [y]) 0 = y := by
  unfold revD
  rw [if_pos (by simp)]
  simp [List.getD_eq_getElem?_getD]
theorem revD_snoc (os : List Int) (y : Int) (j : Nat) : revD (os ++ [y]) (j + 1) = revD os j := by
  unfold revD
  simp only [List.length_append, List.length_cons, List.length_nil]
  by_cases h : j < os.length
  · rw [if_pos (by omega), if_pos h, List.getD_eq_getElem?_getD, List.getD_eq_getElem?_getD, List.getElem?_append_left (by omega)]
    congr 2
    omega
  · rw [if_neg (by omega), if_neg h]
theorem pastL_len (n : Nat) (os : List Int) : (pastL n os).length = n := by simp [pastL]
theorem pastL_getD (n : Nat) (os : List Int) (j : Nat) : (pastL n os).getD j 0 = if j < n then revD os j else 0 := by
  unfold pastL
  rw [List.getD_eq_getElem?_getD, List.getElem?_map]
  by_cases h : j < n
  · rw [if_pos h, List.getElem?_range h]; rfl
  · rw [if_neg h, List.getElem?_eq_none (by simpa using h)]; rfl
theorem pastL_nil (n : Nat) : pastL n [] = List.replicate n 0 := by
  apply List.ext_getElem
  · simp [pastL]
  · intro i h1 h2; simp [pastL, revD]
theorem pastL_snoc (n : Nat) (os : List Int) (y : Int) : pastL n (os ++ [y]) = pushL (pastL n os) y := by
  apply List.ext_getElem
  · rw [pushL_len, pastL_len, pastL_len]
  · intro i h1 h2
    rw [pastL_len] at h1
    have e1 : (pastL n (os ++ [y]))[i] = (pastL n (os ++ [y])).getD i 0 := by rw [List.getD_eq_getElem?_getD, List.getElem?_eq_getElem (by rw [pastL_len]; exact h1)]; rfl
    have e2 : (pushL (pastL n os) y)[i] = (pushL (pastL n os) y).getD i 0 := by rw [List.getD_eq_getElem?_getD, List.getElem?_eq_getElem h2]; rfl
    rw [e1, e2, pastL_getD, if_pos h1, pushL_getD, pastL_len, if_pos h1]
    cases i with
    | zero => rw [revD_snoc0]; rfl
    | succ j => rw [revD_snoc, List.getD_cons_succ, pastL_getD, if_pos (by omega)]
theorem latK_now {ts os : List Int} {n : Nat} (y : Int) : ∀ k, k ≤ n → exK ts (pastL n os) y k = latK ts (os ++ [y]) 0 (k + 1)
  | 0, _ => by simp [exK, latK, revD_snoc0]
  | k + 1, h => by
    show exK ts (pastL n os) y k + ts.getD (k + 1) 0 * (pastL n os).getD k 0 = latK ts (os ++ [y]) 0 (k + 1) + ts.getD (0 + (k + 1)) 0 * revD (os ++ [y]) (k + 1)
    rw [latK_now y k (by omega), revD_snoc, pastL_getD, if_pos (by omega), Nat.zero_add]
theorem latK_later {ts os : List Int} {n k : Nat} : ∀ m, k + m ≤ n → exK ts (psK (pastL n os) k) 0 (k + m) = latK ts os (k + 1) m
  | 0, h => by
    rw [Nat.add_zero, latK]
    refine exK_zero (fun i hi => ?_)
    rw [psK_getD, pastL_len, if_pos (by omega), if_pos hi]
  | m + 1, h => by
    show exK ts (psK (pastL n os) k) 0 (k + m + 1) = _
    rw [exK, latK_later m (by omega), latK, psK_getD, pastL_len, if_pos (by omega), if_neg (by omega), pastL_getD, if_pos (by omega)]
    rw [show k + m - k = m by omega, show k + m + 1 = k + 1 + m by omega]
theorem keeps_fine {lk ht rc h y : Int} {ts os : List Int} (h1 : 1 ≤ ts.length) :
    keepsF lk ht rc h ts (os ++ [y]) = fineF ht rc (coolF lk h + y * y) (exF ts (pastL (ts.length - 1) os) y) ts (pushL (pastL (ts.length - 1) os) y) := by
  unfold keepsF fineF
  rw [revD_snoc0]
  rw [Bool.and_assoc]
  congr 1
  rw [Bool.eq_iff_iff, Bool.and_eq_true, List.all_eq_true, Bool.not_eq_true', Bool.not_eq_true', farAny_false, decide_eq_false_iff_not]
  have e0 : exF ts (pastL (ts.length - 1) os) y = latK ts (os ++ [y]) 0 ts.length := by
    unfold exF
    rw [pastL_len, latK_now y _ (Nat.le_refl _)]
    congr 1
    omega
  have e1 : ∀ k, k < ts.length - 1 → exF ts (psK (pushL (pastL (ts.length - 1) os) y) k) 0 = latK ts (os ++ [y]) (k + 1) (ts.length - (k + 1)) := by
    intro k hk
    rw [← pastL_snoc]
    unfold exF
    rw [psK_len, pastL_len]
    have := latK_later (ts := ts) (os := os ++ [y]) (n := ts.length - 1) (k := k) (ts.length - 1 - k) (by omega)
    rw [show k + (ts.length - 1 - k) = ts.length - 1 by omega, show ts.length - 1 - k = ts.length - (k + 1) by omega] at this
    exact this
  constructor
  · intro h
    refine ⟨?_, ?_⟩
    · have := of_decide_eq_true (h 0 (List.mem_range.2 (by omega)))
      rw [Nat.sub_zero, ← e0] at this
      omega
    · intro x hx
      unfold tailsF tailsL at hx
      obtain ⟨k, hk, rfl⟩ := List.mem_map.1 hx
      rw [List.mem_range, pushL_len, pastL_len] at hk
      rw [e1 k hk]
      exact of_decide_eq_true (h (k + 1) (List.mem_range.2 (by omega)))
  · rintro ⟨h0, h2⟩ later hl
    rw [List.mem_range] at hl
    refine decide_eq_true ?_
    cases later with
    | zero => rw [Nat.sub_zero, ← e0]; omega
    | succ k =>
      rw [← e1 k (by omega)]
      refine h2 _ ?_
      unfold tailsF tailsL
      exact List.mem_map.2 ⟨k, List.mem_range.2 (by rw [pushL_len, pastL_len]; omega), rfl⟩
end Go.Proofs.YtdeapbihbhoefaaDoor

/- Plain laws of ProtectOpposite. -/
namespace Go.Proofs.YtdeapbihbhoefaaDoor
open Go.RowKit

end Go.Proofs.YtdeapbihbhoefaaDoor
