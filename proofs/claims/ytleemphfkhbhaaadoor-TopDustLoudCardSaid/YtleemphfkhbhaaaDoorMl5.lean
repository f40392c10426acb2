/- Part 5 of the texts of the claim: P15, S1, S2, S3. -/
import Derived.Test.YtleemphfkhbhaaaDoorMl4

/- Contract of CheckGuard. -/
namespace Go.Proofs.YtleemphfkhbhaaaDoor
open Go.RowKit
open Calm (bcell Blk)

def guardErr1 (lk ht rc : Int) (ts gs : List Int) : Int := firstOf [rangeErr lk 1 8, rangeErr ht 0 536870912, someErr ts.length 8, eachErr ts (-64) 64, rangeErr rc 0 1048576, someErr gs.length 8]
def guardErr2 (gs : List Int) : Int := firstOf [rangeErr (gs.getD 0 0) 0 16, if gs.getD 0 0 ≠ 0 then 11 else 0, ascErr gs 0 16]
/-- the error of a guard. -/
def guardErr (lk ht rc : Int) (ts gs : List Int) : Int := if guardErr1 lk ht rc ts gs = 0 then guardErr2 gs else guardErr1 lk ht rc ts gs
theorem firstOf_eq_zero {l : List Int} : firstOf l = 0 ↔ ∀ x ∈ l, x = 0 := by
  induction l with
  | nil => simp [firstOf]
  | cons a l ih =>
    by_cases ha : a = 0
    · subst ha
      simp only [firstOf, List.find?_cons, bne_self_eq_false] at ih ⊢
      simpa using ih
    · have : (a != 0) = true := by simpa using ha
      simp [firstOf, this, ha]
theorem first_cells (l : List Int) (W : World) (hl : l.length ≤ 100) : Calls Tryd.prog 34 #[.slice (some ⟨W.heap.size, 0, none⟩) l.length l.length] (W.alloc (.cells (l.map (Value.int .i64)).toArray 35)) fun r w' => r = .returned (.int .i64 (firstOf l)) ∧ (W.alloc (.cells (l.map (Value.int .i64)).toArray 35)) = w' :=
  first_any l _ _ _ (by omega) (Cells.row (heap_new rfl))

set_option maxHeartbeats 4000000 in
set_option maxRecDepth 100000 in
theorem checkGuard_any (lk ht rc : Int) (ts gs : List Int) (A1 A2 : Option Addr) (c1 c2 : Nat) (w : World) (hT0 : Cells w A1 ts) (hG0 : Cells w A2 gs) (h1 : ts.length ≤ 5000) (h2 : gs.length ≤ 5000) :
    Calls Tryd.prog 35 #[.agg #[(.int .i64 (lk)), (.int .i64 (ht)), .slice A1 ts.length c1, (.int .i64 (rc)), .slice A2 gs.length c2]] w fun r w' => r = .returned (.int .i64 (guardErr lk ht rc ts gs)) ∧ Below w.heap.size w w' := by
  obtain ⟨M, hM⟩ : ∃ M, M = ts.length := ⟨_, rfl⟩
  obtain ⟨L, hL⟩ : ∃ L, L = gs.length := ⟨_, rfl⟩
  have HT := Lib.hid hT0
  have HG := Lib.hid hG0
  have HE : Hid (∀ W lo hi, Cells W A1 ts → Calls Tryd.prog 53 #[.slice A1 M c1, (.int .i64 (lo)), (.int .i64 (hi))] W fun r w' => r = .returned (.int .i64 (eachErr ts lo hi)) ∧ Below W.heap.size W w') := Lib.hid (fun W lo hi q => by rw [hM]; exact each_any A1 ts c1 lo hi W q h1)
  have HA : Hid (∀ W lo hi, Cells W A2 gs → Calls Tryd.prog 37 #[.slice A2 L c2, (.int .i64 (lo)), (.int .i64 (hi))] W fun r w' => r = .returned (.int .i64 (ascErr gs lo hi)) ∧ Below W.heap.size W w') := Lib.hid (fun W lo hi q => by rw [hL]; exact ascending_any A2 gs c2 lo hi W q h2)
  have HF6 : Hid (∀ (W : World) (a b c d e f : Int), Calls Tryd.prog 34 #[.slice (some ⟨W.heap.size, 0, none⟩) 6 6] (W.alloc (.cells #[(.int .i64 (a)), (.int .i64 (b)), (.int .i64 (c)), (.int .i64 (d)), (.int .i64 (e)), (.int .i64 (f))] 35)) fun r w' => r = .returned (.int .i64 (firstOf [a, b, c, d, e, f])) ∧ (W.alloc (.cells #[(.int .i64 (a)), (.int .i64 (b)), (.int .i64 (c)), (.int .i64 (d)), (.int .i64 (e)), (.int .i64 (f))] 35)) = w') := Lib.hid (fun W a b c d e f => first_cells [a, b, c, d, e, f] W (by simp))
  have HF3 : Hid (∀ (W : World) (a b c : Int), Calls Tryd.prog 34 #[.slice (some ⟨W.heap.size, 0, none⟩) 3 3] (W.alloc (.cells #[(.int .i64 (a)), (.int .i64 (b)), (.int .i64 (c))] 35)) fun r w' => r = .returned (.int .i64 (firstOf [a, b, c])) ∧ (W.alloc (.cells #[(.int .i64 (a)), (.int .i64 (b)), (.int .i64 (c))] 35)) = w') := Lib.hid (fun W a b c => first_cells [a, b, c] W (by simp))
  have HX1 : Hid (firstOf [rangeErr lk 1 8, rangeErr ht 0 536870912, someErr M 8, eachErr ts (-64) 64, rangeErr rc 0 1048576, someErr L 8] = guardErr1 lk ht rc ts gs) := Lib.hid (by rw [hM, hL]; rfl)
  have HX2 : Hid (guardErr1 lk ht rc ts gs = 0 → 0 < L) := Lib.hid (fun h => by
    have := firstOf_eq_zero.1 h (someErr gs.length 8) (by simp)
    rw [hL]
    rcases Nat.eq_zero_or_pos gs.length with h0 | h0
    · rw [h0] at this; exact absurd this (by decide)
    · exact h0)
  have HX3 : Hid (firstOf [rangeErr (gs.getD 0 0) 0 16, if gs.getD 0 0 ≠ 0 then 11 else 0, ascErr gs 0 16] = guardErr2 gs) := Lib.hid rfl
  have HX4 : Hid (guardErr lk ht rc ts gs = if guardErr1 lk ht rc ts gs = 0 then guardErr2 gs else guardErr1 lk ht rc ts gs) := Lib.hid rfl
  have HLL := Lib.hid hL
  obtain ⟨E1, hE1⟩ : ∃ E, E = guardErr1 lk ht rc ts gs := ⟨_, rfl⟩
  rw [← hE1] at HX1 HX2 HX4
  rw [← hM] at h1
  rw [← hL] at h2
  rw [← hM, ← hL]
  obtain ⟨R, hR⟩ : ∃ R, R = guardErr lk ht rc ts gs := ⟨_, rfl⟩
  rw [← hR] at HX4 ⊢
  clear hM hL hT0 hG0 hE1 hR
  go_enter Tryd.func35, Tryd.ntmps35
  go_wp2
  refine Calm.tail_below 17 (by kernel_rfl) (by kernel_rfl) ?_
  simp only [List.take_succ_cons, List.take_zero, List.drop_succ_cons, List.drop_zero]
  repeat (first | (first | (apply Calm.op_move; (focus rfl); (focus (first | exact .inl rfl | exact .inr rfl)); (focus ((try simp only [Act.eval, Array.getD_eq_getD_getElem?, List.getElem?_toArray, List.getElem?_cons_succ, List.getElem?_cons_zero, Option.getD_some]); rfl)); (try simp only [Act.put, List.setIfInBounds_toArray, List.set_cons_zero, List.set_cons_succ])) | (apply Calm.op_not; (focus rfl); (try simp only [Act.put, List.setIfInBounds_toArray, List.set_cons_zero, List.set_cons_succ])) | (apply Calm.op; (focus rfl); (focus (intro W hb; obtain ⟨hc, hf⟩ := bcell hb; clear hb hf; go_simp; (try go_bits); (try rfl); done)); (try simp only [Act.put, List.setIfInBounds_toArray, List.set_cons_zero, List.set_cons_succ]))) | (apply Calm.op_call; (focus rfl); (focus (intro W hb; obtain ⟨hc, hf⟩ := bcell hb; clear hb hf; go_simp; refine ⟨?_, ?_⟩; rfl; rfl)); (focus (intro W hb; first | (go_at_call 38; exact Calm.call_same hb (within_any _ _ _ _)) | (go_at_call 36; exact Calm.call_below hb (some_any _ _ _ _ _ (by omega))) | (go_at_call 53; exact Calm.call_below hb (HE.out _ _ _ (HT.out.below (Below.trans (by (repeat (first | (with_reducible exact Below.refl _ _) | ((with_reducible refine Below.setCell ?_ ?_ _); rotate_left 1; focus (first | (simp; done) | (simp; omega) | (simp at *; omega))) | ((with_reducible refine Below.alloc ?_ ?_ _); rotate_left 1; focus (first | (simp; done) | (simp; omega) | (simp at *; omega))) | (with_reducible refine Below.drew ?_) | ((with_reducible refine Calm.step (by assumption) ?_ ?_); rotate_left 1; focus (first | (simp; done) | (simp; omega) | (simp at *; omega)))))) (hb.mono (by simp)))))))); (try simp only [Act.put, List.setIfInBounds_toArray, List.set_cons_zero, List.set_cons_succ])))
  refine wpQuiet_nil ?_
  intro w1 hb
  obtain ⟨hbc, hbf⟩ := bcell hb
  have hbz := hb.size
  (try simp at hbz)
  (try have hbz0 : w.heap.size < w1.heap.size := by omega)
  (try have hbz1 : w.heap.size + 1 < w1.heap.size := by omega)
  (try have hbz2 : w.heap.size + 1 + 1 < w1.heap.size := by omega)
  (try have hbz3 : w.heap.size + 1 + 1 + 1 < w1.heap.size := by omega)
  (try have hbz4 : w.heap.size + 1 + 1 + 1 + 1 < w1.heap.size := by omega)
  (try have hbz5 : w.heap.size + 1 + 1 + 1 + 1 + 1 < w1.heap.size := by omega)
  have HB1 : Hid (Below w.heap.size w w1) := Lib.hid (Below.trans (by (repeat (first | (with_reducible exact Below.refl _ _) | ((with_reducible refine Below.setCell ?_ ?_ _); rotate_left 1; focus (first | (simp; done) | (simp; omega) | (simp at *; omega))) | ((with_reducible refine Below.alloc ?_ ?_ _); rotate_left 1; focus (first | (simp; done) | (simp; omega) | (simp at *; omega))) | (with_reducible refine Below.drew ?_) | ((with_reducible refine Calm.step (by assumption) ?_ ?_); rotate_left 1; focus (first | (simp; done) | (simp; omega) | (simp at *; omega)))))) (hb.mono (by simp)))
  have K0 : Blk w1 w.heap.size #[(.int .i64 (lk)), (.int .i64 (ht)), .slice A1 M c1, (.int .i64 (rc)), .slice A2 L c2] := Blk.below (by (repeat (first | ((with_reducible refine Blk.at_ ?_); focus (first | rfl | (simp; done) | (simp; omega))) | (with_reducible refine Blk.alloc ?_ _) | (with_reducible refine Blk.below ?_ (by with_reducible assumption)) | (with_reducible refine Blk.drew ?_)))) hb
  obtain ⟨c00, c01, c02, c03, c04, l0, f0⟩ := K0.o5
  have HK0 := Lib.hid K0
  clear K0 hb hbc hbf
  by_cases h0 : E1 = 0
  · have HX4' : Hid (R = guardErr2 gs) := Lib.hid (by rw [HX4.out, if_pos h0])
    have hL0 := HX2.out h0
    obtain ⟨b, o, rfl, l1, k1⟩ := HG.out (by rw [← HLL.out]; exact hL0)
    have x0 := k1 0 (by rw [← HLL.out]; exact hL0)
    rw [Nat.add_zero] at x0
    have x1 := (HB1.out.cell (p := ⟨b, o, none⟩) l1).trans x0
    have l2 : b < w1.heap.size := by omega
    obtain ⟨g0, hg0⟩ : ∃ g0, g0 = gs.getD 0 0 := ⟨_, rfl⟩
    rw [← hg0] at x1 HX3
    rw [h0] at HX1
    have hLi : (0 : Int) < (L : Int) := by omega
    clear HX4 HX2 k1 x0 hg0 h0
    go_wp2_with (first
      | (go_at_call 36; refine (some_any _ _ _ _ _ (by omega)).mono ?_; rintro r w2 ⟨rfl, hb2⟩; have HK2 := Lib.hid (HK0.out.below hb2); have HB2 := Lib.hid (HB1.out.trans (hb2.mono (by omega))); have hs2 := hb2.size; have hz20 : w.heap.size < w2.heap.size := (by omega); (try have l3 : b < w2.heap.size := (by omega)); obtain ⟨hc2, hf2⟩ := bcell hb2; clear hb2)
      | (go_at_call 34; refine (HF6.out _ _ _ _ _ _ _).mono ?_; rintro r w3 ⟨rfl, rfl⟩; rw [HX1.out]))
    by_cases hg : g0 = 0
    · subst hg
      · skip
        refine name_world ?_
        intro w4 e4
        have HB4 : Hid (Below w.heap.size w w4) := Lib.hid (by rw [e4]; exact HB2.out.alloc (by omega) _)
        have K4 : Blk w4 w.heap.size #[(.int .i64 (lk)), (.int .i64 (ht)), .slice A1 M c1, (.int .i64 (rc)), .slice (some ⟨b, o, none⟩) L c2] := by rw [e4]; exact HK2.out.alloc _
        obtain ⟨d00, d01, d02, d03, d04, m0, g0'⟩ := K4.o5
        have hz4 : w.heap.size ≤ w4.heap.size := HB4.out.size
        clear e4 K4 HK2 HB2 hc2 hf2 c00 c01 c02 c03 c04 l0 f0
        refine Calm.tail_below 7 (by kernel_rfl) (by kernel_rfl) ?_
        simp only [List.take_succ_cons, List.take_zero, List.drop_succ_cons, List.drop_zero]
        repeat (first | (first | (apply Calm.op_move; (focus rfl); (focus (first | exact .inl rfl | exact .inr rfl)); (focus ((try simp only [Act.eval, Array.getD_eq_getD_getElem?, List.getElem?_toArray, List.getElem?_cons_succ, List.getElem?_cons_zero, Option.getD_some]); rfl)); (try simp only [Act.put, List.setIfInBounds_toArray, List.set_cons_zero, List.set_cons_succ])) | (apply Calm.op_not; (focus rfl); (try simp only [Act.put, List.setIfInBounds_toArray, List.set_cons_zero, List.set_cons_succ])) | (apply Calm.op; (focus rfl); (focus (intro W hb; obtain ⟨hc, hf⟩ := bcell hb; clear hb hf; go_simp; (try go_bits); (try rfl); done)); (try simp only [Act.put, List.setIfInBounds_toArray, List.set_cons_zero, List.set_cons_succ]))) | (apply Calm.op_call; (focus rfl); (focus (intro W hb; obtain ⟨hc, hf⟩ := bcell hb; clear hb hf; go_simp; refine ⟨?_, ?_⟩; rfl; rfl)); (focus (intro W hb; first | (go_at_call 38; exact Calm.call_same hb (within_any _ _ _ _)) | (go_at_call 40; exact Calm.call_same hb (when_any _ _ _)))); (try simp only [Act.put, List.setIfInBounds_toArray, List.set_cons_zero, List.set_cons_succ])))
        refine wpQuiet_nil ?_
        intro w5 hb5
        obtain ⟨hb5c, hb5f⟩ := bcell hb5
        have hb5z := hb5.size
        (try simp at hb5z)
        (try have hb5z0 : w.heap.size < w5.heap.size := by omega)
        (try have hb5z1 : w.heap.size + 1 < w5.heap.size := by omega)
        (try have hb5z2 : w.heap.size + 1 + 1 < w5.heap.size := by omega)
        (try have hb5z3 : w.heap.size + 1 + 1 + 1 < w5.heap.size := by omega)
        (try have hb5z4 : w.heap.size + 1 + 1 + 1 + 1 < w5.heap.size := by omega)
        (try have hb5z5 : w.heap.size + 1 + 1 + 1 + 1 + 1 < w5.heap.size := by omega)
        have HB5 : Hid (Below w.heap.size w w5) := Lib.hid (HB4.out.trans (hb5.mono hz4))
        have hz5 := hb5.size
        clear hb5 hb5c hb5f
        go_wp2_with (first
          | (go_at_call 37; refine (HA.out _ _ _ (HG.out.below HB5.out)).mono ?_; rintro r w6 ⟨rfl, hb6⟩; have HB6 := Lib.hid (HB5.out.trans (hb6.mono (by omega))); have hs6 := hb6.size; clear hb6)
          | (go_at_call 34; refine (HF3.out _ _ _ _).mono ?_; rintro r w7 ⟨rfl, rfl⟩))
        go_ret
        exact ⟨ret_i (by rw [HX4'.out, ← HX3.out]; simp), HB6.out.alloc (by omega) _⟩
    · skip
      · skip
        refine name_world ?_
        intro w4 e4
        have HB4 : Hid (Below w.heap.size w w4) := Lib.hid (by rw [e4]; exact HB2.out.alloc (by omega) _)
        have K4 : Blk w4 w.heap.size #[(.int .i64 (lk)), (.int .i64 (ht)), .slice A1 M c1, (.int .i64 (rc)), .slice (some ⟨b, o, none⟩) L c2] := by rw [e4]; exact HK2.out.alloc _
        obtain ⟨d00, d01, d02, d03, d04, m0, g0'⟩ := K4.o5
        have hz4 : w.heap.size ≤ w4.heap.size := HB4.out.size
        clear e4 K4 HK2 HB2 hc2 hf2 c00 c01 c02 c03 c04 l0 f0
        refine Calm.tail_below 7 (by kernel_rfl) (by kernel_rfl) ?_
        simp only [List.take_succ_cons, List.take_zero, List.drop_succ_cons, List.drop_zero]
        repeat (first | (first | (apply Calm.op_move; (focus rfl); (focus (first | exact .inl rfl | exact .inr rfl)); (focus ((try simp only [Act.eval, Array.getD_eq_getD_getElem?, List.getElem?_toArray, List.getElem?_cons_succ, List.getElem?_cons_zero, Option.getD_some]); rfl)); (try simp only [Act.put, List.setIfInBounds_toArray, List.set_cons_zero, List.set_cons_succ])) | (apply Calm.op_not; (focus rfl); (try simp only [Act.put, List.setIfInBounds_toArray, List.set_cons_zero, List.set_cons_succ])) | (apply Calm.op; (focus rfl); (focus (intro W hb; obtain ⟨hc, hf⟩ := bcell hb; clear hb hf; go_simp; (try go_bits); (try rfl); done)); (try simp only [Act.put, List.setIfInBounds_toArray, List.set_cons_zero, List.set_cons_succ]))) | (apply Calm.op_call; (focus rfl); (focus (intro W hb; obtain ⟨hc, hf⟩ := bcell hb; clear hb hf; go_simp; refine ⟨?_, ?_⟩; rfl; rfl)); (focus (intro W hb; first | (go_at_call 38; exact Calm.call_same hb (within_any _ _ _ _)) | (go_at_call 40; exact Calm.call_same hb (when_any _ _ _)))); (try simp only [Act.put, List.setIfInBounds_toArray, List.set_cons_zero, List.set_cons_succ])))
        refine wpQuiet_nil ?_
        intro w5 hb5
        obtain ⟨hb5c, hb5f⟩ := bcell hb5
        have hb5z := hb5.size
        (try simp at hb5z)
        (try have hb5z0 : w.heap.size < w5.heap.size := by omega)
        (try have hb5z1 : w.heap.size + 1 < w5.heap.size := by omega)
        (try have hb5z2 : w.heap.size + 1 + 1 < w5.heap.size := by omega)
        (try have hb5z3 : w.heap.size + 1 + 1 + 1 < w5.heap.size := by omega)
        (try have hb5z4 : w.heap.size + 1 + 1 + 1 + 1 < w5.heap.size := by omega)
        (try have hb5z5 : w.heap.size + 1 + 1 + 1 + 1 + 1 < w5.heap.size := by omega)
        have HB5 : Hid (Below w.heap.size w w5) := Lib.hid (HB4.out.trans (hb5.mono hz4))
        have hz5 := hb5.size
        clear hb5 hb5c hb5f
        go_wp2_with (first
          | (go_at_call 37; refine (HA.out _ _ _ (HG.out.below HB5.out)).mono ?_; rintro r w6 ⟨rfl, hb6⟩; have HB6 := Lib.hid (HB5.out.trans (hb6.mono (by omega))); have hs6 := hb6.size; clear hb6)
          | (go_at_call 34; refine (HF3.out _ _ _ _).mono ?_; rintro r w7 ⟨rfl, rfl⟩))
        go_ret
        exact ⟨ret_i (by rw [HX4'.out, ← HX3.out]; simp [hg]), HB6.out.alloc (by omega) _⟩
  · have HX4' : Hid (R = E1) := Lib.hid (by rw [HX4.out, if_neg h0])
    clear HX4 HX2
    go_wp2_with (first
      | (go_at_call 36; refine (some_any _ _ _ _ _ (by omega)).mono ?_; rintro r w2 ⟨rfl, hb2⟩; have HK2 := Lib.hid (HK0.out.below hb2); have HB2 := Lib.hid (HB1.out.trans (hb2.mono (by omega))); have hs2 := hb2.size; have hz20 : w.heap.size < w2.heap.size := (by omega); (try have l3 : b < w2.heap.size := (by omega)); obtain ⟨hc2, hf2⟩ := bcell hb2; clear hb2)
      | (go_at_call 34; refine (HF6.out _ _ _ _ _ _ _).mono ?_; rintro r w3 ⟨rfl, rfl⟩; rw [HX1.out]))
    go_ret
    exact ⟨ret_i HX4'.out.symm, HB2.out.alloc (by omega) _⟩
end Go.Proofs.YtleemphfkhbhaaaDoor

/- Contracts of the small functions of package section. -/
namespace Go.Proofs.YtleemphfkhbhaaaDoor
open Go.RowKit
open Calm (bcell Blk)

theorem sWhen_any (b : Bool) (e : Int) (w : World) : Calls Tryd.prog 44 #[.bool b, (.int .i64 (e))] w fun r w' => r = .returned (.int .i64 (if b then e else 0)) ∧ w = w' := by
  cases b <;>
  · go_enter Tryd.func44, Tryd.ntmps44
    go_wp2
    go_ret
    exact ⟨rfl, rfl⟩

theorem sWithin_any (n lo hi : Int) (w : World) : Calls Tryd.prog 58 #[(.int .i64 (n)), (.int .i64 (lo)), (.int .i64 (hi))] w fun r w' => r = .returned (.int .i64 (rangeErr n lo hi)) ∧ w = w' := by
  rcases Int.lt_or_le n lo with h | h
  · go_enter Tryd.func58, Tryd.ntmps58
    go_wp2_with (go_at_call 44; refine (sWhen_any _ _ _).mono ?_; rintro r w' ⟨rfl, rfl⟩)
    go_ret
    exact ⟨ret_i (rangeErr_lo h).symm, rfl⟩
  · rcases Int.lt_or_le hi n with h' | h'
    · go_enter Tryd.func58, Tryd.ntmps58
      go_wp2_with (go_at_call 44; refine (sWhen_any _ _ _).mono ?_; rintro r w' ⟨rfl, rfl⟩)
      go_ret
      exact ⟨ret_i (rangeErr_hi h').symm, rfl⟩
    · go_enter Tryd.func58, Tryd.ntmps58
      go_wp2_with (go_at_call 44; refine (sWhen_any _ _ _).mono ?_; rintro r w' ⟨rfl, rfl⟩)
      go_ret
      exact ⟨ret_i (rangeErr_in (by omega) (by omega)).symm, rfl⟩

theorem sFirst_any (l : List Int) (A : Option Addr) (c : Nat) (w : World) (hl : l.length ≤ 5000) (hC : Cells w A l) :
    Calls Tryd.prog 23 #[.slice A l.length c] w fun r w' => r = .returned (.int .i64 (firstOf l)) ∧ w = w' := by
  go_enter Tryd.func23, Tryd.ntmps23
  go_wp2
  go_loop [4, 7] (fun _ i => ∃ k : Nat, k ≤ l.length ∧ i = (.int .i64 (k)) ∧ ∀ j, j < k → l.getD j 0 = 0) (fun _ i => l.length - (intOf i).toNat)
  case atStart => exact ⟨0, Nat.zero_le _, rfl, fun j hj => by omega⟩
  case round =>
    obtain ⟨k, hk, rfl, hz⟩ := hrel
    have HZ := Lib.hid hz
    clear hz
    by_cases hlt : k < l.length
    · obtain ⟨b, off, rfl, hbl, hc⟩ := hC (by omega)
      have hck := hc k hlt
      clear hc hC
      by_cases h0 : l.getD k 0 = 0
      · rw [h0] at hck
        have H0 := Lib.hid h0
        clear h0
        go_wp2
        go_round
        case rel => exact ⟨k + 1, by omega, by go_num, fun j hj => by
          rcases Nat.lt_or_ge j k with hjk | hjk
          · exact HZ.out j hjk
          · obtain rfl : j = k := by omega
            exact H0.out⟩
        case measure => simp [intOf]; omega
      · obtain ⟨x, hx⟩ : ∃ x, x = l.getD k 0 := ⟨_, rfl⟩
        rw [← hx] at hck h0
        have H0 := Lib.hid hx
        clear hx
        go_wp2
        go_ret
        exact ⟨ret_i (by rw [firstOf_take HZ.out hlt (by rw [← H0.out]; exact h0)]; exact H0.out), rfl⟩
    · clear hC
      go_wp2
      go_ret
      exact ⟨ret_i (by rw [firstOf_zero (fun j hj => HZ.out j (by omega))]), rfl⟩


theorem checkTap_any (n : Int) (w : World) : Calls Tryd.prog 57 #[(.int .i64 (n))] w fun r w' => r = .returned (.int .i64 (rangeErr n (-32767) 32767)) ∧ w = w' := by
  go_enter Tryd.func57, Tryd.ntmps57
  go_wp2_with (go_at_call 58; refine (sWithin_any _ _ _ _).mono ?_; rintro r w1 ⟨rfl, rfl⟩)
  go_ret
  exact ⟨rfl, rfl⟩
theorem sValue_any (n : Int) (w : World) : Calls Tryd.prog 48 #[(.int .i64 (n))] w fun r w' => r = .returned (.int .i64 (rangeErr n (-32767) 32767)) ∧ w = w' := by
  go_enter Tryd.func48, Tryd.ntmps48
  go_wp2_with (go_at_call 58; refine (sWithin_any _ _ _ _).mono ?_; rintro r w1 ⟨rfl, rfl⟩)
  go_ret
  exact ⟨rfl, rfl⟩
set_option maxHeartbeats 1000000 in
theorem sMapTap_any (A : Option Addr) (l : List Int) (c : Nat) (w : World) (hC : Cells w A l) (hn : l.length ≤ 5000) :
    Calls Tryd.prog 47 #[.slice A l.length c, .func (.func 57) #[] #[]] w fun r w' =>
      (∃ B d, r = .returned (.slice B l.length d) ∧ Cells w' B (l.map fun n => rangeErr n (-32767) 32767)) ∧ Below w.heap.size w w' := by
  obtain ⟨i0, hii, hz0, hz1, hz2⟩ := info_parts Tryd.infoE
  have HC := Lib.hid hC
  obtain ⟨N, hN⟩ : ∃ N, N = l.length := ⟨_, rfl⟩
  have HN := Lib.hid hN
  have HL : Hid (∀ k, k ≤ N → (errsK l (-32767) 32767 k).length = k) := Lib.hid (fun k hk => errsK_len (by rw [← hN]; exact hk))
  rw [← hN] at hn ⊢
  clear hN hC
  go_enter Tryd.func47, Tryd.ntmps47
  go_wp2
  go_loopw [5, 10] (fun v i wr => ∃ k : Nat, k ≤ N ∧ i = (.int .i64 ((k : Int))) ∧ wr.ownsRow w.heap.size 35 1 v (errsK l (-32767) 32767 k).length ((errsK l (-32767) 32767 k).map (Value.int .i64)) ∧ Below w.heap.size w wr) (fun _ i _ => N - (intOf i).toNat)
  case atStart => exact ⟨0, Nat.zero_le _, rfl, World.ownsRow_nil _ _ _ _, Below.refl _ _⟩
  case round =>
    obtain ⟨k, hk, rfl, hown, hB⟩ := hrel
    have HO := Lib.hid hown
    have hle := Lib.hid (HL.out k hk)
    have hsz := hB.size
    clear hown
    by_cases hlt : k < N
    · obtain ⟨b, o, rfl, l1, k1⟩ := HC.out (by rw [← HN.out]; omega)
      have x1 := (hB.cell (p := ⟨b, o + k, none⟩) l1).trans (k1 k (by rw [← HN.out]; exact hlt))
      have HS := Lib.hid (errsK_succ (lo := -32767) (hi := 32767) (show k < l.length by rw [← HN.out]; exact hlt))
      obtain ⟨x, hx⟩ : ∃ x, x = l.getD k 0 := ⟨_, rfl⟩
      rw [← hx] at x1 HS
      clear k1 hx
      go_wp2_with (first
        | (go_at_call 57; refine (checkTap_any x _).mono ?_; rintro r w2 ⟨rfl, rfl⟩)
        | (at_builtin; refine wpList_append_own _ rfl _ _ 84 rfl w.heap.size 35 i0 (.int .i64 0) 1 8 Tryd.underlying84 hii hz0 hz1 hz2 rfl (by decide) _ _ _ rfl (HO.out.alloc _) ⟨wr.heap.size, 0, none⟩ 1 1 [.int .i64 (rangeErr x (-32767) 32767)] rfl rfl ?c1 ?c2 ?c3 ?c4 ?c5 ?_))
      case c1 =>
        intro j u hj
        match j, hj with
        | 0, hj => simp at hj; subst hj; simp [Addr.add]
      case c2 => intro u hu; simp at hu; subst hu; rfl
      case c3 => have := hle.out; unfold maxLen; omega
      case c4 => have := hle.out; omega
      case c5 => simp; omega
      intro v' w1 hown' hgrow _
      have hB' : Below w.heap.size w w1 := (hB.alloc hsz _).grown hgrow (by simp; omega) (fun j hj => (HO.out.lt j hj).1)
      have HO' := Lib.hid hown'
      clear hgrow hown'
      go_wp2
      go_roundw
      case rel => exact ⟨k + 1, by omega, by go_num, by rw [HS.out]; simpa using HO'.out, hB'⟩
      case measure => simp [intOf]; omega
    · obtain rfl : k = N := by omega
      have hown := HO.out
      have e : errsK l (-32767) 32767 k = l.map fun n => rangeErr n (-32767) 32767 := by rw [HN.out]; exact errsK_all _ _ _
      rw [hle.out, e] at hown
      obtain ⟨B, d, rfl, _, hr⟩ := own_ints hown (by simp [← HN.out])
      have HR := Lib.hid hr
      clear hown e hr
      go_wp2
      go_ret
      exact ⟨⟨B, d, rfl, HR.out⟩, hB⟩
set_option maxHeartbeats 1000000 in
theorem sMapVal_any (A : Option Addr) (l : List Int) (c : Nat) (w : World) (hC : Cells w A l) (hn : l.length ≤ 5000) :
    Calls Tryd.prog 47 #[.slice A l.length c, .func (.func 48) #[] #[]] w fun r w' =>
      (∃ B d, r = .returned (.slice B l.length d) ∧ Cells w' B (l.map fun n => rangeErr n (-32767) 32767)) ∧ Below w.heap.size w w' := by
  obtain ⟨i0, hii, hz0, hz1, hz2⟩ := info_parts Tryd.infoE
  have HC := Lib.hid hC
  obtain ⟨N, hN⟩ : ∃ N, N = l.length := ⟨_, rfl⟩
  have HN := Lib.hid hN
  have HL : Hid (∀ k, k ≤ N → (errsK l (-32767) 32767 k).length = k) := Lib.hid (fun k hk => errsK_len (by rw [← hN]; exact hk))
  rw [← hN] at hn ⊢
  clear hN hC
  go_enter Tryd.func47, Tryd.ntmps47
  go_wp2
  go_loopw [5, 10] (fun v i wr => ∃ k : Nat, k ≤ N ∧ i = (.int .i64 ((k : Int))) ∧ wr.ownsRow w.heap.size 35 1 v (errsK l (-32767) 32767 k).length ((errsK l (-32767) 32767 k).map (Value.int .i64)) ∧ Below w.heap.size w wr) (fun _ i _ => N - (intOf i).toNat)
  case atStart => exact ⟨0, Nat.zero_le _, rfl, World.ownsRow_nil _ _ _ _, Below.refl _ _⟩
  case round =>
    obtain ⟨k, hk, rfl, hown, hB⟩ := hrel
    have HO := Lib.hid hown
    have hle := Lib.hid (HL.out k hk)
    have hsz := hB.size
    clear hown
    by_cases hlt : k < N
    · obtain ⟨b, o, rfl, l1, k1⟩ := HC.out (by rw [← HN.out]; omega)
      have x1 := (hB.cell (p := ⟨b, o + k, none⟩) l1).trans (k1 k (by rw [← HN.out]; exact hlt))
      have HS := Lib.hid (errsK_succ (lo := -32767) (hi := 32767) (show k < l.length by rw [← HN.out]; exact hlt))
      obtain ⟨x, hx⟩ : ∃ x, x = l.getD k 0 := ⟨_, rfl⟩
      rw [← hx] at x1 HS
      clear k1 hx
      go_wp2_with (first
        | (go_at_call 48; refine (sValue_any x _).mono ?_; rintro r w2 ⟨rfl, rfl⟩)
        | (at_builtin; refine wpList_append_own _ rfl _ _ 84 rfl w.heap.size 35 i0 (.int .i64 0) 1 8 Tryd.underlying84 hii hz0 hz1 hz2 rfl (by decide) _ _ _ rfl (HO.out.alloc _) ⟨wr.heap.size, 0, none⟩ 1 1 [.int .i64 (rangeErr x (-32767) 32767)] rfl rfl ?c1 ?c2 ?c3 ?c4 ?c5 ?_))
      case c1 =>
        intro j u hj
        match j, hj with
        | 0, hj => simp at hj; subst hj; simp [Addr.add]
      case c2 => intro u hu; simp at hu; subst hu; rfl
      case c3 => have := hle.out; unfold maxLen; omega
      case c4 => have := hle.out; omega
      case c5 => simp; omega
      intro v' w1 hown' hgrow _
      have hB' : Below w.heap.size w w1 := (hB.alloc hsz _).grown hgrow (by simp; omega) (fun j hj => (HO.out.lt j hj).1)
      have HO' := Lib.hid hown'
      clear hgrow hown'
      go_wp2
      go_roundw
      case rel => exact ⟨k + 1, by omega, by go_num, by rw [HS.out]; simpa using HO'.out, hB'⟩
      case measure => simp [intOf]; omega
    · obtain rfl : k = N := by omega
      have hown := HO.out
      have e : errsK l (-32767) 32767 k = l.map fun n => rangeErr n (-32767) 32767 := by rw [HN.out]; exact errsK_all _ _ _
      rw [hle.out, e] at hown
      obtain ⟨B, d, rfl, _, hr⟩ := own_ints hown (by simp [← HN.out])
      have HR := Lib.hid hr
      clear hown e hr
      go_wp2
      go_ret
      exact ⟨⟨B, d, rfl, HR.out⟩, hB⟩

theorem sFirst_cells (l : List Int) (W : World) (hl : l.length ≤ 100) : Calls Tryd.prog 23 #[.slice (some ⟨W.heap.size, 0, none⟩) l.length l.length] (W.alloc (.cells (l.map (Value.int .i64)).toArray 35)) fun r w' => r = .returned (.int .i64 (firstOf l)) ∧ (W.alloc (.cells (l.map (Value.int .i64)).toArray 35)) = w' :=
  sFirst_any l _ _ _ (by omega) (Cells.row (heap_new rfl))
/-- the error of a signal of sections. -/
def ssigErr (xs : List Int) : Int := firstOf [if 4096 < xs.length then 5 else 0, eachErr xs (-32767) 32767]
set_option maxHeartbeats 1000000 in
theorem sSignal_any (xs : List Int) (A : Option Addr) (c : Nat) (w : World) (hC : Cells w A xs) (hn : xs.length ≤ 5000) :
    Calls Tryd.prog 25 #[.slice A xs.length c] w fun r w' => r = .returned (.int .i64 (ssigErr xs)) ∧ Below w.heap.size w w' := by
  have HM : Hid (∀ W, Cells W A xs → Calls Tryd.prog 47 #[.slice A xs.length c, .func (.func 48) #[] #[]] W fun r w' => (∃ B d, r = .returned (.slice B xs.length d) ∧ Cells w' B (xs.map fun n => rangeErr n (-32767) 32767)) ∧ Below W.heap.size W w') := Lib.hid (fun W q => sMapVal_any A xs c W q hn)
  have HF : Hid (∀ W B d, Cells W B (xs.map fun n => rangeErr n (-32767) 32767) → Calls Tryd.prog 23 #[.slice B xs.length d] W fun r w' => r = .returned (.int .i64 (eachErr xs (-32767) 32767)) ∧ W = w') := Lib.hid (fun W B d q => by
    have e : xs.length = (xs.map fun n => rangeErr n (-32767) 32767).length := by simp
    rw [e]; exact sFirst_any _ B d W (by simpa using hn) q)
  have HF2 : Hid (∀ (W : World) (a b : Int), Calls Tryd.prog 23 #[.slice (some ⟨W.heap.size, 0, none⟩) 2 2] (W.alloc (.cells #[(.int .i64 (a)), (.int .i64 (b))] 35)) fun r w' => r = .returned (.int .i64 (firstOf [a, b])) ∧ (W.alloc (.cells #[(.int .i64 (a)), (.int .i64 (b))] 35)) = w') := Lib.hid (fun W a b => sFirst_cells [a, b] W (by simp))
  have HS : Hid (ssigErr xs = firstOf [if 4096 < xs.length then 5 else 0, eachErr xs (-32767) 32767]) := Lib.hid rfl
  have HC := Lib.hid hC
  obtain ⟨R, hR⟩ : ∃ R, R = ssigErr xs := ⟨_, rfl⟩
  rw [← hR] at HS ⊢
  generalize xs.length = N at *
  clear hR hC
  by_cases h0 : 4096 < N
  · have h1 : (4096 : Int) < (N : Int) := by omega
    have HS2 : Hid (firstOf [5, eachErr xs (-32767) 32767] = R) := Lib.hid (by rw [HS.out, if_pos h0])
    clear HS
    go_enter Tryd.func25, Tryd.ntmps25
    go_wp2_with (first
      | (go_at_call 44; refine (sWhen_any _ _ _).mono ?_; rintro r w' ⟨rfl, rfl⟩)
      | (go_at_call 47; refine (HM.out _ HC.out).mono ?_; rintro r w1 ⟨⟨B, d, rfl, hc1⟩, hb1⟩; have HC1 := Lib.hid hc1; clear hc1; refine Hid.out ?_))
    unfold Hid
    go_wp2_with (go_at_call 23; refine (HF.out _ _ _ HC1.out).mono ?_; rintro r w2 ⟨rfl, rfl⟩; refine Hid.out ?_)
    unfold Hid
    go_wp2_with (go_at_call 23; refine (HF2.out _ _ _).mono ?_; rintro r w2 ⟨rfl, rfl⟩)
    go_ret
    exact ⟨ret_i HS2.out, hb1.alloc hb1.size _⟩
  · have h1 : ¬ (4096 : Int) < (N : Int) := by omega
    have HS2 : Hid (firstOf [0, eachErr xs (-32767) 32767] = R) := Lib.hid (by rw [HS.out, if_neg h0])
    clear HS
    go_enter Tryd.func25, Tryd.ntmps25
    go_wp2_with (first
      | (go_at_call 44; refine (sWhen_any _ _ _).mono ?_; rintro r w' ⟨rfl, rfl⟩)
      | (go_at_call 47; refine (HM.out _ HC.out).mono ?_; rintro r w1 ⟨⟨B, d, rfl, hc1⟩, hb1⟩; have HC1 := Lib.hid hc1; clear hc1; refine Hid.out ?_))
    unfold Hid
    go_wp2_with (go_at_call 23; refine (HF.out _ _ _ HC1.out).mono ?_; rintro r w2 ⟨rfl, rfl⟩; refine Hid.out ?_)
    unfold Hid
    go_wp2_with (go_at_call 23; refine (HF2.out _ _ _).mono ?_; rintro r w2 ⟨rfl, rfl⟩)
    go_ret
    exact ⟨ret_i HS2.out, hb1.alloc hb1.size _⟩
end Go.Proofs.YtleemphfkhbhaaaDoor

/- Contracts of numbers, CheckSection and CheckState. -/
namespace Go.Proofs.YtleemphfkhbhaaaDoor
open Go.RowKit
open Calm (bcell Blk)

theorem numbers_any (b0 b1 b2 a1 a2 sh : Int) (w : World) : Calls Tryd.prog 56 #[.agg #[(.int .i64 (b0)), (.int .i64 (b1)), (.int .i64 (b2)), (.int .i64 (a1)), (.int .i64 (a2)), (.int .i64 (sh))]] w fun r w' => r = .returned (.agg #[(.int .i64 (b0)), (.int .i64 (b1)), (.int .i64 (b2)), (.int .i64 (a1)), (.int .i64 (a2)), (.int .i64 (sh))]) ∧ Below w.heap.size w w' := by
  go_enter Tryd.func56, Tryd.ntmps56
  go_wp2
  exact bodyPost_ret (v := .agg #[(.int .i64 (b0)), (.int .i64 (b1)), (.int .i64 (b2)), (.int .i64 (a1)), (.int .i64 (a2)), (.int .i64 (sh))]) (by simp [results, Tryd.results56, go_sem]) rfl ⟨rfl, by (repeat (first | (with_reducible exact Below.refl _ _) | ((with_reducible refine Below.setCell ?_ ?_ _); rotate_left 1; focus (first | (simp; done) | (simp; omega) | (simp at *; omega))) | ((with_reducible refine Below.alloc ?_ ?_ _); rotate_left 1; focus (first | (simp; done) | (simp; omega) | (simp at *; omega))) | (with_reducible refine Below.drew ?_) | ((with_reducible refine Calm.step (by assumption) ?_ ?_); rotate_left 1; focus (first | (simp; done) | (simp; omega) | (simp at *; omega)))))⟩
/-- the error of a section. -/
def secErr (b0 b1 b2 a1 a2 sh : Int) : Int := firstOf [eachErr [b0, b1, b2, a1, a2] (-32767) 32767, rangeErr sh 0 15]
set_option maxHeartbeats 2000000 in
set_option maxRecDepth 100000 in
theorem checkSection_any (b0 b1 b2 a1 a2 sh : Int) (w : World) : Calls Tryd.prog 46 #[.agg #[(.int .i64 (b0)), (.int .i64 (b1)), (.int .i64 (b2)), (.int .i64 (a1)), (.int .i64 (a2)), (.int .i64 (sh))]] w fun r w' => r = .returned (.int .i64 (secErr b0 b1 b2 a1 a2 sh)) ∧ Below w.heap.size w w' := by
  have HM : Hid (∀ W A c, Cells W A [b0, b1, b2, a1, a2] → Calls Tryd.prog 47 #[.slice A 5 c, .func (.func 57) #[] #[]] W fun r w' => (∃ B d, r = .returned (.slice B 5 d) ∧ Cells w' B ([b0, b1, b2, a1, a2].map fun n => rangeErr n (-32767) 32767)) ∧ Below W.heap.size W w') := Lib.hid (fun W A c q => sMapTap_any A [b0, b1, b2, a1, a2] c W q (by simp))
  have HF : Hid (∀ W B d, Cells W B ([b0, b1, b2, a1, a2].map fun n => rangeErr n (-32767) 32767) → Calls Tryd.prog 23 #[.slice B 5 d] W fun r w' => r = .returned (.int .i64 (eachErr [b0, b1, b2, a1, a2] (-32767) 32767)) ∧ W = w') := Lib.hid (fun W B d q => sFirst_any _ B d W (by simp) q)
  have HF2 : Hid (∀ (W : World) (a b : Int), Calls Tryd.prog 23 #[.slice (some ⟨W.heap.size, 0, none⟩) 2 2] (W.alloc (.cells #[(.int .i64 (a)), (.int .i64 (b))] 35)) fun r w' => r = .returned (.int .i64 (firstOf [a, b])) ∧ (W.alloc (.cells #[(.int .i64 (a)), (.int .i64 (b))] 35)) = w') := Lib.hid (fun W a b => sFirst_cells [a, b] W (by simp))
  have HS : Hid (secErr b0 b1 b2 a1 a2 sh = firstOf [eachErr [b0, b1, b2, a1, a2] (-32767) 32767, rangeErr sh 0 15]) := Lib.hid rfl
  obtain ⟨R, hR⟩ : ∃ R, R = secErr b0 b1 b2 a1 a2 sh := ⟨_, rfl⟩
  rw [← hR] at HS ⊢
  obtain ⟨E, hE⟩ : ∃ E, E = eachErr [b0, b1, b2, a1, a2] (-32767) 32767 := ⟨_, rfl⟩
  rw [← hE] at HS HF
  clear hR hE
  go_enter Tryd.func46, Tryd.ntmps46
  go_wp2_with (go_at_call 56; refine (numbers_any _ _ _ _ _ _ _).mono ?_; rintro r w1 ⟨rfl, hb1⟩; have K0 : Blk w1 w.heap.size #[(.int .i64 (b0)), (.int .i64 (b1)), (.int .i64 (b2)), (.int .i64 (a1)), (.int .i64 (a2)), (.int .i64 (sh))] := Blk.below (by (repeat (first | ((with_reducible refine Blk.at_ ?_); focus (first | rfl | (simp; done) | (simp; omega))) | (with_reducible refine Blk.alloc ?_ _) | (with_reducible refine Blk.below ?_ (by with_reducible assumption)) | (with_reducible refine Blk.drew ?_)))) hb1; have HK0 := Lib.hid K0; have HB1 := Lib.hid (show Below w.heap.size w w1 from Below.trans (by (repeat (first | (with_reducible exact Below.refl _ _) | ((with_reducible refine Below.setCell ?_ ?_ _); rotate_left 1; focus (first | (simp; done) | (simp; omega) | (simp at *; omega))) | ((with_reducible refine Below.alloc ?_ ?_ _); rotate_left 1; focus (first | (simp; done) | (simp; omega) | (simp at *; omega))) | (with_reducible refine Below.drew ?_) | ((with_reducible refine Calm.step (by assumption) ?_ ?_); rotate_left 1; focus (first | (simp; done) | (simp; omega) | (simp at *; omega)))))) (hb1.mono (by simp))); have l0 := K0.lt; clear K0 hb1)
  refine name_world ?_
  intro w2 e2
  have K1 : Blk w2 w1.heap.size #[(.int .i64 (b0)), (.int .i64 (b1)), (.int .i64 (b2)), (.int .i64 (a1)), (.int .i64 (a2)), (.int .i64 (sh))] := by rw [e2]; exact Blk.new _ _ _
  have HK1 := Lib.hid K1
  have K0 : Blk w2 w.heap.size #[(.int .i64 (b0)), (.int .i64 (b1)), (.int .i64 (b2)), (.int .i64 (a1)), (.int .i64 (a2)), (.int .i64 (sh))] := by rw [e2]; exact HK0.out.alloc _
  have HB2 : Hid (Below w.heap.size w w2) := Lib.hid (by rw [e2]; exact HB1.out.alloc HB1.out.size _)
  have HC2 : Hid (Cells w2 (some ⟨w1.heap.size, 0, none⟩) [b0, b1, b2, a1, a2]) := Lib.hid (fun _ => ⟨w1.heap.size, 0, rfl, K1.lt, fun k hk => by
    have : k = 0 ∨ k = 1 ∨ k = 2 ∨ k = 3 ∨ k = 4 := by simp at hk; omega
    rw [Nat.zero_add, K1.c k]
    rcases this with rfl | rfl | rfl | rfl | rfl <;> rfl⟩)
  obtain ⟨c0, c1, c2, c3, c4, c5, cl, cf⟩ := K0.o6
  have hs2 := HB2.out.size
  clear e2 K1 K0 HK0 HB1
  refine Rel.region3 5 (by kernel_rfl) (by kernel_rfl) (by kernel_rfl) ?_
  simp only [List.take_succ_cons, List.take_zero, List.drop_succ_cons, List.drop_zero, List.filterMap_cons, List.filterMap_nil]
  iterate 1 (apply Rel.op3; (focus (first | exact Rel.gno rfl | exact Rel.gyes _ true _ rfl rfl rfl | exact Rel.gyes _ false _ rfl rfl rfl)); (focus (intro a W hb hd hbase; obtain ⟨hc, hf⟩ := bcell hb; clear hb hf; simp [Rel.deps, Rel.dep1, Rel.ons, Region.binds, Act.eval] at hd; simp only [Act.eval, List.mem_cons, List.not_mem_nil, not_or, and_imp, or_false, Array.getD_eq_getD_getElem?] at hbase; go_simp; (try go_bits); (try rfl); done)); (try simp only [List.nil_append, List.cons_append]))
  refine Rel.callR3 (fun u W => ∃ B d, u = .slice B 5 d ∧ Cells W B ([b0, b1, b2, a1, a2].map fun n => rangeErr n (-32767) 32767)) (fun u W W' ⟨B, c, h1, h2⟩ hb => ⟨B, c, h1, h2.below hb⟩) (Rel.gno rfl) ?_ ?_
  · intro a W hb hd hbase
    refine ⟨47, #[.slice (some ⟨w1.heap.size, 0, none⟩) 5 6, .func (.func 57) #[] #[]], ?_, (HM.out W _ _ (HC2.out.below hb)).mono (fun e W' ⟨⟨B, c, h1, h3⟩, h4⟩ => ⟨_, h1, ⟨B, c, rfl, h3⟩, h4⟩)⟩
    clear hb
    simp [Rel.deps, Rel.dep1, Rel.ons, Region.binds, Act.eval] at hd
    go_simp
    (first | done | rfl | (refine ⟨?_, ?_⟩ <;> rfl))
  (try simp only [List.nil_append, List.cons_append])
  refine Rel.callR3 (fun u W => u = (.int .i64 (E))) (fun _ _ _ h _ => h) (Rel.gno rfl) ?_ ?_
  · intro a W hb hd hbase
    simp [Rel.deps, Rel.dep1, Rel.ons, Region.binds, Act.eval] at hd
    obtain ⟨B, ⟨d, h1⟩, h2⟩ := hd
    refine ⟨23, #[.slice B 5 d], ?_, (HF.out W B d h2).mono (fun e W' ⟨he, hw⟩ => ⟨_, he, rfl, hw ▸ Below.refl _ _⟩)⟩
    clear hb h2
    go_simp
    (first | done | rfl | (refine ⟨?_, ?_⟩ <;> rfl))
  (try simp only [List.nil_append, List.cons_append])
  iterate 2 (apply Rel.op3; (focus (first | exact Rel.gno rfl | exact Rel.gyes _ true _ rfl rfl rfl | exact Rel.gyes _ false _ rfl rfl rfl)); (focus (intro a W hb hd hbase; obtain ⟨hc, hf⟩ := bcell hb; clear hb hf; simp [Rel.deps, Rel.dep1, Rel.ons, Region.binds, Act.eval] at hd; simp only [Act.eval, List.mem_cons, List.not_mem_nil, not_or, and_imp, or_false, Array.getD_eq_getD_getElem?] at hbase; go_simp; (try go_bits); (try rfl); done)); (try simp only [List.nil_append, List.cons_append]))
  refine Rel.done3 ?_
  intro x w3 hb3 hx
  simp only [Rel.facts, Nat.zero_add, Nat.reduceAdd] at hx
  obtain ⟨e0, ⟨B, d, e1, _⟩, e2, e3, e4, _⟩ := hx
  simp only [Rel.fill, Nat.zero_add, Nat.reduceAdd, e0, e1, e2, e3, e4]
  simp only [Act.put, List.setIfInBounds_toArray, List.set_cons_zero, List.set_cons_succ]
  have HB3 := Lib.hid (HB2.out.trans (hb3.mono hs2))
  clear e0 e1 e2 e3 e4 hb3 HM HF
  go_wp2_with (first
    | (go_at_call 58; refine (sWithin_any _ _ _ _).mono ?_; rintro r w' ⟨rfl, rfl⟩)
    | (go_at_call 23; refine (HF2.out _ _ _).mono ?_; rintro r w' ⟨rfl, rfl⟩))
  go_ret
  exact ⟨ret_i HS.out.symm, HB3.out.alloc HB3.out.size _⟩
/-- the error of a state of sections. -/
def sstErr (x1 x2 y1 y2 : Int) : Int := eachErr [x1, x2, y1, y2] (-32767) 32767
theorem sState_any (x1 x2 y1 y2 : Int) (w : World) : Calls Tryd.prog 51 #[.agg #[(.int .i64 (x1)), (.int .i64 (x2)), (.int .i64 (y1)), (.int .i64 (y2))]] w fun r w' => r = .returned (.int .i64 (sstErr x1 x2 y1 y2)) ∧ Below w.heap.size w w' := by
  have HM : Hid (∀ W A c, Cells W A [x1, x2, y1, y2] → Calls Tryd.prog 47 #[.slice A 4 c, .func (.func 48) #[] #[]] W fun r w' => (∃ B d, r = .returned (.slice B 4 d) ∧ Cells w' B ([x1, x2, y1, y2].map fun n => rangeErr n (-32767) 32767)) ∧ Below W.heap.size W w') := Lib.hid (fun W A c q => sMapVal_any A [x1, x2, y1, y2] c W q (by simp))
  have HF : Hid (∀ W B d, Cells W B ([x1, x2, y1, y2].map fun n => rangeErr n (-32767) 32767) → Calls Tryd.prog 23 #[.slice B 4 d] W fun r w' => r = .returned (.int .i64 (sstErr x1 x2 y1 y2)) ∧ W = w') := Lib.hid (fun W B d q => sFirst_any _ B d W (by simp) q)
  have HK : Hid (∀ W, Blk W (w.heap.size + 1) #[(.int .i64 (x1)), (.int .i64 (x2)), (.int .i64 (y1)), (.int .i64 (y2))] → Cells W (some ⟨w.heap.size + 1, 0, none⟩) [x1, x2, y1, y2]) := Lib.hid (fun W K _ => ⟨w.heap.size + 1, 0, rfl, K.lt, fun k hk => by
    have : k = 0 ∨ k = 1 ∨ k = 2 ∨ k = 3 := by simp at hk; omega
    rw [Nat.zero_add, K.c k]
    rcases this with rfl | rfl | rfl | rfl <;> rfl⟩)
  go_enter Tryd.func51, Tryd.ntmps51
  go_wp2_with (go_at_call 47; refine (HM.out _ _ _ (HK.out _ (by (repeat (first | ((with_reducible refine Blk.at_ ?_); focus (first | rfl | (simp; done) | (simp; omega))) | (with_reducible refine Blk.alloc ?_ _) | (with_reducible refine Blk.below ?_ (by with_reducible assumption)) | (with_reducible refine Blk.drew ?_)))))).mono ?_; rintro r w1 ⟨⟨B, d, rfl, hc1⟩, hb1⟩; have HC1 := Lib.hid hc1; clear hc1; refine Hid.out ?_)
  unfold Hid
  go_wp2_with (go_at_call 23; refine (HF.out _ _ _ HC1.out).mono ?_; rintro r w2 ⟨rfl, rfl⟩)
  go_ret
  exact ⟨rfl, Below.trans (by (repeat (first | (with_reducible exact Below.refl _ _) | ((with_reducible refine Below.setCell ?_ ?_ _); rotate_left 1; focus (first | (simp; done) | (simp; omega) | (simp at *; omega))) | ((with_reducible refine Below.alloc ?_ ?_ _); rotate_left 1; focus (first | (simp; done) | (simp; omega) | (simp at *; omega))) | (with_reducible refine Below.drew ?_) | ((with_reducible refine Calm.step (by assumption) ?_ ?_); rotate_left 1; focus (first | (simp; done) | (simp; omega) | (simp at *; omega)))))) (hb1.mono (by simp; omega))⟩
end Go.Proofs.YtleemphfkhbhaaaDoor

/- Contracts of mapped over sections and of checkSections. -/
namespace Go.Proofs.YtleemphfkhbhaaaDoor
open Go.RowKit
open Calm (bcell Blk)

structure Sec where
  b0 : Int
  b1 : Int
  b2 : Int
  a1 : Int
  a2 : Int
  sh : Int
def Sec0 : Sec := ⟨0, 0, 0, 0, 0, 0⟩
def secE (s : Sec) : Int := secErr s.b0 s.b1 s.b2 s.a1 s.a2 s.sh
/-- the slice of these sections lies in memory. -/
def SCells (w : World) (A : Option Addr) (l : List Sec) : Prop :=
  0 < l.length → ∃ b off, A = some ⟨b, off, none⟩ ∧ b < w.heap.size ∧ ∀ k, k < l.length →
    w.cell? ⟨b, off + k * 6, none⟩ = some (.int .i64 ((l.getD k Sec0).b0)) ∧ w.cell? ⟨b, off + k * 6 + 1, none⟩ = some (.int .i64 ((l.getD k Sec0).b1)) ∧ w.cell? ⟨b, off + k * 6 + 2, none⟩ = some (.int .i64 ((l.getD k Sec0).b2)) ∧
    w.cell? ⟨b, off + k * 6 + 3, none⟩ = some (.int .i64 ((l.getD k Sec0).a1)) ∧ w.cell? ⟨b, off + k * 6 + 4, none⟩ = some (.int .i64 ((l.getD k Sec0).a2)) ∧ w.cell? ⟨b, off + k * 6 + 5, none⟩ = some (.int .i64 ((l.getD k Sec0).sh))
theorem SCells.below {w w' : World} {A : Option Addr} {l : List Sec} (h : SCells w A l) (hb : Below w.heap.size w w') : SCells w' A l := by
  intro h0
  obtain ⟨b, off, hA, hl, hc⟩ := h h0
  refine ⟨b, off, hA, Nat.lt_of_lt_of_le hl hb.size, fun k hk => ?_⟩
  obtain ⟨q0, q1, q2, q3, q4, q5⟩ := hc k hk
  exact ⟨(hb.cell (p := ⟨b, off + k * 6, none⟩) hl).trans q0, (hb.cell (p := ⟨b, off + k * 6 + 1, none⟩) hl).trans q1, (hb.cell (p := ⟨b, off + k * 6 + 2, none⟩) hl).trans q2, (hb.cell (p := ⟨b, off + k * 6 + 3, none⟩) hl).trans q3, (hb.cell (p := ⟨b, off + k * 6 + 4, none⟩) hl).trans q4, (hb.cell (p := ⟨b, off + k * 6 + 5, none⟩) hl).trans q5⟩
def serrsK (l : List Sec) (k : Nat) : List Int := (l.take k).map secE
theorem serrsK_len {l : List Sec} {k : Nat} (hk : k ≤ l.length) : (serrsK l k).length = k := by simp [serrsK]; omega
theorem serrsK_succ {l : List Sec} {k : Nat} (hk : k < l.length) : serrsK l (k + 1) = serrsK l k ++ [secE (l.getD k Sec0)] := by
  unfold serrsK
  rw [List.take_succ_eq_append_getElem hk, List.map_append, List.getD_eq_getElem?_getD, List.getElem?_eq_getElem hk]
  rfl
theorem serrsK_all (l : List Sec) : serrsK l l.length = l.map secE := by simp [serrsK]
set_option maxHeartbeats 2000000 in
set_option maxRecDepth 100000 in
theorem sMapSec_any (A : Option Addr) (l : List Sec) (c : Nat) (w : World) (hC : SCells w A l) (hn : l.length ≤ 5000) :
    Calls Tryd.prog 45 #[.slice A l.length c, .func (.func 46) #[] #[]] w fun r w' => (∃ B d, r = .returned (.slice B l.length d) ∧ Cells w' B (l.map secE)) ∧ Below w.heap.size w w' := by
  obtain ⟨i0, hii, hz0, hz1, hz2⟩ := info_parts Tryd.infoE
  have HC := Lib.hid hC
  obtain ⟨N, hN⟩ : ∃ N, N = l.length := ⟨_, rfl⟩
  have HN := Lib.hid hN
  have HL : Hid (∀ k, k ≤ N → (serrsK l k).length = k) := Lib.hid (fun k hk => serrsK_len (by rw [← hN]; exact hk))
  rw [← hN] at hn ⊢
  clear hN hC
  go_enter Tryd.func45, Tryd.ntmps45
  go_wp2
  go_loopw [5, 10] (fun v i wr => ∃ k : Nat, k ≤ N ∧ i = (.int .i64 ((k : Int))) ∧ wr.ownsRow w.heap.size 35 1 v (serrsK l k).length ((serrsK l k).map (Value.int .i64)) ∧ Below w.heap.size w wr) (fun _ i _ => N - (intOf i).toNat)
  case atStart => exact ⟨0, Nat.zero_le _, rfl, World.ownsRow_nil _ _ _ _, Below.refl _ _⟩
  case round =>
    obtain ⟨k, hk, rfl, hown, hB⟩ := hrel
    have HO := Lib.hid hown
    have hle := Lib.hid (HL.out k hk)
    have hsz := hB.size
    clear hown
    by_cases hlt : k < N
    · obtain ⟨b, o, rfl, l1, k1⟩ := HC.out (by rw [← HN.out]; omega)
      obtain ⟨q0, q1, q2, q3, q4, q5⟩ := k1 k (by rw [← HN.out]; exact hlt)
      have y0 := (hB.cell (p := ⟨b, o + k * 6, none⟩) l1).trans q0
      have y1 := (hB.cell (p := ⟨b, o + k * 6 + 1, none⟩) l1).trans q1
      have y2 := (hB.cell (p := ⟨b, o + k * 6 + 2, none⟩) l1).trans q2
      have y3 := (hB.cell (p := ⟨b, o + k * 6 + 3, none⟩) l1).trans q3
      have y4 := (hB.cell (p := ⟨b, o + k * 6 + 4, none⟩) l1).trans q4
      have y5 := (hB.cell (p := ⟨b, o + k * 6 + 5, none⟩) l1).trans q5
      have HS := Lib.hid (serrsK_succ (show k < l.length by rw [← HN.out]; exact hlt))
      have HB := Lib.hid hB
      obtain ⟨⟨s0, s1, s2, s3, s4, s5⟩, hx⟩ : ∃ x, x = l.getD k Sec0 := ⟨_, rfl⟩
      rw [← hx] at y0 y1 y2 y3 y4 y5 HS
      simp only [] at y0 y1 y2 y3 y4 y5
      obtain ⟨E, hE⟩ : ∃ E, E = secErr s0 s1 s2 s3 s4 s5 := ⟨_, rfl⟩
      have HSE : Hid (serrsK l (k + 1) = serrsK l k ++ [E]) := Lib.hid (by rw [HS.out, hE]; rfl)
      have HCS : Hid (∀ W, Calls Tryd.prog 46 #[.agg #[(.int .i64 (s0)), (.int .i64 (s1)), (.int .i64 (s2)), (.int .i64 (s3)), (.int .i64 (s4)), (.int .i64 (s5))]] W fun r w' => r = .returned (.int .i64 (E)) ∧ Below W.heap.size W w') := Lib.hid (fun W => by rw [hE]; exact checkSection_any s0 s1 s2 s3 s4 s5 W)
      clear k1 hx q0 q1 q2 q3 q4 q5 hE HS hB
      go_wp2_with (first
        | (go_at_call 46; refine (HCS.out _).mono ?_; rintro r w2 ⟨rfl, hb2⟩; have HB2 := Lib.hid ((HB.out.alloc hsz _).trans (hb2.mono (by simp; omega))); have HO2 := Lib.hid (ownsRow_below (HO.out.alloc _) hb2); have hs2 := HB2.out.size; clear hb2)
        | (at_builtin; refine wpList_append_own _ rfl _ _ 84 rfl w.heap.size 35 i0 (.int .i64 0) 1 8 Tryd.underlying84 hii hz0 hz1 hz2 rfl (by decide) _ _ _ rfl (HO2.out.alloc _) ⟨w2.heap.size, 0, none⟩ 1 1 [.int .i64 E] rfl rfl ?c1 ?c2 ?c3 ?c4 ?c5 ?_))
      case c1 =>
        intro j u hj
        match j, hj with
        | 0, hj => simp at hj; subst hj; simp [Addr.add]
      case c2 => intro u hu; simp at hu; subst hu; rfl
      case c3 => have := hle.out; unfold maxLen; omega
      case c4 => have := hle.out; omega
      case c5 => simp; omega
      intro v' w1 hown' hgrow _
      have hB' : Below w.heap.size w w1 := (HB2.out.alloc hs2 _).grown hgrow (by simp; omega) (fun j hj => (HO.out.lt j hj).1)
      have HO' := Lib.hid hown'
      clear hgrow hown'
      go_wp2
      go_roundw
      case rel => exact ⟨k + 1, by omega, by go_num, by rw [HSE.out]; simpa using HO'.out, hB'⟩
      case measure => simp [intOf]; omega
    · obtain rfl : k = N := by omega
      have hown := HO.out
      have e : serrsK l k = l.map secE := by rw [HN.out]; exact serrsK_all _
      rw [hle.out, e] at hown
      obtain ⟨B, d, rfl, _, hr⟩ := own_ints hown (by simp [← HN.out])
      have HR := Lib.hid hr
      clear hown e hr
      go_wp2
      go_ret
      exact ⟨⟨B, d, rfl, HR.out⟩, hB⟩
/-- the error of sections. -/
def secsErr (l : List Sec) : Int := firstOf [if 8 < l.length then 5 else 0, firstOf (l.map secE)]
set_option maxHeartbeats 2000000 in
theorem checkSections_any (l : List Sec) (A : Option Addr) (c : Nat) (w : World) (hC : SCells w A l) (hn : l.length ≤ 5000) :
    Calls Tryd.prog 24 #[.slice A l.length c] w fun r w' => r = .returned (.int .i64 (secsErr l)) ∧ Below w.heap.size w w' := by
  have HM : Hid (∀ W, SCells W A l → Calls Tryd.prog 45 #[.slice A l.length c, .func (.func 46) #[] #[]] W fun r w' => (∃ B d, r = .returned (.slice B l.length d) ∧ Cells w' B (l.map secE)) ∧ Below W.heap.size W w') := Lib.hid (fun W q => sMapSec_any A l c W q hn)
  obtain ⟨E, hE⟩ : ∃ E, E = firstOf (l.map secE) := ⟨_, rfl⟩
  have HF : Hid (∀ W B d, Cells W B (l.map secE) → Calls Tryd.prog 23 #[.slice B l.length d] W fun r w' => r = .returned (.int .i64 (E)) ∧ W = w') := Lib.hid (fun W B d q => by
    have e : l.length = (l.map secE).length := by simp
    rw [e, hE]; exact sFirst_any _ B d W (by simpa using hn) q)
  have HF2 : Hid (∀ (W : World) (a b : Int), Calls Tryd.prog 23 #[.slice (some ⟨W.heap.size, 0, none⟩) 2 2] (W.alloc (.cells #[(.int .i64 (a)), (.int .i64 (b))] 35)) fun r w' => r = .returned (.int .i64 (firstOf [a, b])) ∧ (W.alloc (.cells #[(.int .i64 (a)), (.int .i64 (b))] 35)) = w') := Lib.hid (fun W a b => sFirst_cells [a, b] W (by simp))
  have HS : Hid (secsErr l = firstOf [if 8 < l.length then 5 else 0, E]) := Lib.hid (by rw [hE]; rfl)
  have HC := Lib.hid hC
  obtain ⟨R, hR⟩ : ∃ R, R = secsErr l := ⟨_, rfl⟩
  rw [← hR] at HS ⊢
  generalize l.length = N at *
  clear hR hC hE
  by_cases h0 : 8 < N
  · have h1 : (8 : Int) < (N : Int) := by omega
    have HS2 : Hid (firstOf [5, E] = R) := Lib.hid (by rw [HS.out, if_pos h0])
    clear HS
    go_enter Tryd.func24, Tryd.ntmps24
    go_wp2_with (first
      | (go_at_call 44; refine (sWhen_any _ _ _).mono ?_; rintro r w' ⟨rfl, rfl⟩)
      | (go_at_call 45; refine (HM.out _ HC.out).mono ?_; rintro r w1 ⟨⟨B, d, rfl, hc1⟩, hb1⟩; have HC1 := Lib.hid hc1; clear hc1; refine Hid.out ?_))
    unfold Hid
    go_wp2_with (go_at_call 23; refine (HF.out _ _ _ HC1.out).mono ?_; rintro r w2 ⟨rfl, rfl⟩; refine Hid.out ?_)
    unfold Hid
    go_wp2_with (go_at_call 23; refine (HF2.out _ _ _).mono ?_; rintro r w2 ⟨rfl, rfl⟩)
    go_ret
    exact ⟨ret_i HS2.out, hb1.alloc hb1.size _⟩
  · have h1 : ¬ (8 : Int) < (N : Int) := by omega
    have HS2 : Hid (firstOf [0, E] = R) := Lib.hid (by rw [HS.out, if_neg h0])
    clear HS
    go_enter Tryd.func24, Tryd.ntmps24
    go_wp2_with (first
      | (go_at_call 44; refine (sWhen_any _ _ _).mono ?_; rintro r w' ⟨rfl, rfl⟩)
      | (go_at_call 45; refine (HM.out _ HC.out).mono ?_; rintro r w1 ⟨⟨B, d, rfl, hc1⟩, hb1⟩; have HC1 := Lib.hid hc1; clear hc1; refine Hid.out ?_))
    unfold Hid
    go_wp2_with (go_at_call 23; refine (HF.out _ _ _ HC1.out).mono ?_; rintro r w2 ⟨rfl, rfl⟩; refine Hid.out ?_)
    unfold Hid
    go_wp2_with (go_at_call 23; refine (HF2.out _ _ _).mono ?_; rintro r w2 ⟨rfl, rfl⟩)
    go_ret
    exact ⟨ret_i HS2.out, hb1.alloc hb1.size _⟩
end Go.Proofs.YtleemphfkhbhaaaDoor
