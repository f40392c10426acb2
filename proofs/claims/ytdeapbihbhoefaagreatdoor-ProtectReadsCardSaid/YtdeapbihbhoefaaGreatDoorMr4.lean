/- Part 4 of the texts of the claim: P14, P15, P5, P6, P7. -/
import Derived.Test.YtdeapbihbhoefaaGreatDoorMr3

/- Contract of ascending. -/
namespace Go.Proofs.YtdeapbihbhoefaaGreatDoor
open Go.RowKit
open Calm (bcell Blk)

/-- the error of the number at an index. -/
def ascAt (l : List Int) (lo hi : Int) (i : Nat) : Int := firstOf [rangeErr (l.getD i 0) lo hi, if 0 < i ∧ l.getD i 0 ≤ l.getD (i - 1) 0 then 11 else 0]
def ascErr (l : List Int) (lo hi : Int) : Int := firstOf ((List.range l.length).map (ascAt l lo hi))
theorem asc_get (l : List Int) (lo hi : Int) {i : Nat} (hi' : i < l.length) : ((List.range l.length).map (ascAt l lo hi)).getD i 0 = ascAt l lo hi i := by
  simp [List.getD_eq_getElem?_getD, hi']
theorem first2_new (W : World) (a b : Int) : Calls Tryz.prog 49 #[.slice (some ⟨W.heap.size, 0, none⟩) 2 2] (W.alloc (.cells #[(.int .i64 a), (.int .i64 b)] 27)) fun r w' => r = .returned (.int .i64 (firstOf [a, b])) ∧ (W.alloc (.cells #[(.int .i64 a), (.int .i64 b)] 27)) = w' :=
  first_any [a, b] _ _ _ (by simp) (fun _ => ⟨_, _, rfl, by simp, fun k hk => by
    have : k = 0 ∨ k = 1 := by simp at hk; omega
    rcases this with rfl | rfl <;> simp⟩)
theorem maxJ (J : Nat) : ∀ W, (Builtin.max_ #[3, 3] 3 #[(.int .i64 0), (.int .i64 ((J : Int)))]).run Tryz.prog W = .ok (.int .i64 ((J : Int))) W := by
  intro W
  rcases Nat.eq_zero_or_pos J with h | h
  · subst h; go_simp; (try rfl)
  · have h1 : (0 : Int) < (J : Int) := by omega
    have h2 : ¬ (J : Int) ≤ 0 := by omega
    go_simp
    (try omega)
set_option maxHeartbeats 4000000 in
set_option maxRecDepth 100000 in
theorem ascending_any (A : Option Addr) (l : List Int) (c : Nat) (lo hi : Int) (w : World) (hC : Cells w A l) (hn : l.length ≤ 5000) :
    Calls Tryz.prog 65 #[.slice A l.length c, (.int .i64 lo), (.int .i64 hi)] w fun r w' => r = .returned (.int .i64 (ascErr l lo hi)) ∧ Below w.heap.size w w' := by
  have HC := Lib.hid hC
  have HG := Lib.hid (fun i (h : i < l.length) => asc_get l lo hi h)
  have HF := Lib.hid (fun k (h : ∀ j, j < k → ((List.range l.length).map (ascAt l lo hi)).getD j 0 = 0) h1 h2 => firstOf_take (l := (List.range l.length).map (ascAt l lo hi)) (k := k) h h1 h2)
  have HZ := Lib.hid (fun h => firstOf_zero (l := (List.range l.length).map (ascAt l lo hi)) h)
  obtain ⟨N, hN⟩ : ∃ N, N = l.length := ⟨_, rfl⟩
  have HN := Lib.hid hN
  rw [← hN] at hn ⊢
  clear hN hC
  go_enter Tryz.func65, Tryz.ntmps65
  go_wp2
  go_loopw [12] (fun i wr => ∃ k : Nat, k ≤ N ∧ i = (.int .i64 ((k : Int))) ∧ (∀ j, j < k → ascAt l lo hi j = 0) ∧ Below w.heap.size w wr) (fun i _ => N - (intOf i).toNat)
  case atStart => exact ⟨0, Nat.zero_le _, rfl, fun j hj => by omega, Below.refl _ _⟩
  case round =>
    obtain ⟨k, hk, rfl, hz, hB⟩ := hrel
    have HZK := Lib.hid hz
    have hsz := hB.size
    clear hz
    by_cases hlt : k < N
    · obtain ⟨b, o, rfl, l1, k1⟩ := HC.out (by rw [← HN.out]; omega)
      have x1 := (hB.cell (p := ⟨b, o + k, none⟩) l1).trans (k1 k (by rw [← HN.out]; exact hlt))
      have HNX : Hid (ascAt l lo hi k = 0 → ∀ j, j < k + 1 → ascAt l lo hi j = 0) := Lib.hid (fun h j hj => by
        rcases Nat.lt_or_ge j k with h2 | h2
        · exact HZK.out j h2
        · obtain rfl : j = k := by omega
          exact h)
      have HER : Hid (ascAt l lo hi k ≠ 0 → ascErr l lo hi = ascAt l lo hi k) := Lib.hid (fun h => by
        have e := HG.out k (show k < l.length by rw [← HN.out]; exact hlt)
        have := HF.out k (fun j hj => by rw [HG.out j (by rw [← HN.out]; omega)]; exact HZK.out j hj) (by simp [← HN.out]; exact hlt) (by rw [e]; exact h)
        exact this.trans e)
      have HE : Hid (ascAt l lo hi k = firstOf [rangeErr (l.getD k 0) lo hi, if 0 < k ∧ l.getD k 0 ≤ l.getD (k - 1) 0 then 11 else 0]) := Lib.hid rfl
      obtain ⟨x, hx⟩ : ∃ x, x = l.getD k 0 := ⟨_, rfl⟩
      obtain ⟨E, hE⟩ : ∃ E, E = ascAt l lo hi k := ⟨_, rfl⟩
      rw [← hx] at x1 HE
      rw [← hE] at HE HER HNX
      have HB := Lib.hid hB
      rcases Nat.eq_zero_or_pos k with h0 | h0
      · have f0 : ¬ 0 < k := by omega
        have HE2 : Hid (firstOf [rangeErr x lo hi, 0] = E) := Lib.hid (by rw [HE.out, if_neg (c := 0 < k ∧ _) (by omega)])
        have H0 := Lib.hid h0
        clear HE hE hx k1 hB h0
        by_cases hE0 : E = 0
        · have HX := Lib.hid (HNX.out hE0)
          rw [hE0] at HE2
          clear HER HNX
          go_wp2_with (first
          | (go_at_call 66; refine (within_any _ _ _ _).mono ?_; rintro r w' ⟨rfl, rfl⟩)
          | (go_at_call 68; refine (when_any _ _ _).mono ?_; rintro r w' ⟨rfl, rfl⟩)
          | (go_at_call 49; refine (first2_new _ _ _).mono ?_; rintro r w1 ⟨rfl, rfl⟩; rw [HE2.out]))
          go_roundw
          case rel => exact ⟨k + 1, by omega, by go_num, HX.out, by first | exact HB.out | exact HB.out.alloc hsz _⟩
          case measure => simp [intOf]; omega
        · have HX := Lib.hid (HER.out hE0)
          clear HER HNX
          go_wp2_with (first
          | (go_at_call 66; refine (within_any _ _ _ _).mono ?_; rintro r w' ⟨rfl, rfl⟩)
          | (go_at_call 68; refine (when_any _ _ _).mono ?_; rintro r w' ⟨rfl, rfl⟩)
          | (go_at_call 49; refine (first2_new _ _ _).mono ?_; rintro r w1 ⟨rfl, rfl⟩; rw [HE2.out]))
          go_ret
          exact ⟨ret_i HX.out.symm, by first | exact HB.out | exact HB.out.alloc hsz _⟩
      · have f0 : 0 < k := by omega
        obtain ⟨J, hJ0⟩ : ∃ J : Nat, J = k - 1 := ⟨_, rfl⟩
        have hJ : (k : Int) - 1 = (J : Int) := by omega
        have hJn : (J : Int) < (N : Int) := by omega
        have x2 := (hB.cell (p := ⟨b, o + J, none⟩) l1).trans (k1 J (by rw [← HN.out]; omega))
        obtain ⟨x0, hx0⟩ : ∃ x0, x0 = l.getD J 0 := ⟨_, rfl⟩
        rw [← hx0] at x2
        have hmax := maxJ J
        by_cases h5 : x ≤ x0
        · have HE2 : Hid (firstOf [rangeErr x lo hi, 11] = E) := Lib.hid (by rw [HE.out, ← hJ0, ← hx0, if_pos ⟨h0, h5⟩])
          have HJ := Lib.hid hJ0
          have H0 := Lib.hid h0
          clear HE hE hx k1 hB hx0 hJ0 h0
          by_cases hE0 : E = 0
          · have HX := Lib.hid (HNX.out hE0)
            rw [hE0] at HE2
            clear HER HNX
            go_wp2_with (first
            | (go_at_call 66; refine (within_any _ _ _ _).mono ?_; rintro r w' ⟨rfl, rfl⟩)
            | (go_at_call 68; refine (when_any _ _ _).mono ?_; rintro r w' ⟨rfl, rfl⟩)
            | (go_at_call 49; refine (first2_new _ _ _).mono ?_; rintro r w1 ⟨rfl, rfl⟩; rw [HE2.out]))
            go_roundw
            case rel => exact ⟨k + 1, by omega, by go_num, HX.out, by first | exact HB.out | exact HB.out.alloc hsz _⟩
            case measure => simp [intOf]; omega
          · have HX := Lib.hid (HER.out hE0)
            clear HER HNX
            go_wp2_with (first
            | (go_at_call 66; refine (within_any _ _ _ _).mono ?_; rintro r w' ⟨rfl, rfl⟩)
            | (go_at_call 68; refine (when_any _ _ _).mono ?_; rintro r w' ⟨rfl, rfl⟩)
            | (go_at_call 49; refine (first2_new _ _ _).mono ?_; rintro r w1 ⟨rfl, rfl⟩; rw [HE2.out]))
            go_ret
            exact ⟨ret_i HX.out.symm, by first | exact HB.out | exact HB.out.alloc hsz _⟩
        · have HE2 : Hid (firstOf [rangeErr x lo hi, 0] = E) := Lib.hid (by rw [HE.out, ← hJ0, ← hx0, if_neg (fun h => h5 h.2)])
          have HJ := Lib.hid hJ0
          have H0 := Lib.hid h0
          clear HE hE hx k1 hB hx0 hJ0 h0
          by_cases hE0 : E = 0
          · have HX := Lib.hid (HNX.out hE0)
            rw [hE0] at HE2
            clear HER HNX
            go_wp2_with (first
            | (go_at_call 66; refine (within_any _ _ _ _).mono ?_; rintro r w' ⟨rfl, rfl⟩)
            | (go_at_call 68; refine (when_any _ _ _).mono ?_; rintro r w' ⟨rfl, rfl⟩)
            | (go_at_call 49; refine (first2_new _ _ _).mono ?_; rintro r w1 ⟨rfl, rfl⟩; rw [HE2.out]))
            go_roundw
            case rel => exact ⟨k + 1, by omega, by go_num, HX.out, by first | exact HB.out | exact HB.out.alloc hsz _⟩
            case measure => simp [intOf]; omega
          · have HX := Lib.hid (HER.out hE0)
            clear HER HNX
            go_wp2_with (first
            | (go_at_call 66; refine (within_any _ _ _ _).mono ?_; rintro r w' ⟨rfl, rfl⟩)
            | (go_at_call 68; refine (when_any _ _ _).mono ?_; rintro r w' ⟨rfl, rfl⟩)
            | (go_at_call 49; refine (first2_new _ _ _).mono ?_; rintro r w1 ⟨rfl, rfl⟩; rw [HE2.out]))
            go_ret
            exact ⟨ret_i HX.out.symm, by first | exact HB.out | exact HB.out.alloc hsz _⟩
    · obtain rfl : k = N := by omega
      have e := Lib.hid (HZ.out (fun j hj => by simp [← HN.out] at hj; rw [HG.out j (by rw [← HN.out]; exact hj)]; exact HZK.out j hj))
      go_wp2
      go_ret
      exact ⟨ret_i e.out.symm, hB⟩
end Go.Proofs.YtdeapbihbhoefaaGreatDoor

/- Contract of CheckGuard. -/
namespace Go.Proofs.YtdeapbihbhoefaaGreatDoor
open Go.RowKit
open Calm (bcell Blk)

def guardErr1 (lk ht rc : Int) (ts gs : List Int) : Int := firstOf [rangeErr lk 1 8, rangeErr ht 0 536870912, someErr ts.length 8, eachErr ts (-64) 64, rangeErr rc 0 1048576, someErr gs.length 8]
def guardErr2 (gs : List Int) : Int := firstOf [rangeErr (gs.getD 0 0) 0 16, if gs.getD 0 0 ≠ 0 then 11 else 0, ascErr gs 0 16]
/-- the error of a guard. -/
def guardErr (lk ht rc : Int) (ts gs : List Int) : Int := if guardErr1 lk ht rc ts gs = 0 then guardErr2 gs else guardErr1 lk ht rc ts gs
theorem firstOf_eq_zero {l : List Int} : firstOf l = 0 ↔ ∀ x ∈ l, x = 0 := by
  induction l with
  | nil => simp [firstOf]
  | cons a l ih =>
    by_cases ha : a = 0
    · subst ha
      simp only [firstOf, List.find?_cons, bne_self_eq_false] at ih ⊢
      simpa using ih
    · have : (a != 0) = true := by simpa using ha
      simp [firstOf, this, ha]
theorem first_cells (l : List Int) (W : World) (hl : l.length ≤ 100) : Calls Tryz.prog 49 #[.slice (some ⟨W.heap.size, 0, none⟩) l.length l.length] (W.alloc (.cells (l.map (Value.int .i64)).toArray 27)) fun r w' => r = .returned (.int .i64 (firstOf l)) ∧ (W.alloc (.cells (l.map (Value.int .i64)).toArray 27)) = w' :=
  first_any l _ _ _ (by omega) (Cells.row (heap_new rfl))

set_option maxHeartbeats 4000000 in
set_option maxRecDepth 100000 in
theorem checkGuard_any (lk ht rc : Int) (ts gs : List Int) (A1 A2 : Option Addr) (c1 c2 : Nat) (w : World) (hT0 : Cells w A1 ts) (hG0 : Cells w A2 gs) (h1 : ts.length ≤ 5000) (h2 : gs.length ≤ 5000) :
    Calls Tryz.prog 35 #[.agg #[(.int .i64 lk), (.int .i64 ht), .slice A1 ts.length c1, (.int .i64 rc), .slice A2 gs.length c2]] w fun r w' => r = .returned (.int .i64 (guardErr lk ht rc ts gs)) ∧ Below w.heap.size w w' := by
  obtain ⟨M, hM⟩ : ∃ M, M = ts.length := ⟨_, rfl⟩
  obtain ⟨L, hL⟩ : ∃ L, L = gs.length := ⟨_, rfl⟩
  have HT := Lib.hid hT0
  have HG := Lib.hid hG0
  have HE : Hid (∀ W lo hi, Cells W A1 ts → Calls Tryz.prog 71 #[.slice A1 M c1, (.int .i64 lo), (.int .i64 hi)] W fun r w' => r = .returned (.int .i64 (eachErr ts lo hi)) ∧ Below W.heap.size W w') := Lib.hid (fun W lo hi q => by rw [hM]; exact each_any A1 ts c1 lo hi W q h1)
  have HA : Hid (∀ W lo hi, Cells W A2 gs → Calls Tryz.prog 65 #[.slice A2 L c2, (.int .i64 lo), (.int .i64 hi)] W fun r w' => r = .returned (.int .i64 (ascErr gs lo hi)) ∧ Below W.heap.size W w') := Lib.hid (fun W lo hi q => by rw [hL]; exact ascending_any A2 gs c2 lo hi W q h2)
  have HF6 : Hid (∀ (W : World) (a b c d e f : Int), Calls Tryz.prog 49 #[.slice (some ⟨W.heap.size, 0, none⟩) 6 6] (W.alloc (.cells #[(.int .i64 a), (.int .i64 b), (.int .i64 c), (.int .i64 d), (.int .i64 e), (.int .i64 f)] 27)) fun r w' => r = .returned (.int .i64 (firstOf [a, b, c, d, e, f])) ∧ (W.alloc (.cells #[(.int .i64 a), (.int .i64 b), (.int .i64 c), (.int .i64 d), (.int .i64 e), (.int .i64 f)] 27)) = w') := Lib.hid (fun W a b c d e f => first_cells [a, b, c, d, e, f] W (by simp))
  have HF3 : Hid (∀ (W : World) (a b c : Int), Calls Tryz.prog 49 #[.slice (some ⟨W.heap.size, 0, none⟩) 3 3] (W.alloc (.cells #[(.int .i64 a), (.int .i64 b), (.int .i64 c)] 27)) fun r w' => r = .returned (.int .i64 (firstOf [a, b, c])) ∧ (W.alloc (.cells #[(.int .i64 a), (.int .i64 b), (.int .i64 c)] 27)) = w') := Lib.hid (fun W a b c => first_cells [a, b, c] W (by simp))
  have HX1 : Hid (firstOf [rangeErr lk 1 8, rangeErr ht 0 536870912, someErr M 8, eachErr ts (-64) 64, rangeErr rc 0 1048576, someErr L 8] = guardErr1 lk ht rc ts gs) := Lib.hid (by rw [hM, hL]; rfl)
  have HX2 : Hid (guardErr1 lk ht rc ts gs = 0 → 0 < L) := Lib.hid (fun h => by
    have := firstOf_eq_zero.1 h (someErr gs.length 8) (by simp)
    rw [hL]
    rcases Nat.eq_zero_or_pos gs.length with h0 | h0
    · rw [h0] at this; exact absurd this (by decide)
    · exact h0)
  have HX3 : Hid (firstOf [rangeErr (gs.getD 0 0) 0 16, if gs.getD 0 0 ≠ 0 then 11 else 0, ascErr gs 0 16] = guardErr2 gs) := Lib.hid rfl
  have HX4 : Hid (guardErr lk ht rc ts gs = if guardErr1 lk ht rc ts gs = 0 then guardErr2 gs else guardErr1 lk ht rc ts gs) := Lib.hid rfl
  have HLL := Lib.hid hL
  obtain ⟨E1, hE1⟩ : ∃ E, E = guardErr1 lk ht rc ts gs := ⟨_, rfl⟩
  rw [← hE1] at HX1 HX2 HX4
  rw [← hM] at h1
  rw [← hL] at h2
  rw [← hM, ← hL]
  obtain ⟨R, hR⟩ : ∃ R, R = guardErr lk ht rc ts gs := ⟨_, rfl⟩
  rw [← hR] at HX4 ⊢
  clear hM hL hT0 hG0 hE1 hR
  go_enter Tryz.func35, Tryz.ntmps35
  go_wp2
  refine Calm.tail_below 17 (by kernel_rfl) (by kernel_rfl) ?_
  simp only [List.take_succ_cons, List.take_zero, List.drop_succ_cons, List.drop_zero]
  repeat (first | (first | (apply Calm.op_move; (focus rfl); (focus (first | exact .inl rfl | exact .inr rfl)); (focus ((try simp only [Act.eval, Array.getD_eq_getD_getElem?, List.getElem?_toArray, List.getElem?_cons_succ, List.getElem?_cons_zero, Option.getD_some]); rfl)); (try simp only [Act.put, List.setIfInBounds_toArray, List.set_cons_zero, List.set_cons_succ])) | (apply Calm.op_not; (focus rfl); (try simp only [Act.put, List.setIfInBounds_toArray, List.set_cons_zero, List.set_cons_succ])) | (apply Calm.op; (focus rfl); (focus (intro W hb; obtain ⟨hc, hf⟩ := bcell hb; clear hb hf; go_simp; (try go_bits); (try rfl); done)); (try simp only [Act.put, List.setIfInBounds_toArray, List.set_cons_zero, List.set_cons_succ]))) | (apply Calm.op_call; (focus rfl); (focus (intro W hb; obtain ⟨hc, hf⟩ := bcell hb; clear hb hf; go_simp; refine ⟨?_, ?_⟩; rfl; rfl)); (focus (intro W hb; first | (go_at_call 66; exact Calm.call_same hb (within_any _ _ _ _)) | (go_at_call 64; exact Calm.call_below hb (some_any _ _ _ _ _ (by omega))) | (go_at_call 71; exact Calm.call_below hb (HE.out _ _ _ (HT.out.below (Below.trans (by (repeat (first | (with_reducible exact Below.refl _ _) | ((with_reducible refine Below.setCell ?_ ?_ _); rotate_left 1; focus (first | (simp; done) | (simp; omega) | (simp at *; omega))) | ((with_reducible refine Below.alloc ?_ ?_ _); rotate_left 1; focus (first | (simp; done) | (simp; omega) | (simp at *; omega))) | (with_reducible refine Below.drew ?_) | ((with_reducible refine Calm.step (by assumption) ?_ ?_); rotate_left 1; focus (first | (simp; done) | (simp; omega) | (simp at *; omega)))))) (hb.mono (by simp)))))))); (try simp only [Act.put, List.setIfInBounds_toArray, List.set_cons_zero, List.set_cons_succ])))
  refine wpQuiet_nil ?_
  intro w1 hb
  obtain ⟨hbc, hbf⟩ := bcell hb
  have hbz := hb.size
  (try simp at hbz)
  (try have hbz0 : w.heap.size < w1.heap.size := by omega)
  (try have hbz1 : w.heap.size + 1 < w1.heap.size := by omega)
  (try have hbz2 : w.heap.size + 1 + 1 < w1.heap.size := by omega)
  (try have hbz3 : w.heap.size + 1 + 1 + 1 < w1.heap.size := by omega)
  (try have hbz4 : w.heap.size + 1 + 1 + 1 + 1 < w1.heap.size := by omega)
  (try have hbz5 : w.heap.size + 1 + 1 + 1 + 1 + 1 < w1.heap.size := by omega)
  have HB1 : Hid (Below w.heap.size w w1) := Lib.hid (Below.trans (by (repeat (first | (with_reducible exact Below.refl _ _) | ((with_reducible refine Below.setCell ?_ ?_ _); rotate_left 1; focus (first | (simp; done) | (simp; omega) | (simp at *; omega))) | ((with_reducible refine Below.alloc ?_ ?_ _); rotate_left 1; focus (first | (simp; done) | (simp; omega) | (simp at *; omega))) | (with_reducible refine Below.drew ?_) | ((with_reducible refine Calm.step (by assumption) ?_ ?_); rotate_left 1; focus (first | (simp; done) | (simp; omega) | (simp at *; omega)))))) (hb.mono (by simp)))
  have K0 : Blk w1 w.heap.size #[(.int .i64 lk), (.int .i64 ht), .slice A1 M c1, (.int .i64 rc), .slice A2 L c2] := Blk.below (by (repeat (first | ((with_reducible refine Blk.at_ ?_); focus (first | rfl | (simp; done) | (simp; omega))) | (with_reducible refine Blk.alloc ?_ _) | (with_reducible refine Blk.below ?_ (by with_reducible assumption)) | (with_reducible refine Blk.drew ?_)))) hb
  obtain ⟨c00, c01, c02, c03, c04, l0, f0⟩ := K0.o5
  have HK0 := Lib.hid K0
  clear K0 hb hbc hbf
  by_cases h0 : E1 = 0
  · have HX4' : Hid (R = guardErr2 gs) := Lib.hid (by rw [HX4.out, if_pos h0])
    have hL0 := HX2.out h0
    obtain ⟨b, o, rfl, l1, k1⟩ := HG.out (by rw [← HLL.out]; exact hL0)
    have x0 := k1 0 (by rw [← HLL.out]; exact hL0)
    rw [Nat.add_zero] at x0
    have x1 := (HB1.out.cell (p := ⟨b, o, none⟩) l1).trans x0
    have l2 : b < w1.heap.size := by omega
    obtain ⟨g0, hg0⟩ : ∃ g0, g0 = gs.getD 0 0 := ⟨_, rfl⟩
    rw [← hg0] at x1 HX3
    rw [h0] at HX1
    have hLi : (0 : Int) < (L : Int) := by omega
    clear HX4 HX2 k1 x0 hg0 h0
    go_wp2_with (first
      | (go_at_call 64; refine (some_any _ _ _ _ _ (by omega)).mono ?_; rintro r w2 ⟨rfl, hb2⟩; have HK2 := Lib.hid (HK0.out.below hb2); have HB2 := Lib.hid (HB1.out.trans (hb2.mono (by omega))); have hs2 := hb2.size; have hz20 : w.heap.size < w2.heap.size := (by omega); (try have l3 : b < w2.heap.size := (by omega)); obtain ⟨hc2, hf2⟩ := bcell hb2; clear hb2)
      | (go_at_call 49; refine (HF6.out _ _ _ _ _ _ _).mono ?_; rintro r w3 ⟨rfl, rfl⟩; rw [HX1.out]))
    by_cases hg : g0 = 0
    · subst hg
      · skip
        refine name_world ?_
        intro w4 e4
        have HB4 : Hid (Below w.heap.size w w4) := Lib.hid (by rw [e4]; exact HB2.out.alloc (by omega) _)
        have K4 : Blk w4 w.heap.size #[(.int .i64 lk), (.int .i64 ht), .slice A1 M c1, (.int .i64 rc), .slice (some ⟨b, o, none⟩) L c2] := by rw [e4]; exact HK2.out.alloc _
        obtain ⟨d00, d01, d02, d03, d04, m0, g0'⟩ := K4.o5
        have hz4 : w.heap.size ≤ w4.heap.size := HB4.out.size
        clear e4 K4 HK2 HB2 hc2 hf2 c00 c01 c02 c03 c04 l0 f0
        refine Calm.tail_below 7 (by kernel_rfl) (by kernel_rfl) ?_
        simp only [List.take_succ_cons, List.take_zero, List.drop_succ_cons, List.drop_zero]
        repeat (first | (first | (apply Calm.op_move; (focus rfl); (focus (first | exact .inl rfl | exact .inr rfl)); (focus ((try simp only [Act.eval, Array.getD_eq_getD_getElem?, List.getElem?_toArray, List.getElem?_cons_succ, List.getElem?_cons_zero, Option.getD_some]); rfl)); (try simp only [Act.put, List.setIfInBounds_toArray, List.set_cons_zero, List.set_cons_succ])) | (apply Calm.op_not; (focus rfl); (try simp only [Act.put, List.setIfInBounds_toArray, List.set_cons_zero, List.set_cons_succ])) | (apply Calm.op; (focus rfl); (focus (intro W hb; obtain ⟨hc, hf⟩ := bcell hb; clear hb hf; go_simp; (try go_bits); (try rfl); done)); (try simp only [Act.put, List.setIfInBounds_toArray, List.set_cons_zero, List.set_cons_succ]))) | (apply Calm.op_call; (focus rfl); (focus (intro W hb; obtain ⟨hc, hf⟩ := bcell hb; clear hb hf; go_simp; refine ⟨?_, ?_⟩; rfl; rfl)); (focus (intro W hb; first | (go_at_call 66; exact Calm.call_same hb (within_any _ _ _ _)) | (go_at_call 68; exact Calm.call_same hb (when_any _ _ _)))); (try simp only [Act.put, List.setIfInBounds_toArray, List.set_cons_zero, List.set_cons_succ])))
        refine wpQuiet_nil ?_
        intro w5 hb5
        obtain ⟨hb5c, hb5f⟩ := bcell hb5
        have hb5z := hb5.size
        (try simp at hb5z)
        (try have hb5z0 : w.heap.size < w5.heap.size := by omega)
        (try have hb5z1 : w.heap.size + 1 < w5.heap.size := by omega)
        (try have hb5z2 : w.heap.size + 1 + 1 < w5.heap.size := by omega)
        (try have hb5z3 : w.heap.size + 1 + 1 + 1 < w5.heap.size := by omega)
        (try have hb5z4 : w.heap.size + 1 + 1 + 1 + 1 < w5.heap.size := by omega)
        (try have hb5z5 : w.heap.size + 1 + 1 + 1 + 1 + 1 < w5.heap.size := by omega)
        have HB5 : Hid (Below w.heap.size w w5) := Lib.hid (HB4.out.trans (hb5.mono hz4))
        have hz5 := hb5.size
        clear hb5 hb5c hb5f
        go_wp2_with (first
          | (go_at_call 65; refine (HA.out _ _ _ (HG.out.below HB5.out)).mono ?_; rintro r w6 ⟨rfl, hb6⟩; have HB6 := Lib.hid (HB5.out.trans (hb6.mono (by omega))); have hs6 := hb6.size; clear hb6)
          | (go_at_call 49; refine (HF3.out _ _ _ _).mono ?_; rintro r w7 ⟨rfl, rfl⟩))
        go_ret
        exact ⟨ret_i (by rw [HX4'.out, ← HX3.out]; simp), HB6.out.alloc (by omega) _⟩
    · skip
      · skip
        refine name_world ?_
        intro w4 e4
        have HB4 : Hid (Below w.heap.size w w4) := Lib.hid (by rw [e4]; exact HB2.out.alloc (by omega) _)
        have K4 : Blk w4 w.heap.size #[(.int .i64 lk), (.int .i64 ht), .slice A1 M c1, (.int .i64 rc), .slice (some ⟨b, o, none⟩) L c2] := by rw [e4]; exact HK2.out.alloc _
        obtain ⟨d00, d01, d02, d03, d04, m0, g0'⟩ := K4.o5
        have hz4 : w.heap.size ≤ w4.heap.size := HB4.out.size
        clear e4 K4 HK2 HB2 hc2 hf2 c00 c01 c02 c03 c04 l0 f0
        refine Calm.tail_below 7 (by kernel_rfl) (by kernel_rfl) ?_
        simp only [List.take_succ_cons, List.take_zero, List.drop_succ_cons, List.drop_zero]
        repeat (first | (first | (apply Calm.op_move; (focus rfl); (focus (first | exact .inl rfl | exact .inr rfl)); (focus ((try simp only [Act.eval, Array.getD_eq_getD_getElem?, List.getElem?_toArray, List.getElem?_cons_succ, List.getElem?_cons_zero, Option.getD_some]); rfl)); (try simp only [Act.put, List.setIfInBounds_toArray, List.set_cons_zero, List.set_cons_succ])) | (apply Calm.op_not; (focus rfl); (try simp only [Act.put, List.setIfInBounds_toArray, List.set_cons_zero, List.set_cons_succ])) | (apply Calm.op; (focus rfl); (focus (intro W hb; obtain ⟨hc, hf⟩ := bcell hb; clear hb hf; go_simp; (try go_bits); (try rfl); done)); (try simp only [Act.put, List.setIfInBounds_toArray, List.set_cons_zero, List.set_cons_succ]))) | (apply Calm.op_call; (focus rfl); (focus (intro W hb; obtain ⟨hc, hf⟩ := bcell hb; clear hb hf; go_simp; refine ⟨?_, ?_⟩; rfl; rfl)); (focus (intro W hb; first | (go_at_call 66; exact Calm.call_same hb (within_any _ _ _ _)) | (go_at_call 68; exact Calm.call_same hb (when_any _ _ _)))); (try simp only [Act.put, List.setIfInBounds_toArray, List.set_cons_zero, List.set_cons_succ])))
        refine wpQuiet_nil ?_
        intro w5 hb5
        obtain ⟨hb5c, hb5f⟩ := bcell hb5
        have hb5z := hb5.size
        (try simp at hb5z)
        (try have hb5z0 : w.heap.size < w5.heap.size := by omega)
        (try have hb5z1 : w.heap.size + 1 < w5.heap.size := by omega)
        (try have hb5z2 : w.heap.size + 1 + 1 < w5.heap.size := by omega)
        (try have hb5z3 : w.heap.size + 1 + 1 + 1 < w5.heap.size := by omega)
        (try have hb5z4 : w.heap.size + 1 + 1 + 1 + 1 < w5.heap.size := by omega)
        (try have hb5z5 : w.heap.size + 1 + 1 + 1 + 1 + 1 < w5.heap.size := by omega)
        have HB5 : Hid (Below w.heap.size w w5) := Lib.hid (HB4.out.trans (hb5.mono hz4))
        have hz5 := hb5.size
        clear hb5 hb5c hb5f
        go_wp2_with (first
          | (go_at_call 65; refine (HA.out _ _ _ (HG.out.below HB5.out)).mono ?_; rintro r w6 ⟨rfl, hb6⟩; have HB6 := Lib.hid (HB5.out.trans (hb6.mono (by omega))); have hs6 := hb6.size; clear hb6)
          | (go_at_call 49; refine (HF3.out _ _ _ _).mono ?_; rintro r w7 ⟨rfl, rfl⟩))
        go_ret
        exact ⟨ret_i (by rw [HX4'.out, ← HX3.out]; simp [hg]), HB6.out.alloc (by omega) _⟩
  · have HX4' : Hid (R = E1) := Lib.hid (by rw [HX4.out, if_neg h0])
    clear HX4 HX2
    go_wp2_with (first
      | (go_at_call 64; refine (some_any _ _ _ _ _ (by omega)).mono ?_; rintro r w2 ⟨rfl, hb2⟩; have HK2 := Lib.hid (HK0.out.below hb2); have HB2 := Lib.hid (HB1.out.trans (hb2.mono (by omega))); have hs2 := hb2.size; have hz20 : w.heap.size < w2.heap.size := (by omega); (try have l3 : b < w2.heap.size := (by omega)); obtain ⟨hc2, hf2⟩ := bcell hb2; clear hb2)
      | (go_at_call 49; refine (HF6.out _ _ _ _ _ _ _).mono ?_; rintro r w3 ⟨rfl, rfl⟩; rw [HX1.out]))
    go_ret
    exact ⟨ret_i HX4'.out.symm, HB2.out.alloc (by omega) _⟩
end Go.Proofs.YtdeapbihbhoefaaGreatDoor

/- Contracts of slices.IndexFunc and ContainsFunc at (Guard).far, of the third condition and of (Guard).fine. -/
namespace Go.Proofs.YtdeapbihbhoefaaGreatDoor
open Go.RowKit
open Calm (bcell Blk)

/-- the first far number, or -1. -/
def farIdx (rc : Int) (l : List Int) : Int := match l.findIdx? (fun x => decide (rc < absI x)) with | some k => (k : Int) | none => -1
theorem farIdx_at {rc : Int} {l : List Int} {k : Nat} (hk : k < l.length) (hz : ∀ j, j < k → ¬ rc < absI (l.getD j 0)) (h : rc < absI (l.getD k 0)) : farIdx rc l = k := by
  have : l.findIdx? (fun x => decide (rc < absI x)) = some k := by
    rw [List.findIdx?_eq_some_iff_getElem]
    refine ⟨hk, ?_, fun j hj => ?_⟩
    · rw [List.getD_eq_getElem?_getD, List.getElem?_eq_getElem hk] at h
      simpa using h
    · have := hz j hj
      rw [List.getD_eq_getElem?_getD, List.getElem?_eq_getElem (by omega)] at this
      simpa using this
  unfold farIdx
  rw [this]
theorem farIdx_none {rc : Int} {l : List Int} (hz : ∀ j, j < l.length → ¬ rc < absI (l.getD j 0)) : farIdx rc l = -1 := by
  have : l.findIdx? (fun x => decide (rc < absI x)) = none := by
    rw [List.findIdx?_eq_none_iff]
    intro x hx
    obtain ⟨j, hj, rfl⟩ := List.mem_iff_getElem.1 hx
    have := hz j hj
    rw [List.getD_eq_getElem?_getD, List.getElem?_eq_getElem hj] at this
    simpa using this
  unfold farIdx
  rw [this]
theorem farIdx_nonneg (rc : Int) (l : List Int) : decide (0 ≤ farIdx rc l) = l.any (fun x => decide (rc < absI x)) := by
  unfold farIdx
  cases h : l.findIdx? (fun x => decide (rc < absI x)) with
  | none =>
    rw [List.findIdx?_eq_none_iff] at h
    have : l.any (fun x => decide (rc < absI x)) = false := by
      rw [List.any_eq_false]
      intro x hx
      rw [h x hx]
      decide
    rw [this]
    decide
  | some k =>
    have : l.any (fun x => decide (rc < absI x)) = true := by
      rw [List.findIdx?_eq_some_iff_getElem] at h
      obtain ⟨hk, h1, _⟩ := h
      exact List.any_eq_true.2 ⟨_, List.getElem_mem hk, h1⟩
    rw [this]
    simp

set_option maxHeartbeats 1000000 in
theorem indexFar_any (lk ht rc : Int) (l : List Int) (A1 A2 B : Option Addr) (n1 c1 n2 c2 c : Nat) (w : World) (hC : Cells w B l) (hn : l.length ≤ 5000) (hb : inB 1099511627776 l) :
    Calls Tryz.prog 141 #[.slice B l.length c, .func (.func 138) #[.agg #[(.int .i64 lk), (.int .i64 ht), .slice A1 n1 c1, (.int .i64 rc), .slice A2 n2 c2]] #[]] w fun r w' => r = .returned (.int .i64 (farIdx rc l)) ∧ Below w.heap.size w w' := by
  have HC := Lib.hid hC
  have HB := Lib.hid (fun k => inB_get hb (by omega) k)
  obtain ⟨N, hN⟩ : ∃ N, N = l.length := ⟨_, rfl⟩
  have HN := Lib.hid hN
  rw [← hN] at hn ⊢
  clear hN hC hb
  go_enter Tryz.func141, Tryz.ntmps141
  go_wp2
  go_loopw [8] (fun i wr => ∃ k : Nat, k ≤ N ∧ i = (.int .i64 k) ∧ (∀ j, j < k → ¬ rc < absI (l.getD j 0)) ∧ Below w.heap.size w wr) (fun i _ => N - (intOf i).toNat)
  case atStart => exact ⟨0, Nat.zero_le _, rfl, fun j hj => by omega, Below.refl _ _⟩
  case round =>
    obtain ⟨k, hk, rfl, hz, hBl⟩ := hrel
    have HZ := Lib.hid hz
    have HBL := Lib.hid hBl
    clear hz
    by_cases hlt : k < N
    · obtain ⟨b, off, rfl, hbl, hc⟩ := HC.out (by rw [← HN.out]; omega)
      have hck := (hBl.cell (p := ⟨b, off + k, none⟩) hbl).trans (hc k (by rw [← HN.out]; exact hlt))
      have hbx := HB.out k
      have hsz := hBl.size
      have HF := Lib.hid (@farIdx_at rc l k (by rw [← HN.out]; exact hlt) HZ.out)
      have HZ2 : Hid (¬ rc < absI (l.getD k 0) → ∀ j, j < k + 1 → ¬ rc < absI (l.getD j 0)) := Lib.hid (fun h1 j hj => by
        rcases Nat.lt_or_ge j k with h2 | h2
        · exact HZ.out j h2
        · obtain rfl : j = k := by omega
          exact h1)
      obtain ⟨x, hx⟩ : ∃ x, x = l.getD k 0 := ⟨_, rfl⟩
      rw [← hx] at hck hbx HF HZ2
      obtain ⟨b1, b2⟩ := hbx
      clear hc hx hBl
      by_cases hf : rc < absI x
      · have ef : decide (rc < absI x) = true := by simpa using hf
        have HF2 := Lib.hid (HF.out hf)
        go_wp2_with (go_at_call 138; refine (far_any lk ht rc x A1 A2 n1 c1 n2 c2 _ ⟨b1, b2⟩).mono ?_; rw [ef]; rintro r w1 ⟨rfl, hb1⟩)
        go_ret
        exact ⟨ret_i HF2.out.symm, HBL.out.trans (hb1.mono hsz)⟩
      · have ef : decide (rc < absI x) = false := by simpa using hf
        have HF2 := Lib.hid (HZ2.out hf)
        clear hf
        go_wp2_with (go_at_call 138; refine (far_any lk ht rc x A1 A2 n1 c1 n2 c2 _ ⟨b1, b2⟩).mono ?_; rw [ef]; rintro r w1 ⟨rfl, hb1⟩)
        go_roundw
        case rel => exact ⟨k + 1, by omega, by go_num, fun j hj => by have := HF2.out j hj; omega, HBL.out.trans (hb1.mono hsz)⟩
        case measure => simp [intOf]; omega
    · obtain rfl : k = N := by omega
      have HF := Lib.hid (@farIdx_none rc l (by rw [← HN.out]; exact HZ.out))
      go_wp2
      go_ret
      exact ⟨ret_i HF.out.symm, HBL.out⟩
theorem containsFar_any (lk ht rc : Int) (l : List Int) (A1 A2 B : Option Addr) (n1 c1 n2 c2 c : Nat) (w : World) (hC : Cells w B l) (hn : l.length ≤ 5000) (hb : inB 1099511627776 l) :
    Calls Tryz.prog 140 #[.slice B l.length c, .func (.func 138) #[.agg #[(.int .i64 lk), (.int .i64 ht), .slice A1 n1 c1, (.int .i64 rc), .slice A2 n2 c2]] #[]] w fun r w' => r = .returned (.bool (l.any fun x => decide (rc < absI x))) ∧ Below w.heap.size w w' := by
  rw [← farIdx_nonneg]
  obtain ⟨X, hX⟩ : ∃ X, X = farIdx rc l := ⟨_, rfl⟩
  have HX : Hid (∀ w, Cells w B l → Calls Tryz.prog 141 #[.slice B l.length c, .func (.func 138) #[.agg #[(.int .i64 lk), (.int .i64 ht), .slice A1 n1 c1, (.int .i64 rc), .slice A2 n2 c2]] #[]] w fun r w' => r = .returned (.int .i64 X) ∧ Below w.heap.size w w') := Lib.hid (fun w h => by rw [hX]; exact indexFar_any lk ht rc l A1 A2 B n1 c1 n2 c2 c w h hn hb)
  have HC := Lib.hid hC
  rw [← hX]
  generalize l.length = N at *
  clear hX hC hb
  go_enter Tryz.func140, Tryz.ntmps140
  go_wp2_with (go_at_call 141; refine (HX.out _ HC.out).mono ?_; rintro r w1 ⟨rfl, hb1⟩)
  all_goals (go_ret; exact ⟨rfl, hb1⟩)
end Go.Proofs.YtdeapbihbhoefaaGreatDoor

/- Contracts of the third condition and of (Guard).fine. -/
namespace Go.Proofs.YtdeapbihbhoefaaGreatDoor
open Go.RowKit
open Calm (bcell Blk)

theorem tailsF_in {ts ps : List Int} (h1 : inB 64 ts) (h2 : inB 2048 ps) (hn : ps.length ≤ 7) : inB 1099511627776 (tailsF ts ps) := by
  intro x hx
  obtain ⟨k, _, rfl⟩ := List.mem_map.1 hx
  have := exK_bd h1 (psK_in h2 (by omega) k) (y := 0) (by omega) (psK ps k).length
  rw [psK_len] at this
  unfold exF
  rw [psK_len]
  omega
def farAny (rc : Int) (l : List Int) : Bool := l.any fun x => decide (rc < absI x)

set_option maxHeartbeats 1000000 in
theorem cond3_any (lk ht rc h lv x : Int) (ts ps : List Int) (A1 A2 A3 : Option Addr) (c1 n2 c2 c3 : Nat) (w : World) (hlk : 1 ≤ lk ∧ lk ≤ 8) (hh : 0 ≤ h ∧ h ≤ 1099511627776) (hT : Cells w A1 ts) (hP : Cells w A3 ps)
    (hn : ts.length = ps.length + 1) (hn2 : ps.length ≤ 7) (bT : inB 64 ts) (bP : inB 2048 ps) :
    Calls Tryz.prog 139 #[.agg #[(.int .i64 lk), (.int .i64 ht), .slice A1 ts.length c1, (.int .i64 rc), .slice A2 n2 c2], .agg #[(.int .i64 h), (.int .i64 lv), .slice A3 ps.length c3], (.int .i64 x)] w fun r w' => r = .returned (.bool (!farAny rc (tailsF ts ps))) ∧ Below w.heap.size w w' := by
  have HT := Lib.hid hT
  have HP := Lib.hid hP
  have HI := Lib.hid (tailsF_in bT bP hn2)
  obtain ⟨M, hM⟩ : ∃ M, M = ts.length := ⟨_, rfl⟩
  obtain ⟨N, hN⟩ : ∃ N, N = ps.length := ⟨_, rfl⟩
  have HXX : Hid (∀ W, Cells W A1 ts → Cells W A3 ps → Calls Tryz.prog 54 #[.agg #[(.int .i64 lk), (.int .i64 ht), .slice A1 M c1, (.int .i64 rc), .slice A2 n2 c2], .agg #[(.int .i64 h), (.int .i64 lv), .slice A3 N c3]] W fun r w' => (∃ B c, r = .returned (.slice B N c) ∧ (∀ p, B = some p → W.heap.size ≤ p.block) ∧ Cells w' B (tailsF ts ps)) ∧ Below W.heap.size W w') := Lib.hid (fun W q1 q2 => by
    rw [hM, hN]; exact tails_any lk ht rc h lv ts ps A1 A2 A3 c1 n2 c2 c3 W hlk hh q1 q2 hn hn2 bT bP)
  have HL : Hid (∀ W B c, Cells W B (tailsF ts ps) → Calls Tryz.prog 140 #[.slice B N c, .func (.func 138) #[.agg #[(.int .i64 lk), (.int .i64 ht), .slice A1 M c1, (.int .i64 rc), .slice A2 n2 c2]] #[]] W fun r w' => r = .returned (.bool (farAny rc (tailsF ts ps))) ∧ Below W.heap.size W w') := Lib.hid (fun W B c q => by
    have e : N = (tailsF ts ps).length := by rw [hN]; exact (tailsL_len _ _ _).symm
    rw [e]; exact containsFar_any lk ht rc (tailsF ts ps) A1 A2 B M c1 n2 c2 c W q (by unfold tailsF; rw [tailsL_len]; omega) HI.out)
  obtain ⟨X, hX⟩ : ∃ X, X = farAny rc (tailsF ts ps) := ⟨_, rfl⟩
  rw [← hX] at HL ⊢
  rw [← hM, ← hN]
  clear hX hM hN hT hP hn hn2 bT bP
  go_enter Tryz.func139, Tryz.ntmps139
  go_wp2
  refine Rel.region3 5 (by kernel_rfl) (by kernel_rfl) (by kernel_rfl) ?_
  simp only [List.take_succ_cons, List.take_zero, List.drop_succ_cons, List.drop_zero, List.filterMap_cons, List.filterMap_nil]
  iterate 2 (apply Rel.op3; (focus (first | exact Rel.gno rfl | exact Rel.gyes _ true _ rfl rfl rfl | exact Rel.gyes _ false _ rfl rfl rfl)); (focus (intro a W hb hd hbase; obtain ⟨hc, hf⟩ := bcell hb; clear hb hf; simp [Rel.deps, Rel.dep1, Rel.ons, Region.binds, Act.eval] at hd; simp only [Act.eval, List.mem_cons, List.not_mem_nil, not_or, and_imp, or_false, Array.getD_eq_getD_getElem?] at hbase; go_simp; (try go_bits); (try rfl); done)); (try simp only [List.nil_append, List.cons_append]))
  refine Rel.callR3 (fun u W => ∃ B c, u = .slice B N c ∧ Cells W B (tailsF ts ps)) (fun u W W' ⟨B, c, h1, h2⟩ hb => ⟨B, c, h1, h2.below hb⟩) (Rel.gno rfl) ?_ ?_
  · intro a W hb hd hbase
    have k1 := HT.out.below (Below.trans (by (repeat (first | (with_reducible exact Below.refl _ _) | ((with_reducible refine Below.setCell ?_ ?_ _); rotate_left 1; focus (first | (simp; done) | (simp; omega) | (simp at *; omega))) | ((with_reducible refine Below.alloc ?_ ?_ _); rotate_left 1; focus (first | (simp; done) | (simp; omega) | (simp at *; omega))) | (with_reducible refine Below.drew ?_) | ((with_reducible refine Calm.step (by assumption) ?_ ?_); rotate_left 1; focus (first | (simp; done) | (simp; omega) | (simp at *; omega)))))) (hb.mono (by simp; omega)))
    have k2 := HP.out.below (Below.trans (by (repeat (first | (with_reducible exact Below.refl _ _) | ((with_reducible refine Below.setCell ?_ ?_ _); rotate_left 1; focus (first | (simp; done) | (simp; omega) | (simp at *; omega))) | ((with_reducible refine Below.alloc ?_ ?_ _); rotate_left 1; focus (first | (simp; done) | (simp; omega) | (simp at *; omega))) | (with_reducible refine Below.drew ?_) | ((with_reducible refine Calm.step (by assumption) ?_ ?_); rotate_left 1; focus (first | (simp; done) | (simp; omega) | (simp at *; omega)))))) (hb.mono (by simp; omega)))
    refine ⟨54, #[.agg #[(.int .i64 lk), (.int .i64 ht), .slice A1 M c1, (.int .i64 rc), .slice A2 n2 c2], .agg #[(.int .i64 h), (.int .i64 lv), .slice A3 N c3]], ?_, (HXX.out W k1 k2).mono (fun e W' ⟨⟨B, c, h1, _, h3⟩, h4⟩ => ⟨_, h1, ⟨B, c, rfl, h3⟩, h4⟩)⟩
    clear k1 k2
    obtain ⟨hc, hf⟩ := bcell hb
    clear hb hf
    simp [Rel.deps, Rel.dep1, Rel.ons, Region.binds, Act.eval] at hd
    simp only [Act.eval, List.mem_cons, List.not_mem_nil, not_or, and_imp, or_false, Array.getD_eq_getD_getElem?] at hbase
    go_simp
    (first | done | rfl | (refine ⟨?_, ?_⟩ <;> rfl))
  (try simp only [List.nil_append, List.cons_append])
  iterate 2 (apply Rel.op3; (focus (first | exact Rel.gno rfl | exact Rel.gyes _ true _ rfl rfl rfl | exact Rel.gyes _ false _ rfl rfl rfl)); (focus (intro a W hb hd hbase; obtain ⟨hc, hf⟩ := bcell hb; clear hb hf; simp [Rel.deps, Rel.dep1, Rel.ons, Region.binds, Act.eval] at hd; simp only [Act.eval, List.mem_cons, List.not_mem_nil, not_or, and_imp, or_false, Array.getD_eq_getD_getElem?] at hbase; go_simp; (try go_bits); (try rfl); done)); (try simp only [List.nil_append, List.cons_append]))
  refine Rel.done3 ?_
  intro x1 w1 hb1 hx
  simp only [Rel.facts, Nat.zero_add, Nat.reduceAdd] at hx
  obtain ⟨e0, e1, ⟨B, c, e2, hCB⟩, e3, e4, _⟩ := hx
  simp only [Rel.fill, Nat.zero_add, Nat.reduceAdd, e0, e1, e2, e3, e4]
  simp only [Act.put, List.setIfInBounds_toArray, List.set_cons_zero, List.set_cons_succ]
  clear e0 e1 e2 e3 e4
  have HCB := Lib.hid hCB
  have HB1 : Hid (Below w.heap.size w w1) := Lib.hid (Below.trans (by (repeat (first | (with_reducible exact Below.refl _ _) | ((with_reducible refine Below.setCell ?_ ?_ _); rotate_left 1; focus (first | (simp; done) | (simp; omega) | (simp at *; omega))) | ((with_reducible refine Below.alloc ?_ ?_ _); rotate_left 1; focus (first | (simp; done) | (simp; omega) | (simp at *; omega))) | (with_reducible refine Below.drew ?_) | ((with_reducible refine Calm.step (by assumption) ?_ ?_); rotate_left 1; focus (first | (simp; done) | (simp; omega) | (simp at *; omega)))))) (hb1.mono (by simp; omega)))
  have hs1 := HB1.out.size
  clear hCB hb1
  go_wp2_with (go_at_call 140; refine (HL.out _ _ _ HCB.out).mono ?_; rintro r w2 ⟨rfl, hb2⟩)
  go_ret
  exact ⟨rfl, HB1.out.trans (hb2.mono hs1)⟩
end Go.Proofs.YtdeapbihbhoefaaGreatDoor

/- Contract of (Guard).fine: whether a state behind an output keeps all conditions. -/
namespace Go.Proofs.YtdeapbihbhoefaaGreatDoor
open Go.RowKit
open Calm (bcell Blk)

/-- what the program's variables hold. -/
structure Lim (w : World) : Prop where
  lt : 0 < w.heap.size
  c0 : w.cell? ⟨0, 0, none⟩ = some (.func (.func 136) #[] #[])
  c1 : w.cell? ⟨0, 1, none⟩ = some (.func (.func 137) #[] #[])
  c2 : w.cell? ⟨0, 2, none⟩ = some (.func (.func 139) #[] #[])
theorem Lim.below {w w' : World} (h : Lim w) (hb : Below w.heap.size w w') : Lim w' :=
  ⟨Nat.lt_of_lt_of_le h.lt hb.size, (hb.cell (p := ⟨0, 0, none⟩) h.lt).trans h.c0, (hb.cell (p := ⟨0, 1, none⟩) h.lt).trans h.c1, (hb.cell (p := ⟨0, 2, none⟩) h.lt).trans h.c2⟩
/-- whether a state behind an output, with an excursion, keeps all limits. -/
def fineF (ht rc h x : Int) (ts ps : List Int) : Bool := decide (h ≤ ht) && !decide (rc < absI x) && !farAny rc (tailsF ts ps)

theorem Tryz.sizeCond : (Tryz.prog.info? 142).map (·.size) = some 1 := by kernel_rfl
theorem Tryz.aggCond : (match Tryz.prog.underlying 142 with | some (.struct _ ..) => true | _ => false) = true := by kernel_rfl
theorem idxCond (a b c : Value) (k : Nat) (hk : k < 3) (W : World) : Sem.run Tryz.prog (Instr.index 143 (.agg #[a, b, c]) (.int .i64 ((k : Int)))) W = .ok (.agg #[#[a, b, c][k]]) W := by
  have ht : Tryz.prog.underlying 143 = some (.array 3 142) := by kernel_rfl
  have hs := Tryz.sizeCond
  have h3 : (0 : Int) ≤ k ∧ (k : Int) < 3 := by omega
  obtain ⟨i, hi, hs⟩ := Option.map_eq_some_iff.1 hs
  have ha := Tryz.aggCond
  cases hu : Tryz.prog.underlying 142 with
  | none => rw [hu] at ha; cases ha
  | some d =>
    rw [hu] at ha
    have hrun := run_underlying (P := Tryz.prog) hu
    cases d <;> first | cases ha | skip
    simp [Instr.index, run_underlying ht, asIntOf, sizeOf, typeInfo, hi, hs, h3, part, isAgg, hrun, hk]
    obtain rfl | rfl | rfl : k = 0 ∨ k = 1 ∨ k = 2 := by omega
    all_goals rfl

set_option maxHeartbeats 2000000 in
set_option maxRecDepth 100000 in
theorem fine_any (lk ht rc h lv x : Int) (ts ps : List Int) (A1 A2 A3 : Option Addr) (c1 n2 c2 c3 : Nat) (w : World) (hL : Lim w) (hlk : 1 ≤ lk ∧ lk ≤ 8) (hh : 0 ≤ h ∧ h ≤ 1099511627776) (hT : Cells w A1 ts) (hP : Cells w A3 ps)
    (hn : ts.length = ps.length + 1) (hn2 : ps.length ≤ 7) (bT : inB 64 ts) (bP : inB 2048 ps) (hx : -1099511627776 ≤ x ∧ x ≤ 1099511627776) :
    Calls Tryz.prog 80 #[.agg #[(.int .i64 lk), (.int .i64 ht), .slice A1 ts.length c1, (.int .i64 rc), .slice A2 n2 c2], .agg #[(.int .i64 h), (.int .i64 lv), .slice A3 ps.length c3], (.int .i64 x)] w fun r w' => r = .returned (.bool (fineF ht rc h x ts ps)) ∧ Below w.heap.size w w' := by
  have HT := Lib.hid hT
  have HP := Lib.hid hP
  obtain ⟨M, hM⟩ : ∃ M, M = ts.length := ⟨_, rfl⟩
  obtain ⟨N, hN⟩ : ∃ N, N = ps.length := ⟨_, rfl⟩
  have H1 : Hid (∀ W, Calls Tryz.prog 136 #[.agg #[(.int .i64 lk), (.int .i64 ht), .slice A1 M c1, (.int .i64 rc), .slice A2 n2 c2], .agg #[(.int .i64 h), (.int .i64 lv), .slice A3 N c3], (.int .i64 x)] W fun r w' => r = .returned (.bool (decide (h ≤ ht))) ∧ Below W.heap.size W w') := Lib.hid (fun W => cond1_any lk ht rc h lv x A1 A2 A3 M c1 n2 c2 N c3 W)
  have H2 : Hid (∀ W, Calls Tryz.prog 137 #[.agg #[(.int .i64 lk), (.int .i64 ht), .slice A1 M c1, (.int .i64 rc), .slice A2 n2 c2], .agg #[(.int .i64 h), (.int .i64 lv), .slice A3 N c3], (.int .i64 x)] W fun r w' => r = .returned (.bool (!decide (rc < absI x))) ∧ Below W.heap.size W w') := Lib.hid (fun W => cond2_any lk ht rc h lv x A1 A2 A3 M c1 n2 c2 N c3 W hx)
  have H3 : Hid (∀ W, Cells W A1 ts → Cells W A3 ps → Calls Tryz.prog 139 #[.agg #[(.int .i64 lk), (.int .i64 ht), .slice A1 M c1, (.int .i64 rc), .slice A2 n2 c2], .agg #[(.int .i64 h), (.int .i64 lv), .slice A3 N c3], (.int .i64 x)] W fun r w' => r = .returned (.bool (!farAny rc (tailsF ts ps))) ∧ Below W.heap.size W w') := Lib.hid (fun W q1 q2 => by
    rw [hM, hN]; exact cond3_any lk ht rc h lv x ts ps A1 A2 A3 c1 n2 c2 c3 W hlk hh q1 q2 hn hn2 bT bP)
  unfold fineF
  obtain ⟨X1, hX1⟩ : ∃ X, X = decide (h ≤ ht) := ⟨_, rfl⟩
  obtain ⟨X2, hX2⟩ : ∃ X, X = !decide (rc < absI x) := ⟨_, rfl⟩
  obtain ⟨X3, hX3⟩ : ∃ X, X = !farAny rc (tailsF ts ps) := ⟨_, rfl⟩
  rw [← hX1] at H1 ⊢
  rw [← hX2] at H2 ⊢
  rw [← hX3] at H3 ⊢
  rw [← hM, ← hN]
  obtain ⟨l0, d0, d1, d2⟩ := hL
  clear hX1 hX2 hX3 hM hN hT hP hn hn2 bT bP hlk hh hx
  have l1 : 0 < w.heap.size + 1 := by omega
  have hx0 : ∀ W : World, Sem.run Tryz.prog (Instr.index 143 (.agg #[.func (.func 136) #[] #[], .func (.func 137) #[] #[], .func (.func 139) #[] #[]]) (.int .i64 0)) W = .ok (.agg #[.func (.func 136) #[] #[]]) W := fun W => idxCond _ _ _ 0 (by omega) W
  have hx1 : ∀ W : World, Sem.run Tryz.prog (Instr.index 143 (.agg #[.func (.func 136) #[] #[], .func (.func 137) #[] #[], .func (.func 139) #[] #[]]) (.int .i64 1)) W = .ok (.agg #[.func (.func 137) #[] #[]]) W := fun W => idxCond _ _ _ 1 (by omega) W
  have hx2 : ∀ W : World, Sem.run Tryz.prog (Instr.index 143 (.agg #[.func (.func 136) #[] #[], .func (.func 137) #[] #[], .func (.func 139) #[] #[]]) (.int .i64 2)) W = .ok (.agg #[.func (.func 139) #[] #[]]) W := fun W => idxCond _ _ _ 2 (by omega) W
  have hst : ∀ (W : World) (t : TypeId) (f : FuncId), Sem.run Tryz.prog (store ⟨W.heap.size, 0, none⟩ (.func (.func f) #[] #[])) (W.alloc (.cells #[.nilFunc] t)) = .ok () (W.alloc (.cells #[.func (.func f) #[] #[]] t)) := by
    intro W t f
    rw [run_store _ _ _ _ _ rfl]
    simp
    simp [go_sem]
  go_enter Tryz.func80, Tryz.ntmps80
  go_wp2
  go_loopw [10] (fun i wr => ∃ k : Nat, k ≤ 3 ∧ i = (.int .i64 k) ∧ (0 < k → X1 = true) ∧ (1 < k → X2 = true) ∧ (2 < k → X3 = true) ∧ Blk wr w.heap.size #[(.int .i64 lk), (.int .i64 ht), .slice A1 M c1, (.int .i64 rc), .slice A2 n2 c2] ∧ Blk wr (w.heap.size + 1) #[(.int .i64 h), (.int .i64 lv), .slice A3 N c3] ∧ Below w.heap.size w wr) (fun i _ => 3 - (intOf i).toNat)
  case atStart => exact ⟨0, by omega, rfl, fun h => absurd h (by omega), fun h => absurd h (by omega), fun h => absurd h (by omega), by (repeat (first | ((with_reducible refine Blk.at_ ?_); focus (first | rfl | (simp; done) | (simp; omega))) | (with_reducible refine Blk.alloc ?_ _) | (with_reducible refine Blk.below ?_ (by with_reducible assumption)) | (with_reducible refine Blk.drew ?_))), by (repeat (first | ((with_reducible refine Blk.at_ ?_); focus (first | rfl | (simp; done) | (simp; omega))) | (with_reducible refine Blk.alloc ?_ _) | (with_reducible refine Blk.below ?_ (by with_reducible assumption)) | (with_reducible refine Blk.drew ?_))), by (repeat (first | (with_reducible exact Below.refl _ _) | ((with_reducible refine Below.setCell ?_ ?_ _); rotate_left 1; focus (first | (simp; done) | (simp; omega) | (simp at *; omega))) | ((with_reducible refine Below.alloc ?_ ?_ _); rotate_left 1; focus (first | (simp; done) | (simp; omega) | (simp at *; omega))) | (with_reducible refine Below.drew ?_) | ((with_reducible refine Calm.step (by assumption) ?_ ?_); rotate_left 1; focus (first | (simp; done) | (simp; omega) | (simp at *; omega)))))⟩
  case round =>
    obtain ⟨k, hk, rfl, hf0, hf1, hf2, K0, K1, hB⟩ := hrel
    have HF0 := Lib.hid hf0
    have HF1 := Lib.hid hf1
    have HF2 := Lib.hid hf2
    have HB := Lib.hid hB
    have hsz := hB.size
    obtain ⟨c00, c01, c02, c03, c04, m0, f0⟩ := K0.o5
    obtain ⟨c10, c11, c12, m1, f1⟩ := K1.o3
    have HK0 := Lib.hid K0
    have HK1 := Lib.hid K1
    have hsz1 : w.heap.size < wr.heap.size + 1 := by omega
    have hsz2 : w.heap.size + 1 < wr.heap.size + 1 := by omega
    clear hf0 hf1 hf2 hB K0 K1 d0 d1 d2
    obtain rfl | rfl | rfl | rfl : k = 0 ∨ k = 1 ∨ k = 2 ∨ k = 3 := by omega
    · have hcT := Lib.hid (HT.out.below HB.out)
      have hcP := Lib.hid (HP.out.below HB.out)
      cases X1 with
      | false =>
        go_wp2_with (go_at_call 136; refine (H1.out _).mono ?_; rintro r w1 ⟨rfl, hb1⟩)
        go_ret
        exact ⟨by first | rfl | (cases X1 <;> cases X2 <;> rfl) | simp, Below.trans HB.out (Below.trans (by (repeat (first | (with_reducible exact Below.refl _ _) | ((with_reducible refine Below.setCell ?_ ?_ _); rotate_left 1; focus (first | (simp; done) | (simp; omega) | (simp at *; omega))) | ((with_reducible refine Below.alloc ?_ ?_ _); rotate_left 1; focus (first | (simp; done) | (simp; omega) | (simp at *; omega))) | (with_reducible refine Below.drew ?_) | ((with_reducible refine Calm.step (by assumption) ?_ ?_); rotate_left 1; focus (first | (simp; done) | (simp; omega) | (simp at *; omega)))))) (hb1.mono (by simp; try omega)))⟩
      | true =>
        go_wp2_with (go_at_call 136; refine (H1.out _).mono ?_; rintro r w1 ⟨rfl, hb1⟩)
        go_roundw
        case rel => exact ⟨1, by omega, by rfl, fun _ => trivial, fun h => absurd h (by omega), fun h => absurd h (by omega), (HK0.out.alloc _).below hb1, (HK1.out.alloc _).below hb1, Below.trans HB.out (Below.trans (by (repeat (first | (with_reducible exact Below.refl _ _) | ((with_reducible refine Below.setCell ?_ ?_ _); rotate_left 1; focus (first | (simp; done) | (simp; omega) | (simp at *; omega))) | ((with_reducible refine Below.alloc ?_ ?_ _); rotate_left 1; focus (first | (simp; done) | (simp; omega) | (simp at *; omega))) | (with_reducible refine Below.drew ?_) | ((with_reducible refine Calm.step (by assumption) ?_ ?_); rotate_left 1; focus (first | (simp; done) | (simp; omega) | (simp at *; omega)))))) (hb1.mono (by simp; try omega)))⟩
        case measure => simp [intOf]
    · have hcT := Lib.hid (HT.out.below HB.out)
      have hcP := Lib.hid (HP.out.below HB.out)
      cases X2 with
      | false =>
        go_wp2_with (go_at_call 137; refine (H2.out _).mono ?_; rintro r w1 ⟨rfl, hb1⟩)
        go_ret
        exact ⟨by first | rfl | (cases X1 <;> cases X2 <;> rfl) | simp, Below.trans HB.out (Below.trans (by (repeat (first | (with_reducible exact Below.refl _ _) | ((with_reducible refine Below.setCell ?_ ?_ _); rotate_left 1; focus (first | (simp; done) | (simp; omega) | (simp at *; omega))) | ((with_reducible refine Below.alloc ?_ ?_ _); rotate_left 1; focus (first | (simp; done) | (simp; omega) | (simp at *; omega))) | (with_reducible refine Below.drew ?_) | ((with_reducible refine Calm.step (by assumption) ?_ ?_); rotate_left 1; focus (first | (simp; done) | (simp; omega) | (simp at *; omega)))))) (hb1.mono (by simp; try omega)))⟩
      | true =>
        go_wp2_with (go_at_call 137; refine (H2.out _).mono ?_; rintro r w1 ⟨rfl, hb1⟩)
        go_roundw
        case rel => exact ⟨2, by omega, by rfl, fun h => HF0.out (by omega), fun _ => trivial, fun h => absurd h (by omega), (HK0.out.alloc _).below hb1, (HK1.out.alloc _).below hb1, Below.trans HB.out (Below.trans (by (repeat (first | (with_reducible exact Below.refl _ _) | ((with_reducible refine Below.setCell ?_ ?_ _); rotate_left 1; focus (first | (simp; done) | (simp; omega) | (simp at *; omega))) | ((with_reducible refine Below.alloc ?_ ?_ _); rotate_left 1; focus (first | (simp; done) | (simp; omega) | (simp at *; omega))) | (with_reducible refine Below.drew ?_) | ((with_reducible refine Calm.step (by assumption) ?_ ?_); rotate_left 1; focus (first | (simp; done) | (simp; omega) | (simp at *; omega)))))) (hb1.mono (by simp; try omega)))⟩
        case measure => simp [intOf]
    · have hcT := Lib.hid (HT.out.below HB.out)
      have hcP := Lib.hid (HP.out.below HB.out)
      cases X3 with
      | false =>
        go_wp2_with (go_at_call 139; refine (H3.out _ (hcT.out.below (by (repeat (first | (with_reducible exact Below.refl _ _) | ((with_reducible refine Below.setCell ?_ ?_ _); rotate_left 1; focus (first | (simp; done) | (simp; omega) | (simp at *; omega))) | ((with_reducible refine Below.alloc ?_ ?_ _); rotate_left 1; focus (first | (simp; done) | (simp; omega) | (simp at *; omega))) | (with_reducible refine Below.drew ?_) | ((with_reducible refine Calm.step (by assumption) ?_ ?_); rotate_left 1; focus (first | (simp; done) | (simp; omega) | (simp at *; omega))))))) (hcP.out.below (by (repeat (first | (with_reducible exact Below.refl _ _) | ((with_reducible refine Below.setCell ?_ ?_ _); rotate_left 1; focus (first | (simp; done) | (simp; omega) | (simp at *; omega))) | ((with_reducible refine Below.alloc ?_ ?_ _); rotate_left 1; focus (first | (simp; done) | (simp; omega) | (simp at *; omega))) | (with_reducible refine Below.drew ?_) | ((with_reducible refine Calm.step (by assumption) ?_ ?_); rotate_left 1; focus (first | (simp; done) | (simp; omega) | (simp at *; omega)))))))).mono ?_; rintro r w1 ⟨rfl, hb1⟩)
        go_ret
        exact ⟨by first | rfl | (cases X1 <;> cases X2 <;> rfl) | simp, Below.trans HB.out (Below.trans (by (repeat (first | (with_reducible exact Below.refl _ _) | ((with_reducible refine Below.setCell ?_ ?_ _); rotate_left 1; focus (first | (simp; done) | (simp; omega) | (simp at *; omega))) | ((with_reducible refine Below.alloc ?_ ?_ _); rotate_left 1; focus (first | (simp; done) | (simp; omega) | (simp at *; omega))) | (with_reducible refine Below.drew ?_) | ((with_reducible refine Calm.step (by assumption) ?_ ?_); rotate_left 1; focus (first | (simp; done) | (simp; omega) | (simp at *; omega)))))) (hb1.mono (by simp; try omega)))⟩
      | true =>
        go_wp2_with (go_at_call 139; refine (H3.out _ (hcT.out.below (by (repeat (first | (with_reducible exact Below.refl _ _) | ((with_reducible refine Below.setCell ?_ ?_ _); rotate_left 1; focus (first | (simp; done) | (simp; omega) | (simp at *; omega))) | ((with_reducible refine Below.alloc ?_ ?_ _); rotate_left 1; focus (first | (simp; done) | (simp; omega) | (simp at *; omega))) | (with_reducible refine Below.drew ?_) | ((with_reducible refine Calm.step (by assumption) ?_ ?_); rotate_left 1; focus (first | (simp; done) | (simp; omega) | (simp at *; omega))))))) (hcP.out.below (by (repeat (first | (with_reducible exact Below.refl _ _) | ((with_reducible refine Below.setCell ?_ ?_ _); rotate_left 1; focus (first | (simp; done) | (simp; omega) | (simp at *; omega))) | ((with_reducible refine Below.alloc ?_ ?_ _); rotate_left 1; focus (first | (simp; done) | (simp; omega) | (simp at *; omega))) | (with_reducible refine Below.drew ?_) | ((with_reducible refine Calm.step (by assumption) ?_ ?_); rotate_left 1; focus (first | (simp; done) | (simp; omega) | (simp at *; omega)))))))).mono ?_; rintro r w1 ⟨rfl, hb1⟩)
        go_roundw
        case rel => exact ⟨3, by omega, by rfl, fun h => HF0.out (by omega), fun h => HF1.out (by omega), fun _ => trivial, (HK0.out.alloc _).below hb1, (HK1.out.alloc _).below hb1, Below.trans HB.out (Below.trans (by (repeat (first | (with_reducible exact Below.refl _ _) | ((with_reducible refine Below.setCell ?_ ?_ _); rotate_left 1; focus (first | (simp; done) | (simp; omega) | (simp at *; omega))) | ((with_reducible refine Below.alloc ?_ ?_ _); rotate_left 1; focus (first | (simp; done) | (simp; omega) | (simp at *; omega))) | (with_reducible refine Below.drew ?_) | ((with_reducible refine Calm.step (by assumption) ?_ ?_); rotate_left 1; focus (first | (simp; done) | (simp; omega) | (simp at *; omega)))))) (hb1.mono (by simp; try omega)))⟩
        case measure => simp [intOf]
    · have e1 := HF0.out (by omega)
      have e2 := HF1.out (by omega)
      have e3 := HF2.out (by omega)
      subst e1 e2 e3
      go_wp2
      go_ret
      exact ⟨rfl, HB.out⟩
end Go.Proofs.YtdeapbihbhoefaaGreatDoor
