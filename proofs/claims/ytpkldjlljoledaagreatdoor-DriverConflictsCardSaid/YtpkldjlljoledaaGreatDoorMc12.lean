/- Part 12 of the texts of the claim: G2, C2, C3, C4, Rel3, Alloc3. -/
import Derived.Test.YtpkldjlljoledaaGreatDoorMc11
import Derived.Test.YtpkldjlljoledaaGreatDoorMc10
import Derived.Test.YtpkldjlljoledaaGreatDoorMc8
import Derived.ArgAppend

/- Contract of the reference's All: the drivers of a class. -/
namespace Go.Proofs.YtpkldjlljoledaaGreatDoor
open Go.RowKit
open Calm (bcell Blk)

set_option maxRecDepth 100000 in
set_option maxHeartbeats 8000000 in
theorem refAll_any (re le bl ma st lo m k r : Int) (w : World) (h : classErr re le bl ma st lo m k r = 0) :
    Calls Tryz.prog 101 #[.agg #[(.int .i64 (re)), (.int .i64 (le)), (.int .i64 (bl)), (.int .i64 (ma)), (.int .i64 (st)), (.int .i64 (lo)), (.int .i64 (m)), (.int .i64 (k)), (.int .i64 (r))]] w fun x w' => ∃ B e, x = .returned (.slice B (drvs ma st lo m k r).length e) ∧ DCells w' B re le bl (drvs ma st lo m k r) ∧ Below w.heap.size w w' := by
  obtain ⟨i0, hi, iz0, iz1, iz2⟩ := info_parts Tryz.infoE
  have hlen := drvs_bound h
  obtain ⟨hp, _⟩ := classErr_zero h
  obtain ⟨hd, ⟨a1, a2⟩, ⟨a3, a4⟩, ⟨a5, a6⟩⟩ := class_zero hp
  obtain ⟨_, _, _, ⟨d1, d2⟩, ⟨d3, d4⟩, ⟨d5, d6⟩⟩ := drvErr_zero hd
  clear h hp hd
  obtain ⟨M, hM⟩ : ∃ M, M = (m + 1 - ma).toNat := ⟨_, rfl⟩
  obtain ⟨S, hS⟩ : ∃ S, S = (k + 1 - st).toNat := ⟨_, rfl⟩
  obtain ⟨L, hL⟩ : ∃ L, L = (r + 1 - lo).toNat := ⟨_, rfl⟩
  have hall : drvs ma st lo m k r = rowM ma st lo S L M := by rw [hM, hS, hL]; rfl
  rw [hall] at hlen ⊢
  have HM := Lib.hid hM
  have HS := Lib.hid hS
  have HL := Lib.hid hL
  have HLEN := Lib.hid hlen
  clear hall hM hS hL hlen
  have hM2 : (M : Int) ≤ 100 := by have := HM.out; omega
  have hS2 : (S : Int) ≤ 5000 := by have := HS.out; omega
  have hL2 : (L : Int) ≤ 100 := by have := HL.out; omega
  go_enter Tryz.func101, Tryz.ntmps101
  go_wp2
  go_loopw [3, 4] (fun v x wr => ∃ i : Nat, i ≤ M ∧ x = (.int .i64 (ma + i)) ∧ wr.ownsRow (w.heap.size + 1) 23 6 v (rowM ma st lo S L i).length (flat6 re le bl (rowM ma st lo S L i)) ∧ Below w.heap.size w wr ∧ w.heap.size + 1 ≤ wr.heap.size ∧ Blk wr w.heap.size #[(.int .i64 (re)), (.int .i64 (le)), (.int .i64 (bl)), (.int .i64 (ma)), (.int .i64 (st)), (.int .i64 (lo)), (.int .i64 (m)), (.int .i64 (k)), (.int .i64 (r))]) (fun _ x _ => (m + 1 - intOf x).toNat)
  case atStart => exact ⟨0, Nat.zero_le _, by simp, by simpa [rowM, flat6] using World.ownsRow_nil _ _ _ _, by (repeat (first | (with_reducible exact Below.refl _ _) | ((with_reducible refine Below.setCell ?_ ?_ _); rotate_left 1; focus (first | (simp; done) | (simp; omega) | (simp at *; omega))) | ((with_reducible refine Below.alloc ?_ ?_ _); rotate_left 1; focus (first | (simp; done) | (simp; omega) | (simp at *; omega))) | (with_reducible refine Below.drew ?_) | ((with_reducible refine Calm.step (by assumption) ?_ ?_); rotate_left 1; focus (first | (simp; done) | (simp; omega) | (simp at *; omega))))), by simp, by (repeat (first | ((with_reducible refine Blk.at_ ?_); focus (first | rfl | (simp; done) | (simp; omega))) | (with_reducible refine Blk.alloc ?_ _) | (with_reducible refine Blk.below ?_ (by with_reducible assumption)) | (with_reducible refine Blk.drew ?_)))⟩
  case round =>
    obtain ⟨i, hi0, rfl, hown, hB, hge, K⟩ := hrel
    have HO := Lib.hid hown
    have HK := Lib.hid K
    obtain ⟨c0, c1, c2, c3, c4, c5, c6, c7, c8, cl, -⟩ := K.o9
    have hsz := hB.size
    clear hown K
    by_cases hi2 : i < M
    · have hi3 : ma + i ≤ m := by have := HM.out; omega
      go_wp2
      go_loopw [3, 5] (fun v x wr => ∃ j : Nat, j ≤ S ∧ x = (.int .i64 (st + j)) ∧ wr.ownsRow (w.heap.size + 1) 23 6 v (rowM ma st lo S L i ++ rowS (ma + i) st lo L j).length (flat6 re le bl (rowM ma st lo S L i ++ rowS (ma + i) st lo L j)) ∧ Below w.heap.size w wr ∧ w.heap.size + 1 ≤ wr.heap.size ∧ Blk wr w.heap.size #[(.int .i64 (re)), (.int .i64 (le)), (.int .i64 (bl)), (.int .i64 (ma)), (.int .i64 (st)), (.int .i64 (lo)), (.int .i64 (m)), (.int .i64 (k)), (.int .i64 (r))]) (fun _ x _ => (k + 1 - intOf x).toNat)
      case atStart => exact ⟨0, Nat.zero_le _, by simp, by simpa [rowS] using HO.out, hB, hge, HK.out⟩
      case round =>
        clear c0 c1 c2 c3 c4 c5 c6 c7 c8 cl hB hge HO HK hsz
        obtain ⟨j, hj0, rfl, hown, hB, hge, K⟩ := hrel
        have HO := Lib.hid hown
        have HK := Lib.hid K
        obtain ⟨c0, c1, c2, c3, c4, c5, c6, c7, c8, cl, -⟩ := K.o9
        have hsz := hB.size
        clear hown K
        by_cases hj2 : j < S
        · have hj3 : st + j ≤ k := by have := HS.out; omega
          go_wp2
          go_loopw [3, 6] (fun v x wr => ∃ kk : Nat, kk ≤ L ∧ x = (.int .i64 (lo + kk)) ∧ wr.ownsRow (w.heap.size + 1) 23 6 v (rowM ma st lo S L i ++ rowS (ma + i) st lo L j ++ rowL (ma + i) (st + j) lo kk).length (flat6 re le bl (rowM ma st lo S L i ++ rowS (ma + i) st lo L j ++ rowL (ma + i) (st + j) lo kk)) ∧ Below w.heap.size w wr ∧ w.heap.size + 1 ≤ wr.heap.size ∧ Blk wr w.heap.size #[(.int .i64 (re)), (.int .i64 (le)), (.int .i64 (bl)), (.int .i64 (ma)), (.int .i64 (st)), (.int .i64 (lo)), (.int .i64 (m)), (.int .i64 (k)), (.int .i64 (r))]) (fun _ x _ => (r + 1 - intOf x).toNat)
          case atStart => exact ⟨0, Nat.zero_le _, by simp, by simpa [rowL] using HO.out, hB, hge, HK.out⟩
          case round =>
            clear c0 c1 c2 c3 c4 c5 c6 c7 c8 cl hB hge HO HK hsz
            obtain ⟨kk, hk0, rfl, hown, hB, hge, K⟩ := hrel
            have HO := Lib.hid hown
            have HK := Lib.hid K
            obtain ⟨c0, c1, c2, c3, c4, c5, c6, c7, c8, cl, -⟩ := K.o9
            have hsz := hB.size
            clear hown K
            by_cases hk2 : kk < L
            · have hk3 : lo + kk ≤ r := by have := HL.out; omega
              obtain ⟨n0, hn0⟩ : ∃ n0, n0 = (rowM ma st lo S L i ++ rowS (ma + i) st lo L j ++ rowL (ma + i) (st + j) lo kk).length := ⟨_, rfl⟩
              have hn1 : n0 < 4096 := by
                obtain ⟨post, hpost⟩ := row_next ma st lo M S L i j kk hi2 hj2 hk2
                have := HLEN.out
                rw [hpost, List.length_append, ← hn0, List.length_cons] at this
                omega
              have HN0 := Lib.hid hn0
              have HO2 := Lib.hid (show wr.ownsRow (w.heap.size + 1) 23 6 _ n0 (flat6 re le bl (rowM ma st lo S L i ++ rowS (ma + i) st lo L j ++ rowL (ma + i) (st + j) lo kk)) by rw [hn0]; exact HO.out)
              clear hn0 HO
              go_wp2_with (at_builtin; refine wpList_append_own _ rfl _ _ 44 rfl (w.heap.size + 1) 23 i0 _ 6 48 Tryz.underlying44 hi iz0 iz1 iz2 rfl (by decide) _ _ _ rfl (ownsRow_below HO2.out (by (repeat (first | (with_reducible exact Below.refl _ _) | ((with_reducible refine Below.setCell ?_ ?_ _); rotate_left 1; focus (first | (simp; done) | (simp; omega) | (simp at *; omega))) | ((with_reducible refine Below.alloc ?_ ?_ _); rotate_left 1; focus (first | (simp; done) | (simp; omega) | (simp at *; omega))) | (with_reducible refine Below.drew ?_) | ((with_reducible refine Calm.step (by assumption) ?_ ?_); rotate_left 1; focus (first | (simp; done) | (simp; omega) | (simp at *; omega))))))) ⟨wr.heap.size + 1, 0, none⟩ 1 1 [(.int .i64 (re)), (.int .i64 (le)), (.int .i64 (bl)), (.int .i64 (ma + i)), (.int .i64 (st + j)), (.int .i64 (lo + kk))] rfl rfl ?c1 ?c2 ?c3 ?c4 ?c5 ?_)
              case c1 =>
                intro q u hj
                match q, hj with
                | 0, hj => simp at hj; subst hj; simp [Addr.add]
                | 1, hj => simp at hj; subst hj; simp [Addr.add]
                | 2, hj => simp at hj; subst hj; simp [Addr.add]
                | 3, hj => simp at hj; subst hj; simp [Addr.add]
                | 4, hj => simp at hj; subst hj; simp [Addr.add]
                | 5, hj => simp at hj; subst hj; simp [Addr.add]
              case c2 => intro u hu; simp at hu; rcases hu with rfl | rfl | rfl | rfl | rfl | rfl <;> rfl
              case c3 => unfold maxLen; omega
              case c4 => omega
              case c5 => simp; omega
              intro v' w2 hown' hgrow _
              have hB8 : Below (w.heap.size + 1) wr w2 := by
                refine Below.grown (B := w.heap.size + 1) ?_ hgrow ?_ (fun q hq => (HO2.out.lt q hq).1)
                · refine Below.mono (B := wr.heap.size) ?_ hge
                  repeat (first | (with_reducible exact Below.refl _ _) | ((with_reducible refine Below.setCell ?_ ?_ _); rotate_left 1; focus (first | (simp; done) | (simp; omega) | (simp at *; omega))) | ((with_reducible refine Below.alloc ?_ ?_ _); rotate_left 1; focus (first | (simp; done) | (simp; omega) | (simp at *; omega))) | (with_reducible refine Below.drew ?_) | ((with_reducible refine Calm.step (by assumption) ?_ ?_); rotate_left 1; focus (first | (simp; done) | (simp; omega) | (simp at *; omega))))
                · simp; omega
              have HO3 := Lib.hid hown'
              have K9 := HK.out.of (Nat.lt_succ_self _) hB8
              clear hgrow hown'
              go_wp2
              go_roundw
              case rel => exact ⟨kk + 1, by omega, by go_num, by
                rw [rowL_succ, ← List.append_assoc, flat6_append, List.length_append, ← HN0.out]
                simpa [flat6] using HO3.out, hB.trans (hB8.mono (by omega)), Nat.le_trans hge hB8.size, K9⟩
              case measure => simp [intOf]; omega
            · obtain rfl : kk = L := by omega
              have hk3 : ¬ lo + kk ≤ r := by have := HL.out; omega
              go_wp2
              go_roundw
              case rel => exact ⟨j + 1, by omega, by go_num, by rw [rowS_succ, ← List.append_assoc]; exact HO.out, hB, hge, HK.out⟩
              case measure => simp [intOf]; omega
        · obtain rfl : j = S := by omega
          have hj3 : ¬ st + j ≤ k := by have := HS.out; omega
          go_wp2
          go_roundw
          case rel => exact ⟨i + 1, by omega, by go_num, by rw [rowM_succ]; exact HO.out, hB, hge, HK.out⟩
          case measure => simp [intOf]; omega
    · obtain rfl : i = M := by omega
      have hi3 : ¬ ma + i ≤ m := by have := HM.out; omega
      obtain ⟨B, cc, rfl, _, hr⟩ := own_drvs HO.out rfl
      have HR := Lib.hid hr
      clear hr
      go_wp2
      go_ret
      exact ⟨B, ⟨cc, rfl⟩, HR.out, hB⟩
end Go.Proofs.YtpkldjlljoledaaGreatDoor

/- Contracts of the reference's arithmetic. %still -/
namespace Go.Proofs.YtpkldjlljoledaaGreatDoor
open Go.RowKit
open Calm (bcell Blk)

theorem qPlus_any (a b c d : Int) (w : World) (h1 : Bd 1000000000000000 a) (h2 : Bd 1000000000000000 b) (h3 : Bd 1000000000000000 c) (h4 : Bd 1000000000000000 d) :
    Calls Tryz.prog 121 #[.agg #[(.int .i64 (a)), (.int .i64 (b))], .agg #[(.int .i64 (c)), (.int .i64 (d))]] w fun r w' => r = .returned (.agg #[(.int .i64 (pl a c)), (.int .i64 (pl b d))]) ∧ Below w.heap.size w w' := by
  obtain ⟨h11, h12⟩ := h1
  obtain ⟨h21, h22⟩ := h2
  obtain ⟨h31, h32⟩ := h3
  obtain ⟨h41, h42⟩ := h4
  go_enter Tryz.func121, Tryz.ntmps121
  go_wp2
  refine bodyPost_ret (v := .agg #[(.int .i64 (pl a c)), (.int .i64 (pl b d))]) (by simp [results, Tryz.results121, go_sem, pl]) rfl ⟨rfl, ?_⟩
  repeat (first | (with_reducible exact Below.refl _ _) | ((with_reducible refine Below.setCell ?_ ?_ _); rotate_left 1; focus (first | (simp; done) | (simp; omega) | (simp at *; omega))) | ((with_reducible refine Below.alloc ?_ ?_ _); rotate_left 1; focus (first | (simp; done) | (simp; omega) | (simp at *; omega))) | (with_reducible refine Below.drew ?_) | ((with_reducible refine Calm.step (by assumption) ?_ ?_); rotate_left 1; focus (first | (simp; done) | (simp; omega) | (simp at *; omega))))
theorem qTimes_any (a b c d : Int) (w : World) (h1 : Bd 1000000 a) (h2 : Bd 1000000 b) (h3 : Bd 100000000000 c) (h4 : Bd 100000000000 d) :
    Calls Tryz.prog 122 #[.agg #[(.int .i64 (a)), (.int .i64 (b))], .agg #[(.int .i64 (c)), (.int .i64 (d))]] w fun r w' => r = .returned (.agg #[(.int .i64 (tRe a b c d)), (.int .i64 (tIm a b c d))]) ∧ Below w.heap.size w w' := by
  obtain ⟨e11, e12⟩ := h1.mul h3 (by omega)
  obtain ⟨e21, e22⟩ := h2.mul h4 (by omega)
  obtain ⟨e31, e32⟩ := h1.mul h4 (by omega)
  obtain ⟨e41, e42⟩ := h2.mul h3 (by omega)
  clear h1 h2 h3 h4
  go_enter Tryz.func122, Tryz.ntmps122
  go_wp2
  refine bodyPost_ret (v := .agg #[(.int .i64 (tRe a b c d)), (.int .i64 (tIm a b c d))]) (by simp [results, Tryz.results122, go_sem, tRe, tIm]) rfl ⟨rfl, ?_⟩
  repeat (first | (with_reducible exact Below.refl _ _) | ((with_reducible refine Below.setCell ?_ ?_ _); rotate_left 1; focus (first | (simp; done) | (simp; omega) | (simp at *; omega))) | ((with_reducible refine Below.alloc ?_ ?_ _); rotate_left 1; focus (first | (simp; done) | (simp; omega) | (simp at *; omega))) | (with_reducible refine Below.drew ?_) | ((with_reducible refine Calm.step (by assumption) ?_ ?_); rotate_left 1; focus (first | (simp; done) | (simp; omega) | (simp at *; omega))))
theorem whole_any (a : Int) (w : World) : Calls Tryz.prog 120 #[(.int .i64 (a))] w fun r w' => r = .returned (.agg #[(.int .i64 (a)), (.int .i64 (0))]) ∧ Below w.heap.size w w' := by
  go_enter Tryz.func120, Tryz.ntmps120
  go_wp2
  refine bodyPost_ret (v := .agg #[(.int .i64 (a)), (.int .i64 (0))]) (by simp [results, Tryz.results120, go_sem]) rfl ⟨rfl, ?_⟩
  repeat (first | (with_reducible exact Below.refl _ _) | ((with_reducible refine Below.setCell ?_ ?_ _); rotate_left 1; focus (first | (simp; done) | (simp; omega) | (simp at *; omega))) | ((with_reducible refine Below.alloc ?_ ?_ _); rotate_left 1; focus (first | (simp; done) | (simp; omega) | (simp at *; omega))) | (with_reducible refine Below.drew ?_) | ((with_reducible refine Calm.step (by assumption) ?_ ?_); rotate_left 1; focus (first | (simp; done) | (simp; omega) | (simp at *; omega))))
theorem refMech_any (k m l w0 : Int) (w : World) (h1 : Bd 100000 k) (h2 : Bd 1000 m) (h3 : Bd 1000 l) (h4 : Bd 8 w0) :
    Calls Tryz.prog 119 #[(.int .i64 (k)), (.int .i64 (m)), (.int .i64 (l)), (.int .i64 (w0))] w fun r w' => r = .returned (.agg #[(.int .i64 (mRe k m w0)), (.int .i64 (mIm l w0))]) ∧ Below w.heap.size w w' := by
  obtain ⟨e11, e12⟩ := h4.mul h4 (by omega)
  obtain ⟨e21, e22⟩ := (h4.mul h4 (by omega)).mul h2 (by omega)
  obtain ⟨e31, e32⟩ := h4.mul h3 (by omega)
  obtain ⟨h11, h12⟩ := h1
  clear h2 h3 h4
  go_enter Tryz.func119, Tryz.ntmps119
  go_wp2
  refine bodyPost_ret (v := .agg #[(.int .i64 (mRe k m w0)), (.int .i64 (mIm l w0))]) (by simp [results, Tryz.results119, go_sem, mRe, mIm]) rfl ⟨rfl, ?_⟩
  repeat (first | (with_reducible exact Below.refl _ _) | ((with_reducible refine Below.setCell ?_ ?_ _); rotate_left 1; focus (first | (simp; done) | (simp; omega) | (simp at *; omega))) | ((with_reducible refine Below.alloc ?_ ?_ _); rotate_left 1; focus (first | (simp; done) | (simp; omega) | (simp at *; omega))) | (with_reducible refine Below.drew ?_) | ((with_reducible refine Calm.step (by assumption) ?_ ?_); rotate_left 1; focus (first | (simp; done) | (simp; omega) | (simp at *; omega))))
theorem refMechanics_any (re le bl ma st lo w0 : Int) (w : World) (h1 : Bd 100000 st) (h2 : Bd 1000 ma) (h3 : Bd 1000 lo) (h4 : Bd 8 w0) :
    Calls Tryz.prog 123 #[.agg #[(.int .i64 (re)), (.int .i64 (le)), (.int .i64 (bl)), (.int .i64 (ma)), (.int .i64 (st)), (.int .i64 (lo))], (.int .i64 (w0))] w fun r w' => r = .returned (.agg #[(.int .i64 (mRe st ma w0)), (.int .i64 (mIm lo w0))]) ∧ Below w.heap.size w w' := by
  obtain ⟨h11, h12⟩ := h1
  obtain ⟨h21, h22⟩ := h2
  obtain ⟨h31, h32⟩ := h3
  obtain ⟨h41, h42⟩ := h4
  go_enter Tryz.func123, Tryz.ntmps123
  go_wp2_with (first | (go_at_call 119; refine (refMech_any _ _ _ _ _ ⟨by omega, by omega⟩ ⟨by omega, by omega⟩ ⟨by omega, by omega⟩ ⟨by omega, by omega⟩).mono ?_; rintro r w1 ⟨rfl, hb⟩; obtain ⟨hc, hf⟩ := bcell hb; have hz := hb.size; (try simp at hz); (try have hz0 : w.heap.size < w1.heap.size := by omega); (try have hz1 : w.heap.size + 1 < w1.heap.size := by omega); (try have hz2 : w.heap.size + 1 + 1 < w1.heap.size := by omega); (try have hz3 : w.heap.size + 1 + 1 + 1 < w1.heap.size := by omega); (try have hz4 : w.heap.size + 1 + 1 + 1 + 1 < w1.heap.size := by omega); (try have hz5 : w.heap.size + 1 + 1 + 1 + 1 + 1 < w1.heap.size := by omega); (try have hz6 : w.heap.size + 1 + 1 + 1 + 1 + 1 + 1 < w1.heap.size := by omega)))
  refine bodyPost_ret (v := .agg #[(.int .i64 (mRe st ma w0)), (.int .i64 (mIm lo w0))]) (by simp [results, Tryz.results123, go_sem, *]) rfl ⟨rfl, ?_⟩
  repeat (first | (with_reducible exact Below.refl _ _) | ((with_reducible refine Below.setCell ?_ ?_ _); rotate_left 1; focus (first | (simp; done) | (simp; omega) | (simp at *; omega))) | ((with_reducible refine Below.alloc ?_ ?_ _); rotate_left 1; focus (first | (simp; done) | (simp; omega) | (simp at *; omega))) | (with_reducible refine Below.drew ?_) | ((with_reducible refine Calm.step (by assumption) ?_ ?_); rotate_left 1; focus (first | (simp; done) | (simp; omega) | (simp at *; omega))))
theorem qSquare_any (a b : Int) (w : World) (h1 : Bd 1000000000 a) (h2 : Bd 1000000000 b) : Calls Tryz.prog 73 #[.agg #[(.int .i64 (a)), (.int .i64 (b))]] w fun r w' => r = .returned (.int .i64 (a * a + b * b)) ∧ Below w.heap.size w w' := by
  obtain ⟨e1, e2⟩ := h1.mul h1 (by omega)
  obtain ⟨e3, e4⟩ := h2.mul h2 (by omega)
  go_enter Tryz.func73, Tryz.ntmps73
  go_wp2
  go_ret
  refine ⟨rfl, ?_⟩
  repeat (first | (with_reducible exact Below.refl _ _) | ((with_reducible refine Below.setCell ?_ ?_ _); rotate_left 1; focus (first | (simp; done) | (simp; omega) | (simp at *; omega))) | ((with_reducible refine Below.alloc ?_ ?_ _); rotate_left 1; focus (first | (simp; done) | (simp; omega) | (simp at *; omega))) | (with_reducible refine Below.drew ?_) | ((with_reducible refine Calm.step (by assumption) ?_ ?_); rotate_left 1; focus (first | (simp; done) | (simp; omega) | (simp at *; omega))))
end Go.Proofs.YtpkldjlljoledaaGreatDoor

/- Contracts of the reference's sides, without a port. %still -/
namespace Go.Proofs.YtpkldjlljoledaaGreatDoor
open Go.RowKit
open Calm (bcell Blk)

set_option maxRecDepth 100000 in
set_option maxHeartbeats 4000000 in
theorem sides_shut (re le bl ma st lo air bst blo w0 : Int) (w : World) (hF : Fit re le bl ma (st + air) lo w0) (h1 : 0 ≤ st ∧ st ≤ 10000) (h2 : 0 ≤ air ∧ air ≤ 10000) :
    Calls Tryz.prog 113 #[.agg #[(.int .i64 (re)), (.int .i64 (le)), (.int .i64 (bl)), (.int .i64 (ma)), (.int .i64 (st)), (.int .i64 (lo))], .agg #[(.int .i64 (air)), (.int .i64 (0)), (.int .i64 (bst)), (.int .i64 (blo))], (.int .i64 (w0))] w
      fun r w' => r = .returned (.agg #[(.int .i64 (nRe re le bl ma (st + air) lo w0)), (.int .i64 (nIm re le bl ma (st + air) lo w0)), (.int .i64 (mRe (st + air) ma w0)), (.int .i64 (mIm lo w0)), (.int .i64 (1)), (.int .i64 (0)), (.int .i64 (0)), (.int .i64 (0)), (.int .i64 (1)), (.int .i64 (0))]) ∧ Below w.heap.size w w' := by
  obtain ⟨⟨m1, m2⟩, ⟨m3, m4⟩⟩ := hF.mech
  obtain ⟨⟨g1, g2⟩, ⟨g3, g4⟩, ⟨g5, g6⟩, ⟨g7, g8⟩, ⟨g9, g10⟩, ⟨g11, g12⟩, ⟨g13, g14⟩⟩ := hF
  have q : Bd 8 w0 := ⟨by omega, by omega⟩
  have q2 : Bd 10 le := ⟨by omega, by omega⟩
  have q3 : Bd 20 bl := ⟨by omega, by omega⟩
  obtain ⟨u1, u2⟩ := q.mul q2 (by omega)
  have v := q.mul q3 (by omega)
  obtain ⟨u3, u4⟩ := v
  obtain ⟨u5, u6⟩ := (q.mul q3 (by omega)).mul q3 (by omega)
  have p0 : Bd 80 re := ⟨by omega, by omega⟩
  have p1' : Bd 80 (w0 * le) := ⟨by omega, by omega⟩
  have p2' : Bd 3200 (w0 * bl * bl) := ⟨by omega, by omega⟩
  have z0 : Bd 3200 0 := ⟨by omega, by omega⟩
  have n1 : Bd 20000 1 := ⟨by omega, by omega⟩
  have n0 : Bd 20000 0 := ⟨by omega, by omega⟩
  have ma' : Bd 20000 (mRe (st + air) ma w0) := ⟨m1, m2⟩
  have mb' : Bd 20000 (mIm lo w0) := ⟨m3, m4⟩
  obtain ⟨t1, t2⟩ := tRe_bd p0 p1' ma' mb' (by omega)
  obtain ⟨t3, t4⟩ := tIm_bd p0 p1' ma' mb' (by omega)
  obtain ⟨t5, t6⟩ := tRe_bd z0 p2' n1 n0 (by omega)
  obtain ⟨t7, t8⟩ := tIm_bd z0 p2' n1 n0 (by omega)
  clear q q2 q3 p0 p1' p2' z0 n1 n0 ma' mb'
  go_enter Tryz.func113, Tryz.ntmps113
  go_wp2_with (first | (go_at_call 119; refine (refMech_any _ _ _ _ _ ⟨by omega, by omega⟩ ⟨by omega, by omega⟩ ⟨by omega, by omega⟩ ⟨by omega, by omega⟩).mono ?_; rintro r w1 ⟨rfl, hb⟩; obtain ⟨hc, hf⟩ := bcell hb; have hz := hb.size; (try simp at hz); (try have hz0 : w.heap.size < w1.heap.size := by omega); (try have hz1 : w.heap.size + 1 < w1.heap.size := by omega); (try have hz2 : w.heap.size + 1 + 1 < w1.heap.size := by omega); (try have hz3 : w.heap.size + 1 + 1 + 1 < w1.heap.size := by omega); (try have hz4 : w.heap.size + 1 + 1 + 1 + 1 < w1.heap.size := by omega); (try have hz5 : w.heap.size + 1 + 1 + 1 + 1 + 1 < w1.heap.size := by omega); (try have hz6 : w.heap.size + 1 + 1 + 1 + 1 + 1 + 1 < w1.heap.size := by omega)) | (go_at_call 120; refine (whole_any _ _).mono ?_; rintro r w1 ⟨rfl, hb⟩; obtain ⟨hc, hf⟩ := bcell hb; have hz := hb.size; (try simp at hz); (try have hz0 : w.heap.size < w1.heap.size := by omega); (try have hz1 : w.heap.size + 1 < w1.heap.size := by omega); (try have hz2 : w.heap.size + 1 + 1 < w1.heap.size := by omega); (try have hz3 : w.heap.size + 1 + 1 + 1 < w1.heap.size := by omega); (try have hz4 : w.heap.size + 1 + 1 + 1 + 1 < w1.heap.size := by omega); (try have hz5 : w.heap.size + 1 + 1 + 1 + 1 + 1 < w1.heap.size := by omega); (try have hz6 : w.heap.size + 1 + 1 + 1 + 1 + 1 + 1 < w1.heap.size := by omega)))
  refine Calm.still_tail 9 (by kernel_rfl) (by kernel_rfl) ?_
  simp only [List.take_succ_cons, List.take_zero, List.drop_succ_cons, List.drop_zero]
  repeat (first | (first | (apply Calm.still_op_move; (focus rfl); (focus (first | exact .inl rfl | exact .inr rfl)); (focus ((try simp only [Act.eval, Array.getD_eq_getD_getElem?, List.getElem?_toArray, List.getElem?_cons_succ, List.getElem?_cons_zero, Option.getD_some]); rfl)); (try simp only [Act.put, List.setIfInBounds_toArray, List.set_cons_zero, List.set_cons_succ])) | (apply Calm.still_op_not; (focus rfl); (try simp only [Act.put, List.setIfInBounds_toArray, List.set_cons_zero, List.set_cons_succ])) | (apply Calm.still_op; (focus rfl); (focus (intro W hb; obtain ⟨hc, hf⟩ := bcell hb; clear hb hf; go_simp; (try go_bits); (try rfl); done)); (try simp only [Act.put, List.setIfInBounds_toArray, List.set_cons_zero, List.set_cons_succ]))) | (apply Calm.still_op_call; (focus rfl); (focus (intro W hb; obtain ⟨hc, hf⟩ := bcell hb; clear hb hf; go_simp; refine ⟨?_, ?_⟩; rfl; rfl)); (focus (intro W hb; first | (go_at_call 122; exact Calm.call_below hb (qTimes_any _ _ _ _ _ ⟨by omega, by omega⟩ ⟨by omega, by omega⟩ ⟨by omega, by omega⟩ ⟨by omega, by omega⟩)) | (go_at_call 121; exact Calm.call_below hb (qPlus_any _ _ _ _ _ ⟨by omega, by omega⟩ ⟨by omega, by omega⟩ ⟨by omega, by omega⟩ ⟨by omega, by omega⟩)))); (try simp only [Act.put, List.setIfInBounds_toArray, List.set_cons_zero, List.set_cons_succ])))
  refine Calm.still_nil ?_
  intro w5 hb5
  obtain ⟨hb5c, hb5f⟩ := bcell hb5
  have hb5z := hb5.size
  (try simp at hb5z)
  (try have hb5z0 : w.heap.size < w5.heap.size := by omega)
  (try have hb5z1 : w.heap.size + 1 < w5.heap.size := by omega)
  (try have hb5z2 : w.heap.size + 1 + 1 < w5.heap.size := by omega)
  (try have hb5z3 : w.heap.size + 1 + 1 + 1 < w5.heap.size := by omega)
  (try have hb5z4 : w.heap.size + 1 + 1 + 1 + 1 < w5.heap.size := by omega)
  (try have hb5z5 : w.heap.size + 1 + 1 + 1 + 1 + 1 < w5.heap.size := by omega)
  go_wp2
  refine bodyPost_ret (v := .agg #[(.int .i64 (nRe re le bl ma (st + air) lo w0)), (.int .i64 (nIm re le bl ma (st + air) lo w0)), (.int .i64 (mRe (st + air) ma w0)), (.int .i64 (mIm lo w0)), (.int .i64 (1)), (.int .i64 (0)), (.int .i64 (0)), (.int .i64 (0)), (.int .i64 (1)), (.int .i64 (0))]) (by simp [results, Tryz.results113, go_sem, nRe, nIm, eRe, eIm, *]) rfl ⟨rfl, ?_⟩
  repeat (first | (with_reducible exact Below.refl _ _) | ((with_reducible refine Below.setCell ?_ ?_ _); rotate_left 1; focus (first | (simp; done) | (simp; omega) | (simp at *; omega))) | ((with_reducible refine Below.alloc ?_ ?_ _); rotate_left 1; focus (first | (simp; done) | (simp; omega) | (simp at *; omega))) | (with_reducible refine Below.drew ?_) | ((with_reducible refine Calm.step (by assumption) ?_ ?_); rotate_left 1; focus (first | (simp; done) | (simp; omega) | (simp at *; omega))))
end Go.Proofs.YtpkldjlljoledaaGreatDoor

/- Contracts of the reference's quotients, without a port. %still -/
namespace Go.Proofs.YtpkldjlljoledaaGreatDoor
open Go.RowKit
open Calm (bcell Blk)

set_option maxHeartbeats 2000000 in
theorem refBoxed_shut (re le bl ma st lo air bst blo w0 : Int) (w : World) (hF : Fit re le bl ma (st + air) lo w0) (h1 : 0 ≤ st ∧ st ≤ 10000) (h2 : 0 ≤ air ∧ air ≤ 10000) :
    Calls Tryz.prog 104 #[.agg #[(.int .i64 (re)), (.int .i64 (le)), (.int .i64 (bl)), (.int .i64 (ma)), (.int .i64 (st)), (.int .i64 (lo))], .agg #[(.int .i64 (air)), (.int .i64 (0)), (.int .i64 (bst)), (.int .i64 (blo))], (.int .i64 (w0))] w
      fun r w' => r = .returned (.agg #[(.int .i64 (nRe re le bl ma (st + air) lo w0)), (.int .i64 (nIm re le bl ma (st + air) lo w0)), (.int .i64 (mRe (st + air) ma w0)), (.int .i64 (mIm lo w0))]) ∧ Below w.heap.size w w' := by
  go_enter Tryz.func104, Tryz.ntmps104
  go_wp2_with (first | (go_at_call 113; refine (sides_shut _ _ _ _ _ _ _ _ _ _ _ hF h1 h2).mono ?_; rintro r w1 ⟨rfl, hb⟩; obtain ⟨hc, hf⟩ := bcell hb; have hz := hb.size; (try simp at hz); (try have hz0 : w.heap.size < w1.heap.size := by omega); (try have hz1 : w.heap.size + 1 < w1.heap.size := by omega); (try have hz2 : w.heap.size + 1 + 1 < w1.heap.size := by omega); (try have hz3 : w.heap.size + 1 + 1 + 1 < w1.heap.size := by omega); (try have hz4 : w.heap.size + 1 + 1 + 1 + 1 < w1.heap.size := by omega); (try have hz5 : w.heap.size + 1 + 1 + 1 + 1 + 1 < w1.heap.size := by omega); (try have hz6 : w.heap.size + 1 + 1 + 1 + 1 + 1 + 1 < w1.heap.size := by omega)))
  refine bodyPost_ret (v := .agg #[(.int .i64 (nRe re le bl ma (st + air) lo w0)), (.int .i64 (nIm re le bl ma (st + air) lo w0)), (.int .i64 (mRe (st + air) ma w0)), (.int .i64 (mIm lo w0))]) (by simp [results, Tryz.results104, go_sem, *]) rfl ⟨rfl, ?_⟩
  repeat (first | (with_reducible exact Below.refl _ _) | ((with_reducible refine Below.setCell ?_ ?_ _); rotate_left 1; focus (first | (simp; done) | (simp; omega) | (simp at *; omega))) | ((with_reducible refine Below.alloc ?_ ?_ _); rotate_left 1; focus (first | (simp; done) | (simp; omega) | (simp at *; omega))) | (with_reducible refine Below.drew ?_) | ((with_reducible refine Calm.step (by assumption) ?_ ?_); rotate_left 1; focus (first | (simp; done) | (simp; omega) | (simp at *; omega))))
theorem refImpedance_any (re le bl ma st lo w0 : Int) (w : World) (hF : Fit re le bl ma st lo w0) :
    Calls Tryz.prog 72 #[.agg #[(.int .i64 (re)), (.int .i64 (le)), (.int .i64 (bl)), (.int .i64 (ma)), (.int .i64 (st)), (.int .i64 (lo))], (.int .i64 (w0))] w
      fun r w' => r = .returned (.agg #[(.int .i64 (nRe re le bl ma st lo w0)), (.int .i64 (nIm re le bl ma st lo w0)), (.int .i64 (mRe st ma w0)), (.int .i64 (mIm lo w0))]) ∧ Below w.heap.size w w' := by
  have h1 : 0 ≤ st ∧ st ≤ 10000 := by have := hF.st; omega
  have h2 : 0 ≤ (0 : Int) ∧ (0 : Int) ≤ 10000 := by omega
  obtain ⟨s, hs⟩ : ∃ s, s = st + 0 := ⟨_, rfl⟩
  have hs2 : st = s := by omega
  rw [hs2, hs] at hF
  rw [show nRe re le bl ma st lo w0 = nRe re le bl ma (st + 0) lo w0 by rw [Int.add_zero], show nIm re le bl ma st lo w0 = nIm re le bl ma (st + 0) lo w0 by rw [Int.add_zero], show mRe st ma w0 = mRe (st + 0) ma w0 by rw [Int.add_zero]]
  clear hs hs2
  have HF := Lib.hid hF
  clear hF
  go_enter Tryz.func72, Tryz.ntmps72
  go_wp2_with (go_at_call 104; refine (refBoxed_shut re le bl ma st lo 0 0 0 w0 _ HF.out h1 h2).mono ?_; rintro r w1 ⟨rfl, hb⟩; obtain ⟨hc, hf⟩ := bcell hb; have hz := hb.size; (try simp at hz); (try have hz0 : w.heap.size < w1.heap.size := by omega); (try have hz1 : w.heap.size + 1 < w1.heap.size := by omega))
  refine bodyPost_ret (v := .agg #[(.int .i64 (nRe re le bl ma (st + 0) lo w0)), (.int .i64 (nIm re le bl ma (st + 0) lo w0)), (.int .i64 (mRe (st + 0) ma w0)), (.int .i64 (mIm lo w0))]) (by simp [results, Tryz.results72, go_sem, *]) rfl ⟨rfl, ?_⟩
  repeat (first | (with_reducible exact Below.refl _ _) | ((with_reducible refine Below.setCell ?_ ?_ _); rotate_left 1; focus (first | (simp; done) | (simp; omega) | (simp at *; omega))) | ((with_reducible refine Below.alloc ?_ ?_ _); rotate_left 1; focus (first | (simp; done) | (simp; omega) | (simp at *; omega))) | (with_reducible refine Below.drew ?_) | ((with_reducible refine Calm.step (by assumption) ?_ ?_); rotate_left 1; focus (first | (simp; done) | (simp; omega) | (simp at *; omega))))
end Go.Proofs.YtpkldjlljoledaaGreatDoor

/- Regions whose order is open and whose edges bind in part; an append and a call with relational results in the head. -/
namespace Go.Proofs.YtpkldjlljoledaaGreatDoor.Rel
open Go.RowKit
/-- the operations that this one waits for. -/
def ons (o : Oper) : List Nat := (o.after.toList.filter fun e => Region.binds .any e).map (·.on)
def Ob3 (P : Program) (DS : List Tmp) (w0 : World) (a0 : Act) (Γ : Ctx) (o : Oper) (R : Know) : Prop :=
  ∀ (a : Act) (W : World), Below w0.heap.size w0 W → deps Γ a W (ons o) → (∀ t, t ∉ DS → a.eval (.tmp t) = a0.eval (.tmp t)) →
    ∀ (K : Act → World → Prop) (Q : Exit → Act → World → Prop), (∀ v W', R v W' → Below W.heap.size W W' → K (a.put o.dst v) W') → o.wp P a W K Q
def GOK3 (Γ : Ctx) (o : Oper) : Prop := o.guard = none ∨ ∃ g b t, o.guard = some (g, b) ∧ g ∈ ons o ∧ Γ[g]? = some (some t, fun u _ => u = .bool b)
def walk3 (P : Program) (DS : List Tmp) (w0 : World) (a0 : Act) (T : Ctx → Prop) : Ctx → List Oper → Prop
  | Γ, [] => T Γ
  | Γ, o :: l => ∃ R, Stable R ∧ GOK3 Γ o ∧ Ob3 P DS w0 a0 Γ o R ∧ walk3 P DS w0 a0 T (Γ ++ [(o.dst, R)]) l
theorem walk_of_walk3 {P : Program} {ops : Array Oper} {n : Nat} {DS : List Tmp} {w0 : World} {a0 : Act} {T : Ctx → Prop} {T' : List Know → Prop} (hDS : ∀ t, t ∉ DS → ∀ j, j < n → dst ops j ≠ some t)
    (hT : ∀ Γ, T Γ → T' (Γ.map (·.2))) :
    ∀ (l : List Oper) (Γ : Ctx), (∀ j, j < l.length → l[j]? = ops[Γ.length + j]?) → (∀ j d R, Γ[j]? = some (d, R) → dst ops j = d) → walk3 P DS w0 a0 T Γ l → walk P ops n w0 a0 T' (Γ.map (·.2)) l
  | [], Γ, _, _, h => hT Γ h
  | o :: l, Γ, hl, hΓ, h => by
    obtain ⟨R, hs, hg, hob, hw⟩ := h
    have h0 : ops[Γ.length]? = some o := by simpa using (hl 0 (by simp)).symm
    have hg' : GOK ops (Γ.map (·.2)) o := by
      rcases hg with hg | ⟨g, b, t, hg, hin, hΓg⟩
      · exact .inl hg
      · obtain ⟨e, he, rfl⟩ := List.mem_map.1 hin
        obtain ⟨he1, he2⟩ := List.mem_filter.1 he
        exact .inr ⟨e.on, b, t, hg, ⟨e, by simpa using he1, he2, rfl⟩, hΓ _ _ _ hΓg, by simp [hΓg]⟩
    refine ⟨R, hs, hg', fun _ => ?_, ?_⟩
    · intro a W hb hz hd hbase K Q hK
      refine hob a W hb (deps_of _ fun j hj => ?_) (fun t ht => hbase t (fun j hj => hDS t ht j hj)) K Q hK
      obtain ⟨e, he, rfl⟩ := List.mem_map.1 hj
      obtain ⟨he1, he2⟩ := List.mem_filter.1 he
      have he' : e ∈ o.after := by simpa using he1
      cases hc : Γ[e.on]? with
      | none => trivial
      | some c =>
        obtain ⟨d, K'⟩ := c
        cases d with
        | none => trivial
        | some t => exact hd e he' he2 t (hΓ _ _ _ hc) K' (by simp [hc])
    · have := walk_of_walk3 hDS hT l (Γ ++ [(o.dst, R)]) (fun j hj => by
        have := hl (j + 1) (by simp; omega)
        simpa [Nat.add_assoc, Nat.add_comm 1 j] using this) (fun j d R' hj => by
        rcases Nat.lt_or_ge j Γ.length with h | h
        · rw [List.getElem?_append_left h] at hj
          exact hΓ j d R' hj
        · have hjl : j < (Γ ++ [(o.dst, R)]).length := (List.getElem?_eq_some_iff.1 hj).1
          obtain rfl : j = Γ.length := by simp at hjl; omega
          simp at hj
          rw [← hj.1]
          simp [dst, h0]) hw
      simpa using this
theorem region3 {P : Program} {id : Nat} {Q : Exit → Act → World → Prop} {a : Act} {w : World} {l : List Oper} (n : Nat) (hm : P.follows .mixedOrders = true) (hok : okB l.toArray n = true) (hsz : sizeB l.toArray n a.tmps.size = true)
    (h : walk3 P ((l.take n).filterMap (·.dst)) w a (fun Γ => ∀ (x : Nat → Value) (W : World), Below w.heap.size w W → facts x W 0 Γ → wpList P l.toArray Q (l.drop n) (fill (l.take n) 0 x a) W) [] (l.take n)) :
    (Code.region id l.toArray true).wp P Q a w := by
  have hn' : n < l.length := by
    simp only [okB, Bool.and_eq_true, decide_eq_true_eq] at hok
    simpa using hok.1.1.1.1.1
  have htl : (l.take n).length = n := by simp; omega
  refine region n hm hok hsz (walk_of_walk3 (n := n) (fun t ht j hj hd => ht ?_) (fun Γ hT x W hb hx => hT x W hb (facts_of Γ 0 (fun j K hj => by rw [Nat.zero_add]; exact hx j K hj))) (l.take n) [] (fun j hj => by
      rw [htl] at hj
      simp [List.getElem?_take, hj]) (fun j d R hj => by simp at hj) h)
  have hlj : j < l.length := by omega
  simp [dst, hlj] at hd
  exact List.mem_filterMap.2 ⟨l[j], List.mem_iff_getElem.2 ⟨j, by omega, by simp⟩, hd⟩
section
variable {P : Program} {DS : List Tmp} {w0 : World} {a0 : Act} {T : Ctx → Prop} {Γ : Ctx} {o : Oper} {rest : List Oper}
theorem gno {Γ : Ctx} {o : Oper} (h : o.guard = none) : GOK3 Γ o := .inl h
theorem gyes {Γ : Ctx} {o : Oper} (g : Nat) (b : Bool) (t : Tmp) (h1 : o.guard = some (g, b)) (h2 : (ons o).contains g = true) (h3 : Γ[g]? = some (some t, fun u _ => u = .bool b)) : GOK3 Γ o :=
  .inr ⟨g, b, t, h1, by simpa using h2, h3⟩
theorem op3 (v : Value) (hg : GOK3 Γ o) (h : ∀ (a : Act) (W : World), Below w0.heap.size w0 W → deps Γ a W (ons o) → (∀ t, t ∉ DS → a.eval (.tmp t) = a0.eval (.tmp t)) → (execOp a.eval o).run P W = .ok (.value v) W)
    (hn : walk3 P DS w0 a0 T (Γ ++ [(o.dst, fun u _ => u = v)]) rest) : walk3 P DS w0 a0 T Γ (o :: rest) :=
  ⟨_, stable_eq v, hg, fun a W hb hd hbase K Q hK => by
    unfold Oper.wp
    rw [h a W hb hd hbase]
    exact hK v W rfl (Below.refl _ _), hn⟩
/-- One operation that only reads, of whose result R is known. -/
theorem opR3 (R : Know) (hs : Stable R) (hg : GOK3 Γ o) (h : ∀ (a : Act) (W : World), Below w0.heap.size w0 W → deps Γ a W (ons o) → (∀ t, t ∉ DS → a.eval (.tmp t) = a0.eval (.tmp t)) → ∃ v, (execOp a.eval o).run P W = .ok (.value v) W ∧ R v W)
    (hn : walk3 P DS w0 a0 T (Γ ++ [(o.dst, R)]) rest) : walk3 P DS w0 a0 T Γ (o :: rest) :=
  ⟨_, hs, hg, fun a W hb hd hbase K Q hK => by
    obtain ⟨v, h1, h2⟩ := h a W hb hd hbase
    unfold Oper.wp
    rw [h1]
    exact hK v W h2 (Below.refl _ _), hn⟩
theorem build3 (t : TypeId) (n c : Nat) (cs : Array Value) (hg : GOK3 Γ o)
    (h : ∀ (a : Act) (W : World), Below w0.heap.size w0 W → deps Γ a W (ons o) → (∀ t, t ∉ DS → a.eval (.tmp t) = a0.eval (.tmp t)) → (execOp a.eval o).run P W = .ok (.value (.slice (some ⟨W.heap.size, 0, none⟩) n c)) (W.alloc (.cells cs t)))
    (hn : walk3 P DS w0 a0 T (Γ ++ [(o.dst, NewS w0.heap.size n c cs)]) rest) : walk3 P DS w0 a0 T Γ (o :: rest) :=
  ⟨_, stable_newS _ n c cs, hg, fun a W hb hd hbase K Q hK => by
    unfold Oper.wp
    rw [h a W hb hd hbase]
    exact hK _ _ ⟨_, rfl, hb.size, Calm.Blk.new W t cs⟩ ((Below.refl _ _).alloc (Nat.le_refl _) _), hn⟩
/-- A slice that owns a row. -/
def OwnS (B : Nat) (e : TypeId) (size n : Nat) (xs : List Value) : Know := fun u W => W.ownsRow B e size u n xs
theorem stable_ownS (B : Nat) (e : TypeId) (size n : Nat) (xs : List Value) : Stable (OwnS B e size n xs) := fun u W W' h hb => by
  refine ⟨h.1, ?_⟩
  rcases h.2 with h2 | ⟨g, cap, cur, h1, h2, h3, h4⟩
  · exact .inl h2
  · exact .inr ⟨g, cap, cur, h1, h2, (hb.block g (Array.getElem?_eq_some_iff.1 h3).1).trans h3, h4⟩
/-- An empty slice of its own that is not nil. -/
def Empty (B : Nat) (e : TypeId) (size : Nat) : Know := fun u W => (∃ g, u = .slice (some ⟨g, 0, none⟩) 0 0) ∧ W.ownsRow B e size u 0 []
theorem stable_empty (B : Nat) (e : TypeId) (size : Nat) : Stable (Empty B e size) := fun u W W' h hb => ⟨h.1, stable_ownS B e size 0 [] u W W' h.2 hb⟩
theorem empty3 (e : TypeId) (size : Nat) (hg : GOK3 Γ o)
    (h : ∀ (a : Act) (W : World), (execOp a.eval o).run P W = .ok (.value (.slice (some ⟨W.heap.size, 0, none⟩) 0 0)) (W.alloc (.cells #[] e)))
    (hn : walk3 P DS w0 a0 T (Γ ++ [(o.dst, Empty w0.heap.size e size)]) rest) : walk3 P DS w0 a0 T Γ (o :: rest) :=
  ⟨_, stable_empty _ _ _, hg, fun a W hb hd hbase K Q hK => by
    unfold Oper.wp
    rw [h a W]
    refine hK _ _ ⟨⟨_, rfl⟩, by simp, .inr ⟨_, 0, #[], rfl, hb.size, by show (W.heap.push _)[W.heap.size]? = _; simp, Nat.le_refl _, Nat.zero_le _, by simp, by simp⟩⟩ ((Below.refl _ _).alloc (Nat.le_refl _) _), hn⟩
theorem run_append_zero (W : World) (t ty e : TypeId) (i : TypeInfo) (z : Value) (ht : P.underlying t = some (.slice e)) (hi : P.info? e = some i) (hz : i.zero = some z) (b : Addr) (A : Option Addr) (c : Nat) :
    (Builtin.append_ #[t, t] ty #[.slice (some b) 0 0, .slice A 0 c]).run P W = .ok (.slice (some b) 0 0) W := by
  have hl : ∀ (x : Addr), (loadCells x 0).run P W = .ok #[] W := fun x => by simpa using run_loadCells_list (P := P) W x [] (by simp)
  cases A <;> simp [Builtin.append_, run_underlying ht, sizeOf, typeInfo, zeroValue, hi, hz, Builtin.lenOf, Builtin.firstCells, storeCells, hl]
/-- 'append([]T{}, l...)'. -/
theorem app3 (s x : Operand) (t : TypeId) (hop : o.op = .call { callee := .builtin .append, args := #[s, x], argTypes := #[t, t] }) (e : TypeId) (i : TypeInfo) (z : Value) (size bytes : Nat)
    (ht : P.underlying t = some (.slice e)) (hi : P.info? e = some i) (hz : i.zero = some z) (hsize : i.size = size) (hby : i.bytes = bytes) (hzs : z.cells.size = size) (hsz : 0 < size) (n : Nat) (news : List Value) (hl : news.length = n * size) (h1 : ∀ u ∈ news, u.oneCell' = true) (h63 : n ≤ maxLen) (hbytes : n * bytes ≤ 140737488355328) (hg : GOK3 Γ o)
    (h : ∀ (a : Act) (W : World), Below w0.heap.size w0 W → deps Γ a W (ons o) → (∀ t, t ∉ DS → a.eval (.tmp t) = a0.eval (.tmp t)) → (∃ v0, a.eval s = v0 ∧ Empty w0.heap.size e size v0 W) ∧ ∃ A c, a.eval x = .slice A n c ∧ (0 < n → ∃ ad, A = some ad ∧ ∀ j u, news[j]? = some u → W.cell? (ad.add j) = some u))
    (hn : walk3 P DS w0 a0 T (Γ ++ [(o.dst, OwnS w0.heap.size e size n news)]) rest) : walk3 P DS w0 a0 T Γ (o :: rest) :=
  ⟨_, stable_ownS _ _ _ _ _, hg, fun a W hb hd hbase K Q hK => by
    obtain ⟨⟨v0, hs, ⟨g, hgv⟩, hown⟩, A, c, hx, hc⟩ := h a W hb hd hbase
    subst hgv
    rcases Nat.eq_zero_or_pos n with rfl | hpos
    · obtain rfl : news = [] := List.eq_nil_of_length_eq_zero (by omega)
      have hrun := run_append_zero (P := P) W t o.type e i z ht hi hz ⟨g, 0, none⟩ A c
      unfold Oper.wp
      simp [execOp, hop, resolve, invoke, builtin, hs, hx, hrun, Result.andThen]
      exact hK _ _ hown (Below.refl _ _)
    · obtain ⟨ad, rfl, hc2⟩ := hc hpos
      obtain ⟨v', w', hrun, r1, r2⟩ := run_append_arg_grows (P := P) W t o.type e i z size bytes ht hi hz hsize hby hzs hsz ⟨g, 0, none⟩ 0 0 [] (by simp) (by simp) ad n c news hl hc2 (by omega) (by omega) (by rw [Nat.zero_add]; exact hbytes)
      unfold Oper.wp
      simp [execOp, hop, resolve, invoke, builtin, hs, hx, hrun, Result.andThen]
      refine hK v' w' ?_ ((Below.refl W.heap.size W).grown r2 (Nat.le_refl _) (fun k hk => by cases hk))
      have r1' : w'.ownsRow W.heap.size e size v' n news := by simpa using r1
      refine ⟨r1'.1, ?_⟩
      rcases r1'.2 with h2 | ⟨g', cap, cur, h1, h2, h3⟩
      · exact .inl h2
      · exact .inr ⟨g', cap, cur, h1, Nat.le_trans hb.size h2, h3⟩, hn⟩
/-- A call, by a contract. -/
theorem callR3 (R : Know) (hs : Stable R) (hg : GOK3 Γ o)
    (h : ∀ (a : Act) (W : World), Below w0.heap.size w0 W → deps Γ a W (ons o) → (∀ t, t ∉ DS → a.eval (.tmp t) = a0.eval (.tmp t)) → ∃ f args, (execOp a.eval o).run P W = .ok (.enter f args) W ∧ Calls P f args W fun e W' => ∃ v, e = .returned v ∧ R v W' ∧ Below W.heap.size W W')
    (hn : walk3 P DS w0 a0 T (Γ ++ [(o.dst, R)]) rest) : walk3 P DS w0 a0 T Γ (o :: rest) :=
  ⟨R, hs, hg, fun a W hb hd hbase K Q hK => by
    obtain ⟨f, args, hrun, hc⟩ := h a W hb hd hbase
    unfold Oper.wp
    rw [hrun]
    simp only [Oper.upon]
    refine hc.mono ?_
    rintro e W' ⟨v, rfl, hR, hbb⟩
    exact hK v W' hR hbb, hn⟩
/-- A call whose arguments and result are known. -/
theorem call3 (v : Value) (f : FuncId) (args : Array Value) (hg : GOK3 Γ o)
    (h : ∀ (a : Act) (W : World), Below w0.heap.size w0 W → deps Γ a W (ons o) → (∀ t, t ∉ DS → a.eval (.tmp t) = a0.eval (.tmp t)) → (execOp a.eval o).run P W = .ok (.enter f args) W)
    (hc : ∀ W, Below w0.heap.size w0 W → Calls P f args W fun e W' => e = .returned v ∧ Below W.heap.size W W')
    (hn : walk3 P DS w0 a0 T (Γ ++ [(o.dst, fun u _ => u = v)]) rest) : walk3 P DS w0 a0 T Γ (o :: rest) :=
  callR3 _ (stable_eq v) hg (fun a W hb hd hbase => ⟨f, args, h a W hb hd hbase, (hc W hb).mono fun e W' ⟨he, hb'⟩ => ⟨v, he, rfl, hb'⟩⟩) hn
theorem done3 (h : T Γ) : walk3 P DS w0 a0 T Γ [] := h
end
end Go.Proofs.YtpkldjlljoledaaGreatDoor.Rel

/- A new block in the head of a region walked by Rel3. -/
namespace Go.Proofs.YtpkldjlljoledaaGreatDoor.Rel
open Go.RowKit
variable {P : Program} {DS : List Tmp} {w0 : World} {a0 : Act} {T : Ctx → Prop} {Γ : Ctx} {o : Oper} {rest : List Oper}
theorem alloc3 (t : TypeId) (cs : Array Value) (hg : GOK3 Γ o)
    (h : ∀ (a : Act) (W : World), (execOp a.eval o).run P W = .ok (.value (.pointer (some ⟨W.heap.size, 0, none⟩))) (W.alloc (.cells cs t)))
    (hn : walk3 P DS w0 a0 T (Γ ++ [(o.dst, New w0.heap.size cs)]) rest) : walk3 P DS w0 a0 T Γ (o :: rest) :=
  ⟨_, stable_new _ cs, hg, fun a W hb hd hbase K Q hK => by
    unfold Oper.wp
    rw [h a W]
    exact hK _ _ ⟨_, rfl, hb.size, Calm.Blk.new W t cs⟩ ((Below.refl _ _).alloc (Nat.le_refl _) _), hn⟩
end Go.Proofs.YtpkldjlljoledaaGreatDoor.Rel
