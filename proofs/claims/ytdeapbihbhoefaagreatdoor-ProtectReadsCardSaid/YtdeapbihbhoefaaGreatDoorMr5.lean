/- Part 5 of the texts of the claim: P8, P10, Alloc3, P11, Grw. -/
import Derived.Test.YtdeapbihbhoefaaGreatDoorMr4
import Derived.WalkSmall
import Derived.WalkMore
import Derived.Test.YtdeapbihbhoefaaGreatDoorMr2
import Derived.Maps.AppendAt

/- Contract of (Guard).step: the greatest permitted gain. -/
namespace Go.Proofs.YtdeapbihbhoefaaGreatDoor
open Go.RowKit
open Calm (bcell Blk)

/-- an input by a gain, rounded towards 0. -/
def byF (x g : Int) : Int := Int.tdiv (x * g) 16
theorem byF_bd {x g : Int} (hx : -2048 ≤ x ∧ x ≤ 2048) (hg : 0 ≤ g ∧ g ≤ 16) : -2048 ≤ byF x g ∧ byF x g ≤ 2048 := by
  have h := mul_bd hx (show -16 ≤ g ∧ g ≤ 16 by omega)
  unfold byF
  rcases Int.le_total 0 (x * g) with h0 | h0
  · rw [Int.tdiv_eq_ediv_of_nonneg h0]; omega
  · have e : Int.tdiv (x * g) 16 = -((-(x * g)) / 16) := by
      rw [← Int.tdiv_eq_ediv_of_nonneg (by omega), Int.neg_tdiv, Int.neg_neg]
    rw [e]; omega
/-- whether the gain at an index is permitted. -/
def okAt (lk ht rc h x : Int) (ts ps gs : List Int) (k : Nat) : Bool :=
  fineF ht rc (coolF lk h + byF x (gs.getD k 0) * byF x (gs.getD k 0)) (exF ts ps (byF x (gs.getD k 0))) ts (pushL ps (byF x (gs.getD k 0)))
/-- the greatest permitted index below n. -/
def stepK (lk ht rc h x : Int) (ts ps gs : List Int) : Nat → Option Nat
  | 0 => none
  | n + 1 => if okAt lk ht rc h x ts ps gs n then some n else stepK lk ht rc h x ts ps gs n
theorem stepK_lt {lk ht rc h x : Int} {ts ps gs : List Int} {k : Nat} : ∀ {n : Nat}, stepK lk ht rc h x ts ps gs n = some k → k < n ∧ okAt lk ht rc h x ts ps gs k = true
  | 0, e => by cases e
  | n + 1, e => by
    unfold stepK at e
    split at e
    · rename_i h0; cases e; exact ⟨by omega, h0⟩
    · have := stepK_lt e; exact ⟨by omega, this.2⟩
theorem exF_bd {ts ps : List Int} {y : Int} (h1 : inB 64 ts) (h2 : inB 2048 ps) (h3 : -2048 ≤ y ∧ y ≤ 2048) (hn : ps.length ≤ 7) : -1099511627776 ≤ exF ts ps y ∧ exF ts ps y ≤ 1099511627776 := by
  have := exK_bd h1 h2 h3 ps.length
  unfold exF
  omega

set_option maxHeartbeats 4000000 in
set_option maxRecDepth 100000 in
theorem step_typed (lk ht rc he x : Int) (lv : Nat) (ts ps gs : List Int) (A1 A2 A3 : Option Addr) (c1 c2 c3 : Nat) (w : World) (k : Nat) (hL : Lim w) (hlk : 1 ≤ lk ∧ lk ≤ 8) (hh : 0 ≤ he ∧ he ≤ 549755813888) (hT : Cells w A1 ts) (hG : Cells w A2 gs) (hP : Cells w A3 ps)
    (hn : ts.length = ps.length + 1) (hn2 : ps.length ≤ 7) (hg0 : 0 < gs.length) (hg : gs.length ≤ 8) (hlv : lv < gs.length) (bT : inB 64 ts) (bP : inB 2048 ps) (bG : ∀ k, 0 ≤ gs.getD k 0 ∧ gs.getD k 0 ≤ 16) (hx : -2048 ≤ x ∧ x ≤ 2048)
    (hk : stepK lk ht rc he x ts ps gs (min (lv + 1) (gs.length - 1) + 1) = some k) :
    Calls Tryz.prog 56 #[.agg #[(.int .i64 lk), (.int .i64 ht), .slice A1 ts.length c1, (.int .i64 rc), .slice A2 gs.length c2], .agg #[(.int .i64 he), (.int .i64 ((lv : Int))), .slice A3 ps.length c3], (.int .i64 x)] w fun r w' => (∃ B, w.heap.size ≤ B.block ∧ r = .returned (.tuple #[(.int .i64 (byF x (gs.getD k 0))), .agg #[(.int .i64 (coolF lk he + byF x (gs.getD k 0) * byF x (gs.getD k 0))), (.int .i64 ((k : Int))), .slice (some B) ps.length ps.length]]) ∧
      Cells w' (some B) (pushL ps (byF x (gs.getD k 0))) ∧ IntRow w' B) ∧ Below w.heap.size w w' := by
  obtain ⟨M, hM⟩ : ∃ M, M = ts.length := ⟨_, rfl⟩
  obtain ⟨N, hN⟩ : ∃ N, N = ps.length := ⟨_, rfl⟩
  obtain ⟨L, hLL⟩ : ∃ L, L = gs.length := ⟨_, rfl⟩
  have HY : Hid (∀ i, -2048 ≤ byF x (gs.getD i 0) ∧ byF x (gs.getD i 0) ≤ 2048) := Lib.hid (fun i => byF_bd hx (bG i))
  have q0 := coolF_bd lk hh.1
  have HYY : Hid (∀ i, byF x (gs.getD i 0) * byF x (gs.getD i 0) ≤ 4194304 ∧ 0 ≤ byF x (gs.getD i 0) * byF x (gs.getD i 0)) := Lib.hid (fun i => by
    have := mul_bd (HY.out i) (HY.out i)
    have h2 : 0 ≤ byF x (gs.getD i 0) * byF x (gs.getD i 0) := by rcases Int.le_total 0 (byF x (gs.getD i 0)) with h3 | h3; exact Int.mul_nonneg h3 h3; exact Int.mul_nonneg_of_nonpos_of_nonpos h3 h3
    omega)
  have HBH : Hid (∀ (W : World) (i : Nat) (y0 : Int), y0 = byF x (gs.getD i 0) → Cells W A1 ts → Cells W A3 ps → Calls Tryz.prog 52 #[.agg #[(.int .i64 lk), (.int .i64 ht), .slice A1 M c1, (.int .i64 rc), .slice A2 L c2], .agg #[(.int .i64 he), (.int .i64 ((lv : Int))), .slice A3 N c3], (.int .i64 y0)] W fun r w' => (∃ B, W.heap.size ≤ B.block ∧ r = .returned (.tuple #[.agg #[(.int .i64 (coolF lk he + byF x (gs.getD i 0) * byF x (gs.getD i 0))), (.int .i64 ((lv : Int))), .slice (some B) N N], (.int .i64 (exF ts ps (byF x (gs.getD i 0))))]) ∧ Cells w' (some B) (pushL ps (byF x (gs.getD i 0))) ∧ IntRow w' B) ∧ Below W.heap.size W w') := Lib.hid (fun W i y0 hy0 q1 q2 => by
    rw [hM, hN, hy0]; exact behind_typed lk ht rc he lv (byF x (gs.getD i 0)) ts ps A1 A2 A3 c1 L c2 c3 W hlk ⟨hh.1, by omega⟩ q1 q2 hn hn2 bT bP (HY.out i))
  have HFI : Hid (∀ (W : World) (i : Nat) (B : Addr), Lim W → Cells W A1 ts → Cells W (some B) (pushL ps (byF x (gs.getD i 0))) → Calls Tryz.prog 80 #[.agg #[(.int .i64 lk), (.int .i64 ht), .slice A1 M c1, (.int .i64 rc), .slice A2 L c2], .agg #[(.int .i64 (coolF lk he + byF x (gs.getD i 0) * byF x (gs.getD i 0))), (.int .i64 ((lv : Int))), .slice (some B) N N], (.int .i64 (exF ts ps (byF x (gs.getD i 0))))] W fun r w' => r = .returned (.bool (okAt lk ht rc he x ts ps gs i)) ∧ Below W.heap.size W w') := Lib.hid (fun W i B q0' q1 q2 => by
    have e := pushL_len ps (byF x (gs.getD i 0))
    have := fine_any lk ht rc (coolF lk he + byF x (gs.getD i 0) * byF x (gs.getD i 0)) lv (exF ts ps (byF x (gs.getD i 0))) ts (pushL ps (byF x (gs.getD i 0))) A1 A2 (some B) c1 L c2 N W q0' hlk (by have := HYY.out i; omega) q1 q2 (by omega) (by omega) bT (inB_push bP (HY.out i)) (exF_bd bT bP (HY.out i) hn2)
    rw [e, ← hN, ← hM] at this
    exact this)
  have HT := Lib.hid hT
  have HG := Lib.hid hG
  have HP := Lib.hid hP
  have HL := Lib.hid hL
  have HK := Lib.hid hk
  have HLL := Lib.hid hLL
  have HBG := Lib.hid bG
  rw [← hM, ← hN, ← hLL]
  rw [← hLL] at hg0 hg hlv HK
  rw [← hN] at hn2
  clear hM hN hLL hT hG hP hL hk hn bT bP bG
  obtain ⟨a5, a6⟩ := hx
  go_enter Tryz.func56, Tryz.ntmps56
  go_wp2
  go_step3
  go_wp2
  go_step3
  go_wp2
  all_goals (
    go_loopw [8, 10] (fun e lvl wr => e = (.int .i64 0) ∧ ∃ i : Nat, i < L ∧ lvl = (.int .i64 ((i : Int))) ∧ stepK lk ht rc he x ts ps gs (i + 1) = some k ∧ Blk wr w.heap.size #[(.int .i64 lk), (.int .i64 ht), .slice A1 M c1, (.int .i64 rc), .slice A2 L c2] ∧ Blk wr (w.heap.size + 1) #[(.int .i64 he), (.int .i64 ((lv : Int))), .slice A3 N c3] ∧
      Blk wr (w.heap.size + 1 + 1) #[(.int .i64 0), (.int .i64 0), .slice none 0 0] ∧ Blk wr (w.heap.size + 1 + 1 + 1) #[(.int .i64 0), (.int .i64 0), .slice none 0 0] ∧ Below w.heap.size w wr) (fun _ lvl _ => (intOf lvl).toNat)
    case atStart =>
      first
        | exact ⟨rfl, lv + 1, by omega, by go_num, by have := HK.out; rwa [Nat.min_eq_left (by omega)] at this, by (repeat (first | ((with_reducible refine Blk.at_ ?_); focus (first | rfl | (simp; done) | (simp; omega))) | (with_reducible refine Blk.alloc ?_ _) | (with_reducible refine Blk.below ?_ (by with_reducible assumption)) | (with_reducible refine Blk.drew ?_))), by (repeat (first | ((with_reducible refine Blk.at_ ?_); focus (first | rfl | (simp; done) | (simp; omega))) | (with_reducible refine Blk.alloc ?_ _) | (with_reducible refine Blk.below ?_ (by with_reducible assumption)) | (with_reducible refine Blk.drew ?_))), by (repeat (first | ((with_reducible refine Blk.at_ ?_); focus (first | rfl | (simp; done) | (simp; omega))) | (with_reducible refine Blk.alloc ?_ _) | (with_reducible refine Blk.below ?_ (by with_reducible assumption)) | (with_reducible refine Blk.drew ?_))), by (repeat (first | ((with_reducible refine Blk.at_ ?_); focus (first | rfl | (simp; done) | (simp; omega))) | (with_reducible refine Blk.alloc ?_ _) | (with_reducible refine Blk.below ?_ (by with_reducible assumption)) | (with_reducible refine Blk.drew ?_))), by (repeat (first | (with_reducible exact Below.refl _ _) | ((with_reducible refine Below.setCell ?_ ?_ _); rotate_left 1; focus (first | (simp; done) | (simp; omega) | (simp at *; omega))) | ((with_reducible refine Below.alloc ?_ ?_ _); rotate_left 1; focus (first | (simp; done) | (simp; omega) | (simp at *; omega))) | (with_reducible refine Below.drew ?_) | ((with_reducible refine Calm.step (by assumption) ?_ ?_); rotate_left 1; focus (first | (simp; done) | (simp; omega) | (simp at *; omega)))))⟩
        | exact ⟨rfl, L - 1, by omega, by go_num, by have := HK.out; rwa [Nat.min_eq_right (by omega)] at this, by (repeat (first | ((with_reducible refine Blk.at_ ?_); focus (first | rfl | (simp; done) | (simp; omega))) | (with_reducible refine Blk.alloc ?_ _) | (with_reducible refine Blk.below ?_ (by with_reducible assumption)) | (with_reducible refine Blk.drew ?_))), by (repeat (first | ((with_reducible refine Blk.at_ ?_); focus (first | rfl | (simp; done) | (simp; omega))) | (with_reducible refine Blk.alloc ?_ _) | (with_reducible refine Blk.below ?_ (by with_reducible assumption)) | (with_reducible refine Blk.drew ?_))), by (repeat (first | ((with_reducible refine Blk.at_ ?_); focus (first | rfl | (simp; done) | (simp; omega))) | (with_reducible refine Blk.alloc ?_ _) | (with_reducible refine Blk.below ?_ (by with_reducible assumption)) | (with_reducible refine Blk.drew ?_))), by (repeat (first | ((with_reducible refine Blk.at_ ?_); focus (first | rfl | (simp; done) | (simp; omega))) | (with_reducible refine Blk.alloc ?_ _) | (with_reducible refine Blk.below ?_ (by with_reducible assumption)) | (with_reducible refine Blk.drew ?_))), by (repeat (first | (with_reducible exact Below.refl _ _) | ((with_reducible refine Below.setCell ?_ ?_ _); rotate_left 1; focus (first | (simp; done) | (simp; omega) | (simp at *; omega))) | ((with_reducible refine Below.alloc ?_ ?_ _); rotate_left 1; focus (first | (simp; done) | (simp; omega) | (simp at *; omega))) | (with_reducible refine Below.drew ?_) | ((with_reducible refine Calm.step (by assumption) ?_ ?_); rotate_left 1; focus (first | (simp; done) | (simp; omega) | (simp at *; omega)))))⟩
    case round =>
      obtain ⟨rfl, i, hi, rfl, hst, K0, K1, K2, K3, hB⟩ := hrel
      obtain ⟨b2, o2, rfl, l2, k2⟩ := HG.out (by rw [← HLL.out]; exact hg0)
      have x2 := (hB.cell (p := ⟨b2, o2 + i, none⟩) l2).trans (k2 i (by rw [← HLL.out]; exact hi))
      have hTr := Lib.hid (HT.out.below hB)
      have hPr := Lib.hid (HP.out.below hB)
      have hLr := Lib.hid (HL.out.below hB)
      have HB := Lib.hid hB
      have HST := Lib.hid hst
      have hsz := hB.size
      have bg := HBG.out i
      have by0 := HY.out i
      have byy := HYY.out i
      have m0 := mul_bd ⟨a5, a6⟩ (show -16 ≤ gs.getD i 0 ∧ gs.getD i 0 ≤ 16 by omega)
      have hB1 := fun y0 (hy0 : y0 = byF x (gs.getD i 0)) => HBH.out wr i y0 hy0 hTr.out hPr.out
      have hFI : ∀ (W : World) (B : Addr), Lim W → Cells W A1 ts → Cells W (some B) (pushL ps (byF x (gs.getD i 0))) → _ := fun W B => HFI.out W i B
      have hst2 : (if okAt lk ht rc he x ts ps gs i then some i else stepK lk ht rc he x ts ps gs i) = some k := hst
      have HFIN : Hid (i = k → byF x (gs.getD i 0) = byF x (gs.getD k 0)) := Lib.hid (fun h => by rw [h])
      obtain ⟨gg, hgg⟩ : ∃ gg, gg = gs.getD i 0 := ⟨_, rfl⟩
      obtain ⟨Y, hY⟩ : ∃ Y, Y = byF x (gs.getD i 0) := ⟨_, rfl⟩
      obtain ⟨O, hO⟩ : ∃ O, O = okAt lk ht rc he x ts ps gs i := ⟨_, rfl⟩
      have HYE : Hid (Int.tdiv (x * gg) 16 = Y) := Lib.hid (by rw [hY, hgg]; rfl)
      rw [← hgg] at x2 bg m0
      rw [← hY] at hB1 by0 byy HFIN hFI
      rw [← hO] at hst2 hFI
      have HB1 := Lib.hid hB1
      have HF1 := Lib.hid hFI
      have HS2 := Lib.hid hst2
      obtain ⟨bg1, bg2⟩ := bg
      obtain ⟨m1, m2⟩ := m0
      obtain ⟨c00, c01, c02, c03, c04, l0, f0⟩ := K0.o5
      obtain ⟨c10, c11, c12, l10, f1⟩ := K1.o3
      have HK0 := Lib.hid K0
      have HK1 := Lib.hid K1
      have HK2 := Lib.hid K2
      have HK3 := Lib.hid K3
      have lt3 := K3.lt
      clear K0 K1 K2 K3 hB hst k2 hgg hY hO hB1 hFI hst2
      cases O with
      | false =>
        go_wp2_with (first
          | (go_at_call 52; refine (HB1.out _ HYE.out).mono ?_; rintro r w1 ⟨⟨B, hBb, rfl, hC1, _⟩, hb1⟩; obtain ⟨hc1, hf1⟩ := bcell hb1; have hs1 := hb1.size; have hs10 : w.heap.size < w1.heap.size := (by omega); have hs11 : w.heap.size + 1 < w1.heap.size := (by omega); have HC1 := Lib.hid hC1; have HW1 := Lib.hid hb1; clear hC1 hb1)
          | (go_at_call 80; refine (HF1.out _ B (hLr.out.below (HW1.out.alloc hs1 _)) (hTr.out.below (HW1.out.alloc hs1 _)) (HC1.out.below (by (repeat (first | (with_reducible exact Below.refl _ _) | ((with_reducible refine Below.setCell ?_ ?_ _); rotate_left 1; focus (first | (simp; done) | (simp; omega) | (simp at *; omega))) | ((with_reducible refine Below.alloc ?_ ?_ _); rotate_left 1; focus (first | (simp; done) | (simp; omega) | (simp at *; omega))) | (with_reducible refine Below.drew ?_) | ((with_reducible refine Calm.step (by assumption) ?_ ?_); rotate_left 1; focus (first | (simp; done) | (simp; omega) | (simp at *; omega)))))))).mono ?_; rintro r w3 ⟨rfl, hb3⟩))
        have hs3 : stepK lk ht rc he x ts ps gs i = some k := by simpa using HS2.out
        have hi0 : 0 < i := by
          rcases Nat.eq_zero_or_pos i with h0 | h0
          · rw [h0] at hs3; cases hs3
          · exact h0
        have HS3 := Lib.hid hs3
        clear hs3
        go_roundw
        case rel =>
          exact ⟨rfl, i - 1, by omega, by go_num, by rw [Nat.sub_add_cancel hi0]; exact HS3.out, ((HK0.out.below HW1.out).alloc _).below hb3, ((HK1.out.below HW1.out).alloc _).below hb3, ((HK2.out.below HW1.out).alloc _).below hb3, ((HK3.out.below HW1.out).alloc _).below hb3,
            Below.trans ((HB.out.trans (HW1.out.mono hsz)).alloc (by omega) _) (hb3.mono (by simp; omega))⟩
        case measure => simp [intOf]; omega
      | true =>
        have hik : i = k := by
          have h1 := HS2.out
          rw [if_pos rfl] at h1
          exact Option.some.inj h1
        have HYK := Lib.hid (HFIN.out hik)
        subst hik
        go_wp2_with (first
          | (go_at_call 52; refine (HB1.out _ HYE.out).mono ?_; rintro r w1 ⟨⟨B, hBb, rfl, hC1, hI1⟩, hb1⟩; have HI1 := Lib.hid hI1; obtain ⟨hc1, hf1⟩ := bcell hb1; have hs1 := hb1.size; have hs10 : w.heap.size < w1.heap.size := (by omega); have hs11 : w.heap.size + 1 < w1.heap.size := (by omega); have HC1 := Lib.hid hC1; have HW1 := Lib.hid hb1; clear hC1 hb1 hI1)
          | (go_at_call 80; refine (HF1.out _ B (hLr.out.below (HW1.out.alloc hs1 _)) (hTr.out.below (HW1.out.alloc hs1 _)) (HC1.out.below (by (repeat (first | (with_reducible exact Below.refl _ _) | ((with_reducible refine Below.setCell ?_ ?_ _); rotate_left 1; focus (first | (simp; done) | (simp; omega) | (simp at *; omega))) | ((with_reducible refine Below.alloc ?_ ?_ _); rotate_left 1; focus (first | (simp; done) | (simp; omega) | (simp at *; omega))) | (with_reducible refine Below.drew ?_) | ((with_reducible refine Calm.step (by assumption) ?_ ?_); rotate_left 1; focus (first | (simp; done) | (simp; omega) | (simp at *; omega)))))))).mono ?_; rintro r w3 ⟨rfl, hb3⟩; refine Hid.out ?_))
        have KN := (Blk.new w1 45 #[(.int .i64 (coolF lk he + Y * Y)), (.int .i64 ((lv : Int))), .slice (some B) N N]).below hb3
        have K2 := ((HK2.out.below HW1.out).alloc (.cells #[(.int .i64 (coolF lk he + Y * Y)), (.int .i64 ((lv : Int))), .slice (some B) N N] 45)).below hb3
        have K3 := ((HK3.out.below HW1.out).alloc (.cells #[(.int .i64 (coolF lk he + Y * Y)), (.int .i64 ((lv : Int))), .slice (some B) N N] 45)).below hb3
        have HBA : Hid (Below w.heap.size w w3) := Lib.hid (Below.trans ((HB.out.trans (HW1.out.mono hsz)).alloc (by omega) _) (hb3.mono (by simp; omega)))
        have HCA := Lib.hid (HC1.out.below (((Below.refl _ _).alloc (Nat.le_refl _) (.cells #[(.int .i64 (coolF lk he + Y * Y)), (.int .i64 ((lv : Int))), .slice (some B) N N] 45)).trans (hb3.mono (by simp))))
        have HIA := Lib.hid (HI1.out.below (((Below.refl _ _).alloc (Nat.le_refl _) (.cells #[(.int .i64 (coolF lk he + Y * Y)), (.int .i64 ((lv : Int))), .slice (some B) N N] 45)).trans (hb3.mono (by simp))))
        have hBI : Hid (B.block < w1.heap.size) := Lib.hid (by obtain ⟨_, h⟩ := HI1.out; exact (Array.getElem?_eq_some_iff.1 h).1)
        have hN1 : w.heap.size + 1 + 1 + 1 < w1.heap.size := by omega
        have hBN : Hid (0 < (pushL ps Y).length → B.block < w1.heap.size) := Lib.hid (fun h0 => by obtain ⟨b, off, hA, hl, _⟩ := HC1.out h0; cases hA; exact hl)
        have hBM : w.heap.size + 1 + 1 + 1 < B.block := by omega
        have hs3 := hb3.size
        simp only [World.size_alloc] at hs3
        have KN' := Lib.hid (KN.set (i := 1) (by simp) (.int .i64 ((i : Int))))
        have K2' := Lib.hid (K2.far (p := ⟨w1.heap.size, 1, none⟩) (by simp; omega) (.int .i64 ((i : Int))))
        have K3' := Lib.hid (K3.far (p := ⟨w1.heap.size, 1, none⟩) (by simp; omega) (.int .i64 ((i : Int))))
        obtain ⟨n0, n1, n2, nl, nf⟩ := KN.o3
        clear KN K2 K3 hc1 hf1 hb3 HB HW1 HC1 HK0 HK1 HK2 HK3 c00 c01 c02 c03 c04 l0 f0 c10 c11 c12 l10 f1 HF1 HB1 hLr hTr hPr
        unfold Hid
        go_wp2
        refine name_world ?_
        intro w4 e4
        have KN4 : Blk w4 w1.heap.size #[(.int .i64 (coolF lk he + Y * Y)), (.int .i64 ((i : Int))), .slice (some B) N N] := e4 ▸ KN'.out
        have K24 := Lib.hid (show Blk w4 (w.heap.size + 1 + 1) #[(.int .i64 0), (.int .i64 0), .slice none 0 0] from e4 ▸ K2'.out)
        have K34 : Blk w4 (w.heap.size + 1 + 1 + 1) #[(.int .i64 0), (.int .i64 0), .slice none 0 0] := e4 ▸ K3'.out
        have HBA4 : Hid (Below w.heap.size w w4) := Lib.hid (by rw [e4]; exact HBA.out.setCell (by simp; omega) _)
        have HCA4 : Hid (Cells w4 (some B) (pushL ps Y)) := Lib.hid (by rw [e4]; exact HCA.out.sets (fun h0 p hp => by cases hp; have := hBN.out h0; omega) _ _)
        have HIA4 : Hid (IntRow w4 B) := Lib.hid (by rw [e4]; exact HIA.out.sets (by have := hBI.out; omega) _ _)
        have hs4 : w1.heap.size < w4.heap.size := KN4.lt
        have HK34 := Lib.hid K34
        obtain ⟨p0, p1, p2, pl, pf⟩ := KN4.o3
        clear e4 KN4 K34 KN' K2' K3' HBA HCA n0 n1 n2 nl nf hs3
        refine Calm.tail_below 3 (by kernel_rfl) (by kernel_rfl) ?_
        simp only [List.take_succ_cons, List.take_zero, List.drop_succ_cons, List.drop_zero]
        repeat (first | (apply Calm.op_move; (focus rfl); (focus (first | exact .inl rfl | exact .inr rfl)); (focus ((try simp only [Act.eval, Array.getD_eq_getD_getElem?, List.getElem?_toArray, List.getElem?_cons_succ, List.getElem?_cons_zero, Option.getD_some]); rfl)); (try simp only [Act.put, List.setIfInBounds_toArray, List.set_cons_zero, List.set_cons_succ])) | (apply Calm.op_not; (focus rfl); (try simp only [Act.put, List.setIfInBounds_toArray, List.set_cons_zero, List.set_cons_succ])) | (apply Calm.op; (focus rfl); (focus (intro W hb; obtain ⟨hc, hf⟩ := bcell hb; clear hb hf; go_simp; (try go_bits); (try rfl); done)); (try simp only [Act.put, List.setIfInBounds_toArray, List.set_cons_zero, List.set_cons_succ])))
        refine wpQuiet_nil ?_
        intro w5 hb5
        obtain ⟨hb5c, hb5f⟩ := bcell hb5
        have hb5z := hb5.size
        (try simp at hb5z)
        (try have hb5z0 : w.heap.size < w5.heap.size := by omega)
        (try have hb5z1 : w.heap.size + 1 < w5.heap.size := by omega)
        (try have hb5z2 : w.heap.size + 1 + 1 < w5.heap.size := by omega)
        (try have hb5z3 : w.heap.size + 1 + 1 + 1 < w5.heap.size := by omega)
        (try have hb5z4 : w.heap.size + 1 + 1 + 1 + 1 < w5.heap.size := by omega)
        (try have hb5z5 : w.heap.size + 1 + 1 + 1 + 1 + 1 < w5.heap.size := by omega)
        have HBA5 := Lib.hid (HBA4.out.trans (hb5.mono (by omega)))
        have HCA5 := Lib.hid (HCA4.out.below hb5)
        have HIA5 := Lib.hid (HIA4.out.below hb5)
        have HK35 := Lib.hid (HK34.out.below hb5)
        have HK25 := Lib.hid (K24.out.below hb5)
        have hs5 := hb5.size
        obtain ⟨r0, r1, r2, rl, rf⟩ := HK35.out.o3
        clear hb5 hb5c hb5f HBA4 HCA4 HK34 K24 p0 p1 p2 pl pf
        go_wp2
        refine name_world ?_
        intro w6 e6
        have K36 : Blk w6 (w.heap.size + 1 + 1 + 1) #[(.int .i64 (coolF lk he + Y * Y)), (.int .i64 ((i : Int))), .slice (some B) N N] := e6 ▸ HK35.out.set3 _ _ _
        have HK26 : Hid (Blk w6 (w.heap.size + 1 + 1) #[(.int .i64 0), (.int .i64 0), .slice none 0 0]) := Lib.hid (by rw [e6]; exact ((HK25.out.far (by simp) _).far (by simp) _).far (by simp) _)
        have HBA6 : Hid (Below w.heap.size w w6) := Lib.hid (by rw [e6]; exact ((HBA5.out.setCell (by simp; omega) _).setCell (by simp; omega) _).setCell (by simp; omega) _)
        have HCA6 : Hid (Cells w6 (some B) (pushL ps Y)) := Lib.hid (by
          have q : 0 < (pushL ps Y).length → ∀ p, some B = some p → p.block ≠ w.heap.size + 1 + 1 + 1 := fun _ p hp => by cases hp; omega
          rw [e6]; exact ((HCA5.out.sets q _ _).sets q _ _).sets q _ _)
        have HIA6 : Hid (IntRow w6 B) := Lib.hid (by
          rw [e6]; exact ((HIA5.out.sets (by omega) _ _).sets (by omega) _ _).sets (by omega) _ _)
        obtain ⟨t0, t1, t2, tl, tf⟩ := K36.o3
        clear e6 K36 HBA5 HCA5 HK35 HK25 r0 r1 r2 rl rf
        refine Calm.tail_below 3 (by kernel_rfl) (by kernel_rfl) ?_
        simp only [List.take_succ_cons, List.take_zero, List.drop_succ_cons, List.drop_zero]
        repeat (first | (apply Calm.op_move; (focus rfl); (focus (first | exact .inl rfl | exact .inr rfl)); (focus ((try simp only [Act.eval, Array.getD_eq_getD_getElem?, List.getElem?_toArray, List.getElem?_cons_succ, List.getElem?_cons_zero, Option.getD_some]); rfl)); (try simp only [Act.put, List.setIfInBounds_toArray, List.set_cons_zero, List.set_cons_succ])) | (apply Calm.op_not; (focus rfl); (try simp only [Act.put, List.setIfInBounds_toArray, List.set_cons_zero, List.set_cons_succ])) | (apply Calm.op; (focus rfl); (focus (intro W hb; obtain ⟨hc, hf⟩ := bcell hb; clear hb hf; go_simp; (try go_bits); (try rfl); done)); (try simp only [Act.put, List.setIfInBounds_toArray, List.set_cons_zero, List.set_cons_succ])))
        refine wpQuiet_nil ?_
        intro w7 hb7
        obtain ⟨hb7c, hb7f⟩ := bcell hb7
        have hb7z := hb7.size
        (try simp at hb7z)
        (try have hb7z0 : w.heap.size < w7.heap.size := by omega)
        (try have hb7z1 : w.heap.size + 1 < w7.heap.size := by omega)
        (try have hb7z2 : w.heap.size + 1 + 1 < w7.heap.size := by omega)
        (try have hb7z3 : w.heap.size + 1 + 1 + 1 < w7.heap.size := by omega)
        (try have hb7z4 : w.heap.size + 1 + 1 + 1 + 1 < w7.heap.size := by omega)
        (try have hb7z5 : w.heap.size + 1 + 1 + 1 + 1 + 1 < w7.heap.size := by omega)
        have HBA7 := Lib.hid (HBA6.out.trans (hb7.mono (by omega)))
        have HCA7 := Lib.hid (HCA6.out.below hb7)
        have HIA7 := Lib.hid (HIA6.out.below hb7)
        have HK27 := Lib.hid (HK26.out.below hb7)
        obtain ⟨v0, v1, v2, vl, vf⟩ := HK27.out.o3
        clear hb7 hb7c hb7f HBA6 HCA6 HK26 t0 t1 t2 tl tf
        go_wp2
        rw [Exit.noGoto_ret]
        have q2 : 0 < (pushL ps Y).length → ∀ p, some B = some p → p.block ≠ w.heap.size + 1 + 1 := fun _ p hp => by cases hp; omega
        have KR := HK27.out.set3 (.int .i64 (coolF lk he + Y * Y)) (.int .i64 ((i : Int))) (.slice (some B) N N)
        obtain ⟨y0, y1, y2, yl, yf⟩ := KR.o3
        clear v0 v1 v2 vl vf KR
        exact bodyPost_ret (v := .tuple #[(.int .i64 (Int.tdiv (x * gg) 16)), .agg #[(.int .i64 (coolF lk he + Y * Y)), (.int .i64 ((i : Int))), .slice (some B) N N]]) (by simp [results, Tryz.results56, go_sem, y0, y1, y2]) rfl
          ⟨⟨B, by omega, by rw [HYE.out, ← HYK.out], by rw [← HYK.out]; exact ((HCA7.out.sets q2 _ _).sets q2 _ _).sets q2 _ _, ((HIA7.out.sets (by omega) _ _).sets (by omega) _ _).sets (by omega) _ _⟩, ((HBA7.out.setCell (by simp; omega) _).setCell (by simp; omega) _).setCell (by simp; omega) _⟩)
theorem step_any (lk ht rc he x : Int) (lv : Nat) (ts ps gs : List Int) (A1 A2 A3 : Option Addr) (c1 c2 c3 : Nat) (w : World) (k : Nat) (hL : Lim w) (hlk : 1 ≤ lk ∧ lk ≤ 8) (hh : 0 ≤ he ∧ he ≤ 549755813888) (hT : Cells w A1 ts) (hG : Cells w A2 gs) (hP : Cells w A3 ps)
    (hn : ts.length = ps.length + 1) (hn2 : ps.length ≤ 7) (hg0 : 0 < gs.length) (hg : gs.length ≤ 8) (hlv : lv < gs.length) (bT : inB 64 ts) (bP : inB 2048 ps) (bG : ∀ k, 0 ≤ gs.getD k 0 ∧ gs.getD k 0 ≤ 16) (hx : -2048 ≤ x ∧ x ≤ 2048)
    (hk : stepK lk ht rc he x ts ps gs (min (lv + 1) (gs.length - 1) + 1) = some k) :
    Calls Tryz.prog 56 #[.agg #[(.int .i64 lk), (.int .i64 ht), .slice A1 ts.length c1, (.int .i64 rc), .slice A2 gs.length c2], .agg #[(.int .i64 he), (.int .i64 ((lv : Int))), .slice A3 ps.length c3], (.int .i64 x)] w fun r w' => (∃ B, w.heap.size ≤ B.block ∧ r = .returned (.tuple #[(.int .i64 (byF x (gs.getD k 0))), .agg #[(.int .i64 (coolF lk he + byF x (gs.getD k 0) * byF x (gs.getD k 0))), (.int .i64 ((k : Int))), .slice (some B) ps.length ps.length]]) ∧
      Cells w' (some B) (pushL ps (byF x (gs.getD k 0)))) ∧ Below w.heap.size w w' :=
  (step_typed lk ht rc he x lv ts ps gs A1 A2 A3 c1 c2 c3 w k hL hlk hh hT hG hP hn hn2 hg0 hg hlv bT bP bG hx hk).mono fun _ _ ⟨⟨B, h1, h2, h3, _⟩, h4⟩ => ⟨⟨B, h1, h2, h3⟩, h4⟩
end Go.Proofs.YtdeapbihbhoefaaGreatDoor

/- Safe states: a permitted gain is always found, and the state behind it is safe. No walk. -/
namespace Go.Proofs.YtdeapbihbhoefaaGreatDoor
open Go.RowKit

theorem pushL_getD (ps : List Int) (y : Int) (i : Nat) : (pushL ps y).getD i 0 = if i < ps.length then (y :: ps).getD i 0 else 0 := by
  simp only [pushL, List.getD_eq_getElem?_getD, List.getElem?_take]
  split <;> rfl
theorem psK_getD (ps : List Int) : ∀ (k i : Nat), (psK ps k).getD i 0 = if i < ps.length then (if i < k then 0 else ps.getD (i - k) 0) else 0
  | 0, i => by
    simp only [psK, Nat.not_lt_zero, if_false, Nat.sub_zero]
    split
    · rfl
    · rw [List.getD_eq_getElem?_getD, List.getElem?_eq_none (by omega)]; rfl
  | k + 1, i => by
    show (pushL (psK ps k) 0).getD i 0 = _
    rw [pushL_getD, psK_len]
    split
    · cases i with
      | zero => simp
      | succ j =>
        rw [List.getD_cons_succ, psK_getD ps k j, if_pos (by omega)]
        by_cases hj : j < k
        · rw [if_pos hj, if_pos (by omega)]
        · rw [if_neg hj, if_neg (by omega), Nat.add_sub_add_right]
    · rfl
theorem psK_push (ps : List Int) : ∀ k, psK (pushL ps 0) k = psK ps (k + 1)
  | 0 => rfl
  | k + 1 => by show pushL (psK (pushL ps 0) k) 0 = pushL (psK ps (k + 1)) 0; rw [psK_push ps k]
theorem exK_zero {ts ps : List Int} : ∀ {k : Nat}, (∀ i, i < k → ps.getD i 0 = 0) → exK ts ps 0 k = 0
  | 0, _ => by simp [exK]
  | k + 1, h => by
    simp only [exK]
    rw [exK_zero (fun i hi => h i (by omega)), h k (by omega)]
    simp
/-- a guard that is valid. -/
structure Valid (lk ht rc : Int) (ts gs : List Int) : Prop where
  lk : 1 ≤ lk ∧ lk ≤ 8
  ht : 0 ≤ ht ∧ ht ≤ 536870912
  rc : 0 ≤ rc ∧ rc ≤ 1048576
  tl : 1 ≤ ts.length ∧ ts.length ≤ 8
  tb : inB 64 ts
  gl : 1 ≤ gs.length ∧ gs.length ≤ 8
  gb : ∀ k, 0 ≤ gs.getD k 0 ∧ gs.getD k 0 ≤ 16
  g0 : gs.getD 0 0 = 0
/-- a state. -/
structure St where
  h : Int
  lv : Nat
  ps : List Int
/-- a state that keeps all limits without further outputs. -/
structure Good (ht rc : Int) (ts gs : List Int) (s : St) : Prop where
  h : 0 ≤ s.h ∧ s.h ≤ ht
  lv : s.lv < gs.length
  pl : ts.length = s.ps.length + 1
  pb : inB 2048 s.ps
  tf : farAny rc (tailsF ts s.ps) = false
theorem farAny_false {rc : Int} {l : List Int} : farAny rc l = false ↔ ∀ x ∈ l, absI x ≤ rc := by
  unfold farAny
  rw [List.any_eq_false]
  constructor
  · intro h x hx; have := h x hx; simp at this; omega
  · intro h x hx; have := h x hx; simp; omega
theorem tails_get {ts ps : List Int} {rc : Int} (h : farAny rc (tailsF ts ps) = false) {k : Nat} (hk : k < ps.length) : absI (exF ts (psK ps k) 0) ≤ rc := by
  refine farAny_false.1 h _ ?_
  simp only [tailsF, tailsL, List.mem_map, List.mem_range]
  exact ⟨k, hk, rfl⟩
theorem exF_last {ts ps : List Int} {k : Nat} (hk : ps.length ≤ k) : exF ts (psK ps k) 0 = 0 := by
  unfold exF
  refine exK_zero fun i hi => ?_
  rw [psK_len] at hi
  rw [psK_getD, if_pos hi, if_pos (by omega)]
theorem absI_zero : absI 0 = 0 := by decide
/-- without an output a safe state stays safe. -/
theorem fine_zero {lk ht rc : Int} {ts gs : List Int} {s : St} (hV : Valid lk ht rc ts gs) (hS : Good ht rc ts gs s) : fineF ht rc (coolF lk s.h + 0 * 0) (exF ts s.ps 0) ts (pushL s.ps 0) = true := by
  have h1 := coolF_bd lk hS.h.1
  have h2 : absI (exF ts s.ps 0) ≤ rc := by
    rcases Nat.eq_zero_or_pos s.ps.length with h0 | h0
    · have := exF_last (ts := ts) (ps := s.ps) (k := 0) (by omega)
      simp only [psK] at this
      rw [this, absI_zero]; exact hV.rc.1
    · exact tails_get hS.tf (k := 0) h0
  have h3 : farAny rc (tailsF ts (pushL s.ps 0)) = false := by
    refine farAny_false.2 fun x hx => ?_
    simp only [tailsF, tailsL, List.mem_map, List.mem_range, pushL_len] at hx
    obtain ⟨k, hk, rfl⟩ := hx
    rw [psK_push]
    rcases Nat.lt_or_ge (k + 1) s.ps.length with h4 | h4
    · exact tails_get hS.tf h4
    · rw [exF_last h4, absI_zero]; exact hV.rc.1
  have hS1 := hS.h
  unfold fineF
  rw [h3, decide_eq_true (by omega), decide_eq_false (by omega)]
  rfl
theorem byF_zero (x : Int) : byF x 0 = 0 := by unfold byF; simp
theorem okAt_zero {lk ht rc : Int} {ts gs : List Int} {s : St} (hV : Valid lk ht rc ts gs) (hS : Good ht rc ts gs s) (x : Int) : okAt lk ht rc s.h x ts s.ps gs 0 = true := by
  unfold okAt
  rw [hV.g0, byF_zero]
  exact fine_zero hV hS
theorem stepK_some {lk ht rc h x : Int} {ts ps gs : List Int} (h0 : okAt lk ht rc h x ts ps gs 0 = true) : ∀ n, ∃ k, stepK lk ht rc h x ts ps gs (n + 1) = some k
  | 0 => ⟨0, by unfold stepK; rw [h0]; rfl⟩
  | n + 1 => by
    unfold stepK
    split
    · exact ⟨_, rfl⟩
    · exact stepK_some h0 n
/-- the index of the gain that is taken. -/
def lvF (lk ht rc : Int) (ts gs : List Int) (s : St) (x : Int) : Nat := (stepK lk ht rc s.h x ts s.ps gs (min (s.lv + 1) (gs.length - 1) + 1)).getD 0
/-- the output. -/
def outF (lk ht rc : Int) (ts gs : List Int) (s : St) (x : Int) : Int := byF x (gs.getD (lvF lk ht rc ts gs s x) 0)
/-- the state behind it. -/
def stF (lk ht rc : Int) (ts gs : List Int) (s : St) (x : Int) : St := ⟨coolF lk s.h + outF lk ht rc ts gs s x * outF lk ht rc ts gs s x, lvF lk ht rc ts gs s x, pushL s.ps (outF lk ht rc ts gs s x)⟩
theorem lvF_some {lk ht rc : Int} {ts gs : List Int} {s : St} (hV : Valid lk ht rc ts gs) (hS : Good ht rc ts gs s) (x : Int) : stepK lk ht rc s.h x ts s.ps gs (min (s.lv + 1) (gs.length - 1) + 1) = some (lvF lk ht rc ts gs s x) := by
  obtain ⟨k, hk⟩ := stepK_some (okAt_zero hV hS x) (min (s.lv + 1) (gs.length - 1))
  unfold lvF
  rw [hk]
  rfl
theorem fineF_true {ht rc h x : Int} {ts ps : List Int} (e : fineF ht rc h x ts ps = true) : h ≤ ht ∧ absI x ≤ rc ∧ farAny rc (tailsF ts ps) = false := by
  unfold fineF at e
  simp only [Bool.and_eq_true, decide_eq_true_eq, Bool.not_eq_true', decide_eq_false_iff_not] at e
  exact ⟨e.1.1, by omega, e.2⟩
theorem step_good {lk ht rc : Int} {ts gs : List Int} {s : St} (hV : Valid lk ht rc ts gs) (hS : Good ht rc ts gs s) {x : Int} (hx : -2048 ≤ x ∧ x ≤ 2048) :
    Good ht rc ts gs (stF lk ht rc ts gs s x) ∧ (-2048 ≤ outF lk ht rc ts gs s x ∧ outF lk ht rc ts gs s x ≤ 2048) ∧ absI (exF ts s.ps (outF lk ht rc ts gs s x)) ≤ rc ∧ lvF lk ht rc ts gs s x ≤ s.lv + 1 := by
  have hk := stepK_lt (lvF_some hV hS x)
  obtain ⟨h1, h2, h3⟩ := fineF_true hk.2
  have hb : -2048 ≤ outF lk ht rc ts gs s x ∧ outF lk ht rc ts gs s x ≤ 2048 := byF_bd hx (hV.gb _)
  have hc := coolF_bd lk hS.h.1
  have hm : 0 ≤ outF lk ht rc ts gs s x * outF lk ht rc ts gs s x := by
    rcases Int.le_total 0 (outF lk ht rc ts gs s x) with h | h
    · exact Int.mul_nonneg h h
    · exact Int.mul_nonneg_of_nonpos_of_nonpos h h
  have hg := hV.gl
  exact ⟨⟨⟨by simp only [stF]; omega, h1⟩, by simp only [stF]; omega, by simp only [stF]; rw [pushL_len]; exact hS.pl, inB_push hS.pb hb, h3⟩, hb, h2, by omega⟩
end Go.Proofs.YtdeapbihbhoefaaGreatDoor

/- A new block in the head of a region walked by Rel3. -/
namespace Go.Proofs.YtdeapbihbhoefaaGreatDoor.Rel
open Go.RowKit
variable {P : Program} {DS : List Tmp} {w0 : World} {a0 : Act} {T : Ctx → Prop} {Γ : Ctx} {o : Oper} {rest : List Oper}
theorem alloc3 (t : TypeId) (cs : Array Value) (hg : GOK3 Γ o)
    (h : ∀ (a : Act) (W : World), (execOp a.eval o).run P W = .ok (.value (.pointer (some ⟨W.heap.size, 0, none⟩))) (W.alloc (.cells cs t)))
    (hn : walk3 P DS w0 a0 T (Γ ++ [(o.dst, New w0.heap.size cs)]) rest) : walk3 P DS w0 a0 T Γ (o :: rest) :=
  ⟨_, stable_new _ cs, hg, fun a W hb hd hbase K Q hK => by
    unfold Oper.wp
    rw [h a W]
    exact hK _ _ ⟨_, rfl, hb.size, Calm.Blk.new W t cs⟩ ((Below.refl _ _).alloc (Nat.le_refl _) _), hn⟩
/-- a new block, its type known. -/
def NewT (B : Nat) (t : TypeId) (cs : Array Value) : Know := fun u W => ∃ g, u = .pointer (some ⟨g, 0, none⟩) ∧ B ≤ g ∧ W.heap[g]? = some (.cells cs t (0, 0))
theorem stable_newT (B : Nat) (t : TypeId) (cs : Array Value) : Stable (NewT B t cs) := fun _ _ _ ⟨g, h1, h2, h3⟩ hb => ⟨g, h1, h2, (hb.block _ (Array.getElem?_eq_some_iff.1 h3).1).trans h3⟩
theorem allocT3 (t : TypeId) (cs : Array Value) (hg : GOK3 Γ o)
    (h : ∀ (a : Act) (W : World), (execOp a.eval o).run P W = .ok (.value (.pointer (some ⟨W.heap.size, 0, none⟩))) (W.alloc (.cells cs t)))
    (hn : walk3 P DS w0 a0 T (Γ ++ [(o.dst, NewT w0.heap.size t cs)]) rest) : walk3 P DS w0 a0 T Γ (o :: rest) :=
  ⟨_, stable_newT _ t cs, hg, fun a W hb hd hbase K Q hK => by
    unfold Oper.wp
    rw [h a W]
    exact hK _ _ ⟨_, rfl, hb.size, heap_alloc_new W _⟩ ((Below.refl _ _).alloc (Nat.le_refl _) _), hn⟩
/-- a slice built, its row's type known. -/
def NewST (B n c : Nat) (t : TypeId) (cs : Array Value) : Know := fun u W => ∃ g, u = .slice (some ⟨g, 0, none⟩) n c ∧ B ≤ g ∧ W.heap[g]? = some (.cells cs t (0, 0))
theorem stable_newST (B n c : Nat) (t : TypeId) (cs : Array Value) : Stable (NewST B n c t cs) := fun _ _ _ ⟨g, h1, h2, h3⟩ hb => ⟨g, h1, h2, (hb.block _ (Array.getElem?_eq_some_iff.1 h3).1).trans h3⟩
theorem buildT3 (t : TypeId) (n c : Nat) (cs : Array Value) (hg : GOK3 Γ o)
    (h : ∀ (a : Act) (W : World), Below w0.heap.size w0 W → deps Γ a W (ons o) → (∀ t, t ∉ DS → a.eval (.tmp t) = a0.eval (.tmp t)) → (execOp a.eval o).run P W = .ok (.value (.slice (some ⟨W.heap.size, 0, none⟩) n c)) (W.alloc (.cells cs t)))
    (hn : walk3 P DS w0 a0 T (Γ ++ [(o.dst, NewST w0.heap.size n c t cs)]) rest) : walk3 P DS w0 a0 T Γ (o :: rest) :=
  ⟨_, stable_newST _ n c t cs, hg, fun a W hb hd hbase K Q hK => by
    unfold Oper.wp
    rw [h a W hb hd hbase]
    exact hK _ _ ⟨_, rfl, hb.size, heap_alloc_new W _⟩ ((Below.refl _ _).alloc (Nat.le_refl _) _), hn⟩
end Go.Proofs.YtdeapbihbhoefaaGreatDoor.Rel

/- Contract of (Guard).rest: the state at rest. -/
namespace Go.Proofs.YtdeapbihbhoefaaGreatDoor
open Go.RowKit
open Calm (bcell Blk)

theorem getD_zeros (n k : Nat) : (List.replicate n (0 : Int)).getD k 0 = 0 := by
  rw [List.getD_eq_getElem?_getD, List.getElem?_replicate]
  split <;> rfl
theorem cells_zeros {w : World} {g n : Nat} (h : Blk w g (zerosA n).toArray) : Cells w (some ⟨g, 0, none⟩) (List.replicate n 0) := by
  intro h0
  refine ⟨g, 0, rfl, h.lt, fun k hk => ?_⟩
  rw [Nat.zero_add, h.c k, getD_zeros]
  simp at hk
  simp [zerosA, hk]
set_option maxHeartbeats 1000000 in
theorem rest_typed (lk ht rc : Int) (A1 A2 : Option Addr) (n1 c1 n2 c2 : Nat) (w : World) (h1 : 1 ≤ n1 ∧ n1 ≤ 1000000) (h2 : 1 ≤ n2 ∧ n2 ≤ 1000000) :
    Calls Tryz.prog 55 #[.agg #[(.int .i64 lk), (.int .i64 ht), .slice A1 n1 c1, (.int .i64 rc), .slice A2 n2 c2]] w fun r w' => (∃ B, w.heap.size ≤ B.block ∧ r = .returned (.agg #[(.int .i64 0), (.int .i64 (((n2 - 1 : Nat) : Int))), .slice (some B) (n1 - 1) (n1 - 1)]) ∧ Cells w' (some B) (List.replicate (n1 - 1) 0) ∧ IntRow w' B) ∧ Below w.heap.size w w' := by
  obtain ⟨a, rfl⟩ : ∃ a, n1 = a + 1 := ⟨n1 - 1, by omega⟩
  obtain ⟨b, rfl⟩ : ∃ b, n2 = b + 1 := ⟨n2 - 1, by omega⟩
  have hmk := mk_ints a (by omega)
  have e1 : ((a + 1 : Nat) : Int) - 1 = (a : Int) := by omega
  have e2 : ((b + 1 : Nat) : Int) - 1 = (b : Int) := by omega
  have E1 := Lib.hid e1
  have E2 := Lib.hid e2
  simp only [Nat.add_sub_cancel]
  obtain ⟨b1, b2⟩ := h1
  obtain ⟨b3, b4⟩ := h2
  clear e1 e2
  go_enter Tryz.func55, Tryz.ntmps55
  go_wp2
  refine Rel.region3 9 (by kernel_rfl) (by kernel_rfl) (by kernel_rfl) ?_
  simp only [List.take_succ_cons, List.take_zero, List.drop_succ_cons, List.drop_zero, List.filterMap_cons, List.filterMap_nil]
  iterate 8 (apply Rel.op3; (focus (first | exact Rel.gno rfl | exact Rel.gyes _ true _ rfl rfl rfl | exact Rel.gyes _ false _ rfl rfl rfl)); (focus (intro a W hb hd hbase; obtain ⟨hc, hf⟩ := bcell hb; clear hb hf; simp [Rel.deps, Rel.dep1, Rel.ons, Region.binds, Act.eval] at hd; simp only [Act.eval, List.mem_cons, List.not_mem_nil, not_or, and_imp, or_false, Array.getD_eq_getD_getElem?] at hbase; go_simp; (try go_bits); (try rfl); done)); (try simp only [List.nil_append, List.cons_append]))
  refine Rel.buildT3 3 a a (zerosA a).toArray (Rel.gno rfl) ?_ ?_
  · intro ac W hb hd hbase
    simp [Rel.deps, Rel.dep1, Rel.ons, Region.binds, Act.eval] at hd
    go_simp
  (try simp only [List.nil_append, List.cons_append])
  refine Rel.done3 ?_
  intro x w1 hb1 hx
  simp only [Rel.facts, Nat.zero_add, Nat.reduceAdd] at hx
  obtain ⟨e0, e1, e2, e3, e4, e5, e6, e7, ⟨g, e8, hg, hKR⟩, _⟩ := hx
  simp only [Rel.fill, Nat.zero_add, Nat.reduceAdd, e0, e1, e2, e3, e4, e5, e6, e7, e8]
  simp only [Act.put, List.setIfInBounds_toArray, List.set_cons_zero, List.set_cons_succ]
  clear e0 e1 e2 e3 e4 e5 e6 e7 e8 hmk
  have K2 : Blk w1 (w.heap.size + 1) #[(.int .i64 0), (.int .i64 0), .slice none 0 0] := Blk.below (by (repeat (first | ((with_reducible refine Blk.at_ ?_); focus (first | rfl | (simp; done) | (simp; omega))) | (with_reducible refine Blk.alloc ?_ _) | (with_reducible refine Blk.below ?_ (by with_reducible assumption)) | (with_reducible refine Blk.drew ?_)))) hb1
  have HB1 : Hid (Below w.heap.size w w1) := Lib.hid (Below.trans (by (repeat (first | (with_reducible exact Below.refl _ _) | ((with_reducible refine Below.setCell ?_ ?_ _); rotate_left 1; focus (first | (simp; done) | (simp; omega) | (simp at *; omega))) | ((with_reducible refine Below.alloc ?_ ?_ _); rotate_left 1; focus (first | (simp; done) | (simp; omega) | (simp at *; omega))) | (with_reducible refine Below.drew ?_) | ((with_reducible refine Calm.step (by assumption) ?_ ?_); rotate_left 1; focus (first | (simp; done) | (simp; omega) | (simp at *; omega)))))) (hb1.mono (by simp; omega)))
  have hK := Calm.Blk.row hKR
  have HC := Lib.hid (cells_zeros hK)
  have HI : Hid (IntRow w1 ⟨g, 0, none⟩) := Lib.hid ⟨_, hKR⟩
  clear hKR
  simp at hg
  have HK2 := Lib.hid K2
  obtain ⟨c0, c1', c2', l0, f0⟩ := K2.o3
  clear hb1 hK K2
  go_wp2
  have KR := HK2.out.set3 (.int .i64 0) (.int .i64 ((b : Int))) (.slice (some ⟨g, 0, none⟩) a a)
  obtain ⟨y0, y1, y2, yl, yf⟩ := KR.o3
  have q : 0 < (List.replicate a (0 : Int)).length → ∀ p, some (⟨g, 0, none⟩ : Addr) = some p → p.block ≠ w.heap.size + 1 := fun _ p hp => by cases hp; show g ≠ _; omega
  have q2 : (⟨g, 0, none⟩ : Addr).block ≠ w.heap.size + 1 := by show g ≠ _; omega
  clear c0 c1' c2' l0 f0 KR
  exact bodyPost_ret (v := .agg #[(.int .i64 0), (.int .i64 ((b : Int))), .slice (some ⟨g, 0, none⟩) a a]) (by simp [results, Tryz.results55, go_sem, y0, y1, y2]) rfl
    ⟨⟨⟨g, 0, none⟩, by show w.heap.size ≤ g; omega, rfl, ((HC.out.sets q _ _).sets q _ _).sets q _ _, ((HI.out.sets q2 _ _).sets q2 _ _).sets q2 _ _⟩, ((HB1.out.setCell (by simp) _).setCell (by simp) _).setCell (by simp) _⟩
theorem rest_any (lk ht rc : Int) (A1 A2 : Option Addr) (n1 c1 n2 c2 : Nat) (w : World) (h1 : 1 ≤ n1 ∧ n1 ≤ 1000000) (h2 : 1 ≤ n2 ∧ n2 ≤ 1000000) :
    Calls Tryz.prog 55 #[.agg #[(.int .i64 lk), (.int .i64 ht), .slice A1 n1 c1, (.int .i64 rc), .slice A2 n2 c2]] w fun r w' => (∃ B, w.heap.size ≤ B.block ∧ r = .returned (.agg #[(.int .i64 0), (.int .i64 (((n2 - 1 : Nat) : Int))), .slice (some B) (n1 - 1) (n1 - 1)]) ∧ Cells w' (some B) (List.replicate (n1 - 1) 0)) ∧ Below w.heap.size w w' :=
  (rest_typed lk ht rc A1 A2 n1 c1 n2 c2 w h1 h2).mono fun _ _ ⟨⟨B, p1, p2, p3, _⟩, p4⟩ => ⟨⟨B, p1, p2, p3⟩, p4⟩
end Go.Proofs.YtdeapbihbhoefaaGreatDoor

/- Worlds that turn in the row of one slice alone, which is as it was or as an append in place leaves it; an append in the head of a drawn region. No program. -/
namespace Go.Proofs.YtdeapbihbhoefaaGreatDoor
open Go.RowKit
open Calm (bcell Blk)
/-- all that lay is as it was, but some blocks, each of which is as it was or as T says. -/
structure Grw (T : Nat → Obj → Prop) (W W' : World) : Prop where
  os : W'.os = W.os
  tape : W'.tape = W.tape
  output : W'.output = W.output
  size : W.heap.size ≤ W'.heap.size
  block : ∀ k, k < W.heap.size → W'.heap[k]? = W.heap[k]? ∨ ∃ o, T k o ∧ W'.heap[k]? = some o
theorem Grw.refl {T : Nat → Obj → Prop} (W : World) : Grw T W W := ⟨rfl, rfl, rfl, Nat.le_refl _, fun _ _ => .inl rfl⟩
theorem Grw.trans {T : Nat → Obj → Prop} (a b c : World) (h : Grw T a b) (h' : Grw T b c) : Grw T a c := by
  refine ⟨h'.os.trans h.os, h'.tape.trans h.tape, h'.output.trans h.output, Nat.le_trans h.size h'.size, fun k hk => ?_⟩
  rcases h'.block k (Nat.lt_of_lt_of_le hk h.size) with e' | e'
  · rcases h.block k hk with e | ⟨o, e1, e2⟩
    · exact .inl (e'.trans e)
    · exact .inr ⟨o, e1, e'.trans e2⟩
  · exact .inr e'
theorem Grw.drawn {T : Nat → Obj → Prop} (W : World) : Grw T W { W with drawn := W.drawn + 1 } := ⟨rfl, rfl, rfl, Nat.le_refl _, fun _ _ => .inl rfl⟩
theorem Grw.of {T : Nat → Obj → Prop} {W W' : World} (h : Below W.heap.size W W') : Grw T W W' := ⟨h.os, h.tape, h.output, h.size, fun k hk => .inl (h.block k hk)⟩
theorem Grw.below {T : Nat → Obj → Prop} {B : Nat} {W W' : World} (h : Grw T W W') (hg : ∀ k o, T k o → B ≤ k) (hB : B ≤ W.heap.size) : Below B W W' :=
  ⟨h.os, h.tape, h.output, h.size, fun k hk => (h.block k (by omega)).elim id (fun ⟨o, e1, _⟩ => by have := hg k o e1; omega)⟩
theorem ownsRow_block {W W' : World} {base e size n : Nat} {v : Value} {xs : List Value} (h : W.ownsRow base e size v n xs) (hb : ∀ k, v.ownBlock = some k → W'.heap[k]? = W.heap[k]?) : W'.ownsRow base e size v n xs := by
  refine ⟨h.1, ?_⟩
  rcases h.2 with h2 | ⟨g, cap, cur, h1, h2, h3, h4⟩
  · exact .inl h2
  · exact .inr ⟨g, cap, cur, h1, h2, (hb g (by rw [h1]; rfl)).trans h3, h4⟩
/-- what an append leaves: a row, in the old block or in a new one. -/
def RowAt (base e : Nat) (g : Option Nat) (o1 : Obj) (B n : Nat) (ys : List Value) : Rel.Know := fun v W =>
  W.ownsRow base e 1 v n ys ∧ ((∃ k, g = some k ∧ v.ownBlock = some k ∧ W.heap[k]? = some o1) ∨ ∃ k, v.ownBlock = some k ∧ B ≤ k)
theorem RowAt.stable {T : Nat → Obj → Prop} {base e : Nat} {g : Option Nat} {o1 : Obj} {B n : Nat} {ys : List Value} (hT : ∀ k o, T k o → k < B) (hg : ∀ k o, g = some k → T k o → o = o1) (v : Value) (W W' : World)
    (h : RowAt base e g o1 B n ys v W) (hS : Grw T W W') : RowAt base e g o1 B n ys v W' := by
  obtain ⟨h, hv⟩ := h
  rcases hv with ⟨k, hk, h1, h2⟩ | ⟨k, h1, h2⟩
  · have e1 : W'.heap[k]? = some o1 := (hS.block k (h.lt k h1).2).elim (fun e => e.trans h2) (fun ⟨o, e1, e2⟩ => by rw [e2, hg k o hk e1])
    exact ⟨ownsRow_block h (fun j hj => by rw [h1] at hj; cases hj; exact e1.trans h2.symm), .inl ⟨k, hk, h1, e1⟩⟩
  · have e1 : W'.heap[k]? = W.heap[k]? := (hS.block k (h.lt k h1).2).elim id (fun ⟨o, e1, _⟩ => by have := hT k o e1; omega)
    exact ⟨ownsRow_block h (fun j hj => by rw [h1] at hj; cases hj; exact e1), .inr ⟨k, h1, h2⟩⟩
/-- One value appended, wherever the world has turned to along Grw. -/
theorem append_grw {P : Program} (base : Nat) (t ty e : TypeId) (i : TypeInfo) (z : Value) (bytes : Nat) (ht : P.underlying t = some (.slice e)) (hi : P.info? e = some i) (hz : i.zero = some z) (hsize : i.size = 1) (hby : i.bytes = bytes) (hzs : z.cells.size = 1)
    (u : Value) (n : Nat) (xs : List Value) (x : Value) (h1 : x.oneCell' = true) (W0 : World) (hown : W0.ownsRow base e 1 u n xs) (hb : base ≤ W0.heap.size) (h63 : n + 1 ≤ maxLen) (hbytes : (n + 1) * bytes ≤ 140737488355328) :
    ∃ (g : Option Nat) (o1 : Obj), (∀ k, g = some k → u.ownBlock = some k ∧ base ≤ k ∧ k < W0.heap.size) ∧
      ∀ T : Nat → Obj → Prop, (∀ k, u.ownBlock = some k → ∀ o, T k o ↔ g = some k ∧ o = o1) →
      ∀ W, Grw T W0 W → ∀ b c, W.cell? ⟨b, 0, none⟩ = some x → ∃ v' W', (Builtin.append_ #[t, t] ty #[u, .slice (some ⟨b, 0, none⟩) 1 c]).run P W = .ok v' W' ∧ RowAt base e g o1 W0.heap.size (n + 1) (xs ++ [x]) v' W' ∧ Grw T W W' ∧ ((g ≠ none ∧ v'.ownBlock = g) ∨ v'.ownBlock = some W.heap.size) := by
  have hadd : ∀ {W : World} {b : Nat}, W.cell? ⟨b, 0, none⟩ = some x → ∀ j v, [x][j]? = some v → W.cell? ((⟨b, 0, none⟩ : Addr).add j) = some v := by
    intro W b hx j v hj
    match j, hj with
    | 0, hj => simp at hj; subst hj; simpa [Addr.add] using hx
  have hone : ∀ v ∈ [x], v.oneCell' = true := fun v hv => by simp at hv; subst hv; exact h1
  have hbb : ∀ {W : World}, W0.heap.size ≤ W.heap.size → base ≤ W.heap.size := fun h => by omega
  have fin : ∀ {W : World} {b c : Nat}, W0.heap.size ≤ W.heap.size → W.cell? ⟨b, 0, none⟩ = some x → W.ownsRow base e 1 u n xs →
      ∃ v' W', (Builtin.append_ #[t, t] ty #[u, .slice (some ⟨b, 0, none⟩) 1 c]).run P W = .ok v' W' ∧ W'.ownsRow base e 1 v' (n + 1) (xs ++ [x]) ∧ W.grownBy W' u.ownBlock ∧ (v'.ownBlock = u.ownBlock ∨ v'.ownBlock = some W.heap.size) := by
    intro W b c hs hx ho
    obtain ⟨v', W', r1, r2, r3, _, r5⟩ := run_append_own_at (P := P) W base t ty e i z 1 bytes ht hi hz hsize hby hzs (by decide) u n xs ho ⟨b, 0, none⟩ 1 c [x] rfl (hadd hx) hone h63 hbytes (hbb hs)
    exact ⟨v', W', r1, r2, r3, r5⟩
  rcases hown.2 with ⟨hu, hn0⟩ | ⟨g, cap, cur, hu, hbg, hg, hnc, hcm, hcs, htake⟩
  · refine ⟨none, .cells #[] e (0, 0), (fun k hk => by cases hk), fun T hT W hS b c hx => ?_⟩
    obtain ⟨v', W', r1, r2, r3, r5⟩ := fin (c := c) hS.size hx ⟨hown.1, .inl ⟨hu, hn0⟩⟩
    have hun : u.ownBlock = none := by rw [hu]; rfl
    rw [hun] at r3 r5
    have r6 : v'.ownBlock = some W.heap.size := by
      rcases r5 with r5 | r5
      · exfalso
        rcases r2.2 with ⟨_, q⟩ | ⟨g', _, _, q, _⟩
        · omega
        · rw [q] at r5; cases r5
      · exact r5
    exact ⟨v', W', r1, ⟨r2, .inr ⟨_, r6, hS.size⟩⟩, ⟨r3.os, r3.tape, r3.output, r3.size, fun k hk => .inl (r3.block k hk (by simp))⟩, .inr r6⟩
  · have hgl : g < W0.heap.size := (Array.getElem?_eq_some_iff.1 hg).1
    have hun : u.ownBlock = some g := by rw [hu]; rfl
    by_cases hroom : n + 1 ≤ cap
    · refine ⟨some g, .cells (cur.toList.take n ++ [x] ++ cur.toList.drop (n + 1)).toArray e (0, 0), (fun k hk => by cases hk; exact ⟨hun, hbg, hgl⟩), fun T hT W hS b c hx => ?_⟩
      have hlen : (cur.toList.take n).length = n := by simp; omega
      obtain ⟨cur', hg', hs', ht', hd'⟩ : ∃ cur' : Array Value, W.heap[g]? = some (.cells cur' e (0, 0)) ∧ cur'.size = cur.size ∧ cur'.toList.take n = cur.toList.take n ∧ cur'.toList.drop (n + 1) = cur.toList.drop (n + 1) := by
        rcases hS.block g hgl with e1 | ⟨oo, e0, e1⟩
        · exact ⟨cur, e1.trans hg, rfl, rfl, rfl⟩
        · rw [((hT g hun oo).1 e0).2] at e1
          refine ⟨_, e1, ?_, ?_, ?_⟩
          · simp; omega
          · simp only [List.append_assoc]
            exact List.take_left' hlen
          · simp only []
            exact List.drop_left' (by simp; omega)
      have hrun := run_append_room (P := P) W t ty e i ht hi g n cap cur' hg' ⟨b, 0, none⟩ 1 c [x] (by rw [hsize]; rfl) (hadd hx) hone hroom (by rw [hsize, hs', hcs]; simp; omega)
      rw [hsize, Nat.mul_one, ht', show n + [x].length = n + 1 from rfl, hd'] at hrun
      have hh := setRow_heap W g cur' (cur.toList.take n ++ [x] ++ cur.toList.drop (n + 1)).toArray e (0, 0) hg'
      refine ⟨.slice (some ⟨g, 0, none⟩) (n + 1) cap, _, by rw [hu]; exact hrun, ⟨⟨by simp [hown.1], .inr ⟨g, cap, _, rfl, hbg, hh, hroom, hcm, ?_, ?_⟩⟩, .inl ⟨g, rfl, rfl, hh⟩⟩, ⟨rfl, rfl, rfl, by simp, fun k _ => ?_⟩, .inl ⟨by simp, rfl⟩⟩
      · simp; omega
      · have hx' : cur.toList.take n = xs := by simpa using htake
        simp only [Nat.mul_one]
        rw [hx']
        exact List.take_left' (by simp [hown.1])
      · by_cases hk : k = g
        · subst hk; exact .inr ⟨_, (hT k hun _).2 ⟨rfl, rfl⟩, hh⟩
        · exact .inl (setRow_other W g k _ hk)
    · refine ⟨none, .cells #[] e (0, 0), (fun k hk => by cases hk), fun T hT W hS b c hx => ?_⟩
      have hsame : ∀ k, u.ownBlock = some k → W.heap[k]? = W0.heap[k]? := fun k hk => (hS.block k (hown.lt k hk).2).elim id (fun ⟨o, e1, _⟩ => by cases ((hT k hk o).1 e1).1)
      have ho : W.ownsRow base e 1 u n xs := ownsRow_block hown hsame
      obtain ⟨v', W', r1, r2, r3, r5⟩ := fin (c := c) hS.size hx ho
      have hcell : ∀ j v, xs[j]? = some v → W.cell? ((⟨g, 0, none⟩ : Addr).add j) = some v := ho.cells (g := g) (by rw [hun])
      have hgr := run_append_grow (P := P) W t ty e i z ht hi hz ⟨g, 0, none⟩ n cap xs (by rw [hown.1, hsize]) hcell ⟨b, 0, none⟩ 1 c [x] (by rw [hsize]; rfl) (hadd hx) (by omega) (by simp only [maxLen] at h63; omega) (growslice_fits (by omega) (by rw [hby]; exact hbytes))
      rw [← hu, r1] at hgr
      injection hgr with q1 q2
      have hW : ∀ k, k < W.heap.size → W'.heap[k]? = W.heap[k]? := fun k hk => by rw [q2]; exact Below.heap_alloc _ _ _ hk
      exact ⟨v', W', r1, ⟨r2, .inr ⟨W.heap.size, by rw [q1]; rfl, hS.size⟩⟩, ⟨r3.os, r3.tape, r3.output, r3.size, fun k hk => .inl (hW k hk)⟩, .inr (by rw [q1]; rfl)⟩
end Go.Proofs.YtdeapbihbhoefaaGreatDoor
