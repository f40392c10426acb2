/- Part 4 of the texts of the claim: P4, P13, P14, P15, P5. -/
import Derived.Test.YtdeapbihbhoefaaGreatDoorMt3
import Derived.Laws.AppendOwn

/- Contract of (Guard).tails: the excursions that come without further outputs. -/
namespace Go.Proofs.YtdeapbihbhoefaaGreatDoor
open Go.RowKit
open Calm (bcell Blk)

/-- the last outputs behind k outputs 0. -/
def psK (ps : List Int) : Nat → List Int
  | 0 => ps
  | k + 1 => pushL (psK ps k) 0
theorem psK_len (ps : List Int) : ∀ k, (psK ps k).length = ps.length
  | 0 => rfl
  | k + 1 => (pushL_len _ _).trans (psK_len ps k)
theorem psK_in {b : Int} {ps : List Int} (h : inB b ps) (hb : 0 ≤ b) : ∀ k, inB b (psK ps k)
  | 0 => h
  | k + 1 => inB_push (psK_in h hb k) ⟨by omega, hb⟩
/-- the tails of a state. -/
def tailsL (ts ps : List Int) (n : Nat) : List Int := (List.range n).map fun k => exF ts (psK ps k) 0
def tailsF (ts ps : List Int) : List Int := tailsL ts ps ps.length
theorem tailsL_len (ts ps : List Int) (n : Nat) : (tailsL ts ps n).length = n := by simp [tailsL]
theorem tailsL_succ (ts ps : List Int) (n : Nat) : tailsL ts ps (n + 1) = tailsL ts ps n ++ [exF ts (psK ps n) 0] := by simp [tailsL, List.range_succ]
theorem Cells.sets {w : World} {A : Option Addr} {zs : List Int} (h : Cells w A zs) {g : Nat} (hg : 0 < zs.length → ∀ p, A = some p → p.block ≠ g) (i : Nat) (v : Value) : Cells (w.setCell ⟨g, i, none⟩ v) A zs := by
  intro h0
  obtain ⟨b, off, hA, hl, hc⟩ := h h0
  have hne : b ≠ g := hg h0 _ hA
  exact ⟨b, off, hA, by simpa using hl, fun k hk => (World.cell?_setCell_other _ _ _ _ (by intro e; cases e; exact hne rfl)).trans (hc k hk)⟩
theorem own_ints {W : World} {base n : Nat} {e : TypeId} {v : Value} {zs : List Int} (h : W.ownsRow base e 1 v n (zs.map (Value.int .i64))) (hn : n = zs.length) : ∃ A c, v = .slice A n c ∧ (∀ p, A = some p → base ≤ p.block) ∧ Cells W A zs := by
  rcases h.2 with ⟨h1, h2⟩ | ⟨g, cap, cur, h1, h2, h3, h4, h5, h6, h7⟩
  · exact ⟨none, 0, by rw [h1, h2], by simp, fun h0 => by omega⟩
  · refine ⟨some ⟨g, 0, none⟩, cap, h1, by rintro p ⟨⟩; exact h2, fun h0 => ⟨g, 0, rfl, (Array.getElem?_eq_some_iff.1 h3).1, fun k hk => ?_⟩⟩
    have hj : (zs.map (Value.int .i64))[k]? = some (.int .i64 (zs.getD k 0)) := by simp [hk, List.getD_eq_getElem?_getD]
    rw [Nat.zero_add, cell_of_row W g k cur _ _ h3]
    rw [← h7, List.getElem?_take] at hj
    split at hj
    · rw [← hj]; simp
    · cases hj

set_option maxHeartbeats 2000000 in
set_option maxRecDepth 100000 in
theorem tails_any (lk ht rc h lv : Int) (ts ps : List Int) (A1 A2 A3 : Option Addr) (c1 n2 c2 c3 : Nat) (w : World) (hlk : 1 ≤ lk ∧ lk ≤ 8) (hh : 0 ≤ h ∧ h ≤ 1099511627776) (hT : Cells w A1 ts) (hP : Cells w A3 ps)
    (hn : ts.length = ps.length + 1) (hn2 : ps.length ≤ 7) (bT : inB 64 ts) (bP : inB 2048 ps) :
    Calls Tryz.prog 54 #[.agg #[(.int .i64 lk), (.int .i64 ht), .slice A1 ts.length c1, (.int .i64 rc), .slice A2 n2 c2], .agg #[(.int .i64 h), (.int .i64 lv), .slice A3 ps.length c3]] w fun r w' => (∃ B c, r = .returned (.slice B ps.length c) ∧ (∀ p, B = some p → w.heap.size ≤ p.block) ∧ Cells w' B (tailsF ts ps)) ∧ Below w.heap.size w w' := by
  obtain ⟨i0, hi, hz0, hz1, hz2⟩ := info_parts Tryz.infoI
  have HT := Lib.hid hT
  have HBT := Lib.hid bT
  have HBP := Lib.hid (psK_in bP (by omega))
  have HH := Lib.hid hn
  obtain ⟨M, hM⟩ : ∃ M, M = ts.length := ⟨_, rfl⟩
  obtain ⟨N, hN⟩ : ∃ N, N = ps.length := ⟨_, rfl⟩
  have HM := Lib.hid hM
  have HN := Lib.hid hN
  have HX : ∀ (W : World) (A : Option Addr) (c : Nat) (k : Nat) (h' : Int), Cells W A1 ts → Cells W A (psK ps k) → 0 ≤ h' → h' ≤ 1099511627776 → Calls Tryz.prog 52 #[.agg #[(.int .i64 lk), (.int .i64 ht), .slice A1 M c1, (.int .i64 rc), .slice A2 n2 c2], .agg #[(.int .i64 h'), (.int .i64 lv), .slice A N c], (.int .i64 0)] W fun r w' => (∃ B, W.heap.size ≤ B.block ∧ r = .returned (.tuple #[.agg #[(.int .i64 (coolF lk h' + 0 * 0)), (.int .i64 lv), .slice (some B) N N], (.int .i64 (exF ts (psK ps k) 0))]) ∧ Cells w' (some B) (psK ps (k + 1))) ∧ Below W.heap.size W w' := by
    intro W A c k h' q1 q2 q3 q4
    have e := psK_len ps k
    have := behind_any lk ht rc h' lv 0 ts (psK ps k) A1 A2 A c1 n2 c2 c W hlk ⟨q3, q4⟩ q1 q2 (by omega) (by omega) bT (HBP.out k) (by omega)
    rw [e, ← hM, ← hN] at this
    exact this
  have HXX := Lib.hid HX
  have HPP := Lib.hid hP
  rw [← hN] at hn2 ⊢
  rw [← hM]
  obtain ⟨a1, a2⟩ := hlk
  obtain ⟨a3, a4⟩ := hh
  clear HX hM hN hn hT hP bT bP
  go_enter Tryz.func54, Tryz.ntmps54
  go_wp2
  go_loopw [5, 11] (fun v i wr => ∃ (k : Nat) (A : Option Addr) (c : Nat) (h' : Int), k ≤ N ∧ i = (.int .i64 k) ∧ 0 ≤ h' ∧ h' ≤ 1099511627776 ∧ (0 < N → ∀ p, A = some p → p.block ≠ w.heap.size + 1) ∧ Cells wr A (psK ps k) ∧
      wr.ownsRow (w.heap.size + 1 + 1) 3 1 v (tailsL ts ps k).length ((tailsL ts ps k).map (Value.int .i64)) ∧ Blk wr w.heap.size #[(.int .i64 lk), (.int .i64 ht), .slice A1 M c1, (.int .i64 rc), .slice A2 n2 c2] ∧ Blk wr (w.heap.size + 1) #[(.int .i64 h'), (.int .i64 lv), .slice A N c] ∧ Below w.heap.size w wr) (fun _ i _ => N - (intOf i).toNat)
  case atStart =>
    refine ⟨0, A3, c3, h, Nat.zero_le _, rfl, a3, a4, fun h0 p hp => ?_, HPP.out.below (by (repeat (first | (with_reducible exact Below.refl _ _) | ((with_reducible refine Below.setCell ?_ ?_ _); rotate_left 1; focus (first | (simp; done) | (simp; omega) | (simp at *; omega))) | ((with_reducible refine Below.alloc ?_ ?_ _); rotate_left 1; focus (first | (simp; done) | (simp; omega) | (simp at *; omega))) | (with_reducible refine Below.drew ?_) | ((with_reducible refine Calm.step (by assumption) ?_ ?_); rotate_left 1; focus (first | (simp; done) | (simp; omega) | (simp at *; omega)))))), World.ownsRow_nil _ _ _ _, by (repeat (first | ((with_reducible refine Blk.at_ ?_); focus (first | rfl | (simp; done) | (simp; omega))) | (with_reducible refine Blk.alloc ?_ _) | (with_reducible refine Blk.below ?_ (by with_reducible assumption)) | (with_reducible refine Blk.drew ?_))), by (repeat (first | ((with_reducible refine Blk.at_ ?_); focus (first | rfl | (simp; done) | (simp; omega))) | (with_reducible refine Blk.alloc ?_ _) | (with_reducible refine Blk.below ?_ (by with_reducible assumption)) | (with_reducible refine Blk.drew ?_))), by (repeat (first | (with_reducible exact Below.refl _ _) | ((with_reducible refine Below.setCell ?_ ?_ _); rotate_left 1; focus (first | (simp; done) | (simp; omega) | (simp at *; omega))) | ((with_reducible refine Below.alloc ?_ ?_ _); rotate_left 1; focus (first | (simp; done) | (simp; omega) | (simp at *; omega))) | (with_reducible refine Below.drew ?_) | ((with_reducible refine Calm.step (by assumption) ?_ ?_); rotate_left 1; focus (first | (simp; done) | (simp; omega) | (simp at *; omega)))))⟩
    obtain ⟨b, off, rfl, hl, _⟩ := HPP.out (by rw [← HN.out]; exact h0)
    cases hp
    show b ≠ _
    omega
  case round =>
    obtain ⟨k, A, c, h', hk, rfl, q1, q2, q3, q4, hown, K0, K1, hB⟩ := hrel
    have HO := Lib.hid hown
    have HA := Lib.hid q4
    have HB := Lib.hid hB
    have hTL := tailsL_len ts ps k
    have HTL := Lib.hid hTL
    clear hown q4 hTL
    by_cases hlt : k < N
    · have hTr := Lib.hid (HT.out.below HB.out)
      have q5 := coolF_bd lk q1
      have HS := Lib.hid (tailsL_succ ts ps k)
      obtain ⟨X, hX⟩ : ∃ X, X = exF ts (psK ps k) 0 := ⟨_, rfl⟩
      have HXE := Lib.hid hX
      have hsz := hB.size
      obtain ⟨c00, c01, c02, c03, c04, l0, f0⟩ := K0.o5
      obtain ⟨c10, c11, c12, l10, f1⟩ := K1.o3
      have hw1 := Lib.hid l10
      have HK0 := Lib.hid K0
      have HK1 := Lib.hid K1
      clear hX hB K0 K1
      go_wp2_with (first
        | (go_at_call 52; refine (HXX.out _ A c k h' hTr.out HA.out q1 q2).mono ?_; rw [← HXE.out]; rintro r w1 ⟨⟨B, hBb, rfl, hC1⟩, hb1⟩; have hO1 := Lib.hid (ownsRow_below HO.out hb1); have hs1 := hb1.size; have HC1 := Lib.hid hC1; have HB1 := Lib.hid hb1; clear hC1 hb1)
        | (at_builtin; refine wpList_append_own _ rfl _ _ 22 rfl (w.heap.size + 1 + 1) 3 i0 (.int .i64 0) 1 8 Tryz.underlying22 hi hz0 hz1 hz2 rfl (by decide) _ _ _ rfl ((hO1.out.alloc _).alloc _) ⟨w1.heap.size + 1, 0, none⟩ 1 1 [.int .i64 X] rfl rfl ?c1 ?c2 ?c3 ?c4 ?c5 ?_))
      case c1 =>
        intro j u hj
        match j, hj with
        | 0, hj => simp at hj; subst hj; simp [Addr.add]
      case c2 => intro u hu; simp at hu; subst hu; rfl
      case c3 => have := HTL.out; unfold maxLen; omega
      case c4 => have := HTL.out; omega
      case c5 => simp; omega
      intro v' w2 hown' hgrow _
      have hrow : ∀ j, Value.ownBlock _ = some j → w.heap.size + 1 + 1 ≤ j ∧ j < wr.heap.size := HO.out.lt
      have HO2 := Lib.hid hown'
      have K0 : Blk w2 w.heap.size #[(.int .i64 lk), (.int .i64 ht), .slice A1 M c1, (.int .i64 rc), .slice A2 n2 c2] := grown_blk (((HK0.out.below HB1.out).alloc _).alloc _) hgrow (fun j hj => by have := hrow j hj; omega)
      have K1 : Blk w2 (w.heap.size + 1) #[(.int .i64 h'), (.int .i64 lv), .slice A N c] := grown_blk (((HK1.out.below HB1.out).alloc _).alloc _) hgrow (fun j hj => by have := hrow j hj; omega)
      have KN : Blk w2 w1.heap.size #[(.int .i64 (coolF lk h')), (.int .i64 lv), .slice (some B) N N] := grown_blk ((Blk.new w1 _ _).alloc _) hgrow (fun j hj => by have := hrow j hj; omega)
      have HC2 := Lib.hid (grown_cells (HC1.out.below (((Below.refl _ _).alloc (Nat.le_refl _) _).alloc (by simp) _)) hgrow (fun j hj p hp => by cases hp; have := hrow j hj; omega))
      have HB2 : Hid (Below w.heap.size w w2) := Lib.hid ((((HB.out.trans (HB1.out.mono hsz)).alloc (by omega) _).alloc (by simp; omega) _).grown hgrow (by simp; omega) (fun j hj => by have := hrow j hj; omega))
      have hs2 := hgrow.size
      simp only [World.size_alloc] at hs2
      clear hown' hgrow hrow HB1 HB HO hO1 HC1 HK0
      obtain ⟨d00, d01, d02, d03, d04, m0, g0⟩ := K0.o5
      obtain ⟨d10, d11, d12, m1, g1⟩ := K1.o3
      obtain ⟨d20, d21, d22, m2, g2⟩ := KN.o3
      have HK0 := Lib.hid K0
      have HK1 := Lib.hid K1
      clear K0 K1 KN c00 c01 c02 c03 c04 l0 f0 c10 c11 c12 l10 f1
      go_wp2
      go_roundw
      case rel =>
        have hBw : ∀ p : Addr, some B = some p → p.block ≠ w.heap.size + 1 := fun p hp => by cases hp; have := hw1.out; omega
        have e1 : (tailsL ts ps (k + 1)).length = (tailsL ts ps k).length + 1 := by rw [tailsL_len, tailsL_len]
        have e2 : (tailsL ts ps (k + 1)).map (Value.int .i64) = (tailsL ts ps k).map (Value.int .i64) ++ [(.int .i64 X)] := by rw [HS.out, List.map_append, HXE.out]; rfl
        exact ⟨k + 1, some B, N, coolF lk h', by omega, by go_num, q5.1, by omega, fun _ => hBw, ((HC2.out.sets (fun _ => hBw) _ _).sets (fun _ => hBw) _ _).sets (fun _ => hBw) _ _,
          by rw [e1, e2]; exact ownsRow_setCell_below (ownsRow_setCell_below (ownsRow_setCell_below HO2.out (by simp) _) (by simp) _) (by simp) _,
          ((HK0.out.far (by simp) _).far (by simp) _).far (by simp) _, HK1.out.set3 _ _ _, ((HB2.out.setCell (by simp) _).setCell (by simp) _).setCell (by simp) _⟩
      case measure => simp [intOf]; omega
    · obtain rfl : k = N := by omega
      obtain ⟨B, cc, rfl, hbb, hr⟩ := own_ints HO.out rfl
      have e3 : (tailsL ts ps k).length = k := HTL.out
      have HR : Hid (Cells wr B (tailsF ts ps)) := Lib.hid (by unfold tailsF; rw [← HN.out]; exact hr)
      have HBB := Lib.hid hbb
      rw [e3]
      clear hr hbb e3
      go_wp2
      go_ret
      exact ⟨⟨B, cc, rfl, fun p hp => by have := HBB.out p hp; omega, HR.out⟩, HB.out⟩
end Go.Proofs.YtdeapbihbhoefaaGreatDoor

/- Contracts of mapped at each's function, of each and of some. -/
namespace Go.Proofs.YtdeapbihbhoefaaGreatDoor
open Go.RowKit
open Calm (bcell Blk)

theorem Tryz.infoE : (Tryz.prog.info? 27).map (fun i => (i.zero, i.size, i.bytes)) = some (some (.int .i64 0), 1, 8) := by kernel_rfl
theorem each1_any (n lo hi : Int) (b1 b2 : Nat) (w : World) (h1 : w.cell? ⟨b1, 0, none⟩ = some (.int .i64 lo)) (h2 : w.cell? ⟨b2, 0, none⟩ = some (.int .i64 hi)) :
    Calls Tryz.prog 84 #[(.int .i64 n), .pointer (some ⟨b1, 0, none⟩), .pointer (some ⟨b2, 0, none⟩)] w fun r w' => r = .returned (.int .i64 (rangeErr n lo hi)) ∧ w = w' := by
  go_enter Tryz.func84, Tryz.ntmps84
  go_wp2_with (go_at_call 66; refine (within_any _ _ _ _).mono ?_; rintro r w1 ⟨rfl, rfl⟩)
  go_ret
  exact ⟨rfl, rfl⟩
def errsK (l : List Int) (lo hi : Int) (k : Nat) : List Int := (l.take k).map fun n => rangeErr n lo hi
theorem errsK_len {l : List Int} {lo hi : Int} {k : Nat} (hk : k ≤ l.length) : (errsK l lo hi k).length = k := by simp [errsK]; omega
theorem errsK_succ {l : List Int} {lo hi : Int} {k : Nat} (hk : k < l.length) : errsK l lo hi (k + 1) = errsK l lo hi k ++ [rangeErr (l.getD k 0) lo hi] := by
  unfold errsK
  rw [List.take_succ_eq_append_getElem hk, List.map_append, List.getD_eq_getElem?_getD, List.getElem?_eq_getElem hk]
  rfl
theorem errsK_all (l : List Int) (lo hi : Int) : errsK l lo hi l.length = l.map fun n => rangeErr n lo hi := by simp [errsK]
set_option maxHeartbeats 1000000 in
theorem mappedE_any (A : Option Addr) (l : List Int) (c : Nat) (lo hi : Int) (b1 b2 : Nat) (w : World) (hC : Cells w A l) (hn : l.length ≤ 5000) (g1 : b1 < w.heap.size) (g2 : b2 < w.heap.size) (h1 : w.cell? ⟨b1, 0, none⟩ = some (.int .i64 lo)) (h2 : w.cell? ⟨b2, 0, none⟩ = some (.int .i64 hi)) :
    Calls Tryz.prog 83 #[.slice A l.length c, .func (.func 84) #[] #[.pointer (some ⟨b1, 0, none⟩), .pointer (some ⟨b2, 0, none⟩)]] w fun r w' =>
      (∃ B d, r = .returned (.slice B l.length d) ∧ Cells w' B (l.map fun n => rangeErr n lo hi)) ∧ Below w.heap.size w w' := by
  obtain ⟨i0, hii, hz0, hz1, hz2⟩ := info_parts Tryz.infoE
  have HC := Lib.hid hC
  obtain ⟨N, hN⟩ : ∃ N, N = l.length := ⟨_, rfl⟩
  have HN := Lib.hid hN
  have HL : Hid (∀ k, k ≤ N → (errsK l lo hi k).length = k) := Lib.hid (fun k hk => errsK_len (by rw [← hN]; exact hk))
  rw [← hN] at hn ⊢
  clear hN hC
  go_enter Tryz.func83, Tryz.ntmps83
  go_wp2
  go_loopw [5, 10] (fun v i wr => ∃ k : Nat, k ≤ N ∧ i = (.int .i64 ((k : Int))) ∧ wr.ownsRow w.heap.size 27 1 v (errsK l lo hi k).length ((errsK l lo hi k).map (Value.int .i64)) ∧ Below w.heap.size w wr) (fun _ i _ => N - (intOf i).toNat)
  case atStart => exact ⟨0, Nat.zero_le _, rfl, World.ownsRow_nil _ _ _ _, Below.refl _ _⟩
  case round =>
    obtain ⟨k, hk, rfl, hown, hB⟩ := hrel
    have HO := Lib.hid hown
    have hle := Lib.hid (HL.out k hk)
    have hsz := hB.size
    clear hown
    by_cases hlt : k < N
    · obtain ⟨b, o, rfl, l1, k1⟩ := HC.out (by rw [← HN.out]; omega)
      have x1 := (hB.cell (p := ⟨b, o + k, none⟩) l1).trans (k1 k (by rw [← HN.out]; exact hlt))
      have y1 := (hB.cell (p := ⟨b1, 0, none⟩) g1).trans h1
      have y2 := (hB.cell (p := ⟨b2, 0, none⟩) g2).trans h2
      have HS := Lib.hid (errsK_succ (lo := lo) (hi := hi) (show k < l.length by rw [← HN.out]; exact hlt))
      obtain ⟨x, hx⟩ : ∃ x, x = l.getD k 0 := ⟨_, rfl⟩
      rw [← hx] at x1 HS
      clear k1 hx
      go_wp2_with (first
        | (go_at_call 84; refine (each1_any x lo hi b1 b2 _ y1 y2).mono ?_; rintro r w2 ⟨rfl, rfl⟩)
        | (at_builtin; refine wpList_append_own _ rfl _ _ 127 rfl w.heap.size 27 i0 (.int .i64 0) 1 8 Tryz.underlying127 hii hz0 hz1 hz2 rfl (by decide) _ _ _ rfl (HO.out.alloc _) ⟨wr.heap.size, 0, none⟩ 1 1 [.int .i64 (rangeErr x lo hi)] rfl rfl ?c1 ?c2 ?c3 ?c4 ?c5 ?_))
      case c1 =>
        intro j u hj
        match j, hj with
        | 0, hj => simp at hj; subst hj; simp [Addr.add]
      case c2 => intro u hu; simp at hu; subst hu; rfl
      case c3 => have := hle.out; unfold maxLen; omega
      case c4 => have := hle.out; omega
      case c5 => simp; omega
      intro v' w1 hown' hgrow _
      have hB' : Below w.heap.size w w1 := (hB.alloc hsz _).grown hgrow (by simp; omega) (fun j hj => (HO.out.lt j hj).1)
      have HO' := Lib.hid hown'
      clear hgrow hown'
      go_wp2
      go_roundw
      case rel => exact ⟨k + 1, by omega, by go_num, by rw [HS.out]; simpa using HO'.out, hB'⟩
      case measure => simp [intOf]; omega
    · obtain rfl : k = N := by omega
      have hown := HO.out
      have e : errsK l lo hi k = l.map fun n => rangeErr n lo hi := by rw [HN.out]; exact errsK_all _ _ _
      rw [hle.out, e] at hown
      obtain ⟨B, d, rfl, _, hr⟩ := own_ints hown (by simp [← HN.out])
      have HR := Lib.hid hr
      clear hown e hr
      go_wp2
      go_ret
      exact ⟨⟨B, d, rfl, HR.out⟩, hB⟩
/-- the error of a list's numbers. -/
def eachErr (l : List Int) (lo hi : Int) : Int := firstOf (l.map fun n => rangeErr n lo hi)
theorem each_any (A : Option Addr) (l : List Int) (c : Nat) (lo hi : Int) (w : World) (hC : Cells w A l) (hn : l.length ≤ 5000) :
    Calls Tryz.prog 71 #[.slice A l.length c, (.int .i64 lo), (.int .i64 hi)] w fun r w' => r = .returned (.int .i64 (eachErr l lo hi)) ∧ Below w.heap.size w w' := by
  have HC := Lib.hid hC
  have HM : Hid (∀ W b1 b2, Cells W A l → b1 < W.heap.size → b2 < W.heap.size → W.cell? ⟨b1, 0, none⟩ = some (.int .i64 lo) → W.cell? ⟨b2, 0, none⟩ = some (.int .i64 hi) → Calls Tryz.prog 83 #[.slice A l.length c, .func (.func 84) #[] #[.pointer (some ⟨b1, 0, none⟩), .pointer (some ⟨b2, 0, none⟩)]] W fun r w' =>
      (∃ B d, r = .returned (.slice B l.length d) ∧ Cells w' B (l.map fun n => rangeErr n lo hi)) ∧ Below W.heap.size W w') := Lib.hid (fun W b1 b2 q1 q2 q3 q4 q5 => mappedE_any A l c lo hi b1 b2 W q1 hn q2 q3 q4 q5)
  have HF : Hid (∀ W B d, Cells W B (l.map fun n => rangeErr n lo hi) → Calls Tryz.prog 49 #[.slice B l.length d] W fun r w' => r = .returned (.int .i64 (eachErr l lo hi)) ∧ W = w') := Lib.hid (fun W B d q => by
    have e : l.length = (l.map fun n => rangeErr n lo hi).length := by simp
    rw [e]; exact first_any _ B d W (by simpa using hn) q)
  generalize l.length = N at *
  clear hC hn
  go_enter Tryz.func71, Tryz.ntmps71
  go_wp2_with (first
    | (go_at_call 83; refine (HM.out _ _ _ (HC.out.below (by (repeat (first | (with_reducible exact Below.refl _ _) | ((with_reducible refine Below.setCell ?_ ?_ _); rotate_left 1; focus (first | (simp; done) | (simp; omega) | (simp at *; omega))) | ((with_reducible refine Below.alloc ?_ ?_ _); rotate_left 1; focus (first | (simp; done) | (simp; omega) | (simp at *; omega))) | (with_reducible refine Below.drew ?_) | ((with_reducible refine Calm.step (by assumption) ?_ ?_); rotate_left 1; focus (first | (simp; done) | (simp; omega) | (simp at *; omega))))))) (by simp; omega) (by simp) (by simp) (by simp)).mono ?_; rintro r w1 ⟨⟨B, d, rfl, hC1⟩, hb1⟩; have HC1 := Lib.hid hC1; have HB1 := Lib.hid hb1; clear hC1 hb1)
    | (go_at_call 49; refine (HF.out _ _ _ HC1.out).mono ?_; rintro r w2 ⟨rfl, rfl⟩))
  go_ret
  exact ⟨rfl, Below.trans (by (repeat (first | (with_reducible exact Below.refl _ _) | ((with_reducible refine Below.setCell ?_ ?_ _); rotate_left 1; focus (first | (simp; done) | (simp; omega) | (simp at *; omega))) | ((with_reducible refine Below.alloc ?_ ?_ _); rotate_left 1; focus (first | (simp; done) | (simp; omega) | (simp at *; omega))) | (with_reducible refine Below.drew ?_) | ((with_reducible refine Calm.step (by assumption) ?_ ?_); rotate_left 1; focus (first | (simp; done) | (simp; omega) | (simp at *; omega)))))) (HB1.out.mono (by simp; omega))⟩
/-- the error of a number of elements. -/
def someErr (n most : Int) : Int := firstOf [if n = 0 then 12 else 0, if most < n then 5 else 0]
theorem some_any (A : Option Addr) (n c : Nat) (most : Int) (w : World) (hn : n ≤ 5000) :
    Calls Tryz.prog 64 #[.slice A n c, (.int .i64 most)] w fun r w' => r = .returned (.int .i64 (someErr n most)) ∧ Below w.heap.size w w' := by
  have HF : Hid (∀ (W : World) (a b : Int), Calls Tryz.prog 49 #[.slice (some ⟨W.heap.size, 0, none⟩) 2 2] (W.alloc (.cells #[(.int .i64 a), (.int .i64 b)] 27)) fun r w' => r = .returned (.int .i64 (firstOf [a, b])) ∧ (W.alloc (.cells #[(.int .i64 a), (.int .i64 b)] 27)) = w') := Lib.hid (fun W a b => first_any [a, b] _ _ _ (by simp) (fun _ => ⟨_, _, rfl, by simp, fun k hk => by
    have : k = 0 ∨ k = 1 := by simp at hk; omega
    rcases this with rfl | rfl <;> simp⟩))
  by_cases h0 : n = 0 <;> by_cases h1 : most < (n : Int)
  all_goals (
    go_enter Tryz.func64, Tryz.ntmps64
    go_wp2_with (first
      | (go_at_call 68; refine (when_any _ _ _).mono ?_; rintro r w' ⟨rfl, rfl⟩)
      | (go_at_call 49; refine (HF.out _ _ _).mono ?_; rintro r w1 ⟨rfl, rfl⟩))
    go_ret
    refine ⟨ret_i ?_, by (repeat (first | (with_reducible exact Below.refl _ _) | ((with_reducible refine Below.setCell ?_ ?_ _); rotate_left 1; focus (first | (simp; done) | (simp; omega) | (simp at *; omega))) | ((with_reducible refine Below.alloc ?_ ?_ _); rotate_left 1; focus (first | (simp; done) | (simp; omega) | (simp at *; omega))) | (with_reducible refine Below.drew ?_) | ((with_reducible refine Calm.step (by assumption) ?_ ?_); rotate_left 1; focus (first | (simp; done) | (simp; omega) | (simp at *; omega)))))⟩
    unfold someErr
    congr 1
    simp only [List.cons.injEq, and_true]
    refine ⟨?_, ?_⟩ <;> (split <;> first | omega | rfl | simp_all))
end Go.Proofs.YtdeapbihbhoefaaGreatDoor

/- Contract of ascending. -/
namespace Go.Proofs.YtdeapbihbhoefaaGreatDoor
open Go.RowKit
open Calm (bcell Blk)

/-- the error of the number at an index. -/
def ascAt (l : List Int) (lo hi : Int) (i : Nat) : Int := firstOf [rangeErr (l.getD i 0) lo hi, if 0 < i ∧ l.getD i 0 ≤ l.getD (i - 1) 0 then 11 else 0]
def ascErr (l : List Int) (lo hi : Int) : Int := firstOf ((List.range l.length).map (ascAt l lo hi))
theorem asc_get (l : List Int) (lo hi : Int) {i : Nat} (hi' : i < l.length) : ((List.range l.length).map (ascAt l lo hi)).getD i 0 = ascAt l lo hi i := by
  simp [List.getD_eq_getElem?_getD, hi']
theorem first2_new (W : World) (a b : Int) : Calls Tryz.prog 49 #[.slice (some ⟨W.heap.size, 0, none⟩) 2 2] (W.alloc (.cells #[(.int .i64 a), (.int .i64 b)] 27)) fun r w' => r = .returned (.int .i64 (firstOf [a, b])) ∧ (W.alloc (.cells #[(.int .i64 a), (.int .i64 b)] 27)) = w' :=
  first_any [a, b] _ _ _ (by simp) (fun _ => ⟨_, _, rfl, by simp, fun k hk => by
    have : k = 0 ∨ k = 1 := by simp at hk; omega
    rcases this with rfl | rfl <;> simp⟩)
theorem maxJ (J : Nat) : ∀ W, (Builtin.max_ #[3, 3] 3 #[(.int .i64 0), (.int .i64 ((J : Int)))]).run Tryz.prog W = .ok (.int .i64 ((J : Int))) W := by
  intro W
  rcases Nat.eq_zero_or_pos J with h | h
  · subst h; go_simp; (try rfl)
  · have h1 : (0 : Int) < (J : Int) := by omega
    have h2 : ¬ (J : Int) ≤ 0 := by omega
    go_simp
    (try omega)
set_option maxHeartbeats 4000000 in
set_option maxRecDepth 100000 in
theorem ascending_any (A : Option Addr) (l : List Int) (c : Nat) (lo hi : Int) (w : World) (hC : Cells w A l) (hn : l.length ≤ 5000) :
    Calls Tryz.prog 65 #[.slice A l.length c, (.int .i64 lo), (.int .i64 hi)] w fun r w' => r = .returned (.int .i64 (ascErr l lo hi)) ∧ Below w.heap.size w w' := by
  have HC := Lib.hid hC
  have HG := Lib.hid (fun i (h : i < l.length) => asc_get l lo hi h)
  have HF := Lib.hid (fun k (h : ∀ j, j < k → ((List.range l.length).map (ascAt l lo hi)).getD j 0 = 0) h1 h2 => firstOf_take (l := (List.range l.length).map (ascAt l lo hi)) (k := k) h h1 h2)
  have HZ := Lib.hid (fun h => firstOf_zero (l := (List.range l.length).map (ascAt l lo hi)) h)
  obtain ⟨N, hN⟩ : ∃ N, N = l.length := ⟨_, rfl⟩
  have HN := Lib.hid hN
  rw [← hN] at hn ⊢
  clear hN hC
  go_enter Tryz.func65, Tryz.ntmps65
  go_wp2
  go_loopw [12] (fun i wr => ∃ k : Nat, k ≤ N ∧ i = (.int .i64 ((k : Int))) ∧ (∀ j, j < k → ascAt l lo hi j = 0) ∧ Below w.heap.size w wr) (fun i _ => N - (intOf i).toNat)
  case atStart => exact ⟨0, Nat.zero_le _, rfl, fun j hj => by omega, Below.refl _ _⟩
  case round =>
    obtain ⟨k, hk, rfl, hz, hB⟩ := hrel
    have HZK := Lib.hid hz
    have hsz := hB.size
    clear hz
    by_cases hlt : k < N
    · obtain ⟨b, o, rfl, l1, k1⟩ := HC.out (by rw [← HN.out]; omega)
      have x1 := (hB.cell (p := ⟨b, o + k, none⟩) l1).trans (k1 k (by rw [← HN.out]; exact hlt))
      have HNX : Hid (ascAt l lo hi k = 0 → ∀ j, j < k + 1 → ascAt l lo hi j = 0) := Lib.hid (fun h j hj => by
        rcases Nat.lt_or_ge j k with h2 | h2
        · exact HZK.out j h2
        · obtain rfl : j = k := by omega
          exact h)
      have HER : Hid (ascAt l lo hi k ≠ 0 → ascErr l lo hi = ascAt l lo hi k) := Lib.hid (fun h => by
        have e := HG.out k (show k < l.length by rw [← HN.out]; exact hlt)
        have := HF.out k (fun j hj => by rw [HG.out j (by rw [← HN.out]; omega)]; exact HZK.out j hj) (by simp [← HN.out]; exact hlt) (by rw [e]; exact h)
        exact this.trans e)
      have HE : Hid (ascAt l lo hi k = firstOf [rangeErr (l.getD k 0) lo hi, if 0 < k ∧ l.getD k 0 ≤ l.getD (k - 1) 0 then 11 else 0]) := Lib.hid rfl
      obtain ⟨x, hx⟩ : ∃ x, x = l.getD k 0 := ⟨_, rfl⟩
      obtain ⟨E, hE⟩ : ∃ E, E = ascAt l lo hi k := ⟨_, rfl⟩
      rw [← hx] at x1 HE
      rw [← hE] at HE HER HNX
      have HB := Lib.hid hB
      rcases Nat.eq_zero_or_pos k with h0 | h0
      · have f0 : ¬ 0 < k := by omega
        have HE2 : Hid (firstOf [rangeErr x lo hi, 0] = E) := Lib.hid (by rw [HE.out, if_neg (c := 0 < k ∧ _) (by omega)])
        have H0 := Lib.hid h0
        clear HE hE hx k1 hB h0
        by_cases hE0 : E = 0
        · have HX := Lib.hid (HNX.out hE0)
          rw [hE0] at HE2
          clear HER HNX
          go_wp2_with (first
          | (go_at_call 66; refine (within_any _ _ _ _).mono ?_; rintro r w' ⟨rfl, rfl⟩)
          | (go_at_call 68; refine (when_any _ _ _).mono ?_; rintro r w' ⟨rfl, rfl⟩)
          | (go_at_call 49; refine (first2_new _ _ _).mono ?_; rintro r w1 ⟨rfl, rfl⟩; rw [HE2.out]))
          go_roundw
          case rel => exact ⟨k + 1, by omega, by go_num, HX.out, by first | exact HB.out | exact HB.out.alloc hsz _⟩
          case measure => simp [intOf]; omega
        · have HX := Lib.hid (HER.out hE0)
          clear HER HNX
          go_wp2_with (first
          | (go_at_call 66; refine (within_any _ _ _ _).mono ?_; rintro r w' ⟨rfl, rfl⟩)
          | (go_at_call 68; refine (when_any _ _ _).mono ?_; rintro r w' ⟨rfl, rfl⟩)
          | (go_at_call 49; refine (first2_new _ _ _).mono ?_; rintro r w1 ⟨rfl, rfl⟩; rw [HE2.out]))
          go_ret
          exact ⟨ret_i HX.out.symm, by first | exact HB.out | exact HB.out.alloc hsz _⟩
      · have f0 : 0 < k := by omega
        obtain ⟨J, hJ0⟩ : ∃ J : Nat, J = k - 1 := ⟨_, rfl⟩
        have hJ : (k : Int) - 1 = (J : Int) := by omega
        have hJn : (J : Int) < (N : Int) := by omega
        have x2 := (hB.cell (p := ⟨b, o + J, none⟩) l1).trans (k1 J (by rw [← HN.out]; omega))
        obtain ⟨x0, hx0⟩ : ∃ x0, x0 = l.getD J 0 := ⟨_, rfl⟩
        rw [← hx0] at x2
        have hmax := maxJ J
        by_cases h5 : x ≤ x0
        · have HE2 : Hid (firstOf [rangeErr x lo hi, 11] = E) := Lib.hid (by rw [HE.out, ← hJ0, ← hx0, if_pos ⟨h0, h5⟩])
          have HJ := Lib.hid hJ0
          have H0 := Lib.hid h0
          clear HE hE hx k1 hB hx0 hJ0 h0
          by_cases hE0 : E = 0
          · have HX := Lib.hid (HNX.out hE0)
            rw [hE0] at HE2
            clear HER HNX
            go_wp2_with (first
            | (go_at_call 66; refine (within_any _ _ _ _).mono ?_; rintro r w' ⟨rfl, rfl⟩)
            | (go_at_call 68; refine (when_any _ _ _).mono ?_; rintro r w' ⟨rfl, rfl⟩)
            | (go_at_call 49; refine (first2_new _ _ _).mono ?_; rintro r w1 ⟨rfl, rfl⟩; rw [HE2.out]))
            go_roundw
            case rel => exact ⟨k + 1, by omega, by go_num, HX.out, by first | exact HB.out | exact HB.out.alloc hsz _⟩
            case measure => simp [intOf]; omega
          · have HX := Lib.hid (HER.out hE0)
            clear HER HNX
            go_wp2_with (first
            | (go_at_call 66; refine (within_any _ _ _ _).mono ?_; rintro r w' ⟨rfl, rfl⟩)
            | (go_at_call 68; refine (when_any _ _ _).mono ?_; rintro r w' ⟨rfl, rfl⟩)
            | (go_at_call 49; refine (first2_new _ _ _).mono ?_; rintro r w1 ⟨rfl, rfl⟩; rw [HE2.out]))
            go_ret
            exact ⟨ret_i HX.out.symm, by first | exact HB.out | exact HB.out.alloc hsz _⟩
        · have HE2 : Hid (firstOf [rangeErr x lo hi, 0] = E) := Lib.hid (by rw [HE.out, ← hJ0, ← hx0, if_neg (fun h => h5 h.2)])
          have HJ := Lib.hid hJ0
          have H0 := Lib.hid h0
          clear HE hE hx k1 hB hx0 hJ0 h0
          by_cases hE0 : E = 0
          · have HX := Lib.hid (HNX.out hE0)
            rw [hE0] at HE2
            clear HER HNX
            go_wp2_with (first
            | (go_at_call 66; refine (within_any _ _ _ _).mono ?_; rintro r w' ⟨rfl, rfl⟩)
            | (go_at_call 68; refine (when_any _ _ _).mono ?_; rintro r w' ⟨rfl, rfl⟩)
            | (go_at_call 49; refine (first2_new _ _ _).mono ?_; rintro r w1 ⟨rfl, rfl⟩; rw [HE2.out]))
            go_roundw
            case rel => exact ⟨k + 1, by omega, by go_num, HX.out, by first | exact HB.out | exact HB.out.alloc hsz _⟩
            case measure => simp [intOf]; omega
          · have HX := Lib.hid (HER.out hE0)
            clear HER HNX
            go_wp2_with (first
            | (go_at_call 66; refine (within_any _ _ _ _).mono ?_; rintro r w' ⟨rfl, rfl⟩)
            | (go_at_call 68; refine (when_any _ _ _).mono ?_; rintro r w' ⟨rfl, rfl⟩)
            | (go_at_call 49; refine (first2_new _ _ _).mono ?_; rintro r w1 ⟨rfl, rfl⟩; rw [HE2.out]))
            go_ret
            exact ⟨ret_i HX.out.symm, by first | exact HB.out | exact HB.out.alloc hsz _⟩
    · obtain rfl : k = N := by omega
      have e := Lib.hid (HZ.out (fun j hj => by simp [← HN.out] at hj; rw [HG.out j (by rw [← HN.out]; exact hj)]; exact HZK.out j hj))
      go_wp2
      go_ret
      exact ⟨ret_i e.out.symm, hB⟩
end Go.Proofs.YtdeapbihbhoefaaGreatDoor

/- Contract of CheckGuard. -/
namespace Go.Proofs.YtdeapbihbhoefaaGreatDoor
open Go.RowKit
open Calm (bcell Blk)

def guardErr1 (lk ht rc : Int) (ts gs : List Int) : Int := firstOf [rangeErr lk 1 8, rangeErr ht 0 536870912, someErr ts.length 8, eachErr ts (-64) 64, rangeErr rc 0 1048576, someErr gs.length 8]
def guardErr2 (gs : List Int) : Int := firstOf [rangeErr (gs.getD 0 0) 0 16, if gs.getD 0 0 ≠ 0 then 11 else 0, ascErr gs 0 16]
/-- the error of a guard. -/
def guardErr (lk ht rc : Int) (ts gs : List Int) : Int := if guardErr1 lk ht rc ts gs = 0 then guardErr2 gs else guardErr1 lk ht rc ts gs
theorem firstOf_eq_zero {l : List Int} : firstOf l = 0 ↔ ∀ x ∈ l, x = 0 := by
  induction l with
  | nil => simp [firstOf]
  | cons a l ih =>
    by_cases ha : a = 0
    · subst ha
      simp only [firstOf, List.find?_cons, bne_self_eq_false] at ih ⊢
      simpa using ih
    · have : (a != 0) = true := by simpa using ha
      simp [firstOf, this, ha]
theorem first_cells (l : List Int) (W : World) (hl : l.length ≤ 100) : Calls Tryz.prog 49 #[.slice (some ⟨W.heap.size, 0, none⟩) l.length l.length] (W.alloc (.cells (l.map (Value.int .i64)).toArray 27)) fun r w' => r = .returned (.int .i64 (firstOf l)) ∧ (W.alloc (.cells (l.map (Value.int .i64)).toArray 27)) = w' :=
  first_any l _ _ _ (by omega) (Cells.row (heap_new rfl))

set_option maxHeartbeats 4000000 in
set_option maxRecDepth 100000 in
theorem checkGuard_any (lk ht rc : Int) (ts gs : List Int) (A1 A2 : Option Addr) (c1 c2 : Nat) (w : World) (hT0 : Cells w A1 ts) (hG0 : Cells w A2 gs) (h1 : ts.length ≤ 5000) (h2 : gs.length ≤ 5000) :
    Calls Tryz.prog 35 #[.agg #[(.int .i64 lk), (.int .i64 ht), .slice A1 ts.length c1, (.int .i64 rc), .slice A2 gs.length c2]] w fun r w' => r = .returned (.int .i64 (guardErr lk ht rc ts gs)) ∧ Below w.heap.size w w' := by
  obtain ⟨M, hM⟩ : ∃ M, M = ts.length := ⟨_, rfl⟩
  obtain ⟨L, hL⟩ : ∃ L, L = gs.length := ⟨_, rfl⟩
  have HT := Lib.hid hT0
  have HG := Lib.hid hG0
  have HE : Hid (∀ W lo hi, Cells W A1 ts → Calls Tryz.prog 71 #[.slice A1 M c1, (.int .i64 lo), (.int .i64 hi)] W fun r w' => r = .returned (.int .i64 (eachErr ts lo hi)) ∧ Below W.heap.size W w') := Lib.hid (fun W lo hi q => by rw [hM]; exact each_any A1 ts c1 lo hi W q h1)
  have HA : Hid (∀ W lo hi, Cells W A2 gs → Calls Tryz.prog 65 #[.slice A2 L c2, (.int .i64 lo), (.int .i64 hi)] W fun r w' => r = .returned (.int .i64 (ascErr gs lo hi)) ∧ Below W.heap.size W w') := Lib.hid (fun W lo hi q => by rw [hL]; exact ascending_any A2 gs c2 lo hi W q h2)
  have HF6 : Hid (∀ (W : World) (a b c d e f : Int), Calls Tryz.prog 49 #[.slice (some ⟨W.heap.size, 0, none⟩) 6 6] (W.alloc (.cells #[(.int .i64 a), (.int .i64 b), (.int .i64 c), (.int .i64 d), (.int .i64 e), (.int .i64 f)] 27)) fun r w' => r = .returned (.int .i64 (firstOf [a, b, c, d, e, f])) ∧ (W.alloc (.cells #[(.int .i64 a), (.int .i64 b), (.int .i64 c), (.int .i64 d), (.int .i64 e), (.int .i64 f)] 27)) = w') := Lib.hid (fun W a b c d e f => first_cells [a, b, c, d, e, f] W (by simp))
  have HF3 : Hid (∀ (W : World) (a b c : Int), Calls Tryz.prog 49 #[.slice (some ⟨W.heap.size, 0, none⟩) 3 3] (W.alloc (.cells #[(.int .i64 a), (.int .i64 b), (.int .i64 c)] 27)) fun r w' => r = .returned (.int .i64 (firstOf [a, b, c])) ∧ (W.alloc (.cells #[(.int .i64 a), (.int .i64 b), (.int .i64 c)] 27)) = w') := Lib.hid (fun W a b c => first_cells [a, b, c] W (by simp))
  have HX1 : Hid (firstOf [rangeErr lk 1 8, rangeErr ht 0 536870912, someErr M 8, eachErr ts (-64) 64, rangeErr rc 0 1048576, someErr L 8] = guardErr1 lk ht rc ts gs) := Lib.hid (by rw [hM, hL]; rfl)
  have HX2 : Hid (guardErr1 lk ht rc ts gs = 0 → 0 < L) := Lib.hid (fun h => by
    have := firstOf_eq_zero.1 h (someErr gs.length 8) (by simp)
    rw [hL]
    rcases Nat.eq_zero_or_pos gs.length with h0 | h0
    · rw [h0] at this; exact absurd this (by decide)
    · exact h0)
  have HX3 : Hid (firstOf [rangeErr (gs.getD 0 0) 0 16, if gs.getD 0 0 ≠ 0 then 11 else 0, ascErr gs 0 16] = guardErr2 gs) := Lib.hid rfl
  have HX4 : Hid (guardErr lk ht rc ts gs = if guardErr1 lk ht rc ts gs = 0 then guardErr2 gs else guardErr1 lk ht rc ts gs) := Lib.hid rfl
  have HLL := Lib.hid hL
  obtain ⟨E1, hE1⟩ : ∃ E, E = guardErr1 lk ht rc ts gs := ⟨_, rfl⟩
  rw [← hE1] at HX1 HX2 HX4
  rw [← hM] at h1
  rw [← hL] at h2
  rw [← hM, ← hL]
  obtain ⟨R, hR⟩ : ∃ R, R = guardErr lk ht rc ts gs := ⟨_, rfl⟩
  rw [← hR] at HX4 ⊢
  clear hM hL hT0 hG0 hE1 hR
  go_enter Tryz.func35, Tryz.ntmps35
  go_wp2
  refine Calm.tail_below 17 (by kernel_rfl) (by kernel_rfl) ?_
  simp only [List.take_succ_cons, List.take_zero, List.drop_succ_cons, List.drop_zero]
  repeat (first | (first | (apply Calm.op_move; (focus rfl); (focus (first | exact .inl rfl | exact .inr rfl)); (focus ((try simp only [Act.eval, Array.getD_eq_getD_getElem?, List.getElem?_toArray, List.getElem?_cons_succ, List.getElem?_cons_zero, Option.getD_some]); rfl)); (try simp only [Act.put, List.setIfInBounds_toArray, List.set_cons_zero, List.set_cons_succ])) | (apply Calm.op_not; (focus rfl); (try simp only [Act.put, List.setIfInBounds_toArray, List.set_cons_zero, List.set_cons_succ])) | (apply Calm.op; (focus rfl); (focus (intro W hb; obtain ⟨hc, hf⟩ := bcell hb; clear hb hf; go_simp; (try go_bits); (try rfl); done)); (try simp only [Act.put, List.setIfInBounds_toArray, List.set_cons_zero, List.set_cons_succ]))) | (apply Calm.op_call; (focus rfl); (focus (intro W hb; obtain ⟨hc, hf⟩ := bcell hb; clear hb hf; go_simp; refine ⟨?_, ?_⟩; rfl; rfl)); (focus (intro W hb; first | (go_at_call 66; exact Calm.call_same hb (within_any _ _ _ _)) | (go_at_call 64; exact Calm.call_below hb (some_any _ _ _ _ _ (by omega))) | (go_at_call 71; exact Calm.call_below hb (HE.out _ _ _ (HT.out.below (Below.trans (by (repeat (first | (with_reducible exact Below.refl _ _) | ((with_reducible refine Below.setCell ?_ ?_ _); rotate_left 1; focus (first | (simp; done) | (simp; omega) | (simp at *; omega))) | ((with_reducible refine Below.alloc ?_ ?_ _); rotate_left 1; focus (first | (simp; done) | (simp; omega) | (simp at *; omega))) | (with_reducible refine Below.drew ?_) | ((with_reducible refine Calm.step (by assumption) ?_ ?_); rotate_left 1; focus (first | (simp; done) | (simp; omega) | (simp at *; omega)))))) (hb.mono (by simp)))))))); (try simp only [Act.put, List.setIfInBounds_toArray, List.set_cons_zero, List.set_cons_succ])))
  refine wpQuiet_nil ?_
  intro w1 hb
  obtain ⟨hbc, hbf⟩ := bcell hb
  have hbz := hb.size
  (try simp at hbz)
  (try have hbz0 : w.heap.size < w1.heap.size := by omega)
  (try have hbz1 : w.heap.size + 1 < w1.heap.size := by omega)
  (try have hbz2 : w.heap.size + 1 + 1 < w1.heap.size := by omega)
  (try have hbz3 : w.heap.size + 1 + 1 + 1 < w1.heap.size := by omega)
  (try have hbz4 : w.heap.size + 1 + 1 + 1 + 1 < w1.heap.size := by omega)
  (try have hbz5 : w.heap.size + 1 + 1 + 1 + 1 + 1 < w1.heap.size := by omega)
  have HB1 : Hid (Below w.heap.size w w1) := Lib.hid (Below.trans (by (repeat (first | (with_reducible exact Below.refl _ _) | ((with_reducible refine Below.setCell ?_ ?_ _); rotate_left 1; focus (first | (simp; done) | (simp; omega) | (simp at *; omega))) | ((with_reducible refine Below.alloc ?_ ?_ _); rotate_left 1; focus (first | (simp; done) | (simp; omega) | (simp at *; omega))) | (with_reducible refine Below.drew ?_) | ((with_reducible refine Calm.step (by assumption) ?_ ?_); rotate_left 1; focus (first | (simp; done) | (simp; omega) | (simp at *; omega)))))) (hb.mono (by simp)))
  have K0 : Blk w1 w.heap.size #[(.int .i64 lk), (.int .i64 ht), .slice A1 M c1, (.int .i64 rc), .slice A2 L c2] := Blk.below (by (repeat (first | ((with_reducible refine Blk.at_ ?_); focus (first | rfl | (simp; done) | (simp; omega))) | (with_reducible refine Blk.alloc ?_ _) | (with_reducible refine Blk.below ?_ (by with_reducible assumption)) | (with_reducible refine Blk.drew ?_)))) hb
  obtain ⟨c00, c01, c02, c03, c04, l0, f0⟩ := K0.o5
  have HK0 := Lib.hid K0
  clear K0 hb hbc hbf
  by_cases h0 : E1 = 0
  · have HX4' : Hid (R = guardErr2 gs) := Lib.hid (by rw [HX4.out, if_pos h0])
    have hL0 := HX2.out h0
    obtain ⟨b, o, rfl, l1, k1⟩ := HG.out (by rw [← HLL.out]; exact hL0)
    have x0 := k1 0 (by rw [← HLL.out]; exact hL0)
    rw [Nat.add_zero] at x0
    have x1 := (HB1.out.cell (p := ⟨b, o, none⟩) l1).trans x0
    have l2 : b < w1.heap.size := by omega
    obtain ⟨g0, hg0⟩ : ∃ g0, g0 = gs.getD 0 0 := ⟨_, rfl⟩
    rw [← hg0] at x1 HX3
    rw [h0] at HX1
    have hLi : (0 : Int) < (L : Int) := by omega
    clear HX4 HX2 k1 x0 hg0 h0
    go_wp2_with (first
      | (go_at_call 64; refine (some_any _ _ _ _ _ (by omega)).mono ?_; rintro r w2 ⟨rfl, hb2⟩; have HK2 := Lib.hid (HK0.out.below hb2); have HB2 := Lib.hid (HB1.out.trans (hb2.mono (by omega))); have hs2 := hb2.size; have hz20 : w.heap.size < w2.heap.size := (by omega); (try have l3 : b < w2.heap.size := (by omega)); obtain ⟨hc2, hf2⟩ := bcell hb2; clear hb2)
      | (go_at_call 49; refine (HF6.out _ _ _ _ _ _ _).mono ?_; rintro r w3 ⟨rfl, rfl⟩; rw [HX1.out]))
    by_cases hg : g0 = 0
    · subst hg
      · skip
        refine name_world ?_
        intro w4 e4
        have HB4 : Hid (Below w.heap.size w w4) := Lib.hid (by rw [e4]; exact HB2.out.alloc (by omega) _)
        have K4 : Blk w4 w.heap.size #[(.int .i64 lk), (.int .i64 ht), .slice A1 M c1, (.int .i64 rc), .slice (some ⟨b, o, none⟩) L c2] := by rw [e4]; exact HK2.out.alloc _
        obtain ⟨d00, d01, d02, d03, d04, m0, g0'⟩ := K4.o5
        have hz4 : w.heap.size ≤ w4.heap.size := HB4.out.size
        clear e4 K4 HK2 HB2 hc2 hf2 c00 c01 c02 c03 c04 l0 f0
        refine Calm.tail_below 7 (by kernel_rfl) (by kernel_rfl) ?_
        simp only [List.take_succ_cons, List.take_zero, List.drop_succ_cons, List.drop_zero]
        repeat (first | (first | (apply Calm.op_move; (focus rfl); (focus (first | exact .inl rfl | exact .inr rfl)); (focus ((try simp only [Act.eval, Array.getD_eq_getD_getElem?, List.getElem?_toArray, List.getElem?_cons_succ, List.getElem?_cons_zero, Option.getD_some]); rfl)); (try simp only [Act.put, List.setIfInBounds_toArray, List.set_cons_zero, List.set_cons_succ])) | (apply Calm.op_not; (focus rfl); (try simp only [Act.put, List.setIfInBounds_toArray, List.set_cons_zero, List.set_cons_succ])) | (apply Calm.op; (focus rfl); (focus (intro W hb; obtain ⟨hc, hf⟩ := bcell hb; clear hb hf; go_simp; (try go_bits); (try rfl); done)); (try simp only [Act.put, List.setIfInBounds_toArray, List.set_cons_zero, List.set_cons_succ]))) | (apply Calm.op_call; (focus rfl); (focus (intro W hb; obtain ⟨hc, hf⟩ := bcell hb; clear hb hf; go_simp; refine ⟨?_, ?_⟩; rfl; rfl)); (focus (intro W hb; first | (go_at_call 66; exact Calm.call_same hb (within_any _ _ _ _)) | (go_at_call 68; exact Calm.call_same hb (when_any _ _ _)))); (try simp only [Act.put, List.setIfInBounds_toArray, List.set_cons_zero, List.set_cons_succ])))
        refine wpQuiet_nil ?_
        intro w5 hb5
        obtain ⟨hb5c, hb5f⟩ := bcell hb5
        have hb5z := hb5.size
        (try simp at hb5z)
        (try have hb5z0 : w.heap.size < w5.heap.size := by omega)
        (try have hb5z1 : w.heap.size + 1 < w5.heap.size := by omega)
        (try have hb5z2 : w.heap.size + 1 + 1 < w5.heap.size := by omega)
        (try have hb5z3 : w.heap.size + 1 + 1 + 1 < w5.heap.size := by omega)
        (try have hb5z4 : w.heap.size + 1 + 1 + 1 + 1 < w5.heap.size := by omega)
        (try have hb5z5 : w.heap.size + 1 + 1 + 1 + 1 + 1 < w5.heap.size := by omega)
        have HB5 : Hid (Below w.heap.size w w5) := Lib.hid (HB4.out.trans (hb5.mono hz4))
        have hz5 := hb5.size
        clear hb5 hb5c hb5f
        go_wp2_with (first
          | (go_at_call 65; refine (HA.out _ _ _ (HG.out.below HB5.out)).mono ?_; rintro r w6 ⟨rfl, hb6⟩; have HB6 := Lib.hid (HB5.out.trans (hb6.mono (by omega))); have hs6 := hb6.size; clear hb6)
          | (go_at_call 49; refine (HF3.out _ _ _ _).mono ?_; rintro r w7 ⟨rfl, rfl⟩))
        go_ret
        exact ⟨ret_i (by rw [HX4'.out, ← HX3.out]; simp), HB6.out.alloc (by omega) _⟩
    · skip
      · skip
        refine name_world ?_
        intro w4 e4
        have HB4 : Hid (Below w.heap.size w w4) := Lib.hid (by rw [e4]; exact HB2.out.alloc (by omega) _)
        have K4 : Blk w4 w.heap.size #[(.int .i64 lk), (.int .i64 ht), .slice A1 M c1, (.int .i64 rc), .slice (some ⟨b, o, none⟩) L c2] := by rw [e4]; exact HK2.out.alloc _
        obtain ⟨d00, d01, d02, d03, d04, m0, g0'⟩ := K4.o5
        have hz4 : w.heap.size ≤ w4.heap.size := HB4.out.size
        clear e4 K4 HK2 HB2 hc2 hf2 c00 c01 c02 c03 c04 l0 f0
        refine Calm.tail_below 7 (by kernel_rfl) (by kernel_rfl) ?_
        simp only [List.take_succ_cons, List.take_zero, List.drop_succ_cons, List.drop_zero]
        repeat (first | (first | (apply Calm.op_move; (focus rfl); (focus (first | exact .inl rfl | exact .inr rfl)); (focus ((try simp only [Act.eval, Array.getD_eq_getD_getElem?, List.getElem?_toArray, List.getElem?_cons_succ, List.getElem?_cons_zero, Option.getD_some]); rfl)); (try simp only [Act.put, List.setIfInBounds_toArray, List.set_cons_zero, List.set_cons_succ])) | (apply Calm.op_not; (focus rfl); (try simp only [Act.put, List.setIfInBounds_toArray, List.set_cons_zero, List.set_cons_succ])) | (apply Calm.op; (focus rfl); (focus (intro W hb; obtain ⟨hc, hf⟩ := bcell hb; clear hb hf; go_simp; (try go_bits); (try rfl); done)); (try simp only [Act.put, List.setIfInBounds_toArray, List.set_cons_zero, List.set_cons_succ]))) | (apply Calm.op_call; (focus rfl); (focus (intro W hb; obtain ⟨hc, hf⟩ := bcell hb; clear hb hf; go_simp; refine ⟨?_, ?_⟩; rfl; rfl)); (focus (intro W hb; first | (go_at_call 66; exact Calm.call_same hb (within_any _ _ _ _)) | (go_at_call 68; exact Calm.call_same hb (when_any _ _ _)))); (try simp only [Act.put, List.setIfInBounds_toArray, List.set_cons_zero, List.set_cons_succ])))
        refine wpQuiet_nil ?_
        intro w5 hb5
        obtain ⟨hb5c, hb5f⟩ := bcell hb5
        have hb5z := hb5.size
        (try simp at hb5z)
        (try have hb5z0 : w.heap.size < w5.heap.size := by omega)
        (try have hb5z1 : w.heap.size + 1 < w5.heap.size := by omega)
        (try have hb5z2 : w.heap.size + 1 + 1 < w5.heap.size := by omega)
        (try have hb5z3 : w.heap.size + 1 + 1 + 1 < w5.heap.size := by omega)
        (try have hb5z4 : w.heap.size + 1 + 1 + 1 + 1 < w5.heap.size := by omega)
        (try have hb5z5 : w.heap.size + 1 + 1 + 1 + 1 + 1 < w5.heap.size := by omega)
        have HB5 : Hid (Below w.heap.size w w5) := Lib.hid (HB4.out.trans (hb5.mono hz4))
        have hz5 := hb5.size
        clear hb5 hb5c hb5f
        go_wp2_with (first
          | (go_at_call 65; refine (HA.out _ _ _ (HG.out.below HB5.out)).mono ?_; rintro r w6 ⟨rfl, hb6⟩; have HB6 := Lib.hid (HB5.out.trans (hb6.mono (by omega))); have hs6 := hb6.size; clear hb6)
          | (go_at_call 49; refine (HF3.out _ _ _ _).mono ?_; rintro r w7 ⟨rfl, rfl⟩))
        go_ret
        exact ⟨ret_i (by rw [HX4'.out, ← HX3.out]; simp [hg]), HB6.out.alloc (by omega) _⟩
  · have HX4' : Hid (R = E1) := Lib.hid (by rw [HX4.out, if_neg h0])
    clear HX4 HX2
    go_wp2_with (first
      | (go_at_call 64; refine (some_any _ _ _ _ _ (by omega)).mono ?_; rintro r w2 ⟨rfl, hb2⟩; have HK2 := Lib.hid (HK0.out.below hb2); have HB2 := Lib.hid (HB1.out.trans (hb2.mono (by omega))); have hs2 := hb2.size; have hz20 : w.heap.size < w2.heap.size := (by omega); (try have l3 : b < w2.heap.size := (by omega)); obtain ⟨hc2, hf2⟩ := bcell hb2; clear hb2)
      | (go_at_call 49; refine (HF6.out _ _ _ _ _ _ _).mono ?_; rintro r w3 ⟨rfl, rfl⟩; rw [HX1.out]))
    go_ret
    exact ⟨ret_i HX4'.out.symm, HB2.out.alloc (by omega) _⟩
end Go.Proofs.YtdeapbihbhoefaaGreatDoor

/- Contracts of slices.IndexFunc and ContainsFunc at (Guard).far, of the third condition and of (Guard).fine. -/
namespace Go.Proofs.YtdeapbihbhoefaaGreatDoor
open Go.RowKit
open Calm (bcell Blk)

/-- the first far number, or -1. -/
def farIdx (rc : Int) (l : List Int) : Int := match l.findIdx? (fun x => decide (rc < absI x)) with | some k => (k : Int) | none => -1
theorem farIdx_at {rc : Int} {l : List Int} {k : Nat} (hk : k < l.length) (hz : ∀ j, j < k → ¬ rc < absI (l.getD j 0)) (h : rc < absI (l.getD k 0)) : farIdx rc l = k := by
  have : l.findIdx? (fun x => decide (rc < absI x)) = some k := by
    rw [List.findIdx?_eq_some_iff_getElem]
    refine ⟨hk, ?_, fun j hj => ?_⟩
    · rw [List.getD_eq_getElem?_getD, List.getElem?_eq_getElem hk] at h
      simpa using h
    · have := hz j hj
      rw [List.getD_eq_getElem?_getD, List.getElem?_eq_getElem (by omega)] at this
      simpa using this
  unfold farIdx
  rw [this]
theorem farIdx_none {rc : Int} {l : List Int} (hz : ∀ j, j < l.length → ¬ rc < absI (l.getD j 0)) : farIdx rc l = -1 := by
  have : l.findIdx? (fun x => decide (rc < absI x)) = none := by
    rw [List.findIdx?_eq_none_iff]
    intro x hx
    obtain ⟨j, hj, rfl⟩ := List.mem_iff_getElem.1 hx
    have := hz j hj
    rw [List.getD_eq_getElem?_getD, List.getElem?_eq_getElem hj] at this
    simpa using this
  unfold farIdx
  rw [this]
theorem farIdx_nonneg (rc : Int) (l : List Int) : decide (0 ≤ farIdx rc l) = l.any (fun x => decide (rc < absI x)) := by
  unfold farIdx
  cases h : l.findIdx? (fun x => decide (rc < absI x)) with
  | none =>
    rw [List.findIdx?_eq_none_iff] at h
    have : l.any (fun x => decide (rc < absI x)) = false := by
      rw [List.any_eq_false]
      intro x hx
      rw [h x hx]
      decide
    rw [this]
    decide
  | some k =>
    have : l.any (fun x => decide (rc < absI x)) = true := by
      rw [List.findIdx?_eq_some_iff_getElem] at h
      obtain ⟨hk, h1, _⟩ := h
      exact List.any_eq_true.2 ⟨_, List.getElem_mem hk, h1⟩
    rw [this]
    simp

set_option maxHeartbeats 1000000 in
theorem indexFar_any (lk ht rc : Int) (l : List Int) (A1 A2 B : Option Addr) (n1 c1 n2 c2 c : Nat) (w : World) (hC : Cells w B l) (hn : l.length ≤ 5000) (hb : inB 1099511627776 l) :
    Calls Tryz.prog 141 #[.slice B l.length c, .func (.func 138) #[.agg #[(.int .i64 lk), (.int .i64 ht), .slice A1 n1 c1, (.int .i64 rc), .slice A2 n2 c2]] #[]] w fun r w' => r = .returned (.int .i64 (farIdx rc l)) ∧ Below w.heap.size w w' := by
  have HC := Lib.hid hC
  have HB := Lib.hid (fun k => inB_get hb (by omega) k)
  obtain ⟨N, hN⟩ : ∃ N, N = l.length := ⟨_, rfl⟩
  have HN := Lib.hid hN
  rw [← hN] at hn ⊢
  clear hN hC hb
  go_enter Tryz.func141, Tryz.ntmps141
  go_wp2
  go_loopw [8] (fun i wr => ∃ k : Nat, k ≤ N ∧ i = (.int .i64 k) ∧ (∀ j, j < k → ¬ rc < absI (l.getD j 0)) ∧ Below w.heap.size w wr) (fun i _ => N - (intOf i).toNat)
  case atStart => exact ⟨0, Nat.zero_le _, rfl, fun j hj => by omega, Below.refl _ _⟩
  case round =>
    obtain ⟨k, hk, rfl, hz, hBl⟩ := hrel
    have HZ := Lib.hid hz
    have HBL := Lib.hid hBl
    clear hz
    by_cases hlt : k < N
    · obtain ⟨b, off, rfl, hbl, hc⟩ := HC.out (by rw [← HN.out]; omega)
      have hck := (hBl.cell (p := ⟨b, off + k, none⟩) hbl).trans (hc k (by rw [← HN.out]; exact hlt))
      have hbx := HB.out k
      have hsz := hBl.size
      have HF := Lib.hid (@farIdx_at rc l k (by rw [← HN.out]; exact hlt) HZ.out)
      have HZ2 : Hid (¬ rc < absI (l.getD k 0) → ∀ j, j < k + 1 → ¬ rc < absI (l.getD j 0)) := Lib.hid (fun h1 j hj => by
        rcases Nat.lt_or_ge j k with h2 | h2
        · exact HZ.out j h2
        · obtain rfl : j = k := by omega
          exact h1)
      obtain ⟨x, hx⟩ : ∃ x, x = l.getD k 0 := ⟨_, rfl⟩
      rw [← hx] at hck hbx HF HZ2
      obtain ⟨b1, b2⟩ := hbx
      clear hc hx hBl
      by_cases hf : rc < absI x
      · have ef : decide (rc < absI x) = true := by simpa using hf
        have HF2 := Lib.hid (HF.out hf)
        go_wp2_with (go_at_call 138; refine (far_any lk ht rc x A1 A2 n1 c1 n2 c2 _ ⟨b1, b2⟩).mono ?_; rw [ef]; rintro r w1 ⟨rfl, hb1⟩)
        go_ret
        exact ⟨ret_i HF2.out.symm, HBL.out.trans (hb1.mono hsz)⟩
      · have ef : decide (rc < absI x) = false := by simpa using hf
        have HF2 := Lib.hid (HZ2.out hf)
        clear hf
        go_wp2_with (go_at_call 138; refine (far_any lk ht rc x A1 A2 n1 c1 n2 c2 _ ⟨b1, b2⟩).mono ?_; rw [ef]; rintro r w1 ⟨rfl, hb1⟩)
        go_roundw
        case rel => exact ⟨k + 1, by omega, by go_num, fun j hj => by have := HF2.out j hj; omega, HBL.out.trans (hb1.mono hsz)⟩
        case measure => simp [intOf]; omega
    · obtain rfl : k = N := by omega
      have HF := Lib.hid (@farIdx_none rc l (by rw [← HN.out]; exact HZ.out))
      go_wp2
      go_ret
      exact ⟨ret_i HF.out.symm, HBL.out⟩
theorem containsFar_any (lk ht rc : Int) (l : List Int) (A1 A2 B : Option Addr) (n1 c1 n2 c2 c : Nat) (w : World) (hC : Cells w B l) (hn : l.length ≤ 5000) (hb : inB 1099511627776 l) :
    Calls Tryz.prog 140 #[.slice B l.length c, .func (.func 138) #[.agg #[(.int .i64 lk), (.int .i64 ht), .slice A1 n1 c1, (.int .i64 rc), .slice A2 n2 c2]] #[]] w fun r w' => r = .returned (.bool (l.any fun x => decide (rc < absI x))) ∧ Below w.heap.size w w' := by
  rw [← farIdx_nonneg]
  obtain ⟨X, hX⟩ : ∃ X, X = farIdx rc l := ⟨_, rfl⟩
  have HX : Hid (∀ w, Cells w B l → Calls Tryz.prog 141 #[.slice B l.length c, .func (.func 138) #[.agg #[(.int .i64 lk), (.int .i64 ht), .slice A1 n1 c1, (.int .i64 rc), .slice A2 n2 c2]] #[]] w fun r w' => r = .returned (.int .i64 X) ∧ Below w.heap.size w w') := Lib.hid (fun w h => by rw [hX]; exact indexFar_any lk ht rc l A1 A2 B n1 c1 n2 c2 c w h hn hb)
  have HC := Lib.hid hC
  rw [← hX]
  generalize l.length = N at *
  clear hX hC hb
  go_enter Tryz.func140, Tryz.ntmps140
  go_wp2_with (go_at_call 141; refine (HX.out _ HC.out).mono ?_; rintro r w1 ⟨rfl, hb1⟩)
  all_goals (go_ret; exact ⟨rfl, hb1⟩)
end Go.Proofs.YtdeapbihbhoefaaGreatDoor
