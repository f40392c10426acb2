/- Part 12 of the texts of the claim: J8, U1, U2. -/
import Derived.Test.YtleemphfkhbhaaaDoorMp11

/- A section with the tails as taps gives the excursions; sixteenths; errors that are none. No walk. -/
namespace Go.Proofs.YtleemphfkhbhaaaDoor
open Go.RowKit

/-- the states of a section without feedback hold the last two inputs. -/
theorem ss_past (b0 b1 b2 : Int) (n : Nat) (ys : List Int) : ∀ k, ∀ i, (bpAt n ys k).getD i 0 = if i < n then (if i = 0 then (ssAt b0 b1 b2 0 0 0 (0, 0, 0, 0) ys k).1 else if i = 1 then (ssAt b0 b1 b2 0 0 0 (0, 0, 0, 0) ys k).2.1 else (bpAt n ys k).getD i 0) else 0
  | 0, i => by
    have h0 : (bpAt n ys 0).getD i 0 = 0 := getD_zeros n i
    rw [h0]
    split <;> (try rfl)
    split <;> (try rfl)
    split <;> rfl
  | k + 1, i => by
    have ih := ss_past b0 b1 b2 n ys k
    by_cases hi : i < n
    · rw [if_pos hi]
      by_cases h0 : i = 0
      · subst h0
        rw [if_pos rfl]
        simp only [bpAt]
        rw [pushL_getD, bpAt_len, if_pos hi]
        rfl
      · rw [if_neg h0]
        by_cases h1 : i = 1
        · subst h1
          rw [if_pos rfl]
          have h2 := ih 0
          rw [if_pos (show 0 < n by omega), if_pos rfl] at h2
          simp only [bpAt]
          rw [pushL_getD, bpAt_len, if_pos hi, List.getD_cons_succ, h2]
          rfl
        · rw [if_neg h1]
    · rw [if_neg hi, List.getD_eq_getElem?_getD, List.getElem?_eq_none (by rw [bpAt_len]; omega)]; rfl
theorem rawF_taps (b0 b1 b2 x1 x2 y1 y2 i : Int) : rawF b0 b1 b2 0 0 0 x1 x2 y1 y2 i = b0 * i + b1 * x1 + b2 * x2 := by
  unfold rawF
  simp
theorem ex_taps {ts ys : List Int} (h1 : 1 ≤ ts.length) (h3 : ts.length ≤ 3) (k : Nat) :
    exAt ts ys k = ts.getD 0 0 * ys.getD k 0 + ts.getD 1 0 * (ssAt (ts.getD 0 0) (ts.getD 1 0) (ts.getD 2 0) 0 0 0 (0, 0, 0, 0) ys k).1 + ts.getD 2 0 * (ssAt (ts.getD 0 0) (ts.getD 1 0) (ts.getD 2 0) 0 0 0 (0, 0, 0, 0) ys k).2.1 := by
  have hp := ss_past (ts.getD 0 0) (ts.getD 1 0) (ts.getD 2 0) (ts.length - 1) ys k
  have hz : ∀ j, ts.length ≤ j → ts.getD j 0 = 0 := fun j hj => by rw [List.getD_eq_getElem?_getD, List.getElem?_eq_none hj]; rfl
  unfold exAt exF
  rw [bpAt_len]
  obtain ⟨n, hn⟩ : ∃ n, n = ts.length - 1 := ⟨_, rfl⟩
  rw [← hn] at hp ⊢
  have hn3 : n = 0 ∨ n = 1 ∨ n = 2 := by omega
  have hx1 : ∀ (ps : List Int) (y : Int), exK ts ps y 1 = ts.getD 0 0 * y + ts.getD 1 0 * ps.getD 0 0 := fun _ _ => rfl
  have hx2 : ∀ (ps : List Int) (y : Int), exK ts ps y 2 = ts.getD 0 0 * y + ts.getD 1 0 * ps.getD 0 0 + ts.getD 2 0 * ps.getD 1 0 := fun _ _ => rfl
  have hp0 := hp 0
  have hp1 := hp 1
  obtain ⟨S, hS⟩ : ∃ S, S = ssAt (ts.getD 0 0) (ts.getD 1 0) (ts.getD 2 0) 0 0 0 (0, 0, 0, 0) ys k := ⟨_, rfl⟩
  rw [← hS] at hp0 hp1 ⊢
  rcases hn3 with rfl | rfl | rfl
  · rw [hz 1 (by omega), hz 2 (by omega), Int.zero_mul, Int.zero_mul, Int.add_zero, Int.add_zero]
    rfl
  · rw [if_pos (by omega), if_pos rfl] at hp0
    rw [hx1, hp0, hz 2 (by omega), Int.zero_mul, Int.add_zero]
  · rw [if_pos (by omega), if_pos rfl] at hp0
    rw [if_pos (by omega), if_neg (by omega), if_pos rfl] at hp1
    rw [hx2, hp0, hp1]
theorem soK_ex {ts ys : List Int} {n : Nat} (h1 : 1 ≤ ts.length) (h3 : ts.length ≤ 3) (hb : ∀ k, k < n → absI (exAt ts ys k) ≤ 20000) : soK (ts.getD 0 0) (ts.getD 1 0) (ts.getD 2 0) 0 0 0 (0, 0, 0, 0) ys n = (List.range n).map (exAt ts ys) := by
  unfold soK
  refine List.map_congr_left fun k hk => ?_
  have hk2 := hb k (List.mem_range.1 hk)
  have e := ex_taps (ys := ys) h1 h3 k
  have h4 := absI_le.1 hk2
  show outS _ _ _ _ _ _ _ _ _ _ _ = _
  unfold outS
  rw [rawF_taps, ← e, limF_in (by unfold bd15; omega)]
/-- the greatest of the outputs of a section and of their opposites. -/
def mostK (es : List Int) : Nat → Int
  | 0 => 0
  | k + 1 => mx (mx (mostK es k) (es.getD k 0)) (-(es.getD k 0))
theorem most_ex (ts ys : List Int) (n : Nat) : ∀ k, k ≤ n → mostK ((List.range n).map (exAt ts ys)) k = pkX ts ys k
  | 0, _ => rfl
  | k + 1, h => by
    have e : ((List.range n).map (exAt ts ys)).getD k 0 = exAt ts ys k := by simp [List.getD_eq_getElem?_getD, show k < n by omega]
    simp only [mostK, pkX]
    rw [most_ex ts ys n k (by omega), e]
    simp only [mx_eq]
    unfold absI
    omega
/-- sixteenths. -/
def q16 (ys : List Int) : List Int := ys.map fun y => Int.tdiv y 16
theorem q16_in {ys : List Int} (h : inB 32767 ys) : inB 2048 (q16 ys) := by
  intro z hz
  simp only [q16, List.mem_map] at hz
  obtain ⟨y, hy, rfl⟩ := hz
  have := h y hy
  rcases Int.le_total 0 y with h0 | h0
  · rw [Int.tdiv_eq_ediv_of_nonneg h0]; omega
  · have e : Int.tdiv y 16 = -Int.tdiv (-y) 16 := by rw [Int.neg_tdiv, Int.neg_neg]
    rw [e, Int.tdiv_eq_ediv_of_nonneg (by omega)]; omega
theorem sig_ok {ys : List Int} (h : inB 2048 ys) (hn : ys.length ≤ 4096) : sigErr ys = 0 := by
  unfold sigErr
  rw [if_neg (by omega), eachErr_zero.2 h]
  rfl
theorem ssig_ok {ys : List Int} (h : inB 32767 ys) (hn : ys.length ≤ 4096) : ssigErr ys = 0 := by
  unfold ssigErr
  rw [if_neg (by omega), eachErr_zero.2 h]
  rfl
theorem inB_mono {a b : Int} (hab : a ≤ b) {l : List Int} (h : inB a l) : inB b l := fun x hx => by have := h x hx; omega
theorem run_noErr {lk ht rc : Int} {ts gs ys : List Int} (hg : guardErr lk ht rc ts gs = 0) (h : inB 2048 ys) (hn : ys.length ≤ 4096) : runErr lk ht rc ts gs ys = 0 := by
  unfold runErr
  rw [hg, sig_ok h hn]
  rfl
theorem taps_ok {ts : List Int} (h : inB 64 ts) : secErr (ts.getD 0 0) (ts.getD 1 0) (ts.getD 2 0) 0 0 0 = 0 := by
  have hg : ∀ k, -64 ≤ ts.getD k 0 ∧ ts.getD k 0 ≤ 64 := fun k => inB_get h (by omega) k
  have h0 := hg 0
  have h1 := hg 1
  have h2 := hg 2
  have e : eachErr [ts.getD 0 0, ts.getD 1 0, ts.getD 2 0, 0, 0] (-32767) 32767 = 0 := by
    rw [eachErr_zero]
    intro n hn
    simp only [List.mem_cons, List.not_mem_nil, or_false] at hn
    rcases hn with rfl | rfl | rfl | rfl | rfl <;> omega
  unfold secErr
  rw [e]
  rfl
end Go.Proofs.YtleemphfkhbhaaaDoor

/- TopDustPlayed, where a number is beyond what it plays: dustAmp alone. -/
namespace Go.Proofs.YtleemphfkhbhaaaDoor
open Go.RowKit
open Calm (bcell Blk)

set_option maxRecDepth 100000 in
set_option maxHeartbeats 4000000 in
theorem played_0 (lk ht rc : Int) (ts gs : List Int) (l : List Sec) (xs : List Int) (A1 A2 A3 A4 : Option Addr) (M L Q N c1 c2 c3 c4 : Nat) (w : World) (hM : M = ts.length) (hL : L = gs.length) (hQ : Q = l.length) (hN : N = xs.length) (hLim : Lim w) (hT : Cells w A1 ts) (hG : Cells w A2 gs) (hS : SCells w A3 l) (hX : Cells w A4 xs)  (b : ¬ (M ≤ 9 ∧ L ≤ 9)) :
    Calls Tryd.prog 3 #[.agg #[(.int .i64 (lk)), (.int .i64 (ht)), .slice A1 M c1, (.int .i64 (rc)), .slice A2 L c2], .slice A3 Q c3, .slice A4 N c4] w fun r w' => r = .returned (.bool true) ∧ Below w.heap.size w w' := by
  have HAMP : Hid (∀ W, Lim W → Calls Tryd.prog 9 #[] W fun r w' => r = .returned (.bool true) ∧ Below W.heap.size W w') := Lib.hid dustAmp_any
  have HSH : Hid (∀ W, Calls Tryd.prog 5 #[.agg #[(.int .i64 (lk)), (.int .i64 (ht)), .slice A1 M c1, (.int .i64 (rc)), .slice A2 L c2]] W fun r w' => r = .returned (.bool false) ∧ Below W.heap.size W w') := Lib.hid (fun W => by
    have := pShort_any lk ht rc A1 A2 M L c1 c2 W
    rwa [decide_eq_false b] at this)
  have HT := Lib.hid hT
  have HG := Lib.hid hG
  have HS := Lib.hid hS
  have HX := Lib.hid hX
  have HL := Lib.hid hLim
  clear hM hL hQ hN hLim hT hG hS hX b
  go_enter Tryd.func3, Tryd.ntmps3
  go_wp2_with (first
    | (go_at_call 5; refine (HSH.out _).mono ?_; rintro r w1 ⟨rfl, hb1⟩; have HB1 := Lib.hid (show Below w.heap.size w w1 from Below.trans (by (repeat (first | (with_reducible exact Below.refl _ _) | ((with_reducible refine Below.setCell ?_ ?_ _); rotate_left 1; focus (first | (simp; done) | (simp; omega) | (simp at *; omega))) | ((with_reducible refine Below.alloc ?_ ?_ _); rotate_left 1; focus (first | (simp; done) | (simp; omega) | (simp at *; omega))) | (with_reducible refine Below.drew ?_) | ((with_reducible refine Calm.step (by assumption) ?_ ?_); rotate_left 1; focus (first | (simp; done) | (simp; omega) | (simp at *; omega)))))) (hb1.mono (by simp))); have hz1 : w.heap.size ≤ w1.heap.size := HB1.out.size; have K1 := Lib.hid (show Blk w1 w.heap.size #[(.int .i64 (lk)), (.int .i64 (ht)), .slice A1 M c1, (.int .i64 (rc)), .slice A2 L c2] from Blk.below (by (repeat (first | ((with_reducible refine Blk.at_ ?_); focus (first | rfl | (simp; done) | (simp; omega))) | (with_reducible refine Blk.alloc ?_ _) | (with_reducible refine Blk.below ?_ (by with_reducible assumption)) | (with_reducible refine Blk.drew ?_)))) hb1); obtain ⟨c00, c01, c02, c03, c04, l0, f0⟩ := K1.out.o5; clear hb1)
    | (go_at_call 9; refine (HAMP.out _ (HL.out.below HB1.out)).mono ?_; rintro r w5 ⟨rfl, hb5⟩; have HB5 := Lib.hid (HB1.out.trans (hb5.mono HB1.out.size))))
  go_ret
  exact ⟨rfl, HB5.out⟩
set_option maxRecDepth 100000 in
set_option maxHeartbeats 4000000 in
theorem played_1 (lk ht rc : Int) (ts gs : List Int) (l : List Sec) (xs : List Int) (A1 A2 A3 A4 : Option Addr) (M L Q N c1 c2 c3 c4 : Nat) (w : World) (hM : M = ts.length) (hL : L = gs.length) (hQ : Q = l.length) (hN : N = xs.length) (hLim : Lim w) (hT : Cells w A1 ts) (hG : Cells w A2 gs) (hS : SCells w A3 l) (hX : Cells w A4 xs) (g0 : M ≤ 9 ∧ L ≤ 9) (b : guardErr lk ht rc ts gs ≠ 0) :
    Calls Tryd.prog 3 #[.agg #[(.int .i64 (lk)), (.int .i64 (ht)), .slice A1 M c1, (.int .i64 (rc)), .slice A2 L c2], .slice A3 Q c3, .slice A4 N c4] w fun r w' => r = .returned (.bool true) ∧ Below w.heap.size w w' := by
  have HAMP : Hid (∀ W, Lim W → Calls Tryd.prog 9 #[] W fun r w' => r = .returned (.bool true) ∧ Below W.heap.size W w') := Lib.hid dustAmp_any
  have HSH : Hid (∀ W, Calls Tryd.prog 5 #[.agg #[(.int .i64 (lk)), (.int .i64 (ht)), .slice A1 M c1, (.int .i64 (rc)), .slice A2 L c2]] W fun r w' => r = .returned (.bool true) ∧ Below W.heap.size W w') := Lib.hid (fun W => by
    have := pShort_any lk ht rc A1 A2 M L c1 c2 W
    rwa [decide_eq_true g0] at this)
  obtain ⟨E, hE⟩ : ∃ E, E = guardErr lk ht rc ts gs := ⟨_, rfl⟩
  rw [← hE] at b
  have HCG : Hid (∀ W, Cells W A1 ts → Cells W A2 gs → Calls Tryd.prog 6 #[.agg #[(.int .i64 (lk)), (.int .i64 (ht)), .slice A1 M c1, (.int .i64 (rc)), .slice A2 L c2]] W fun r w' => r = .returned (.int .i64 (E)) ∧ Below W.heap.size W w') := Lib.hid (fun W q1 q2 => by
    have := pGuard_any lk ht rc ts gs A1 A2 c1 c2 W q1 q2 (by omega) (by omega)
    rwa [← hM, ← hL, ← hE] at this)
  have HT := Lib.hid hT
  have HG := Lib.hid hG
  have HS := Lib.hid hS
  have HX := Lib.hid hX
  have HL := Lib.hid hLim
  clear hM hL hQ hN hLim hT hG hS hX g0 hE
  go_enter Tryd.func3, Tryd.ntmps3
  go_wp2_with (first
    | (go_at_call 5; refine (HSH.out _).mono ?_; rintro r w1 ⟨rfl, hb1⟩; have HB1 := Lib.hid (show Below w.heap.size w w1 from Below.trans (by (repeat (first | (with_reducible exact Below.refl _ _) | ((with_reducible refine Below.setCell ?_ ?_ _); rotate_left 1; focus (first | (simp; done) | (simp; omega) | (simp at *; omega))) | ((with_reducible refine Below.alloc ?_ ?_ _); rotate_left 1; focus (first | (simp; done) | (simp; omega) | (simp at *; omega))) | (with_reducible refine Below.drew ?_) | ((with_reducible refine Calm.step (by assumption) ?_ ?_); rotate_left 1; focus (first | (simp; done) | (simp; omega) | (simp at *; omega)))))) (hb1.mono (by simp))); have hz1 : w.heap.size ≤ w1.heap.size := HB1.out.size; have K1 := Lib.hid (show Blk w1 w.heap.size #[(.int .i64 (lk)), (.int .i64 (ht)), .slice A1 M c1, (.int .i64 (rc)), .slice A2 L c2] from Blk.below (by (repeat (first | ((with_reducible refine Blk.at_ ?_); focus (first | rfl | (simp; done) | (simp; omega))) | (with_reducible refine Blk.alloc ?_ _) | (with_reducible refine Blk.below ?_ (by with_reducible assumption)) | (with_reducible refine Blk.drew ?_)))) hb1); obtain ⟨c00, c01, c02, c03, c04, l0, f0⟩ := K1.out.o5; clear hb1)
    | (go_at_call 6; refine (HCG.out _ (HT.out.below HB1.out) (HG.out.below HB1.out)).mono ?_; rintro r w2 ⟨rfl, hb2⟩; have HB2 := Lib.hid (HB1.out.trans (hb2.mono HB1.out.size)); have hz2 : w.heap.size ≤ w2.heap.size := HB2.out.size; clear c00 c01 c02 c03 c04 l0 f0; have K2 := Lib.hid (show Blk w2 w.heap.size #[(.int .i64 (lk)), (.int .i64 (ht)), .slice A1 M c1, (.int .i64 (rc)), .slice A2 L c2] from Blk.below K1.out hb2); obtain ⟨c00, c01, c02, c03, c04, l0, f0⟩ := K2.out.o5; clear hb2)
    | (go_at_call 9; refine (HAMP.out _ (HL.out.below HB2.out)).mono ?_; rintro r w5 ⟨rfl, hb5⟩; have HB5 := Lib.hid (HB2.out.trans (hb5.mono HB2.out.size))))
  go_ret
  exact ⟨rfl, HB5.out⟩
set_option maxRecDepth 100000 in
set_option maxHeartbeats 4000000 in
theorem played_2 (lk ht rc : Int) (ts gs : List Int) (l : List Sec) (xs : List Int) (A1 A2 A3 A4 : Option Addr) (M L Q N c1 c2 c3 c4 : Nat) (w : World) (hM : M = ts.length) (hL : L = gs.length) (hQ : Q = l.length) (hN : N = xs.length) (hLim : Lim w) (hT : Cells w A1 ts) (hG : Cells w A2 gs) (hS : SCells w A3 l) (hX : Cells w A4 xs) (g0 : M ≤ 9 ∧ L ≤ 9) (g1 : guardErr lk ht rc ts gs = 0) (b : 3 < M) :
    Calls Tryd.prog 3 #[.agg #[(.int .i64 (lk)), (.int .i64 (ht)), .slice A1 M c1, (.int .i64 (rc)), .slice A2 L c2], .slice A3 Q c3, .slice A4 N c4] w fun r w' => r = .returned (.bool true) ∧ Below w.heap.size w w' := by
  have HAMP : Hid (∀ W, Lim W → Calls Tryd.prog 9 #[] W fun r w' => r = .returned (.bool true) ∧ Below W.heap.size W w') := Lib.hid dustAmp_any
  have HSH : Hid (∀ W, Calls Tryd.prog 5 #[.agg #[(.int .i64 (lk)), (.int .i64 (ht)), .slice A1 M c1, (.int .i64 (rc)), .slice A2 L c2]] W fun r w' => r = .returned (.bool true) ∧ Below W.heap.size W w') := Lib.hid (fun W => by
    have := pShort_any lk ht rc A1 A2 M L c1 c2 W
    rwa [decide_eq_true g0] at this)
  have HCG : Hid (∀ W, Cells W A1 ts → Cells W A2 gs → Calls Tryd.prog 6 #[.agg #[(.int .i64 (lk)), (.int .i64 (ht)), .slice A1 M c1, (.int .i64 (rc)), .slice A2 L c2]] W fun r w' => r = .returned (.int .i64 (0)) ∧ Below W.heap.size W w') := Lib.hid (fun W q1 q2 => by
    have := pGuard_any lk ht rc ts gs A1 A2 c1 c2 W q1 q2 (by omega) (by omega)
    rwa [← hM, ← hL, g1] at this)
  have HT := Lib.hid hT
  have HG := Lib.hid hG
  have HS := Lib.hid hS
  have HX := Lib.hid hX
  have HL := Lib.hid hLim
  have jb : (3 : Int) < (M : Int) := by omega
  clear hM hL hQ hN hLim hT hG hS hX g0 g1
  go_enter Tryd.func3, Tryd.ntmps3
  go_wp2_with (first
    | (go_at_call 5; refine (HSH.out _).mono ?_; rintro r w1 ⟨rfl, hb1⟩; have HB1 := Lib.hid (show Below w.heap.size w w1 from Below.trans (by (repeat (first | (with_reducible exact Below.refl _ _) | ((with_reducible refine Below.setCell ?_ ?_ _); rotate_left 1; focus (first | (simp; done) | (simp; omega) | (simp at *; omega))) | ((with_reducible refine Below.alloc ?_ ?_ _); rotate_left 1; focus (first | (simp; done) | (simp; omega) | (simp at *; omega))) | (with_reducible refine Below.drew ?_) | ((with_reducible refine Calm.step (by assumption) ?_ ?_); rotate_left 1; focus (first | (simp; done) | (simp; omega) | (simp at *; omega)))))) (hb1.mono (by simp))); have hz1 : w.heap.size ≤ w1.heap.size := HB1.out.size; have K1 := Lib.hid (show Blk w1 w.heap.size #[(.int .i64 (lk)), (.int .i64 (ht)), .slice A1 M c1, (.int .i64 (rc)), .slice A2 L c2] from Blk.below (by (repeat (first | ((with_reducible refine Blk.at_ ?_); focus (first | rfl | (simp; done) | (simp; omega))) | (with_reducible refine Blk.alloc ?_ _) | (with_reducible refine Blk.below ?_ (by with_reducible assumption)) | (with_reducible refine Blk.drew ?_)))) hb1); obtain ⟨c00, c01, c02, c03, c04, l0, f0⟩ := K1.out.o5; clear hb1)
    | (go_at_call 6; refine (HCG.out _ (HT.out.below HB1.out) (HG.out.below HB1.out)).mono ?_; rintro r w2 ⟨rfl, hb2⟩; have HB2 := Lib.hid (HB1.out.trans (hb2.mono HB1.out.size)); have hz2 : w.heap.size ≤ w2.heap.size := HB2.out.size; clear c00 c01 c02 c03 c04 l0 f0; have K2 := Lib.hid (show Blk w2 w.heap.size #[(.int .i64 (lk)), (.int .i64 (ht)), .slice A1 M c1, (.int .i64 (rc)), .slice A2 L c2] from Blk.below K1.out hb2); obtain ⟨c00, c01, c02, c03, c04, l0, f0⟩ := K2.out.o5; clear hb2)
    | (go_at_call 9; refine (HAMP.out _ (HL.out.below HB2.out)).mono ?_; rintro r w5 ⟨rfl, hb5⟩; have HB5 := Lib.hid (HB2.out.trans (hb5.mono HB2.out.size))))
  go_ret
  exact ⟨rfl, HB5.out⟩
set_option maxRecDepth 100000 in
set_option maxHeartbeats 4000000 in
theorem played_3 (lk ht rc : Int) (ts gs : List Int) (l : List Sec) (xs : List Int) (A1 A2 A3 A4 : Option Addr) (M L Q N c1 c2 c3 c4 : Nat) (w : World) (hM : M = ts.length) (hL : L = gs.length) (hQ : Q = l.length) (hN : N = xs.length) (hLim : Lim w) (hT : Cells w A1 ts) (hG : Cells w A2 gs) (hS : SCells w A3 l) (hX : Cells w A4 xs) (g0 : M ≤ 9 ∧ L ≤ 9) (g1 : guardErr lk ht rc ts gs = 0) (g2 : M ≤ 3) (b : 20000 < rc) :
    Calls Tryd.prog 3 #[.agg #[(.int .i64 (lk)), (.int .i64 (ht)), .slice A1 M c1, (.int .i64 (rc)), .slice A2 L c2], .slice A3 Q c3, .slice A4 N c4] w fun r w' => r = .returned (.bool true) ∧ Below w.heap.size w w' := by
  have HAMP : Hid (∀ W, Lim W → Calls Tryd.prog 9 #[] W fun r w' => r = .returned (.bool true) ∧ Below W.heap.size W w') := Lib.hid dustAmp_any
  have HSH : Hid (∀ W, Calls Tryd.prog 5 #[.agg #[(.int .i64 (lk)), (.int .i64 (ht)), .slice A1 M c1, (.int .i64 (rc)), .slice A2 L c2]] W fun r w' => r = .returned (.bool true) ∧ Below W.heap.size W w') := Lib.hid (fun W => by
    have := pShort_any lk ht rc A1 A2 M L c1 c2 W
    rwa [decide_eq_true g0] at this)
  have HCG : Hid (∀ W, Cells W A1 ts → Cells W A2 gs → Calls Tryd.prog 6 #[.agg #[(.int .i64 (lk)), (.int .i64 (ht)), .slice A1 M c1, (.int .i64 (rc)), .slice A2 L c2]] W fun r w' => r = .returned (.int .i64 (0)) ∧ Below W.heap.size W w') := Lib.hid (fun W q1 q2 => by
    have := pGuard_any lk ht rc ts gs A1 A2 c1 c2 W q1 q2 (by omega) (by omega)
    rwa [← hM, ← hL, g1] at this)
  have HT := Lib.hid hT
  have HG := Lib.hid hG
  have HS := Lib.hid hS
  have HX := Lib.hid hX
  have HL := Lib.hid hLim
  have j2 : ¬ (3 : Int) < (M : Int) := by omega
  have jb : 20000 < rc := by omega
  clear hM hL hQ hN hLim hT hG hS hX g0 g1 g2
  go_enter Tryd.func3, Tryd.ntmps3
  go_wp2_with (first
    | (go_at_call 5; refine (HSH.out _).mono ?_; rintro r w1 ⟨rfl, hb1⟩; have HB1 := Lib.hid (show Below w.heap.size w w1 from Below.trans (by (repeat (first | (with_reducible exact Below.refl _ _) | ((with_reducible refine Below.setCell ?_ ?_ _); rotate_left 1; focus (first | (simp; done) | (simp; omega) | (simp at *; omega))) | ((with_reducible refine Below.alloc ?_ ?_ _); rotate_left 1; focus (first | (simp; done) | (simp; omega) | (simp at *; omega))) | (with_reducible refine Below.drew ?_) | ((with_reducible refine Calm.step (by assumption) ?_ ?_); rotate_left 1; focus (first | (simp; done) | (simp; omega) | (simp at *; omega)))))) (hb1.mono (by simp))); have hz1 : w.heap.size ≤ w1.heap.size := HB1.out.size; have K1 := Lib.hid (show Blk w1 w.heap.size #[(.int .i64 (lk)), (.int .i64 (ht)), .slice A1 M c1, (.int .i64 (rc)), .slice A2 L c2] from Blk.below (by (repeat (first | ((with_reducible refine Blk.at_ ?_); focus (first | rfl | (simp; done) | (simp; omega))) | (with_reducible refine Blk.alloc ?_ _) | (with_reducible refine Blk.below ?_ (by with_reducible assumption)) | (with_reducible refine Blk.drew ?_)))) hb1); obtain ⟨c00, c01, c02, c03, c04, l0, f0⟩ := K1.out.o5; clear hb1)
    | (go_at_call 6; refine (HCG.out _ (HT.out.below HB1.out) (HG.out.below HB1.out)).mono ?_; rintro r w2 ⟨rfl, hb2⟩; have HB2 := Lib.hid (HB1.out.trans (hb2.mono HB1.out.size)); have hz2 : w.heap.size ≤ w2.heap.size := HB2.out.size; clear c00 c01 c02 c03 c04 l0 f0; have K2 := Lib.hid (show Blk w2 w.heap.size #[(.int .i64 (lk)), (.int .i64 (ht)), .slice A1 M c1, (.int .i64 (rc)), .slice A2 L c2] from Blk.below K1.out hb2); obtain ⟨c00, c01, c02, c03, c04, l0, f0⟩ := K2.out.o5; clear hb2)
    | (go_at_call 9; refine (HAMP.out _ (HL.out.below HB2.out)).mono ?_; rintro r w5 ⟨rfl, hb5⟩; have HB5 := Lib.hid (HB2.out.trans (hb5.mono HB2.out.size))))
  go_ret
  exact ⟨rfl, HB5.out⟩
set_option maxRecDepth 100000 in
set_option maxHeartbeats 4000000 in
theorem played_4 (lk ht rc : Int) (ts gs : List Int) (l : List Sec) (xs : List Int) (A1 A2 A3 A4 : Option Addr) (M L Q N c1 c2 c3 c4 : Nat) (w : World) (hM : M = ts.length) (hL : L = gs.length) (hQ : Q = l.length) (hN : N = xs.length) (hLim : Lim w) (hT : Cells w A1 ts) (hG : Cells w A2 gs) (hS : SCells w A3 l) (hX : Cells w A4 xs) (g0 : M ≤ 9 ∧ L ≤ 9) (g1 : guardErr lk ht rc ts gs = 0) (g2 : M ≤ 3) (g3 : rc ≤ 20000) (b : 3 < Q) :
    Calls Tryd.prog 3 #[.agg #[(.int .i64 (lk)), (.int .i64 (ht)), .slice A1 M c1, (.int .i64 (rc)), .slice A2 L c2], .slice A3 Q c3, .slice A4 N c4] w fun r w' => r = .returned (.bool true) ∧ Below w.heap.size w w' := by
  have HAMP : Hid (∀ W, Lim W → Calls Tryd.prog 9 #[] W fun r w' => r = .returned (.bool true) ∧ Below W.heap.size W w') := Lib.hid dustAmp_any
  have HSH : Hid (∀ W, Calls Tryd.prog 5 #[.agg #[(.int .i64 (lk)), (.int .i64 (ht)), .slice A1 M c1, (.int .i64 (rc)), .slice A2 L c2]] W fun r w' => r = .returned (.bool true) ∧ Below W.heap.size W w') := Lib.hid (fun W => by
    have := pShort_any lk ht rc A1 A2 M L c1 c2 W
    rwa [decide_eq_true g0] at this)
  have HCG : Hid (∀ W, Cells W A1 ts → Cells W A2 gs → Calls Tryd.prog 6 #[.agg #[(.int .i64 (lk)), (.int .i64 (ht)), .slice A1 M c1, (.int .i64 (rc)), .slice A2 L c2]] W fun r w' => r = .returned (.int .i64 (0)) ∧ Below W.heap.size W w') := Lib.hid (fun W q1 q2 => by
    have := pGuard_any lk ht rc ts gs A1 A2 c1 c2 W q1 q2 (by omega) (by omega)
    rwa [← hM, ← hL, g1] at this)
  have HT := Lib.hid hT
  have HG := Lib.hid hG
  have HS := Lib.hid hS
  have HX := Lib.hid hX
  have HL := Lib.hid hLim
  have j2 : ¬ (3 : Int) < (M : Int) := by omega
  have j3 : ¬ 20000 < rc := by omega
  have jb : (3 : Int) < (Q : Int) := by omega
  clear hM hL hQ hN hLim hT hG hS hX g0 g1 g2 g3
  go_enter Tryd.func3, Tryd.ntmps3
  go_wp2_with (first
    | (go_at_call 5; refine (HSH.out _).mono ?_; rintro r w1 ⟨rfl, hb1⟩; have HB1 := Lib.hid (show Below w.heap.size w w1 from Below.trans (by (repeat (first | (with_reducible exact Below.refl _ _) | ((with_reducible refine Below.setCell ?_ ?_ _); rotate_left 1; focus (first | (simp; done) | (simp; omega) | (simp at *; omega))) | ((with_reducible refine Below.alloc ?_ ?_ _); rotate_left 1; focus (first | (simp; done) | (simp; omega) | (simp at *; omega))) | (with_reducible refine Below.drew ?_) | ((with_reducible refine Calm.step (by assumption) ?_ ?_); rotate_left 1; focus (first | (simp; done) | (simp; omega) | (simp at *; omega)))))) (hb1.mono (by simp))); have hz1 : w.heap.size ≤ w1.heap.size := HB1.out.size; have K1 := Lib.hid (show Blk w1 w.heap.size #[(.int .i64 (lk)), (.int .i64 (ht)), .slice A1 M c1, (.int .i64 (rc)), .slice A2 L c2] from Blk.below (by (repeat (first | ((with_reducible refine Blk.at_ ?_); focus (first | rfl | (simp; done) | (simp; omega))) | (with_reducible refine Blk.alloc ?_ _) | (with_reducible refine Blk.below ?_ (by with_reducible assumption)) | (with_reducible refine Blk.drew ?_)))) hb1); obtain ⟨c00, c01, c02, c03, c04, l0, f0⟩ := K1.out.o5; clear hb1)
    | (go_at_call 6; refine (HCG.out _ (HT.out.below HB1.out) (HG.out.below HB1.out)).mono ?_; rintro r w2 ⟨rfl, hb2⟩; have HB2 := Lib.hid (HB1.out.trans (hb2.mono HB1.out.size)); have hz2 : w.heap.size ≤ w2.heap.size := HB2.out.size; clear c00 c01 c02 c03 c04 l0 f0; have K2 := Lib.hid (show Blk w2 w.heap.size #[(.int .i64 (lk)), (.int .i64 (ht)), .slice A1 M c1, (.int .i64 (rc)), .slice A2 L c2] from Blk.below K1.out hb2); obtain ⟨c00, c01, c02, c03, c04, l0, f0⟩ := K2.out.o5; clear hb2)
    | (go_at_call 9; refine (HAMP.out _ (HL.out.below HB2.out)).mono ?_; rintro r w5 ⟨rfl, hb5⟩; have HB5 := Lib.hid (HB2.out.trans (hb5.mono HB2.out.size))))
  go_ret
  exact ⟨rfl, HB5.out⟩
set_option maxRecDepth 100000 in
set_option maxHeartbeats 4000000 in
theorem played_5 (lk ht rc : Int) (ts gs : List Int) (l : List Sec) (xs : List Int) (A1 A2 A3 A4 : Option Addr) (M L Q N c1 c2 c3 c4 : Nat) (w : World) (hM : M = ts.length) (hL : L = gs.length) (hQ : Q = l.length) (hN : N = xs.length) (hLim : Lim w) (hT : Cells w A1 ts) (hG : Cells w A2 gs) (hS : SCells w A3 l) (hX : Cells w A4 xs) (g0 : M ≤ 9 ∧ L ≤ 9) (g1 : guardErr lk ht rc ts gs = 0) (g2 : M ≤ 3) (g3 : rc ≤ 20000) (g4 : Q ≤ 3) (b : secsErr l ≠ 0) :
    Calls Tryd.prog 3 #[.agg #[(.int .i64 (lk)), (.int .i64 (ht)), .slice A1 M c1, (.int .i64 (rc)), .slice A2 L c2], .slice A3 Q c3, .slice A4 N c4] w fun r w' => r = .returned (.bool true) ∧ Below w.heap.size w w' := by
  have HAMP : Hid (∀ W, Lim W → Calls Tryd.prog 9 #[] W fun r w' => r = .returned (.bool true) ∧ Below W.heap.size W w') := Lib.hid dustAmp_any
  have HSH : Hid (∀ W, Calls Tryd.prog 5 #[.agg #[(.int .i64 (lk)), (.int .i64 (ht)), .slice A1 M c1, (.int .i64 (rc)), .slice A2 L c2]] W fun r w' => r = .returned (.bool true) ∧ Below W.heap.size W w') := Lib.hid (fun W => by
    have := pShort_any lk ht rc A1 A2 M L c1 c2 W
    rwa [decide_eq_true g0] at this)
  have HCG : Hid (∀ W, Cells W A1 ts → Cells W A2 gs → Calls Tryd.prog 6 #[.agg #[(.int .i64 (lk)), (.int .i64 (ht)), .slice A1 M c1, (.int .i64 (rc)), .slice A2 L c2]] W fun r w' => r = .returned (.int .i64 (0)) ∧ Below W.heap.size W w') := Lib.hid (fun W q1 q2 => by
    have := pGuard_any lk ht rc ts gs A1 A2 c1 c2 W q1 q2 (by omega) (by omega)
    rwa [← hM, ← hL, g1] at this)
  obtain ⟨E, hE⟩ : ∃ E, E = secsErr l := ⟨_, rfl⟩
  rw [← hE] at b
  have HCS : Hid (∀ W, SCells W A3 l → Calls Tryd.prog 7 #[.slice A3 Q c3] W fun r w' => r = .returned (.int .i64 (E)) ∧ Below W.heap.size W w') := Lib.hid (fun W q1 => by
    have := tSections_any l A3 c3 W q1 (by omega)
    rwa [← hQ, ← hE] at this)
  have HT := Lib.hid hT
  have HG := Lib.hid hG
  have HS := Lib.hid hS
  have HX := Lib.hid hX
  have HL := Lib.hid hLim
  have j2 : ¬ (3 : Int) < (M : Int) := by omega
  have j3 : ¬ 20000 < rc := by omega
  have j4 : ¬ (3 : Int) < (Q : Int) := by omega
  clear hM hL hQ hN hLim hT hG hS hX g0 g1 g2 g3 g4 hE
  go_enter Tryd.func3, Tryd.ntmps3
  go_wp2_with (first
    | (go_at_call 5; refine (HSH.out _).mono ?_; rintro r w1 ⟨rfl, hb1⟩; have HB1 := Lib.hid (show Below w.heap.size w w1 from Below.trans (by (repeat (first | (with_reducible exact Below.refl _ _) | ((with_reducible refine Below.setCell ?_ ?_ _); rotate_left 1; focus (first | (simp; done) | (simp; omega) | (simp at *; omega))) | ((with_reducible refine Below.alloc ?_ ?_ _); rotate_left 1; focus (first | (simp; done) | (simp; omega) | (simp at *; omega))) | (with_reducible refine Below.drew ?_) | ((with_reducible refine Calm.step (by assumption) ?_ ?_); rotate_left 1; focus (first | (simp; done) | (simp; omega) | (simp at *; omega)))))) (hb1.mono (by simp))); have hz1 : w.heap.size ≤ w1.heap.size := HB1.out.size; have K1 := Lib.hid (show Blk w1 w.heap.size #[(.int .i64 (lk)), (.int .i64 (ht)), .slice A1 M c1, (.int .i64 (rc)), .slice A2 L c2] from Blk.below (by (repeat (first | ((with_reducible refine Blk.at_ ?_); focus (first | rfl | (simp; done) | (simp; omega))) | (with_reducible refine Blk.alloc ?_ _) | (with_reducible refine Blk.below ?_ (by with_reducible assumption)) | (with_reducible refine Blk.drew ?_)))) hb1); obtain ⟨c00, c01, c02, c03, c04, l0, f0⟩ := K1.out.o5; clear hb1)
    | (go_at_call 6; refine (HCG.out _ (HT.out.below HB1.out) (HG.out.below HB1.out)).mono ?_; rintro r w2 ⟨rfl, hb2⟩; have HB2 := Lib.hid (HB1.out.trans (hb2.mono HB1.out.size)); have hz2 : w.heap.size ≤ w2.heap.size := HB2.out.size; clear c00 c01 c02 c03 c04 l0 f0; have K2 := Lib.hid (show Blk w2 w.heap.size #[(.int .i64 (lk)), (.int .i64 (ht)), .slice A1 M c1, (.int .i64 (rc)), .slice A2 L c2] from Blk.below K1.out hb2); obtain ⟨c00, c01, c02, c03, c04, l0, f0⟩ := K2.out.o5; clear hb2)
    | (go_at_call 7; refine (HCS.out _ (HS.out.below HB2.out)).mono ?_; rintro r w3 ⟨rfl, hb3⟩; have HB3 := Lib.hid (HB2.out.trans (hb3.mono HB2.out.size)); clear hb3)
    | (go_at_call 9; refine (HAMP.out _ (HL.out.below HB3.out)).mono ?_; rintro r w5 ⟨rfl, hb5⟩; have HB5 := Lib.hid (HB3.out.trans (hb5.mono HB3.out.size))))
  go_ret
  exact ⟨rfl, HB5.out⟩
set_option maxRecDepth 100000 in
set_option maxHeartbeats 4000000 in
theorem played_6 (lk ht rc : Int) (ts gs : List Int) (l : List Sec) (xs : List Int) (A1 A2 A3 A4 : Option Addr) (M L Q N c1 c2 c3 c4 : Nat) (w : World) (hM : M = ts.length) (hL : L = gs.length) (hQ : Q = l.length) (hN : N = xs.length) (hLim : Lim w) (hT : Cells w A1 ts) (hG : Cells w A2 gs) (hS : SCells w A3 l) (hX : Cells w A4 xs) (g0 : M ≤ 9 ∧ L ≤ 9) (g1 : guardErr lk ht rc ts gs = 0) (g2 : M ≤ 3) (g3 : rc ≤ 20000) (g4 : Q ≤ 3) (g5 : secsErr l = 0) (b : 24 < N) :
    Calls Tryd.prog 3 #[.agg #[(.int .i64 (lk)), (.int .i64 (ht)), .slice A1 M c1, (.int .i64 (rc)), .slice A2 L c2], .slice A3 Q c3, .slice A4 N c4] w fun r w' => r = .returned (.bool true) ∧ Below w.heap.size w w' := by
  have HAMP : Hid (∀ W, Lim W → Calls Tryd.prog 9 #[] W fun r w' => r = .returned (.bool true) ∧ Below W.heap.size W w') := Lib.hid dustAmp_any
  have HSH : Hid (∀ W, Calls Tryd.prog 5 #[.agg #[(.int .i64 (lk)), (.int .i64 (ht)), .slice A1 M c1, (.int .i64 (rc)), .slice A2 L c2]] W fun r w' => r = .returned (.bool true) ∧ Below W.heap.size W w') := Lib.hid (fun W => by
    have := pShort_any lk ht rc A1 A2 M L c1 c2 W
    rwa [decide_eq_true g0] at this)
  have HCG : Hid (∀ W, Cells W A1 ts → Cells W A2 gs → Calls Tryd.prog 6 #[.agg #[(.int .i64 (lk)), (.int .i64 (ht)), .slice A1 M c1, (.int .i64 (rc)), .slice A2 L c2]] W fun r w' => r = .returned (.int .i64 (0)) ∧ Below W.heap.size W w') := Lib.hid (fun W q1 q2 => by
    have := pGuard_any lk ht rc ts gs A1 A2 c1 c2 W q1 q2 (by omega) (by omega)
    rwa [← hM, ← hL, g1] at this)
  have HCS : Hid (∀ W, SCells W A3 l → Calls Tryd.prog 7 #[.slice A3 Q c3] W fun r w' => r = .returned (.int .i64 (0)) ∧ Below W.heap.size W w') := Lib.hid (fun W q1 => by
    have := tSections_any l A3 c3 W q1 (by omega)
    rwa [← hQ, g5] at this)
  have HT := Lib.hid hT
  have HG := Lib.hid hG
  have HS := Lib.hid hS
  have HX := Lib.hid hX
  have HL := Lib.hid hLim
  have j2 : ¬ (3 : Int) < (M : Int) := by omega
  have j3 : ¬ 20000 < rc := by omega
  have j4 : ¬ (3 : Int) < (Q : Int) := by omega
  have jb : (24 : Int) < (N : Int) := by omega
  clear hM hL hQ hN hLim hT hG hS hX g0 g1 g2 g3 g4 g5
  go_enter Tryd.func3, Tryd.ntmps3
  go_wp2_with (first
    | (go_at_call 5; refine (HSH.out _).mono ?_; rintro r w1 ⟨rfl, hb1⟩; have HB1 := Lib.hid (show Below w.heap.size w w1 from Below.trans (by (repeat (first | (with_reducible exact Below.refl _ _) | ((with_reducible refine Below.setCell ?_ ?_ _); rotate_left 1; focus (first | (simp; done) | (simp; omega) | (simp at *; omega))) | ((with_reducible refine Below.alloc ?_ ?_ _); rotate_left 1; focus (first | (simp; done) | (simp; omega) | (simp at *; omega))) | (with_reducible refine Below.drew ?_) | ((with_reducible refine Calm.step (by assumption) ?_ ?_); rotate_left 1; focus (first | (simp; done) | (simp; omega) | (simp at *; omega)))))) (hb1.mono (by simp))); have hz1 : w.heap.size ≤ w1.heap.size := HB1.out.size; have K1 := Lib.hid (show Blk w1 w.heap.size #[(.int .i64 (lk)), (.int .i64 (ht)), .slice A1 M c1, (.int .i64 (rc)), .slice A2 L c2] from Blk.below (by (repeat (first | ((with_reducible refine Blk.at_ ?_); focus (first | rfl | (simp; done) | (simp; omega))) | (with_reducible refine Blk.alloc ?_ _) | (with_reducible refine Blk.below ?_ (by with_reducible assumption)) | (with_reducible refine Blk.drew ?_)))) hb1); obtain ⟨c00, c01, c02, c03, c04, l0, f0⟩ := K1.out.o5; clear hb1)
    | (go_at_call 6; refine (HCG.out _ (HT.out.below HB1.out) (HG.out.below HB1.out)).mono ?_; rintro r w2 ⟨rfl, hb2⟩; have HB2 := Lib.hid (HB1.out.trans (hb2.mono HB1.out.size)); have hz2 : w.heap.size ≤ w2.heap.size := HB2.out.size; clear c00 c01 c02 c03 c04 l0 f0; have K2 := Lib.hid (show Blk w2 w.heap.size #[(.int .i64 (lk)), (.int .i64 (ht)), .slice A1 M c1, (.int .i64 (rc)), .slice A2 L c2] from Blk.below K1.out hb2); obtain ⟨c00, c01, c02, c03, c04, l0, f0⟩ := K2.out.o5; clear hb2)
    | (go_at_call 7; refine (HCS.out _ (HS.out.below HB2.out)).mono ?_; rintro r w3 ⟨rfl, hb3⟩; have HB3 := Lib.hid (HB2.out.trans (hb3.mono HB2.out.size)); clear hb3)
    | (go_at_call 9; refine (HAMP.out _ (HL.out.below HB3.out)).mono ?_; rintro r w5 ⟨rfl, hb5⟩; have HB5 := Lib.hid (HB3.out.trans (hb5.mono HB3.out.size))))
  go_ret
  exact ⟨rfl, HB5.out⟩
set_option maxRecDepth 100000 in
set_option maxHeartbeats 4000000 in
theorem played_7 (lk ht rc : Int) (ts gs : List Int) (l : List Sec) (xs : List Int) (A1 A2 A3 A4 : Option Addr) (M L Q N c1 c2 c3 c4 : Nat) (w : World) (hM : M = ts.length) (hL : L = gs.length) (hQ : Q = l.length) (hN : N = xs.length) (hLim : Lim w) (hT : Cells w A1 ts) (hG : Cells w A2 gs) (hS : SCells w A3 l) (hX : Cells w A4 xs) (g0 : M ≤ 9 ∧ L ≤ 9) (g1 : guardErr lk ht rc ts gs = 0) (g2 : M ≤ 3) (g3 : rc ≤ 20000) (g4 : Q ≤ 3) (g5 : secsErr l = 0) (g6 : N ≤ 24) (b : ssigErr xs ≠ 0) :
    Calls Tryd.prog 3 #[.agg #[(.int .i64 (lk)), (.int .i64 (ht)), .slice A1 M c1, (.int .i64 (rc)), .slice A2 L c2], .slice A3 Q c3, .slice A4 N c4] w fun r w' => r = .returned (.bool true) ∧ Below w.heap.size w w' := by
  have HAMP : Hid (∀ W, Lim W → Calls Tryd.prog 9 #[] W fun r w' => r = .returned (.bool true) ∧ Below W.heap.size W w') := Lib.hid dustAmp_any
  have HSH : Hid (∀ W, Calls Tryd.prog 5 #[.agg #[(.int .i64 (lk)), (.int .i64 (ht)), .slice A1 M c1, (.int .i64 (rc)), .slice A2 L c2]] W fun r w' => r = .returned (.bool true) ∧ Below W.heap.size W w') := Lib.hid (fun W => by
    have := pShort_any lk ht rc A1 A2 M L c1 c2 W
    rwa [decide_eq_true g0] at this)
  have HCG : Hid (∀ W, Cells W A1 ts → Cells W A2 gs → Calls Tryd.prog 6 #[.agg #[(.int .i64 (lk)), (.int .i64 (ht)), .slice A1 M c1, (.int .i64 (rc)), .slice A2 L c2]] W fun r w' => r = .returned (.int .i64 (0)) ∧ Below W.heap.size W w') := Lib.hid (fun W q1 q2 => by
    have := pGuard_any lk ht rc ts gs A1 A2 c1 c2 W q1 q2 (by omega) (by omega)
    rwa [← hM, ← hL, g1] at this)
  have HCS : Hid (∀ W, SCells W A3 l → Calls Tryd.prog 7 #[.slice A3 Q c3] W fun r w' => r = .returned (.int .i64 (0)) ∧ Below W.heap.size W w') := Lib.hid (fun W q1 => by
    have := tSections_any l A3 c3 W q1 (by omega)
    rwa [← hQ, g5] at this)
  obtain ⟨E, hE⟩ : ∃ E, E = ssigErr xs := ⟨_, rfl⟩
  rw [← hE] at b
  have HSG : Hid (∀ W, Cells W A4 xs → Calls Tryd.prog 8 #[.slice A4 N c4] W fun r w' => r = .returned (.int .i64 (E)) ∧ W = w') := Lib.hid (fun W q1 => by
    have := tSignal_any xs A4 c4 W q1 (by omega)
    rwa [← hN, ← hE] at this)
  have HT := Lib.hid hT
  have HG := Lib.hid hG
  have HS := Lib.hid hS
  have HX := Lib.hid hX
  have HL := Lib.hid hLim
  have j2 : ¬ (3 : Int) < (M : Int) := by omega
  have j3 : ¬ 20000 < rc := by omega
  have j4 : ¬ (3 : Int) < (Q : Int) := by omega
  have j6 : ¬ (24 : Int) < (N : Int) := by omega
  have b2 : (E != 0) = true := bne_iff_ne.2 b
  have b3 : (E == 0) = false := beq_eq_false_iff_ne.2 b
  clear hM hL hQ hN hLim hT hG hS hX g0 g1 g2 g3 g4 g5 g6 hE
  go_enter Tryd.func3, Tryd.ntmps3
  go_wp2_with (first
    | (go_at_call 5; refine (HSH.out _).mono ?_; rintro r w1 ⟨rfl, hb1⟩; have HB1 := Lib.hid (show Below w.heap.size w w1 from Below.trans (by (repeat (first | (with_reducible exact Below.refl _ _) | ((with_reducible refine Below.setCell ?_ ?_ _); rotate_left 1; focus (first | (simp; done) | (simp; omega) | (simp at *; omega))) | ((with_reducible refine Below.alloc ?_ ?_ _); rotate_left 1; focus (first | (simp; done) | (simp; omega) | (simp at *; omega))) | (with_reducible refine Below.drew ?_) | ((with_reducible refine Calm.step (by assumption) ?_ ?_); rotate_left 1; focus (first | (simp; done) | (simp; omega) | (simp at *; omega)))))) (hb1.mono (by simp))); have hz1 : w.heap.size ≤ w1.heap.size := HB1.out.size; have K1 := Lib.hid (show Blk w1 w.heap.size #[(.int .i64 (lk)), (.int .i64 (ht)), .slice A1 M c1, (.int .i64 (rc)), .slice A2 L c2] from Blk.below (by (repeat (first | ((with_reducible refine Blk.at_ ?_); focus (first | rfl | (simp; done) | (simp; omega))) | (with_reducible refine Blk.alloc ?_ _) | (with_reducible refine Blk.below ?_ (by with_reducible assumption)) | (with_reducible refine Blk.drew ?_)))) hb1); obtain ⟨c00, c01, c02, c03, c04, l0, f0⟩ := K1.out.o5; clear hb1)
    | (go_at_call 6; refine (HCG.out _ (HT.out.below HB1.out) (HG.out.below HB1.out)).mono ?_; rintro r w2 ⟨rfl, hb2⟩; have HB2 := Lib.hid (HB1.out.trans (hb2.mono HB1.out.size)); have hz2 : w.heap.size ≤ w2.heap.size := HB2.out.size; clear c00 c01 c02 c03 c04 l0 f0; have K2 := Lib.hid (show Blk w2 w.heap.size #[(.int .i64 (lk)), (.int .i64 (ht)), .slice A1 M c1, (.int .i64 (rc)), .slice A2 L c2] from Blk.below K1.out hb2); obtain ⟨c00, c01, c02, c03, c04, l0, f0⟩ := K2.out.o5; clear hb2)
    | (go_at_call 7; refine (HCS.out _ (HS.out.below HB2.out)).mono ?_; rintro r w3 ⟨rfl, hb3⟩; have HB3 := Lib.hid (HB2.out.trans (hb3.mono HB2.out.size)); clear hb3)
    | (go_at_call 8; refine (HSG.out _ (HX.out.below HB3.out)).mono ?_; rintro r w4 ⟨rfl, rfl⟩)
    | (go_at_call 9; refine (HAMP.out _ (HL.out.below HB3.out)).mono ?_; rintro r w5 ⟨rfl, hb5⟩; have HB5 := Lib.hid (HB3.out.trans (hb5.mono HB3.out.size))))
  go_ret
  exact ⟨rfl, HB5.out⟩
end Go.Proofs.YtleemphfkhbhaaaDoor

/- A slice of sections that grows; append([]int{}, l...); the greatest of three. -/
namespace Go.Proofs.YtleemphfkhbhaaaDoor
open Go.RowKit
open Calm (bcell Blk)

def secC (s : Sec) : List Value := [(.int .i64 (s.b0)), (.int .i64 (s.b1)), (.int .i64 (s.b2)), (.int .i64 (s.a1)), (.int .i64 (s.a2)), (.int .i64 (s.sh))]
def flatS (l : List Sec) : List Value := l.flatMap secC
theorem flatS_at : ∀ (xs : List Sec) (k : Nat), k < xs.length →
    (flatS xs)[k * 6]? = some (.int .i64 ((xs.getD k Sec0).b0)) ∧ (flatS xs)[k * 6 + 1]? = some (.int .i64 ((xs.getD k Sec0).b1)) ∧ (flatS xs)[k * 6 + 2]? = some (.int .i64 ((xs.getD k Sec0).b2)) ∧
    (flatS xs)[k * 6 + 3]? = some (.int .i64 ((xs.getD k Sec0).a1)) ∧ (flatS xs)[k * 6 + 4]? = some (.int .i64 ((xs.getD k Sec0).a2)) ∧ (flatS xs)[k * 6 + 5]? = some (.int .i64 ((xs.getD k Sec0).sh))
  | [], k, h => by simp at h
  | z :: zs, 0, h => by simp [flatS, secC]
  | z :: zs, k + 1, h => by
    have := flatS_at zs k (by simpa using h)
    rw [show (k + 1) * 6 = k * 6 + 6 by omega, show k * 6 + 6 + 1 = (k * 6 + 1) + 6 by omega, show k * 6 + 6 + 2 = (k * 6 + 2) + 6 by omega, show k * 6 + 6 + 3 = (k * 6 + 3) + 6 by omega, show k * 6 + 6 + 4 = (k * 6 + 4) + 6 by omega, show k * 6 + 6 + 5 = (k * 6 + 5) + 6 by omega]
    simpa [flatS, secC] using this
theorem own_secs {W : World} {base n : Nat} {e : TypeId} {v : Value} {xs : List Sec} (h : W.ownsRow base e 6 v n (flatS xs)) (hn : n = xs.length) : ∃ A c, v = .slice A n c ∧ (∀ p, A = some p → base ≤ p.block) ∧ SCells W A xs := by
  rcases h.2 with ⟨h1, h2⟩ | ⟨g, cap, cur, h1, h2, h3, h4, h5, h6, h7⟩
  · exact ⟨none, 0, by rw [h1, h2], by simp, fun h0 => by omega⟩
  · refine ⟨some ⟨g, 0, none⟩, cap, h1, by rintro p ⟨⟩; exact h2, fun h0 => ⟨g, 0, rfl, (Array.getElem?_eq_some_iff.1 h3).1, fun k hk => ?_⟩⟩
    obtain ⟨f1, f2, f3, f4, f5, f6⟩ := flatS_at xs k hk
    have look : ∀ j v, (flatS xs)[j]? = some v → W.cell? ⟨g, j, none⟩ = some v := by
      intro j v hj
      rw [cell_of_row W g j cur _ _ h3]
      rw [← h7, List.getElem?_take] at hj
      split at hj
      · rw [← hj]; simp
      · cases hj
    simp only [Nat.zero_add]
    exact ⟨look _ _ f1, look _ _ f2, look _ _ f3, look _ _ f4, look _ _ f5, look _ _ f6⟩
theorem take_flatS {zs : List Sec} {k : Nat} (hk : k < zs.length) : flatS (zs.take (k + 1)) = flatS (zs.take k) ++ secC (zs.getD k Sec0) := by
  unfold flatS
  rw [List.take_succ_eq_append_getElem hk, List.flatMap_append, List.getD_eq_getElem?_getD, List.getElem?_eq_getElem hk]
  rfl
theorem Tryd.infoSec : (Tryd.prog.info? 34).map (fun i => (i.zero, i.size, i.bytes)) = some (some (.agg #[.int .i64 0, .int .i64 0, .int .i64 0, .int .i64 0, .int .i64 0, .int .i64 0]), 6, 48) := by kernel_rfl

/-- append([]int{}, l...). -/
theorem wpList_appI {w : World} {ops : Array Oper} {rest : List Oper} {o : Oper} {a : Act} {Q : Exit → Act → World → Prop} (hgd : o.guard = none) (s x : Operand)
    (ho : o.op = .call { callee := .builtin .append, args := #[s, x], argTypes := #[22, 22] }) (g n c : Nat) (A : Option Addr) (xs : List Int) (hn : n = xs.length)
    (hs : a.eval s = .slice (some ⟨g, 0, none⟩) 0 0) (hx : a.eval x = .slice A n c) (hg : g < w.heap.size) (h5 : n ≤ 100000) (hC : Cells w A xs)
    (h : ∀ B d w', Below w.heap.size w w' → (∀ p, B = some p → g ≤ p.block) → Cells w' B xs → wpList Tryd.prog ops Q rest (a.put o.dst (.slice B n d)) w') : wpList Tryd.prog ops Q (o :: rest) a w := by
  obtain ⟨i0, hi, hz0, hz1, hz2⟩ := info_parts Tryd.infoI
  refine wpList_plain hgd fun K hK => ?_
  rcases Nat.eq_zero_or_pos n with h0 | h0
  · subst h0
    obtain rfl : xs = [] := List.eq_nil_of_length_eq_zero hn.symm
    have hrun := Rel.run_append_zero (P := Tryd.prog) w 22 o.type 3 i0 _ Tryd.underlying22 hi hz0 ⟨g, 0, none⟩ A c
    unfold Oper.wp
    simp [execOp, ho, resolve, invoke, builtin, hs, hx, hrun, Result.andThen]
    exact hK _ _ (h (some ⟨g, 0, none⟩) 0 w (Below.refl _ _) (by rintro p ⟨⟩; exact Nat.le_refl _) (fun h => absurd h (by simp)))
  · obtain ⟨b, off, rfl, hb, hc⟩ := hC (by omega)
    obtain ⟨v', w', hrun, r1, r2⟩ := run_append_arg_grows (P := Tryd.prog) w 22 o.type 3 i0 _ 1 8 Tryd.underlying22 hi hz0 hz1 hz2 rfl (by decide) ⟨g, 0, none⟩ 0 0 [] (by simp) (by simp) ⟨b, off, none⟩ n c (xs.map (Value.int .i64)) (by simp; omega) (fun j v hj => cells_src hc j v hj) (by omega) (by unfold maxLen; omega) (by omega)
    unfold Oper.wp
    simp [execOp, ho, resolve, invoke, builtin, hs, hx, hrun, Result.andThen]
    have r1' : w'.ownsRow w.heap.size 3 1 v' n (xs.map (Value.int .i64)) := by simpa using r1
    obtain ⟨B, d, rfl, hf, hcc⟩ := own_ints r1' hn
    exact hK _ _ (h B d w' ((Below.refl w.heap.size w).grown r2 (Nat.le_refl _) (fun k hk => by cases hk)) (fun p e => by have := hf p e; omega) hcc)
/-- an array of three, sliced. -/
theorem sl3 (b : Nat) (W : World) : Sem.run Tryd.prog (Instr.sliceAt 42 (.pointer (some ⟨b, 0, none⟩)) none none none) W = .ok (.slice (some ⟨b, 0, none⟩) 3 3) W := by
  have ht : Tryd.prog.underlying 42 = some (.array 3 3) := by kernel_rfl
  obtain ⟨i0, hi, hz0, hz1, hz2⟩ := info_parts Tryd.infoI
  simp [Instr.sliceAt, run_underlying ht, Instr.sliceBounds, Instr.sureAddr, sizeOf, typeInfo, hi, Addr.add]
theorem taps_row {ts : List Int} (h : ts.length ≤ 3) : (ts.map (Value.int .i64) ++ (#[(.int .i64 (0)), (.int .i64 (0)), (.int .i64 (0))] : Array Value).toList.drop ts.length).toArray = #[(.int .i64 (ts.getD 0 0)), (.int .i64 (ts.getD 1 0)), (.int .i64 (ts.getD 2 0))] := by
  match ts, h with
  | [], _ => rfl
  | [_], _ => rfl
  | [_, _], _ => rfl
  | [_, _, _], _ => rfl
  | _ :: _ :: _ :: _ :: _, h => simp at h
/-- a store into a slice. -/
theorem Cells.setAt {w : World} {b o : Nat} {zs : List Int} (h : Cells w (some ⟨b, o, none⟩) zs) {k : Nat} (hk : k < zs.length) (v : Int) : Cells (w.setCell ⟨b, o + k, none⟩ (.int .i64 (v))) (some ⟨b, o, none⟩) (zs.set k v) := by
  intro h0
  obtain ⟨b', o', hA, hl, hc⟩ := h (by omega)
  cases hA
  refine ⟨b, o, rfl, by simpa using hl, fun j hj => ?_⟩
  have hj' : j < zs.length := by simpa using hj
  by_cases hjk : j = k
  · subst hjk
    rw [World.cell?_setCell_same' _ _ _ (by rw [hc j hj']; rfl)]
    simp [List.getD_eq_getElem?_getD, hk]
  · rw [World.cell?_setCell_other _ _ _ _ (by intro e; have e2 := congrArg Addr.off e; simp at e2; omega), hc j hj']
    simp [List.getD_eq_getElem?_getD, List.getElem?_set, hj', show ¬ k = j by omega]
/-- the first k numbers are sixteenths. -/
def mixK (ms : List Int) (k : Nat) : List Int := q16 (ms.take k) ++ ms.drop k
theorem mixK_len (ms : List Int) (k : Nat) : (mixK ms k).length = ms.length := by simp [mixK, q16]; omega
theorem mixK_zero (ms : List Int) : mixK ms 0 = ms := by simp [mixK, q16]
theorem mixK_all (ms : List Int) {n : Nat} (h : n = ms.length) : mixK ms n = q16 ms := by subst h; simp [mixK]
theorem mixK_get {ms : List Int} {k : Nat} (h : k < ms.length) : (mixK ms k).getD k 0 = ms.getD k 0 := by
  have hl : (q16 (ms.take k)).length = k := by simp [q16]; omega
  unfold mixK
  rw [List.getD_eq_getElem?_getD, List.getElem?_append_right (by omega), hl, Nat.sub_self, List.getElem?_drop, Nat.add_zero, ← List.getD_eq_getElem?_getD]
theorem mixK_set {ms : List Int} {k : Nat} (h : k < ms.length) : (mixK ms k).set k (Int.tdiv (ms.getD k 0) 16) = mixK ms (k + 1) := by
  have hl : (q16 (ms.take k)).length = k := by simp [q16]; omega
  unfold mixK
  rw [List.set_append_right _ _ (by omega), hl, Nat.sub_self, List.drop_eq_getElem_cons h, List.set_cons_zero, List.take_succ_eq_append_getElem h]
  unfold q16
  rw [List.map_append, List.append_assoc, List.getD_eq_getElem?_getD, List.getElem?_eq_getElem h]
  rfl
/-- what a run hands out. -/
def RunT (n : Nat) (zs : List Int) : Rel.Know := fun u W => ∃ B d, u = .tuple #[.slice B n d, (.int .i64 (0))] ∧ Cells W B zs
theorem RunT.stable (n : Nat) (zs : List Int) : Rel.Stable (RunT n zs) := fun _ _ _ ⟨B, d, h1, h2⟩ hb => ⟨B, d, h1, h2.below hb⟩
def RunS (n : Nat) (zs : List Int) : Rel.Know := fun u W => ∃ B d, u = .slice B n d ∧ Cells W B zs
theorem RunS.stable (n : Nat) (zs : List Int) : Rel.Stable (RunS n zs) := fun _ _ _ ⟨B, d, h1, h2⟩ hb => ⟨B, d, h1, h2.below hb⟩
theorem max3_any (ts : Array TypeId) (t : TypeId) (x y z : Int) (W : World) : (Builtin.max_ ts t #[(.int .i64 (x)), (.int .i64 (y)), (.int .i64 (z))]).run Tryd.prog W = .ok (.int .i64 (mx (mx x y) z)) W := by
  simp [Builtin.max_, Builtin.max2, mx]
end Go.Proofs.YtleemphfkhbhaaaDoor
