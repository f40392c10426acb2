/- Part 7 of the texts of the claim: P16, P17, S4, IterM, S5, S6, S7, CopyI, S8, J1, J2, J3. -/
import Derived.Test.YtdeapbihbhoefaaDoorLz4
import Derived.Test.YtdeapbihbhoefaaDoorLz6
import Derived.Test.YtdeapbihbhoefaaDoorLz5
import Derived.ChangeKeysEq
import Derived.RangeFuncNested
import Derived.RangeFuncBound
import Derived.RangeFuncCalls
import Derived.RangeFuncLeaves
import Derived.Test.YtdeapbihbhoefaaDoorLz2
import Derived.Shelf.Abstract
import Derived.OwnWalkIn
import Derived.TacticsInMore
import Derived.LoopNIn
import Derived.LoopIn
import Derived.RangeFuncBox
import Derived.Test.YtdeapbihbhoefaaDoorLz3
import Derived.Laws.CopyRow

/- Contracts of checkSignal, checkRun, Run and Levels. -/
namespace Go.Proofs.YtdeapbihbhoefaaDoor
open Go.RowKit
open Calm (bcell Blk)

/-- the error of a signal. -/
def sigErr (xs : List Int) : Int := firstOf [if 4096 < xs.length then 5 else 0, eachErr xs (-2048) 2048]
theorem checkSignal_any (xs : List Int) (A : Option Addr) (c : Nat) (w : World) (hC : Cells w A xs) (hn : xs.length ≤ 5000) :
    Calls Tryd.prog 95 #[.slice A xs.length c] w fun r w' => r = .returned (.int .i64 (sigErr xs)) ∧ Below w.heap.size w w' := by
  have HE : Hid (∀ W, Cells W A xs → Calls Tryd.prog 73 #[.slice A xs.length c, (.int .i64 (-2048)), (.int .i64 2048)] W fun r w' => r = .returned (.int .i64 (eachErr xs (-2048) 2048)) ∧ Below W.heap.size W w') := Lib.hid (fun W q => each_any A xs c (-2048) 2048 W q hn)
  have HS : Hid (sigErr xs = firstOf [if 4096 < xs.length then 5 else 0, eachErr xs (-2048) 2048]) := Lib.hid rfl
  have HC := Lib.hid hC
  obtain ⟨R, hR⟩ : ∃ R, R = sigErr xs := ⟨_, rfl⟩
  rw [← hR] at HS ⊢
  generalize xs.length = N at *
  clear hR hC
  by_cases h0 : 4096 < N
  · have h1 : (4096 : Int) < (N : Int) := by omega
    have HS2 : Hid (firstOf [5, eachErr xs (-2048) 2048] = R) := Lib.hid (by rw [HS.out, if_pos h0])
    clear HS
    go_enter Tryd.func95, Tryd.ntmps95
    go_wp2_with (first
      | (go_at_call 74; refine (when_any _ _ _).mono ?_; rintro r w' ⟨rfl, rfl⟩)
      | (go_at_call 73; refine (HE.out _ HC.out).mono ?_; rintro r w1 ⟨rfl, hb1⟩)
      | (go_at_call 70; refine (first2_new _ _ _).mono ?_; rintro r w2 ⟨rfl, rfl⟩))
    go_ret
    exact ⟨ret_i HS2.out, hb1.alloc hb1.size _⟩
  · have h1 : ¬ (4096 : Int) < (N : Int) := by omega
    have HS2 : Hid (firstOf [0, eachErr xs (-2048) 2048] = R) := Lib.hid (by rw [HS.out, if_neg h0])
    clear HS
    go_enter Tryd.func95, Tryd.ntmps95
    go_wp2_with (first
      | (go_at_call 74; refine (when_any _ _ _).mono ?_; rintro r w' ⟨rfl, rfl⟩)
      | (go_at_call 73; refine (HE.out _ HC.out).mono ?_; rintro r w1 ⟨rfl, hb1⟩)
      | (go_at_call 70; refine (first2_new _ _ _).mono ?_; rintro r w2 ⟨rfl, rfl⟩))
    go_ret
    exact ⟨ret_i HS2.out, hb1.alloc hb1.size _⟩
/-- the error of a guard and a signal. -/
def runErr (lk ht rc : Int) (ts gs xs : List Int) : Int := firstOf [guardErr lk ht rc ts gs, sigErr xs]
theorem checkRun_any (lk ht rc : Int) (ts gs xs : List Int) (A1 A2 A3 : Option Addr) (c1 c2 c3 : Nat) (w : World) (hT : Cells w A1 ts) (hG : Cells w A2 gs) (hX : Cells w A3 xs) (h1 : ts.length ≤ 5000) (h2 : gs.length ≤ 5000) (h3 : xs.length ≤ 5000) :
    Calls Tryd.prog 86 #[.agg #[(.int .i64 lk), (.int .i64 ht), .slice A1 ts.length c1, (.int .i64 rc), .slice A2 gs.length c2], .slice A3 xs.length c3] w fun r w' => r = .returned (.int .i64 (runErr lk ht rc ts gs xs)) ∧ Below w.heap.size w w' := by
  have HCG : Hid (∀ W, Cells W A1 ts → Cells W A2 gs → Calls Tryd.prog 20 #[.agg #[(.int .i64 lk), (.int .i64 ht), .slice A1 ts.length c1, (.int .i64 rc), .slice A2 gs.length c2]] W fun r w' => r = .returned (.int .i64 (guardErr lk ht rc ts gs)) ∧ Below W.heap.size W w') := Lib.hid (fun W q1 q2 => checkGuard_any lk ht rc ts gs A1 A2 c1 c2 W q1 q2 h1 h2)
  have HCS : Hid (∀ W, Cells W A3 xs → Calls Tryd.prog 95 #[.slice A3 xs.length c3] W fun r w' => r = .returned (.int .i64 (sigErr xs)) ∧ Below W.heap.size W w') := Lib.hid (fun W q => checkSignal_any xs A3 c3 W q h3)
  have HS : Hid (firstOf [guardErr lk ht rc ts gs, sigErr xs] = runErr lk ht rc ts gs xs) := Lib.hid rfl
  have HT := Lib.hid hT
  have HG := Lib.hid hG
  have HX := Lib.hid hX
  obtain ⟨R, hR⟩ : ∃ R, R = runErr lk ht rc ts gs xs := ⟨_, rfl⟩
  rw [← hR] at HS ⊢
  generalize xs.length = N at *
  generalize ts.length = M at *
  generalize gs.length = L at *
  clear hR hT hG hX
  go_enter Tryd.func86, Tryd.ntmps86
  go_wp2_with (first
    | (go_at_call 20; refine (HCG.out _ (HT.out.below (by (repeat (first | (with_reducible exact Below.refl _ _) | ((with_reducible refine Below.setCell ?_ ?_ _); rotate_left 1; focus (first | (simp; done) | (simp; omega) | (simp at *; omega))) | ((with_reducible refine Below.alloc ?_ ?_ _); rotate_left 1; focus (first | (simp; done) | (simp; omega) | (simp at *; omega))) | (with_reducible refine Below.drew ?_) | ((with_reducible refine Calm.step (by assumption) ?_ ?_); rotate_left 1; focus (first | (simp; done) | (simp; omega) | (simp at *; omega))))))) (HG.out.below (by (repeat (first | (with_reducible exact Below.refl _ _) | ((with_reducible refine Below.setCell ?_ ?_ _); rotate_left 1; focus (first | (simp; done) | (simp; omega) | (simp at *; omega))) | ((with_reducible refine Below.alloc ?_ ?_ _); rotate_left 1; focus (first | (simp; done) | (simp; omega) | (simp at *; omega))) | (with_reducible refine Below.drew ?_) | ((with_reducible refine Calm.step (by assumption) ?_ ?_); rotate_left 1; focus (first | (simp; done) | (simp; omega) | (simp at *; omega)))))))).mono ?_; rintro r w1 ⟨rfl, hb1⟩; have HB1 := Lib.hid (show Below w.heap.size w w1 from Below.trans (by (repeat (first | (with_reducible exact Below.refl _ _) | ((with_reducible refine Below.setCell ?_ ?_ _); rotate_left 1; focus (first | (simp; done) | (simp; omega) | (simp at *; omega))) | ((with_reducible refine Below.alloc ?_ ?_ _); rotate_left 1; focus (first | (simp; done) | (simp; omega) | (simp at *; omega))) | (with_reducible refine Below.drew ?_) | ((with_reducible refine Calm.step (by assumption) ?_ ?_); rotate_left 1; focus (first | (simp; done) | (simp; omega) | (simp at *; omega)))))) (hb1.mono (by simp))); clear hb1)
    | (go_at_call 95; refine (HCS.out _ (HX.out.below HB1.out)).mono ?_; rintro r w2 ⟨rfl, hb2⟩; have HB2 := Lib.hid (HB1.out.trans (hb2.mono HB1.out.size)); clear hb2)
    | (go_at_call 70; refine (first2_new _ _ _).mono ?_; rintro r w3 ⟨rfl, rfl⟩))
  go_ret
  exact ⟨ret_i HS.out, HB2.out.alloc HB2.out.size _⟩
theorem run_ok (lk ht rc : Int) (ts gs xs : List Int) (A1 A2 A3 : Option Addr) (c1 c2 c3 : Nat) (w : World) (hL : Lim w) (hV : Valid lk ht rc ts gs) (hT : Cells w A1 ts) (hG : Cells w A2 gs) (hX : Cells w A3 xs) (hx : inB 2048 xs) (h1 : ts.length ≤ 5000) (h2 : gs.length ≤ 5000) (h3 : xs.length ≤ 5000)
    (he : runErr lk ht rc ts gs xs = 0) :
    Calls Tryd.prog 40 #[.agg #[(.int .i64 lk), (.int .i64 ht), .slice A1 ts.length c1, (.int .i64 rc), .slice A2 gs.length c2], .slice A3 xs.length c3] w fun r w' => (∃ B d, r = .returned (.tuple #[.slice B xs.length d, (.int .i64 0)]) ∧ Cells w' B (outsK lk ht rc ts gs xs xs.length)) ∧ Below w.heap.size w w' := by
  have HCR : Hid (∀ W, Cells W A1 ts → Cells W A2 gs → Cells W A3 xs → Calls Tryd.prog 86 #[.agg #[(.int .i64 lk), (.int .i64 ht), .slice A1 ts.length c1, (.int .i64 rc), .slice A2 gs.length c2], .slice A3 xs.length c3] W fun r w' => r = .returned (.int .i64 0) ∧ Below W.heap.size W w') := Lib.hid (fun W q1 q2 q3 => by
    have := checkRun_any lk ht rc ts gs xs A1 A2 A3 c1 c2 c3 W q1 q2 q3 h1 h2 h3
    rwa [he] at this)
  have HR : Hid (∀ W, Lim W → Cells W A1 ts → Cells W A2 gs → Cells W A3 xs → Calls Tryd.prog 87 #[.agg #[(.int .i64 lk), (.int .i64 ht), .slice A1 ts.length c1, (.int .i64 rc), .slice A2 gs.length c2], .slice A3 xs.length c3] W fun r w' => (∃ B1 d1 B2 d2, r = .returned (.tuple #[.slice B1 xs.length d1, .slice B2 xs.length d2]) ∧ Cells w' B1 (outsK lk ht rc ts gs xs xs.length) ∧ Cells w' B2 (lvsK lk ht rc ts gs xs xs.length)) ∧ Below W.heap.size W w') :=
    Lib.hid (fun W q0 q1 q2 q3 => run_any lk ht rc ts gs xs A1 A2 A3 c1 c2 c3 W q0 hV q1 q2 q3 hx h3)
  have HT := Lib.hid hT
  have HG := Lib.hid hG
  have HX := Lib.hid hX
  have HL := Lib.hid hL
  generalize xs.length = N at *
  generalize ts.length = M at *
  generalize gs.length = L at *
  clear hT hG hX hL hV hx he
  go_enter Tryd.func40, Tryd.ntmps40
  go_wp2_with (first
    | (go_at_call 86; refine (HCR.out _ (HT.out.below (by (repeat (first | (with_reducible exact Below.refl _ _) | ((with_reducible refine Below.setCell ?_ ?_ _); rotate_left 1; focus (first | (simp; done) | (simp; omega) | (simp at *; omega))) | ((with_reducible refine Below.alloc ?_ ?_ _); rotate_left 1; focus (first | (simp; done) | (simp; omega) | (simp at *; omega))) | (with_reducible refine Below.drew ?_) | ((with_reducible refine Calm.step (by assumption) ?_ ?_); rotate_left 1; focus (first | (simp; done) | (simp; omega) | (simp at *; omega))))))) (HG.out.below (by (repeat (first | (with_reducible exact Below.refl _ _) | ((with_reducible refine Below.setCell ?_ ?_ _); rotate_left 1; focus (first | (simp; done) | (simp; omega) | (simp at *; omega))) | ((with_reducible refine Below.alloc ?_ ?_ _); rotate_left 1; focus (first | (simp; done) | (simp; omega) | (simp at *; omega))) | (with_reducible refine Below.drew ?_) | ((with_reducible refine Calm.step (by assumption) ?_ ?_); rotate_left 1; focus (first | (simp; done) | (simp; omega) | (simp at *; omega))))))) (HX.out.below (by (repeat (first | (with_reducible exact Below.refl _ _) | ((with_reducible refine Below.setCell ?_ ?_ _); rotate_left 1; focus (first | (simp; done) | (simp; omega) | (simp at *; omega))) | ((with_reducible refine Below.alloc ?_ ?_ _); rotate_left 1; focus (first | (simp; done) | (simp; omega) | (simp at *; omega))) | (with_reducible refine Below.drew ?_) | ((with_reducible refine Calm.step (by assumption) ?_ ?_); rotate_left 1; focus (first | (simp; done) | (simp; omega) | (simp at *; omega)))))))).mono ?_; rintro r w1 ⟨rfl, hb1⟩; have HB1 := Lib.hid (show Below w.heap.size w w1 from Below.trans (by (repeat (first | (with_reducible exact Below.refl _ _) | ((with_reducible refine Below.setCell ?_ ?_ _); rotate_left 1; focus (first | (simp; done) | (simp; omega) | (simp at *; omega))) | ((with_reducible refine Below.alloc ?_ ?_ _); rotate_left 1; focus (first | (simp; done) | (simp; omega) | (simp at *; omega))) | (with_reducible refine Below.drew ?_) | ((with_reducible refine Calm.step (by assumption) ?_ ?_); rotate_left 1; focus (first | (simp; done) | (simp; omega) | (simp at *; omega)))))) (hb1.mono (by simp))); have K0 : Blk w1 w.heap.size #[(.int .i64 lk), (.int .i64 ht), .slice A1 M c1, (.int .i64 rc), .slice A2 L c2] := Blk.below (by (repeat (first | ((with_reducible refine Blk.at_ ?_); focus (first | rfl | (simp; done) | (simp; omega))) | (with_reducible refine Blk.alloc ?_ _) | (with_reducible refine Blk.below ?_ (by with_reducible assumption)) | (with_reducible refine Blk.drew ?_)))) hb1; obtain ⟨c00, c01, c02, c03, c04, l0, f0⟩ := K0.o5; clear hb1 K0)
    | (go_at_call 87; refine (HR.out _ (HL.out.below HB1.out) (HT.out.below HB1.out) (HG.out.below HB1.out) (HX.out.below HB1.out)).mono ?_; rintro r w2 ⟨⟨B1, d1, B2, d2, rfl, hc1, _⟩, hb2⟩; have HC1 := Lib.hid hc1; have HB2 := Lib.hid (HB1.out.trans (hb2.mono HB1.out.size)); clear hb2 hc1))
  exact bodyPost_ret (v := .tuple #[.slice B1 N d1, (.int .i64 0)]) (by simp [results, Tryd.results40, go_sem]) rfl (by first | exact ⟨⟨B1, d1, rfl, HC1.out⟩, HB2.out⟩ | exact ⟨⟨B1, ⟨d1, rfl⟩, HC1.out⟩, HB2.out⟩)
end Go.Proofs.YtdeapbihbhoefaaDoor

/- Contract of Peaks on a valid guard and signal. -/
namespace Go.Proofs.YtdeapbihbhoefaaDoor
open Go.RowKit
open Calm (bcell Blk)

def mx (x y : Int) : Int := if y > x then y else x
theorem mx_eq (x y : Int) : mx x y = max x y := by unfold mx; split <;> omega
theorem max2_any (ts : Array TypeId) (t : TypeId) (x y : Int) (W : World) : (Builtin.max_ ts t #[(.int .i64 x), (.int .i64 y)]).run Tryd.prog W = .ok (.int .i64 (mx x y)) W := by
  simp [Builtin.max_, Builtin.max2, mx]
/-- the heats, the last outputs, the excursions and the peaks of outputs. -/
def bhAt (lk : Int) (ys : List Int) : Nat → Int
  | 0 => 0
  | k + 1 => coolF lk (bhAt lk ys k) + ys.getD k 0 * ys.getD k 0
def bpAt (n : Nat) (ys : List Int) : Nat → List Int
  | 0 => List.replicate n 0
  | k + 1 => pushL (bpAt n ys k) (ys.getD k 0)
def exAt (ts ys : List Int) (k : Nat) : Int := exF ts (bpAt (ts.length - 1) ys k) (ys.getD k 0)
def pkH (lk : Int) (ys : List Int) : Nat → Int
  | 0 => 0
  | k + 1 => mx (pkH lk ys k) (bhAt lk ys (k + 1))
def pkX (ts ys : List Int) : Nat → Int
  | 0 => 0
  | k + 1 => mx (pkX ts ys k) (absI (exAt ts ys k))
theorem bpAt_len (n : Nat) (ys : List Int) : ∀ k, (bpAt n ys k).length = n
  | 0 => List.length_replicate
  | k + 1 => (pushL_len _ _).trans (bpAt_len n ys k)
theorem bpAt_in {n : Nat} {ys : List Int} (hy : inB 2048 ys) : ∀ k, inB 2048 (bpAt n ys k)
  | 0 => fun x hx => by have := List.eq_of_mem_replicate hx; omega
  | k + 1 => inB_push (bpAt_in hy k) (inB_get hy (by omega) k)
theorem sq_bd {y : Int} (h : -2048 ≤ y ∧ y ≤ 2048) : 0 ≤ y * y ∧ y * y ≤ 4194304 := by
  have := mul_bd h h
  have h2 : 0 ≤ y * y := by
    rcases Int.le_total 0 y with h3 | h3
    · exact Int.mul_nonneg h3 h3
    · exact Int.mul_nonneg_of_nonpos_of_nonpos h3 h3
  omega
theorem bhAt_bd {lk : Int} {ys : List Int} (hy : inB 2048 ys) : ∀ k : Nat, 0 ≤ bhAt lk ys k ∧ bhAt lk ys k ≤ 4194304 * (k : Int)
  | 0 => by simp [bhAt]
  | k + 1 => by
    have h1 := bhAt_bd (lk := lk) hy k
    have h2 := coolF_bd lk h1.1
    have h3 := sq_bd (inB_get hy (by omega) k)
    simp only [bhAt]
    omega
theorem exAt_bd {ts ys : List Int} (h1 : inB 64 ts) (hy : inB 2048 ys) (hn : ts.length ≤ 8) (k : Nat) : -1099511627776 ≤ exAt ts ys k ∧ exAt ts ys k ≤ 1099511627776 :=
  exF_bd h1 (bpAt_in hy k) (inB_get hy (by omega) k) (by rw [bpAt_len]; omega)

set_option maxHeartbeats 4000000 in
set_option maxRecDepth 100000 in
theorem peaks_ok (lk ht rc : Int) (ts gs ys : List Int) (A1 A2 A3 : Option Addr) (c1 c2 c3 : Nat) (w : World) (hV : Valid lk ht rc ts gs) (hT : Cells w A1 ts) (hG : Cells w A2 gs) (hX : Cells w A3 ys) (hy : inB 2048 ys) (h1 : ts.length ≤ 5000) (h2 : gs.length ≤ 5000) (h3 : ys.length ≤ 5000)
    (he : runErr lk ht rc ts gs ys = 0) :
    Calls Tryd.prog 43 #[.agg #[(.int .i64 lk), (.int .i64 ht), .slice A1 ts.length c1, (.int .i64 rc), .slice A2 gs.length c2], .slice A3 ys.length c3] w fun r w' => r = .returned (.tuple #[.agg #[(.int .i64 (pkH lk ys ys.length)), (.int .i64 (pkX ts ys ys.length))], (.int .i64 0)]) ∧ Below w.heap.size w w' := by
  have HCR : Hid (∀ W, Cells W A1 ts → Cells W A2 gs → Cells W A3 ys → Calls Tryd.prog 86 #[.agg #[(.int .i64 lk), (.int .i64 ht), .slice A1 ts.length c1, (.int .i64 rc), .slice A2 gs.length c2], .slice A3 ys.length c3] W fun r w' => r = .returned (.int .i64 0) ∧ Below W.heap.size W w') := Lib.hid (fun W q1 q2 q3 => by
    have := checkRun_any lk ht rc ts gs ys A1 A2 A3 c1 c2 c3 W q1 q2 q3 h1 h2 h3
    rwa [he] at this)
  obtain ⟨M, hM⟩ : ∃ M, M = ts.length := ⟨_, rfl⟩
  obtain ⟨L, hLL⟩ : ∃ L, L = gs.length := ⟨_, rfl⟩
  obtain ⟨N, hN⟩ : ∃ N, N = ys.length := ⟨_, rfl⟩
  obtain ⟨Q, hQ⟩ : ∃ Q, Q = ts.length - 1 := ⟨_, rfl⟩
  have tl := hV.tl
  have gl := hV.gl
  have HRS : Hid (∀ W, Calls Tryd.prog 69 #[.agg #[(.int .i64 lk), (.int .i64 ht), .slice A1 M c1, (.int .i64 rc), .slice A2 L c2]] W fun r w' => (∃ B, W.heap.size ≤ B.block ∧ r = .returned (.agg #[(.int .i64 (bhAt lk ys 0)), (.int .i64 (((L - 1 : Nat) : Int))), .slice (some B) Q Q]) ∧ Cells w' (some B) (bpAt Q ys 0)) ∧ Below W.heap.size W w') := Lib.hid (fun W => by
    rw [hM, hLL, hQ]
    exact rest_any lk ht rc A1 A2 ts.length c1 gs.length c2 W (by omega) (by omega))
  have HBH : Hid (∀ (W : World) (k : Nat) (A : Option Addr) (c : Nat), k ≤ N → Cells W A1 ts → Cells W A (bpAt Q ys k) → Calls Tryd.prog 80 #[.agg #[(.int .i64 lk), (.int .i64 ht), .slice A1 M c1, (.int .i64 rc), .slice A2 L c2], .agg #[(.int .i64 (bhAt lk ys k)), (.int .i64 (((L - 1 : Nat) : Int))), .slice A Q c], (.int .i64 (ys.getD k 0))] W fun r w' =>
      (∃ B, W.heap.size ≤ B.block ∧ r = .returned (.tuple #[.agg #[(.int .i64 (bhAt lk ys (k + 1))), (.int .i64 (((L - 1 : Nat) : Int))), .slice (some B) Q Q], (.int .i64 (exAt ts ys k))]) ∧ Cells w' (some B) (bpAt Q ys (k + 1))) ∧ Below W.heap.size W w') := Lib.hid (fun W k A c q0 q1 q2 => by
    have e := bpAt_len Q ys k
    have hb := bhAt_bd (lk := lk) hy k
    have := behind_any lk ht rc (bhAt lk ys k) ((L - 1 : Nat) : Int) (ys.getD k 0) ts (bpAt Q ys k) A1 A2 A c1 L c2 c W hV.lk (by omega) q1 q2 (by omega) (by omega) hV.tb (bpAt_in hy k) (inB_get hy (by omega) k)
    rw [e, ← hM] at this
    unfold exAt
    rw [← hQ]
    exact this)
  have HXB : Hid (∀ k, -1099511627776 ≤ exAt ts ys k ∧ exAt ts ys k ≤ 1099511627776) := Lib.hid (fun k => exAt_bd hV.tb hy tl.2 k)
  have HT := Lib.hid hT
  have HG := Lib.hid hG
  have HX := Lib.hid hX
  have HN := Lib.hid hN
  have HQL : Hid (∀ k, (bpAt Q ys k).length = Q) := Lib.hid (fun k => bpAt_len Q ys k)
  rw [← hM, ← hLL, ← hN] at HCR
  rw [← hM, ← hLL, ← hN]
  rw [← hN] at h3
  obtain ⟨L1, hL1⟩ : ∃ L1 : Int, L1 = ((L - 1 : Nat) : Int) := ⟨_, rfl⟩
  rw [← hL1] at HRS HBH
  clear hM hLL hN hQ hT hG hX hV hy he h1 h2 tl gl hL1
  have hmax := max2_any
  go_enter Tryd.func43, Tryd.ntmps43
  go_wp2_with (first
    | (go_at_call 86; refine (HCR.out _ (HT.out.below (by (repeat (first | (with_reducible exact Below.refl _ _) | ((with_reducible refine Below.setCell ?_ ?_ _); rotate_left 1; focus (first | (simp; done) | (simp; omega) | (simp at *; omega))) | ((with_reducible refine Below.alloc ?_ ?_ _); rotate_left 1; focus (first | (simp; done) | (simp; omega) | (simp at *; omega))) | (with_reducible refine Below.drew ?_) | ((with_reducible refine Calm.step (by assumption) ?_ ?_); rotate_left 1; focus (first | (simp; done) | (simp; omega) | (simp at *; omega))))))) (HG.out.below (by (repeat (first | (with_reducible exact Below.refl _ _) | ((with_reducible refine Below.setCell ?_ ?_ _); rotate_left 1; focus (first | (simp; done) | (simp; omega) | (simp at *; omega))) | ((with_reducible refine Below.alloc ?_ ?_ _); rotate_left 1; focus (first | (simp; done) | (simp; omega) | (simp at *; omega))) | (with_reducible refine Below.drew ?_) | ((with_reducible refine Calm.step (by assumption) ?_ ?_); rotate_left 1; focus (first | (simp; done) | (simp; omega) | (simp at *; omega))))))) (HX.out.below (by (repeat (first | (with_reducible exact Below.refl _ _) | ((with_reducible refine Below.setCell ?_ ?_ _); rotate_left 1; focus (first | (simp; done) | (simp; omega) | (simp at *; omega))) | ((with_reducible refine Below.alloc ?_ ?_ _); rotate_left 1; focus (first | (simp; done) | (simp; omega) | (simp at *; omega))) | (with_reducible refine Below.drew ?_) | ((with_reducible refine Calm.step (by assumption) ?_ ?_); rotate_left 1; focus (first | (simp; done) | (simp; omega) | (simp at *; omega)))))))).mono ?_; rintro r w1 ⟨rfl, hb1⟩; have HB1 := Lib.hid (show Below w.heap.size w w1 from Below.trans (by (repeat (first | (with_reducible exact Below.refl _ _) | ((with_reducible refine Below.setCell ?_ ?_ _); rotate_left 1; focus (first | (simp; done) | (simp; omega) | (simp at *; omega))) | ((with_reducible refine Below.alloc ?_ ?_ _); rotate_left 1; focus (first | (simp; done) | (simp; omega) | (simp at *; omega))) | (with_reducible refine Below.drew ?_) | ((with_reducible refine Calm.step (by assumption) ?_ ?_); rotate_left 1; focus (first | (simp; done) | (simp; omega) | (simp at *; omega)))))) (hb1.mono (by simp; try omega))); have K0 : Blk w1 w.heap.size #[(.int .i64 lk), (.int .i64 ht), .slice A1 M c1, (.int .i64 rc), .slice A2 L c2] := Blk.below (by (repeat (first | ((with_reducible refine Blk.at_ ?_); focus (first | rfl | (simp; done) | (simp; omega))) | (with_reducible refine Blk.alloc ?_ _) | (with_reducible refine Blk.below ?_ (by with_reducible assumption)) | (with_reducible refine Blk.drew ?_)))) hb1; have K1 : Blk w1 (w.heap.size + 1) #[(.int .i64 0), (.int .i64 0)] := Blk.below (by (repeat (first | ((with_reducible refine Blk.at_ ?_); focus (first | rfl | (simp; done) | (simp; omega))) | (with_reducible refine Blk.alloc ?_ _) | (with_reducible refine Blk.below ?_ (by with_reducible assumption)) | (with_reducible refine Blk.drew ?_)))) hb1; obtain ⟨c00, c01, c02, c03, c04, l0, f0⟩ := K0.o5; have HK0 := Lib.hid K0; have HK1 := Lib.hid K1; have hl1 := K1.lt; have hl0' : w.heap.size < w1.heap.size + 1 := (by omega); clear hb1 K0 K1)
    | (go_at_call 69; refine (HRS.out _).mono ?_; rintro r w2 ⟨⟨B, hBb, rfl, hC2⟩, hb2⟩; refine Hid.out ?_))
  have hs2 := hb2.size
  simp only [World.size_alloc] at hs2 hBb
  have KT2 : Blk w2 w1.heap.size #[(.int .i64 0), (.int .i64 0)] := (Blk.new w1 _ _).below hb2
  have HKT2 := Lib.hid KT2
  have HK02 := Lib.hid ((HK0.out.alloc (.cells #[(.int .i64 0), (.int .i64 0)] 68)).below hb2)
  have HK12 := Lib.hid ((HK1.out.alloc (.cells #[(.int .i64 0), (.int .i64 0)] 68)).below hb2)
  have HB2 : Hid (Below w.heap.size w w2) := Lib.hid ((HB1.out.alloc (by omega) _).trans (hb2.mono (by simp; omega)))
  have HC2 := Lib.hid hC2
  clear hb2 hC2 KT2 HB1 HK0 HK1 c00 c01 c02 c03 c04 l0 f0 hl0'
  unfold Hid
  go_wp2
  go_loopw [25] (fun i wr => ∃ (k : Nat) (A : Option Addr) (c : Nat), k ≤ N ∧ i = (.int .i64 ((k : Int))) ∧ Blk wr w.heap.size #[(.int .i64 lk), (.int .i64 ht), .slice A1 M c1, (.int .i64 rc), .slice A2 L c2] ∧ Blk wr (w.heap.size + 1) #[(.int .i64 0), (.int .i64 0)] ∧ Blk wr w1.heap.size #[(.int .i64 (pkH lk ys k)), (.int .i64 (pkX ts ys k))] ∧
      Blk wr w2.heap.size #[(.int .i64 (bhAt lk ys k)), (.int .i64 L1), .slice A Q c] ∧ Cells wr A (bpAt Q ys k) ∧ (0 < Q → ∀ p, A = some p → p.block ≠ w1.heap.size ∧ p.block ≠ w2.heap.size) ∧ Below w.heap.size w wr) (fun i _ => N - (intOf i).toNat)
  case atStart =>
    exact ⟨0, some B, Q, Nat.zero_le _, rfl, HK02.out.alloc _, HK12.out.alloc _, HKT2.out.alloc _, Blk.new _ _ _, HC2.out.below ((Below.refl _ _).alloc (Nat.le_refl _) _), fun h0 p hp => by
      obtain ⟨b, off, hA, hl, _⟩ := HC2.out (by rw [HQL.out]; exact h0)
      cases hp; cases hA
      have : w1.heap.size + 1 ≤ b := hBb
      exact ⟨by show b ≠ _; omega, by show b ≠ _; omega⟩, HB2.out.alloc HB2.out.size _⟩
  case round =>
    clear HKT2 HK02 HK12
    obtain ⟨k, A, c, hk, rfl, K0, K1, KT, KS, hCA, hAne, hB⟩ := hrel
    have HCA := Lib.hid hCA
    have HB := Lib.hid hB
    have hsz := hB.size
    clear hCA
    by_cases hlt : k < N
    · obtain ⟨b3, o3, rfl, l3, k3⟩ := HX.out (by rw [← HN.out]; omega)
      have x3 := (hB.cell (p := ⟨b3, o3 + k, none⟩) l3).trans (k3 k (by rw [← HN.out]; exact hlt))
      have HTr := Lib.hid (HT.out.below hB)
      have HS1 := HBH.out wr k A c hk HTr.out HCA.out
      have hxb := HXB.out k
      have HPH : Hid (pkH lk ys (k + 1) = mx (pkH lk ys k) (bhAt lk ys (k + 1))) := Lib.hid rfl
      have HPX : Hid (pkX ts ys (k + 1) = mx (pkX ts ys k) (absI (exAt ts ys k))) := Lib.hid rfl
      obtain ⟨X, hX⟩ : ∃ X, X = exAt ts ys k := ⟨_, rfl⟩
      obtain ⟨y, hy⟩ : ∃ y, y = ys.getD k 0 := ⟨_, rfl⟩
      obtain ⟨h', hh'⟩ : ∃ h', h' = bhAt lk ys (k + 1) := ⟨_, rfl⟩
      obtain ⟨ph, hph⟩ : ∃ ph, ph = pkH lk ys k := ⟨_, rfl⟩
      obtain ⟨px, hpx⟩ : ∃ px, px = pkX ts ys k := ⟨_, rfl⟩
      rw [← hX, ← hy, ← hh'] at HS1
      rw [← hX] at hxb HPX
      rw [← hh', ← hph] at HPH
      rw [← hpx] at HPX
      rw [← hy] at x3
      rw [← hph, ← hpx] at KT
      have HHE := Lib.hid hh'
      have HSS := Lib.hid HS1
      obtain ⟨xb1, xb2⟩ := hxb
      obtain ⟨c00, c01, c02, c03, c04, l0, f0⟩ := K0.o5
      obtain ⟨t0, t1, tl, tf⟩ := KT.o2
      obtain ⟨s0, s1, s2, sl, sf⟩ := KS.o3
      have HK0 := Lib.hid K0
      have HK1 := Lib.hid K1
      have HKT := Lib.hid KT
      have HKS := Lib.hid KS
      have HANE := Lib.hid hAne
      have hw2r : w2.heap.size < wr.heap.size := sl
      clear k3 hX hy hh' hph hpx HS1 K0 K1 KT KS hB hAne
      go_wp2_with (go_at_call 80; refine HSS.out.mono ?_; rintro r w3 ⟨⟨B2, hBb2, rfl, hC3⟩, hb3⟩; have hs3 := hb3.size; have HC3 := Lib.hid hC3; have HB3 := Lib.hid hb3; clear hC3 hb3)
      refine name_world ?_
      intro w4 e4
      have hN4 : w3.heap.size < w4.heap.size := by rw [e4]; simp
      have hb4 : Below w3.heap.size w3 w4 := by rw [e4]; exact (Below.refl _ _).alloc (Nat.le_refl _) _
      have KN : Blk w4 w3.heap.size #[(.int .i64 h'), (.int .i64 L1), .slice (some B2) Q Q] := by rw [e4]; exact Blk.new _ _ _
      have HK04 := Lib.hid ((HK0.out.below HB3.out).below hb4)
      have HK14 := Lib.hid ((HK1.out.below HB3.out).below hb4)
      have HKT4 := Lib.hid ((HKT.out.below HB3.out).below hb4)
      have HKS4 := Lib.hid ((HKS.out.below HB3.out).below hb4)
      have HKN4 := Lib.hid KN
      have HC4 := Lib.hid (HC3.out.below hb4)
      have HBA4 := Lib.hid (HB.out.trans ((HB3.out.trans (hb4.mono hs3)).mono hsz))
      obtain ⟨n0, n1, n2, nl, nf⟩ := KN.o3
      obtain ⟨tt0, tt1, ttl, ttf⟩ := HKT4.out.o2
      clear e4 hb4 KN HK0 HK1 HKT HKS HC3 HB3 HB HSS c00 c01 c02 c03 c04 l0 f0 t0 t1 tl tf s0 s1 s2 sl sf x3
      refine Rel.region3 12 (by kernel_rfl) (by kernel_rfl) (by kernel_rfl) ?_
      simp only [List.take_succ_cons, List.take_zero, List.drop_succ_cons, List.drop_zero, List.filterMap_cons, List.filterMap_nil]
      iterate 8 (apply Rel.op3; (focus (first | exact Rel.gno rfl | exact Rel.gyes _ true _ rfl rfl rfl | exact Rel.gyes _ false _ rfl rfl rfl)); (focus (intro a W hb hd hbase; obtain ⟨hc, hf⟩ := bcell hb; clear hb hf; simp [Rel.deps, Rel.dep1, Rel.ons, Region.binds, Act.eval] at hd; simp only [Act.eval, List.mem_cons, List.not_mem_nil, not_or, and_imp, or_false, Array.getD_eq_getD_getElem?] at hbase; go_simp; (try go_bits); (try rfl); done)); (try simp only [List.nil_append, List.cons_append]))
      (apply Rel.call3; (focus (first | exact Rel.gno rfl | exact Rel.gyes _ true _ rfl rfl rfl | exact Rel.gyes _ false _ rfl rfl rfl)); (focus (intro a W hb hd hbase; obtain ⟨hc, hf⟩ := bcell hb; clear hb hf; simp [Rel.deps, Rel.dep1, Rel.ons, Region.binds, Act.eval] at hd; simp only [Act.eval, List.mem_cons, List.not_mem_nil, not_or, and_imp, or_false, Array.getD_eq_getD_getElem?] at hbase; go_simp; refine ⟨?_, ?_⟩; rfl; rfl)); (focus (intro W hb; go_at_call 88; exact (abs_any _ _ ⟨by omega, by omega⟩).mono (fun _ _ ⟨he, h2⟩ => ⟨he, h2 ▸ Below.refl _ _⟩))); (try simp only [List.nil_append, List.cons_append]))
      iterate 2 (apply Rel.op3; (focus (first | exact Rel.gno rfl | exact Rel.gyes _ true _ rfl rfl rfl | exact Rel.gyes _ false _ rfl rfl rfl)); (focus (intro a W hb hd hbase; obtain ⟨hc, hf⟩ := bcell hb; clear hb hf; simp [Rel.deps, Rel.dep1, Rel.ons, Region.binds, Act.eval] at hd; simp only [Act.eval, List.mem_cons, List.not_mem_nil, not_or, and_imp, or_false, Array.getD_eq_getD_getElem?] at hbase; go_simp; (try go_bits); (try rfl); done)); (try simp only [List.nil_append, List.cons_append]))
      (apply Rel.alloc3 68 #[(.int .i64 0), (.int .i64 0)]; (focus (exact Rel.gno rfl)); (focus (intro a W; go_simp)); (try simp only [List.nil_append, List.cons_append]))
      refine Rel.done3 ?_
      intro x w5 hb5 hx
      simp only [Rel.facts, Nat.zero_add, Nat.reduceAdd] at hx
      obtain ⟨e0, e1, e2, e3, e4, e5, e6, e7, e8, e9, e10, ⟨g, e11, hg, hKg⟩, _⟩ := hx
      simp only [Rel.fill, Nat.zero_add, Nat.reduceAdd, e0, e1, e2, e3, e4, e5, e6, e7, e8, e9, e10, e11]
      simp only [Act.put, List.setIfInBounds_toArray, List.set_cons_zero, List.set_cons_succ]
      have HK05 := Lib.hid (HK04.out.below hb5)
      have HK15 := Lib.hid (HK14.out.below hb5)
      have HKT5 := Lib.hid (HKT4.out.below hb5)
      have HKS5 := Lib.hid (HKS4.out.below hb5)
      have HKN5 := Lib.hid (HKN4.out.below hb5)
      have HC5 := Lib.hid (HC4.out.below hb5)
      have HBg : Hid (0 < (bpAt Q ys (k + 1)).length → B2.block < g ∧ wr.heap.size ≤ B2.block) := Lib.hid (fun h0 => by
        obtain ⟨b, off, hA, hl, _⟩ := HC4.out h0
        cases hA
        exact ⟨Nat.lt_of_lt_of_le hl hg, hBb2⟩)
      have HBA5 := Lib.hid (HBA4.out.trans (hb5.mono HBA4.out.size))
      have HKG := Lib.hid hKg
      clear e0 e1 e2 e3 e4 e5 e6 e7 e8 e9 e10 e11 hb5 HK04 HK14 HKT4 HKS4 HKN4 HC4 HBA4 n0 n1 n2 nl nf tt0 tt1 ttl ttf hKg
      rw [← HPH.out, ← HPX.out]
      obtain ⟨ph', hph'⟩ : ∃ ph', ph' = pkH lk ys (k + 1) := ⟨_, rfl⟩
      obtain ⟨px', hpx'⟩ : ∃ px', px' = pkX ts ys (k + 1) := ⟨_, rfl⟩
      rw [← hph', ← hpx']
      have HPH' := Lib.hid hph'
      have HPX' := Lib.hid hpx'
      clear hph' hpx'
      obtain ⟨q0, q1, ql, qf⟩ := HKG.out.o2
      obtain ⟨t0, t1, tl, tf⟩ := HKT5.out.o2
      obtain ⟨n0, n1, n2, nl, nf⟩ := HKN5.out.o3
      obtain ⟨s0, s1, s2, sl, sf⟩ := HKS5.out.o3
      have q12 : ¬ w1.heap.size = w2.heap.size := by omega
      have q13 : ¬ w1.heap.size = w3.heap.size := by omega
      have q1g : ¬ w1.heap.size = g := by omega
      have q21 : ¬ w2.heap.size = w1.heap.size := by omega
      have q23 : ¬ w2.heap.size = w3.heap.size := by omega
      have q2g : ¬ w2.heap.size = g := by omega
      have q31 : ¬ w3.heap.size = w1.heap.size := by omega
      have q32 : ¬ w3.heap.size = w2.heap.size := by omega
      have q3g : ¬ w3.heap.size = g := by omega
      have qg1 : ¬ g = w1.heap.size := by omega
      have qg2 : ¬ g = w2.heap.size := by omega
      have qg3 : ¬ g = w3.heap.size := by omega
      have qwg : ¬ g = w.heap.size := by omega
      by_cases hE : ph' = ph ∧ px' = px
      · obtain ⟨e1, e2⟩ := hE
        subst e1
        subst e2
        go_wp2
        go_roundw
        case rel =>
          refine ⟨k + 1, some B2, Q, by omega, by go_num, ?_, ?_, ?_, ?_, ?_, fun _ p hp => by cases hp; omega, ?_⟩
          · (repeat (refine Calm.Blk.far ?_ (by first | assumption | (simp; omega)) _)); exact HK05.out
          · (repeat (refine Calm.Blk.far ?_ (by first | assumption | (simp; omega)) _)); exact HK15.out
          · rw [← HPH'.out, ← HPX'.out]
            (repeat (refine Calm.Blk.far ?_ (by first | assumption | (simp; omega)) _))
            exact HKT5.out
          · rw [← HHE.out]
            refine Calm.Blk.set3 (u0 := (.int .i64 (bhAt lk ys k))) (u1 := (.int .i64 L1)) (u2 := .slice A Q c) ?_ _ _ _
            (repeat (refine Calm.Blk.far ?_ (by first | assumption | (simp; omega)) _)); exact HKS5.out
          · repeat (refine Cells.sets ?_ (fun h0 p hp => by cases hp; have := HBg.out h0; omega) _ _)
            exact HC5.out
          · repeat (refine Below.setCell ?_ (by simp; omega) _)
            exact HBA5.out
        case measure => simp [intOf]; omega
      · have hE1 : ph' = ph → ¬ px' = px := fun h h' => hE ⟨h, h'⟩
        have HE1 := Lib.hid hE1
        clear hE hE1
        go_wp2
        all_goals (try (exact absurd (by first | assumption | rfl) (HE1.out (by first | assumption | rfl))))
        all_goals (
          go_roundw
          case rel =>
            refine ⟨k + 1, some B2, Q, by omega, by go_num, ?_, ?_, ?_, ?_, ?_, fun _ p hp => by cases hp; omega, ?_⟩
            · (repeat (refine Calm.Blk.far ?_ (by first | assumption | (simp; omega)) _)); exact HK05.out
            · (repeat (refine Calm.Blk.far ?_ (by first | assumption | (simp; omega)) _)); exact HK15.out
            · rw [← HPH'.out, ← HPX'.out]
              (repeat (refine Calm.Blk.far ?_ (by first | assumption | (simp; omega)) _))
              first
                | (refine Calm.Blk.set2 (u0 := (.int .i64 ph)) (u1 := (.int .i64 px)) ?_ _ _; (repeat (refine Calm.Blk.far ?_ (by first | assumption | (simp; omega)) _)); exact HKT5.out)
                | (rw [show ph' = ph by assumption]; refine Calm.Blk.set2 (u0 := (.int .i64 ph)) (u1 := (.int .i64 px)) ?_ _ _; (repeat (refine Calm.Blk.far ?_ (by first | assumption | (simp; omega)) _)); exact HKT5.out)
                | (rw [show px' = px by assumption]; refine Calm.Blk.set2 (u0 := (.int .i64 ph)) (u1 := (.int .i64 px)) ?_ _ _; (repeat (refine Calm.Blk.far ?_ (by first | assumption | (simp; omega)) _)); exact HKT5.out)
            · rw [← HHE.out]
              refine Calm.Blk.set3 (u0 := (.int .i64 (bhAt lk ys k))) (u1 := (.int .i64 L1)) (u2 := .slice A Q c) ?_ _ _ _
              (repeat (refine Calm.Blk.far ?_ (by first | assumption | (simp; omega)) _)); exact HKS5.out
            · repeat (refine Cells.sets ?_ (fun h0 p hp => by cases hp; have := HBg.out h0; omega) _ _)
              exact HC5.out
            · repeat (refine Below.setCell ?_ (by simp; omega) _)
              exact HBA5.out
          case measure => simp [intOf]; omega)
    · obtain rfl : k = N := by omega
      have HKT := Lib.hid KT
      obtain ⟨t0, t1, tl, tf⟩ := KT.o2
      obtain ⟨r0, r1, rl, rf⟩ := K1.o2
      have qa : ¬ w1.heap.size = w.heap.size + 1 := by omega
      have HK1 := Lib.hid K1
      clear KT K0 K1 KS
      go_wp2
      have KR := HK1.out.set2 (.int .i64 (pkH lk ys k)) (.int .i64 (pkX ts ys k))
      obtain ⟨y0, y1, yl, yf⟩ := KR.o2
      clear r0 r1 rl rf KR
      exact bodyPost_ret (v := .tuple #[.agg #[(.int .i64 (pkH lk ys k)), (.int .i64 (pkX ts ys k))], (.int .i64 0)]) (by simp [results, Tryd.results43, go_sem, y0, y1]) rfl ⟨rfl, (HB.out.setCell (by simp) _).setCell (by simp) _⟩
end Go.Proofs.YtdeapbihbhoefaaDoor

/- Contracts of raw, limited and step of sections. -/
namespace Go.Proofs.YtdeapbihbhoefaaDoor
open Go.RowKit
open Calm (bcell Blk)

end Go.Proofs.YtdeapbihbhoefaaDoor

/- The law of 'for x, y := range seq' over an iterator that keeps a variable of its own in cells, reads some blocks, and calls; the body never leaves the loop. -/
namespace Go.Proofs.YtdeapbihbhoefaaDoor
open Go.RowKit

/-- Whatever lies in a block of S lies as it lay. -/
def Same (S : Nat → Prop) (W W' : World) : Prop := ∀ k o, S k → W.heap[k]? = some o → W'.heap[k]? = some o
theorem Same.refl (S : Nat → Prop) (W : World) : Same S W W := fun _ _ _ h => h
theorem Same.alloc {S : Nat → Prop} {W W' : World} (h : Same S W W') (o : Obj) : Same S W (W'.alloc o) := fun k o1 hk ho => by
  have h1 := h k o1 hk ho
  exact (Below.heap_alloc _ _ _ (Array.getElem?_eq_some_iff.1 h1).1).trans h1
theorem Same.eq {S : Nat → Prop} {W W' : World} (h : Same S W W') {k : Nat} (hk : S k) (hl : k < W.heap.size) : W'.heap[k]? = W.heap[k]? := by
  have e := Array.getElem?_eq_getElem hl
  rw [h k _ hk e, e]

/-- How a body that never leaves the loop may end. -/
def iterPost (S : Nat → Prop) (W : World) (I : World → Prop) : Exit → Act → World → Prop
  | .normal, _, W' => Same S W W' ∧ I W'
  | _, _, _ => False

end Go.Proofs.YtdeapbihbhoefaaDoor

/- Contracts of (Section).outputs and of the iterator that it hands out. -/
namespace Go.Proofs.YtdeapbihbhoefaaDoor
open Go.RowKit
open Calm (bcell Blk)

end Go.Proofs.YtdeapbihbhoefaaDoor

/- Contract of (Section).from. -/
namespace Go.Proofs.YtdeapbihbhoefaaDoor
open Go.RowKit
open Calm (bcell Blk)

end Go.Proofs.YtdeapbihbhoefaaDoor

/- Contracts of From and Run (sections that hold). -/
namespace Go.Proofs.YtdeapbihbhoefaaDoor
open Go.RowKit
open Calm (bcell Blk)

end Go.Proofs.YtdeapbihbhoefaaDoor

/- The law of copy between slices of integers, as contracts speak of them. -/
namespace Go.Proofs.YtdeapbihbhoefaaDoor
open Go.RowKit

theorem run_copyI {P : Program} (w : World) (dT sT ty elem : TypeId) (g : Nat) (A : Option Addr) (xs : List Int) (n cap c : Nat) (cur : Array Value) (t : TypeId)
    (hu : P.underlying dT = some (.slice elem)) (hs : (P.info? elem).map (·.size) = some 1) (hn : xs.length ≤ n)
    (hg : w.heap[g]? = some (.cells cur t (0, 0))) (hcur : cur.size = n) (hC : Cells w A xs) :
    (Builtin.copy_ #[dT, sT] ty #[.slice (some ⟨g, 0, none⟩) n cap, .slice A xs.length c]).run P w = .ok (goInt xs.length) (w.setRow g (xs.map (Value.int .i64) ++ cur.toList.drop xs.length).toArray) := by
  have hmin : Nat.min xs.length n = xs.length := Nat.min_eq_left hn
  cases A with
  | some a =>
    have := run_copy_row (P := P) w dT sT ty elem g 0 n cap a xs.length c cur t (xs.map (Value.int .i64)) hu hs hg (by rw [hmin]; simp) (fun j v hj => by
      have hj' : j < xs.length := by
        have := (List.getElem?_eq_some_iff.1 hj).1
        simpa using this
      obtain ⟨b, o, hA, hl, hc⟩ := hC (by omega)
      cases hA
      exact cells_src hc j v hj) (by simp; omega) (fun v hv => by obtain ⟨_, _, rfl⟩ := List.mem_map.1 hv; rfl)
    simpa using this
  | none =>
    have h0 : xs = [] := by
      cases xs with
      | nil => rfl
      | cons x xs => obtain ⟨b, o, hA, _⟩ := hC (by simp); cases hA
    subst h0
    have hself : w.setRow g cur = w := setRow_self w g cur t _ hg
    cases hq : P.info? elem with
    | none => simp [hq] at hs
    | some i => simp [Builtin.copy_, run_underlying hu, Builtin.lenOf, Builtin.firstCells, sizeOf, typeInfo, hq, storeCells, hself]
theorem wpList_copyI {P : Program} {w : World} {ops : Array Oper} {rest : List Oper} {o : Oper} {a : Act} {Q : Exit → Act → World → Prop} (hgd : o.guard = none) (d s : Operand) (dT sT : TypeId)
    (ho : o.op = .call { callee := .builtin .copy, args := #[d, s], argTypes := #[dT, sT] }) (elem : TypeId) (hu : P.underlying dT = some (.slice elem)) (hsz : (P.info? elem).map (·.size) = some 1)
    (g n m cap c : Nat) (A : Option Addr) (xs : List Int) (hm : xs.length = m) (hn : m ≤ n) (hd : a.eval d = .slice (some ⟨g, 0, none⟩) n cap) (hs : a.eval s = .slice A m c)
    (cur : Array Value) (t : TypeId) (hg : w.heap[g]? = some (.cells cur t (0, 0))) (hcur : cur.size = n) (hC : Cells w A xs)
    (h : ∀ w', w'.heap.size = w.heap.size → Below g w w' → (∀ k, k ≠ g → w'.heap[k]? = w.heap[k]?) → w'.heap[g]? = some (.cells (xs.map (Value.int .i64) ++ cur.toList.drop m).toArray t (0, 0)) → wpList P ops Q rest (a.put o.dst (goInt m)) w') : wpList P ops Q (o :: rest) a w := by
  subst hm
  refine wpList_plain hgd fun K hK => ?_
  have hrun := run_copyI (P := P) w dT sT o.type elem g A xs n cap c cur t hu hsz hn hg hcur hC
  unfold Oper.wp
  simp [execOp, ho, resolve, invoke, builtin, hd, hs, hrun, Result.andThen]
  exact hK _ _ (h _ (by simp [World.setRow]) (below_setRow (Below.refl _ _) (Nat.le_refl _) _) (fun k hk => setRow_other w g k _ hk) (setRow_heap w g _ _ t _ hg))
end Go.Proofs.YtdeapbihbhoefaaDoor

/- Contract of Cascade (sections and a signal that hold). -/
namespace Go.Proofs.YtdeapbihbhoefaaDoor
open Go.RowKit
open Calm (bcell Blk)

theorem eachErr_zero {l : List Int} {lo hi : Int} : eachErr l lo hi = 0 ↔ ∀ n ∈ l, lo ≤ n ∧ n ≤ hi := by
  unfold eachErr
  rw [firstOf_eq_zero]
  constructor
  · exact fun h n hn => rangeErr_zero.1 (h _ (List.mem_map.2 ⟨n, hn, rfl⟩))
  · rintro h x hx
    obtain ⟨n, hn, rfl⟩ := List.mem_map.1 hx
    exact rangeErr_zero.2 (h n hn)
end Go.Proofs.YtdeapbihbhoefaaDoor

/- Contracts of the references: First, CheckRange, SameInts, CheckInput, CheckValue, CheckSignal. -/
namespace Go.Proofs.YtdeapbihbhoefaaDoor
open Go.RowKit
open Calm (bcell Blk)

theorem qRange_any (n lo hi : Int) (w : World) : Calls Tryd.prog 58 #[(.int .i64 n), (.int .i64 lo), (.int .i64 hi)] w fun r w' => r = .returned (.int .i64 (rangeErr n lo hi)) ∧ w = w' := by
  rcases Int.lt_or_le n lo with h | h
  · go_enter Tryd.func58, Tryd.ntmps58
    go_wp2
    go_ret
    exact ⟨ret_i (rangeErr_lo h).symm, rfl⟩
  · rcases Int.lt_or_le hi n with h' | h'
    · go_enter Tryd.func58, Tryd.ntmps58
      go_wp2
      go_ret
      exact ⟨ret_i (rangeErr_hi h').symm, rfl⟩
    · go_enter Tryd.func58, Tryd.ntmps58
      go_wp2
      go_ret
      exact ⟨ret_i (rangeErr_in (by omega) (by omega)).symm, rfl⟩
theorem pValue_any (n : Int) (w : World) : Calls Tryd.prog 32 #[(.int .i64 n)] w fun r w' => r = .returned (.int .i64 (rangeErr n (-2048) 2048)) ∧ w = w' := by
  go_enter Tryd.func32, Tryd.ntmps32
  go_wp2_with (go_at_call 58; refine (qRange_any _ _ _ _).mono ?_; rintro r w' ⟨rfl, rfl⟩)
  go_ret
  exact ⟨rfl, rfl⟩
theorem qFirst_any (l : List Int) (A : Option Addr) (c : Nat) (w : World) (hl : l.length ≤ 5000) (hC : Cells w A l) :
    Calls Tryd.prog 31 #[.slice A l.length c] w fun r w' => r = .returned (.int .i64 (firstOf l)) ∧ w = w' := by
  go_enter Tryd.func31, Tryd.ntmps31
  go_wp2
  go_loop [3] (fun i => ∃ k : Nat, k ≤ l.length ∧ i = (.int .i64 k) ∧ ∀ j, j < k → l.getD j 0 = 0) (fun i => l.length - (intOf i).toNat)
  case atStart => exact ⟨0, Nat.zero_le _, rfl, fun j hj => by omega⟩
  case round =>
    obtain ⟨k, hk, rfl, hz⟩ := hrel
    have HZ := Lib.hid hz
    clear hz
    by_cases hlt : k < l.length
    · obtain ⟨b, off, rfl, hbl, hc⟩ := hC (by omega)
      have hck := hc k hlt
      clear hc hC
      by_cases h0 : l.getD k 0 = 0
      · rw [h0] at hck
        have H0 := Lib.hid h0
        clear h0
        go_wp2
        go_round
        case rel => exact ⟨k + 1, by omega, by go_num, fun j hj => by
          rcases Nat.lt_or_ge j k with hjk | hjk
          · exact HZ.out j hjk
          · obtain rfl : j = k := by omega
            exact H0.out⟩
        case measure => simp [intOf]; omega
      · obtain ⟨x, hx⟩ : ∃ x, x = l.getD k 0 := ⟨_, rfl⟩
        rw [← hx] at hck h0
        have H0 := Lib.hid hx
        clear hx
        go_wp2
        go_ret
        exact ⟨ret_i (by rw [firstOf_take HZ.out hlt (by rw [← H0.out]; exact h0)]; exact H0.out), rfl⟩
    · clear hC
      go_wp2
      go_ret
      exact ⟨ret_i (by rw [firstOf_zero (fun j hj => HZ.out j (by omega))]), rfl⟩
theorem pSignal_any (xs : List Int) (A : Option Addr) (c : Nat) (w : World) (hC : Cells w A xs) (hn : xs.length ≤ 5000) :
    Calls Tryd.prog 44 #[.slice A xs.length c] w fun r w' => r = .returned (.int .i64 (sigErr xs)) ∧ w = w' := by
  have hm : ∀ k, k < (xs.map fun n => rangeErr n (-2048) 2048).length → (xs.map fun n => rangeErr n (-2048) 2048).getD k 0 = rangeErr (xs.getD k 0) (-2048) 2048 := fun k hk => by
    have hk' : k < xs.length := by simpa using hk
    simp [List.getD_eq_getElem?_getD, hk']
  have HM := Lib.hid hm
  have HL : Hid ((xs.map fun n => rangeErr n (-2048) 2048).length = xs.length) := Lib.hid (by simp)
  have HC := Lib.hid hC
  obtain ⟨R, hR⟩ : ∃ R, R = sigErr xs := ⟨_, rfl⟩
  have HR : Hid (R = firstOf [if 4096 < xs.length then 5 else 0, eachErr xs (-2048) 2048]) := Lib.hid hR
  rw [← hR]
  obtain ⟨N, hN⟩ : ∃ N, N = xs.length := ⟨_, rfl⟩
  have HN := Lib.hid hN
  rw [← hN] at HL hn HR ⊢
  clear hC hR hN hm
  by_cases hb : 4096 < N
  · have hbi : (4096 : Int) < (N : Int) := by omega
    have HE : Hid (R = 5) := Lib.hid (by rw [HR.out, if_pos hb]; simp [firstOf])
    clear HR
    go_enter Tryd.func44, Tryd.ntmps44
    go_wp2
    go_ret
    exact ⟨ret_i HE.out.symm, rfl⟩
  · have hbi : ¬ (4096 : Int) < (N : Int) := by omega
    have HE : Hid (R = eachErr xs (-2048) 2048) := Lib.hid (by rw [HR.out, if_neg hb]; by_cases h0 : eachErr xs (-2048) 2048 = 0 <;> simp [firstOf, h0])
    clear HR
    go_enter Tryd.func44, Tryd.ntmps44
    go_wp2
    go_loop [3, 4] (fun i _ => ∃ k : Nat, k ≤ N ∧ i = (.int .i64 k) ∧ ∀ j, j < k → (xs.map fun n => rangeErr n (-2048) 2048).getD j 0 = 0) (fun i _ => N - (intOf i).toNat)
    case atStart => exact ⟨0, Nat.zero_le _, rfl, fun j hj => by omega⟩
    case round =>
      obtain ⟨k, hk, rfl, hz⟩ := hrel
      have HZ := Lib.hid hz
      clear hz
      by_cases hlt : k < N
      · obtain ⟨b, off, rfl, hbl, hc⟩ := HC.out (by rw [← HN.out]; omega)
        have hck := hc k (by rw [← HN.out]; exact hlt)
        have HG := Lib.hid (HM.out k (by rw [HL.out]; exact hlt))
        clear hc
        obtain ⟨x, hx⟩ : ∃ x, x = xs.getD k 0 := ⟨_, rfl⟩
        rw [← hx] at hck HG
        clear hx
        by_cases h0 : rangeErr x (-2048) 2048 = 0
        · have H0 := Lib.hid h0
          clear h0
          go_wp2_with (go_at_call 32; refine (pValue_any _ _).mono ?_; rw [H0.out]; rintro r w' ⟨rfl, rfl⟩)
          go_round
          case rel => exact ⟨k + 1, by omega, by go_num, fun j hj => by
            rcases Nat.lt_or_ge j k with hjk | hjk
            · exact HZ.out j hjk
            · obtain rfl : j = k := by omega
              rw [HG.out]; exact H0.out⟩
          case measure => simp [intOf]; omega
        · obtain ⟨e, he⟩ : ∃ e, e = rangeErr x (-2048) 2048 := ⟨_, rfl⟩
          rw [← he] at h0 HG
          have H1 := Lib.hid he
          clear he
          go_wp2_with (go_at_call 32; refine (pValue_any _ _).mono ?_; rw [← H1.out]; rintro r w' ⟨rfl, rfl⟩)
          go_ret
          exact ⟨ret_i (by rw [HE.out]; unfold eachErr; rw [firstOf_take HZ.out (by rw [HL.out]; exact hlt) (by rw [HG.out]; exact h0), HG.out]), rfl⟩
      · go_wp2
        go_ret
        exact ⟨ret_i (by rw [HE.out]; unfold eachErr; rw [firstOf_zero (fun j hj => HZ.out j (by rw [HL.out] at hj; omega))]), rfl⟩
set_option maxRecDepth 100000 in
set_option maxHeartbeats 4000000 in
theorem sameInts_any (A B : Option Addr) (a b : List Int) (ca cb : Nat) (w : World) (hA : Cells w A a) (hB : Cells w B b) (h1 : a.length ≤ 100000) (h2 : b.length ≤ 100000) :
    Calls Tryd.prog 38 #[.slice A a.length ca, .slice B b.length cb] w fun x w' => x = .returned (.bool (decide (a = b))) ∧ Below w.heap.size w w' := by
  obtain ⟨E, hE⟩ : ∃ E, E = decide (a = b) := ⟨_, rfl⟩
  have HE := Lib.hid hE
  have HCA := Lib.hid hA
  have HCB := Lib.hid hB
  obtain ⟨N, hN⟩ : ∃ N, N = a.length := ⟨_, rfl⟩
  obtain ⟨M, hM⟩ : ∃ M, M = b.length := ⟨_, rfl⟩
  have HN := Lib.hid hN
  have HM := Lib.hid hM
  rw [← hE]
  rw [← hN] at h1 ⊢
  rw [← hM] at h2 ⊢
  clear hE hA hB hN hM
  by_cases hnm : N = M
  · have HNM := Lib.hid hnm
    subst hnm
    go_enter Tryd.func38, Tryd.ntmps38
    go_wp2
    go_loopw [5] (fun i wr => ∃ k : Nat, k ≤ N ∧ i = (.int .i64 ((k : Nat))) ∧ (∀ j, j < k → a.getD j 0 = b.getD j 0) ∧ Below w.heap.size w wr) (fun i _ => N - (intOf i).toNat)
    case atStart => exact ⟨0, by omega, rfl, fun j hj => by omega, Below.refl _ _⟩
    case round =>
      obtain ⟨k, hk, rfl, hz, hBr⟩ := hrel
      have HZ := Lib.hid hz
      have HBR := Lib.hid hBr
      have hszr := hBr.size
      clear hz hBr
      by_cases hlt : k < N
      · have l1 : k < a.length := by rw [← HN.out]; exact hlt
        have l2 : k < b.length := by rw [← HM.out]; exact hlt
        obtain ⟨g, o, rfl, q1, k1⟩ := (HCA.out.below HBR.out) (by omega)
        obtain ⟨g', o', rfl, q2, k2⟩ := (HCB.out.below HBR.out) (by omega)
        have y1 := k1 k l1
        have y2 := k2 k l2
        obtain ⟨x, hx⟩ : ∃ x, x = a.getD k 0 := ⟨_, rfl⟩
        obtain ⟨y, hy⟩ : ∃ y, y = b.getD k 0 := ⟨_, rfl⟩
        rw [← hx] at y1
        rw [← hy] at y2
        have HX := Lib.hid hx
        have HY := Lib.hid hy
        clear k1 k2 hx hy l1 l2
        by_cases hxy : x = y
        · subst hxy
          go_wp2
          refine Calm.tail_below 8 (by kernel_rfl) (by kernel_rfl) ?_
          simp only [List.take_succ_cons, List.take_zero, List.drop_succ_cons, List.drop_zero]
          repeat (first | (apply Calm.op_move; (focus rfl); (focus (first | exact .inl rfl | exact .inr rfl)); (focus ((try simp only [Act.eval, Array.getD_eq_getD_getElem?, List.getElem?_toArray, List.getElem?_cons_succ, List.getElem?_cons_zero, Option.getD_some]); rfl)); (try simp only [Act.put, List.setIfInBounds_toArray, List.set_cons_zero, List.set_cons_succ])) | (apply Calm.op_not; (focus rfl); (try simp only [Act.put, List.setIfInBounds_toArray, List.set_cons_zero, List.set_cons_succ])) | (apply Calm.op; (focus rfl); (focus (intro W hb; obtain ⟨hc, hf⟩ := bcell hb; clear hb hf; go_simp; (try go_bits); (try rfl); done)); (try simp only [Act.put, List.setIfInBounds_toArray, List.set_cons_zero, List.set_cons_succ])))
          refine wpQuiet_nil ?_
          intro w2 hb2
          obtain ⟨hb2c, hb2f⟩ := bcell hb2
          have hb2z := hb2.size
          (try simp at hb2z)
          (try have hb2z0 : w.heap.size < w2.heap.size := by omega)
          (try have hb2z1 : w.heap.size + 1 < w2.heap.size := by omega)
          (try have hb2z2 : w.heap.size + 1 + 1 < w2.heap.size := by omega)
          (try have hb2z3 : w.heap.size + 1 + 1 + 1 < w2.heap.size := by omega)
          (try have hb2z4 : w.heap.size + 1 + 1 + 1 + 1 < w2.heap.size := by omega)
          (try have hb2z5 : w.heap.size + 1 + 1 + 1 + 1 + 1 < w2.heap.size := by omega)
          go_wp2
          go_roundw
          case rel =>
            refine ⟨k + 1, by omega, by go_num, fun j hj => ?_, HBR.out.trans (hb2.mono hszr)⟩
            rcases Nat.lt_or_ge j k with h | h
            · exact HZ.out j h
            · obtain rfl : j = k := by omega
              rw [← HX.out, ← HY.out]
          case measure => simp [intOf]; omega
        · have HEE := Lib.hid (show E = false by
            rw [HE.out]
            refine decide_eq_false (fun e => hxy ?_)
            rw [HX.out, HY.out, e])
          go_wp2
          refine Calm.tail_below 8 (by kernel_rfl) (by kernel_rfl) ?_
          simp only [List.take_succ_cons, List.take_zero, List.drop_succ_cons, List.drop_zero]
          repeat (first | (apply Calm.op_move; (focus rfl); (focus (first | exact .inl rfl | exact .inr rfl)); (focus ((try simp only [Act.eval, Array.getD_eq_getD_getElem?, List.getElem?_toArray, List.getElem?_cons_succ, List.getElem?_cons_zero, Option.getD_some]); rfl)); (try simp only [Act.put, List.setIfInBounds_toArray, List.set_cons_zero, List.set_cons_succ])) | (apply Calm.op_not; (focus rfl); (try simp only [Act.put, List.setIfInBounds_toArray, List.set_cons_zero, List.set_cons_succ])) | (apply Calm.op; (focus rfl); (focus (intro W hb; obtain ⟨hc, hf⟩ := bcell hb; clear hb hf; go_simp; (try go_bits); (try rfl); done)); (try simp only [Act.put, List.setIfInBounds_toArray, List.set_cons_zero, List.set_cons_succ])))
          refine wpQuiet_nil ?_
          intro w2 hb2
          obtain ⟨hb2c, hb2f⟩ := bcell hb2
          have hb2z := hb2.size
          (try simp at hb2z)
          (try have hb2z0 : w.heap.size < w2.heap.size := by omega)
          (try have hb2z1 : w.heap.size + 1 < w2.heap.size := by omega)
          (try have hb2z2 : w.heap.size + 1 + 1 < w2.heap.size := by omega)
          (try have hb2z3 : w.heap.size + 1 + 1 + 1 < w2.heap.size := by omega)
          (try have hb2z4 : w.heap.size + 1 + 1 + 1 + 1 < w2.heap.size := by omega)
          (try have hb2z5 : w.heap.size + 1 + 1 + 1 + 1 + 1 < w2.heap.size := by omega)
          go_wp2
          go_ret
          exact ⟨by rw [HEE.out]; rfl, HBR.out.trans (hb2.mono hszr)⟩
      · obtain rfl : k = N := by omega
        have HEE := Lib.hid (show E = true by
          rw [HE.out]
          refine decide_eq_true (List.ext_getElem? fun i => ?_)
          have hl : a.length = b.length := HN.out.symm.trans HM.out
          rcases Nat.lt_or_ge i a.length with h | h
          · have := HZ.out i (by rw [HN.out]; exact h)
            simpa [h, show i < b.length by omega] using this
          · rw [List.getElem?_eq_none h, List.getElem?_eq_none (by omega)])
        go_wp2
        go_ret
        exact ⟨by rw [HEE.out]; rfl, HBR.out⟩
  · have HEE := Lib.hid (show E = false by
      rw [HE.out]
      refine decide_eq_false (fun e => hnm ?_)
      rw [HN.out, HM.out, e])
    have hnm2 : ¬ (N : Int) = (M : Int) := by omega
    go_enter Tryd.func38, Tryd.ntmps38
    go_wp2
    go_ret
    exact ⟨by rw [HEE.out]; rfl, Below.refl _ _⟩
end Go.Proofs.YtdeapbihbhoefaaDoor

/- Contracts of the reference's numbers, CheckSection, CheckSections. -/
namespace Go.Proofs.YtdeapbihbhoefaaDoor
open Go.RowKit
open Calm (bcell Blk)

theorem first0 (e : Int) : firstOf [0, e] = e := by by_cases h0 : e = 0 <;> simp [firstOf, h0]
end Go.Proofs.YtdeapbihbhoefaaDoor

/- A guard's error, number by number; a guard without error is valid. No walk. -/
namespace Go.Proofs.YtdeapbihbhoefaaDoor
open Go.RowKit

theorem fo_cons0 (l : List Int) : firstOf (0 :: l) = firstOf l := by simp [firstOf]
theorem fo_consN {a : Int} (h : a ≠ 0) (l : List Int) : firstOf (a :: l) = a := by simp [firstOf, h]
theorem fo_two (a b : Int) (l : List Int) : firstOf (a :: b :: l) = if firstOf [a, b] = 0 then firstOf l else firstOf [a, b] := by
  by_cases ha : a = 0
  · subst ha
    rw [fo_cons0, fo_cons0]
    by_cases hb : b = 0
    · subst hb; simp [firstOf]
    · rw [fo_consN hb, fo_consN hb, if_neg hb]
  · rw [fo_consN ha, fo_consN ha, if_neg ha]
/-- the error of the gain at an index. -/
def eltG (gs : List Int) (k : Nat) : Int := firstOf [rangeErr (gs.getD k 0) 0 16, if k = 0 ∧ gs.getD 0 0 ≠ 0 ∨ 0 < k ∧ gs.getD k 0 ≤ gs.getD (k - 1) 0 then 11 else 0]
theorem eltG_pos {gs : List Int} {k : Nat} (h : 0 < k) : eltG gs k = ascAt gs 0 16 k := by
  unfold eltG ascAt
  have h0 : ¬ k = 0 := by omega
  simp [h, h0]
theorem eltG_zero (gs : List Int) : eltG gs 0 = firstOf [rangeErr (gs.getD 0 0) 0 16, if gs.getD 0 0 ≠ 0 then 11 else 0] := by simp [eltG]
theorem asc0 (gs : List Int) : ascAt gs 0 16 0 = rangeErr (gs.getD 0 0) 0 16 := by
  unfold ascAt
  simp only [Nat.lt_irrefl, false_and, if_false]
  by_cases h : rangeErr (gs.getD 0 0) 0 16 = 0
  · rw [h]; simp [firstOf]
  · rw [fo_consN h]
theorem g2_split (gs : List Int) : guardErr2 gs = if eltG gs 0 = 0 then ascErr gs 0 16 else eltG gs 0 := by
  rw [eltG_zero]
  unfold guardErr2
  rw [fo_two]
  have h1 : firstOf [ascErr gs 0 16] = ascErr gs 0 16 := by
    by_cases h : ascErr gs 0 16 = 0
    · rw [h]; simp [firstOf]
    · rw [fo_consN h]
  rw [h1]
theorem elt_asc {gs : List Int} {k : Nat} (h : ∀ j, j < k → eltG gs j = 0) : ∀ j, j < k → ascAt gs 0 16 j = 0 := by
  intro j hj
  rcases Nat.eq_zero_or_pos j with rfl | h0
  · rw [asc0]
    have := h 0 hj
    rw [eltG_zero, firstOf_eq_zero] at this
    exact this _ (by simp)
  · rw [← eltG_pos h0]; exact h j hj
theorem g2_at {gs : List Int} {k : Nat} (h : ∀ j, j < k → eltG gs j = 0) (hk : k < gs.length) (hn : eltG gs k ≠ 0) : guardErr2 gs = eltG gs k := by
  rw [g2_split]
  rcases Nat.eq_zero_or_pos k with rfl | h0
  · rw [if_neg hn]
  · rw [if_pos (h 0 h0)]
    have e := asc_get gs 0 16 hk
    unfold ascErr
    rw [firstOf_take (k := k) (fun j hj => by rw [asc_get gs 0 16 (by omega)]; exact elt_asc h j hj) (by simpa using hk) (by rw [e, ← eltG_pos h0]; exact hn), e, eltG_pos h0]
theorem g2_zero {gs : List Int} (h : ∀ j, j < gs.length → eltG gs j = 0) (h0 : 0 < gs.length) : guardErr2 gs = 0 := by
  rw [g2_split, if_pos (h 0 h0)]
  exact firstOf_zero (fun j hj => by
    have hj' : j < gs.length := by simpa using hj
    rw [asc_get gs 0 16 hj']; exact elt_asc h j hj')
/-- the error, from the first number that is not yet known to be right. -/
def G1 (gs : List Int) (l : List Int) : Int := if firstOf l = 0 then guardErr2 gs else firstOf l
theorem G1_cons0 (gs l : List Int) : G1 gs (0 :: l) = G1 gs l := by unfold G1; rw [fo_cons0]
theorem G1_consN (gs l : List Int) {a : Int} (h : a ≠ 0) : G1 gs (a :: l) = a := by unfold G1; rw [fo_consN h, if_neg h]
theorem G1_two0 (gs l : List Int) {a b : Int} (h : firstOf [a, b] = 0) : G1 gs (a :: b :: l) = G1 gs l := by unfold G1; rw [fo_two, if_pos h]
theorem G1_twoN (gs l : List Int) {a b : Int} (h : firstOf [a, b] ≠ 0) : G1 gs (a :: b :: l) = firstOf [a, b] := by unfold G1; rw [fo_two, if_neg h, if_neg h]
theorem G1_nil (gs : List Int) : G1 gs [] = guardErr2 gs := by simp [G1, firstOf]
theorem some0 {n : Nat} (h : n = 0) (m : Int) : someErr (n : Int) m = 12 := by simp [someErr, firstOf, h]
theorem some5 {n : Nat} (h : 8 < n) : someErr (n : Int) 8 = 5 := by
  have h1 : ¬ ((n : Int) = 0) := by omega
  have h2 : (8 : Int) < (n : Int) := by omega
  simp only [someErr, if_neg h1, if_pos h2]
  simp [firstOf]
theorem someOk {n : Nat} (h : 0 < n) (h2 : n ≤ 8) : someErr (n : Int) 8 = 0 := by
  have h1 : ¬ ((n : Int) = 0) := by omega
  have h3 : ¬ (8 : Int) < (n : Int) := by omega
  simp only [someErr, if_neg h1, if_neg h3]
  simp [firstOf]
theorem someErr_zero {n : Nat} (h : someErr (n : Int) 8 = 0) : 1 ≤ n ∧ n ≤ 8 := by
  rcases Nat.eq_zero_or_pos n with h0 | h0
  · rw [some0 h0] at h; simp at h
  · rcases Nat.lt_or_ge 8 n with h1 | h1
    · rw [some5 h1] at h; simp at h
    · exact ⟨h0, h1⟩
theorem guard_valid {lk ht rc : Int} {ts gs : List Int} (h : guardErr lk ht rc ts gs = 0) : Valid lk ht rc ts gs := by
  unfold guardErr at h
  split at h
  · rename_i h1
    have h1 := firstOf_eq_zero.1 h1
    have h2 := firstOf_eq_zero.1 h
    have k1 := rangeErr_zero.1 (h1 (rangeErr lk 1 8) (by simp))
    have k2 := rangeErr_zero.1 (h1 (rangeErr ht 0 536870912) (by simp))
    have k3 := someErr_zero (h1 (someErr ts.length 8) (by simp))
    have k4 := eachErr_zero.1 (h1 (eachErr ts (-64) 64) (by simp))
    have k5 := rangeErr_zero.1 (h1 (rangeErr rc 0 1048576) (by simp))
    have k6 := someErr_zero (h1 (someErr gs.length 8) (by simp))
    have k7 := h2 (if gs.getD 0 0 ≠ 0 then 11 else 0) (by simp)
    have k8 := firstOf_eq_zero.1 (h2 (ascErr gs 0 16) (by simp))
    refine ⟨k1, k2, k5, k3, k4, k6, fun k => ?_, ?_⟩
    · rcases Nat.lt_or_ge k gs.length with hk | hk
      · have h3 := k8 (ascAt gs 0 16 k) (List.mem_map.2 ⟨k, by simpa using hk, rfl⟩)
        have h4 := firstOf_eq_zero.1 h3
        exact rangeErr_zero.1 (h4 _ (List.mem_cons_self ..))
      · rw [List.getD_eq_getElem?_getD, List.getElem?_eq_none hk]; simp
    · by_cases hg : gs.getD 0 0 = 0
      · exact hg
      · rw [if_pos hg] at k7; simp at k7
  · rename_i h1
    exact absurd h h1
end Go.Proofs.YtdeapbihbhoefaaDoor
