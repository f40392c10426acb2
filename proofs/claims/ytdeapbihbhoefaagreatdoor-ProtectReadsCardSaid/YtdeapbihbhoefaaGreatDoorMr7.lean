/- Part 7 of the texts of the claim: P16, P17, X1, IterR. -/
import Derived.Test.YtdeapbihbhoefaaGreatDoorMr4
import Derived.Test.YtdeapbihbhoefaaGreatDoorMr6
import Derived.Test.YtdeapbihbhoefaaGreatDoorMr5
import Derived.ChangeKeysEq
import Derived.Laws.Cover3
import Derived.Test.YtdeapbihbhoefaaGreatDoorMr2
import Derived.OrdersIn

/- Contracts of checkSignal, checkRun, Run and Levels. -/
namespace Go.Proofs.YtdeapbihbhoefaaGreatDoor
open Go.RowKit
open Calm (bcell Blk)

/-- the error of a signal. -/
def sigErr (xs : List Int) : Int := firstOf [if 4096 < xs.length then 5 else 0, eachErr xs (-2048) 2048]
theorem checkSignal_any (xs : List Int) (A : Option Addr) (c : Nat) (w : World) (hC : Cells w A xs) (hn : xs.length ≤ 5000) :
    Calls Tryz.prog 69 #[.slice A xs.length c] w fun r w' => r = .returned (.int .i64 (sigErr xs)) ∧ Below w.heap.size w w' := by
  have HE : Hid (∀ W, Cells W A xs → Calls Tryz.prog 71 #[.slice A xs.length c, (.int .i64 (-2048)), (.int .i64 2048)] W fun r w' => r = .returned (.int .i64 (eachErr xs (-2048) 2048)) ∧ Below W.heap.size W w') := Lib.hid (fun W q => each_any A xs c (-2048) 2048 W q hn)
  have HS : Hid (sigErr xs = firstOf [if 4096 < xs.length then 5 else 0, eachErr xs (-2048) 2048]) := Lib.hid rfl
  have HC := Lib.hid hC
  obtain ⟨R, hR⟩ : ∃ R, R = sigErr xs := ⟨_, rfl⟩
  rw [← hR] at HS ⊢
  generalize xs.length = N at *
  clear hR hC
  by_cases h0 : 4096 < N
  · have h1 : (4096 : Int) < (N : Int) := by omega
    have HS2 : Hid (firstOf [5, eachErr xs (-2048) 2048] = R) := Lib.hid (by rw [HS.out, if_pos h0])
    clear HS
    go_enter Tryz.func69, Tryz.ntmps69
    go_wp2_with (first
      | (go_at_call 68; refine (when_any _ _ _).mono ?_; rintro r w' ⟨rfl, rfl⟩)
      | (go_at_call 71; refine (HE.out _ HC.out).mono ?_; rintro r w1 ⟨rfl, hb1⟩)
      | (go_at_call 49; refine (first2_new _ _ _).mono ?_; rintro r w2 ⟨rfl, rfl⟩))
    go_ret
    exact ⟨ret_i HS2.out, hb1.alloc hb1.size _⟩
  · have h1 : ¬ (4096 : Int) < (N : Int) := by omega
    have HS2 : Hid (firstOf [0, eachErr xs (-2048) 2048] = R) := Lib.hid (by rw [HS.out, if_neg h0])
    clear HS
    go_enter Tryz.func69, Tryz.ntmps69
    go_wp2_with (first
      | (go_at_call 68; refine (when_any _ _ _).mono ?_; rintro r w' ⟨rfl, rfl⟩)
      | (go_at_call 71; refine (HE.out _ HC.out).mono ?_; rintro r w1 ⟨rfl, hb1⟩)
      | (go_at_call 49; refine (first2_new _ _ _).mono ?_; rintro r w2 ⟨rfl, rfl⟩))
    go_ret
    exact ⟨ret_i HS2.out, hb1.alloc hb1.size _⟩
/-- the error of a guard and a signal. -/
def runErr (lk ht rc : Int) (ts gs xs : List Int) : Int := firstOf [guardErr lk ht rc ts gs, sigErr xs]
theorem checkRun_any (lk ht rc : Int) (ts gs xs : List Int) (A1 A2 A3 : Option Addr) (c1 c2 c3 : Nat) (w : World) (hT : Cells w A1 ts) (hG : Cells w A2 gs) (hX : Cells w A3 xs) (h1 : ts.length ≤ 5000) (h2 : gs.length ≤ 5000) (h3 : xs.length ≤ 5000) :
    Calls Tryz.prog 57 #[.agg #[(.int .i64 lk), (.int .i64 ht), .slice A1 ts.length c1, (.int .i64 rc), .slice A2 gs.length c2], .slice A3 xs.length c3] w fun r w' => r = .returned (.int .i64 (runErr lk ht rc ts gs xs)) ∧ Below w.heap.size w w' := by
  have HCG : Hid (∀ W, Cells W A1 ts → Cells W A2 gs → Calls Tryz.prog 35 #[.agg #[(.int .i64 lk), (.int .i64 ht), .slice A1 ts.length c1, (.int .i64 rc), .slice A2 gs.length c2]] W fun r w' => r = .returned (.int .i64 (guardErr lk ht rc ts gs)) ∧ Below W.heap.size W w') := Lib.hid (fun W q1 q2 => checkGuard_any lk ht rc ts gs A1 A2 c1 c2 W q1 q2 h1 h2)
  have HCS : Hid (∀ W, Cells W A3 xs → Calls Tryz.prog 69 #[.slice A3 xs.length c3] W fun r w' => r = .returned (.int .i64 (sigErr xs)) ∧ Below W.heap.size W w') := Lib.hid (fun W q => checkSignal_any xs A3 c3 W q h3)
  have HS : Hid (firstOf [guardErr lk ht rc ts gs, sigErr xs] = runErr lk ht rc ts gs xs) := Lib.hid rfl
  have HT := Lib.hid hT
  have HG := Lib.hid hG
  have HX := Lib.hid hX
  obtain ⟨R, hR⟩ : ∃ R, R = runErr lk ht rc ts gs xs := ⟨_, rfl⟩
  rw [← hR] at HS ⊢
  generalize xs.length = N at *
  generalize ts.length = M at *
  generalize gs.length = L at *
  clear hR hT hG hX
  go_enter Tryz.func57, Tryz.ntmps57
  go_wp2_with (first
    | (go_at_call 35; refine (HCG.out _ (HT.out.below (by (repeat (first | (with_reducible exact Below.refl _ _) | ((with_reducible refine Below.setCell ?_ ?_ _); rotate_left 1; focus (first | (simp; done) | (simp; omega) | (simp at *; omega))) | ((with_reducible refine Below.alloc ?_ ?_ _); rotate_left 1; focus (first | (simp; done) | (simp; omega) | (simp at *; omega))) | (with_reducible refine Below.drew ?_) | ((with_reducible refine Calm.step (by assumption) ?_ ?_); rotate_left 1; focus (first | (simp; done) | (simp; omega) | (simp at *; omega))))))) (HG.out.below (by (repeat (first | (with_reducible exact Below.refl _ _) | ((with_reducible refine Below.setCell ?_ ?_ _); rotate_left 1; focus (first | (simp; done) | (simp; omega) | (simp at *; omega))) | ((with_reducible refine Below.alloc ?_ ?_ _); rotate_left 1; focus (first | (simp; done) | (simp; omega) | (simp at *; omega))) | (with_reducible refine Below.drew ?_) | ((with_reducible refine Calm.step (by assumption) ?_ ?_); rotate_left 1; focus (first | (simp; done) | (simp; omega) | (simp at *; omega)))))))).mono ?_; rintro r w1 ⟨rfl, hb1⟩; have HB1 := Lib.hid (show Below w.heap.size w w1 from Below.trans (by (repeat (first | (with_reducible exact Below.refl _ _) | ((with_reducible refine Below.setCell ?_ ?_ _); rotate_left 1; focus (first | (simp; done) | (simp; omega) | (simp at *; omega))) | ((with_reducible refine Below.alloc ?_ ?_ _); rotate_left 1; focus (first | (simp; done) | (simp; omega) | (simp at *; omega))) | (with_reducible refine Below.drew ?_) | ((with_reducible refine Calm.step (by assumption) ?_ ?_); rotate_left 1; focus (first | (simp; done) | (simp; omega) | (simp at *; omega)))))) (hb1.mono (by simp))); clear hb1)
    | (go_at_call 69; refine (HCS.out _ (HX.out.below HB1.out)).mono ?_; rintro r w2 ⟨rfl, hb2⟩; have HB2 := Lib.hid (HB1.out.trans (hb2.mono HB1.out.size)); clear hb2)
    | (go_at_call 49; refine (first2_new _ _ _).mono ?_; rintro r w3 ⟨rfl, rfl⟩))
  go_ret
  exact ⟨ret_i HS.out, HB2.out.alloc HB2.out.size _⟩
theorem run_ok (lk ht rc : Int) (ts gs xs : List Int) (A1 A2 A3 : Option Addr) (c1 c2 c3 : Nat) (w : World) (hL : Lim w) (hV : Valid lk ht rc ts gs) (hT : Cells w A1 ts) (hG : Cells w A2 gs) (hX : Cells w A3 xs) (hx : inB 2048 xs) (h1 : ts.length ≤ 5000) (h2 : gs.length ≤ 5000) (h3 : xs.length ≤ 5000)
    (he : runErr lk ht rc ts gs xs = 0) :
    Calls Tryz.prog 25 #[.agg #[(.int .i64 lk), (.int .i64 ht), .slice A1 ts.length c1, (.int .i64 rc), .slice A2 gs.length c2], .slice A3 xs.length c3] w fun r w' => (∃ B d, r = .returned (.tuple #[.slice B xs.length d, (.int .i64 0)]) ∧ Cells w' B (outsK lk ht rc ts gs xs xs.length)) ∧ Below w.heap.size w w' := by
  have HCR : Hid (∀ W, Cells W A1 ts → Cells W A2 gs → Cells W A3 xs → Calls Tryz.prog 57 #[.agg #[(.int .i64 lk), (.int .i64 ht), .slice A1 ts.length c1, (.int .i64 rc), .slice A2 gs.length c2], .slice A3 xs.length c3] W fun r w' => r = .returned (.int .i64 0) ∧ Below W.heap.size W w') := Lib.hid (fun W q1 q2 q3 => by
    have := checkRun_any lk ht rc ts gs xs A1 A2 A3 c1 c2 c3 W q1 q2 q3 h1 h2 h3
    rwa [he] at this)
  have HR : Hid (∀ W, Lim W → Cells W A1 ts → Cells W A2 gs → Cells W A3 xs → Calls Tryz.prog 58 #[.agg #[(.int .i64 lk), (.int .i64 ht), .slice A1 ts.length c1, (.int .i64 rc), .slice A2 gs.length c2], .slice A3 xs.length c3] W fun r w' => (∃ B1 d1 B2 d2, r = .returned (.tuple #[.slice B1 xs.length d1, .slice B2 xs.length d2]) ∧ Cells w' B1 (outsK lk ht rc ts gs xs xs.length) ∧ Cells w' B2 (lvsK lk ht rc ts gs xs xs.length)) ∧ Below W.heap.size W w') :=
    Lib.hid (fun W q0 q1 q2 q3 => run_any lk ht rc ts gs xs A1 A2 A3 c1 c2 c3 W q0 hV q1 q2 q3 hx h3)
  have HT := Lib.hid hT
  have HG := Lib.hid hG
  have HX := Lib.hid hX
  have HL := Lib.hid hL
  generalize xs.length = N at *
  generalize ts.length = M at *
  generalize gs.length = L at *
  clear hT hG hX hL hV hx he
  go_enter Tryz.func25, Tryz.ntmps25
  go_wp2_with (first
    | (go_at_call 57; refine (HCR.out _ (HT.out.below (by (repeat (first | (with_reducible exact Below.refl _ _) | ((with_reducible refine Below.setCell ?_ ?_ _); rotate_left 1; focus (first | (simp; done) | (simp; omega) | (simp at *; omega))) | ((with_reducible refine Below.alloc ?_ ?_ _); rotate_left 1; focus (first | (simp; done) | (simp; omega) | (simp at *; omega))) | (with_reducible refine Below.drew ?_) | ((with_reducible refine Calm.step (by assumption) ?_ ?_); rotate_left 1; focus (first | (simp; done) | (simp; omega) | (simp at *; omega))))))) (HG.out.below (by (repeat (first | (with_reducible exact Below.refl _ _) | ((with_reducible refine Below.setCell ?_ ?_ _); rotate_left 1; focus (first | (simp; done) | (simp; omega) | (simp at *; omega))) | ((with_reducible refine Below.alloc ?_ ?_ _); rotate_left 1; focus (first | (simp; done) | (simp; omega) | (simp at *; omega))) | (with_reducible refine Below.drew ?_) | ((with_reducible refine Calm.step (by assumption) ?_ ?_); rotate_left 1; focus (first | (simp; done) | (simp; omega) | (simp at *; omega))))))) (HX.out.below (by (repeat (first | (with_reducible exact Below.refl _ _) | ((with_reducible refine Below.setCell ?_ ?_ _); rotate_left 1; focus (first | (simp; done) | (simp; omega) | (simp at *; omega))) | ((with_reducible refine Below.alloc ?_ ?_ _); rotate_left 1; focus (first | (simp; done) | (simp; omega) | (simp at *; omega))) | (with_reducible refine Below.drew ?_) | ((with_reducible refine Calm.step (by assumption) ?_ ?_); rotate_left 1; focus (first | (simp; done) | (simp; omega) | (simp at *; omega)))))))).mono ?_; rintro r w1 ⟨rfl, hb1⟩; have HB1 := Lib.hid (show Below w.heap.size w w1 from Below.trans (by (repeat (first | (with_reducible exact Below.refl _ _) | ((with_reducible refine Below.setCell ?_ ?_ _); rotate_left 1; focus (first | (simp; done) | (simp; omega) | (simp at *; omega))) | ((with_reducible refine Below.alloc ?_ ?_ _); rotate_left 1; focus (first | (simp; done) | (simp; omega) | (simp at *; omega))) | (with_reducible refine Below.drew ?_) | ((with_reducible refine Calm.step (by assumption) ?_ ?_); rotate_left 1; focus (first | (simp; done) | (simp; omega) | (simp at *; omega)))))) (hb1.mono (by simp))); have K0 : Blk w1 w.heap.size #[(.int .i64 lk), (.int .i64 ht), .slice A1 M c1, (.int .i64 rc), .slice A2 L c2] := Blk.below (by (repeat (first | ((with_reducible refine Blk.at_ ?_); focus (first | rfl | (simp; done) | (simp; omega))) | (with_reducible refine Blk.alloc ?_ _) | (with_reducible refine Blk.below ?_ (by with_reducible assumption)) | (with_reducible refine Blk.drew ?_)))) hb1; obtain ⟨c00, c01, c02, c03, c04, l0, f0⟩ := K0.o5; clear hb1 K0)
    | (go_at_call 58; refine (HR.out _ (HL.out.below HB1.out) (HT.out.below HB1.out) (HG.out.below HB1.out) (HX.out.below HB1.out)).mono ?_; rintro r w2 ⟨⟨B1, d1, B2, d2, rfl, hc1, _⟩, hb2⟩; have HC1 := Lib.hid hc1; have HB2 := Lib.hid (HB1.out.trans (hb2.mono HB1.out.size)); clear hb2 hc1))
  exact bodyPost_ret (v := .tuple #[.slice B1 N d1, (.int .i64 0)]) (by simp [results, Tryz.results25, go_sem]) rfl (by first | exact ⟨⟨B1, d1, rfl, HC1.out⟩, HB2.out⟩ | exact ⟨⟨B1, ⟨d1, rfl⟩, HC1.out⟩, HB2.out⟩)
end Go.Proofs.YtdeapbihbhoefaaGreatDoor

/- Contract of Peaks on a valid guard and signal. -/
namespace Go.Proofs.YtdeapbihbhoefaaGreatDoor
open Go.RowKit
open Calm (bcell Blk)

def mx (x y : Int) : Int := if y > x then y else x
theorem max2_any (ts : Array TypeId) (t : TypeId) (x y : Int) (W : World) : (Builtin.max_ ts t #[(.int .i64 x), (.int .i64 y)]).run Tryz.prog W = .ok (.int .i64 (mx x y)) W := by
  simp [Builtin.max_, Builtin.max2, mx]
/-- the heats, the last outputs, the excursions and the peaks of outputs. -/
def bhAt (lk : Int) (ys : List Int) : Nat → Int
  | 0 => 0
  | k + 1 => coolF lk (bhAt lk ys k) + ys.getD k 0 * ys.getD k 0
def bpAt (n : Nat) (ys : List Int) : Nat → List Int
  | 0 => List.replicate n 0
  | k + 1 => pushL (bpAt n ys k) (ys.getD k 0)
def exAt (ts ys : List Int) (k : Nat) : Int := exF ts (bpAt (ts.length - 1) ys k) (ys.getD k 0)
def pkH (lk : Int) (ys : List Int) : Nat → Int
  | 0 => 0
  | k + 1 => mx (pkH lk ys k) (bhAt lk ys (k + 1))
def pkX (ts ys : List Int) : Nat → Int
  | 0 => 0
  | k + 1 => mx (pkX ts ys k) (absI (exAt ts ys k))
theorem bpAt_len (n : Nat) (ys : List Int) : ∀ k, (bpAt n ys k).length = n
  | 0 => List.length_replicate
  | k + 1 => (pushL_len _ _).trans (bpAt_len n ys k)
theorem bpAt_in {n : Nat} {ys : List Int} (hy : inB 2048 ys) : ∀ k, inB 2048 (bpAt n ys k)
  | 0 => fun x hx => by have := List.eq_of_mem_replicate hx; omega
  | k + 1 => inB_push (bpAt_in hy k) (inB_get hy (by omega) k)
theorem sq_bd {y : Int} (h : -2048 ≤ y ∧ y ≤ 2048) : 0 ≤ y * y ∧ y * y ≤ 4194304 := by
  have := mul_bd h h
  have h2 : 0 ≤ y * y := by
    rcases Int.le_total 0 y with h3 | h3
    · exact Int.mul_nonneg h3 h3
    · exact Int.mul_nonneg_of_nonpos_of_nonpos h3 h3
  omega
theorem bhAt_bd {lk : Int} {ys : List Int} (hy : inB 2048 ys) : ∀ k : Nat, 0 ≤ bhAt lk ys k ∧ bhAt lk ys k ≤ 4194304 * (k : Int)
  | 0 => by simp [bhAt]
  | k + 1 => by
    have h1 := bhAt_bd (lk := lk) hy k
    have h2 := coolF_bd lk h1.1
    have h3 := sq_bd (inB_get hy (by omega) k)
    simp only [bhAt]
    omega
theorem exAt_bd {ts ys : List Int} (h1 : inB 64 ts) (hy : inB 2048 ys) (hn : ts.length ≤ 8) (k : Nat) : -1099511627776 ≤ exAt ts ys k ∧ exAt ts ys k ≤ 1099511627776 :=
  exF_bd h1 (bpAt_in hy k) (inB_get hy (by omega) k) (by rw [bpAt_len]; omega)

set_option maxHeartbeats 4000000 in
set_option maxRecDepth 100000 in
theorem peaks_ok (lk ht rc : Int) (ts gs ys : List Int) (A1 A2 A3 : Option Addr) (c1 c2 c3 : Nat) (w : World) (hV : Valid lk ht rc ts gs) (hT : Cells w A1 ts) (hG : Cells w A2 gs) (hX : Cells w A3 ys) (hy : inB 2048 ys) (h1 : ts.length ≤ 5000) (h2 : gs.length ≤ 5000) (h3 : ys.length ≤ 5000)
    (he : runErr lk ht rc ts gs ys = 0) :
    Calls Tryz.prog 26 #[.agg #[(.int .i64 lk), (.int .i64 ht), .slice A1 ts.length c1, (.int .i64 rc), .slice A2 gs.length c2], .slice A3 ys.length c3] w fun r w' => r = .returned (.tuple #[.agg #[(.int .i64 (pkH lk ys ys.length)), (.int .i64 (pkX ts ys ys.length))], (.int .i64 0)]) ∧ Below w.heap.size w w' := by
  have HCR : Hid (∀ W, Cells W A1 ts → Cells W A2 gs → Cells W A3 ys → Calls Tryz.prog 57 #[.agg #[(.int .i64 lk), (.int .i64 ht), .slice A1 ts.length c1, (.int .i64 rc), .slice A2 gs.length c2], .slice A3 ys.length c3] W fun r w' => r = .returned (.int .i64 0) ∧ Below W.heap.size W w') := Lib.hid (fun W q1 q2 q3 => by
    have := checkRun_any lk ht rc ts gs ys A1 A2 A3 c1 c2 c3 W q1 q2 q3 h1 h2 h3
    rwa [he] at this)
  obtain ⟨M, hM⟩ : ∃ M, M = ts.length := ⟨_, rfl⟩
  obtain ⟨L, hLL⟩ : ∃ L, L = gs.length := ⟨_, rfl⟩
  obtain ⟨N, hN⟩ : ∃ N, N = ys.length := ⟨_, rfl⟩
  obtain ⟨Q, hQ⟩ : ∃ Q, Q = ts.length - 1 := ⟨_, rfl⟩
  have tl := hV.tl
  have gl := hV.gl
  have HRS : Hid (∀ W, Calls Tryz.prog 55 #[.agg #[(.int .i64 lk), (.int .i64 ht), .slice A1 M c1, (.int .i64 rc), .slice A2 L c2]] W fun r w' => (∃ B, W.heap.size ≤ B.block ∧ r = .returned (.agg #[(.int .i64 (bhAt lk ys 0)), (.int .i64 (((L - 1 : Nat) : Int))), .slice (some B) Q Q]) ∧ Cells w' (some B) (bpAt Q ys 0)) ∧ Below W.heap.size W w') := Lib.hid (fun W => by
    rw [hM, hLL, hQ]
    exact rest_any lk ht rc A1 A2 ts.length c1 gs.length c2 W (by omega) (by omega))
  have HBH : Hid (∀ (W : World) (k : Nat) (A : Option Addr) (c : Nat), k ≤ N → Cells W A1 ts → Cells W A (bpAt Q ys k) → Calls Tryz.prog 52 #[.agg #[(.int .i64 lk), (.int .i64 ht), .slice A1 M c1, (.int .i64 rc), .slice A2 L c2], .agg #[(.int .i64 (bhAt lk ys k)), (.int .i64 (((L - 1 : Nat) : Int))), .slice A Q c], (.int .i64 (ys.getD k 0))] W fun r w' =>
      (∃ B, W.heap.size ≤ B.block ∧ r = .returned (.tuple #[.agg #[(.int .i64 (bhAt lk ys (k + 1))), (.int .i64 (((L - 1 : Nat) : Int))), .slice (some B) Q Q], (.int .i64 (exAt ts ys k))]) ∧ Cells w' (some B) (bpAt Q ys (k + 1))) ∧ Below W.heap.size W w') := Lib.hid (fun W k A c q0 q1 q2 => by
    have e := bpAt_len Q ys k
    have hb := bhAt_bd (lk := lk) hy k
    have := behind_any lk ht rc (bhAt lk ys k) ((L - 1 : Nat) : Int) (ys.getD k 0) ts (bpAt Q ys k) A1 A2 A c1 L c2 c W hV.lk (by omega) q1 q2 (by omega) (by omega) hV.tb (bpAt_in hy k) (inB_get hy (by omega) k)
    rw [e, ← hM] at this
    unfold exAt
    rw [← hQ]
    exact this)
  have HXB : Hid (∀ k, -1099511627776 ≤ exAt ts ys k ∧ exAt ts ys k ≤ 1099511627776) := Lib.hid (fun k => exAt_bd hV.tb hy tl.2 k)
  have HT := Lib.hid hT
  have HG := Lib.hid hG
  have HX := Lib.hid hX
  have HN := Lib.hid hN
  have HQL : Hid (∀ k, (bpAt Q ys k).length = Q) := Lib.hid (fun k => bpAt_len Q ys k)
  rw [← hM, ← hLL, ← hN] at HCR
  rw [← hM, ← hLL, ← hN]
  rw [← hN] at h3
  obtain ⟨L1, hL1⟩ : ∃ L1 : Int, L1 = ((L - 1 : Nat) : Int) := ⟨_, rfl⟩
  rw [← hL1] at HRS HBH
  clear hM hLL hN hQ hT hG hX hV hy he h1 h2 tl gl hL1
  have hmax := max2_any
  go_enter Tryz.func26, Tryz.ntmps26
  go_wp2_with (first
    | (go_at_call 57; refine (HCR.out _ (HT.out.below (by (repeat (first | (with_reducible exact Below.refl _ _) | ((with_reducible refine Below.setCell ?_ ?_ _); rotate_left 1; focus (first | (simp; done) | (simp; omega) | (simp at *; omega))) | ((with_reducible refine Below.alloc ?_ ?_ _); rotate_left 1; focus (first | (simp; done) | (simp; omega) | (simp at *; omega))) | (with_reducible refine Below.drew ?_) | ((with_reducible refine Calm.step (by assumption) ?_ ?_); rotate_left 1; focus (first | (simp; done) | (simp; omega) | (simp at *; omega))))))) (HG.out.below (by (repeat (first | (with_reducible exact Below.refl _ _) | ((with_reducible refine Below.setCell ?_ ?_ _); rotate_left 1; focus (first | (simp; done) | (simp; omega) | (simp at *; omega))) | ((with_reducible refine Below.alloc ?_ ?_ _); rotate_left 1; focus (first | (simp; done) | (simp; omega) | (simp at *; omega))) | (with_reducible refine Below.drew ?_) | ((with_reducible refine Calm.step (by assumption) ?_ ?_); rotate_left 1; focus (first | (simp; done) | (simp; omega) | (simp at *; omega))))))) (HX.out.below (by (repeat (first | (with_reducible exact Below.refl _ _) | ((with_reducible refine Below.setCell ?_ ?_ _); rotate_left 1; focus (first | (simp; done) | (simp; omega) | (simp at *; omega))) | ((with_reducible refine Below.alloc ?_ ?_ _); rotate_left 1; focus (first | (simp; done) | (simp; omega) | (simp at *; omega))) | (with_reducible refine Below.drew ?_) | ((with_reducible refine Calm.step (by assumption) ?_ ?_); rotate_left 1; focus (first | (simp; done) | (simp; omega) | (simp at *; omega)))))))).mono ?_; rintro r w1 ⟨rfl, hb1⟩; have HB1 := Lib.hid (show Below w.heap.size w w1 from Below.trans (by (repeat (first | (with_reducible exact Below.refl _ _) | ((with_reducible refine Below.setCell ?_ ?_ _); rotate_left 1; focus (first | (simp; done) | (simp; omega) | (simp at *; omega))) | ((with_reducible refine Below.alloc ?_ ?_ _); rotate_left 1; focus (first | (simp; done) | (simp; omega) | (simp at *; omega))) | (with_reducible refine Below.drew ?_) | ((with_reducible refine Calm.step (by assumption) ?_ ?_); rotate_left 1; focus (first | (simp; done) | (simp; omega) | (simp at *; omega)))))) (hb1.mono (by simp; try omega))); have K0 : Blk w1 w.heap.size #[(.int .i64 lk), (.int .i64 ht), .slice A1 M c1, (.int .i64 rc), .slice A2 L c2] := Blk.below (by (repeat (first | ((with_reducible refine Blk.at_ ?_); focus (first | rfl | (simp; done) | (simp; omega))) | (with_reducible refine Blk.alloc ?_ _) | (with_reducible refine Blk.below ?_ (by with_reducible assumption)) | (with_reducible refine Blk.drew ?_)))) hb1; have K1 : Blk w1 (w.heap.size + 1) #[(.int .i64 0), (.int .i64 0)] := Blk.below (by (repeat (first | ((with_reducible refine Blk.at_ ?_); focus (first | rfl | (simp; done) | (simp; omega))) | (with_reducible refine Blk.alloc ?_ _) | (with_reducible refine Blk.below ?_ (by with_reducible assumption)) | (with_reducible refine Blk.drew ?_)))) hb1; obtain ⟨c00, c01, c02, c03, c04, l0, f0⟩ := K0.o5; have HK0 := Lib.hid K0; have HK1 := Lib.hid K1; have hl1 := K1.lt; have hl0' : w.heap.size < w1.heap.size + 1 := (by omega); clear hb1 K0 K1)
    | (go_at_call 55; refine (HRS.out _).mono ?_; rintro r w2 ⟨⟨B, hBb, rfl, hC2⟩, hb2⟩; refine Hid.out ?_))
  have hs2 := hb2.size
  simp only [World.size_alloc] at hs2 hBb
  have KT2 : Blk w2 w1.heap.size #[(.int .i64 0), (.int .i64 0)] := (Blk.new w1 _ _).below hb2
  have HKT2 := Lib.hid KT2
  have HK02 := Lib.hid ((HK0.out.alloc (.cells #[(.int .i64 0), (.int .i64 0)] 62)).below hb2)
  have HK12 := Lib.hid ((HK1.out.alloc (.cells #[(.int .i64 0), (.int .i64 0)] 62)).below hb2)
  have HB2 : Hid (Below w.heap.size w w2) := Lib.hid ((HB1.out.alloc (by omega) _).trans (hb2.mono (by simp; omega)))
  have HC2 := Lib.hid hC2
  clear hb2 hC2 KT2 HB1 HK0 HK1 c00 c01 c02 c03 c04 l0 f0 hl0'
  unfold Hid
  go_wp2
  go_loopw [25] (fun i wr => ∃ (k : Nat) (A : Option Addr) (c : Nat), k ≤ N ∧ i = (.int .i64 ((k : Int))) ∧ Blk wr w.heap.size #[(.int .i64 lk), (.int .i64 ht), .slice A1 M c1, (.int .i64 rc), .slice A2 L c2] ∧ Blk wr (w.heap.size + 1) #[(.int .i64 0), (.int .i64 0)] ∧ Blk wr w1.heap.size #[(.int .i64 (pkH lk ys k)), (.int .i64 (pkX ts ys k))] ∧
      Blk wr w2.heap.size #[(.int .i64 (bhAt lk ys k)), (.int .i64 L1), .slice A Q c] ∧ Cells wr A (bpAt Q ys k) ∧ (0 < Q → ∀ p, A = some p → p.block ≠ w1.heap.size ∧ p.block ≠ w2.heap.size) ∧ Below w.heap.size w wr) (fun i _ => N - (intOf i).toNat)
  case atStart =>
    exact ⟨0, some B, Q, Nat.zero_le _, rfl, HK02.out.alloc _, HK12.out.alloc _, HKT2.out.alloc _, Blk.new _ _ _, HC2.out.below ((Below.refl _ _).alloc (Nat.le_refl _) _), fun h0 p hp => by
      obtain ⟨b, off, hA, hl, _⟩ := HC2.out (by rw [HQL.out]; exact h0)
      cases hp; cases hA
      have : w1.heap.size + 1 ≤ b := hBb
      exact ⟨by show b ≠ _; omega, by show b ≠ _; omega⟩, HB2.out.alloc HB2.out.size _⟩
  case round =>
    clear HKT2 HK02 HK12
    obtain ⟨k, A, c, hk, rfl, K0, K1, KT, KS, hCA, hAne, hB⟩ := hrel
    have HCA := Lib.hid hCA
    have HB := Lib.hid hB
    have hsz := hB.size
    clear hCA
    by_cases hlt : k < N
    · obtain ⟨b3, o3, rfl, l3, k3⟩ := HX.out (by rw [← HN.out]; omega)
      have x3 := (hB.cell (p := ⟨b3, o3 + k, none⟩) l3).trans (k3 k (by rw [← HN.out]; exact hlt))
      have HTr := Lib.hid (HT.out.below hB)
      have HS1 := HBH.out wr k A c hk HTr.out HCA.out
      have hxb := HXB.out k
      have HPH : Hid (pkH lk ys (k + 1) = mx (pkH lk ys k) (bhAt lk ys (k + 1))) := Lib.hid rfl
      have HPX : Hid (pkX ts ys (k + 1) = mx (pkX ts ys k) (absI (exAt ts ys k))) := Lib.hid rfl
      obtain ⟨X, hX⟩ : ∃ X, X = exAt ts ys k := ⟨_, rfl⟩
      obtain ⟨y, hy⟩ : ∃ y, y = ys.getD k 0 := ⟨_, rfl⟩
      obtain ⟨h', hh'⟩ : ∃ h', h' = bhAt lk ys (k + 1) := ⟨_, rfl⟩
      obtain ⟨ph, hph⟩ : ∃ ph, ph = pkH lk ys k := ⟨_, rfl⟩
      obtain ⟨px, hpx⟩ : ∃ px, px = pkX ts ys k := ⟨_, rfl⟩
      rw [← hX, ← hy, ← hh'] at HS1
      rw [← hX] at hxb HPX
      rw [← hh', ← hph] at HPH
      rw [← hpx] at HPX
      rw [← hy] at x3
      rw [← hph, ← hpx] at KT
      have HHE := Lib.hid hh'
      have HSS := Lib.hid HS1
      obtain ⟨xb1, xb2⟩ := hxb
      obtain ⟨c00, c01, c02, c03, c04, l0, f0⟩ := K0.o5
      obtain ⟨t0, t1, tl, tf⟩ := KT.o2
      obtain ⟨s0, s1, s2, sl, sf⟩ := KS.o3
      have HK0 := Lib.hid K0
      have HK1 := Lib.hid K1
      have HKT := Lib.hid KT
      have HKS := Lib.hid KS
      have HANE := Lib.hid hAne
      have hw2r : w2.heap.size < wr.heap.size := sl
      clear k3 hX hy hh' hph hpx HS1 K0 K1 KT KS hB hAne
      go_wp2_with (go_at_call 52; refine HSS.out.mono ?_; rintro r w3 ⟨⟨B2, hBb2, rfl, hC3⟩, hb3⟩; have hs3 := hb3.size; have HC3 := Lib.hid hC3; have HB3 := Lib.hid hb3; clear hC3 hb3)
      refine name_world ?_
      intro w4 e4
      have hN4 : w3.heap.size < w4.heap.size := by rw [e4]; simp
      have hb4 : Below w3.heap.size w3 w4 := by rw [e4]; exact (Below.refl _ _).alloc (Nat.le_refl _) _
      have KN : Blk w4 w3.heap.size #[(.int .i64 h'), (.int .i64 L1), .slice (some B2) Q Q] := by rw [e4]; exact Blk.new _ _ _
      have HK04 := Lib.hid ((HK0.out.below HB3.out).below hb4)
      have HK14 := Lib.hid ((HK1.out.below HB3.out).below hb4)
      have HKT4 := Lib.hid ((HKT.out.below HB3.out).below hb4)
      have HKS4 := Lib.hid ((HKS.out.below HB3.out).below hb4)
      have HKN4 := Lib.hid KN
      have HC4 := Lib.hid (HC3.out.below hb4)
      have HBA4 := Lib.hid (HB.out.trans ((HB3.out.trans (hb4.mono hs3)).mono hsz))
      obtain ⟨n0, n1, n2, nl, nf⟩ := KN.o3
      obtain ⟨tt0, tt1, ttl, ttf⟩ := HKT4.out.o2
      clear e4 hb4 KN HK0 HK1 HKT HKS HC3 HB3 HB HSS c00 c01 c02 c03 c04 l0 f0 t0 t1 tl tf s0 s1 s2 sl sf x3
      refine Rel.region3 12 (by kernel_rfl) (by kernel_rfl) (by kernel_rfl) ?_
      simp only [List.take_succ_cons, List.take_zero, List.drop_succ_cons, List.drop_zero, List.filterMap_cons, List.filterMap_nil]
      iterate 8 (apply Rel.op3; (focus (first | exact Rel.gno rfl | exact Rel.gyes _ true _ rfl rfl rfl | exact Rel.gyes _ false _ rfl rfl rfl)); (focus (intro a W hb hd hbase; obtain ⟨hc, hf⟩ := bcell hb; clear hb hf; simp [Rel.deps, Rel.dep1, Rel.ons, Region.binds, Act.eval] at hd; simp only [Act.eval, List.mem_cons, List.not_mem_nil, not_or, and_imp, or_false, Array.getD_eq_getD_getElem?] at hbase; go_simp; (try go_bits); (try rfl); done)); (try simp only [List.nil_append, List.cons_append]))
      (apply Rel.call3; (focus (first | exact Rel.gno rfl | exact Rel.gyes _ true _ rfl rfl rfl | exact Rel.gyes _ false _ rfl rfl rfl)); (focus (intro a W hb hd hbase; obtain ⟨hc, hf⟩ := bcell hb; clear hb hf; simp [Rel.deps, Rel.dep1, Rel.ons, Region.binds, Act.eval] at hd; simp only [Act.eval, List.mem_cons, List.not_mem_nil, not_or, and_imp, or_false, Array.getD_eq_getD_getElem?] at hbase; go_simp; refine ⟨?_, ?_⟩; rfl; rfl)); (focus (intro W hb; go_at_call 59; exact (abs_any _ _ ⟨by omega, by omega⟩).mono (fun _ _ ⟨he, h2⟩ => ⟨he, h2 ▸ Below.refl _ _⟩))); (try simp only [List.nil_append, List.cons_append]))
      iterate 2 (apply Rel.op3; (focus (first | exact Rel.gno rfl | exact Rel.gyes _ true _ rfl rfl rfl | exact Rel.gyes _ false _ rfl rfl rfl)); (focus (intro a W hb hd hbase; obtain ⟨hc, hf⟩ := bcell hb; clear hb hf; simp [Rel.deps, Rel.dep1, Rel.ons, Region.binds, Act.eval] at hd; simp only [Act.eval, List.mem_cons, List.not_mem_nil, not_or, and_imp, or_false, Array.getD_eq_getD_getElem?] at hbase; go_simp; (try go_bits); (try rfl); done)); (try simp only [List.nil_append, List.cons_append]))
      (apply Rel.alloc3 62 #[(.int .i64 0), (.int .i64 0)]; (focus (exact Rel.gno rfl)); (focus (intro a W; go_simp)); (try simp only [List.nil_append, List.cons_append]))
      refine Rel.done3 ?_
      intro x w5 hb5 hx
      simp only [Rel.facts, Nat.zero_add, Nat.reduceAdd] at hx
      obtain ⟨e0, e1, e2, e3, e4, e5, e6, e7, e8, e9, e10, ⟨g, e11, hg, hKg⟩, _⟩ := hx
      simp only [Rel.fill, Nat.zero_add, Nat.reduceAdd, e0, e1, e2, e3, e4, e5, e6, e7, e8, e9, e10, e11]
      simp only [Act.put, List.setIfInBounds_toArray, List.set_cons_zero, List.set_cons_succ]
      have HK05 := Lib.hid (HK04.out.below hb5)
      have HK15 := Lib.hid (HK14.out.below hb5)
      have HKT5 := Lib.hid (HKT4.out.below hb5)
      have HKS5 := Lib.hid (HKS4.out.below hb5)
      have HKN5 := Lib.hid (HKN4.out.below hb5)
      have HC5 := Lib.hid (HC4.out.below hb5)
      have HBg : Hid (0 < (bpAt Q ys (k + 1)).length → B2.block < g ∧ wr.heap.size ≤ B2.block) := Lib.hid (fun h0 => by
        obtain ⟨b, off, hA, hl, _⟩ := HC4.out h0
        cases hA
        exact ⟨Nat.lt_of_lt_of_le hl hg, hBb2⟩)
      have HBA5 := Lib.hid (HBA4.out.trans (hb5.mono HBA4.out.size))
      have HKG := Lib.hid hKg
      clear e0 e1 e2 e3 e4 e5 e6 e7 e8 e9 e10 e11 hb5 HK04 HK14 HKT4 HKS4 HKN4 HC4 HBA4 n0 n1 n2 nl nf tt0 tt1 ttl ttf hKg
      rw [← HPH.out, ← HPX.out]
      obtain ⟨ph', hph'⟩ : ∃ ph', ph' = pkH lk ys (k + 1) := ⟨_, rfl⟩
      obtain ⟨px', hpx'⟩ : ∃ px', px' = pkX ts ys (k + 1) := ⟨_, rfl⟩
      rw [← hph', ← hpx']
      have HPH' := Lib.hid hph'
      have HPX' := Lib.hid hpx'
      clear hph' hpx'
      obtain ⟨q0, q1, ql, qf⟩ := HKG.out.o2
      obtain ⟨t0, t1, tl, tf⟩ := HKT5.out.o2
      obtain ⟨n0, n1, n2, nl, nf⟩ := HKN5.out.o3
      obtain ⟨s0, s1, s2, sl, sf⟩ := HKS5.out.o3
      have q12 : ¬ w1.heap.size = w2.heap.size := by omega
      have q13 : ¬ w1.heap.size = w3.heap.size := by omega
      have q1g : ¬ w1.heap.size = g := by omega
      have q21 : ¬ w2.heap.size = w1.heap.size := by omega
      have q23 : ¬ w2.heap.size = w3.heap.size := by omega
      have q2g : ¬ w2.heap.size = g := by omega
      have q31 : ¬ w3.heap.size = w1.heap.size := by omega
      have q32 : ¬ w3.heap.size = w2.heap.size := by omega
      have q3g : ¬ w3.heap.size = g := by omega
      have qg1 : ¬ g = w1.heap.size := by omega
      have qg2 : ¬ g = w2.heap.size := by omega
      have qg3 : ¬ g = w3.heap.size := by omega
      have qwg : ¬ g = w.heap.size := by omega
      by_cases hE : ph' = ph ∧ px' = px
      · obtain ⟨e1, e2⟩ := hE
        subst e1
        subst e2
        go_wp2
        go_roundw
        case rel =>
          refine ⟨k + 1, some B2, Q, by omega, by go_num, ?_, ?_, ?_, ?_, ?_, fun _ p hp => by cases hp; omega, ?_⟩
          · (repeat (refine Calm.Blk.far ?_ (by first | assumption | (simp; omega)) _)); exact HK05.out
          · (repeat (refine Calm.Blk.far ?_ (by first | assumption | (simp; omega)) _)); exact HK15.out
          · rw [← HPH'.out, ← HPX'.out]
            (repeat (refine Calm.Blk.far ?_ (by first | assumption | (simp; omega)) _))
            exact HKT5.out
          · rw [← HHE.out]
            refine Calm.Blk.set3 (u0 := (.int .i64 (bhAt lk ys k))) (u1 := (.int .i64 L1)) (u2 := .slice A Q c) ?_ _ _ _
            (repeat (refine Calm.Blk.far ?_ (by first | assumption | (simp; omega)) _)); exact HKS5.out
          · repeat (refine Cells.sets ?_ (fun h0 p hp => by cases hp; have := HBg.out h0; omega) _ _)
            exact HC5.out
          · repeat (refine Below.setCell ?_ (by simp; omega) _)
            exact HBA5.out
        case measure => simp [intOf]; omega
      · have hE1 : ph' = ph → ¬ px' = px := fun h h' => hE ⟨h, h'⟩
        have HE1 := Lib.hid hE1
        clear hE hE1
        go_wp2
        all_goals (try (exact absurd (by first | assumption | rfl) (HE1.out (by first | assumption | rfl))))
        all_goals (
          go_roundw
          case rel =>
            refine ⟨k + 1, some B2, Q, by omega, by go_num, ?_, ?_, ?_, ?_, ?_, fun _ p hp => by cases hp; omega, ?_⟩
            · (repeat (refine Calm.Blk.far ?_ (by first | assumption | (simp; omega)) _)); exact HK05.out
            · (repeat (refine Calm.Blk.far ?_ (by first | assumption | (simp; omega)) _)); exact HK15.out
            · rw [← HPH'.out, ← HPX'.out]
              (repeat (refine Calm.Blk.far ?_ (by first | assumption | (simp; omega)) _))
              first
                | (refine Calm.Blk.set2 (u0 := (.int .i64 ph)) (u1 := (.int .i64 px)) ?_ _ _; (repeat (refine Calm.Blk.far ?_ (by first | assumption | (simp; omega)) _)); exact HKT5.out)
                | (rw [show ph' = ph by assumption]; refine Calm.Blk.set2 (u0 := (.int .i64 ph)) (u1 := (.int .i64 px)) ?_ _ _; (repeat (refine Calm.Blk.far ?_ (by first | assumption | (simp; omega)) _)); exact HKT5.out)
                | (rw [show px' = px by assumption]; refine Calm.Blk.set2 (u0 := (.int .i64 ph)) (u1 := (.int .i64 px)) ?_ _ _; (repeat (refine Calm.Blk.far ?_ (by first | assumption | (simp; omega)) _)); exact HKT5.out)
            · rw [← HHE.out]
              refine Calm.Blk.set3 (u0 := (.int .i64 (bhAt lk ys k))) (u1 := (.int .i64 L1)) (u2 := .slice A Q c) ?_ _ _ _
              (repeat (refine Calm.Blk.far ?_ (by first | assumption | (simp; omega)) _)); exact HKS5.out
            · repeat (refine Cells.sets ?_ (fun h0 p hp => by cases hp; have := HBg.out h0; omega) _ _)
              exact HC5.out
            · repeat (refine Below.setCell ?_ (by simp; omega) _)
              exact HBA5.out
          case measure => simp [intOf]; omega)
    · obtain rfl : k = N := by omega
      have HKT := Lib.hid KT
      obtain ⟨t0, t1, tl, tf⟩ := KT.o2
      obtain ⟨r0, r1, rl, rf⟩ := K1.o2
      have qa : ¬ w1.heap.size = w.heap.size + 1 := by omega
      have HK1 := Lib.hid K1
      clear KT K0 K1 KS
      go_wp2
      have KR := HK1.out.set2 (.int .i64 (pkH lk ys k)) (.int .i64 (pkX ts ys k))
      obtain ⟨y0, y1, yl, yf⟩ := KR.o2
      clear r0 r1 rl rf KR
      exact bodyPost_ret (v := .tuple #[.agg #[(.int .i64 (pkH lk ys k)), (.int .i64 (pkX ts ys k))], (.int .i64 0)]) (by simp [results, Tryz.results26, go_sem, y0, y1]) rfl ⟨rfl, (HB.out.setCell (by simp) _).setCell (by simp) _⟩
end Go.Proofs.YtdeapbihbhoefaaGreatDoor

/- Contracts of energy, Energy and slices.Clone. -/
namespace Go.Proofs.YtdeapbihbhoefaaGreatDoor
open Go.RowKit
open Calm (bcell Blk)

/-- the energy of the first numbers of a list. -/
def enK (l : List Int) : Nat → Int
  | 0 => 0
  | k + 1 => enK l k + l.getD k 0 * l.getD k 0
/-- the energy of a list. -/
def enF (l : List Int) : Int := enK l l.length
theorem enK_bd {l : List Int} (h : inB 2048 l) : ∀ k : Nat, 0 ≤ enK l k ∧ enK l k ≤ 4194304 * (k : Int)
  | 0 => by simp [enK]
  | k + 1 => by
    have h1 := enK_bd h k
    have h2 := sq_bd (inB_get h (by omega) k)
    simp only [enK]
    omega
set_option maxHeartbeats 1000000 in
set_option maxRecDepth 100000 in
theorem energy_any (l : List Int) (A : Option Addr) (c : Nat) (w : World) (hC : Cells w A l) (hb : inB 2048 l) (hn : l.length ≤ 5000) :
    Calls Tryz.prog 70 #[.slice A l.length c] w fun r w' => r = .returned (.int .i64 (enF l)) ∧ w = w' := by
  have HC := Lib.hid hC
  have HB := Lib.hid (enK_bd hb)
  have HG := Lib.hid (fun k => inB_get hb (by omega) k)
  obtain ⟨N, hN⟩ : ∃ N, N = l.length := ⟨_, rfl⟩
  have HN := Lib.hid hN
  have HE : enF l = enK l N := by rw [hN]; rfl
  rw [HE, ← hN]
  rw [← hN] at hn
  clear hC hb hN HE
  go_enter Tryz.func70, Tryz.ntmps70
  go_wp2
  go_loop [3, 8] (fun s i => ∃ k : Nat, k ≤ N ∧ i = (.int .i64 k) ∧ s = (.int .i64 (enK l k))) (fun _ i => N - (intOf i).toNat)
  case atStart => exact ⟨0, Nat.zero_le _, rfl, rfl⟩
  case round =>
    obtain ⟨k, hk, rfl, rfl⟩ := hrel
    by_cases hlt : k < N
    · obtain ⟨b, o, rfl, lb, hc⟩ := HC.out (by rw [← HN.out]; omega)
      have x0 := hc k (by rw [← HN.out]; exact hlt)
      have HX : Hid (enK l (k + 1) = enK l k + l.getD k 0 * l.getD k 0) := Lib.hid rfl
      obtain ⟨d1, d2⟩ := HB.out k
      obtain ⟨d3, d4⟩ := sq_bd (HG.out k)
      obtain ⟨d5, d6⟩ := HG.out k
      obtain ⟨E, hE⟩ : ∃ E, E = enK l k := ⟨_, rfl⟩
      obtain ⟨u, hu⟩ : ∃ u, u = l.getD k 0 := ⟨_, rfl⟩
      rw [← hu] at x0 d3 d4 d5 d6
      rw [← hE, ← hu] at HX
      rw [← hE] at d1 d2
      rw [← hE]
      clear hc hE hu
      go_wp2
      go_round
      case rel => exact ⟨k + 1, by omega, by go_num, by rw [HX.out]⟩
      case measure => simp [intOf]; omega
    · obtain rfl : k = N := by omega
      go_wp2
      go_ret
      exact ⟨rfl, rfl⟩

/-- Energy of a signal with its error. -/
theorem Energy_any (l : List Int) (A : Option Addr) (c : Nat) (w : World) (hC : Cells w A l) (hn : l.length ≤ 5000) (hb : sigErr l = 0 → inB 2048 l) :
    Calls Tryz.prog 34 #[.slice A l.length c] w fun r w' => r = .returned (.tuple #[(.int .i64 (if sigErr l = 0 then enF l else 0)), (.int .i64 (sigErr l))]) ∧ Below w.heap.size w w' := by
  have HS : Hid (∀ W, Cells W A l → Calls Tryz.prog 69 #[.slice A l.length c] W fun r w' => r = .returned (.int .i64 (sigErr l)) ∧ Below W.heap.size W w') := Lib.hid (fun W q => checkSignal_any l A c W q hn)
  have HE : Hid (∀ W, Cells W A l → inB 2048 l → Calls Tryz.prog 70 #[.slice A l.length c] W fun r w' => r = .returned (.int .i64 (enF l)) ∧ W = w') := Lib.hid (fun W q q2 => energy_any l A c W q q2 hn)
  have HC := Lib.hid hC
  have HB := Lib.hid hb
  obtain ⟨N, hN⟩ : ∃ N, N = l.length := ⟨_, rfl⟩
  obtain ⟨E, hE⟩ : ∃ E, E = sigErr l := ⟨_, rfl⟩
  obtain ⟨F, hF⟩ : ∃ F, F = enF l := ⟨_, rfl⟩
  rw [← hN] at HS HE ⊢
  rw [← hE] at HS HB ⊢
  rw [← hF] at HE ⊢
  clear hN hE hF hC hb hn
  by_cases h0 : E = 0
  · subst h0
    rw [if_pos rfl]
    go_enter Tryz.func34, Tryz.ntmps34
    go_wp2_with (first | (go_at_call 69; refine (HS.out _ HC.out).mono ?_; rintro r w1 ⟨rfl, hb1⟩) | (go_at_call 70; refine (HE.out _ (HC.out.below hb1) (HB.out trivial)).mono ?_; rintro r w2 ⟨rfl, rfl⟩))
    exact bodyPost_ret (v := .tuple #[(.int .i64 F), (.int .i64 0)]) (by simp [results, Tryz.results34, go_sem]) rfl ⟨rfl, hb1⟩
  · rw [if_neg h0]
    go_enter Tryz.func34, Tryz.ntmps34
    go_wp2_with (go_at_call 69; refine (HS.out _ HC.out).mono ?_; rintro r w1 ⟨rfl, hb1⟩)
    exact bodyPost_ret (v := .tuple #[(.int .i64 0), (.int .i64 E)]) (by simp [results, Tryz.results34, go_sem]) rfl ⟨rfl, hb1⟩

/-- append([]int{}, l...). -/
theorem wpList_appC {w : World} {ops : Array Oper} {rest : List Oper} {o : Oper} {a : Act} {Q : Exit → Act → World → Prop} (hgd : o.guard = none) (s x : Operand)
    (ho : o.op = .call { callee := .builtin .append, args := #[s, x], argTypes := #[22, 22] }) (g n c : Nat) (A : Option Addr) (xs : List Int) (hn : n = xs.length)
    (hs : a.eval s = .slice (some ⟨g, 0, none⟩) 0 0) (hx : a.eval x = .slice A n c) (hg : w.ownsRow g 3 1 (.slice (some ⟨g, 0, none⟩) 0 0) 0 []) (h5 : n ≤ 100000) (hC : Cells w A xs)
    (h : ∀ B d w', Below w.heap.size w w' → w'.ownsRow g 3 1 (.slice B n d) n (xs.map (Value.int .i64)) → wpList Tryz.prog ops Q rest (a.put o.dst (.slice B n d)) w') : wpList Tryz.prog ops Q (o :: rest) a w := by
  obtain ⟨i0, hi, hz0, hz1, hz2⟩ := info_parts Tryz.infoI
  refine wpList_plain hgd fun K hK => ?_
  rcases Nat.eq_zero_or_pos n with h0 | h0
  · subst h0
    obtain rfl : xs = [] := List.eq_nil_of_length_eq_zero hn.symm
    have hrun := Rel.run_append_zero (P := Tryz.prog) w 22 o.type 3 i0 _ Tryz.underlying22 hi hz0 ⟨g, 0, none⟩ A c
    unfold Oper.wp
    simp [execOp, ho, resolve, invoke, builtin, hs, hx, hrun, Result.andThen]
    exact hK _ _ (h (some ⟨g, 0, none⟩) 0 w (Below.refl _ _) hg)
  · obtain ⟨b, off, rfl, hb, hc⟩ := hC (by omega)
    obtain ⟨v', w', hrun, r1, r2⟩ := run_append_arg_grows (P := Tryz.prog) w 22 o.type 3 i0 _ 1 8 Tryz.underlying22 hi hz0 hz1 hz2 rfl (by decide) ⟨g, 0, none⟩ 0 0 [] (by simp) (by simp) ⟨b, off, none⟩ n c (xs.map (Value.int .i64)) (by simp; omega) (fun j v hj => cells_src hc j v hj) (by omega) (by unfold maxLen; omega) (by omega)
    unfold Oper.wp
    simp [execOp, ho, resolve, invoke, builtin, hs, hx, hrun, Result.andThen]
    have r1' : w'.ownsRow w.heap.size 3 1 v' n (xs.map (Value.int .i64)) := by simpa using r1
    obtain ⟨B, d, rfl⟩ := own_slice r1'
    have hlt : g ≤ w.heap.size := by
      rcases hg.2 with ⟨e, _⟩ | ⟨g', cap, cur, e, _, e3, _⟩
      · cases e
      · cases e
        exact Nat.le_of_lt (Array.getElem?_eq_some_iff.1 e3).1
    refine hK _ _ (h B d w' ((Below.refl w.heap.size w).grown r2 (Nat.le_refl _) (fun k hk => by cases hk)) ⟨r1'.1, ?_⟩)
    rcases r1'.2 with h2 | ⟨g', cap, cur, h1, h2, h3⟩
    · exact .inl h2
    · exact .inr ⟨g', cap, cur, h1, Nat.le_trans hlt h2, h3⟩
/-- a slice held against nil. -/
theorem eq_nil_any (A : Option Addr) (n c : Nat) (W : World) : Sem.run Tryz.prog (binOp .eql 22 (.slice A n c) (.slice none 0 0)) W = .ok (.bool A.isNone) W := by
  have h := run_equal_slice_nil (P := Tryz.prog) W 22 3 A n c Tryz.underlying22
  simp only [binOp]
  simp [h, go_sem]
set_option maxHeartbeats 1000000 in
set_option maxRecDepth 100000 in
/-- slices.Clone of a slice of integers: nil of nil, else a copy. -/
theorem clone_any (l : List Int) (A : Option Addr) (n c : Nat) (w : World) (hN : n = l.length) (hC : Cells w A l) (hn : n ≤ 5000) :
    Calls Tryz.prog 81 #[.slice A n c] w fun r w' => (∃ B d, r = .returned (.slice B n d) ∧ w'.ownsRow w.heap.size 3 1 (.slice B n d) n (l.map (Value.int .i64))) ∧ Below w.heap.size w w' := by
  have HC := Lib.hid hC
  have HN := Lib.hid hN
  cases A with
  | none =>
    have h0 : l = [] := by
      rcases Nat.eq_zero_or_pos l.length with h | h
      · exact List.eq_nil_of_length_eq_zero h
      · obtain ⟨b, o, hA, _⟩ := hC h
        cases hA
    subst h0
    obtain rfl : n = 0 := by simpa using hN
    clear hC HC hN HN
    have hnil : ∀ W, Sem.run Tryz.prog (binOp .eql 22 (.slice none 0 c) (.slice none 0 0)) W = .ok (.bool true) W := fun W => eq_nil_any none 0 c W
    go_enter Tryz.func81, Tryz.ntmps81
    go_wp2
    go_ret
    first | exact ⟨⟨none, 0, rfl, World.ownsRow_nil _ _ _ _⟩, Below.refl _ _⟩ | exact ⟨⟨none, ⟨0, rfl⟩, World.ownsRow_nil _ _ _ _⟩, Below.refl _ _⟩
  | some p =>
    clear hC hN
    have hnil : ∀ W, Sem.run Tryz.prog (binOp .eql 22 (.slice (some p) n c) (.slice none 0 0)) W = .ok (.bool false) W := fun W => eq_nil_any (some p) n c W
    go_enter Tryz.func81, Tryz.ntmps81
    go_wp2_with (at_builtin; refine wpList_appC rfl _ _ rfl w.heap.size n c (some p) l HN.out rfl rfl ⟨by simp, .inr ⟨_, 0, #[], rfl, Nat.le_refl _, by show (w.heap.push _)[w.heap.size]? = _; simp, Nat.le_refl _, Nat.zero_le _, by simp, by simp⟩⟩ (by omega) (HC.out.below ((Below.refl _ _).alloc (Nat.le_refl _) _)) ?_)
    intro B d w2 hb2 hc2
    have HB2 := Lib.hid (Below.trans ((Below.refl w.heap.size w).alloc (Nat.le_refl _) (.cells #[] 3)) (hb2.mono (by simp)))
    have HC2 := Lib.hid hc2
    clear hb2 hc2
    go_wp2
    go_ret
    first | exact ⟨⟨B, ⟨d, rfl⟩, HC2.out⟩, HB2.out⟩ | exact ⟨⟨B, d, rfl, HC2.out⟩, HB2.out⟩
end Go.Proofs.YtdeapbihbhoefaaGreatDoor

/- The law of 'for x, y := range seq' over an iterator that hands out values which stand for elements (their addresses are made on the way); regions with an open order inside a round. -/
namespace Go.Proofs.YtdeapbihbhoefaaGreatDoor
open Go.RowKit

/-- The contract of an iterator that reads the blocks of C and hands out, for the elements of a list, values that stand for them. -/
def IterR {α : Type} (F : Fence) (n : Nat) (P : Program) (g : Nat) (lb : Array Value) (sz : Nat) (R : α → Array Value → World → Prop) (all : List α) (C : Nat → Prop) (w : World) : Prop :=
  ∀ (l : Nat) (J : List α → World → Prop) (W : World), (∀ k, C k → W.heap[k]? = w.heap[k]?) → (∀ k, C k → k < w.heap.size) → w.heap.size ≤ W.heap.size →
    (∀ pre W1 W2, J pre W1 → Below W1.heap.size W1 W2 → J pre W2) →
    (∀ pre x v W1, J pre W1 → (∀ k, C k → W1.heap[k]? = w.heap[k]?) → (∃ post, all = pre ++ x :: post) → v.size = sz → R x v W1 →
      YieldAt F (n - 1) P l v W1 fun e W' => e = .returned (.bool true) ∧ J (pre ++ [x]) W' ∧ ∀ k, C k → W'.heap[k]? = W1.heap[k]?) →
    J [] W →
    CallsIn F n P g (#[.func (.yield l) #[] #[]] ++ lb) W fun e W' => (∃ v, e = .returned v) ∧ J all W'

/-- the blocks that a round must leave alone: the two of the loop, from B on, and those of C. -/
def roundR (C : Nat → Prop) (B : Nat) (k : Nat) : Prop := C k ∨ k = B ∨ k = B + 1

theorem range_iterR {F : Fence} {n : Nat} {P : Program} {α : Type} {g : Operand} {ps : Array Tmp} {assign body : Code} {Q : Exit → Act → World → Prop} {a : Act} {w : World}
    (hro : F.round = none) (h1 : 1 ≤ n) {gf : Nat} {lb : Array Value} (hg : a.eval g = .func (.func gf) #[] lb) (hFg : F.fn gf) (eg : ∀ args w, (callFunc gf args).run P w = .ok (.enter gf args) w)
    {R : α → Array Value → World → Prop} {all : List α} {C : Nat → Prop} (hC : ∀ k, C k → k < w.heap.size) (hseq : IterR F (n - 1) P gf lb ps.size R all C w)
    (I : List α → World → Prop) (hI : OwnFrom w.heap.size I) (h0 : I [] w)
    (Ax : List α → α → Act → World → Prop) (hAx : ∀ pre x a', OwnFrom w.heap.size (fun (_ : Unit) W => Ax pre x a' W))
    (hassign : ∀ (l : Nat) (pre : List α) (x : α) (v : Array Value) (W : World), I pre W → (∃ post, all = pre ++ x :: post) → w.heap.size + 1 < W.heap.size → (∀ k, C k → W.heap[k]? = w.heap[k]?) → v.size = ps.size → R x v W →
      assign.wpIn (F.inRound l) (n - 1 - 1) P (Exit.then (fun a' W' => Same (roundR C w.heap.size) W W' ∧ Ax pre x a' W') (fun _ _ _ => False)) { tmps := (ps.zip v).foldl (fun t (p, v) => t.setIfInBounds p v) a.tmps, defers := [] } W)
    (hbody : ∀ (l : Nat) (pre : List α) (x : α) (a' : Act) (W : World), Ax pre x a' W → (∃ post, all = pre ++ x :: post) → w.heap.size + 1 < W.heap.size → (∀ k, C k → W.heap[k]? = w.heap[k]?) →
      body.wpIn (F.inRound l) (n - 1 - 1) P (iterPost (roundR C w.heap.size) W (I (pre ++ [x]))) a' W)
    (hdone : ∀ (W : World), I all W → W.heap[w.heap.size]? = some (.deferred (some [])) → Q .normal { a with defers := { target := .collected w.heap.size, args := #[] } :: a.defers } W) :
    (Code.rangeFunc g ps assign body).wpIn F n P Q a w := by
  refine wpIn_rangeFunc ?_
  intro fn hfn
  rw [hro]
  obtain ⟨rec, hrec⟩ : ∃ rec : LoopState → Option Code → Loop, rec = fun st pe => { state := st, pending := pe, fn, tmps := a.tmps, params := ps, assign, body, defers := w.heap.size } := ⟨_, rfl⟩
  obtain ⟨W1, hW1⟩ : ∃ W1, (w.alloc (.deferred (some []))).alloc (.loop (rec .ready none)) = W1 := ⟨_, rfl⟩
  have hL1 : W1.heap[w.heap.size + 1]? = some (.loop (rec .ready none)) := by
    rw [← hW1]; have := World.alloc_heap_new (w.alloc (.deferred (some []))) (.loop (rec .ready none)); rwa [World.size_alloc] at this
  have hK1 : W1.heap[w.heap.size]? = some (.deferred (some [])) := by
    rw [← hW1]; exact (Below.heap_alloc _ _ _ (by simp)).trans (World.alloc_heap_new w _)
  have hI1 : I [] W1 := by rw [← hW1]; exact hI.alloc _ (hI.alloc _ h0)
  have hC1 : ∀ k, C k → W1.heap[k]? = w.heap[k]? := fun k hk => by
    have := hC k hk
    rw [← hW1, Below.heap_alloc _ _ _ (by simp; omega), Below.heap_alloc _ _ _ this]
  have hs1 : W1.heap.size = w.heap.size + 2 := by rw [← hW1]; simp
  refine ⟨w.heap.size + 1, [{ target := .collected w.heap.size, args := #[] }], W1, { target := .fn (.func gf) lb, args := #[.func (.yield (w.heap.size + 1)) #[] #[]] }, W1, gf,
    #[.func (.yield (w.heap.size + 1)) #[] #[]] ++ lb, W1, ?_, ?_, ?_, ?_, fun _ => h1, ?_⟩
  · rw [← hW1, hrec]; exact run_enterLoop_outer _ _ _ _ _
  · simp only [resolve, hg]
    simp [go_sem]
  · intro f' hf'; simp [Target.leads] at hf'; subst hf'; exact hFg
  · simp [invoke, go_sem, eg]
  · refine (hseq (w.heap.size + 1)
      (fun pre W => I pre W ∧ W.heap[w.heap.size + 1]? = some (.loop (rec .ready none)) ∧ W.heap[w.heap.size]? = some (.deferred (some [])))
      W1 hC1 hC (by omega)
      (fun pre A B hs hb => ⟨hI pre A B none hs.1 ⟨hb.os, hb.tape, hb.output, hb.size, fun k hk _ => hb.block k hk⟩ (by simp), (hb.block _ (Array.getElem?_eq_some_iff.1 hs.2.1).1).trans hs.2.1, (hb.block _ (Array.getElem?_eq_some_iff.1 hs.2.2).1).trans hs.2.2⟩)
      ?_ ⟨hI1, hL1, hK1⟩).mono ?_
    · -- ONE ROUND
      rintro pre x v W ⟨hi, hl, hk⟩ hcb hpost hvs hR
      have hlt : w.heap.size + 1 < W.heap.size := (Array.getElem?_eq_some_iff.1 hl).1
      have hy := run_yield (P := P) (args := v) hl (by rw [hrec]; simp [hvs])
      rw [hrec] at hy
      refine ⟨fn, _, assign, body, hy, roundIn_of_wpIn hfn (wpIn_mono (hassign _ pre x v W hi hpost hlt hcb hvs hR) ?_)⟩
      clear hy
      rintro e a' Wa hq
      cases e with
      | normal =>
        obtain ⟨hS, hax⟩ := hq
        have hl' := hS _ _ (.inr (.inr rfl)) hl
        have hk' := hS _ _ (.inr (.inl rfl)) hk
        have hsz' : w.heap.size + 1 < Wa.heap.size := (Array.getElem?_eq_some_iff.1 hl').1
        have hcb' : ∀ k, C k → Wa.heap[k]? = w.heap[k]? := fun k hk => (hS.eq (.inl hk) (by have := hC k hk; omega)).trans (hcb k hk)
        refine ⟨_, run_beginRound hl' (by rw [hrec]), ?_⟩
        obtain ⟨Wb, hWb⟩ : ∃ Wb, Wa.putObj (w.heap.size + 1) (.loop { rec .ready none with state := .busy }) = Wb := ⟨_, rfl⟩
        have hl2 : Wb.heap[w.heap.size + 1]? = some (.loop { rec .ready none with state := .busy }) := by rw [← hWb]; exact World.putObj_heap_same (by omega)
        have hk2 : Wb.heap[w.heap.size]? = some (.deferred (some [])) := by rw [← hWb]; exact (World.putObj_heap_other (by omega)).trans hk'
        have hcb2 : ∀ k, C k → Wb.heap[k]? = w.heap[k]? := fun k hk => by have := hC k hk; rw [← hWb]; exact (World.putObj_heap_other (by omega)).trans (hcb' k hk)
        have hsz2 : w.heap.size + 1 < Wb.heap.size := by rw [← hWb]; simpa using hsz'
        have hax2 : Ax pre x a' Wb := by rw [← hWb]; exact (hAx pre x a').putObj (s := ()) _ hax (by omega) hl' rfl
        show body.wpIn _ _ _ _ _ (Wa.putObj (w.heap.size + 1) (.loop { rec .ready none with state := .busy }))
        rw [hWb]
        refine wpIn_mono (hbody _ pre x a' Wb hax2 hpost hsz2 hcb2) ?_
        rintro e a3 W3 hp
        cases e with
        | normal =>
          obtain ⟨hS3, hi3⟩ := hp
          have hl3 := hS3 _ _ (.inr (.inr rfl)) hl2
          have hk3 := hS3 _ _ (.inr (.inl rfl)) hk2
          have hr := run_endRound (P := P) none hl3
          have hC3 : ∀ k, C k → W3.heap[k]? = W.heap[k]? := fun k hk => ((hS3.eq (.inl hk) (by have := hC k hk; omega)).trans (hcb2 k hk)).trans (hcb k hk).symm
          rw [hrec] at hr
          refine ⟨_, _, hr, rfl, ⟨hI.putObj _ hi3 (by omega) hl3 rfl, ?_, ?_⟩, ?_⟩
          · rw [hrec]; exact World.putObj_heap_same (Array.getElem?_eq_some_iff.1 hl3).1
          · exact (World.putObj_heap_other (by omega)).trans hk3
          · exact fun k hk => (World.putObj_heap_other (by have := hC k hk; omega)).trans (hC3 k hk)
        | exit id => exact hp.elim
        | goto t => exact hp.elim
        | ret => exact hp.elim
        | panic ch => exact hp.elim
        | outgrown => exact hp.elim
      | exit id => exact hq.elim
      | goto t => exact hq.elim
      | ret => exact hq.elim
      | panic ch => exact hq.elim
      | outgrown => exact hq.elim
    · -- BEHIND THE ITERATOR
      rintro e W2 ⟨⟨v, rfl⟩, hi, hl, hk⟩
      exact ⟨none, _, by have := run_endLoop (P := P) hl (by rw [hrec]; simp); rw [hrec] at this; exact this, hdone _ (hI.putObj _ hi (by omega) hl rfl) ((World.putObj_heap_other (by omega)).trans hk)⟩

/-! ### Regions with an open order, in a round's frame -/

theorem wp_inRound {P : Program} {o : Oper} {a : Act} {w : World} {K : Act → World → Prop} {Q : Exit → Act → World → Prop} {l n : Nat} (hd : ∀ c, o.op ≠ .defer c) (h : o.wp P a w K Q) : o.wpIn (Fence.wide.inRound l) n P a w K Q := by
  refine ⟨fun _ _ => trivial, ?_⟩
  rw [show (Fence.wide.inRound l).round = some l from rfl, Oper.semAt_eq _ _ _ hd]
  unfold Oper.wp at h
  generalize (execOp a.eval o).run P w = r at *
  cases r with
  | ok x w' =>
    cases x <;> simp only [Oper.upon, Oper.uponIn] at h ⊢ <;>
      first
        | exact h
        | exact ⟨fun hh => by simp [Fence.wide] at hh, CallsIn.inRound l (callsIn_wide.2 h)⟩
        | (refine ⟨fun hh => by simp [Fence.wide] at hh, fun c cs _ => ?_⟩
           obtain ⟨v, w'', r, s⟩ := h c cs
           exact ⟨v, w'', r, stepsIn_wide.2 s⟩)
  | halt x w' => cases x <;> simp only [Oper.upon, Oper.uponIn] at h ⊢ <;> exact h

theorem wpAny_inRound {P : Program} {ops : Array Oper} {md : Region.Mode} {Q : Exit → Act → World → Prop} {l n : Nat} (hd : ∀ (i : Nat) (o : Oper), ops[i]? = some o → ∀ c, o.op ≠ .defer c) (hQ : ¬ LetsOut Q) :
    ∀ (fuel : Nat) (listed : Array Bool) (a : Act) (w : World), wpAny P md ops Q fuel listed a w → wpAnyIn (Fence.wide.inRound l) n P md ops Q fuel listed a w
  | 0, _, _, _, h => h
  | fuel + 1, listed, a, w, h => ⟨h.1, fun i hi => by
    have h2 := h.2 i hi
    unfold wpOp at h2
    unfold wpOpIn
    split
    · rename_i h0
      rw [h0] at h2
      exact wpAny_inRound hd hQ fuel _ _ _ h2
    · rename_i o h0
      rw [h0] at h2
      simp only at h2
      by_cases hw : Region.wanted o (yielded ops a.tmps) = true
      · rw [if_pos hw] at h2 ⊢
        rcases h2 with h2 | h2
        · exact wp_inRound (hd i o h0) (Oper.wp_mono (fun a w => wpAny_inRound hd hQ fuel _ a w) h2)
        · exact absurd h2.2 hQ
      · rw [if_neg hw] at h2 ⊢
        exact ⟨fun _ _ => trivial, wpAny_inRound hd hQ fuel _ _ _ h2⟩⟩
/-- no operation of these is a 'defer'. -/
def noDefer (l : List Oper) : Bool := l.all fun o => match o.op with | .defer _ => false | _ => true
end Go.Proofs.YtdeapbihbhoefaaGreatDoor
