/- Part 14 of the texts of the claim: Y7, Y8, QC, QW, Y9, Y10. -/
import Derived.Test.YtdeapbihbhoefaaGreatDoorMt13
import Derived.Test.YtdeapbihbhoefaaGreatDoorMt10
import Derived.ChangeKeysEq

/- Contracts of slices.Equal, Run, Levels, Peaks and CheckRun. -/
namespace Go.Proofs.YtdeapbihbhoefaaGreatDoor
open Go.RowKit
open Calm (bcell Blk)

set_option maxHeartbeats 1000000 in
theorem Run_bad (lk ht rc : Int) (ts gs xs : List Int) (A1 A2 A3 : Option Addr) (c1 c2 c3 : Nat) (w : World) (hT : Cells w A1 ts) (hG : Cells w A2 gs) (hX : Cells w A3 xs) (h1 : ts.length ≤ 5000) (h2 : gs.length ≤ 5000) (h3 : xs.length ≤ 5000) (he : runErr lk ht rc ts gs xs ≠ 0) :
    Calls Tryz.prog 25 #[.agg #[(.int .i64 lk), (.int .i64 ht), .slice A1 ts.length c1, (.int .i64 rc), .slice A2 gs.length c2], .slice A3 xs.length c3] w fun r w' => r = .returned (.tuple #[.slice none 0 0, (.int .i64 (runErr lk ht rc ts gs xs))]) ∧ Below w.heap.size w w' := by
  have HCR : Hid (∀ W, Cells W A1 ts → Cells W A2 gs → Cells W A3 xs → Calls Tryz.prog 57 #[.agg #[(.int .i64 lk), (.int .i64 ht), .slice A1 ts.length c1, (.int .i64 rc), .slice A2 gs.length c2], .slice A3 xs.length c3] W fun r w' => r = .returned (.int .i64 (runErr lk ht rc ts gs xs)) ∧ Below W.heap.size W w') := Lib.hid (fun W q1 q2 q3 => checkRun_any lk ht rc ts gs xs A1 A2 A3 c1 c2 c3 W q1 q2 q3 h1 h2 h3)
  have HT := Lib.hid hT
  have HG := Lib.hid hG
  have HX := Lib.hid hX
  obtain ⟨E, hE⟩ : ∃ E, E = runErr lk ht rc ts gs xs := ⟨_, rfl⟩
  rw [← hE] at HCR he ⊢
  generalize xs.length = N at *
  generalize ts.length = M at *
  generalize gs.length = L at *
  clear hT hG hX hE
  go_enter Tryz.func25, Tryz.ntmps25
  go_wp2_with (go_at_call 57; refine (HCR.out _ (HT.out.below (by (repeat (first | (with_reducible exact Below.refl _ _) | ((with_reducible refine Below.setCell ?_ ?_ _); rotate_left 1; focus (first | (simp; done) | (simp; omega) | (simp at *; omega))) | ((with_reducible refine Below.alloc ?_ ?_ _); rotate_left 1; focus (first | (simp; done) | (simp; omega) | (simp at *; omega))) | (with_reducible refine Below.drew ?_) | ((with_reducible refine Calm.step (by assumption) ?_ ?_); rotate_left 1; focus (first | (simp; done) | (simp; omega) | (simp at *; omega))))))) (HG.out.below (by (repeat (first | (with_reducible exact Below.refl _ _) | ((with_reducible refine Below.setCell ?_ ?_ _); rotate_left 1; focus (first | (simp; done) | (simp; omega) | (simp at *; omega))) | ((with_reducible refine Below.alloc ?_ ?_ _); rotate_left 1; focus (first | (simp; done) | (simp; omega) | (simp at *; omega))) | (with_reducible refine Below.drew ?_) | ((with_reducible refine Calm.step (by assumption) ?_ ?_); rotate_left 1; focus (first | (simp; done) | (simp; omega) | (simp at *; omega))))))) (HX.out.below (by (repeat (first | (with_reducible exact Below.refl _ _) | ((with_reducible refine Below.setCell ?_ ?_ _); rotate_left 1; focus (first | (simp; done) | (simp; omega) | (simp at *; omega))) | ((with_reducible refine Below.alloc ?_ ?_ _); rotate_left 1; focus (first | (simp; done) | (simp; omega) | (simp at *; omega))) | (with_reducible refine Below.drew ?_) | ((with_reducible refine Calm.step (by assumption) ?_ ?_); rotate_left 1; focus (first | (simp; done) | (simp; omega) | (simp at *; omega)))))))).mono ?_; rintro r w1 ⟨rfl, hb1⟩; have HB1 := Lib.hid (show Below w.heap.size w w1 from Below.trans (by (repeat (first | (with_reducible exact Below.refl _ _) | ((with_reducible refine Below.setCell ?_ ?_ _); rotate_left 1; focus (first | (simp; done) | (simp; omega) | (simp at *; omega))) | ((with_reducible refine Below.alloc ?_ ?_ _); rotate_left 1; focus (first | (simp; done) | (simp; omega) | (simp at *; omega))) | (with_reducible refine Below.drew ?_) | ((with_reducible refine Calm.step (by assumption) ?_ ?_); rotate_left 1; focus (first | (simp; done) | (simp; omega) | (simp at *; omega)))))) (hb1.mono (by simp; try omega))); clear hb1)
  exact bodyPost_ret (v := .tuple #[.slice none 0 0, (.int .i64 E)]) (by simp [results, Tryz.results25, go_sem]) rfl ⟨rfl, HB1.out⟩

set_option maxHeartbeats 1000000 in
theorem Levels_bad (lk ht rc : Int) (ts gs xs : List Int) (A1 A2 A3 : Option Addr) (c1 c2 c3 : Nat) (w : World) (hT : Cells w A1 ts) (hG : Cells w A2 gs) (hX : Cells w A3 xs) (h1 : ts.length ≤ 5000) (h2 : gs.length ≤ 5000) (h3 : xs.length ≤ 5000) (he : runErr lk ht rc ts gs xs ≠ 0) :
    Calls Tryz.prog 27 #[.agg #[(.int .i64 lk), (.int .i64 ht), .slice A1 ts.length c1, (.int .i64 rc), .slice A2 gs.length c2], .slice A3 xs.length c3] w fun r w' => r = .returned (.tuple #[.slice none 0 0, (.int .i64 (runErr lk ht rc ts gs xs))]) ∧ Below w.heap.size w w' := by
  have HCR : Hid (∀ W, Cells W A1 ts → Cells W A2 gs → Cells W A3 xs → Calls Tryz.prog 57 #[.agg #[(.int .i64 lk), (.int .i64 ht), .slice A1 ts.length c1, (.int .i64 rc), .slice A2 gs.length c2], .slice A3 xs.length c3] W fun r w' => r = .returned (.int .i64 (runErr lk ht rc ts gs xs)) ∧ Below W.heap.size W w') := Lib.hid (fun W q1 q2 q3 => checkRun_any lk ht rc ts gs xs A1 A2 A3 c1 c2 c3 W q1 q2 q3 h1 h2 h3)
  have HT := Lib.hid hT
  have HG := Lib.hid hG
  have HX := Lib.hid hX
  obtain ⟨E, hE⟩ : ∃ E, E = runErr lk ht rc ts gs xs := ⟨_, rfl⟩
  rw [← hE] at HCR he ⊢
  generalize xs.length = N at *
  generalize ts.length = M at *
  generalize gs.length = L at *
  clear hT hG hX hE
  go_enter Tryz.func27, Tryz.ntmps27
  go_wp2_with (go_at_call 57; refine (HCR.out _ (HT.out.below (by (repeat (first | (with_reducible exact Below.refl _ _) | ((with_reducible refine Below.setCell ?_ ?_ _); rotate_left 1; focus (first | (simp; done) | (simp; omega) | (simp at *; omega))) | ((with_reducible refine Below.alloc ?_ ?_ _); rotate_left 1; focus (first | (simp; done) | (simp; omega) | (simp at *; omega))) | (with_reducible refine Below.drew ?_) | ((with_reducible refine Calm.step (by assumption) ?_ ?_); rotate_left 1; focus (first | (simp; done) | (simp; omega) | (simp at *; omega))))))) (HG.out.below (by (repeat (first | (with_reducible exact Below.refl _ _) | ((with_reducible refine Below.setCell ?_ ?_ _); rotate_left 1; focus (first | (simp; done) | (simp; omega) | (simp at *; omega))) | ((with_reducible refine Below.alloc ?_ ?_ _); rotate_left 1; focus (first | (simp; done) | (simp; omega) | (simp at *; omega))) | (with_reducible refine Below.drew ?_) | ((with_reducible refine Calm.step (by assumption) ?_ ?_); rotate_left 1; focus (first | (simp; done) | (simp; omega) | (simp at *; omega))))))) (HX.out.below (by (repeat (first | (with_reducible exact Below.refl _ _) | ((with_reducible refine Below.setCell ?_ ?_ _); rotate_left 1; focus (first | (simp; done) | (simp; omega) | (simp at *; omega))) | ((with_reducible refine Below.alloc ?_ ?_ _); rotate_left 1; focus (first | (simp; done) | (simp; omega) | (simp at *; omega))) | (with_reducible refine Below.drew ?_) | ((with_reducible refine Calm.step (by assumption) ?_ ?_); rotate_left 1; focus (first | (simp; done) | (simp; omega) | (simp at *; omega)))))))).mono ?_; rintro r w1 ⟨rfl, hb1⟩; have HB1 := Lib.hid (show Below w.heap.size w w1 from Below.trans (by (repeat (first | (with_reducible exact Below.refl _ _) | ((with_reducible refine Below.setCell ?_ ?_ _); rotate_left 1; focus (first | (simp; done) | (simp; omega) | (simp at *; omega))) | ((with_reducible refine Below.alloc ?_ ?_ _); rotate_left 1; focus (first | (simp; done) | (simp; omega) | (simp at *; omega))) | (with_reducible refine Below.drew ?_) | ((with_reducible refine Calm.step (by assumption) ?_ ?_); rotate_left 1; focus (first | (simp; done) | (simp; omega) | (simp at *; omega)))))) (hb1.mono (by simp; try omega))); clear hb1)
  exact bodyPost_ret (v := .tuple #[.slice none 0 0, (.int .i64 E)]) (by simp [results, Tryz.results27, go_sem]) rfl ⟨rfl, HB1.out⟩

set_option maxHeartbeats 1000000 in
theorem Peaks_bad (lk ht rc : Int) (ts gs xs : List Int) (A1 A2 A3 : Option Addr) (c1 c2 c3 : Nat) (w : World) (hT : Cells w A1 ts) (hG : Cells w A2 gs) (hX : Cells w A3 xs) (h1 : ts.length ≤ 5000) (h2 : gs.length ≤ 5000) (h3 : xs.length ≤ 5000) (he : runErr lk ht rc ts gs xs ≠ 0) :
    Calls Tryz.prog 26 #[.agg #[(.int .i64 lk), (.int .i64 ht), .slice A1 ts.length c1, (.int .i64 rc), .slice A2 gs.length c2], .slice A3 xs.length c3] w fun r w' => r = .returned (.tuple #[.agg #[(.int .i64 0), (.int .i64 0)], (.int .i64 (runErr lk ht rc ts gs xs))]) ∧ Below w.heap.size w w' := by
  have HCR : Hid (∀ W, Cells W A1 ts → Cells W A2 gs → Cells W A3 xs → Calls Tryz.prog 57 #[.agg #[(.int .i64 lk), (.int .i64 ht), .slice A1 ts.length c1, (.int .i64 rc), .slice A2 gs.length c2], .slice A3 xs.length c3] W fun r w' => r = .returned (.int .i64 (runErr lk ht rc ts gs xs)) ∧ Below W.heap.size W w') := Lib.hid (fun W q1 q2 q3 => checkRun_any lk ht rc ts gs xs A1 A2 A3 c1 c2 c3 W q1 q2 q3 h1 h2 h3)
  have HT := Lib.hid hT
  have HG := Lib.hid hG
  have HX := Lib.hid hX
  obtain ⟨E, hE⟩ : ∃ E, E = runErr lk ht rc ts gs xs := ⟨_, rfl⟩
  rw [← hE] at HCR he ⊢
  generalize xs.length = N at *
  generalize ts.length = M at *
  generalize gs.length = L at *
  clear hT hG hX hE
  go_enter Tryz.func26, Tryz.ntmps26
  go_wp2_with (go_at_call 57; refine (HCR.out _ (HT.out.below (by (repeat (first | (with_reducible exact Below.refl _ _) | ((with_reducible refine Below.setCell ?_ ?_ _); rotate_left 1; focus (first | (simp; done) | (simp; omega) | (simp at *; omega))) | ((with_reducible refine Below.alloc ?_ ?_ _); rotate_left 1; focus (first | (simp; done) | (simp; omega) | (simp at *; omega))) | (with_reducible refine Below.drew ?_) | ((with_reducible refine Calm.step (by assumption) ?_ ?_); rotate_left 1; focus (first | (simp; done) | (simp; omega) | (simp at *; omega))))))) (HG.out.below (by (repeat (first | (with_reducible exact Below.refl _ _) | ((with_reducible refine Below.setCell ?_ ?_ _); rotate_left 1; focus (first | (simp; done) | (simp; omega) | (simp at *; omega))) | ((with_reducible refine Below.alloc ?_ ?_ _); rotate_left 1; focus (first | (simp; done) | (simp; omega) | (simp at *; omega))) | (with_reducible refine Below.drew ?_) | ((with_reducible refine Calm.step (by assumption) ?_ ?_); rotate_left 1; focus (first | (simp; done) | (simp; omega) | (simp at *; omega))))))) (HX.out.below (by (repeat (first | (with_reducible exact Below.refl _ _) | ((with_reducible refine Below.setCell ?_ ?_ _); rotate_left 1; focus (first | (simp; done) | (simp; omega) | (simp at *; omega))) | ((with_reducible refine Below.alloc ?_ ?_ _); rotate_left 1; focus (first | (simp; done) | (simp; omega) | (simp at *; omega))) | (with_reducible refine Below.drew ?_) | ((with_reducible refine Calm.step (by assumption) ?_ ?_); rotate_left 1; focus (first | (simp; done) | (simp; omega) | (simp at *; omega)))))))).mono ?_; rintro r w1 ⟨rfl, hb1⟩; have HB1 := Lib.hid (show Below w.heap.size w w1 from Below.trans (by (repeat (first | (with_reducible exact Below.refl _ _) | ((with_reducible refine Below.setCell ?_ ?_ _); rotate_left 1; focus (first | (simp; done) | (simp; omega) | (simp at *; omega))) | ((with_reducible refine Below.alloc ?_ ?_ _); rotate_left 1; focus (first | (simp; done) | (simp; omega) | (simp at *; omega))) | (with_reducible refine Below.drew ?_) | ((with_reducible refine Calm.step (by assumption) ?_ ?_); rotate_left 1; focus (first | (simp; done) | (simp; omega) | (simp at *; omega)))))) (hb1.mono (by simp; try omega))); have Z1 := Lib.hid (show Blk w1 (w.heap.size + 1) #[(.int .i64 0), (.int .i64 0)] from Blk.below (by (repeat (first | ((with_reducible refine Blk.at_ ?_); focus (first | rfl | (simp; done) | (simp; omega))) | (with_reducible refine Blk.alloc ?_ _) | (with_reducible refine Blk.below ?_ (by with_reducible assumption)) | (with_reducible refine Blk.drew ?_)))) hb1); obtain ⟨z0, z1, zl, zf⟩ := Z1.out.o2; clear hb1)
  have K := (Z1.out.set (i := 0) (by simp) (.int .i64 0)).set (i := 1) (by simp) (.int .i64 0)
  obtain ⟨k0, k1, _, _⟩ := K.o2
  refine bodyPost_ret (v := .tuple #[.agg #[(.int .i64 0), (.int .i64 0)], (.int .i64 E)]) ?_ rfl ⟨rfl, ?_⟩
  · simp [results, Tryz.results26, go_sem, k0, k1]
  · exact (HB1.out.setCell (by simp <;> omega) _).setCell (by simp <;> omega) _

set_option maxHeartbeats 1000000 in
theorem levels_ok (lk ht rc : Int) (ts gs xs : List Int) (A1 A2 A3 : Option Addr) (c1 c2 c3 : Nat) (w : World) (hL : Lim w) (hV : Valid lk ht rc ts gs) (hT : Cells w A1 ts) (hG : Cells w A2 gs) (hX : Cells w A3 xs) (hx : inB 2048 xs) (h1 : ts.length ≤ 5000) (h2 : gs.length ≤ 5000) (h3 : xs.length ≤ 5000)
    (he : runErr lk ht rc ts gs xs = 0) :
    Calls Tryz.prog 27 #[.agg #[(.int .i64 lk), (.int .i64 ht), .slice A1 ts.length c1, (.int .i64 rc), .slice A2 gs.length c2], .slice A3 xs.length c3] w fun r w' => (∃ B d, r = .returned (.tuple #[.slice B xs.length d, (.int .i64 0)]) ∧ Cells w' B (lvsK lk ht rc ts gs xs xs.length)) ∧ Below w.heap.size w w' := by
  have HCR : Hid (∀ W, Cells W A1 ts → Cells W A2 gs → Cells W A3 xs → Calls Tryz.prog 57 #[.agg #[(.int .i64 lk), (.int .i64 ht), .slice A1 ts.length c1, (.int .i64 rc), .slice A2 gs.length c2], .slice A3 xs.length c3] W fun r w' => r = .returned (.int .i64 0) ∧ Below W.heap.size W w') := Lib.hid (fun W q1 q2 q3 => by
    have := checkRun_any lk ht rc ts gs xs A1 A2 A3 c1 c2 c3 W q1 q2 q3 h1 h2 h3
    rwa [he] at this)
  have HR : Hid (∀ W, Lim W → Cells W A1 ts → Cells W A2 gs → Cells W A3 xs → Calls Tryz.prog 58 #[.agg #[(.int .i64 lk), (.int .i64 ht), .slice A1 ts.length c1, (.int .i64 rc), .slice A2 gs.length c2], .slice A3 xs.length c3] W fun r w' => (∃ B1 d1 B2 d2, r = .returned (.tuple #[.slice B1 xs.length d1, .slice B2 xs.length d2]) ∧ Cells w' B1 (outsK lk ht rc ts gs xs xs.length) ∧ Cells w' B2 (lvsK lk ht rc ts gs xs xs.length)) ∧ Below W.heap.size W w') :=
    Lib.hid (fun W q0 q1 q2 q3 => run_any lk ht rc ts gs xs A1 A2 A3 c1 c2 c3 W q0 hV q1 q2 q3 hx h3)
  have HT := Lib.hid hT
  have HG := Lib.hid hG
  have HX := Lib.hid hX
  have HL := Lib.hid hL
  generalize xs.length = N at *
  generalize ts.length = M at *
  generalize gs.length = L at *
  clear hT hG hX hL hV hx he
  go_enter Tryz.func27, Tryz.ntmps27
  go_wp2_with (first
    | (go_at_call 57; refine (HCR.out _ (HT.out.below (by (repeat (first | (with_reducible exact Below.refl _ _) | ((with_reducible refine Below.setCell ?_ ?_ _); rotate_left 1; focus (first | (simp; done) | (simp; omega) | (simp at *; omega))) | ((with_reducible refine Below.alloc ?_ ?_ _); rotate_left 1; focus (first | (simp; done) | (simp; omega) | (simp at *; omega))) | (with_reducible refine Below.drew ?_) | ((with_reducible refine Calm.step (by assumption) ?_ ?_); rotate_left 1; focus (first | (simp; done) | (simp; omega) | (simp at *; omega))))))) (HG.out.below (by (repeat (first | (with_reducible exact Below.refl _ _) | ((with_reducible refine Below.setCell ?_ ?_ _); rotate_left 1; focus (first | (simp; done) | (simp; omega) | (simp at *; omega))) | ((with_reducible refine Below.alloc ?_ ?_ _); rotate_left 1; focus (first | (simp; done) | (simp; omega) | (simp at *; omega))) | (with_reducible refine Below.drew ?_) | ((with_reducible refine Calm.step (by assumption) ?_ ?_); rotate_left 1; focus (first | (simp; done) | (simp; omega) | (simp at *; omega))))))) (HX.out.below (by (repeat (first | (with_reducible exact Below.refl _ _) | ((with_reducible refine Below.setCell ?_ ?_ _); rotate_left 1; focus (first | (simp; done) | (simp; omega) | (simp at *; omega))) | ((with_reducible refine Below.alloc ?_ ?_ _); rotate_left 1; focus (first | (simp; done) | (simp; omega) | (simp at *; omega))) | (with_reducible refine Below.drew ?_) | ((with_reducible refine Calm.step (by assumption) ?_ ?_); rotate_left 1; focus (first | (simp; done) | (simp; omega) | (simp at *; omega)))))))).mono ?_; rintro r w1 ⟨rfl, hb1⟩; have HB1 := Lib.hid (show Below w.heap.size w w1 from Below.trans (by (repeat (first | (with_reducible exact Below.refl _ _) | ((with_reducible refine Below.setCell ?_ ?_ _); rotate_left 1; focus (first | (simp; done) | (simp; omega) | (simp at *; omega))) | ((with_reducible refine Below.alloc ?_ ?_ _); rotate_left 1; focus (first | (simp; done) | (simp; omega) | (simp at *; omega))) | (with_reducible refine Below.drew ?_) | ((with_reducible refine Calm.step (by assumption) ?_ ?_); rotate_left 1; focus (first | (simp; done) | (simp; omega) | (simp at *; omega)))))) (hb1.mono (by simp))); have K0 : Blk w1 w.heap.size #[(.int .i64 lk), (.int .i64 ht), .slice A1 M c1, (.int .i64 rc), .slice A2 L c2] := Blk.below (by (repeat (first | ((with_reducible refine Blk.at_ ?_); focus (first | rfl | (simp; done) | (simp; omega))) | (with_reducible refine Blk.alloc ?_ _) | (with_reducible refine Blk.below ?_ (by with_reducible assumption)) | (with_reducible refine Blk.drew ?_)))) hb1; obtain ⟨c00, c01, c02, c03, c04, l0, f0⟩ := K0.o5; clear hb1 K0)
    | (go_at_call 58; refine (HR.out _ (HL.out.below HB1.out) (HT.out.below HB1.out) (HG.out.below HB1.out) (HX.out.below HB1.out)).mono ?_; rintro r w2 ⟨⟨B1, d1, B2, d2, rfl, _, hc1⟩, hb2⟩; have HC1 := Lib.hid hc1; have HB2 := Lib.hid (HB1.out.trans (hb2.mono HB1.out.size)); clear hb2 hc1))
  exact bodyPost_ret (v := .tuple #[.slice B2 N d2, (.int .i64 0)]) (by simp [results, Tryz.results27, go_sem]) rfl (by first | exact ⟨⟨B2, d2, rfl, HC1.out⟩, HB2.out⟩ | exact ⟨⟨B2, ⟨d2, rfl⟩, HC1.out⟩, HB2.out⟩)

end Go.Proofs.YtdeapbihbhoefaaGreatDoor

/- Contracts of CheckRun (with a right length), steady, Steady. -/
namespace Go.Proofs.YtdeapbihbhoefaaGreatDoor
open Go.RowKit
open Calm (bcell Blk)

theorem sigErr_in {xs : List Int} (e : sigErr xs = 0) : inB 2048 xs := by
  have h := firstOf_eq_zero.1 e
  exact eachErr_zero.1 (h (eachErr xs (-2048) 2048) (by simp))
theorem runErr_zero {lk ht rc : Int} {ts gs xs : List Int} (e : runErr lk ht rc ts gs xs = 0) : guardErr lk ht rc ts gs = 0 ∧ sigErr xs = 0 := by
  have h := firstOf_eq_zero.1 e
  exact ⟨h _ (by simp), h (sigErr xs) (by simp)⟩

/-- the greatest output whose square is not above hs: from y on, in n steps. -/
def stdG (hs : Int) : Nat → Nat → Nat
  | y, 0 => y
  | y, n + 1 => if ((y : Int) + 1) * ((y : Int) + 1) ≤ hs then stdG hs (y + 1) n else y
def stdF (lk ht : Int) : Nat := stdG (ht / 2 ^ lk.toNat) 0 2048

set_option maxRecDepth 100000 in
set_option maxHeartbeats 1000000 in
theorem steady_any (lk ht rc : Int) (A1 A2 : Option Addr) (M L c1 c2 : Nat) (w : World) (hl : 1 ≤ lk ∧ lk ≤ 8) (hh : 0 ≤ ht ∧ ht ≤ 536870912) :
    Calls Tryz.prog 60 #[.agg #[(.int .i64 lk), (.int .i64 ht), .slice A1 M c1, (.int .i64 rc), .slice A2 L c2]] w fun r w' => r = .returned (.int .i64 ((stdF lk ht : Int))) ∧ Below w.heap.size w w' := by
  obtain ⟨h1, h2⟩ := hl
  obtain ⟨h3, h4⟩ := hh
  obtain ⟨h5, h6⟩ := shr_bd lk h3
  obtain ⟨hs, hhs⟩ : ∃ hs, hs = ht / 2 ^ lk.toNat := ⟨_, rfl⟩
  have HF : Hid (stdF lk ht = stdG hs 0 2048) := Lib.hid (by rw [hhs]; rfl)
  have HHS := Lib.hid hhs
  obtain ⟨R, hR⟩ : ∃ R, R = stdF lk ht := ⟨_, rfl⟩
  rw [← hR] at HF ⊢
  clear hhs hR
  go_enter Tryz.func60, Tryz.ntmps60
  go_wp2
  go_loopw [3] (fun i wr => ∃ k : Nat, k ≤ 2048 ∧ i = (.int .i64 ((k : Int))) ∧ R = stdG hs k (2048 - k) ∧ Blk wr w.heap.size #[(.int .i64 lk), (.int .i64 ht), .slice A1 M c1, (.int .i64 rc), .slice A2 L c2] ∧ Below w.heap.size w wr) (fun i _ => 2048 - (intOf i).toNat)
  case atStart => exact ⟨0, by omega, rfl, HF.out, by (repeat (first | ((with_reducible refine Blk.at_ ?_); focus (first | rfl | (simp; done) | (simp; omega))) | (with_reducible refine Blk.alloc ?_ _) | (with_reducible refine Blk.below ?_ (by with_reducible assumption)) | (with_reducible refine Blk.drew ?_))), by (repeat (first | (with_reducible exact Below.refl _ _) | ((with_reducible refine Below.setCell ?_ ?_ _); rotate_left 1; focus (first | (simp; done) | (simp; omega) | (simp at *; omega))) | ((with_reducible refine Below.alloc ?_ ?_ _); rotate_left 1; focus (first | (simp; done) | (simp; omega) | (simp at *; omega))) | (with_reducible refine Below.drew ?_) | ((with_reducible refine Calm.step (by assumption) ?_ ?_); rotate_left 1; focus (first | (simp; done) | (simp; omega) | (simp at *; omega)))))⟩
  case round =>
    obtain ⟨k, hk, rfl, hRk, K0, hB⟩ := hrel
    have HR := Lib.hid hRk
    have HB := Lib.hid hB
    have HK := Lib.hid K0
    obtain ⟨g0, g1, g2, g3, g4, gl, gf⟩ := K0.o5
    clear hRk hB K0 HF
    by_cases hlt : k < 2048
    · have m1 : ((k : Int) + 1) * ((k : Int) + 1) ≤ 4194304 := by
        have := mul_bd (a := (k : Int) + 1) (b := (k : Int) + 1) (A := 2048) (B := 2048) (by omega) (by omega)
        omega
      have m2 : 0 ≤ ((k : Int) + 1) * ((k : Int) + 1) := Int.mul_nonneg (by omega) (by omega)
      obtain ⟨q, hq⟩ : ∃ q, q = ((k : Int) + 1) * ((k : Int) + 1) := ⟨_, rfl⟩
      rw [← hq] at m1 m2
      by_cases hc : ((k : Int) + 1) * ((k : Int) + 1) ≤ hs
      · have hc2 : q ≤ ht / 2 ^ lk.toNat := by rw [← HHS.out, hq]; exact hc
        have HC := Lib.hid hc
        have hq' := hq.symm
        clear hc hq
        go_wp2
        go_roundw
        case rel =>
          refine ⟨k + 1, by omega, by go_num, ?_, HK.out, HB.out⟩
          rw [HR.out, show 2048 - k = (2048 - (k + 1)) + 1 by omega]
          exact if_pos HC.out
        case measure => simp [intOf]; omega
      · have hc2 : ¬ q ≤ ht / 2 ^ lk.toNat := by rw [← HHS.out, hq]; exact hc
        have hRK : R = k := by
          rw [HR.out, show 2048 - k = (2048 - (k + 1)) + 1 by omega]
          exact if_neg hc
        have HRK := Lib.hid hRK
        have hq' := hq.symm
        clear hc hq hRK
        go_wp2
        go_ret
        exact ⟨ret_i (by rw [HRK.out]), HB.out⟩
    · obtain rfl : k = 2048 := by omega
      have hRK : R = 2048 := HR.out
      subst hRK
      go_wp2
      go_ret
      exact ⟨rfl, HB.out⟩
end Go.Proofs.YtdeapbihbhoefaaGreatDoor

/- Plain laws: a heat that cools. -/
namespace Go.Proofs.YtdeapbihbhoefaaGreatDoor
open Go.RowKit

/-- a heat behind k steps without outputs. -/
def coolK (lk h : Int) : Nat → Int
  | 0 => h
  | k + 1 => coolF lk (coolK lk h k)
theorem coolK_bd (lk : Int) {h : Int} (h0 : 0 ≤ h) : ∀ k, 0 ≤ coolK lk h k ∧ coolK lk h k ≤ h
  | 0 => ⟨h0, Int.le_refl _⟩
  | k + 1 => by
    have h1 := coolK_bd lk h0 k
    have h2 := coolF_bd lk h1.1
    simp only [coolK]
    omega
/-- the answer of Cool, in so many steps, from a heat and a number on. -/
def coolG (lk to : Int) : Nat → Int → Nat → Int × Int
  | 0, _, _ => (0, 24)
  | f + 1, h, n => if h ≤ to then ((n : Int), 0) else if coolF lk h = h then (0, 24) else coolG lk to f (coolF lk h) (n + 1)
def coolR (lk h to : Int) : Int × Int := coolG lk to (h.toNat + 1) h 0
theorem coolG_step {lk to : Int} {f n : Nat} {h : Int} (h1 : to < h) (h2 : coolF lk h ≠ h) : coolG lk to (f + 1) h n = coolG lk to f (coolF lk h) (n + 1) := by
  show (if h ≤ to then ((n : Int), (0 : Int)) else if coolF lk h = h then (0, 24) else coolG lk to f (coolF lk h) (n + 1)) = _
  rw [if_neg (by omega), if_neg h2]
theorem coolG_done {lk to : Int} {f n : Nat} {h : Int} (h1 : h ≤ to) : coolG lk to (f + 1) h n = ((n : Int), 0) := if_pos h1
theorem coolG_stuck {lk to : Int} {f n : Nat} {h : Int} (h1 : to < h) (h2 : coolF lk h = h) : coolG lk to (f + 1) h n = (0, 24) := by
  show (if h ≤ to then ((n : Int), (0 : Int)) else if coolF lk h = h then (0, 24) else coolG lk to f (coolF lk h) (n + 1)) = _
  rw [if_neg (by omega), if_pos h2]
theorem coolK_fall {lk h to : Int} (h0 : 0 ≤ h) : ∀ k, (∀ j, j < k → to < coolK lk h j ∧ coolK lk h (j + 1) ≠ coolK lk h j) → coolK lk h k + k ≤ h
  | 0, _ => by simp [coolK]
  | k + 1, hk => by
    have ih := coolK_fall h0 k (fun j hj => hk j (by omega))
    have h1 := (hk k (by omega)).2
    have h2 := coolF_bd lk (coolK_bd lk h0 k).1
    simp only [coolK] at h1 ⊢
    omega
theorem coolR_steps {lk h to : Int} (h0 : 0 ≤ h) : ∀ k, (∀ j, j < k → to < coolK lk h j ∧ coolK lk h (j + 1) ≠ coolK lk h j) → ∃ f, coolR lk h to = coolG lk to (f + 1) (coolK lk h k) k ∧ h.toNat = f + k
  | 0, _ => ⟨h.toNat, rfl, rfl⟩
  | k + 1, hk => by
    obtain ⟨f, h1, h2⟩ := coolR_steps h0 k (fun j hj => hk j (by omega))
    have h3 := coolK_fall h0 (k + 1) hk
    have h4 := (coolK_bd lk h0 (k + 1)).1
    obtain ⟨f, rfl⟩ : ∃ g, f = g + 1 := ⟨f - 1, by omega⟩
    refine ⟨f, ?_, by omega⟩
    rw [h1, coolG_step (hk k (by omega)).1 (hk k (by omega)).2]
    rfl
theorem coolR_done {lk h to : Int} (h0 : 0 ≤ h) {k : Nat} (hk : ∀ j, j < k → to < coolK lk h j ∧ coolK lk h (j + 1) ≠ coolK lk h j) (h1 : coolK lk h k ≤ to) : coolR lk h to = ((k : Int), 0) := by
  obtain ⟨f, e, _⟩ := coolR_steps h0 k hk
  rw [e, coolG_done h1]
theorem coolR_stuck {lk h to : Int} (h0 : 0 ≤ h) {k : Nat} (hk : ∀ j, j < k → to < coolK lk h j ∧ coolK lk h (j + 1) ≠ coolK lk h j) (h1 : to < coolK lk h k) (h2 : coolK lk h (k + 1) = coolK lk h k) : coolR lk h to = (0, 24) := by
  obtain ⟨f, e, _⟩ := coolR_steps h0 k hk
  rw [e, coolG_stuck h1 h2]
end Go.Proofs.YtdeapbihbhoefaaGreatDoor

/- Plain laws: the weight of the taps, the steady output, the quiet input. -/
namespace Go.Proofs.YtdeapbihbhoefaaGreatDoor
open Go.RowKit

/-- the sum of the taps' sizes. -/
def wtK (ts : List Int) : Nat → Int
  | 0 => 0
  | k + 1 => wtK ts k + absI (ts.getD k 0)
theorem absI_bd {x b : Int} (h : -b ≤ x ∧ x ≤ b) : 0 ≤ absI x ∧ absI x ≤ b := by unfold absI; omega
theorem wtK_bd {ts : List Int} (h : inB 64 ts) : ∀ k : Nat, 0 ≤ wtK ts k ∧ wtK ts k ≤ 64 * (k : Int)
  | 0 => by simp [wtK]
  | k + 1 => by
    have h1 := wtK_bd h k
    have h2 := absI_bd (inB_get h (by omega) k)
    simp only [wtK]
    omega
theorem wtK_zero {ts : List Int} : ∀ {k : Nat}, (∀ i, i < k → ts.getD i 0 = 0) → wtK ts k = 0
  | 0, _ => rfl
  | k + 1, h => by
    simp only [wtK]
    rw [wtK_zero (fun i hi => h i (by omega)), h k (by omega), absI_zero]
    rfl
/-- the quiet input. -/
def quietF (lk ht rc : Int) (ts : List Int) : Int := if 0 < wtK ts 8 then min (stdF lk ht : Int) (rc / wtK ts 8) else (stdF lk ht : Int)
end Go.Proofs.YtdeapbihbhoefaaGreatDoor

/- Contract of weight. -/
namespace Go.Proofs.YtdeapbihbhoefaaGreatDoor
open Go.RowKit
open Calm (bcell Blk)

theorem eqItems_int (d : Nat) (xs ys : Array Value) (l m : List Int) (hx : ∀ i, i < l.length → xs[i]? = some (.int .i64 (l.getD i 0))) (hy : ∀ i, i < l.length → ys[i]? = some (.int .i64 (m.getD i 0))) (W : World) : ∀ is : List Nat, (∀ i ∈ is, i < l.length) →
    (Op.eqItems (d + 1) 3 1 xs ys is).run Tryz.prog W = .ok (is.all fun i => l.getD i 0 == m.getD i 0) W
  | [], _ => by simp [Op.eqItems]
  | i :: is, h => by
    have hp : Tryz.prog.plainKey 3 = true := by kernel_rfl
    have hu : Tryz.prog.underlying 3 = some (.int .i64) := by kernel_rfl
    have hi := h i (by simp)
    have h1 := run_part_plain (P := Tryz.prog) (w := W) hp (hx i hi)
    have h2 := run_part_plain (P := Tryz.prog) (w := W) hp (hy i hi)
    have h3 := run_equalIn_int (P := Tryz.prog) W d 3 .i64 .i64 (l.getD i 0) (m.getD i 0) hu
    have ih := eqItems_int d xs ys l m hx hy W is (fun j hj => h j (by simp [hj]))
    simp only [Op.eqItems, Sem.run_bind, Nat.mul_one, h1, h2, h3, Result.andThen_ok]
    by_cases hc : (l.getD i 0 == m.getD i 0) = true
    · rw [hc]
      simp only [Bool.not_true, Bool.false_eq_true, if_false, ih, List.all_cons, hc, Bool.true_and]
    · rw [Bool.not_eq_true] at hc
      rw [hc]
      simp only [List.all_cons, hc, Bool.false_and, Bool.not_false, if_true]
      rfl
/-- an array of eight integers held against the zero array. -/
theorem eq_arr8 (t0 t1 t2 t3 t4 t5 t6 t7 : Int) (W : World) : Sem.run Tryz.prog (binOp .eql 129 (.agg #[(.int .i64 t0), (.int .i64 t1), (.int .i64 t2), (.int .i64 t3), (.int .i64 t4), (.int .i64 t5), (.int .i64 t6), (.int .i64 t7)]) (.agg #[(.int .i64 0), (.int .i64 0), (.int .i64 0), (.int .i64 0), (.int .i64 0), (.int .i64 0), (.int .i64 0), (.int .i64 0)])) W = .ok (.bool ((List.range 8).all fun i => [t0, t1, t2, t3, t4, t5, t6, t7].getD i 0 == 0)) W := by
  obtain ⟨i0, hi, hz0, hz1, hz2⟩ := info_parts Tryz.infoI
  have hu : Tryz.prog.underlying 129 = some (.array 8 3) := by kernel_rfl
  have hc : Tryz.prog.cellsOf 3 = 1 := by kernel_rfl
  have h := eqItems_int 9998 #[(.int .i64 t0), (.int .i64 t1), (.int .i64 t2), (.int .i64 t3), (.int .i64 t4), (.int .i64 t5), (.int .i64 t6), (.int .i64 t7)] #[(.int .i64 0), (.int .i64 0), (.int .i64 0), (.int .i64 0), (.int .i64 0), (.int .i64 0), (.int .i64 0), (.int .i64 0)] [t0, t1, t2, t3, t4, t5, t6, t7] [0, 0, 0, 0, 0, 0, 0, 0] (by intro i hi; match i, hi with | 0, _ => rfl | 1, _ => rfl | 2, _ => rfl | 3, _ => rfl | 4, _ => rfl | 5, _ => rfl | 6, _ => rfl | 7, _ => rfl) (by intro i hi; match i, hi with | 0, _ => rfl | 1, _ => rfl | 2, _ => rfl | 3, _ => rfl | 4, _ => rfl | 5, _ => rfl | 6, _ => rfl | 7, _ => rfl) W (List.range 8) (by simp)
  have h2 := run_equalIn_array (P := Tryz.prog) (w := W) 9999 #[(.int .i64 t0), (.int .i64 t1), (.int .i64 t2), (.int .i64 t3), (.int .i64 t4), (.int .i64 t5), (.int .i64 t6), (.int .i64 t7)] #[(.int .i64 0), (.int .i64 0), (.int .i64 0), (.int .i64 0), (.int .i64 0), (.int .i64 0), (.int .i64 0), (.int .i64 0)] hu hi
  rw [hc, h] at h2
  have h3 : (Op.equal 129 (.agg #[(.int .i64 t0), (.int .i64 t1), (.int .i64 t2), (.int .i64 t3), (.int .i64 t4), (.int .i64 t5), (.int .i64 t6), (.int .i64 t7)]) (.agg #[(.int .i64 0), (.int .i64 0), (.int .i64 0), (.int .i64 0), (.int .i64 0), (.int .i64 0), (.int .i64 0), (.int .i64 0)])).run Tryz.prog W = _ := h2
  simp only [binOp]
  rw [Sem.run_bind, h3]
  rfl
theorem sl8 (b : Nat) (W : World) : Sem.run Tryz.prog (Instr.sliceAt 129 (.pointer (some ⟨b, 0, none⟩)) none none none) W = .ok (.slice (some ⟨b, 0, none⟩) 8 8) W := by
  have ht : Tryz.prog.underlying 129 = some (.array 8 3) := by kernel_rfl
  obtain ⟨i0, hi, hz0, hz1, hz2⟩ := info_parts Tryz.infoI
  simp [Instr.sliceAt, run_underlying ht, Instr.sliceBounds, Instr.sureAddr, sizeOf, typeInfo, hi, Addr.add]
theorem taps8 {ts : List Int} (h : ts.length ≤ 8) : (ts.map (Value.int .i64) ++ (#[(.int .i64 0), (.int .i64 0), (.int .i64 0), (.int .i64 0), (.int .i64 0), (.int .i64 0), (.int .i64 0), (.int .i64 0)] : Array Value).toList.drop ts.length).toArray = #[(.int .i64 (ts.getD 0 0)), (.int .i64 (ts.getD 1 0)), (.int .i64 (ts.getD 2 0)), (.int .i64 (ts.getD 3 0)), (.int .i64 (ts.getD 4 0)), (.int .i64 (ts.getD 5 0)), (.int .i64 (ts.getD 6 0)), (.int .i64 (ts.getD 7 0))] := by
  match ts, h with
  | [], _ => rfl
  | [_], _ => rfl
  | [_, _], _ => rfl
  | [_, _, _], _ => rfl
  | [_, _, _, _], _ => rfl
  | [_, _, _, _, _], _ => rfl
  | [_, _, _, _, _, _], _ => rfl
  | [_, _, _, _, _, _, _], _ => rfl
  | [_, _, _, _, _, _, _, _], _ => rfl
  | _ :: _ :: _ :: _ :: _ :: _ :: _ :: _ :: _ :: _, h => simp at h
theorem idx8 (a b c d e f g h : Value) (k : Nat) (hk : k < 8) (W : World) : Sem.run Tryz.prog (Instr.index 129 (.agg #[a, b, c, d, e, f, g, h]) (.int .i64 ((k : Int)))) W = .ok (#[a, b, c, d, e, f, g, h].getD k undef) W := by
  have ht : Tryz.prog.underlying 129 = some (.array 8 3) := by kernel_rfl
  have hu : Tryz.prog.underlying 3 = some (.int .i64) := by kernel_rfl
  obtain ⟨i0, hi, hz0, hz1, hz2⟩ := info_parts Tryz.infoI
  have h3 : (0 : Int) ≤ k ∧ (k : Int) < 8 := by omega
  have hrun := run_underlying (P := Tryz.prog) hu
  obtain rfl | rfl | rfl | rfl | rfl | rfl | rfl | rfl : k = 0 ∨ k = 1 ∨ k = 2 ∨ k = 3 ∨ k = 4 ∨ k = 5 ∨ k = 6 ∨ k = 7 := by omega
  all_goals (simp [Instr.index, run_underlying ht, asIntOf, sizeOf, typeInfo, hi, hz1, part, isAgg, hrun])

set_option maxRecDepth 100000 in
set_option maxHeartbeats 2000000 in
theorem weight_any (lk ht rc : Int) (ts : List Int) (A1 A2 : Option Addr) (M L c1 c2 : Nat) (w : World) (hM : M = ts.length) (hT : Cells w A1 ts) (h8 : M ≤ 8) (hb : inB 64 ts) :
    Calls Tryz.prog 61 #[.agg #[(.int .i64 lk), (.int .i64 ht), .slice A1 M c1, (.int .i64 rc), .slice A2 L c2]] w fun r w' => r = .returned (.int .i64 (wtK ts 8)) ∧ Below w.heap.size w w' := by
  have HT := Lib.hid hT
  have HM := Lib.hid hM
  have HB := Lib.hid hb
  obtain ⟨Z, hZ⟩ : ∃ Z, Z = ((List.range 8).all fun i => [ts.getD 0 0, ts.getD 1 0, ts.getD 2 0, ts.getD 3 0, ts.getD 4 0, ts.getD 5 0, ts.getD 6 0, ts.getD 7 0].getD i 0 == 0) := ⟨_, rfl⟩
  have HEQ := eq_arr8 (ts.getD 0 0) (ts.getD 1 0) (ts.getD 2 0) (ts.getD 3 0) (ts.getD 4 0) (ts.getD 5 0) (ts.getD 6 0) (ts.getD 7 0)
  rw [← hZ] at HEQ
  have HZ : Hid (Z = true → wtK ts 8 = 0) := Lib.hid (fun e => by
    rw [hZ] at e
    have e2 := List.all_eq_true.1 e
    refine wtK_zero fun i hi => ?_
    have e3 := e2 i (by simp; omega)
    match i, hi with
    | 0, _ => simpa using e3
    | 1, _ => simpa using e3
    | 2, _ => simpa using e3
    | 3, _ => simpa using e3
    | 4, _ => simpa using e3
    | 5, _ => simpa using e3
    | 6, _ => simpa using e3
    | 7, _ => simpa using e3)
  have HEQH := Lib.hid HEQ
  clear hT hM hb hZ HEQ
  go_enter Tryz.func61, Tryz.ntmps61
  go_wp2
  refine name_world ?_
  intro wa ea
  have KA : Blk wa w.heap.size #[(.int .i64 lk), (.int .i64 ht), .slice A1 M c1, (.int .i64 rc), .slice A2 L c2] := by rw [ea]; (repeat (first | ((with_reducible refine Blk.at_ ?_); focus (first | rfl | (simp; done) | (simp; omega))) | (with_reducible refine Blk.alloc ?_ _) | (with_reducible refine Blk.below ?_ (by with_reducible assumption)) | (with_reducible refine Blk.drew ?_)))
  have HA : wa.heap[w.heap.size + 1]? = some (.cells #[(.int .i64 0), (.int .i64 0), (.int .i64 0), (.int .i64 0), (.int .i64 0), (.int .i64 0), (.int .i64 0), (.int .i64 0)] 129 (0, 0)) := by rw [ea]; exact heap_new (by simp)
  have BA : Below w.heap.size w wa := by rw [ea]; (repeat (first | (with_reducible exact Below.refl _ _) | ((with_reducible refine Below.setCell ?_ ?_ _); rotate_left 1; focus (first | (simp; done) | (simp; omega) | (simp at *; omega))) | ((with_reducible refine Below.alloc ?_ ?_ _); rotate_left 1; focus (first | (simp; done) | (simp; omega) | (simp at *; omega))) | (with_reducible refine Below.drew ?_) | ((with_reducible refine Calm.step (by assumption) ?_ ?_); rotate_left 1; focus (first | (simp; done) | (simp; omega) | (simp at *; omega)))))
  have hza : wa.heap.size = w.heap.size + 2 := by rw [ea]; simp
  have HKA := Lib.hid KA
  have HHA := Lib.hid HA
  have HBA := Lib.hid BA
  obtain ⟨g0, g1, g2, g3, g4, gl, gf⟩ := KA.o5
  have hsl := sl8 (w.heap.size + 1)
  clear ea KA HA BA
  refine Calm.tail_below 3 (by kernel_rfl) (by kernel_rfl) ?_
  simp only [List.take_succ_cons, List.take_zero, List.drop_succ_cons, List.drop_zero]
  repeat (first | (apply Calm.op_move; (focus rfl); (focus (first | exact .inl rfl | exact .inr rfl)); (focus ((try simp only [Act.eval, Array.getD_eq_getD_getElem?, List.getElem?_toArray, List.getElem?_cons_succ, List.getElem?_cons_zero, Option.getD_some]); rfl)); (try simp only [Act.put, List.setIfInBounds_toArray, List.set_cons_zero, List.set_cons_succ])) | (apply Calm.op_not; (focus rfl); (try simp only [Act.put, List.setIfInBounds_toArray, List.set_cons_zero, List.set_cons_succ])) | (apply Calm.op; (focus rfl); (focus (intro W hb; obtain ⟨hc, hf⟩ := bcell hb; clear hb hf; go_simp; (try go_bits); (try rfl); done)); (try simp only [Act.put, List.setIfInBounds_toArray, List.set_cons_zero, List.set_cons_succ])))
  refine wpQuiet_nil ?_
  intro wb hbb
  obtain ⟨hbbc, hbbf⟩ := bcell hbb
  have hbbz := hbb.size
  (try simp at hbbz)
  (try have hbbz0 : w.heap.size < wb.heap.size := by omega)
  (try have hbbz1 : w.heap.size + 1 < wb.heap.size := by omega)
  (try have hbbz2 : w.heap.size + 1 + 1 < wb.heap.size := by omega)
  (try have hbbz3 : w.heap.size + 1 + 1 + 1 < wb.heap.size := by omega)
  (try have hbbz4 : w.heap.size + 1 + 1 + 1 + 1 < wb.heap.size := by omega)
  (try have hbbz5 : w.heap.size + 1 + 1 + 1 + 1 + 1 < wb.heap.size := by omega)
  go_wp2_with (refine wpList_copyI rfl (.tmp 7) (.tmp 9) 22 22 rfl 3 Tryz.underlying22 Tryz.sizeI (w.heap.size + 1) 8 M 8 c1 A1 ts HM.out.symm h8 rfl rfl #[(.int .i64 0), (.int .i64 0), (.int .i64 0), (.int .i64 0), (.int .i64 0), (.int .i64 0), (.int .i64 0), (.int .i64 0)] 129 ?hg rfl (HT.out.below (HBA.out.trans (hbb.mono HBA.out.size))) ?_)
  case hg => exact (hbb.block _ (by omega)).trans HHA.out
  intro wc hsc hbc hoc hgc
  rw [show (ts.map (Value.int .i64) ++ (#[(.int .i64 0), (.int .i64 0), (.int .i64 0), (.int .i64 0), (.int .i64 0), (.int .i64 0), (.int .i64 0), (.int .i64 0)] : Array Value).toList.drop M).toArray = #[(.int .i64 (ts.getD 0 0)), (.int .i64 (ts.getD 1 0)), (.int .i64 (ts.getD 2 0)), (.int .i64 (ts.getD 3 0)), (.int .i64 (ts.getD 4 0)), (.int .i64 (ts.getD 5 0)), (.int .i64 (ts.getD 6 0)), (.int .i64 (ts.getD 7 0))] by rw [HM.out]; exact taps8 (by rw [← HM.out]; exact h8)] at hgc
  have HIX : Hid (∀ k : Nat, k < 8 → ∀ W, Sem.run Tryz.prog (Instr.index 129 (.agg #[(.int .i64 (ts.getD 0 0)), (.int .i64 (ts.getD 1 0)), (.int .i64 (ts.getD 2 0)), (.int .i64 (ts.getD 3 0)), (.int .i64 (ts.getD 4 0)), (.int .i64 (ts.getD 5 0)), (.int .i64 (ts.getD 6 0)), (.int .i64 (ts.getD 7 0))]) (.int .i64 ((k : Int)))) W = .ok (.int .i64 (ts.getD k 0)) W) := Lib.hid (fun k hk W => by
    rw [idx8 _ _ _ _ _ _ _ _ k hk W]
    match k, hk with
    | 0, _ => rfl
    | 1, _ => rfl
    | 2, _ => rfl
    | 3, _ => rfl
    | 4, _ => rfl
    | 5, _ => rfl
    | 6, _ => rfl
    | 7, _ => rfl)
  generalize ts.getD 0 0 = t0 at *
  generalize ts.getD 1 0 = t1 at *
  generalize ts.getD 2 0 = t2 at *
  generalize ts.getD 3 0 = t3 at *
  generalize ts.getD 4 0 = t4 at *
  generalize ts.getD 5 0 = t5 at *
  generalize ts.getD 6 0 = t6 at *
  generalize ts.getD 7 0 = t7 at *
  have hBc : Below w.heap.size w wc := (HBA.out.trans (hbb.mono HBA.out.size)).trans (hbc.mono (by omega))
  have HBC := Lib.hid hBc
  have hK := Calm.Blk.row hgc
  obtain ⟨d0, d1, d2, d3, d4, d5, d6, d7, dl, df⟩ := hK.o8
  have heq := HEQH.out
  have HBT : Hid (∀ k : Nat, -64 ≤ ts.getD k 0 ∧ ts.getD k 0 ≤ 64) := Lib.hid (fun k => inB_get HB.out (by omega) k)
  have HWB : Hid (∀ k : Nat, 0 ≤ wtK ts k ∧ wtK ts k ≤ 64 * (k : Int)) := Lib.hid (fun k => wtK_bd HB.out k)
  clear hgc hoc hbc hbb hsc hsl hBc g0 g1 g2 g3 g4 gl gf HHA hK HKA HB HEQH
  cases hZ : Z with
  | true =>
    subst hZ
    have HR := Lib.hid (HZ.out rfl)
    go_wp2
    go_ret
    exact ⟨ret_i HR.out.symm, HBC.out⟩
  | false =>
    subst hZ
    go_wp2
    go_loop [4, 15] (fun s i => ∃ k : Nat, k ≤ 8 ∧ i = (.int .i64 ((k : Int))) ∧ s = (.int .i64 (wtK ts k))) (fun _ i => 8 - (intOf i).toNat)
    case atStart => exact ⟨0, by omega, rfl, rfl⟩
    case round =>
      obtain ⟨k, hk, rfl, rfl⟩ := hrel
      obtain ⟨m1, m2⟩ := HWB.out k
      have HS : Hid (wtK ts (k + 1) = wtK ts k + absI (ts.getD k 0)) := Lib.hid rfl
      obtain ⟨S, hS⟩ : ∃ S, S = wtK ts k := ⟨_, rfl⟩
      rw [← hS] at m1 m2 HS ⊢
      have HSE := Lib.hid hS
      clear hS
      by_cases hlt : k < 8
      · have hix := HIX.out k hlt
        have hbt := HBT.out k
        obtain ⟨x, hx⟩ : ∃ x, x = ts.getD k 0 := ⟨_, rfl⟩
        rw [← hx] at hix hbt HS
        obtain ⟨b1, b2⟩ := hbt
        have hab := absI_bd ⟨b1, b2⟩
        obtain ⟨y, hy⟩ : ∃ y, y = absI x := ⟨_, rfl⟩
        have HA : Hid (∀ W, Calls Tryz.prog 59 #[(.int .i64 x)] W fun r w' => r = .returned (.int .i64 y) ∧ W = w') := Lib.hid (fun W => by rw [hy]; exact abs_any x W ⟨by omega, by omega⟩)
        rw [← hy] at hab HS
        obtain ⟨b3, b4⟩ := hab
        clear hx hy
        go_wp2_with (go_at_call 59; refine (HA.out _).mono ?_; rintro r w1 ⟨rfl, rfl⟩)
        go_round
        case rel => exact ⟨k + 1, by omega, by go_num, by rw [HS.out]⟩
        case measure => simp [intOf]; omega
      · obtain rfl : k = 8 := by omega
        go_wp2
        go_ret
        exact ⟨ret_i HSE.out, HBC.out⟩
end Go.Proofs.YtdeapbihbhoefaaGreatDoor

/- Contracts of Steady and Quiet. -/
namespace Go.Proofs.YtdeapbihbhoefaaGreatDoor
open Go.RowKit
open Calm (bcell Blk)

set_option maxHeartbeats 1000000 in
theorem Steady_any (lk ht rc : Int) (ts gs : List Int) (A1 A2 : Option Addr) (M L c1 c2 : Nat) (w : World) (hM : M = ts.length) (hL : L = gs.length) (hT : Cells w A1 ts) (hG : Cells w A2 gs) (h1 : M ≤ 1000) (h2 : L ≤ 1000) :
    Calls Tryz.prog 29 #[.agg #[(.int .i64 lk), (.int .i64 ht), .slice A1 M c1, (.int .i64 rc), .slice A2 L c2]] w fun r w' => r = .returned (.tuple #[(.int .i64 (if guardErr lk ht rc ts gs = 0 then (stdF lk ht : Int) else 0)), (.int .i64 (guardErr lk ht rc ts gs))]) ∧ Below w.heap.size w w' := by
  have HCG : Hid (∀ W, Cells W A1 ts → Cells W A2 gs → Calls Tryz.prog 35 #[.agg #[(.int .i64 lk), (.int .i64 ht), .slice A1 M c1, (.int .i64 rc), .slice A2 L c2]] W fun r w' => r = .returned (.int .i64 (guardErr lk ht rc ts gs)) ∧ Below W.heap.size W w') := Lib.hid (fun W q1 q2 => by rw [hM, hL]; exact checkGuard_any lk ht rc ts gs A1 A2 c1 c2 W q1 q2 (by omega) (by omega))
  have HST : Hid (guardErr lk ht rc ts gs = 0 → ∀ W, Calls Tryz.prog 60 #[.agg #[(.int .i64 lk), (.int .i64 ht), .slice A1 M c1, (.int .i64 rc), .slice A2 L c2]] W fun r w' => r = .returned (.int .i64 ((stdF lk ht : Int))) ∧ Below W.heap.size W w') := Lib.hid (fun e W => steady_any lk ht rc A1 A2 M L c1 c2 W (guard_valid e).lk (guard_valid e).ht)
  have HT := Lib.hid hT
  have HG := Lib.hid hG
  obtain ⟨E, hE⟩ : ∃ E, E = guardErr lk ht rc ts gs := ⟨_, rfl⟩
  obtain ⟨S, hS⟩ : ∃ S, S = (stdF lk ht : Int) := ⟨_, rfl⟩
  rw [← hE] at HCG HST ⊢
  rw [← hS] at HST ⊢
  clear hM hL hT hG hE hS
  by_cases he : E = 0
  · subst he
    have HST2 := HST.out rfl
    have HST3 := Lib.hid HST2
    clear HST2 HST
    rw [if_pos rfl]
    go_enter Tryz.func29, Tryz.ntmps29
    go_wp2_with (first
      | (go_at_call 35; refine (HCG.out _ (HT.out.below (by (repeat (first | (with_reducible exact Below.refl _ _) | ((with_reducible refine Below.setCell ?_ ?_ _); rotate_left 1; focus (first | (simp; done) | (simp; omega) | (simp at *; omega))) | ((with_reducible refine Below.alloc ?_ ?_ _); rotate_left 1; focus (first | (simp; done) | (simp; omega) | (simp at *; omega))) | (with_reducible refine Below.drew ?_) | ((with_reducible refine Calm.step (by assumption) ?_ ?_); rotate_left 1; focus (first | (simp; done) | (simp; omega) | (simp at *; omega))))))) (HG.out.below (by (repeat (first | (with_reducible exact Below.refl _ _) | ((with_reducible refine Below.setCell ?_ ?_ _); rotate_left 1; focus (first | (simp; done) | (simp; omega) | (simp at *; omega))) | ((with_reducible refine Below.alloc ?_ ?_ _); rotate_left 1; focus (first | (simp; done) | (simp; omega) | (simp at *; omega))) | (with_reducible refine Below.drew ?_) | ((with_reducible refine Calm.step (by assumption) ?_ ?_); rotate_left 1; focus (first | (simp; done) | (simp; omega) | (simp at *; omega)))))))).mono ?_; rintro r w1 ⟨rfl, hb1⟩; have HB1 := Lib.hid (show Below w.heap.size w w1 from Below.trans (by (repeat (first | (with_reducible exact Below.refl _ _) | ((with_reducible refine Below.setCell ?_ ?_ _); rotate_left 1; focus (first | (simp; done) | (simp; omega) | (simp at *; omega))) | ((with_reducible refine Below.alloc ?_ ?_ _); rotate_left 1; focus (first | (simp; done) | (simp; omega) | (simp at *; omega))) | (with_reducible refine Below.drew ?_) | ((with_reducible refine Calm.step (by assumption) ?_ ?_); rotate_left 1; focus (first | (simp; done) | (simp; omega) | (simp at *; omega)))))) (hb1.mono (by simp; try omega))); have G1 := Lib.hid (show Blk w1 w.heap.size #[(.int .i64 lk), (.int .i64 ht), .slice A1 M c1, (.int .i64 rc), .slice A2 L c2] from Blk.below (by (repeat (first | ((with_reducible refine Blk.at_ ?_); focus (first | rfl | (simp; done) | (simp; omega))) | (with_reducible refine Blk.alloc ?_ _) | (with_reducible refine Blk.below ?_ (by with_reducible assumption)) | (with_reducible refine Blk.drew ?_)))) hb1); obtain ⟨g0, g1, g2, g3, g4, gl, gf⟩ := G1.out.o5; clear hb1)
      | (go_at_call 60; refine (HST3.out _).mono ?_; rintro r w2 ⟨rfl, hb2⟩; have HB2 := Lib.hid (HB1.out.trans (hb2.mono HB1.out.size)); clear hb2 g0 g1 g2 g3 g4 gl gf))
    go_ret2
    exact ⟨rfl, HB2.out⟩
  · rw [if_neg he]
    clear HST
    go_enter Tryz.func29, Tryz.ntmps29
    go_wp2_with (go_at_call 35; refine (HCG.out _ (HT.out.below (by (repeat (first | (with_reducible exact Below.refl _ _) | ((with_reducible refine Below.setCell ?_ ?_ _); rotate_left 1; focus (first | (simp; done) | (simp; omega) | (simp at *; omega))) | ((with_reducible refine Below.alloc ?_ ?_ _); rotate_left 1; focus (first | (simp; done) | (simp; omega) | (simp at *; omega))) | (with_reducible refine Below.drew ?_) | ((with_reducible refine Calm.step (by assumption) ?_ ?_); rotate_left 1; focus (first | (simp; done) | (simp; omega) | (simp at *; omega))))))) (HG.out.below (by (repeat (first | (with_reducible exact Below.refl _ _) | ((with_reducible refine Below.setCell ?_ ?_ _); rotate_left 1; focus (first | (simp; done) | (simp; omega) | (simp at *; omega))) | ((with_reducible refine Below.alloc ?_ ?_ _); rotate_left 1; focus (first | (simp; done) | (simp; omega) | (simp at *; omega))) | (with_reducible refine Below.drew ?_) | ((with_reducible refine Calm.step (by assumption) ?_ ?_); rotate_left 1; focus (first | (simp; done) | (simp; omega) | (simp at *; omega)))))))).mono ?_; rintro r w1 ⟨rfl, hb1⟩; have HB1 := Lib.hid (show Below w.heap.size w w1 from Below.trans (by (repeat (first | (with_reducible exact Below.refl _ _) | ((with_reducible refine Below.setCell ?_ ?_ _); rotate_left 1; focus (first | (simp; done) | (simp; omega) | (simp at *; omega))) | ((with_reducible refine Below.alloc ?_ ?_ _); rotate_left 1; focus (first | (simp; done) | (simp; omega) | (simp at *; omega))) | (with_reducible refine Below.drew ?_) | ((with_reducible refine Calm.step (by assumption) ?_ ?_); rotate_left 1; focus (first | (simp; done) | (simp; omega) | (simp at *; omega)))))) (hb1.mono (by simp; try omega))); clear hb1)
    go_ret2
    exact ⟨rfl, HB1.out⟩

theorem mnQ (x y : Int) (ts : Array TypeId) (t : TypeId) (W : World) : (Builtin.min_ ts t #[(.int .i64 x), (.int .i64 y)]).run Tryz.prog W = .ok (.int .i64 (if y < x then y else x)) W := by
  by_cases h : y < x
  · simp [Builtin.min_, Builtin.min2, h]
  · simp [Builtin.min_, Builtin.min2, h]

set_option maxRecDepth 100000 in
set_option maxHeartbeats 2000000 in
theorem Quiet_any (lk ht rc : Int) (ts gs : List Int) (A1 A2 : Option Addr) (M L c1 c2 : Nat) (w : World) (hM : M = ts.length) (hL : L = gs.length) (hT : Cells w A1 ts) (hG : Cells w A2 gs) (h1 : M ≤ 1000) (h2 : L ≤ 1000) :
    Calls Tryz.prog 30 #[.agg #[(.int .i64 lk), (.int .i64 ht), .slice A1 M c1, (.int .i64 rc), .slice A2 L c2]] w fun r w' => r = .returned (.tuple #[(.int .i64 (if guardErr lk ht rc ts gs = 0 then quietF lk ht rc ts else 0)), (.int .i64 (guardErr lk ht rc ts gs))]) ∧ Below w.heap.size w w' := by
  have HCG : Hid (∀ W, Cells W A1 ts → Cells W A2 gs → Calls Tryz.prog 35 #[.agg #[(.int .i64 lk), (.int .i64 ht), .slice A1 M c1, (.int .i64 rc), .slice A2 L c2]] W fun r w' => r = .returned (.int .i64 (guardErr lk ht rc ts gs)) ∧ Below W.heap.size W w') := Lib.hid (fun W q1 q2 => by rw [hM, hL]; exact checkGuard_any lk ht rc ts gs A1 A2 c1 c2 W q1 q2 (by omega) (by omega))
  have HST : Hid (guardErr lk ht rc ts gs = 0 → ∀ W, Calls Tryz.prog 60 #[.agg #[(.int .i64 lk), (.int .i64 ht), .slice A1 M c1, (.int .i64 rc), .slice A2 L c2]] W fun r w' => r = .returned (.int .i64 ((stdF lk ht : Int))) ∧ Below W.heap.size W w') := Lib.hid (fun e W => steady_any lk ht rc A1 A2 M L c1 c2 W (guard_valid e).lk (guard_valid e).ht)
  have HWT : Hid (guardErr lk ht rc ts gs = 0 → ∀ W, Cells W A1 ts → Calls Tryz.prog 61 #[.agg #[(.int .i64 lk), (.int .i64 ht), .slice A1 M c1, (.int .i64 rc), .slice A2 L c2]] W fun r w' => r = .returned (.int .i64 (wtK ts 8)) ∧ Below W.heap.size W w') := Lib.hid (fun e W q => weight_any lk ht rc ts A1 A2 M L c1 c2 W hM q (by have := (guard_valid e).tl; omega) (guard_valid e).tb)
  have HWB : Hid (guardErr lk ht rc ts gs = 0 → 0 ≤ wtK ts 8 ∧ wtK ts 8 ≤ 512) := Lib.hid (fun e => by have := wtK_bd (guard_valid e).tb 8; omega)
  have HRC : Hid (guardErr lk ht rc ts gs = 0 → 0 ≤ rc ∧ rc ≤ 1048576) := Lib.hid (fun e => (guard_valid e).rc)
  have HQ : Hid (quietF lk ht rc ts = if 0 < wtK ts 8 then min (stdF lk ht : Int) (rc / wtK ts 8) else (stdF lk ht : Int)) := Lib.hid rfl
  have HT := Lib.hid hT
  have HG := Lib.hid hG
  obtain ⟨E, hE⟩ : ∃ E, E = guardErr lk ht rc ts gs := ⟨_, rfl⟩
  obtain ⟨S, hS⟩ : ∃ S, S = (stdF lk ht : Int) := ⟨_, rfl⟩
  obtain ⟨Wt, hWt⟩ : ∃ Wt, Wt = wtK ts 8 := ⟨_, rfl⟩
  obtain ⟨R, hR⟩ : ∃ R, R = quietF lk ht rc ts := ⟨_, rfl⟩
  rw [← hE] at HCG HST HWT HWB HRC ⊢
  rw [← hS] at HST HQ
  rw [← hWt] at HWT HWB HQ
  rw [← hR] at HQ ⊢
  clear hM hL hT hG hE hS hWt hR
  by_cases he : E = 0
  · subst he
    have HST2 := HST.out rfl
    have HST3 := Lib.hid HST2
    clear HST2 HST
    have HWT2 := HWT.out rfl
    have HWT3 := Lib.hid HWT2
    clear HWT2 HWT
    obtain ⟨b1, b2⟩ := HWB.out rfl
    obtain ⟨b3, b4⟩ := HRC.out rfl
    rw [if_pos rfl]
    by_cases hw : 0 < Wt
    · have b5 : 0 ≤ rc / Wt := Int.ediv_nonneg b3 b1
      have b6 : rc / Wt ≤ rc := Int.ediv_le_self _ b3
      have b7 : ¬ Wt = 0 := by omega
      have HR : Hid (R = if rc / Wt < S then rc / Wt else S) := Lib.hid (by rw [HQ.out, if_pos hw]; split <;> omega)
      have hmn := mnQ S (rc / Wt)
      obtain ⟨X, hX⟩ : ∃ X, X = (if rc / Wt < S then rc / Wt else S) := ⟨_, rfl⟩
      rw [← hX] at HR hmn
      have HX := Lib.hid hX
      clear hX
      go_enter Tryz.func30, Tryz.ntmps30
      go_wp2_with (first
        | (go_at_call 35; refine (HCG.out _ (HT.out.below (by (repeat (first | (with_reducible exact Below.refl _ _) | ((with_reducible refine Below.setCell ?_ ?_ _); rotate_left 1; focus (first | (simp; done) | (simp; omega) | (simp at *; omega))) | ((with_reducible refine Below.alloc ?_ ?_ _); rotate_left 1; focus (first | (simp; done) | (simp; omega) | (simp at *; omega))) | (with_reducible refine Below.drew ?_) | ((with_reducible refine Calm.step (by assumption) ?_ ?_); rotate_left 1; focus (first | (simp; done) | (simp; omega) | (simp at *; omega))))))) (HG.out.below (by (repeat (first | (with_reducible exact Below.refl _ _) | ((with_reducible refine Below.setCell ?_ ?_ _); rotate_left 1; focus (first | (simp; done) | (simp; omega) | (simp at *; omega))) | ((with_reducible refine Below.alloc ?_ ?_ _); rotate_left 1; focus (first | (simp; done) | (simp; omega) | (simp at *; omega))) | (with_reducible refine Below.drew ?_) | ((with_reducible refine Calm.step (by assumption) ?_ ?_); rotate_left 1; focus (first | (simp; done) | (simp; omega) | (simp at *; omega)))))))).mono ?_; rintro r w1 ⟨rfl, hb1⟩; have HB1 := Lib.hid (show Below w.heap.size w w1 from Below.trans (by (repeat (first | (with_reducible exact Below.refl _ _) | ((with_reducible refine Below.setCell ?_ ?_ _); rotate_left 1; focus (first | (simp; done) | (simp; omega) | (simp at *; omega))) | ((with_reducible refine Below.alloc ?_ ?_ _); rotate_left 1; focus (first | (simp; done) | (simp; omega) | (simp at *; omega))) | (with_reducible refine Below.drew ?_) | ((with_reducible refine Calm.step (by assumption) ?_ ?_); rotate_left 1; focus (first | (simp; done) | (simp; omega) | (simp at *; omega)))))) (hb1.mono (by simp; try omega))); have G1 := Lib.hid (show Blk w1 w.heap.size #[(.int .i64 lk), (.int .i64 ht), .slice A1 M c1, (.int .i64 rc), .slice A2 L c2] from Blk.below (by (repeat (first | ((with_reducible refine Blk.at_ ?_); focus (first | rfl | (simp; done) | (simp; omega))) | (with_reducible refine Blk.alloc ?_ _) | (with_reducible refine Blk.below ?_ (by with_reducible assumption)) | (with_reducible refine Blk.drew ?_)))) hb1); obtain ⟨g0, g1, g2, g3, g4, gl, gf⟩ := G1.out.o5; clear hb1)
        | (go_at_call 61; refine (HWT3.out _ (HT.out.below HB1.out)).mono ?_; rintro r w2 ⟨rfl, hb2⟩; have HB2 := Lib.hid (HB1.out.trans (hb2.mono HB1.out.size)); have G2 := Lib.hid (G1.out.below hb2); clear hb2 g0 g1 g2 g3 g4 gl gf; obtain ⟨g0, g1, g2, g3, g4, gl, gf⟩ := G2.out.o5))
      refine Calm.tail_below 7 (by kernel_rfl) (by kernel_rfl) ?_
      simp only [List.take_succ_cons, List.take_zero, List.drop_succ_cons, List.drop_zero]
      repeat (first | (first | (apply Calm.op_move; (focus rfl); (focus (first | exact .inl rfl | exact .inr rfl)); (focus ((try simp only [Act.eval, Array.getD_eq_getD_getElem?, List.getElem?_toArray, List.getElem?_cons_succ, List.getElem?_cons_zero, Option.getD_some]); rfl)); (try simp only [Act.put, List.setIfInBounds_toArray, List.set_cons_zero, List.set_cons_succ])) | (apply Calm.op_not; (focus rfl); (try simp only [Act.put, List.setIfInBounds_toArray, List.set_cons_zero, List.set_cons_succ])) | (apply Calm.op; (focus rfl); (focus (intro W hb; obtain ⟨hc, hf⟩ := bcell hb; clear hb hf; go_simp; (try go_bits); (try rfl); done)); (try simp only [Act.put, List.setIfInBounds_toArray, List.set_cons_zero, List.set_cons_succ]))) | (apply Calm.op_call; (focus rfl); (focus (intro W hb; obtain ⟨hc, hf⟩ := bcell hb; clear hb hf; go_simp; refine ⟨?_, ?_⟩; rfl; rfl)); (focus (intro W hb; first | (go_at_call 60; exact Calm.call_below hb (HST3.out _)))); (try simp only [Act.put, List.setIfInBounds_toArray, List.set_cons_zero, List.set_cons_succ])))
      refine wpQuiet_nil ?_
      intro w3 hb3
      obtain ⟨hb3c, hb3f⟩ := bcell hb3
      have hb3z := hb3.size
      (try simp at hb3z)
      (try have hb3z0 : w.heap.size < w3.heap.size := by omega)
      (try have hb3z1 : w.heap.size + 1 < w3.heap.size := by omega)
      (try have hb3z2 : w.heap.size + 1 + 1 < w3.heap.size := by omega)
      (try have hb3z3 : w.heap.size + 1 + 1 + 1 < w3.heap.size := by omega)
      (try have hb3z4 : w.heap.size + 1 + 1 + 1 + 1 < w3.heap.size := by omega)
      (try have hb3z5 : w.heap.size + 1 + 1 + 1 + 1 + 1 < w3.heap.size := by omega)
      go_wp2
      go_ret2
      exact ⟨by have h := HR.out; subst h; rfl, HB2.out.trans (hb3.mono HB2.out.size)⟩
    · have HR : Hid (R = S) := Lib.hid (by rw [HQ.out, if_neg hw])
      go_enter Tryz.func30, Tryz.ntmps30
      go_wp2_with (first
        | (go_at_call 35; refine (HCG.out _ (HT.out.below (by (repeat (first | (with_reducible exact Below.refl _ _) | ((with_reducible refine Below.setCell ?_ ?_ _); rotate_left 1; focus (first | (simp; done) | (simp; omega) | (simp at *; omega))) | ((with_reducible refine Below.alloc ?_ ?_ _); rotate_left 1; focus (first | (simp; done) | (simp; omega) | (simp at *; omega))) | (with_reducible refine Below.drew ?_) | ((with_reducible refine Calm.step (by assumption) ?_ ?_); rotate_left 1; focus (first | (simp; done) | (simp; omega) | (simp at *; omega))))))) (HG.out.below (by (repeat (first | (with_reducible exact Below.refl _ _) | ((with_reducible refine Below.setCell ?_ ?_ _); rotate_left 1; focus (first | (simp; done) | (simp; omega) | (simp at *; omega))) | ((with_reducible refine Below.alloc ?_ ?_ _); rotate_left 1; focus (first | (simp; done) | (simp; omega) | (simp at *; omega))) | (with_reducible refine Below.drew ?_) | ((with_reducible refine Calm.step (by assumption) ?_ ?_); rotate_left 1; focus (first | (simp; done) | (simp; omega) | (simp at *; omega)))))))).mono ?_; rintro r w1 ⟨rfl, hb1⟩; have HB1 := Lib.hid (show Below w.heap.size w w1 from Below.trans (by (repeat (first | (with_reducible exact Below.refl _ _) | ((with_reducible refine Below.setCell ?_ ?_ _); rotate_left 1; focus (first | (simp; done) | (simp; omega) | (simp at *; omega))) | ((with_reducible refine Below.alloc ?_ ?_ _); rotate_left 1; focus (first | (simp; done) | (simp; omega) | (simp at *; omega))) | (with_reducible refine Below.drew ?_) | ((with_reducible refine Calm.step (by assumption) ?_ ?_); rotate_left 1; focus (first | (simp; done) | (simp; omega) | (simp at *; omega)))))) (hb1.mono (by simp; try omega))); have G1 := Lib.hid (show Blk w1 w.heap.size #[(.int .i64 lk), (.int .i64 ht), .slice A1 M c1, (.int .i64 rc), .slice A2 L c2] from Blk.below (by (repeat (first | ((with_reducible refine Blk.at_ ?_); focus (first | rfl | (simp; done) | (simp; omega))) | (with_reducible refine Blk.alloc ?_ _) | (with_reducible refine Blk.below ?_ (by with_reducible assumption)) | (with_reducible refine Blk.drew ?_)))) hb1); obtain ⟨g0, g1, g2, g3, g4, gl, gf⟩ := G1.out.o5; clear hb1)
        | (go_at_call 61; refine (HWT3.out _ (HT.out.below HB1.out)).mono ?_; rintro r w2 ⟨rfl, hb2⟩; have HB2 := Lib.hid (HB1.out.trans (hb2.mono HB1.out.size)); have G2 := Lib.hid (G1.out.below hb2); clear hb2 g0 g1 g2 g3 g4 gl gf; obtain ⟨g0, g1, g2, g3, g4, gl, gf⟩ := G2.out.o5)
        | (go_at_call 60; refine (HST3.out _).mono ?_; rintro r w3 ⟨rfl, hb3⟩; have HB3 := Lib.hid (HB2.out.trans (hb3.mono HB2.out.size)); clear hb3 g0 g1 g2 g3 g4 gl gf))
      go_ret2
      exact ⟨by have h := HR.out; subst h; rfl, HB3.out⟩
  · rw [if_neg he]
    clear HST HWT HWB HRC HQ
    go_enter Tryz.func30, Tryz.ntmps30
    go_wp2_with (go_at_call 35; refine (HCG.out _ (HT.out.below (by (repeat (first | (with_reducible exact Below.refl _ _) | ((with_reducible refine Below.setCell ?_ ?_ _); rotate_left 1; focus (first | (simp; done) | (simp; omega) | (simp at *; omega))) | ((with_reducible refine Below.alloc ?_ ?_ _); rotate_left 1; focus (first | (simp; done) | (simp; omega) | (simp at *; omega))) | (with_reducible refine Below.drew ?_) | ((with_reducible refine Calm.step (by assumption) ?_ ?_); rotate_left 1; focus (first | (simp; done) | (simp; omega) | (simp at *; omega))))))) (HG.out.below (by (repeat (first | (with_reducible exact Below.refl _ _) | ((with_reducible refine Below.setCell ?_ ?_ _); rotate_left 1; focus (first | (simp; done) | (simp; omega) | (simp at *; omega))) | ((with_reducible refine Below.alloc ?_ ?_ _); rotate_left 1; focus (first | (simp; done) | (simp; omega) | (simp at *; omega))) | (with_reducible refine Below.drew ?_) | ((with_reducible refine Calm.step (by assumption) ?_ ?_); rotate_left 1; focus (first | (simp; done) | (simp; omega) | (simp at *; omega)))))))).mono ?_; rintro r w1 ⟨rfl, hb1⟩; have HB1 := Lib.hid (show Below w.heap.size w w1 from Below.trans (by (repeat (first | (with_reducible exact Below.refl _ _) | ((with_reducible refine Below.setCell ?_ ?_ _); rotate_left 1; focus (first | (simp; done) | (simp; omega) | (simp at *; omega))) | ((with_reducible refine Below.alloc ?_ ?_ _); rotate_left 1; focus (first | (simp; done) | (simp; omega) | (simp at *; omega))) | (with_reducible refine Below.drew ?_) | ((with_reducible refine Calm.step (by assumption) ?_ ?_); rotate_left 1; focus (first | (simp; done) | (simp; omega) | (simp at *; omega)))))) (hb1.mono (by simp; try omega))); clear hb1)
    go_ret2
    exact ⟨rfl, HB1.out⟩
end Go.Proofs.YtdeapbihbhoefaaGreatDoor
