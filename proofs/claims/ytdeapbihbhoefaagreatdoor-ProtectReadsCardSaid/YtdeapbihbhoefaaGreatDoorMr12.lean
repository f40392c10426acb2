/- Part 12 of the texts of the claim: Y4, Y5. -/
import Derived.Test.YtdeapbihbhoefaaGreatDoorMr11

/- Contracts of Behind and Step. -/
namespace Go.Proofs.YtdeapbihbhoefaaGreatDoor
open Go.RowKit
open Calm (bcell Blk)

/-- the error of a guard, a state and a number. -/
def bothErr (lk ht rc : Int) (ts gs : List Int) (h lv : Int) (ps : List Int) (y : Int) : Int := firstOf [stErr lk ht rc ts gs h lv ps, rangeErr y (-2048) 2048]
theorem bothErr_zero {lk ht rc h lv y : Int} {ts gs ps : List Int} (e : bothErr lk ht rc ts gs h lv ps y = 0) : stErr lk ht rc ts gs h lv ps = 0 ∧ (-2048 ≤ y ∧ y ≤ 2048) := by
  have h2 := firstOf_eq_zero.1 e
  exact ⟨h2 _ (by simp), rangeErr_zero.1 (h2 (rangeErr y (-2048) 2048) (by simp))⟩

set_option maxHeartbeats 1000000 in
theorem Behind_bad (lk ht rc h lv y : Int) (ts gs ps : List Int) (A1 A2 A3 : Option Addr) (M L Q c1 c2 c3 : Nat) (w : World) (hM : M = ts.length) (hL : L = gs.length) (hQ : Q = ps.length) (hLim : Lim w) (hT : Cells w A1 ts) (hG : Cells w A2 gs) (hP : Cells w A3 ps) (h1 : M ≤ 1000) (h2 : L ≤ 1000) (h3 : Q ≤ 1000) (he : bothErr lk ht rc ts gs h lv ps y ≠ 0) :
    Calls Tryz.prog 18 #[.agg #[(.int .i64 lk), (.int .i64 ht), .slice A1 M c1, (.int .i64 rc), .slice A2 L c2], .agg #[(.int .i64 h), (.int .i64 lv), .slice A3 Q c3], (.int .i64 y)] w fun r w' => r = .returned (.tuple #[.agg #[(.int .i64 0), (.int .i64 0), .slice none 0 0], (.int .i64 0), (.int .i64 (bothErr lk ht rc ts gs h lv ps y))]) ∧ Below w.heap.size w w' := by
  have HCS : Hid (∀ W, Cells W A1 ts → Cells W A2 gs → Cells W A3 ps → Calls Tryz.prog 50 #[.agg #[(.int .i64 lk), (.int .i64 ht), .slice A1 M c1, (.int .i64 rc), .slice A2 L c2], .agg #[(.int .i64 h), (.int .i64 lv), .slice A3 Q c3]] W fun r w' => r = .returned (.int .i64 (stErr lk ht rc ts gs h lv ps)) ∧ Below W.heap.size W w') := Lib.hid (fun W q1 q2 q3 => checkState_any lk ht rc h lv ts gs ps A1 A2 A3 M L Q c1 c2 c3 W hM hL hQ q1 q2 q3 h1 h2 h3)
  have HFI : Hid (∀ W : World, Calls Tryz.prog 49 #[.slice (some ⟨W.heap.size, 0, none⟩) 2 2] (W.alloc (.cells #[(.int .i64 (stErr lk ht rc ts gs h lv ps)), (.int .i64 (rangeErr y (-2048) 2048))] 27)) fun r w' => r = .returned (.int .i64 (bothErr lk ht rc ts gs h lv ps y)) ∧ (W.alloc (.cells #[(.int .i64 (stErr lk ht rc ts gs h lv ps)), (.int .i64 (rangeErr y (-2048) 2048))] 27)) = w') := Lib.hid (fun W => by unfold bothErr; exact first2_new W _ _)
  have HT := Lib.hid hT
  have HG := Lib.hid hG
  have HP := Lib.hid hP
  obtain ⟨E, hE⟩ : ∃ E, E = bothErr lk ht rc ts gs h lv ps y := ⟨_, rfl⟩
  obtain ⟨E1, hE1⟩ : ∃ E, E = stErr lk ht rc ts gs h lv ps := ⟨_, rfl⟩
  rw [← hE] at HFI he ⊢
  rw [← hE1] at HFI HCS
  clear hM hL hQ hLim hT hG hP hE hE1
  go_enter Tryz.func18, Tryz.ntmps18
  go_wp2_with (first
    | (go_at_call 50; refine (HCS.out _ (HT.out.below (by (repeat (first | (with_reducible exact Below.refl _ _) | ((with_reducible refine Below.setCell ?_ ?_ _); rotate_left 1; focus (first | (simp; done) | (simp; omega) | (simp at *; omega))) | ((with_reducible refine Below.alloc ?_ ?_ _); rotate_left 1; focus (first | (simp; done) | (simp; omega) | (simp at *; omega))) | (with_reducible refine Below.drew ?_) | ((with_reducible refine Calm.step (by assumption) ?_ ?_); rotate_left 1; focus (first | (simp; done) | (simp; omega) | (simp at *; omega))))))) (HG.out.below (by (repeat (first | (with_reducible exact Below.refl _ _) | ((with_reducible refine Below.setCell ?_ ?_ _); rotate_left 1; focus (first | (simp; done) | (simp; omega) | (simp at *; omega))) | ((with_reducible refine Below.alloc ?_ ?_ _); rotate_left 1; focus (first | (simp; done) | (simp; omega) | (simp at *; omega))) | (with_reducible refine Below.drew ?_) | ((with_reducible refine Calm.step (by assumption) ?_ ?_); rotate_left 1; focus (first | (simp; done) | (simp; omega) | (simp at *; omega))))))) (HP.out.below (by (repeat (first | (with_reducible exact Below.refl _ _) | ((with_reducible refine Below.setCell ?_ ?_ _); rotate_left 1; focus (first | (simp; done) | (simp; omega) | (simp at *; omega))) | ((with_reducible refine Below.alloc ?_ ?_ _); rotate_left 1; focus (first | (simp; done) | (simp; omega) | (simp at *; omega))) | (with_reducible refine Below.drew ?_) | ((with_reducible refine Calm.step (by assumption) ?_ ?_); rotate_left 1; focus (first | (simp; done) | (simp; omega) | (simp at *; omega)))))))).mono ?_; rintro r w1 ⟨rfl, hb1⟩; have HB1 := Lib.hid (show Below w.heap.size w w1 from Below.trans (by (repeat (first | (with_reducible exact Below.refl _ _) | ((with_reducible refine Below.setCell ?_ ?_ _); rotate_left 1; focus (first | (simp; done) | (simp; omega) | (simp at *; omega))) | ((with_reducible refine Below.alloc ?_ ?_ _); rotate_left 1; focus (first | (simp; done) | (simp; omega) | (simp at *; omega))) | (with_reducible refine Below.drew ?_) | ((with_reducible refine Calm.step (by assumption) ?_ ?_); rotate_left 1; focus (first | (simp; done) | (simp; omega) | (simp at *; omega)))))) (hb1.mono (by simp; omega))); have G1 := Lib.hid (show Blk w1 w.heap.size #[(.int .i64 lk), (.int .i64 ht), .slice A1 M c1, (.int .i64 rc), .slice A2 L c2] from Blk.below (by (repeat (first | ((with_reducible refine Blk.at_ ?_); focus (first | rfl | (simp; done) | (simp; omega))) | (with_reducible refine Blk.alloc ?_ _) | (with_reducible refine Blk.below ?_ (by with_reducible assumption)) | (with_reducible refine Blk.drew ?_)))) hb1); have S1 := Lib.hid (show Blk w1 (w.heap.size + 1) #[(.int .i64 h), (.int .i64 lv), .slice A3 Q c3] from Blk.below (by (repeat (first | ((with_reducible refine Blk.at_ ?_); focus (first | rfl | (simp; done) | (simp; omega))) | (with_reducible refine Blk.alloc ?_ _) | (with_reducible refine Blk.below ?_ (by with_reducible assumption)) | (with_reducible refine Blk.drew ?_)))) hb1); have Z1 := Lib.hid (show Blk w1 (w.heap.size + 1 + 1) #[(.int .i64 0), (.int .i64 0), .slice none 0 0] from Blk.below (by (repeat (first | ((with_reducible refine Blk.at_ ?_); focus (first | rfl | (simp; done) | (simp; omega))) | (with_reducible refine Blk.alloc ?_ _) | (with_reducible refine Blk.below ?_ (by with_reducible assumption)) | (with_reducible refine Blk.drew ?_)))) hb1); have hs1 := HB1.out.size; clear hb1)
    | (go_at_call 51; refine (checkValue_any _ _).mono ?_; rintro r w2 ⟨rfl, rfl⟩)
    | (go_at_call 49; refine (HFI.out _).mono ?_; rintro r w3 ⟨rfl, rfl⟩; have Z3 := Lib.hid (Z1.out.alloc (.cells #[(.int .i64 E1), (.int .i64 (rangeErr y (-2048) 2048))] 27)); obtain ⟨z0, z1, z2, zl, zf⟩ := Z3.out.o3))
  have K := ((Z3.out.set (i := 0) (by simp) (.int .i64 0)).set (i := 1) (by simp) (.int .i64 0)).set (i := 2) (by simp) (.slice none 0 0)
  obtain ⟨k0, k1, k2, _, _⟩ := K.o3
  refine bodyPost_ret (v := .tuple #[.agg #[(.int .i64 0), (.int .i64 0), .slice none 0 0], (.int .i64 0), (.int .i64 E)]) ?_ rfl ⟨rfl, ?_⟩
  · simp [results, Tryz.results18, go_sem, k0, k1, k2]
  · exact (((HB1.out.alloc hs1 _).setCell (by simp <;> omega) _).setCell (by simp <;> omega) _).setCell (by simp <;> omega) _

set_option maxHeartbeats 1000000 in
theorem Step_bad (lk ht rc h lv y : Int) (ts gs ps : List Int) (A1 A2 A3 : Option Addr) (M L Q c1 c2 c3 : Nat) (w : World) (hM : M = ts.length) (hL : L = gs.length) (hQ : Q = ps.length) (hLim : Lim w) (hT : Cells w A1 ts) (hG : Cells w A2 gs) (hP : Cells w A3 ps) (h1 : M ≤ 1000) (h2 : L ≤ 1000) (h3 : Q ≤ 1000) (he : bothErr lk ht rc ts gs h lv ps y ≠ 0) :
    Calls Tryz.prog 24 #[.agg #[(.int .i64 lk), (.int .i64 ht), .slice A1 M c1, (.int .i64 rc), .slice A2 L c2], .agg #[(.int .i64 h), (.int .i64 lv), .slice A3 Q c3], (.int .i64 y)] w fun r w' => r = .returned (.tuple #[(.int .i64 0), .agg #[(.int .i64 0), (.int .i64 0), .slice none 0 0], (.int .i64 (bothErr lk ht rc ts gs h lv ps y))]) ∧ Below w.heap.size w w' := by
  have HCS : Hid (∀ W, Cells W A1 ts → Cells W A2 gs → Cells W A3 ps → Calls Tryz.prog 50 #[.agg #[(.int .i64 lk), (.int .i64 ht), .slice A1 M c1, (.int .i64 rc), .slice A2 L c2], .agg #[(.int .i64 h), (.int .i64 lv), .slice A3 Q c3]] W fun r w' => r = .returned (.int .i64 (stErr lk ht rc ts gs h lv ps)) ∧ Below W.heap.size W w') := Lib.hid (fun W q1 q2 q3 => checkState_any lk ht rc h lv ts gs ps A1 A2 A3 M L Q c1 c2 c3 W hM hL hQ q1 q2 q3 h1 h2 h3)
  have HFI : Hid (∀ W : World, Calls Tryz.prog 49 #[.slice (some ⟨W.heap.size, 0, none⟩) 2 2] (W.alloc (.cells #[(.int .i64 (stErr lk ht rc ts gs h lv ps)), (.int .i64 (rangeErr y (-2048) 2048))] 27)) fun r w' => r = .returned (.int .i64 (bothErr lk ht rc ts gs h lv ps y)) ∧ (W.alloc (.cells #[(.int .i64 (stErr lk ht rc ts gs h lv ps)), (.int .i64 (rangeErr y (-2048) 2048))] 27)) = w') := Lib.hid (fun W => by unfold bothErr; exact first2_new W _ _)
  have HT := Lib.hid hT
  have HG := Lib.hid hG
  have HP := Lib.hid hP
  obtain ⟨E, hE⟩ : ∃ E, E = bothErr lk ht rc ts gs h lv ps y := ⟨_, rfl⟩
  obtain ⟨E1, hE1⟩ : ∃ E, E = stErr lk ht rc ts gs h lv ps := ⟨_, rfl⟩
  rw [← hE] at HFI he ⊢
  rw [← hE1] at HFI HCS
  clear hM hL hQ hLim hT hG hP hE hE1
  go_enter Tryz.func24, Tryz.ntmps24
  go_wp2_with (first
    | (go_at_call 50; refine (HCS.out _ (HT.out.below (by (repeat (first | (with_reducible exact Below.refl _ _) | ((with_reducible refine Below.setCell ?_ ?_ _); rotate_left 1; focus (first | (simp; done) | (simp; omega) | (simp at *; omega))) | ((with_reducible refine Below.alloc ?_ ?_ _); rotate_left 1; focus (first | (simp; done) | (simp; omega) | (simp at *; omega))) | (with_reducible refine Below.drew ?_) | ((with_reducible refine Calm.step (by assumption) ?_ ?_); rotate_left 1; focus (first | (simp; done) | (simp; omega) | (simp at *; omega))))))) (HG.out.below (by (repeat (first | (with_reducible exact Below.refl _ _) | ((with_reducible refine Below.setCell ?_ ?_ _); rotate_left 1; focus (first | (simp; done) | (simp; omega) | (simp at *; omega))) | ((with_reducible refine Below.alloc ?_ ?_ _); rotate_left 1; focus (first | (simp; done) | (simp; omega) | (simp at *; omega))) | (with_reducible refine Below.drew ?_) | ((with_reducible refine Calm.step (by assumption) ?_ ?_); rotate_left 1; focus (first | (simp; done) | (simp; omega) | (simp at *; omega))))))) (HP.out.below (by (repeat (first | (with_reducible exact Below.refl _ _) | ((with_reducible refine Below.setCell ?_ ?_ _); rotate_left 1; focus (first | (simp; done) | (simp; omega) | (simp at *; omega))) | ((with_reducible refine Below.alloc ?_ ?_ _); rotate_left 1; focus (first | (simp; done) | (simp; omega) | (simp at *; omega))) | (with_reducible refine Below.drew ?_) | ((with_reducible refine Calm.step (by assumption) ?_ ?_); rotate_left 1; focus (first | (simp; done) | (simp; omega) | (simp at *; omega)))))))).mono ?_; rintro r w1 ⟨rfl, hb1⟩; have HB1 := Lib.hid (show Below w.heap.size w w1 from Below.trans (by (repeat (first | (with_reducible exact Below.refl _ _) | ((with_reducible refine Below.setCell ?_ ?_ _); rotate_left 1; focus (first | (simp; done) | (simp; omega) | (simp at *; omega))) | ((with_reducible refine Below.alloc ?_ ?_ _); rotate_left 1; focus (first | (simp; done) | (simp; omega) | (simp at *; omega))) | (with_reducible refine Below.drew ?_) | ((with_reducible refine Calm.step (by assumption) ?_ ?_); rotate_left 1; focus (first | (simp; done) | (simp; omega) | (simp at *; omega)))))) (hb1.mono (by simp; omega))); have G1 := Lib.hid (show Blk w1 w.heap.size #[(.int .i64 lk), (.int .i64 ht), .slice A1 M c1, (.int .i64 rc), .slice A2 L c2] from Blk.below (by (repeat (first | ((with_reducible refine Blk.at_ ?_); focus (first | rfl | (simp; done) | (simp; omega))) | (with_reducible refine Blk.alloc ?_ _) | (with_reducible refine Blk.below ?_ (by with_reducible assumption)) | (with_reducible refine Blk.drew ?_)))) hb1); have S1 := Lib.hid (show Blk w1 (w.heap.size + 1) #[(.int .i64 h), (.int .i64 lv), .slice A3 Q c3] from Blk.below (by (repeat (first | ((with_reducible refine Blk.at_ ?_); focus (first | rfl | (simp; done) | (simp; omega))) | (with_reducible refine Blk.alloc ?_ _) | (with_reducible refine Blk.below ?_ (by with_reducible assumption)) | (with_reducible refine Blk.drew ?_)))) hb1); have Z1 := Lib.hid (show Blk w1 (w.heap.size + 1 + 1) #[(.int .i64 0), (.int .i64 0), .slice none 0 0] from Blk.below (by (repeat (first | ((with_reducible refine Blk.at_ ?_); focus (first | rfl | (simp; done) | (simp; omega))) | (with_reducible refine Blk.alloc ?_ _) | (with_reducible refine Blk.below ?_ (by with_reducible assumption)) | (with_reducible refine Blk.drew ?_)))) hb1); have hs1 := HB1.out.size; clear hb1)
    | (go_at_call 51; refine (checkValue_any _ _).mono ?_; rintro r w2 ⟨rfl, rfl⟩)
    | (go_at_call 49; refine (HFI.out _).mono ?_; rintro r w3 ⟨rfl, rfl⟩; have Z3 := Lib.hid (Z1.out.alloc (.cells #[(.int .i64 E1), (.int .i64 (rangeErr y (-2048) 2048))] 27)); obtain ⟨z0, z1, z2, zl, zf⟩ := Z3.out.o3))
  have K := ((Z3.out.set (i := 0) (by simp) (.int .i64 0)).set (i := 1) (by simp) (.int .i64 0)).set (i := 2) (by simp) (.slice none 0 0)
  obtain ⟨k0, k1, k2, _, _⟩ := K.o3
  refine bodyPost_ret (v := .tuple #[(.int .i64 0), .agg #[(.int .i64 0), (.int .i64 0), .slice none 0 0], (.int .i64 E)]) ?_ rfl ⟨rfl, ?_⟩
  · simp [results, Tryz.results24, go_sem, k0, k1, k2]
  · exact (((HB1.out.alloc hs1 _).setCell (by simp <;> omega) _).setCell (by simp <;> omega) _).setCell (by simp <;> omega) _

set_option maxHeartbeats 2000000 in
theorem Behind_large (lk ht rc h lv y : Int) (ts gs ps : List Int) (A1 A2 A3 : Option Addr) (M L Q c1 c2 c3 : Nat) (w : World) (hM : M = ts.length) (hL : L = gs.length) (hQ : Q = ps.length) (hLim : Lim w) (hT : Cells w A1 ts) (hG : Cells w A2 gs) (hP : Cells w A3 ps) (h1 : M ≤ 1000) (h2 : L ≤ 1000) (h3 : Q ≤ 1000) (he : bothErr lk ht rc ts gs h lv ps y = 0) (hlarge : 536870912 < coolF lk h + y * y) :
    Calls Tryz.prog 18 #[.agg #[(.int .i64 lk), (.int .i64 ht), .slice A1 M c1, (.int .i64 rc), .slice A2 L c2], .agg #[(.int .i64 h), (.int .i64 lv), .slice A3 Q c3], (.int .i64 y)] w fun r w' => r = .returned (.tuple #[.agg #[(.int .i64 0), (.int .i64 0), .slice none 0 0], (.int .i64 0), (.int .i64 4)]) ∧ Below w.heap.size w w' := by
  obtain ⟨hst, hy⟩ := bothErr_zero he
  have hS := stErr_zero hst
  have HCS : Hid (∀ W, Cells W A1 ts → Cells W A2 gs → Cells W A3 ps → Calls Tryz.prog 50 #[.agg #[(.int .i64 lk), (.int .i64 ht), .slice A1 M c1, (.int .i64 rc), .slice A2 L c2], .agg #[(.int .i64 h), (.int .i64 lv), .slice A3 Q c3]] W fun r w' => r = .returned (.int .i64 0) ∧ Below W.heap.size W w') := Lib.hid (fun W q1 q2 q3 => by
    have := checkState_any lk ht rc h lv ts gs ps A1 A2 A3 M L Q c1 c2 c3 W hM hL hQ q1 q2 q3 h1 h2 h3
    rwa [hst] at this)
  have HCV : Hid (∀ W, Calls Tryz.prog 51 #[(.int .i64 y)] W fun r w' => r = .returned (.int .i64 0) ∧ W = w') := Lib.hid (fun W => by
    have := checkValue_any y W
    rwa [rangeErr_in hy.1 hy.2] at this)
  have HFI : Hid (∀ W : World, Calls Tryz.prog 49 #[.slice (some ⟨W.heap.size, 0, none⟩) 2 2] (W.alloc (.cells #[(.int .i64 0), (.int .i64 0)] 27)) fun r w' => r = .returned (.int .i64 0) ∧ (W.alloc (.cells #[(.int .i64 0), (.int .i64 0)] 27)) = w') := Lib.hid (fun W => first2_new W 0 0)
  have htl := hS.v.tl
  have hpl := hS.pl
  have hhb := hS.h
  have HBH : Hid (∀ W, Cells W A1 ts → Cells W A3 ps → Calls Tryz.prog 52 #[.agg #[(.int .i64 lk), (.int .i64 ht), .slice A1 M c1, (.int .i64 rc), .slice A2 L c2], .agg #[(.int .i64 h), (.int .i64 lv), .slice A3 Q c3], (.int .i64 y)] W fun r w' => (∃ B, W.heap.size ≤ B.block ∧ r = .returned (.tuple #[.agg #[(.int .i64 (coolF lk h + y * y)), (.int .i64 lv), .slice (some B) Q Q], (.int .i64 (exF ts ps y))]) ∧ Cells w' (some B) (pushL ps y)) ∧ Below W.heap.size W w') := Lib.hid (fun W q1 q2 => by
    rw [hM, hQ]
    exact behind_any lk ht rc h lv y ts ps A1 A2 A3 c1 L c2 c3 W hS.v.lk ⟨hS.h.1, by omega⟩ q1 q2 hS.pl (by omega) hS.v.tb hS.pb hy)
  have HPL : Hid ((pushL ps y).length = Q) := Lib.hid (by rw [pushL_len, hQ])
  have HT := Lib.hid hT
  have HG := Lib.hid hG
  have HP := Lib.hid hP
  obtain ⟨HN, hHN⟩ : ∃ HN, HN = coolF lk h + y * y := ⟨_, rfl⟩
  obtain ⟨EX, hEX⟩ : ∃ EX, EX = exF ts ps y := ⟨_, rfl⟩
  rw [← hHN] at HBH hlarge
  rw [← hEX] at HBH
  obtain ⟨PS, hPS⟩ : ∃ PS, PS = pushL ps y := ⟨_, rfl⟩
  rw [← hPS] at HBH HPL
  clear hM hL hQ hLim hT hG hP he hst hy hS htl hpl hhb hHN hEX hPS
  go_enter Tryz.func18, Tryz.ntmps18
  go_wp2_with (first
    | (go_at_call 50; refine (HCS.out _ (HT.out.below (by (repeat (first | (with_reducible exact Below.refl _ _) | ((with_reducible refine Below.setCell ?_ ?_ _); rotate_left 1; focus (first | (simp; done) | (simp; omega) | (simp at *; omega))) | ((with_reducible refine Below.alloc ?_ ?_ _); rotate_left 1; focus (first | (simp; done) | (simp; omega) | (simp at *; omega))) | (with_reducible refine Below.drew ?_) | ((with_reducible refine Calm.step (by assumption) ?_ ?_); rotate_left 1; focus (first | (simp; done) | (simp; omega) | (simp at *; omega))))))) (HG.out.below (by (repeat (first | (with_reducible exact Below.refl _ _) | ((with_reducible refine Below.setCell ?_ ?_ _); rotate_left 1; focus (first | (simp; done) | (simp; omega) | (simp at *; omega))) | ((with_reducible refine Below.alloc ?_ ?_ _); rotate_left 1; focus (first | (simp; done) | (simp; omega) | (simp at *; omega))) | (with_reducible refine Below.drew ?_) | ((with_reducible refine Calm.step (by assumption) ?_ ?_); rotate_left 1; focus (first | (simp; done) | (simp; omega) | (simp at *; omega))))))) (HP.out.below (by (repeat (first | (with_reducible exact Below.refl _ _) | ((with_reducible refine Below.setCell ?_ ?_ _); rotate_left 1; focus (first | (simp; done) | (simp; omega) | (simp at *; omega))) | ((with_reducible refine Below.alloc ?_ ?_ _); rotate_left 1; focus (first | (simp; done) | (simp; omega) | (simp at *; omega))) | (with_reducible refine Below.drew ?_) | ((with_reducible refine Calm.step (by assumption) ?_ ?_); rotate_left 1; focus (first | (simp; done) | (simp; omega) | (simp at *; omega)))))))).mono ?_; rintro r w1 ⟨rfl, hb1⟩; have HB1 := Lib.hid (show Below w.heap.size w w1 from Below.trans (by (repeat (first | (with_reducible exact Below.refl _ _) | ((with_reducible refine Below.setCell ?_ ?_ _); rotate_left 1; focus (first | (simp; done) | (simp; omega) | (simp at *; omega))) | ((with_reducible refine Below.alloc ?_ ?_ _); rotate_left 1; focus (first | (simp; done) | (simp; omega) | (simp at *; omega))) | (with_reducible refine Below.drew ?_) | ((with_reducible refine Calm.step (by assumption) ?_ ?_); rotate_left 1; focus (first | (simp; done) | (simp; omega) | (simp at *; omega)))))) (hb1.mono (by simp; omega))); have G1 := Lib.hid (show Blk w1 w.heap.size #[(.int .i64 lk), (.int .i64 ht), .slice A1 M c1, (.int .i64 rc), .slice A2 L c2] from Blk.below (by (repeat (first | ((with_reducible refine Blk.at_ ?_); focus (first | rfl | (simp; done) | (simp; omega))) | (with_reducible refine Blk.alloc ?_ _) | (with_reducible refine Blk.below ?_ (by with_reducible assumption)) | (with_reducible refine Blk.drew ?_)))) hb1); have S1 := Lib.hid (show Blk w1 (w.heap.size + 1) #[(.int .i64 h), (.int .i64 lv), .slice A3 Q c3] from Blk.below (by (repeat (first | ((with_reducible refine Blk.at_ ?_); focus (first | rfl | (simp; done) | (simp; omega))) | (with_reducible refine Blk.alloc ?_ _) | (with_reducible refine Blk.below ?_ (by with_reducible assumption)) | (with_reducible refine Blk.drew ?_)))) hb1); have Z1 := Lib.hid (show Blk w1 (w.heap.size + 1 + 1) #[(.int .i64 0), (.int .i64 0), .slice none 0 0] from Blk.below (by (repeat (first | ((with_reducible refine Blk.at_ ?_); focus (first | rfl | (simp; done) | (simp; omega))) | (with_reducible refine Blk.alloc ?_ _) | (with_reducible refine Blk.below ?_ (by with_reducible assumption)) | (with_reducible refine Blk.drew ?_)))) hb1); have hs1 := HB1.out.size; clear hb1)
    | (go_at_call 51; refine (HCV.out _).mono ?_; rintro r w2 ⟨rfl, rfl⟩)
    | (go_at_call 49; refine (HFI.out _).mono ?_; rintro r w3 ⟨rfl, rfl⟩; have Z3 := Lib.hid (Z1.out.alloc (.cells #[(.int .i64 0), (.int .i64 0)] 27)); have G3 := Lib.hid (G1.out.alloc (.cells #[(.int .i64 0), (.int .i64 0)] 27)); have S3 := Lib.hid (S1.out.alloc (.cells #[(.int .i64 0), (.int .i64 0)] 27)); obtain ⟨g0, g1, g2, g3, g4, gl, gf⟩ := G3.out.o5; obtain ⟨s0, s1, s2, sl, sf⟩ := S3.out.o3)
    | (go_at_call 52; refine (HBH.out _ (HT.out.below (HB1.out.alloc hs1 _)) (HP.out.below (HB1.out.alloc hs1 _))).mono ?_; rintro r w4 ⟨⟨B, hBb, rfl, hc4⟩, hb4⟩; have HB4 := Lib.hid ((HB1.out.alloc hs1 _).trans (hb4.mono (by simp; omega))); have Z4 := Lib.hid (Z3.out.below hb4); have HC4 := Lib.hid hc4; have hs4 : w.heap.size ≤ w4.heap.size := HB4.out.size; have hBb2 : w1.heap.size + 1 ≤ B.block := (by simpa using hBb); have zl1 := Z1.out.lt; have Z5 := Lib.hid (Z4.out.alloc (.cells #[(.int .i64 HN), (.int .i64 lv), .slice (some B) Q Q] 45)); obtain ⟨z0, z1, z2, zl, zf⟩ := Z5.out.o3; have zne : ¬ w.heap.size + 1 + 1 = w4.heap.size := (by have := Z4.out.lt; omega); have zne2 : ¬ w4.heap.size = w.heap.size + 1 + 1 := (by omega); clear hb4 hc4 g0 g1 g2 g3 g4 gl gf s0 s1 s2 sl sf))
  have K := ((Z5.out.set (i := 0) (by simp) (.int .i64 0)).set (i := 1) (by simp) (.int .i64 0)).set (i := 2) (by simp) (.slice none 0 0)
  obtain ⟨k0, k1, k2, _, _⟩ := K.o3
  refine bodyPost_ret (v := .tuple #[.agg #[(.int .i64 0), (.int .i64 0), .slice none 0 0], (.int .i64 0), (.int .i64 4)]) ?_ rfl ⟨rfl, ?_⟩
  · simp [results, Tryz.results18, go_sem, k0, k1, k2]
  · exact (((HB4.out.alloc hs4 _).setCell (by simp <;> omega) _).setCell (by simp <;> omega) _).setCell (by simp <;> omega) _

set_option maxHeartbeats 2000000 in
theorem Behind_ok (lk ht rc h lv y : Int) (ts gs ps : List Int) (A1 A2 A3 : Option Addr) (M L Q c1 c2 c3 : Nat) (w : World) (hM : M = ts.length) (hL : L = gs.length) (hQ : Q = ps.length) (hLim : Lim w) (hT : Cells w A1 ts) (hG : Cells w A2 gs) (hP : Cells w A3 ps) (h1 : M ≤ 1000) (h2 : L ≤ 1000) (h3 : Q ≤ 1000) (he : bothErr lk ht rc ts gs h lv ps y = 0) (hlarge : ¬ 536870912 < coolF lk h + y * y) :
    Calls Tryz.prog 18 #[.agg #[(.int .i64 lk), (.int .i64 ht), .slice A1 M c1, (.int .i64 rc), .slice A2 L c2], .agg #[(.int .i64 h), (.int .i64 lv), .slice A3 Q c3], (.int .i64 y)] w fun r w' => (∃ B, w.heap.size ≤ B.block ∧ r = .returned (.tuple #[.agg #[(.int .i64 (coolF lk h + y * y)), (.int .i64 lv), .slice (some B) Q Q], (.int .i64 (exF ts ps y)), (.int .i64 0)]) ∧ Cells w' (some B) (pushL ps y) ∧ IntRow w' B) ∧ Below w.heap.size w w' := by
  obtain ⟨hst, hy⟩ := bothErr_zero he
  have hS := stErr_zero hst
  have HCS : Hid (∀ W, Cells W A1 ts → Cells W A2 gs → Cells W A3 ps → Calls Tryz.prog 50 #[.agg #[(.int .i64 lk), (.int .i64 ht), .slice A1 M c1, (.int .i64 rc), .slice A2 L c2], .agg #[(.int .i64 h), (.int .i64 lv), .slice A3 Q c3]] W fun r w' => r = .returned (.int .i64 0) ∧ Below W.heap.size W w') := Lib.hid (fun W q1 q2 q3 => by
    have := checkState_any lk ht rc h lv ts gs ps A1 A2 A3 M L Q c1 c2 c3 W hM hL hQ q1 q2 q3 h1 h2 h3
    rwa [hst] at this)
  have HCV : Hid (∀ W, Calls Tryz.prog 51 #[(.int .i64 y)] W fun r w' => r = .returned (.int .i64 0) ∧ W = w') := Lib.hid (fun W => by
    have := checkValue_any y W
    rwa [rangeErr_in hy.1 hy.2] at this)
  have HFI : Hid (∀ W : World, Calls Tryz.prog 49 #[.slice (some ⟨W.heap.size, 0, none⟩) 2 2] (W.alloc (.cells #[(.int .i64 0), (.int .i64 0)] 27)) fun r w' => r = .returned (.int .i64 0) ∧ (W.alloc (.cells #[(.int .i64 0), (.int .i64 0)] 27)) = w') := Lib.hid (fun W => first2_new W 0 0)
  have htl := hS.v.tl
  have hpl := hS.pl
  have hhb := hS.h
  have HBH : Hid (∀ W, Cells W A1 ts → Cells W A3 ps → Calls Tryz.prog 52 #[.agg #[(.int .i64 lk), (.int .i64 ht), .slice A1 M c1, (.int .i64 rc), .slice A2 L c2], .agg #[(.int .i64 h), (.int .i64 lv), .slice A3 Q c3], (.int .i64 y)] W fun r w' => (∃ B, W.heap.size ≤ B.block ∧ r = .returned (.tuple #[.agg #[(.int .i64 (coolF lk h + y * y)), (.int .i64 lv), .slice (some B) Q Q], (.int .i64 (exF ts ps y))]) ∧ Cells w' (some B) (pushL ps y) ∧ IntRow w' B) ∧ Below W.heap.size W w') := Lib.hid (fun W q1 q2 => by
    rw [hM, hQ]
    exact behind_typed lk ht rc h lv y ts ps A1 A2 A3 c1 L c2 c3 W hS.v.lk ⟨hS.h.1, by omega⟩ q1 q2 hS.pl (by omega) hS.v.tb hS.pb hy)
  have HPL : Hid ((pushL ps y).length = Q) := Lib.hid (by rw [pushL_len, hQ])
  have HT := Lib.hid hT
  have HG := Lib.hid hG
  have HP := Lib.hid hP
  obtain ⟨HN, hHN⟩ : ∃ HN, HN = coolF lk h + y * y := ⟨_, rfl⟩
  obtain ⟨EX, hEX⟩ : ∃ EX, EX = exF ts ps y := ⟨_, rfl⟩
  rw [← hHN] at HBH hlarge ⊢
  rw [← hEX] at HBH ⊢
  obtain ⟨PS, hPS⟩ : ∃ PS, PS = pushL ps y := ⟨_, rfl⟩
  rw [← hPS] at HBH HPL ⊢
  clear hM hL hQ hLim hT hG hP he hst hy hS htl hpl hhb hHN hEX hPS
  go_enter Tryz.func18, Tryz.ntmps18
  go_wp2_with (first
    | (go_at_call 50; refine (HCS.out _ (HT.out.below (by (repeat (first | (with_reducible exact Below.refl _ _) | ((with_reducible refine Below.setCell ?_ ?_ _); rotate_left 1; focus (first | (simp; done) | (simp; omega) | (simp at *; omega))) | ((with_reducible refine Below.alloc ?_ ?_ _); rotate_left 1; focus (first | (simp; done) | (simp; omega) | (simp at *; omega))) | (with_reducible refine Below.drew ?_) | ((with_reducible refine Calm.step (by assumption) ?_ ?_); rotate_left 1; focus (first | (simp; done) | (simp; omega) | (simp at *; omega))))))) (HG.out.below (by (repeat (first | (with_reducible exact Below.refl _ _) | ((with_reducible refine Below.setCell ?_ ?_ _); rotate_left 1; focus (first | (simp; done) | (simp; omega) | (simp at *; omega))) | ((with_reducible refine Below.alloc ?_ ?_ _); rotate_left 1; focus (first | (simp; done) | (simp; omega) | (simp at *; omega))) | (with_reducible refine Below.drew ?_) | ((with_reducible refine Calm.step (by assumption) ?_ ?_); rotate_left 1; focus (first | (simp; done) | (simp; omega) | (simp at *; omega))))))) (HP.out.below (by (repeat (first | (with_reducible exact Below.refl _ _) | ((with_reducible refine Below.setCell ?_ ?_ _); rotate_left 1; focus (first | (simp; done) | (simp; omega) | (simp at *; omega))) | ((with_reducible refine Below.alloc ?_ ?_ _); rotate_left 1; focus (first | (simp; done) | (simp; omega) | (simp at *; omega))) | (with_reducible refine Below.drew ?_) | ((with_reducible refine Calm.step (by assumption) ?_ ?_); rotate_left 1; focus (first | (simp; done) | (simp; omega) | (simp at *; omega)))))))).mono ?_; rintro r w1 ⟨rfl, hb1⟩; have HB1 := Lib.hid (show Below w.heap.size w w1 from Below.trans (by (repeat (first | (with_reducible exact Below.refl _ _) | ((with_reducible refine Below.setCell ?_ ?_ _); rotate_left 1; focus (first | (simp; done) | (simp; omega) | (simp at *; omega))) | ((with_reducible refine Below.alloc ?_ ?_ _); rotate_left 1; focus (first | (simp; done) | (simp; omega) | (simp at *; omega))) | (with_reducible refine Below.drew ?_) | ((with_reducible refine Calm.step (by assumption) ?_ ?_); rotate_left 1; focus (first | (simp; done) | (simp; omega) | (simp at *; omega)))))) (hb1.mono (by simp; omega))); have G1 := Lib.hid (show Blk w1 w.heap.size #[(.int .i64 lk), (.int .i64 ht), .slice A1 M c1, (.int .i64 rc), .slice A2 L c2] from Blk.below (by (repeat (first | ((with_reducible refine Blk.at_ ?_); focus (first | rfl | (simp; done) | (simp; omega))) | (with_reducible refine Blk.alloc ?_ _) | (with_reducible refine Blk.below ?_ (by with_reducible assumption)) | (with_reducible refine Blk.drew ?_)))) hb1); have S1 := Lib.hid (show Blk w1 (w.heap.size + 1) #[(.int .i64 h), (.int .i64 lv), .slice A3 Q c3] from Blk.below (by (repeat (first | ((with_reducible refine Blk.at_ ?_); focus (first | rfl | (simp; done) | (simp; omega))) | (with_reducible refine Blk.alloc ?_ _) | (with_reducible refine Blk.below ?_ (by with_reducible assumption)) | (with_reducible refine Blk.drew ?_)))) hb1); have Z1 := Lib.hid (show Blk w1 (w.heap.size + 1 + 1) #[(.int .i64 0), (.int .i64 0), .slice none 0 0] from Blk.below (by (repeat (first | ((with_reducible refine Blk.at_ ?_); focus (first | rfl | (simp; done) | (simp; omega))) | (with_reducible refine Blk.alloc ?_ _) | (with_reducible refine Blk.below ?_ (by with_reducible assumption)) | (with_reducible refine Blk.drew ?_)))) hb1); have hs1 := HB1.out.size; clear hb1)
    | (go_at_call 51; refine (HCV.out _).mono ?_; rintro r w2 ⟨rfl, rfl⟩)
    | (go_at_call 49; refine (HFI.out _).mono ?_; rintro r w3 ⟨rfl, rfl⟩; have Z3 := Lib.hid (Z1.out.alloc (.cells #[(.int .i64 0), (.int .i64 0)] 27)); have G3 := Lib.hid (G1.out.alloc (.cells #[(.int .i64 0), (.int .i64 0)] 27)); have S3 := Lib.hid (S1.out.alloc (.cells #[(.int .i64 0), (.int .i64 0)] 27)); obtain ⟨g0, g1, g2, g3, g4, gl, gf⟩ := G3.out.o5; obtain ⟨s0, s1, s2, sl, sf⟩ := S3.out.o3)
    | (go_at_call 52; refine (HBH.out _ (HT.out.below (HB1.out.alloc hs1 _)) (HP.out.below (HB1.out.alloc hs1 _))).mono ?_; rintro r w4 ⟨⟨B, hBb, rfl, hc4, hi4⟩, hb4⟩; have HI4 := Lib.hid hi4; clear hi4; have HB4 := Lib.hid ((HB1.out.alloc hs1 _).trans (hb4.mono (by simp; omega))); have Z4 := Lib.hid (Z3.out.below hb4); have HC4 := Lib.hid hc4; have hs4 : w.heap.size ≤ w4.heap.size := HB4.out.size; have hBb2 : w1.heap.size + 1 ≤ B.block := (by simpa using hBb); have zl1 := Z1.out.lt; have Z5 := Lib.hid (Z4.out.alloc (.cells #[(.int .i64 HN), (.int .i64 lv), .slice (some B) Q Q] 45)); obtain ⟨z0, z1, z2, zl, zf⟩ := Z5.out.o3; have zne : ¬ w.heap.size + 1 + 1 = w4.heap.size := (by have := Z4.out.lt; omega); have zne2 : ¬ w4.heap.size = w.heap.size + 1 + 1 := (by omega); clear hb4 hc4 g0 g1 g2 g3 g4 gl gf s0 s1 s2 sl sf))
  have K := ((Z5.out.set (i := 0) (by simp) (.int .i64 HN)).set (i := 1) (by simp) (.int .i64 lv)).set (i := 2) (by simp) (.slice (some B) Q Q)
  obtain ⟨k0, k1, k2, _, _⟩ := K.o3
  refine bodyPost_ret (v := .tuple #[.agg #[(.int .i64 HN), (.int .i64 lv), .slice (some B) Q Q], (.int .i64 EX), (.int .i64 0)]) ?_ rfl ⟨⟨B, by omega, rfl, ?_, ?_⟩, ?_⟩
  · simp [results, Tryz.results18, go_sem, k0, k1, k2]
  · have hne : 0 < PS.length → ∀ p, some B = some p → p.block ≠ w.heap.size + 1 + 1 := fun _ p hp => by cases hp; omega
    exact (((HC4.out.below ((Below.refl _ _).alloc (Nat.le_refl _) _)).sets hne 0 _).sets hne 1 _).sets hne 2 _
  · have hne : B.block ≠ w.heap.size + 1 + 1 := by omega
    exact (((HI4.out.below ((Below.refl _ _).alloc (Nat.le_refl _) _)).sets hne 0 _).sets hne 1 _).sets hne 2 _
  · exact (((HB4.out.alloc hs4 _).setCell (by simp <;> omega) _).setCell (by simp <;> omega) _).setCell (by simp <;> omega) _
end Go.Proofs.YtdeapbihbhoefaaGreatDoor

/- Contract of Step. -/
namespace Go.Proofs.YtdeapbihbhoefaaGreatDoor
open Go.RowKit
open Calm (bcell Blk)

theorem good_fine {lk ht rc : Int} {ts gs : List Int} {s : St} (hV : Valid lk ht rc ts gs) (hS : Good ht rc ts gs s) : fineF ht rc s.h 0 ts s.ps = true := by
  have h0 := hV.rc.1
  have h1 := hS.h
  unfold fineF
  rw [hS.tf, decide_eq_true h1.2, decide_eq_false (by rw [absI_zero]; omega)]
  rfl
theorem fine_good {lk ht rc h : Int} {lv : Nat} {ts gs ps : List Int} (s : StV lk ht rc ts gs h lv ps) (e : fineF ht rc h 0 ts ps = true) : Good ht rc ts gs ⟨h, lv, ps⟩ := by
  obtain ⟨h1, h2, h3⟩ := fineF_true e
  exact ⟨⟨s.h.1, h1⟩, by have := s.lv.2; show lv < _; omega, s.pl, s.pb, h3⟩

set_option maxHeartbeats 2000000 in
theorem Step_unsafe (lk ht rc h lv y : Int) (ts gs ps : List Int) (A1 A2 A3 : Option Addr) (M L Q c1 c2 c3 : Nat) (w : World) (hM : M = ts.length) (hL : L = gs.length) (hQ : Q = ps.length) (hLim : Lim w) (hT : Cells w A1 ts) (hG : Cells w A2 gs) (hP : Cells w A3 ps) (h1 : M ≤ 1000) (h2 : L ≤ 1000) (h3 : Q ≤ 1000) (he : bothErr lk ht rc ts gs h lv ps y = 0) (hu : fineF ht rc h 0 ts ps = false) :
    Calls Tryz.prog 24 #[.agg #[(.int .i64 lk), (.int .i64 ht), .slice A1 M c1, (.int .i64 rc), .slice A2 L c2], .agg #[(.int .i64 h), (.int .i64 lv), .slice A3 Q c3], (.int .i64 y)] w fun r w' => r = .returned (.tuple #[(.int .i64 0), .agg #[(.int .i64 0), (.int .i64 0), .slice none 0 0], (.int .i64 20)]) ∧ Below w.heap.size w w' := by
  obtain ⟨hst, hy⟩ := bothErr_zero he
  have hS := stErr_zero hst
  have HCS : Hid (∀ W, Cells W A1 ts → Cells W A2 gs → Cells W A3 ps → Calls Tryz.prog 50 #[.agg #[(.int .i64 lk), (.int .i64 ht), .slice A1 M c1, (.int .i64 rc), .slice A2 L c2], .agg #[(.int .i64 h), (.int .i64 lv), .slice A3 Q c3]] W fun r w' => r = .returned (.int .i64 0) ∧ Below W.heap.size W w') := Lib.hid (fun W q1 q2 q3 => by
    have := checkState_any lk ht rc h lv ts gs ps A1 A2 A3 M L Q c1 c2 c3 W hM hL hQ q1 q2 q3 h1 h2 h3
    rwa [hst] at this)
  have HCV : Hid (∀ W, Calls Tryz.prog 51 #[(.int .i64 y)] W fun r w' => r = .returned (.int .i64 0) ∧ W = w') := Lib.hid (fun W => by
    have := checkValue_any y W
    rwa [rangeErr_in hy.1 hy.2] at this)
  have HFI : Hid (∀ W : World, Calls Tryz.prog 49 #[.slice (some ⟨W.heap.size, 0, none⟩) 2 2] (W.alloc (.cells #[(.int .i64 0), (.int .i64 0)] 27)) fun r w' => r = .returned (.int .i64 0) ∧ (W.alloc (.cells #[(.int .i64 0), (.int .i64 0)] 27)) = w') := Lib.hid (fun W => first2_new W 0 0)
  have HSF : Hid (∀ W, Lim W → Cells W A1 ts → Cells W A3 ps → Calls Tryz.prog 53 #[.agg #[(.int .i64 lk), (.int .i64 ht), .slice A1 M c1, (.int .i64 rc), .slice A2 L c2], .agg #[(.int .i64 h), (.int .i64 lv), .slice A3 Q c3]] W fun r w' => r = .returned (.bool false) ∧ Below W.heap.size W w') := Lib.hid (fun W q0 q1 q2 => by
    have := safe_any lk ht rc h lv ts gs ps A1 A2 A3 M L Q c1 c2 c3 W hM hQ q0 hS.v ⟨hS.h.1, by have := hS.h.2; omega⟩ hS.pl hS.pb q1 q2
    rwa [hu] at this)
  have HT := Lib.hid hT
  have HG := Lib.hid hG
  have HP := Lib.hid hP
  have HL := Lib.hid hLim
  clear hM hL hQ hLim hT hG hP he hst hy hS hu
  go_enter Tryz.func24, Tryz.ntmps24
  go_wp2_with (first
    | (go_at_call 50; refine (HCS.out _ (HT.out.below (by (repeat (first | (with_reducible exact Below.refl _ _) | ((with_reducible refine Below.setCell ?_ ?_ _); rotate_left 1; focus (first | (simp; done) | (simp; omega) | (simp at *; omega))) | ((with_reducible refine Below.alloc ?_ ?_ _); rotate_left 1; focus (first | (simp; done) | (simp; omega) | (simp at *; omega))) | (with_reducible refine Below.drew ?_) | ((with_reducible refine Calm.step (by assumption) ?_ ?_); rotate_left 1; focus (first | (simp; done) | (simp; omega) | (simp at *; omega))))))) (HG.out.below (by (repeat (first | (with_reducible exact Below.refl _ _) | ((with_reducible refine Below.setCell ?_ ?_ _); rotate_left 1; focus (first | (simp; done) | (simp; omega) | (simp at *; omega))) | ((with_reducible refine Below.alloc ?_ ?_ _); rotate_left 1; focus (first | (simp; done) | (simp; omega) | (simp at *; omega))) | (with_reducible refine Below.drew ?_) | ((with_reducible refine Calm.step (by assumption) ?_ ?_); rotate_left 1; focus (first | (simp; done) | (simp; omega) | (simp at *; omega))))))) (HP.out.below (by (repeat (first | (with_reducible exact Below.refl _ _) | ((with_reducible refine Below.setCell ?_ ?_ _); rotate_left 1; focus (first | (simp; done) | (simp; omega) | (simp at *; omega))) | ((with_reducible refine Below.alloc ?_ ?_ _); rotate_left 1; focus (first | (simp; done) | (simp; omega) | (simp at *; omega))) | (with_reducible refine Below.drew ?_) | ((with_reducible refine Calm.step (by assumption) ?_ ?_); rotate_left 1; focus (first | (simp; done) | (simp; omega) | (simp at *; omega)))))))).mono ?_; rintro r w1 ⟨rfl, hb1⟩; have HB1 := Lib.hid (show Below w.heap.size w w1 from Below.trans (by (repeat (first | (with_reducible exact Below.refl _ _) | ((with_reducible refine Below.setCell ?_ ?_ _); rotate_left 1; focus (first | (simp; done) | (simp; omega) | (simp at *; omega))) | ((with_reducible refine Below.alloc ?_ ?_ _); rotate_left 1; focus (first | (simp; done) | (simp; omega) | (simp at *; omega))) | (with_reducible refine Below.drew ?_) | ((with_reducible refine Calm.step (by assumption) ?_ ?_); rotate_left 1; focus (first | (simp; done) | (simp; omega) | (simp at *; omega)))))) (hb1.mono (by simp; omega))); have G1 := Lib.hid (show Blk w1 w.heap.size #[(.int .i64 lk), (.int .i64 ht), .slice A1 M c1, (.int .i64 rc), .slice A2 L c2] from Blk.below (by (repeat (first | ((with_reducible refine Blk.at_ ?_); focus (first | rfl | (simp; done) | (simp; omega))) | (with_reducible refine Blk.alloc ?_ _) | (with_reducible refine Blk.below ?_ (by with_reducible assumption)) | (with_reducible refine Blk.drew ?_)))) hb1); have S1 := Lib.hid (show Blk w1 (w.heap.size + 1) #[(.int .i64 h), (.int .i64 lv), .slice A3 Q c3] from Blk.below (by (repeat (first | ((with_reducible refine Blk.at_ ?_); focus (first | rfl | (simp; done) | (simp; omega))) | (with_reducible refine Blk.alloc ?_ _) | (with_reducible refine Blk.below ?_ (by with_reducible assumption)) | (with_reducible refine Blk.drew ?_)))) hb1); have Z1 := Lib.hid (show Blk w1 (w.heap.size + 1 + 1) #[(.int .i64 0), (.int .i64 0), .slice none 0 0] from Blk.below (by (repeat (first | ((with_reducible refine Blk.at_ ?_); focus (first | rfl | (simp; done) | (simp; omega))) | (with_reducible refine Blk.alloc ?_ _) | (with_reducible refine Blk.below ?_ (by with_reducible assumption)) | (with_reducible refine Blk.drew ?_)))) hb1); have hs1 := HB1.out.size; clear hb1)
    | (go_at_call 51; refine (HCV.out _).mono ?_; rintro r w2 ⟨rfl, rfl⟩)
    | (go_at_call 49; refine (HFI.out _).mono ?_; rintro r w3 ⟨rfl, rfl⟩; have Z3 := Lib.hid (Z1.out.alloc (.cells #[(.int .i64 0), (.int .i64 0)] 27)); have G3 := Lib.hid (G1.out.alloc (.cells #[(.int .i64 0), (.int .i64 0)] 27)); have S3 := Lib.hid (S1.out.alloc (.cells #[(.int .i64 0), (.int .i64 0)] 27)); have zl1 := Z1.out.lt; obtain ⟨g0, g1, g2, g3, g4, gl, gf⟩ := G3.out.o5; obtain ⟨s0, s1, s2, sl, sf⟩ := S3.out.o3)
    | (go_at_call 53; refine (HSF.out _ (HL.out.below (HB1.out.alloc hs1 _)) (HT.out.below (HB1.out.alloc hs1 _)) (HP.out.below (HB1.out.alloc hs1 _))).mono ?_; rintro r w4 ⟨rfl, hb4⟩; have HB4 := Lib.hid ((HB1.out.alloc hs1 _).trans (hb4.mono (by simp; omega))); have hs4 : w.heap.size ≤ w4.heap.size := HB4.out.size; have Z4 := Lib.hid (Z3.out.below hb4); have G4 := Lib.hid (G3.out.below hb4); have S4 := Lib.hid (S3.out.below hb4); clear hb4 g0 g1 g2 g3 g4 gl gf s0 s1 s2 sl sf; obtain ⟨g0, g1, g2, g3, g4, gl, gf⟩ := G4.out.o5; obtain ⟨s0, s1, s2, sl, sf⟩ := S4.out.o3; obtain ⟨z0, z1, z2, zl, zf⟩ := Z4.out.o3))
  have K := ((Z4.out.set (i := 0) (by simp) (.int .i64 0)).set (i := 1) (by simp) (.int .i64 0)).set (i := 2) (by simp) (.slice none 0 0)
  obtain ⟨k0, k1, k2, _, _⟩ := K.o3
  refine bodyPost_ret (v := .tuple #[(.int .i64 0), .agg #[(.int .i64 0), (.int .i64 0), .slice none 0 0], (.int .i64 20)]) ?_ rfl ⟨rfl, ?_⟩
  · simp [results, Tryz.results24, go_sem, k0, k1, k2]
  · exact ((HB4.out.setCell (by simp <;> omega) _).setCell (by simp <;> omega) _).setCell (by simp <;> omega) _

set_option maxHeartbeats 2000000 in
theorem Step_ok (lk ht rc h y : Int) (lv : Nat) (ts gs ps : List Int) (A1 A2 A3 : Option Addr) (M L Q c1 c2 c3 : Nat) (w : World) (hM : M = ts.length) (hL : L = gs.length) (hQ : Q = ps.length) (hLim : Lim w) (hT : Cells w A1 ts) (hG : Cells w A2 gs) (hP : Cells w A3 ps) (h1 : M ≤ 1000) (h2 : L ≤ 1000) (h3 : Q ≤ 1000) (he : bothErr lk ht rc ts gs h (lv : Int) ps y = 0) (hu : Good ht rc ts gs ⟨h, lv, ps⟩) :
    Calls Tryz.prog 24 #[.agg #[(.int .i64 lk), (.int .i64 ht), .slice A1 M c1, (.int .i64 rc), .slice A2 L c2], .agg #[(.int .i64 h), (.int .i64 ((lv : Int))), .slice A3 Q c3], (.int .i64 y)] w fun r w' => (∃ B, w.heap.size ≤ B.block ∧ r = .returned (.tuple #[(.int .i64 (outF lk ht rc ts gs ⟨h, lv, ps⟩ y)), .agg #[(.int .i64 ((stF lk ht rc ts gs ⟨h, lv, ps⟩ y).h)), (.int .i64 (((stF lk ht rc ts gs ⟨h, lv, ps⟩ y).lv : Int))), .slice (some B) Q Q], (.int .i64 0)]) ∧ Cells w' (some B) (stF lk ht rc ts gs ⟨h, lv, ps⟩ y).ps ∧ IntRow w' B) ∧ Below w.heap.size w w' := by
  obtain ⟨hst, hy⟩ := bothErr_zero he
  have hS := stErr_zero hst
  have HCS : Hid (∀ W, Cells W A1 ts → Cells W A2 gs → Cells W A3 ps → Calls Tryz.prog 50 #[.agg #[(.int .i64 lk), (.int .i64 ht), .slice A1 M c1, (.int .i64 rc), .slice A2 L c2], .agg #[(.int .i64 h), (.int .i64 ((lv : Int))), .slice A3 Q c3]] W fun r w' => r = .returned (.int .i64 0) ∧ Below W.heap.size W w') := Lib.hid (fun W q1 q2 q3 => by
    have := checkState_any lk ht rc h (lv : Int) ts gs ps A1 A2 A3 M L Q c1 c2 c3 W hM hL hQ q1 q2 q3 h1 h2 h3
    rwa [hst] at this)
  have HCV : Hid (∀ W, Calls Tryz.prog 51 #[(.int .i64 y)] W fun r w' => r = .returned (.int .i64 0) ∧ W = w') := Lib.hid (fun W => by
    have := checkValue_any y W
    rwa [rangeErr_in hy.1 hy.2] at this)
  have HFI : Hid (∀ W : World, Calls Tryz.prog 49 #[.slice (some ⟨W.heap.size, 0, none⟩) 2 2] (W.alloc (.cells #[(.int .i64 0), (.int .i64 0)] 27)) fun r w' => r = .returned (.int .i64 0) ∧ (W.alloc (.cells #[(.int .i64 0), (.int .i64 0)] 27)) = w') := Lib.hid (fun W => first2_new W 0 0)
  have htl := hS.v.tl
  have hgl := hS.v.gl
  have hsafe : fineF ht rc h 0 ts ps = true := good_fine hS.v hu
  have HSF : Hid (∀ W, Lim W → Cells W A1 ts → Cells W A3 ps → Calls Tryz.prog 53 #[.agg #[(.int .i64 lk), (.int .i64 ht), .slice A1 M c1, (.int .i64 rc), .slice A2 L c2], .agg #[(.int .i64 h), (.int .i64 ((lv : Int))), .slice A3 Q c3]] W fun r w' => r = .returned (.bool true) ∧ Below W.heap.size W w') := Lib.hid (fun W q0 q1 q2 => by
    have := safe_any lk ht rc h (lv : Int) ts gs ps A1 A2 A3 M L Q c1 c2 c3 W hM hQ q0 hS.v ⟨hS.h.1, by have := hS.h.2; omega⟩ hS.pl hS.pb q1 q2
    rwa [hsafe] at this)
  obtain ⟨R, hR⟩ : ∃ R, R = stF lk ht rc ts gs ⟨h, lv, ps⟩ y := ⟨_, rfl⟩
  obtain ⟨O, hO⟩ : ∃ O, O = outF lk ht rc ts gs ⟨h, lv, ps⟩ y := ⟨_, rfl⟩
  have HSP : Hid (∀ W, Lim W → Cells W A1 ts → Cells W A2 gs → Cells W A3 ps → Calls Tryz.prog 56 #[.agg #[(.int .i64 lk), (.int .i64 ht), .slice A1 M c1, (.int .i64 rc), .slice A2 L c2], .agg #[(.int .i64 h), (.int .i64 ((lv : Int))), .slice A3 Q c3], (.int .i64 y)] W fun r w' => (∃ B, W.heap.size ≤ B.block ∧ r = .returned (.tuple #[(.int .i64 O), .agg #[(.int .i64 (R.h)), (.int .i64 ((R.lv : Int))), .slice (some B) Q Q]]) ∧ Cells w' (some B) R.ps ∧ IntRow w' B) ∧ Below W.heap.size W w') := Lib.hid (fun W q0 q1 q2 q3 => by
    rw [hM, hL, hQ, hR, hO]
    exact step_typed lk ht rc h y lv ts ps gs A1 A2 A3 c1 c2 c3 W _ q0 hS.v.lk (by have := hS.h; omega) q1 q2 q3 hS.pl (by have := hS.pl; omega) (by omega) (by omega) hu.lv hS.v.tb hS.pb hS.v.gb hy (lvF_some hS.v hu y))
  have HRL : Hid (R.ps.length = Q) := Lib.hid (by rw [hR, hQ]; exact pushL_len _ _)
  rw [← hR, ← hO]
  have HT := Lib.hid hT
  have HG := Lib.hid hG
  have HP := Lib.hid hP
  have HL := Lib.hid hLim
  obtain ⟨RL, hRL⟩ : ∃ RL : Int, RL = (R.lv : Int) := ⟨_, rfl⟩
  obtain ⟨RH, hRH⟩ : ∃ RH : Int, RH = R.h := ⟨_, rfl⟩
  obtain ⟨RP, hRP⟩ : ∃ RP, RP = R.ps := ⟨_, rfl⟩
  rw [← hRL, ← hRH, ← hRP] at HSP ⊢
  rw [← hRP] at HRL
  clear hM hL hQ hLim hT hG hP he hst hy hS hu htl hgl hsafe hR hO hRL hRH hRP
  go_enter Tryz.func24, Tryz.ntmps24
  go_wp2_with (first
    | (go_at_call 50; refine (HCS.out _ (HT.out.below (by (repeat (first | (with_reducible exact Below.refl _ _) | ((with_reducible refine Below.setCell ?_ ?_ _); rotate_left 1; focus (first | (simp; done) | (simp; omega) | (simp at *; omega))) | ((with_reducible refine Below.alloc ?_ ?_ _); rotate_left 1; focus (first | (simp; done) | (simp; omega) | (simp at *; omega))) | (with_reducible refine Below.drew ?_) | ((with_reducible refine Calm.step (by assumption) ?_ ?_); rotate_left 1; focus (first | (simp; done) | (simp; omega) | (simp at *; omega))))))) (HG.out.below (by (repeat (first | (with_reducible exact Below.refl _ _) | ((with_reducible refine Below.setCell ?_ ?_ _); rotate_left 1; focus (first | (simp; done) | (simp; omega) | (simp at *; omega))) | ((with_reducible refine Below.alloc ?_ ?_ _); rotate_left 1; focus (first | (simp; done) | (simp; omega) | (simp at *; omega))) | (with_reducible refine Below.drew ?_) | ((with_reducible refine Calm.step (by assumption) ?_ ?_); rotate_left 1; focus (first | (simp; done) | (simp; omega) | (simp at *; omega))))))) (HP.out.below (by (repeat (first | (with_reducible exact Below.refl _ _) | ((with_reducible refine Below.setCell ?_ ?_ _); rotate_left 1; focus (first | (simp; done) | (simp; omega) | (simp at *; omega))) | ((with_reducible refine Below.alloc ?_ ?_ _); rotate_left 1; focus (first | (simp; done) | (simp; omega) | (simp at *; omega))) | (with_reducible refine Below.drew ?_) | ((with_reducible refine Calm.step (by assumption) ?_ ?_); rotate_left 1; focus (first | (simp; done) | (simp; omega) | (simp at *; omega)))))))).mono ?_; rintro r w1 ⟨rfl, hb1⟩; have HB1 := Lib.hid (show Below w.heap.size w w1 from Below.trans (by (repeat (first | (with_reducible exact Below.refl _ _) | ((with_reducible refine Below.setCell ?_ ?_ _); rotate_left 1; focus (first | (simp; done) | (simp; omega) | (simp at *; omega))) | ((with_reducible refine Below.alloc ?_ ?_ _); rotate_left 1; focus (first | (simp; done) | (simp; omega) | (simp at *; omega))) | (with_reducible refine Below.drew ?_) | ((with_reducible refine Calm.step (by assumption) ?_ ?_); rotate_left 1; focus (first | (simp; done) | (simp; omega) | (simp at *; omega)))))) (hb1.mono (by simp; omega))); have G1 := Lib.hid (show Blk w1 w.heap.size #[(.int .i64 lk), (.int .i64 ht), .slice A1 M c1, (.int .i64 rc), .slice A2 L c2] from Blk.below (by (repeat (first | ((with_reducible refine Blk.at_ ?_); focus (first | rfl | (simp; done) | (simp; omega))) | (with_reducible refine Blk.alloc ?_ _) | (with_reducible refine Blk.below ?_ (by with_reducible assumption)) | (with_reducible refine Blk.drew ?_)))) hb1); have S1 := Lib.hid (show Blk w1 (w.heap.size + 1) #[(.int .i64 h), (.int .i64 ((lv : Int))), .slice A3 Q c3] from Blk.below (by (repeat (first | ((with_reducible refine Blk.at_ ?_); focus (first | rfl | (simp; done) | (simp; omega))) | (with_reducible refine Blk.alloc ?_ _) | (with_reducible refine Blk.below ?_ (by with_reducible assumption)) | (with_reducible refine Blk.drew ?_)))) hb1); have Z1 := Lib.hid (show Blk w1 (w.heap.size + 1 + 1) #[(.int .i64 0), (.int .i64 0), .slice none 0 0] from Blk.below (by (repeat (first | ((with_reducible refine Blk.at_ ?_); focus (first | rfl | (simp; done) | (simp; omega))) | (with_reducible refine Blk.alloc ?_ _) | (with_reducible refine Blk.below ?_ (by with_reducible assumption)) | (with_reducible refine Blk.drew ?_)))) hb1); have hs1 := HB1.out.size; clear hb1)
    | (go_at_call 51; refine (HCV.out _).mono ?_; rintro r w2 ⟨rfl, rfl⟩)
    | (go_at_call 49; refine (HFI.out _).mono ?_; rintro r w3 ⟨rfl, rfl⟩; have Z3 := Lib.hid (Z1.out.alloc (.cells #[(.int .i64 0), (.int .i64 0)] 27)); have G3 := Lib.hid (G1.out.alloc (.cells #[(.int .i64 0), (.int .i64 0)] 27)); have S3 := Lib.hid (S1.out.alloc (.cells #[(.int .i64 0), (.int .i64 0)] 27)); have zl1 := Z1.out.lt; obtain ⟨g0, g1, g2, g3, g4, gl, gf⟩ := G3.out.o5; obtain ⟨s0, s1, s2, sl, sf⟩ := S3.out.o3)
    | (go_at_call 53; refine (HSF.out _ (HL.out.below (HB1.out.alloc hs1 _)) (HT.out.below (HB1.out.alloc hs1 _)) (HP.out.below (HB1.out.alloc hs1 _))).mono ?_; rintro r w4 ⟨rfl, hb4⟩; have HB4 := Lib.hid ((HB1.out.alloc hs1 _).trans (hb4.mono (by simp; omega))); have hs4 : w.heap.size ≤ w4.heap.size := HB4.out.size; have Z4 := Lib.hid (Z3.out.below hb4); have G4 := Lib.hid (G3.out.below hb4); have S4 := Lib.hid (S3.out.below hb4); clear hb4 g0 g1 g2 g3 g4 gl gf s0 s1 s2 sl sf; obtain ⟨g0, g1, g2, g3, g4, gl, gf⟩ := G4.out.o5; obtain ⟨s0, s1, s2, sl, sf⟩ := S4.out.o3; obtain ⟨z0, z1, z2, zl, zf⟩ := Z4.out.o3)
    | (go_at_call 56; refine (HSP.out _ (HL.out.below HB4.out) (HT.out.below HB4.out) (HG.out.below HB4.out) (HP.out.below HB4.out)).mono ?_; rintro r w5 ⟨⟨B, hBb, rfl, hc5, hi5⟩, hb5⟩; have HI5 := Lib.hid hi5; clear hi5; have HB5 := Lib.hid (HB4.out.trans (hb5.mono hs4)); have Z5 := Lib.hid (Z4.out.below hb5); have HC5 := Lib.hid hc5; have hs5 : w.heap.size ≤ w5.heap.size := HB5.out.size; have Z6 := Lib.hid (Z5.out.alloc (.cells #[(.int .i64 RH), (.int .i64 RL), .slice (some B) Q Q] 45)); clear hb5 hc5 g0 g1 g2 g3 g4 gl gf s0 s1 s2 sl sf z0 z1 z2 zl zf))
  refine name_world ?_
  intro w6 e6
  have hb56 : Below w5.heap.size w5 w6 := by rw [e6]; exact (Below.refl _ _).alloc (Nat.le_refl _) _
  have Z7 : Blk w6 (w.heap.size + 1 + 1) #[(.int .i64 0), (.int .i64 0), .slice none 0 0] := by rw [e6]; exact Z6.out
  have N7 : Blk w6 w5.heap.size #[(.int .i64 RH), (.int .i64 RL), .slice (some B) Q Q] := by rw [e6]; exact Blk.new _ _ _
  have HB6 := Lib.hid (HB5.out.trans (hb56.mono hs5))
  have HC6 := Lib.hid (HC5.out.below hb56)
  have HI6 := Lib.hid (HI5.out.below hb56)
  have HZ7 := Lib.hid Z7
  obtain ⟨n0, n1, n2, nl, nf⟩ := N7.o3
  obtain ⟨z0, z1, z2, zl, zf⟩ := Z7.o3
  clear e6 hb56 Z7 N7
  (try simp only [Act.put, List.setIfInBounds_toArray, List.set_cons_zero, List.set_cons_succ])
  refine Rel.region3 3 (by kernel_rfl) (by kernel_rfl) (by kernel_rfl) ?_
  simp only [List.take_succ_cons, List.take_zero, List.drop_succ_cons, List.drop_zero, List.filterMap_cons, List.filterMap_nil]
  iterate 3 (apply Rel.op3; (focus (first | exact Rel.gno rfl | exact Rel.gyes _ true _ rfl rfl rfl | exact Rel.gyes _ false _ rfl rfl rfl)); (focus (intro a W hb hd hbase; obtain ⟨hc, hf⟩ := bcell hb; clear hb hf; simp [Rel.deps, Rel.dep1, Rel.ons, Region.binds, Act.eval] at hd; simp only [Act.eval, List.mem_cons, List.not_mem_nil, not_or, and_imp, or_false, Array.getD_eq_getD_getElem?] at hbase; go_simp; (try go_bits); (try rfl); done)); (try simp only [List.nil_append, List.cons_append]))
  refine Rel.done3 ?_
  intro x w7 hb7 hx
  simp only [Rel.facts, Nat.zero_add, Nat.reduceAdd] at hx
  obtain ⟨e0, e1, e2, _⟩ := hx
  simp only [Rel.fill, Nat.zero_add, Nat.reduceAdd, e0, e1, e2]
  simp only [Act.put, List.setIfInBounds_toArray, List.set_cons_zero, List.set_cons_succ]
  clear e0 e1 e2
  have HB7 := Lib.hid (HB6.out.trans (hb7.mono HB6.out.size))
  have HC7 := Lib.hid (HC6.out.below hb7)
  have HI7 := Lib.hid (HI6.out.below hb7)
  have Z8 := Lib.hid (HZ7.out.below hb7)
  have hs7 := hb7.size
  clear hb7 n0 n1 n2 nl nf z0 z1 z2 zl zf
  obtain ⟨z0, z1, z2, zl, zf⟩ := Z8.out.o3
  go_wp2
  have K := ((Z8.out.set (i := 0) (by simp) (.int .i64 RH)).set (i := 1) (by simp) (.int .i64 RL)).set (i := 2) (by simp) (.slice (some B) Q Q)
  obtain ⟨k0, k1, k2, _, _⟩ := K.o3
  have zl4 := Z4.out.lt
  have hne : 0 < RP.length → ∀ p, some B = some p → p.block ≠ w.heap.size + 1 + 1 := fun _ p hp => by cases hp; omega
  refine bodyPost_ret (v := .tuple #[(.int .i64 O), .agg #[(.int .i64 RH), (.int .i64 RL), .slice (some B) Q Q], (.int .i64 0)]) ?_ rfl ⟨⟨B, by omega, rfl, ?_, ?_⟩, ?_⟩
  · simp [results, Tryz.results24, go_sem, k0, k1, k2]
  · exact ((HC7.out.sets hne 0 _).sets hne 1 _).sets hne 2 _
  · have hne2 : B.block ≠ w.heap.size + 1 + 1 := by omega
    exact ((HI7.out.sets hne2 0 _).sets hne2 1 _).sets hne2 2 _
  · exact ((HB7.out.setCell (by simp <;> omega) _).setCell (by simp <;> omega) _).setCell (by simp <;> omega) _
end Go.Proofs.YtdeapbihbhoefaaGreatDoor
