/- Part 13 of the texts of the claim: Y5, Y6. -/
import Derived.Test.YtdeapbihbhoefaaGreatDoorMt12

/- Contract of Step. -/
namespace Go.Proofs.YtdeapbihbhoefaaGreatDoor
open Go.RowKit
open Calm (bcell Blk)

theorem good_fine {lk ht rc : Int} {ts gs : List Int} {s : St} (hV : Valid lk ht rc ts gs) (hS : Good ht rc ts gs s) : fineF ht rc s.h 0 ts s.ps = true := by
  have h0 := hV.rc.1
  have h1 := hS.h
  unfold fineF
  rw [hS.tf, decide_eq_true h1.2, decide_eq_false (by rw [absI_zero]; omega)]
  rfl
theorem fine_good {lk ht rc h : Int} {lv : Nat} {ts gs ps : List Int} (s : StV lk ht rc ts gs h lv ps) (e : fineF ht rc h 0 ts ps = true) : Good ht rc ts gs ⟨h, lv, ps⟩ := by
  obtain ⟨h1, h2, h3⟩ := fineF_true e
  exact ⟨⟨s.h.1, h1⟩, by have := s.lv.2; show lv < _; omega, s.pl, s.pb, h3⟩

set_option maxHeartbeats 2000000 in
theorem Step_unsafe (lk ht rc h lv y : Int) (ts gs ps : List Int) (A1 A2 A3 : Option Addr) (M L Q c1 c2 c3 : Nat) (w : World) (hM : M = ts.length) (hL : L = gs.length) (hQ : Q = ps.length) (hLim : Lim w) (hT : Cells w A1 ts) (hG : Cells w A2 gs) (hP : Cells w A3 ps) (h1 : M ≤ 1000) (h2 : L ≤ 1000) (h3 : Q ≤ 1000) (he : bothErr lk ht rc ts gs h lv ps y = 0) (hu : fineF ht rc h 0 ts ps = false) :
    Calls Tryz.prog 24 #[.agg #[(.int .i64 lk), (.int .i64 ht), .slice A1 M c1, (.int .i64 rc), .slice A2 L c2], .agg #[(.int .i64 h), (.int .i64 lv), .slice A3 Q c3], (.int .i64 y)] w fun r w' => r = .returned (.tuple #[(.int .i64 0), .agg #[(.int .i64 0), (.int .i64 0), .slice none 0 0], (.int .i64 20)]) ∧ Below w.heap.size w w' := by
  obtain ⟨hst, hy⟩ := bothErr_zero he
  have hS := stErr_zero hst
  have HCS : Hid (∀ W, Cells W A1 ts → Cells W A2 gs → Cells W A3 ps → Calls Tryz.prog 50 #[.agg #[(.int .i64 lk), (.int .i64 ht), .slice A1 M c1, (.int .i64 rc), .slice A2 L c2], .agg #[(.int .i64 h), (.int .i64 lv), .slice A3 Q c3]] W fun r w' => r = .returned (.int .i64 0) ∧ Below W.heap.size W w') := Lib.hid (fun W q1 q2 q3 => by
    have := checkState_any lk ht rc h lv ts gs ps A1 A2 A3 M L Q c1 c2 c3 W hM hL hQ q1 q2 q3 h1 h2 h3
    rwa [hst] at this)
  have HCV : Hid (∀ W, Calls Tryz.prog 51 #[(.int .i64 y)] W fun r w' => r = .returned (.int .i64 0) ∧ W = w') := Lib.hid (fun W => by
    have := checkValue_any y W
    rwa [rangeErr_in hy.1 hy.2] at this)
  have HFI : Hid (∀ W : World, Calls Tryz.prog 49 #[.slice (some ⟨W.heap.size, 0, none⟩) 2 2] (W.alloc (.cells #[(.int .i64 0), (.int .i64 0)] 27)) fun r w' => r = .returned (.int .i64 0) ∧ (W.alloc (.cells #[(.int .i64 0), (.int .i64 0)] 27)) = w') := Lib.hid (fun W => first2_new W 0 0)
  have HSF : Hid (∀ W, Lim W → Cells W A1 ts → Cells W A3 ps → Calls Tryz.prog 53 #[.agg #[(.int .i64 lk), (.int .i64 ht), .slice A1 M c1, (.int .i64 rc), .slice A2 L c2], .agg #[(.int .i64 h), (.int .i64 lv), .slice A3 Q c3]] W fun r w' => r = .returned (.bool false) ∧ Below W.heap.size W w') := Lib.hid (fun W q0 q1 q2 => by
    have := safe_any lk ht rc h lv ts gs ps A1 A2 A3 M L Q c1 c2 c3 W hM hQ q0 hS.v ⟨hS.h.1, by have := hS.h.2; omega⟩ hS.pl hS.pb q1 q2
    rwa [hu] at this)
  have HT := Lib.hid hT
  have HG := Lib.hid hG
  have HP := Lib.hid hP
  have HL := Lib.hid hLim
  clear hM hL hQ hLim hT hG hP he hst hy hS hu
  go_enter Tryz.func24, Tryz.ntmps24
  go_wp2_with (first
    | (go_at_call 50; refine (HCS.out _ (HT.out.below (by (repeat (first | (with_reducible exact Below.refl _ _) | ((with_reducible refine Below.setCell ?_ ?_ _); rotate_left 1; focus (first | (simp; done) | (simp; omega) | (simp at *; omega))) | ((with_reducible refine Below.alloc ?_ ?_ _); rotate_left 1; focus (first | (simp; done) | (simp; omega) | (simp at *; omega))) | (with_reducible refine Below.drew ?_) | ((with_reducible refine Calm.step (by assumption) ?_ ?_); rotate_left 1; focus (first | (simp; done) | (simp; omega) | (simp at *; omega))))))) (HG.out.below (by (repeat (first | (with_reducible exact Below.refl _ _) | ((with_reducible refine Below.setCell ?_ ?_ _); rotate_left 1; focus (first | (simp; done) | (simp; omega) | (simp at *; omega))) | ((with_reducible refine Below.alloc ?_ ?_ _); rotate_left 1; focus (first | (simp; done) | (simp; omega) | (simp at *; omega))) | (with_reducible refine Below.drew ?_) | ((with_reducible refine Calm.step (by assumption) ?_ ?_); rotate_left 1; focus (first | (simp; done) | (simp; omega) | (simp at *; omega))))))) (HP.out.below (by (repeat (first | (with_reducible exact Below.refl _ _) | ((with_reducible refine Below.setCell ?_ ?_ _); rotate_left 1; focus (first | (simp; done) | (simp; omega) | (simp at *; omega))) | ((with_reducible refine Below.alloc ?_ ?_ _); rotate_left 1; focus (first | (simp; done) | (simp; omega) | (simp at *; omega))) | (with_reducible refine Below.drew ?_) | ((with_reducible refine Calm.step (by assumption) ?_ ?_); rotate_left 1; focus (first | (simp; done) | (simp; omega) | (simp at *; omega)))))))).mono ?_; rintro r w1 ⟨rfl, hb1⟩; have HB1 := Lib.hid (show Below w.heap.size w w1 from Below.trans (by (repeat (first | (with_reducible exact Below.refl _ _) | ((with_reducible refine Below.setCell ?_ ?_ _); rotate_left 1; focus (first | (simp; done) | (simp; omega) | (simp at *; omega))) | ((with_reducible refine Below.alloc ?_ ?_ _); rotate_left 1; focus (first | (simp; done) | (simp; omega) | (simp at *; omega))) | (with_reducible refine Below.drew ?_) | ((with_reducible refine Calm.step (by assumption) ?_ ?_); rotate_left 1; focus (first | (simp; done) | (simp; omega) | (simp at *; omega)))))) (hb1.mono (by simp; omega))); have G1 := Lib.hid (show Blk w1 w.heap.size #[(.int .i64 lk), (.int .i64 ht), .slice A1 M c1, (.int .i64 rc), .slice A2 L c2] from Blk.below (by (repeat (first | ((with_reducible refine Blk.at_ ?_); focus (first | rfl | (simp; done) | (simp; omega))) | (with_reducible refine Blk.alloc ?_ _) | (with_reducible refine Blk.below ?_ (by with_reducible assumption)) | (with_reducible refine Blk.drew ?_)))) hb1); have S1 := Lib.hid (show Blk w1 (w.heap.size + 1) #[(.int .i64 h), (.int .i64 lv), .slice A3 Q c3] from Blk.below (by (repeat (first | ((with_reducible refine Blk.at_ ?_); focus (first | rfl | (simp; done) | (simp; omega))) | (with_reducible refine Blk.alloc ?_ _) | (with_reducible refine Blk.below ?_ (by with_reducible assumption)) | (with_reducible refine Blk.drew ?_)))) hb1); have Z1 := Lib.hid (show Blk w1 (w.heap.size + 1 + 1) #[(.int .i64 0), (.int .i64 0), .slice none 0 0] from Blk.below (by (repeat (first | ((with_reducible refine Blk.at_ ?_); focus (first | rfl | (simp; done) | (simp; omega))) | (with_reducible refine Blk.alloc ?_ _) | (with_reducible refine Blk.below ?_ (by with_reducible assumption)) | (with_reducible refine Blk.drew ?_)))) hb1); have hs1 := HB1.out.size; clear hb1)
    | (go_at_call 51; refine (HCV.out _).mono ?_; rintro r w2 ⟨rfl, rfl⟩)
    | (go_at_call 49; refine (HFI.out _).mono ?_; rintro r w3 ⟨rfl, rfl⟩; have Z3 := Lib.hid (Z1.out.alloc (.cells #[(.int .i64 0), (.int .i64 0)] 27)); have G3 := Lib.hid (G1.out.alloc (.cells #[(.int .i64 0), (.int .i64 0)] 27)); have S3 := Lib.hid (S1.out.alloc (.cells #[(.int .i64 0), (.int .i64 0)] 27)); have zl1 := Z1.out.lt; obtain ⟨g0, g1, g2, g3, g4, gl, gf⟩ := G3.out.o5; obtain ⟨s0, s1, s2, sl, sf⟩ := S3.out.o3)
    | (go_at_call 53; refine (HSF.out _ (HL.out.below (HB1.out.alloc hs1 _)) (HT.out.below (HB1.out.alloc hs1 _)) (HP.out.below (HB1.out.alloc hs1 _))).mono ?_; rintro r w4 ⟨rfl, hb4⟩; have HB4 := Lib.hid ((HB1.out.alloc hs1 _).trans (hb4.mono (by simp; omega))); have hs4 : w.heap.size ≤ w4.heap.size := HB4.out.size; have Z4 := Lib.hid (Z3.out.below hb4); have G4 := Lib.hid (G3.out.below hb4); have S4 := Lib.hid (S3.out.below hb4); clear hb4 g0 g1 g2 g3 g4 gl gf s0 s1 s2 sl sf; obtain ⟨g0, g1, g2, g3, g4, gl, gf⟩ := G4.out.o5; obtain ⟨s0, s1, s2, sl, sf⟩ := S4.out.o3; obtain ⟨z0, z1, z2, zl, zf⟩ := Z4.out.o3))
  have K := ((Z4.out.set (i := 0) (by simp) (.int .i64 0)).set (i := 1) (by simp) (.int .i64 0)).set (i := 2) (by simp) (.slice none 0 0)
  obtain ⟨k0, k1, k2, _, _⟩ := K.o3
  refine bodyPost_ret (v := .tuple #[(.int .i64 0), .agg #[(.int .i64 0), (.int .i64 0), .slice none 0 0], (.int .i64 20)]) ?_ rfl ⟨rfl, ?_⟩
  · simp [results, Tryz.results24, go_sem, k0, k1, k2]
  · exact ((HB4.out.setCell (by simp <;> omega) _).setCell (by simp <;> omega) _).setCell (by simp <;> omega) _

set_option maxHeartbeats 2000000 in
theorem Step_ok (lk ht rc h y : Int) (lv : Nat) (ts gs ps : List Int) (A1 A2 A3 : Option Addr) (M L Q c1 c2 c3 : Nat) (w : World) (hM : M = ts.length) (hL : L = gs.length) (hQ : Q = ps.length) (hLim : Lim w) (hT : Cells w A1 ts) (hG : Cells w A2 gs) (hP : Cells w A3 ps) (h1 : M ≤ 1000) (h2 : L ≤ 1000) (h3 : Q ≤ 1000) (he : bothErr lk ht rc ts gs h (lv : Int) ps y = 0) (hu : Good ht rc ts gs ⟨h, lv, ps⟩) :
    Calls Tryz.prog 24 #[.agg #[(.int .i64 lk), (.int .i64 ht), .slice A1 M c1, (.int .i64 rc), .slice A2 L c2], .agg #[(.int .i64 h), (.int .i64 ((lv : Int))), .slice A3 Q c3], (.int .i64 y)] w fun r w' => (∃ B, w.heap.size ≤ B.block ∧ r = .returned (.tuple #[(.int .i64 (outF lk ht rc ts gs ⟨h, lv, ps⟩ y)), .agg #[(.int .i64 ((stF lk ht rc ts gs ⟨h, lv, ps⟩ y).h)), (.int .i64 (((stF lk ht rc ts gs ⟨h, lv, ps⟩ y).lv : Int))), .slice (some B) Q Q], (.int .i64 0)]) ∧ Cells w' (some B) (stF lk ht rc ts gs ⟨h, lv, ps⟩ y).ps ∧ IntRow w' B) ∧ Below w.heap.size w w' := by
  obtain ⟨hst, hy⟩ := bothErr_zero he
  have hS := stErr_zero hst
  have HCS : Hid (∀ W, Cells W A1 ts → Cells W A2 gs → Cells W A3 ps → Calls Tryz.prog 50 #[.agg #[(.int .i64 lk), (.int .i64 ht), .slice A1 M c1, (.int .i64 rc), .slice A2 L c2], .agg #[(.int .i64 h), (.int .i64 ((lv : Int))), .slice A3 Q c3]] W fun r w' => r = .returned (.int .i64 0) ∧ Below W.heap.size W w') := Lib.hid (fun W q1 q2 q3 => by
    have := checkState_any lk ht rc h (lv : Int) ts gs ps A1 A2 A3 M L Q c1 c2 c3 W hM hL hQ q1 q2 q3 h1 h2 h3
    rwa [hst] at this)
  have HCV : Hid (∀ W, Calls Tryz.prog 51 #[(.int .i64 y)] W fun r w' => r = .returned (.int .i64 0) ∧ W = w') := Lib.hid (fun W => by
    have := checkValue_any y W
    rwa [rangeErr_in hy.1 hy.2] at this)
  have HFI : Hid (∀ W : World, Calls Tryz.prog 49 #[.slice (some ⟨W.heap.size, 0, none⟩) 2 2] (W.alloc (.cells #[(.int .i64 0), (.int .i64 0)] 27)) fun r w' => r = .returned (.int .i64 0) ∧ (W.alloc (.cells #[(.int .i64 0), (.int .i64 0)] 27)) = w') := Lib.hid (fun W => first2_new W 0 0)
  have htl := hS.v.tl
  have hgl := hS.v.gl
  have hsafe : fineF ht rc h 0 ts ps = true := good_fine hS.v hu
  have HSF : Hid (∀ W, Lim W → Cells W A1 ts → Cells W A3 ps → Calls Tryz.prog 53 #[.agg #[(.int .i64 lk), (.int .i64 ht), .slice A1 M c1, (.int .i64 rc), .slice A2 L c2], .agg #[(.int .i64 h), (.int .i64 ((lv : Int))), .slice A3 Q c3]] W fun r w' => r = .returned (.bool true) ∧ Below W.heap.size W w') := Lib.hid (fun W q0 q1 q2 => by
    have := safe_any lk ht rc h (lv : Int) ts gs ps A1 A2 A3 M L Q c1 c2 c3 W hM hQ q0 hS.v ⟨hS.h.1, by have := hS.h.2; omega⟩ hS.pl hS.pb q1 q2
    rwa [hsafe] at this)
  obtain ⟨R, hR⟩ : ∃ R, R = stF lk ht rc ts gs ⟨h, lv, ps⟩ y := ⟨_, rfl⟩
  obtain ⟨O, hO⟩ : ∃ O, O = outF lk ht rc ts gs ⟨h, lv, ps⟩ y := ⟨_, rfl⟩
  have HSP : Hid (∀ W, Lim W → Cells W A1 ts → Cells W A2 gs → Cells W A3 ps → Calls Tryz.prog 56 #[.agg #[(.int .i64 lk), (.int .i64 ht), .slice A1 M c1, (.int .i64 rc), .slice A2 L c2], .agg #[(.int .i64 h), (.int .i64 ((lv : Int))), .slice A3 Q c3], (.int .i64 y)] W fun r w' => (∃ B, W.heap.size ≤ B.block ∧ r = .returned (.tuple #[(.int .i64 O), .agg #[(.int .i64 (R.h)), (.int .i64 ((R.lv : Int))), .slice (some B) Q Q]]) ∧ Cells w' (some B) R.ps ∧ IntRow w' B) ∧ Below W.heap.size W w') := Lib.hid (fun W q0 q1 q2 q3 => by
    rw [hM, hL, hQ, hR, hO]
    exact step_typed lk ht rc h y lv ts ps gs A1 A2 A3 c1 c2 c3 W _ q0 hS.v.lk (by have := hS.h; omega) q1 q2 q3 hS.pl (by have := hS.pl; omega) (by omega) (by omega) hu.lv hS.v.tb hS.pb hS.v.gb hy (lvF_some hS.v hu y))
  have HRL : Hid (R.ps.length = Q) := Lib.hid (by rw [hR, hQ]; exact pushL_len _ _)
  rw [← hR, ← hO]
  have HT := Lib.hid hT
  have HG := Lib.hid hG
  have HP := Lib.hid hP
  have HL := Lib.hid hLim
  obtain ⟨RL, hRL⟩ : ∃ RL : Int, RL = (R.lv : Int) := ⟨_, rfl⟩
  obtain ⟨RH, hRH⟩ : ∃ RH : Int, RH = R.h := ⟨_, rfl⟩
  obtain ⟨RP, hRP⟩ : ∃ RP, RP = R.ps := ⟨_, rfl⟩
  rw [← hRL, ← hRH, ← hRP] at HSP ⊢
  rw [← hRP] at HRL
  clear hM hL hQ hLim hT hG hP he hst hy hS hu htl hgl hsafe hR hO hRL hRH hRP
  go_enter Tryz.func24, Tryz.ntmps24
  go_wp2_with (first
    | (go_at_call 50; refine (HCS.out _ (HT.out.below (by (repeat (first | (with_reducible exact Below.refl _ _) | ((with_reducible refine Below.setCell ?_ ?_ _); rotate_left 1; focus (first | (simp; done) | (simp; omega) | (simp at *; omega))) | ((with_reducible refine Below.alloc ?_ ?_ _); rotate_left 1; focus (first | (simp; done) | (simp; omega) | (simp at *; omega))) | (with_reducible refine Below.drew ?_) | ((with_reducible refine Calm.step (by assumption) ?_ ?_); rotate_left 1; focus (first | (simp; done) | (simp; omega) | (simp at *; omega))))))) (HG.out.below (by (repeat (first | (with_reducible exact Below.refl _ _) | ((with_reducible refine Below.setCell ?_ ?_ _); rotate_left 1; focus (first | (simp; done) | (simp; omega) | (simp at *; omega))) | ((with_reducible refine Below.alloc ?_ ?_ _); rotate_left 1; focus (first | (simp; done) | (simp; omega) | (simp at *; omega))) | (with_reducible refine Below.drew ?_) | ((with_reducible refine Calm.step (by assumption) ?_ ?_); rotate_left 1; focus (first | (simp; done) | (simp; omega) | (simp at *; omega))))))) (HP.out.below (by (repeat (first | (with_reducible exact Below.refl _ _) | ((with_reducible refine Below.setCell ?_ ?_ _); rotate_left 1; focus (first | (simp; done) | (simp; omega) | (simp at *; omega))) | ((with_reducible refine Below.alloc ?_ ?_ _); rotate_left 1; focus (first | (simp; done) | (simp; omega) | (simp at *; omega))) | (with_reducible refine Below.drew ?_) | ((with_reducible refine Calm.step (by assumption) ?_ ?_); rotate_left 1; focus (first | (simp; done) | (simp; omega) | (simp at *; omega)))))))).mono ?_; rintro r w1 ⟨rfl, hb1⟩; have HB1 := Lib.hid (show Below w.heap.size w w1 from Below.trans (by (repeat (first | (with_reducible exact Below.refl _ _) | ((with_reducible refine Below.setCell ?_ ?_ _); rotate_left 1; focus (first | (simp; done) | (simp; omega) | (simp at *; omega))) | ((with_reducible refine Below.alloc ?_ ?_ _); rotate_left 1; focus (first | (simp; done) | (simp; omega) | (simp at *; omega))) | (with_reducible refine Below.drew ?_) | ((with_reducible refine Calm.step (by assumption) ?_ ?_); rotate_left 1; focus (first | (simp; done) | (simp; omega) | (simp at *; omega)))))) (hb1.mono (by simp; omega))); have G1 := Lib.hid (show Blk w1 w.heap.size #[(.int .i64 lk), (.int .i64 ht), .slice A1 M c1, (.int .i64 rc), .slice A2 L c2] from Blk.below (by (repeat (first | ((with_reducible refine Blk.at_ ?_); focus (first | rfl | (simp; done) | (simp; omega))) | (with_reducible refine Blk.alloc ?_ _) | (with_reducible refine Blk.below ?_ (by with_reducible assumption)) | (with_reducible refine Blk.drew ?_)))) hb1); have S1 := Lib.hid (show Blk w1 (w.heap.size + 1) #[(.int .i64 h), (.int .i64 ((lv : Int))), .slice A3 Q c3] from Blk.below (by (repeat (first | ((with_reducible refine Blk.at_ ?_); focus (first | rfl | (simp; done) | (simp; omega))) | (with_reducible refine Blk.alloc ?_ _) | (with_reducible refine Blk.below ?_ (by with_reducible assumption)) | (with_reducible refine Blk.drew ?_)))) hb1); have Z1 := Lib.hid (show Blk w1 (w.heap.size + 1 + 1) #[(.int .i64 0), (.int .i64 0), .slice none 0 0] from Blk.below (by (repeat (first | ((with_reducible refine Blk.at_ ?_); focus (first | rfl | (simp; done) | (simp; omega))) | (with_reducible refine Blk.alloc ?_ _) | (with_reducible refine Blk.below ?_ (by with_reducible assumption)) | (with_reducible refine Blk.drew ?_)))) hb1); have hs1 := HB1.out.size; clear hb1)
    | (go_at_call 51; refine (HCV.out _).mono ?_; rintro r w2 ⟨rfl, rfl⟩)
    | (go_at_call 49; refine (HFI.out _).mono ?_; rintro r w3 ⟨rfl, rfl⟩; have Z3 := Lib.hid (Z1.out.alloc (.cells #[(.int .i64 0), (.int .i64 0)] 27)); have G3 := Lib.hid (G1.out.alloc (.cells #[(.int .i64 0), (.int .i64 0)] 27)); have S3 := Lib.hid (S1.out.alloc (.cells #[(.int .i64 0), (.int .i64 0)] 27)); have zl1 := Z1.out.lt; obtain ⟨g0, g1, g2, g3, g4, gl, gf⟩ := G3.out.o5; obtain ⟨s0, s1, s2, sl, sf⟩ := S3.out.o3)
    | (go_at_call 53; refine (HSF.out _ (HL.out.below (HB1.out.alloc hs1 _)) (HT.out.below (HB1.out.alloc hs1 _)) (HP.out.below (HB1.out.alloc hs1 _))).mono ?_; rintro r w4 ⟨rfl, hb4⟩; have HB4 := Lib.hid ((HB1.out.alloc hs1 _).trans (hb4.mono (by simp; omega))); have hs4 : w.heap.size ≤ w4.heap.size := HB4.out.size; have Z4 := Lib.hid (Z3.out.below hb4); have G4 := Lib.hid (G3.out.below hb4); have S4 := Lib.hid (S3.out.below hb4); clear hb4 g0 g1 g2 g3 g4 gl gf s0 s1 s2 sl sf; obtain ⟨g0, g1, g2, g3, g4, gl, gf⟩ := G4.out.o5; obtain ⟨s0, s1, s2, sl, sf⟩ := S4.out.o3; obtain ⟨z0, z1, z2, zl, zf⟩ := Z4.out.o3)
    | (go_at_call 56; refine (HSP.out _ (HL.out.below HB4.out) (HT.out.below HB4.out) (HG.out.below HB4.out) (HP.out.below HB4.out)).mono ?_; rintro r w5 ⟨⟨B, hBb, rfl, hc5, hi5⟩, hb5⟩; have HI5 := Lib.hid hi5; clear hi5; have HB5 := Lib.hid (HB4.out.trans (hb5.mono hs4)); have Z5 := Lib.hid (Z4.out.below hb5); have HC5 := Lib.hid hc5; have hs5 : w.heap.size ≤ w5.heap.size := HB5.out.size; have Z6 := Lib.hid (Z5.out.alloc (.cells #[(.int .i64 RH), (.int .i64 RL), .slice (some B) Q Q] 45)); clear hb5 hc5 g0 g1 g2 g3 g4 gl gf s0 s1 s2 sl sf z0 z1 z2 zl zf))
  refine name_world ?_
  intro w6 e6
  have hb56 : Below w5.heap.size w5 w6 := by rw [e6]; exact (Below.refl _ _).alloc (Nat.le_refl _) _
  have Z7 : Blk w6 (w.heap.size + 1 + 1) #[(.int .i64 0), (.int .i64 0), .slice none 0 0] := by rw [e6]; exact Z6.out
  have N7 : Blk w6 w5.heap.size #[(.int .i64 RH), (.int .i64 RL), .slice (some B) Q Q] := by rw [e6]; exact Blk.new _ _ _
  have HB6 := Lib.hid (HB5.out.trans (hb56.mono hs5))
  have HC6 := Lib.hid (HC5.out.below hb56)
  have HI6 := Lib.hid (HI5.out.below hb56)
  have HZ7 := Lib.hid Z7
  obtain ⟨n0, n1, n2, nl, nf⟩ := N7.o3
  obtain ⟨z0, z1, z2, zl, zf⟩ := Z7.o3
  clear e6 hb56 Z7 N7
  (try simp only [Act.put, List.setIfInBounds_toArray, List.set_cons_zero, List.set_cons_succ])
  refine Rel.region3 3 (by kernel_rfl) (by kernel_rfl) (by kernel_rfl) ?_
  simp only [List.take_succ_cons, List.take_zero, List.drop_succ_cons, List.drop_zero, List.filterMap_cons, List.filterMap_nil]
  iterate 3 (apply Rel.op3; (focus (first | exact Rel.gno rfl | exact Rel.gyes _ true _ rfl rfl rfl | exact Rel.gyes _ false _ rfl rfl rfl)); (focus (intro a W hb hd hbase; obtain ⟨hc, hf⟩ := bcell hb; clear hb hf; simp [Rel.deps, Rel.dep1, Rel.ons, Region.binds, Act.eval] at hd; simp only [Act.eval, List.mem_cons, List.not_mem_nil, not_or, and_imp, or_false, Array.getD_eq_getD_getElem?] at hbase; go_simp; (try go_bits); (try rfl); done)); (try simp only [List.nil_append, List.cons_append]))
  refine Rel.done3 ?_
  intro x w7 hb7 hx
  simp only [Rel.facts, Nat.zero_add, Nat.reduceAdd] at hx
  obtain ⟨e0, e1, e2, _⟩ := hx
  simp only [Rel.fill, Nat.zero_add, Nat.reduceAdd, e0, e1, e2]
  simp only [Act.put, List.setIfInBounds_toArray, List.set_cons_zero, List.set_cons_succ]
  clear e0 e1 e2
  have HB7 := Lib.hid (HB6.out.trans (hb7.mono HB6.out.size))
  have HC7 := Lib.hid (HC6.out.below hb7)
  have HI7 := Lib.hid (HI6.out.below hb7)
  have Z8 := Lib.hid (HZ7.out.below hb7)
  have hs7 := hb7.size
  clear hb7 n0 n1 n2 nl nf z0 z1 z2 zl zf
  obtain ⟨z0, z1, z2, zl, zf⟩ := Z8.out.o3
  go_wp2
  have K := ((Z8.out.set (i := 0) (by simp) (.int .i64 RH)).set (i := 1) (by simp) (.int .i64 RL)).set (i := 2) (by simp) (.slice (some B) Q Q)
  obtain ⟨k0, k1, k2, _, _⟩ := K.o3
  have zl4 := Z4.out.lt
  have hne : 0 < RP.length → ∀ p, some B = some p → p.block ≠ w.heap.size + 1 + 1 := fun _ p hp => by cases hp; omega
  refine bodyPost_ret (v := .tuple #[(.int .i64 O), .agg #[(.int .i64 RH), (.int .i64 RL), .slice (some B) Q Q], (.int .i64 0)]) ?_ rfl ⟨⟨B, by omega, rfl, ?_, ?_⟩, ?_⟩
  · simp [results, Tryz.results24, go_sem, k0, k1, k2]
  · exact ((HC7.out.sets hne 0 _).sets hne 1 _).sets hne 2 _
  · have hne2 : B.block ≠ w.heap.size + 1 + 1 := by omega
    exact ((HI7.out.sets hne2 0 _).sets hne2 1 _).sets hne2 2 _
  · exact ((HB7.out.setCell (by simp <;> omega) _).setCell (by simp <;> omega) _).setCell (by simp <;> omega) _
end Go.Proofs.YtdeapbihbhoefaaGreatDoor

/- Contract of Release. -/
namespace Go.Proofs.YtdeapbihbhoefaaGreatDoor
open Go.RowKit
open Calm (bcell Blk)

theorem byF_zero' (g : Int) : byF 0 g = 0 := by unfold byF; simp
theorem okAt_zero' {lk ht rc : Int} {ts gs : List Int} {s : St} (hV : Valid lk ht rc ts gs) (hS : Good ht rc ts gs s) (k : Nat) : okAt lk ht rc s.h 0 ts s.ps gs k = true := by
  unfold okAt
  rw [byF_zero']
  exact fine_zero hV hS
theorem lvF_zero {lk ht rc : Int} {ts gs : List Int} {s : St} (hV : Valid lk ht rc ts gs) (hS : Good ht rc ts gs s) : lvF lk ht rc ts gs s 0 = min (s.lv + 1) (gs.length - 1) := by
  unfold lvF stepK
  rw [if_pos (okAt_zero' hV hS _)]
  rfl
/-- the state behind k steps without input. -/
def rlAt (lk ht rc : Int) (ts gs : List Int) (s : St) : Nat → St
  | 0 => s
  | k + 1 => stF lk ht rc ts gs (rlAt lk ht rc ts gs s k) 0
theorem rl_good {lk ht rc : Int} {ts gs : List Int} {s : St} (hV : Valid lk ht rc ts gs) (hS : Good ht rc ts gs s) : ∀ k, Good ht rc ts gs (rlAt lk ht rc ts gs s k)
  | 0 => hS
  | k + 1 => (step_good hV (rl_good hV hS k) (by omega)).1
theorem rl_lv {lk ht rc : Int} {ts gs : List Int} {s : St} (hV : Valid lk ht rc ts gs) (hS : Good ht rc ts gs s) : ∀ k, s.lv + k ≤ gs.length - 1 → (rlAt lk ht rc ts gs s k).lv = s.lv + k
  | 0, _ => rfl
  | k + 1, h => by
    show lvF lk ht rc ts gs (rlAt lk ht rc ts gs s k) 0 = _
    rw [lvF_zero hV (rl_good hV hS k), rl_lv hV hS k (by omega)]
    omega

set_option maxHeartbeats 1000000 in
theorem Release_bad (lk ht rc h lv : Int) (ts gs ps : List Int) (A1 A2 A3 : Option Addr) (M L Q c1 c2 c3 : Nat) (w : World) (hM : M = ts.length) (hL : L = gs.length) (hQ : Q = ps.length) (hLim : Lim w) (hT : Cells w A1 ts) (hG : Cells w A2 gs) (hP : Cells w A3 ps) (h1 : M ≤ 1000) (h2 : L ≤ 1000) (h3 : Q ≤ 1000) (he : stErr lk ht rc ts gs h lv ps ≠ 0) :
    Calls Tryz.prog 32 #[.agg #[(.int .i64 lk), (.int .i64 ht), .slice A1 M c1, (.int .i64 rc), .slice A2 L c2], .agg #[(.int .i64 h), (.int .i64 lv), .slice A3 Q c3]] w fun r w' => r = .returned (.tuple #[(.int .i64 0), (.int .i64 (stErr lk ht rc ts gs h lv ps))]) ∧ Below w.heap.size w w' := by
  have HCS : Hid (∀ W, Cells W A1 ts → Cells W A2 gs → Cells W A3 ps → Calls Tryz.prog 50 #[.agg #[(.int .i64 lk), (.int .i64 ht), .slice A1 M c1, (.int .i64 rc), .slice A2 L c2], .agg #[(.int .i64 h), (.int .i64 lv), .slice A3 Q c3]] W fun r w' => r = .returned (.int .i64 (stErr lk ht rc ts gs h lv ps)) ∧ Below W.heap.size W w') := Lib.hid (fun W q1 q2 q3 => checkState_any lk ht rc h lv ts gs ps A1 A2 A3 M L Q c1 c2 c3 W hM hL hQ q1 q2 q3 h1 h2 h3)
  have HT := Lib.hid hT
  have HG := Lib.hid hG
  have HP := Lib.hid hP
  obtain ⟨E, hE⟩ : ∃ E, E = stErr lk ht rc ts gs h lv ps := ⟨_, rfl⟩
  rw [← hE] at HCS he ⊢
  clear hM hL hQ hLim hT hG hP hE
  go_enter Tryz.func32, Tryz.ntmps32
  go_wp2_with (go_at_call 50; refine (HCS.out _ (HT.out.below (by (repeat (first | (with_reducible exact Below.refl _ _) | ((with_reducible refine Below.setCell ?_ ?_ _); rotate_left 1; focus (first | (simp; done) | (simp; omega) | (simp at *; omega))) | ((with_reducible refine Below.alloc ?_ ?_ _); rotate_left 1; focus (first | (simp; done) | (simp; omega) | (simp at *; omega))) | (with_reducible refine Below.drew ?_) | ((with_reducible refine Calm.step (by assumption) ?_ ?_); rotate_left 1; focus (first | (simp; done) | (simp; omega) | (simp at *; omega))))))) (HG.out.below (by (repeat (first | (with_reducible exact Below.refl _ _) | ((with_reducible refine Below.setCell ?_ ?_ _); rotate_left 1; focus (first | (simp; done) | (simp; omega) | (simp at *; omega))) | ((with_reducible refine Below.alloc ?_ ?_ _); rotate_left 1; focus (first | (simp; done) | (simp; omega) | (simp at *; omega))) | (with_reducible refine Below.drew ?_) | ((with_reducible refine Calm.step (by assumption) ?_ ?_); rotate_left 1; focus (first | (simp; done) | (simp; omega) | (simp at *; omega))))))) (HP.out.below (by (repeat (first | (with_reducible exact Below.refl _ _) | ((with_reducible refine Below.setCell ?_ ?_ _); rotate_left 1; focus (first | (simp; done) | (simp; omega) | (simp at *; omega))) | ((with_reducible refine Below.alloc ?_ ?_ _); rotate_left 1; focus (first | (simp; done) | (simp; omega) | (simp at *; omega))) | (with_reducible refine Below.drew ?_) | ((with_reducible refine Calm.step (by assumption) ?_ ?_); rotate_left 1; focus (first | (simp; done) | (simp; omega) | (simp at *; omega)))))))).mono ?_; rintro r w1 ⟨rfl, hb1⟩; have HB1 := Lib.hid (show Below w.heap.size w w1 from Below.trans (by (repeat (first | (with_reducible exact Below.refl _ _) | ((with_reducible refine Below.setCell ?_ ?_ _); rotate_left 1; focus (first | (simp; done) | (simp; omega) | (simp at *; omega))) | ((with_reducible refine Below.alloc ?_ ?_ _); rotate_left 1; focus (first | (simp; done) | (simp; omega) | (simp at *; omega))) | (with_reducible refine Below.drew ?_) | ((with_reducible refine Calm.step (by assumption) ?_ ?_); rotate_left 1; focus (first | (simp; done) | (simp; omega) | (simp at *; omega)))))) (hb1.mono (by simp; omega))); clear hb1)
  exact bodyPost_ret (v := .tuple #[(.int .i64 0), (.int .i64 E)]) (by simp [results, Tryz.results32, go_sem]) rfl ⟨rfl, HB1.out⟩

set_option maxHeartbeats 1000000 in
theorem Release_unsafe (lk ht rc h lv : Int) (ts gs ps : List Int) (A1 A2 A3 : Option Addr) (M L Q c1 c2 c3 : Nat) (w : World) (hM : M = ts.length) (hL : L = gs.length) (hQ : Q = ps.length) (hLim : Lim w) (hT : Cells w A1 ts) (hG : Cells w A2 gs) (hP : Cells w A3 ps) (h1 : M ≤ 1000) (h2 : L ≤ 1000) (h3 : Q ≤ 1000) (he : stErr lk ht rc ts gs h lv ps = 0) (hu : fineF ht rc h 0 ts ps = false) :
    Calls Tryz.prog 32 #[.agg #[(.int .i64 lk), (.int .i64 ht), .slice A1 M c1, (.int .i64 rc), .slice A2 L c2], .agg #[(.int .i64 h), (.int .i64 lv), .slice A3 Q c3]] w fun r w' => r = .returned (.tuple #[(.int .i64 0), (.int .i64 20)]) ∧ Below w.heap.size w w' := by
  have hS := stErr_zero he
  have HCS : Hid (∀ W, Cells W A1 ts → Cells W A2 gs → Cells W A3 ps → Calls Tryz.prog 50 #[.agg #[(.int .i64 lk), (.int .i64 ht), .slice A1 M c1, (.int .i64 rc), .slice A2 L c2], .agg #[(.int .i64 h), (.int .i64 lv), .slice A3 Q c3]] W fun r w' => r = .returned (.int .i64 0) ∧ Below W.heap.size W w') := Lib.hid (fun W q1 q2 q3 => by
    have := checkState_any lk ht rc h lv ts gs ps A1 A2 A3 M L Q c1 c2 c3 W hM hL hQ q1 q2 q3 h1 h2 h3
    rwa [he] at this)
  have HSF : Hid (∀ W, Lim W → Cells W A1 ts → Cells W A3 ps → Calls Tryz.prog 53 #[.agg #[(.int .i64 lk), (.int .i64 ht), .slice A1 M c1, (.int .i64 rc), .slice A2 L c2], .agg #[(.int .i64 h), (.int .i64 lv), .slice A3 Q c3]] W fun r w' => r = .returned (.bool false) ∧ Below W.heap.size W w') := Lib.hid (fun W q0 q1 q2 => by
    have := safe_any lk ht rc h lv ts gs ps A1 A2 A3 M L Q c1 c2 c3 W hM hQ q0 hS.v ⟨hS.h.1, by have := hS.h.2; omega⟩ hS.pl hS.pb q1 q2
    rwa [hu] at this)
  have HT := Lib.hid hT
  have HG := Lib.hid hG
  have HP := Lib.hid hP
  have HL := Lib.hid hLim
  clear hM hL hQ hLim hT hG hP he hS hu
  go_enter Tryz.func32, Tryz.ntmps32
  go_wp2_with (first
    | (go_at_call 50; refine (HCS.out _ (HT.out.below (by (repeat (first | (with_reducible exact Below.refl _ _) | ((with_reducible refine Below.setCell ?_ ?_ _); rotate_left 1; focus (first | (simp; done) | (simp; omega) | (simp at *; omega))) | ((with_reducible refine Below.alloc ?_ ?_ _); rotate_left 1; focus (first | (simp; done) | (simp; omega) | (simp at *; omega))) | (with_reducible refine Below.drew ?_) | ((with_reducible refine Calm.step (by assumption) ?_ ?_); rotate_left 1; focus (first | (simp; done) | (simp; omega) | (simp at *; omega))))))) (HG.out.below (by (repeat (first | (with_reducible exact Below.refl _ _) | ((with_reducible refine Below.setCell ?_ ?_ _); rotate_left 1; focus (first | (simp; done) | (simp; omega) | (simp at *; omega))) | ((with_reducible refine Below.alloc ?_ ?_ _); rotate_left 1; focus (first | (simp; done) | (simp; omega) | (simp at *; omega))) | (with_reducible refine Below.drew ?_) | ((with_reducible refine Calm.step (by assumption) ?_ ?_); rotate_left 1; focus (first | (simp; done) | (simp; omega) | (simp at *; omega))))))) (HP.out.below (by (repeat (first | (with_reducible exact Below.refl _ _) | ((with_reducible refine Below.setCell ?_ ?_ _); rotate_left 1; focus (first | (simp; done) | (simp; omega) | (simp at *; omega))) | ((with_reducible refine Below.alloc ?_ ?_ _); rotate_left 1; focus (first | (simp; done) | (simp; omega) | (simp at *; omega))) | (with_reducible refine Below.drew ?_) | ((with_reducible refine Calm.step (by assumption) ?_ ?_); rotate_left 1; focus (first | (simp; done) | (simp; omega) | (simp at *; omega)))))))).mono ?_; rintro r w1 ⟨rfl, hb1⟩; have HB1 := Lib.hid (show Below w.heap.size w w1 from Below.trans (by (repeat (first | (with_reducible exact Below.refl _ _) | ((with_reducible refine Below.setCell ?_ ?_ _); rotate_left 1; focus (first | (simp; done) | (simp; omega) | (simp at *; omega))) | ((with_reducible refine Below.alloc ?_ ?_ _); rotate_left 1; focus (first | (simp; done) | (simp; omega) | (simp at *; omega))) | (with_reducible refine Below.drew ?_) | ((with_reducible refine Calm.step (by assumption) ?_ ?_); rotate_left 1; focus (first | (simp; done) | (simp; omega) | (simp at *; omega)))))) (hb1.mono (by simp; omega))); have G1 := Lib.hid (show Blk w1 w.heap.size #[(.int .i64 lk), (.int .i64 ht), .slice A1 M c1, (.int .i64 rc), .slice A2 L c2] from Blk.below (by (repeat (first | ((with_reducible refine Blk.at_ ?_); focus (first | rfl | (simp; done) | (simp; omega))) | (with_reducible refine Blk.alloc ?_ _) | (with_reducible refine Blk.below ?_ (by with_reducible assumption)) | (with_reducible refine Blk.drew ?_)))) hb1); have S1 := Lib.hid (show Blk w1 (w.heap.size + 1) #[(.int .i64 h), (.int .i64 lv), .slice A3 Q c3] from Blk.below (by (repeat (first | ((with_reducible refine Blk.at_ ?_); focus (first | rfl | (simp; done) | (simp; omega))) | (with_reducible refine Blk.alloc ?_ _) | (with_reducible refine Blk.below ?_ (by with_reducible assumption)) | (with_reducible refine Blk.drew ?_)))) hb1); have hs1 := HB1.out.size; clear hb1; obtain ⟨g0, g1, g2, g3, g4, gl, gf⟩ := G1.out.o5; obtain ⟨s0, s1, s2, sl, sf⟩ := S1.out.o3)
    | (go_at_call 53; refine (HSF.out _ (HL.out.below HB1.out) (HT.out.below HB1.out) (HP.out.below HB1.out)).mono ?_; rintro r w4 ⟨rfl, hb4⟩; have HB4 := Lib.hid (HB1.out.trans (hb4.mono hs1)); clear hb4))
  exact bodyPost_ret (v := .tuple #[(.int .i64 0), (.int .i64 20)]) (by simp [results, Tryz.results32, go_sem]) rfl ⟨rfl, HB4.out⟩

set_option maxHeartbeats 2000000 in
theorem Release_ok (lk ht rc h : Int) (lv : Nat) (ts gs ps : List Int) (A1 A2 A3 : Option Addr) (M L Q c1 c2 c3 : Nat) (w : World) (hM : M = ts.length) (hL : L = gs.length) (hQ : Q = ps.length) (hLim : Lim w) (hT : Cells w A1 ts) (hG : Cells w A2 gs) (hP : Cells w A3 ps) (h1 : M ≤ 1000) (h2 : L ≤ 1000) (h3 : Q ≤ 1000) (he : stErr lk ht rc ts gs h (lv : Int) ps = 0) (hu : Good ht rc ts gs ⟨h, lv, ps⟩) :
    Calls Tryz.prog 32 #[.agg #[(.int .i64 lk), (.int .i64 ht), .slice A1 M c1, (.int .i64 rc), .slice A2 L c2], .agg #[(.int .i64 h), (.int .i64 ((lv : Int))), .slice A3 Q c3]] w fun r w' => r = .returned (.tuple #[(.int .i64 (((L - 1 - lv : Nat) : Int))), (.int .i64 0)]) ∧ Below w.heap.size w w' := by
  have hS := stErr_zero he
  have HCS : Hid (∀ W, Cells W A1 ts → Cells W A2 gs → Cells W A3 ps → Calls Tryz.prog 50 #[.agg #[(.int .i64 lk), (.int .i64 ht), .slice A1 M c1, (.int .i64 rc), .slice A2 L c2], .agg #[(.int .i64 h), (.int .i64 ((lv : Int))), .slice A3 Q c3]] W fun r w' => r = .returned (.int .i64 0) ∧ Below W.heap.size W w') := Lib.hid (fun W q1 q2 q3 => by
    have := checkState_any lk ht rc h (lv : Int) ts gs ps A1 A2 A3 M L Q c1 c2 c3 W hM hL hQ q1 q2 q3 h1 h2 h3
    rwa [he] at this)
  have hsafe : fineF ht rc h 0 ts ps = true := good_fine hS.v hu
  have HSF : Hid (∀ W, Lim W → Cells W A1 ts → Cells W A3 ps → Calls Tryz.prog 53 #[.agg #[(.int .i64 lk), (.int .i64 ht), .slice A1 M c1, (.int .i64 rc), .slice A2 L c2], .agg #[(.int .i64 h), (.int .i64 ((lv : Int))), .slice A3 Q c3]] W fun r w' => r = .returned (.bool true) ∧ Below W.heap.size W w') := Lib.hid (fun W q0 q1 q2 => by
    have := safe_any lk ht rc h (lv : Int) ts gs ps A1 A2 A3 M L Q c1 c2 c3 W hM hQ q0 hS.v ⟨hS.h.1, by have := hS.h.2; omega⟩ hS.pl hS.pb q1 q2
    rwa [hsafe] at this)
  have hgl := hS.v.gl
  have hlL : lv < L := by have := hu.lv; rw [hL]; exact this
  have hL8 : L ≤ 8 := by omega
  obtain ⟨R, hR⟩ : ∃ R : Nat → St, R = rlAt lk ht rc ts gs ⟨h, lv, ps⟩ := ⟨_, rfl⟩
  have HRL : Hid (∀ k, (R k).ps.length = Q) := Lib.hid (fun k => by
    have h4 := (rl_good hS.v hu k).pl
    have h5 := hS.pl
    rw [hR]; omega)
  have HLV : Hid (∀ k, lv + k ≤ L - 1 → (R k).lv = lv + k) := Lib.hid (fun k hk => by rw [hR]; exact rl_lv hS.v hu k (by rw [← hL]; exact hk))
  have HR0 : Hid ((R 0).h = h ∧ (R 0).ps = ps) := Lib.hid (by rw [hR]; exact ⟨rfl, rfl⟩)
  have HST : Hid (∀ (W : World) (k : Nat) (A : Option Addr) (c : Nat), lv + (k + 1) ≤ L - 1 → Lim W → Cells W A1 ts → Cells W A2 gs → Cells W A (R k).ps → Calls Tryz.prog 56 #[.agg #[(.int .i64 lk), (.int .i64 ht), .slice A1 M c1, (.int .i64 rc), .slice A2 L c2], .agg #[(.int .i64 ((R k).h)), (.int .i64 (((lv + k : Nat) : Int))), .slice A Q c], (.int .i64 0)] W fun r w' =>
      (∃ B, W.heap.size ≤ B.block ∧ r = .returned (.tuple #[(.int .i64 0), .agg #[(.int .i64 ((R (k + 1)).h)), (.int .i64 (((lv + (k + 1) : Nat) : Int))), .slice (some B) Q Q]]) ∧ Cells w' (some B) (R (k + 1)).ps) ∧ Below W.heap.size W w') := Lib.hid (fun W k A c q9 q1 q2 q3 q4 => by
    have hg := rl_good hS.v hu k
    have e : Q = (R k).ps.length := (HRL.out k).symm
    have h4 := hS.v.tl
    have h5 := hg.h
    have h6 := hS.v.ht
    have h7 : (R k).lv = lv + k := HLV.out k (by omega)
    have h8 : (R (k + 1)).lv = lv + (k + 1) := HLV.out (k + 1) (by omega)
    have e2 : stF lk ht rc ts gs (R k) 0 = R (k + 1) := by rw [hR]; rfl
    have e3 : (R k).h = (rlAt lk ht rc ts gs ⟨h, lv, ps⟩ k).h := by rw [hR]
    rw [← hR] at hg h5
    have hst := step_any lk ht rc (R k).h 0 (R k).lv ts (R k).ps gs A1 A2 A c1 c2 c W _ q1 hS.v.lk (by omega) q2 q3 q4 hg.pl (by have := hg.pl; omega) (by omega) (by omega) hg.lv hS.v.tb hg.pb hS.v.gb (by omega) (lvF_some hS.v hg _)
    rw [h7, ← hM, ← hL, ← e] at hst
    refine hst.mono ?_
    rintro r w' ⟨⟨B, b1, b2, b3⟩, b4⟩
    have e5 : byF 0 (gs.getD (lvF lk ht rc ts gs (R k) 0) 0) = 0 := byF_zero' _
    have e6 : (R (k + 1)).h = coolF lk (R k).h + 0 * 0 := by rw [← e2]; show coolF lk (R k).h + byF 0 _ * byF 0 _ = _; rw [byF_zero']
    have e7 : (R (k + 1)).ps = pushL (R k).ps 0 := by rw [← e2]; show pushL (R k).ps (byF 0 _) = _; rw [byF_zero']
    have e8 : lvF lk ht rc ts gs (R k) 0 = lv + (k + 1) := by rw [← h8, ← e2]; rfl
    rw [e5, e8] at b2
    rw [e5] at b3
    rw [e6, e7]
    exact ⟨⟨B, b1, b2, b3⟩, b4⟩)
  have HT := Lib.hid hT
  have HG := Lib.hid hG
  have HP := Lib.hid hP
  have HL := Lib.hid hLim
  clear hM hL hQ hLim hT hG hP he hS hu hsafe hR hgl
  go_enter Tryz.func32, Tryz.ntmps32
  go_wp2_with (first
    | (go_at_call 50; refine (HCS.out _ (HT.out.below (by (repeat (first | (with_reducible exact Below.refl _ _) | ((with_reducible refine Below.setCell ?_ ?_ _); rotate_left 1; focus (first | (simp; done) | (simp; omega) | (simp at *; omega))) | ((with_reducible refine Below.alloc ?_ ?_ _); rotate_left 1; focus (first | (simp; done) | (simp; omega) | (simp at *; omega))) | (with_reducible refine Below.drew ?_) | ((with_reducible refine Calm.step (by assumption) ?_ ?_); rotate_left 1; focus (first | (simp; done) | (simp; omega) | (simp at *; omega))))))) (HG.out.below (by (repeat (first | (with_reducible exact Below.refl _ _) | ((with_reducible refine Below.setCell ?_ ?_ _); rotate_left 1; focus (first | (simp; done) | (simp; omega) | (simp at *; omega))) | ((with_reducible refine Below.alloc ?_ ?_ _); rotate_left 1; focus (first | (simp; done) | (simp; omega) | (simp at *; omega))) | (with_reducible refine Below.drew ?_) | ((with_reducible refine Calm.step (by assumption) ?_ ?_); rotate_left 1; focus (first | (simp; done) | (simp; omega) | (simp at *; omega))))))) (HP.out.below (by (repeat (first | (with_reducible exact Below.refl _ _) | ((with_reducible refine Below.setCell ?_ ?_ _); rotate_left 1; focus (first | (simp; done) | (simp; omega) | (simp at *; omega))) | ((with_reducible refine Below.alloc ?_ ?_ _); rotate_left 1; focus (first | (simp; done) | (simp; omega) | (simp at *; omega))) | (with_reducible refine Below.drew ?_) | ((with_reducible refine Calm.step (by assumption) ?_ ?_); rotate_left 1; focus (first | (simp; done) | (simp; omega) | (simp at *; omega)))))))).mono ?_; rintro r w1 ⟨rfl, hb1⟩; have HB1 := Lib.hid (show Below w.heap.size w w1 from Below.trans (by (repeat (first | (with_reducible exact Below.refl _ _) | ((with_reducible refine Below.setCell ?_ ?_ _); rotate_left 1; focus (first | (simp; done) | (simp; omega) | (simp at *; omega))) | ((with_reducible refine Below.alloc ?_ ?_ _); rotate_left 1; focus (first | (simp; done) | (simp; omega) | (simp at *; omega))) | (with_reducible refine Below.drew ?_) | ((with_reducible refine Calm.step (by assumption) ?_ ?_); rotate_left 1; focus (first | (simp; done) | (simp; omega) | (simp at *; omega)))))) (hb1.mono (by simp; omega))); have G1 := Lib.hid (show Blk w1 w.heap.size #[(.int .i64 lk), (.int .i64 ht), .slice A1 M c1, (.int .i64 rc), .slice A2 L c2] from Blk.below (by (repeat (first | ((with_reducible refine Blk.at_ ?_); focus (first | rfl | (simp; done) | (simp; omega))) | (with_reducible refine Blk.alloc ?_ _) | (with_reducible refine Blk.below ?_ (by with_reducible assumption)) | (with_reducible refine Blk.drew ?_)))) hb1); have S1 := Lib.hid (show Blk w1 (w.heap.size + 1) #[(.int .i64 h), (.int .i64 ((lv : Int))), .slice A3 Q c3] from Blk.below (by (repeat (first | ((with_reducible refine Blk.at_ ?_); focus (first | rfl | (simp; done) | (simp; omega))) | (with_reducible refine Blk.alloc ?_ _) | (with_reducible refine Blk.below ?_ (by with_reducible assumption)) | (with_reducible refine Blk.drew ?_)))) hb1); have hs1 := HB1.out.size; clear hb1; obtain ⟨g0, g1, g2, g3, g4, gl, gf⟩ := G1.out.o5; obtain ⟨s0, s1, s2, sl, sf⟩ := S1.out.o3)
    | (go_at_call 53; refine (HSF.out _ (HL.out.below HB1.out) (HT.out.below HB1.out) (HP.out.below HB1.out)).mono ?_; rintro r w4 ⟨rfl, hb4⟩; have HB4 := Lib.hid (HB1.out.trans (hb4.mono hs1)); have G4 := Lib.hid (G1.out.below hb4); have S4 := Lib.hid (S1.out.below hb4); clear hb4 g0 g1 g2 g3 g4 gl gf s0 s1 s2 sl sf))
  go_loopw [7] (fun i wr => ∃ (k : Nat) (A : Option Addr) (c : Nat), lv + k ≤ L - 1 ∧ i = (.int .i64 ((k : Int))) ∧ Blk wr w.heap.size #[(.int .i64 lk), (.int .i64 ht), .slice A1 M c1, (.int .i64 rc), .slice A2 L c2] ∧
      Blk wr (w.heap.size + 1) #[(.int .i64 ((R k).h)), (.int .i64 (((lv + k : Nat) : Int))), .slice A Q c] ∧ Cells wr A (R k).ps ∧ (0 < Q → ∀ p, A = some p → p.block ≠ w.heap.size + 1) ∧ Below w.heap.size w wr) (fun i _ => L - (intOf i).toNat)
  case atStart =>
    refine ⟨0, A3, c3, by omega, rfl, G4.out, ?_, ?_, ?_, HB4.out⟩
    · rw [HR0.out.1]; exact S4.out
    · rw [HR0.out.2]; exact HP.out.below HB4.out
    · intro hq p hp
      obtain ⟨b, off, hA, hl, _⟩ := HP.out (by have := HRL.out 0; rw [HR0.out.2] at this; omega)
      cases hp; cases hA
      show b ≠ _
      omega
  case round =>
    obtain ⟨k, A, c, hk, rfl, K0, K1, hCA, hAne, hB⟩ := hrel
    have HCA := Lib.hid hCA
    have HB := Lib.hid hB
    have hsz := hB.size
    have HK0 := Lib.hid K0
    have HK1 := Lib.hid K1
    obtain ⟨g0, g1, g2, g3, g4, gl, gf⟩ := K0.o5
    obtain ⟨s0, s1, s2, sl, sf⟩ := K1.o3
    clear hCA hB K0 K1
    by_cases hlt : lv + (k + 1) ≤ L - 1
    · have HS1 := Lib.hid (HST.out wr k A c hlt (HL.out.below HB.out) (HT.out.below HB.out) (HG.out.below HB.out) HCA.out)
      have f1 : ((lv + k : Nat) : Int) < (L : Int) - 1 := by omega
      have f2 : (lv : Int) + (k : Int) < (L : Int) - 1 := by omega
      go_wp2_with (go_at_call 56; refine HS1.out.mono ?_; rintro r w5 ⟨⟨B, hBb, rfl, hc5⟩, hb5⟩; have HB5 := Lib.hid (HB.out.trans (hb5.mono hsz)); have HC5 := Lib.hid hc5; have G5 := Lib.hid (HK0.out.below hb5); have S5 := Lib.hid (HK1.out.below hb5); clear hb5 hc5 g0 g1 g2 g3 g4 gl gf s0 s1 s2; obtain ⟨s0, s1, s2, sl5, sf5⟩ := S5.out.o3)
      have ev : (lv : Int) + ((k : Int) + 1) = ((lv + (k + 1) : Nat) : Int) := by omega
      have hne : 0 < (R (k + 1)).ps.length → ∀ p, some B = some p → p.block ≠ w.heap.size + 1 := fun _ p hp => by cases hp; omega
      have hne0 : w.heap.size + 1 ≠ w.heap.size := by omega
      have K5 := ((S5.out.set (i := 0) (by simp) (.int .i64 ((R (k + 1)).h))).set (i := 1) (by simp) (.int .i64 ((lv : Int) + ((k : Int) + 1)))).set (i := 2) (by simp) (.slice (some B) Q Q)
      rw [ev] at K5 ⊢
      refine ⟨⟨k + 1, some B, Q, hlt, by rw [Int.natCast_add]; rfl, ?_, K5, ((HC5.out.sets hne 0 _).sets hne 1 _).sets hne 2 _, fun _ p hp => by cases hp; omega, ((HB5.out.setCell (by simp <;> omega) _).setCell (by simp <;> omega) _).setCell (by simp <;> omega) _⟩, ?_⟩
      · exact ((G5.out.far (p := ⟨_, 0, none⟩) hne0 _).far (p := ⟨_, 1, none⟩) hne0 _).far (p := ⟨_, 2, none⟩) hne0 _
      · simp [intOf]; omega
    · have f1 : ¬ ((lv + k : Nat) : Int) < (L : Int) - 1 := by omega
      have f2 : ¬ (lv : Int) + (k : Int) < (L : Int) - 1 := by omega
      go_wp2
      have ek : k = L - 1 - lv := by omega
      subst ek
      exact bodyPost_ret (v := .tuple #[(.int .i64 (((L - 1 - lv : Nat) : Int))), (.int .i64 0)]) (by simp [results, Tryz.results32, go_sem]) rfl ⟨rfl, HB.out⟩
end Go.Proofs.YtdeapbihbhoefaaGreatDoor
