/- Part 13 of the texts of the claim: Y6, Y7, Y8, QC, QW. -/
import Derived.Test.YtdeapbihbhoefaaGreatDoorMr12

/- Contract of Release. -/
namespace Go.Proofs.YtdeapbihbhoefaaGreatDoor
open Go.RowKit
open Calm (bcell Blk)

theorem byF_zero' (g : Int) : byF 0 g = 0 := by unfold byF; simp
theorem okAt_zero' {lk ht rc : Int} {ts gs : List Int} {s : St} (hV : Valid lk ht rc ts gs) (hS : Good ht rc ts gs s) (k : Nat) : okAt lk ht rc s.h 0 ts s.ps gs k = true := by
  unfold okAt
  rw [byF_zero']
  exact fine_zero hV hS
theorem lvF_zero {lk ht rc : Int} {ts gs : List Int} {s : St} (hV : Valid lk ht rc ts gs) (hS : Good ht rc ts gs s) : lvF lk ht rc ts gs s 0 = min (s.lv + 1) (gs.length - 1) := by
  unfold lvF stepK
  rw [if_pos (okAt_zero' hV hS _)]
  rfl
/-- the state behind k steps without input. -/
def rlAt (lk ht rc : Int) (ts gs : List Int) (s : St) : Nat → St
  | 0 => s
  | k + 1 => stF lk ht rc ts gs (rlAt lk ht rc ts gs s k) 0
theorem rl_good {lk ht rc : Int} {ts gs : List Int} {s : St} (hV : Valid lk ht rc ts gs) (hS : Good ht rc ts gs s) : ∀ k, Good ht rc ts gs (rlAt lk ht rc ts gs s k)
  | 0 => hS
  | k + 1 => (step_good hV (rl_good hV hS k) (by omega)).1
theorem rl_lv {lk ht rc : Int} {ts gs : List Int} {s : St} (hV : Valid lk ht rc ts gs) (hS : Good ht rc ts gs s) : ∀ k, s.lv + k ≤ gs.length - 1 → (rlAt lk ht rc ts gs s k).lv = s.lv + k
  | 0, _ => rfl
  | k + 1, h => by
    show lvF lk ht rc ts gs (rlAt lk ht rc ts gs s k) 0 = _
    rw [lvF_zero hV (rl_good hV hS k), rl_lv hV hS k (by omega)]
    omega

set_option maxHeartbeats 1000000 in
theorem Release_bad (lk ht rc h lv : Int) (ts gs ps : List Int) (A1 A2 A3 : Option Addr) (M L Q c1 c2 c3 : Nat) (w : World) (hM : M = ts.length) (hL : L = gs.length) (hQ : Q = ps.length) (hLim : Lim w) (hT : Cells w A1 ts) (hG : Cells w A2 gs) (hP : Cells w A3 ps) (h1 : M ≤ 1000) (h2 : L ≤ 1000) (h3 : Q ≤ 1000) (he : stErr lk ht rc ts gs h lv ps ≠ 0) :
    Calls Tryz.prog 32 #[.agg #[(.int .i64 lk), (.int .i64 ht), .slice A1 M c1, (.int .i64 rc), .slice A2 L c2], .agg #[(.int .i64 h), (.int .i64 lv), .slice A3 Q c3]] w fun r w' => r = .returned (.tuple #[(.int .i64 0), (.int .i64 (stErr lk ht rc ts gs h lv ps))]) ∧ Below w.heap.size w w' := by
  have HCS : Hid (∀ W, Cells W A1 ts → Cells W A2 gs → Cells W A3 ps → Calls Tryz.prog 50 #[.agg #[(.int .i64 lk), (.int .i64 ht), .slice A1 M c1, (.int .i64 rc), .slice A2 L c2], .agg #[(.int .i64 h), (.int .i64 lv), .slice A3 Q c3]] W fun r w' => r = .returned (.int .i64 (stErr lk ht rc ts gs h lv ps)) ∧ Below W.heap.size W w') := Lib.hid (fun W q1 q2 q3 => checkState_any lk ht rc h lv ts gs ps A1 A2 A3 M L Q c1 c2 c3 W hM hL hQ q1 q2 q3 h1 h2 h3)
  have HT := Lib.hid hT
  have HG := Lib.hid hG
  have HP := Lib.hid hP
  obtain ⟨E, hE⟩ : ∃ E, E = stErr lk ht rc ts gs h lv ps := ⟨_, rfl⟩
  rw [← hE] at HCS he ⊢
  clear hM hL hQ hLim hT hG hP hE
  go_enter Tryz.func32, Tryz.ntmps32
  go_wp2_with (go_at_call 50; refine (HCS.out _ (HT.out.below (by (repeat (first | (with_reducible exact Below.refl _ _) | ((with_reducible refine Below.setCell ?_ ?_ _); rotate_left 1; focus (first | (simp; done) | (simp; omega) | (simp at *; omega))) | ((with_reducible refine Below.alloc ?_ ?_ _); rotate_left 1; focus (first | (simp; done) | (simp; omega) | (simp at *; omega))) | (with_reducible refine Below.drew ?_) | ((with_reducible refine Calm.step (by assumption) ?_ ?_); rotate_left 1; focus (first | (simp; done) | (simp; omega) | (simp at *; omega))))))) (HG.out.below (by (repeat (first | (with_reducible exact Below.refl _ _) | ((with_reducible refine Below.setCell ?_ ?_ _); rotate_left 1; focus (first | (simp; done) | (simp; omega) | (simp at *; omega))) | ((with_reducible refine Below.alloc ?_ ?_ _); rotate_left 1; focus (first | (simp; done) | (simp; omega) | (simp at *; omega))) | (with_reducible refine Below.drew ?_) | ((with_reducible refine Calm.step (by assumption) ?_ ?_); rotate_left 1; focus (first | (simp; done) | (simp; omega) | (simp at *; omega))))))) (HP.out.below (by (repeat (first | (with_reducible exact Below.refl _ _) | ((with_reducible refine Below.setCell ?_ ?_ _); rotate_left 1; focus (first | (simp; done) | (simp; omega) | (simp at *; omega))) | ((with_reducible refine Below.alloc ?_ ?_ _); rotate_left 1; focus (first | (simp; done) | (simp; omega) | (simp at *; omega))) | (with_reducible refine Below.drew ?_) | ((with_reducible refine Calm.step (by assumption) ?_ ?_); rotate_left 1; focus (first | (simp; done) | (simp; omega) | (simp at *; omega)))))))).mono ?_; rintro r w1 ⟨rfl, hb1⟩; have HB1 := Lib.hid (show Below w.heap.size w w1 from Below.trans (by (repeat (first | (with_reducible exact Below.refl _ _) | ((with_reducible refine Below.setCell ?_ ?_ _); rotate_left 1; focus (first | (simp; done) | (simp; omega) | (simp at *; omega))) | ((with_reducible refine Below.alloc ?_ ?_ _); rotate_left 1; focus (first | (simp; done) | (simp; omega) | (simp at *; omega))) | (with_reducible refine Below.drew ?_) | ((with_reducible refine Calm.step (by assumption) ?_ ?_); rotate_left 1; focus (first | (simp; done) | (simp; omega) | (simp at *; omega)))))) (hb1.mono (by simp; omega))); clear hb1)
  exact bodyPost_ret (v := .tuple #[(.int .i64 0), (.int .i64 E)]) (by simp [results, Tryz.results32, go_sem]) rfl ⟨rfl, HB1.out⟩

set_option maxHeartbeats 1000000 in
theorem Release_unsafe (lk ht rc h lv : Int) (ts gs ps : List Int) (A1 A2 A3 : Option Addr) (M L Q c1 c2 c3 : Nat) (w : World) (hM : M = ts.length) (hL : L = gs.length) (hQ : Q = ps.length) (hLim : Lim w) (hT : Cells w A1 ts) (hG : Cells w A2 gs) (hP : Cells w A3 ps) (h1 : M ≤ 1000) (h2 : L ≤ 1000) (h3 : Q ≤ 1000) (he : stErr lk ht rc ts gs h lv ps = 0) (hu : fineF ht rc h 0 ts ps = false) :
    Calls Tryz.prog 32 #[.agg #[(.int .i64 lk), (.int .i64 ht), .slice A1 M c1, (.int .i64 rc), .slice A2 L c2], .agg #[(.int .i64 h), (.int .i64 lv), .slice A3 Q c3]] w fun r w' => r = .returned (.tuple #[(.int .i64 0), (.int .i64 20)]) ∧ Below w.heap.size w w' := by
  have hS := stErr_zero he
  have HCS : Hid (∀ W, Cells W A1 ts → Cells W A2 gs → Cells W A3 ps → Calls Tryz.prog 50 #[.agg #[(.int .i64 lk), (.int .i64 ht), .slice A1 M c1, (.int .i64 rc), .slice A2 L c2], .agg #[(.int .i64 h), (.int .i64 lv), .slice A3 Q c3]] W fun r w' => r = .returned (.int .i64 0) ∧ Below W.heap.size W w') := Lib.hid (fun W q1 q2 q3 => by
    have := checkState_any lk ht rc h lv ts gs ps A1 A2 A3 M L Q c1 c2 c3 W hM hL hQ q1 q2 q3 h1 h2 h3
    rwa [he] at this)
  have HSF : Hid (∀ W, Lim W → Cells W A1 ts → Cells W A3 ps → Calls Tryz.prog 53 #[.agg #[(.int .i64 lk), (.int .i64 ht), .slice A1 M c1, (.int .i64 rc), .slice A2 L c2], .agg #[(.int .i64 h), (.int .i64 lv), .slice A3 Q c3]] W fun r w' => r = .returned (.bool false) ∧ Below W.heap.size W w') := Lib.hid (fun W q0 q1 q2 => by
    have := safe_any lk ht rc h lv ts gs ps A1 A2 A3 M L Q c1 c2 c3 W hM hQ q0 hS.v ⟨hS.h.1, by have := hS.h.2; omega⟩ hS.pl hS.pb q1 q2
    rwa [hu] at this)
  have HT := Lib.hid hT
  have HG := Lib.hid hG
  have HP := Lib.hid hP
  have HL := Lib.hid hLim
  clear hM hL hQ hLim hT hG hP he hS hu
  go_enter Tryz.func32, Tryz.ntmps32
  go_wp2_with (first
    | (go_at_call 50; refine (HCS.out _ (HT.out.below (by (repeat (first | (with_reducible exact Below.refl _ _) | ((with_reducible refine Below.setCell ?_ ?_ _); rotate_left 1; focus (first | (simp; done) | (simp; omega) | (simp at *; omega))) | ((with_reducible refine Below.alloc ?_ ?_ _); rotate_left 1; focus (first | (simp; done) | (simp; omega) | (simp at *; omega))) | (with_reducible refine Below.drew ?_) | ((with_reducible refine Calm.step (by assumption) ?_ ?_); rotate_left 1; focus (first | (simp; done) | (simp; omega) | (simp at *; omega))))))) (HG.out.below (by (repeat (first | (with_reducible exact Below.refl _ _) | ((with_reducible refine Below.setCell ?_ ?_ _); rotate_left 1; focus (first | (simp; done) | (simp; omega) | (simp at *; omega))) | ((with_reducible refine Below.alloc ?_ ?_ _); rotate_left 1; focus (first | (simp; done) | (simp; omega) | (simp at *; omega))) | (with_reducible refine Below.drew ?_) | ((with_reducible refine Calm.step (by assumption) ?_ ?_); rotate_left 1; focus (first | (simp; done) | (simp; omega) | (simp at *; omega))))))) (HP.out.below (by (repeat (first | (with_reducible exact Below.refl _ _) | ((with_reducible refine Below.setCell ?_ ?_ _); rotate_left 1; focus (first | (simp; done) | (simp; omega) | (simp at *; omega))) | ((with_reducible refine Below.alloc ?_ ?_ _); rotate_left 1; focus (first | (simp; done) | (simp; omega) | (simp at *; omega))) | (with_reducible refine Below.drew ?_) | ((with_reducible refine Calm.step (by assumption) ?_ ?_); rotate_left 1; focus (first | (simp; done) | (simp; omega) | (simp at *; omega)))))))).mono ?_; rintro r w1 ⟨rfl, hb1⟩; have HB1 := Lib.hid (show Below w.heap.size w w1 from Below.trans (by (repeat (first | (with_reducible exact Below.refl _ _) | ((with_reducible refine Below.setCell ?_ ?_ _); rotate_left 1; focus (first | (simp; done) | (simp; omega) | (simp at *; omega))) | ((with_reducible refine Below.alloc ?_ ?_ _); rotate_left 1; focus (first | (simp; done) | (simp; omega) | (simp at *; omega))) | (with_reducible refine Below.drew ?_) | ((with_reducible refine Calm.step (by assumption) ?_ ?_); rotate_left 1; focus (first | (simp; done) | (simp; omega) | (simp at *; omega)))))) (hb1.mono (by simp; omega))); have G1 := Lib.hid (show Blk w1 w.heap.size #[(.int .i64 lk), (.int .i64 ht), .slice A1 M c1, (.int .i64 rc), .slice A2 L c2] from Blk.below (by (repeat (first | ((with_reducible refine Blk.at_ ?_); focus (first | rfl | (simp; done) | (simp; omega))) | (with_reducible refine Blk.alloc ?_ _) | (with_reducible refine Blk.below ?_ (by with_reducible assumption)) | (with_reducible refine Blk.drew ?_)))) hb1); have S1 := Lib.hid (show Blk w1 (w.heap.size + 1) #[(.int .i64 h), (.int .i64 lv), .slice A3 Q c3] from Blk.below (by (repeat (first | ((with_reducible refine Blk.at_ ?_); focus (first | rfl | (simp; done) | (simp; omega))) | (with_reducible refine Blk.alloc ?_ _) | (with_reducible refine Blk.below ?_ (by with_reducible assumption)) | (with_reducible refine Blk.drew ?_)))) hb1); have hs1 := HB1.out.size; clear hb1; obtain ⟨g0, g1, g2, g3, g4, gl, gf⟩ := G1.out.o5; obtain ⟨s0, s1, s2, sl, sf⟩ := S1.out.o3)
    | (go_at_call 53; refine (HSF.out _ (HL.out.below HB1.out) (HT.out.below HB1.out) (HP.out.below HB1.out)).mono ?_; rintro r w4 ⟨rfl, hb4⟩; have HB4 := Lib.hid (HB1.out.trans (hb4.mono hs1)); clear hb4))
  exact bodyPost_ret (v := .tuple #[(.int .i64 0), (.int .i64 20)]) (by simp [results, Tryz.results32, go_sem]) rfl ⟨rfl, HB4.out⟩

set_option maxHeartbeats 2000000 in
theorem Release_ok (lk ht rc h : Int) (lv : Nat) (ts gs ps : List Int) (A1 A2 A3 : Option Addr) (M L Q c1 c2 c3 : Nat) (w : World) (hM : M = ts.length) (hL : L = gs.length) (hQ : Q = ps.length) (hLim : Lim w) (hT : Cells w A1 ts) (hG : Cells w A2 gs) (hP : Cells w A3 ps) (h1 : M ≤ 1000) (h2 : L ≤ 1000) (h3 : Q ≤ 1000) (he : stErr lk ht rc ts gs h (lv : Int) ps = 0) (hu : Good ht rc ts gs ⟨h, lv, ps⟩) :
    Calls Tryz.prog 32 #[.agg #[(.int .i64 lk), (.int .i64 ht), .slice A1 M c1, (.int .i64 rc), .slice A2 L c2], .agg #[(.int .i64 h), (.int .i64 ((lv : Int))), .slice A3 Q c3]] w fun r w' => r = .returned (.tuple #[(.int .i64 (((L - 1 - lv : Nat) : Int))), (.int .i64 0)]) ∧ Below w.heap.size w w' := by
  have hS := stErr_zero he
  have HCS : Hid (∀ W, Cells W A1 ts → Cells W A2 gs → Cells W A3 ps → Calls Tryz.prog 50 #[.agg #[(.int .i64 lk), (.int .i64 ht), .slice A1 M c1, (.int .i64 rc), .slice A2 L c2], .agg #[(.int .i64 h), (.int .i64 ((lv : Int))), .slice A3 Q c3]] W fun r w' => r = .returned (.int .i64 0) ∧ Below W.heap.size W w') := Lib.hid (fun W q1 q2 q3 => by
    have := checkState_any lk ht rc h (lv : Int) ts gs ps A1 A2 A3 M L Q c1 c2 c3 W hM hL hQ q1 q2 q3 h1 h2 h3
    rwa [he] at this)
  have hsafe : fineF ht rc h 0 ts ps = true := good_fine hS.v hu
  have HSF : Hid (∀ W, Lim W → Cells W A1 ts → Cells W A3 ps → Calls Tryz.prog 53 #[.agg #[(.int .i64 lk), (.int .i64 ht), .slice A1 M c1, (.int .i64 rc), .slice A2 L c2], .agg #[(.int .i64 h), (.int .i64 ((lv : Int))), .slice A3 Q c3]] W fun r w' => r = .returned (.bool true) ∧ Below W.heap.size W w') := Lib.hid (fun W q0 q1 q2 => by
    have := safe_any lk ht rc h (lv : Int) ts gs ps A1 A2 A3 M L Q c1 c2 c3 W hM hQ q0 hS.v ⟨hS.h.1, by have := hS.h.2; omega⟩ hS.pl hS.pb q1 q2
    rwa [hsafe] at this)
  have hgl := hS.v.gl
  have hlL : lv < L := by have := hu.lv; rw [hL]; exact this
  have hL8 : L ≤ 8 := by omega
  obtain ⟨R, hR⟩ : ∃ R : Nat → St, R = rlAt lk ht rc ts gs ⟨h, lv, ps⟩ := ⟨_, rfl⟩
  have HRL : Hid (∀ k, (R k).ps.length = Q) := Lib.hid (fun k => by
    have h4 := (rl_good hS.v hu k).pl
    have h5 := hS.pl
    rw [hR]; omega)
  have HLV : Hid (∀ k, lv + k ≤ L - 1 → (R k).lv = lv + k) := Lib.hid (fun k hk => by rw [hR]; exact rl_lv hS.v hu k (by rw [← hL]; exact hk))
  have HR0 : Hid ((R 0).h = h ∧ (R 0).ps = ps) := Lib.hid (by rw [hR]; exact ⟨rfl, rfl⟩)
  have HST : Hid (∀ (W : World) (k : Nat) (A : Option Addr) (c : Nat), lv + (k + 1) ≤ L - 1 → Lim W → Cells W A1 ts → Cells W A2 gs → Cells W A (R k).ps → Calls Tryz.prog 56 #[.agg #[(.int .i64 lk), (.int .i64 ht), .slice A1 M c1, (.int .i64 rc), .slice A2 L c2], .agg #[(.int .i64 ((R k).h)), (.int .i64 (((lv + k : Nat) : Int))), .slice A Q c], (.int .i64 0)] W fun r w' =>
      (∃ B, W.heap.size ≤ B.block ∧ r = .returned (.tuple #[(.int .i64 0), .agg #[(.int .i64 ((R (k + 1)).h)), (.int .i64 (((lv + (k + 1) : Nat) : Int))), .slice (some B) Q Q]]) ∧ Cells w' (some B) (R (k + 1)).ps) ∧ Below W.heap.size W w') := Lib.hid (fun W k A c q9 q1 q2 q3 q4 => by
    have hg := rl_good hS.v hu k
    have e : Q = (R k).ps.length := (HRL.out k).symm
    have h4 := hS.v.tl
    have h5 := hg.h
    have h6 := hS.v.ht
    have h7 : (R k).lv = lv + k := HLV.out k (by omega)
    have h8 : (R (k + 1)).lv = lv + (k + 1) := HLV.out (k + 1) (by omega)
    have e2 : stF lk ht rc ts gs (R k) 0 = R (k + 1) := by rw [hR]; rfl
    have e3 : (R k).h = (rlAt lk ht rc ts gs ⟨h, lv, ps⟩ k).h := by rw [hR]
    rw [← hR] at hg h5
    have hst := step_any lk ht rc (R k).h 0 (R k).lv ts (R k).ps gs A1 A2 A c1 c2 c W _ q1 hS.v.lk (by omega) q2 q3 q4 hg.pl (by have := hg.pl; omega) (by omega) (by omega) hg.lv hS.v.tb hg.pb hS.v.gb (by omega) (lvF_some hS.v hg _)
    rw [h7, ← hM, ← hL, ← e] at hst
    refine hst.mono ?_
    rintro r w' ⟨⟨B, b1, b2, b3⟩, b4⟩
    have e5 : byF 0 (gs.getD (lvF lk ht rc ts gs (R k) 0) 0) = 0 := byF_zero' _
    have e6 : (R (k + 1)).h = coolF lk (R k).h + 0 * 0 := by rw [← e2]; show coolF lk (R k).h + byF 0 _ * byF 0 _ = _; rw [byF_zero']
    have e7 : (R (k + 1)).ps = pushL (R k).ps 0 := by rw [← e2]; show pushL (R k).ps (byF 0 _) = _; rw [byF_zero']
    have e8 : lvF lk ht rc ts gs (R k) 0 = lv + (k + 1) := by rw [← h8, ← e2]; rfl
    rw [e5, e8] at b2
    rw [e5] at b3
    rw [e6, e7]
    exact ⟨⟨B, b1, b2, b3⟩, b4⟩)
  have HT := Lib.hid hT
  have HG := Lib.hid hG
  have HP := Lib.hid hP
  have HL := Lib.hid hLim
  clear hM hL hQ hLim hT hG hP he hS hu hsafe hR hgl
  go_enter Tryz.func32, Tryz.ntmps32
  go_wp2_with (first
    | (go_at_call 50; refine (HCS.out _ (HT.out.below (by (repeat (first | (with_reducible exact Below.refl _ _) | ((with_reducible refine Below.setCell ?_ ?_ _); rotate_left 1; focus (first | (simp; done) | (simp; omega) | (simp at *; omega))) | ((with_reducible refine Below.alloc ?_ ?_ _); rotate_left 1; focus (first | (simp; done) | (simp; omega) | (simp at *; omega))) | (with_reducible refine Below.drew ?_) | ((with_reducible refine Calm.step (by assumption) ?_ ?_); rotate_left 1; focus (first | (simp; done) | (simp; omega) | (simp at *; omega))))))) (HG.out.below (by (repeat (first | (with_reducible exact Below.refl _ _) | ((with_reducible refine Below.setCell ?_ ?_ _); rotate_left 1; focus (first | (simp; done) | (simp; omega) | (simp at *; omega))) | ((with_reducible refine Below.alloc ?_ ?_ _); rotate_left 1; focus (first | (simp; done) | (simp; omega) | (simp at *; omega))) | (with_reducible refine Below.drew ?_) | ((with_reducible refine Calm.step (by assumption) ?_ ?_); rotate_left 1; focus (first | (simp; done) | (simp; omega) | (simp at *; omega))))))) (HP.out.below (by (repeat (first | (with_reducible exact Below.refl _ _) | ((with_reducible refine Below.setCell ?_ ?_ _); rotate_left 1; focus (first | (simp; done) | (simp; omega) | (simp at *; omega))) | ((with_reducible refine Below.alloc ?_ ?_ _); rotate_left 1; focus (first | (simp; done) | (simp; omega) | (simp at *; omega))) | (with_reducible refine Below.drew ?_) | ((with_reducible refine Calm.step (by assumption) ?_ ?_); rotate_left 1; focus (first | (simp; done) | (simp; omega) | (simp at *; omega)))))))).mono ?_; rintro r w1 ⟨rfl, hb1⟩; have HB1 := Lib.hid (show Below w.heap.size w w1 from Below.trans (by (repeat (first | (with_reducible exact Below.refl _ _) | ((with_reducible refine Below.setCell ?_ ?_ _); rotate_left 1; focus (first | (simp; done) | (simp; omega) | (simp at *; omega))) | ((with_reducible refine Below.alloc ?_ ?_ _); rotate_left 1; focus (first | (simp; done) | (simp; omega) | (simp at *; omega))) | (with_reducible refine Below.drew ?_) | ((with_reducible refine Calm.step (by assumption) ?_ ?_); rotate_left 1; focus (first | (simp; done) | (simp; omega) | (simp at *; omega)))))) (hb1.mono (by simp; omega))); have G1 := Lib.hid (show Blk w1 w.heap.size #[(.int .i64 lk), (.int .i64 ht), .slice A1 M c1, (.int .i64 rc), .slice A2 L c2] from Blk.below (by (repeat (first | ((with_reducible refine Blk.at_ ?_); focus (first | rfl | (simp; done) | (simp; omega))) | (with_reducible refine Blk.alloc ?_ _) | (with_reducible refine Blk.below ?_ (by with_reducible assumption)) | (with_reducible refine Blk.drew ?_)))) hb1); have S1 := Lib.hid (show Blk w1 (w.heap.size + 1) #[(.int .i64 h), (.int .i64 ((lv : Int))), .slice A3 Q c3] from Blk.below (by (repeat (first | ((with_reducible refine Blk.at_ ?_); focus (first | rfl | (simp; done) | (simp; omega))) | (with_reducible refine Blk.alloc ?_ _) | (with_reducible refine Blk.below ?_ (by with_reducible assumption)) | (with_reducible refine Blk.drew ?_)))) hb1); have hs1 := HB1.out.size; clear hb1; obtain ⟨g0, g1, g2, g3, g4, gl, gf⟩ := G1.out.o5; obtain ⟨s0, s1, s2, sl, sf⟩ := S1.out.o3)
    | (go_at_call 53; refine (HSF.out _ (HL.out.below HB1.out) (HT.out.below HB1.out) (HP.out.below HB1.out)).mono ?_; rintro r w4 ⟨rfl, hb4⟩; have HB4 := Lib.hid (HB1.out.trans (hb4.mono hs1)); have G4 := Lib.hid (G1.out.below hb4); have S4 := Lib.hid (S1.out.below hb4); clear hb4 g0 g1 g2 g3 g4 gl gf s0 s1 s2 sl sf))
  go_loopw [7] (fun i wr => ∃ (k : Nat) (A : Option Addr) (c : Nat), lv + k ≤ L - 1 ∧ i = (.int .i64 ((k : Int))) ∧ Blk wr w.heap.size #[(.int .i64 lk), (.int .i64 ht), .slice A1 M c1, (.int .i64 rc), .slice A2 L c2] ∧
      Blk wr (w.heap.size + 1) #[(.int .i64 ((R k).h)), (.int .i64 (((lv + k : Nat) : Int))), .slice A Q c] ∧ Cells wr A (R k).ps ∧ (0 < Q → ∀ p, A = some p → p.block ≠ w.heap.size + 1) ∧ Below w.heap.size w wr) (fun i _ => L - (intOf i).toNat)
  case atStart =>
    refine ⟨0, A3, c3, by omega, rfl, G4.out, ?_, ?_, ?_, HB4.out⟩
    · rw [HR0.out.1]; exact S4.out
    · rw [HR0.out.2]; exact HP.out.below HB4.out
    · intro hq p hp
      obtain ⟨b, off, hA, hl, _⟩ := HP.out (by have := HRL.out 0; rw [HR0.out.2] at this; omega)
      cases hp; cases hA
      show b ≠ _
      omega
  case round =>
    obtain ⟨k, A, c, hk, rfl, K0, K1, hCA, hAne, hB⟩ := hrel
    have HCA := Lib.hid hCA
    have HB := Lib.hid hB
    have hsz := hB.size
    have HK0 := Lib.hid K0
    have HK1 := Lib.hid K1
    obtain ⟨g0, g1, g2, g3, g4, gl, gf⟩ := K0.o5
    obtain ⟨s0, s1, s2, sl, sf⟩ := K1.o3
    clear hCA hB K0 K1
    by_cases hlt : lv + (k + 1) ≤ L - 1
    · have HS1 := Lib.hid (HST.out wr k A c hlt (HL.out.below HB.out) (HT.out.below HB.out) (HG.out.below HB.out) HCA.out)
      have f1 : ((lv + k : Nat) : Int) < (L : Int) - 1 := by omega
      have f2 : (lv : Int) + (k : Int) < (L : Int) - 1 := by omega
      go_wp2_with (go_at_call 56; refine HS1.out.mono ?_; rintro r w5 ⟨⟨B, hBb, rfl, hc5⟩, hb5⟩; have HB5 := Lib.hid (HB.out.trans (hb5.mono hsz)); have HC5 := Lib.hid hc5; have G5 := Lib.hid (HK0.out.below hb5); have S5 := Lib.hid (HK1.out.below hb5); clear hb5 hc5 g0 g1 g2 g3 g4 gl gf s0 s1 s2; obtain ⟨s0, s1, s2, sl5, sf5⟩ := S5.out.o3)
      have ev : (lv : Int) + ((k : Int) + 1) = ((lv + (k + 1) : Nat) : Int) := by omega
      have hne : 0 < (R (k + 1)).ps.length → ∀ p, some B = some p → p.block ≠ w.heap.size + 1 := fun _ p hp => by cases hp; omega
      have hne0 : w.heap.size + 1 ≠ w.heap.size := by omega
      have K5 := ((S5.out.set (i := 0) (by simp) (.int .i64 ((R (k + 1)).h))).set (i := 1) (by simp) (.int .i64 ((lv : Int) + ((k : Int) + 1)))).set (i := 2) (by simp) (.slice (some B) Q Q)
      rw [ev] at K5 ⊢
      refine ⟨⟨k + 1, some B, Q, hlt, by rw [Int.natCast_add]; rfl, ?_, K5, ((HC5.out.sets hne 0 _).sets hne 1 _).sets hne 2 _, fun _ p hp => by cases hp; omega, ((HB5.out.setCell (by simp <;> omega) _).setCell (by simp <;> omega) _).setCell (by simp <;> omega) _⟩, ?_⟩
      · exact ((G5.out.far (p := ⟨_, 0, none⟩) hne0 _).far (p := ⟨_, 1, none⟩) hne0 _).far (p := ⟨_, 2, none⟩) hne0 _
      · simp [intOf]; omega
    · have f1 : ¬ ((lv + k : Nat) : Int) < (L : Int) - 1 := by omega
      have f2 : ¬ (lv : Int) + (k : Int) < (L : Int) - 1 := by omega
      go_wp2
      have ek : k = L - 1 - lv := by omega
      subst ek
      exact bodyPost_ret (v := .tuple #[(.int .i64 (((L - 1 - lv : Nat) : Int))), (.int .i64 0)]) (by simp [results, Tryz.results32, go_sem]) rfl ⟨rfl, HB.out⟩
end Go.Proofs.YtdeapbihbhoefaaGreatDoor

/- Contracts of slices.Equal, Run, Levels, Peaks and CheckRun. -/
namespace Go.Proofs.YtdeapbihbhoefaaGreatDoor
open Go.RowKit
open Calm (bcell Blk)

set_option maxHeartbeats 1000000 in
theorem Run_bad (lk ht rc : Int) (ts gs xs : List Int) (A1 A2 A3 : Option Addr) (c1 c2 c3 : Nat) (w : World) (hT : Cells w A1 ts) (hG : Cells w A2 gs) (hX : Cells w A3 xs) (h1 : ts.length ≤ 5000) (h2 : gs.length ≤ 5000) (h3 : xs.length ≤ 5000) (he : runErr lk ht rc ts gs xs ≠ 0) :
    Calls Tryz.prog 25 #[.agg #[(.int .i64 lk), (.int .i64 ht), .slice A1 ts.length c1, (.int .i64 rc), .slice A2 gs.length c2], .slice A3 xs.length c3] w fun r w' => r = .returned (.tuple #[.slice none 0 0, (.int .i64 (runErr lk ht rc ts gs xs))]) ∧ Below w.heap.size w w' := by
  have HCR : Hid (∀ W, Cells W A1 ts → Cells W A2 gs → Cells W A3 xs → Calls Tryz.prog 57 #[.agg #[(.int .i64 lk), (.int .i64 ht), .slice A1 ts.length c1, (.int .i64 rc), .slice A2 gs.length c2], .slice A3 xs.length c3] W fun r w' => r = .returned (.int .i64 (runErr lk ht rc ts gs xs)) ∧ Below W.heap.size W w') := Lib.hid (fun W q1 q2 q3 => checkRun_any lk ht rc ts gs xs A1 A2 A3 c1 c2 c3 W q1 q2 q3 h1 h2 h3)
  have HT := Lib.hid hT
  have HG := Lib.hid hG
  have HX := Lib.hid hX
  obtain ⟨E, hE⟩ : ∃ E, E = runErr lk ht rc ts gs xs := ⟨_, rfl⟩
  rw [← hE] at HCR he ⊢
  generalize xs.length = N at *
  generalize ts.length = M at *
  generalize gs.length = L at *
  clear hT hG hX hE
  go_enter Tryz.func25, Tryz.ntmps25
  go_wp2_with (go_at_call 57; refine (HCR.out _ (HT.out.below (by (repeat (first | (with_reducible exact Below.refl _ _) | ((with_reducible refine Below.setCell ?_ ?_ _); rotate_left 1; focus (first | (simp; done) | (simp; omega) | (simp at *; omega))) | ((with_reducible refine Below.alloc ?_ ?_ _); rotate_left 1; focus (first | (simp; done) | (simp; omega) | (simp at *; omega))) | (with_reducible refine Below.drew ?_) | ((with_reducible refine Calm.step (by assumption) ?_ ?_); rotate_left 1; focus (first | (simp; done) | (simp; omega) | (simp at *; omega))))))) (HG.out.below (by (repeat (first | (with_reducible exact Below.refl _ _) | ((with_reducible refine Below.setCell ?_ ?_ _); rotate_left 1; focus (first | (simp; done) | (simp; omega) | (simp at *; omega))) | ((with_reducible refine Below.alloc ?_ ?_ _); rotate_left 1; focus (first | (simp; done) | (simp; omega) | (simp at *; omega))) | (with_reducible refine Below.drew ?_) | ((with_reducible refine Calm.step (by assumption) ?_ ?_); rotate_left 1; focus (first | (simp; done) | (simp; omega) | (simp at *; omega))))))) (HX.out.below (by (repeat (first | (with_reducible exact Below.refl _ _) | ((with_reducible refine Below.setCell ?_ ?_ _); rotate_left 1; focus (first | (simp; done) | (simp; omega) | (simp at *; omega))) | ((with_reducible refine Below.alloc ?_ ?_ _); rotate_left 1; focus (first | (simp; done) | (simp; omega) | (simp at *; omega))) | (with_reducible refine Below.drew ?_) | ((with_reducible refine Calm.step (by assumption) ?_ ?_); rotate_left 1; focus (first | (simp; done) | (simp; omega) | (simp at *; omega)))))))).mono ?_; rintro r w1 ⟨rfl, hb1⟩; have HB1 := Lib.hid (show Below w.heap.size w w1 from Below.trans (by (repeat (first | (with_reducible exact Below.refl _ _) | ((with_reducible refine Below.setCell ?_ ?_ _); rotate_left 1; focus (first | (simp; done) | (simp; omega) | (simp at *; omega))) | ((with_reducible refine Below.alloc ?_ ?_ _); rotate_left 1; focus (first | (simp; done) | (simp; omega) | (simp at *; omega))) | (with_reducible refine Below.drew ?_) | ((with_reducible refine Calm.step (by assumption) ?_ ?_); rotate_left 1; focus (first | (simp; done) | (simp; omega) | (simp at *; omega)))))) (hb1.mono (by simp; try omega))); clear hb1)
  exact bodyPost_ret (v := .tuple #[.slice none 0 0, (.int .i64 E)]) (by simp [results, Tryz.results25, go_sem]) rfl ⟨rfl, HB1.out⟩

set_option maxHeartbeats 1000000 in
theorem Levels_bad (lk ht rc : Int) (ts gs xs : List Int) (A1 A2 A3 : Option Addr) (c1 c2 c3 : Nat) (w : World) (hT : Cells w A1 ts) (hG : Cells w A2 gs) (hX : Cells w A3 xs) (h1 : ts.length ≤ 5000) (h2 : gs.length ≤ 5000) (h3 : xs.length ≤ 5000) (he : runErr lk ht rc ts gs xs ≠ 0) :
    Calls Tryz.prog 27 #[.agg #[(.int .i64 lk), (.int .i64 ht), .slice A1 ts.length c1, (.int .i64 rc), .slice A2 gs.length c2], .slice A3 xs.length c3] w fun r w' => r = .returned (.tuple #[.slice none 0 0, (.int .i64 (runErr lk ht rc ts gs xs))]) ∧ Below w.heap.size w w' := by
  have HCR : Hid (∀ W, Cells W A1 ts → Cells W A2 gs → Cells W A3 xs → Calls Tryz.prog 57 #[.agg #[(.int .i64 lk), (.int .i64 ht), .slice A1 ts.length c1, (.int .i64 rc), .slice A2 gs.length c2], .slice A3 xs.length c3] W fun r w' => r = .returned (.int .i64 (runErr lk ht rc ts gs xs)) ∧ Below W.heap.size W w') := Lib.hid (fun W q1 q2 q3 => checkRun_any lk ht rc ts gs xs A1 A2 A3 c1 c2 c3 W q1 q2 q3 h1 h2 h3)
  have HT := Lib.hid hT
  have HG := Lib.hid hG
  have HX := Lib.hid hX
  obtain ⟨E, hE⟩ : ∃ E, E = runErr lk ht rc ts gs xs := ⟨_, rfl⟩
  rw [← hE] at HCR he ⊢
  generalize xs.length = N at *
  generalize ts.length = M at *
  generalize gs.length = L at *
  clear hT hG hX hE
  go_enter Tryz.func27, Tryz.ntmps27
  go_wp2_with (go_at_call 57; refine (HCR.out _ (HT.out.below (by (repeat (first | (with_reducible exact Below.refl _ _) | ((with_reducible refine Below.setCell ?_ ?_ _); rotate_left 1; focus (first | (simp; done) | (simp; omega) | (simp at *; omega))) | ((with_reducible refine Below.alloc ?_ ?_ _); rotate_left 1; focus (first | (simp; done) | (simp; omega) | (simp at *; omega))) | (with_reducible refine Below.drew ?_) | ((with_reducible refine Calm.step (by assumption) ?_ ?_); rotate_left 1; focus (first | (simp; done) | (simp; omega) | (simp at *; omega))))))) (HG.out.below (by (repeat (first | (with_reducible exact Below.refl _ _) | ((with_reducible refine Below.setCell ?_ ?_ _); rotate_left 1; focus (first | (simp; done) | (simp; omega) | (simp at *; omega))) | ((with_reducible refine Below.alloc ?_ ?_ _); rotate_left 1; focus (first | (simp; done) | (simp; omega) | (simp at *; omega))) | (with_reducible refine Below.drew ?_) | ((with_reducible refine Calm.step (by assumption) ?_ ?_); rotate_left 1; focus (first | (simp; done) | (simp; omega) | (simp at *; omega))))))) (HX.out.below (by (repeat (first | (with_reducible exact Below.refl _ _) | ((with_reducible refine Below.setCell ?_ ?_ _); rotate_left 1; focus (first | (simp; done) | (simp; omega) | (simp at *; omega))) | ((with_reducible refine Below.alloc ?_ ?_ _); rotate_left 1; focus (first | (simp; done) | (simp; omega) | (simp at *; omega))) | (with_reducible refine Below.drew ?_) | ((with_reducible refine Calm.step (by assumption) ?_ ?_); rotate_left 1; focus (first | (simp; done) | (simp; omega) | (simp at *; omega)))))))).mono ?_; rintro r w1 ⟨rfl, hb1⟩; have HB1 := Lib.hid (show Below w.heap.size w w1 from Below.trans (by (repeat (first | (with_reducible exact Below.refl _ _) | ((with_reducible refine Below.setCell ?_ ?_ _); rotate_left 1; focus (first | (simp; done) | (simp; omega) | (simp at *; omega))) | ((with_reducible refine Below.alloc ?_ ?_ _); rotate_left 1; focus (first | (simp; done) | (simp; omega) | (simp at *; omega))) | (with_reducible refine Below.drew ?_) | ((with_reducible refine Calm.step (by assumption) ?_ ?_); rotate_left 1; focus (first | (simp; done) | (simp; omega) | (simp at *; omega)))))) (hb1.mono (by simp; try omega))); clear hb1)
  exact bodyPost_ret (v := .tuple #[.slice none 0 0, (.int .i64 E)]) (by simp [results, Tryz.results27, go_sem]) rfl ⟨rfl, HB1.out⟩

set_option maxHeartbeats 1000000 in
theorem Peaks_bad (lk ht rc : Int) (ts gs xs : List Int) (A1 A2 A3 : Option Addr) (c1 c2 c3 : Nat) (w : World) (hT : Cells w A1 ts) (hG : Cells w A2 gs) (hX : Cells w A3 xs) (h1 : ts.length ≤ 5000) (h2 : gs.length ≤ 5000) (h3 : xs.length ≤ 5000) (he : runErr lk ht rc ts gs xs ≠ 0) :
    Calls Tryz.prog 26 #[.agg #[(.int .i64 lk), (.int .i64 ht), .slice A1 ts.length c1, (.int .i64 rc), .slice A2 gs.length c2], .slice A3 xs.length c3] w fun r w' => r = .returned (.tuple #[.agg #[(.int .i64 0), (.int .i64 0)], (.int .i64 (runErr lk ht rc ts gs xs))]) ∧ Below w.heap.size w w' := by
  have HCR : Hid (∀ W, Cells W A1 ts → Cells W A2 gs → Cells W A3 xs → Calls Tryz.prog 57 #[.agg #[(.int .i64 lk), (.int .i64 ht), .slice A1 ts.length c1, (.int .i64 rc), .slice A2 gs.length c2], .slice A3 xs.length c3] W fun r w' => r = .returned (.int .i64 (runErr lk ht rc ts gs xs)) ∧ Below W.heap.size W w') := Lib.hid (fun W q1 q2 q3 => checkRun_any lk ht rc ts gs xs A1 A2 A3 c1 c2 c3 W q1 q2 q3 h1 h2 h3)
  have HT := Lib.hid hT
  have HG := Lib.hid hG
  have HX := Lib.hid hX
  obtain ⟨E, hE⟩ : ∃ E, E = runErr lk ht rc ts gs xs := ⟨_, rfl⟩
  rw [← hE] at HCR he ⊢
  generalize xs.length = N at *
  generalize ts.length = M at *
  generalize gs.length = L at *
  clear hT hG hX hE
  go_enter Tryz.func26, Tryz.ntmps26
  go_wp2_with (go_at_call 57; refine (HCR.out _ (HT.out.below (by (repeat (first | (with_reducible exact Below.refl _ _) | ((with_reducible refine Below.setCell ?_ ?_ _); rotate_left 1; focus (first | (simp; done) | (simp; omega) | (simp at *; omega))) | ((with_reducible refine Below.alloc ?_ ?_ _); rotate_left 1; focus (first | (simp; done) | (simp; omega) | (simp at *; omega))) | (with_reducible refine Below.drew ?_) | ((with_reducible refine Calm.step (by assumption) ?_ ?_); rotate_left 1; focus (first | (simp; done) | (simp; omega) | (simp at *; omega))))))) (HG.out.below (by (repeat (first | (with_reducible exact Below.refl _ _) | ((with_reducible refine Below.setCell ?_ ?_ _); rotate_left 1; focus (first | (simp; done) | (simp; omega) | (simp at *; omega))) | ((with_reducible refine Below.alloc ?_ ?_ _); rotate_left 1; focus (first | (simp; done) | (simp; omega) | (simp at *; omega))) | (with_reducible refine Below.drew ?_) | ((with_reducible refine Calm.step (by assumption) ?_ ?_); rotate_left 1; focus (first | (simp; done) | (simp; omega) | (simp at *; omega))))))) (HX.out.below (by (repeat (first | (with_reducible exact Below.refl _ _) | ((with_reducible refine Below.setCell ?_ ?_ _); rotate_left 1; focus (first | (simp; done) | (simp; omega) | (simp at *; omega))) | ((with_reducible refine Below.alloc ?_ ?_ _); rotate_left 1; focus (first | (simp; done) | (simp; omega) | (simp at *; omega))) | (with_reducible refine Below.drew ?_) | ((with_reducible refine Calm.step (by assumption) ?_ ?_); rotate_left 1; focus (first | (simp; done) | (simp; omega) | (simp at *; omega)))))))).mono ?_; rintro r w1 ⟨rfl, hb1⟩; have HB1 := Lib.hid (show Below w.heap.size w w1 from Below.trans (by (repeat (first | (with_reducible exact Below.refl _ _) | ((with_reducible refine Below.setCell ?_ ?_ _); rotate_left 1; focus (first | (simp; done) | (simp; omega) | (simp at *; omega))) | ((with_reducible refine Below.alloc ?_ ?_ _); rotate_left 1; focus (first | (simp; done) | (simp; omega) | (simp at *; omega))) | (with_reducible refine Below.drew ?_) | ((with_reducible refine Calm.step (by assumption) ?_ ?_); rotate_left 1; focus (first | (simp; done) | (simp; omega) | (simp at *; omega)))))) (hb1.mono (by simp; try omega))); have Z1 := Lib.hid (show Blk w1 (w.heap.size + 1) #[(.int .i64 0), (.int .i64 0)] from Blk.below (by (repeat (first | ((with_reducible refine Blk.at_ ?_); focus (first | rfl | (simp; done) | (simp; omega))) | (with_reducible refine Blk.alloc ?_ _) | (with_reducible refine Blk.below ?_ (by with_reducible assumption)) | (with_reducible refine Blk.drew ?_)))) hb1); obtain ⟨z0, z1, zl, zf⟩ := Z1.out.o2; clear hb1)
  have K := (Z1.out.set (i := 0) (by simp) (.int .i64 0)).set (i := 1) (by simp) (.int .i64 0)
  obtain ⟨k0, k1, _, _⟩ := K.o2
  refine bodyPost_ret (v := .tuple #[.agg #[(.int .i64 0), (.int .i64 0)], (.int .i64 E)]) ?_ rfl ⟨rfl, ?_⟩
  · simp [results, Tryz.results26, go_sem, k0, k1]
  · exact (HB1.out.setCell (by simp <;> omega) _).setCell (by simp <;> omega) _

set_option maxHeartbeats 1000000 in
theorem levels_ok (lk ht rc : Int) (ts gs xs : List Int) (A1 A2 A3 : Option Addr) (c1 c2 c3 : Nat) (w : World) (hL : Lim w) (hV : Valid lk ht rc ts gs) (hT : Cells w A1 ts) (hG : Cells w A2 gs) (hX : Cells w A3 xs) (hx : inB 2048 xs) (h1 : ts.length ≤ 5000) (h2 : gs.length ≤ 5000) (h3 : xs.length ≤ 5000)
    (he : runErr lk ht rc ts gs xs = 0) :
    Calls Tryz.prog 27 #[.agg #[(.int .i64 lk), (.int .i64 ht), .slice A1 ts.length c1, (.int .i64 rc), .slice A2 gs.length c2], .slice A3 xs.length c3] w fun r w' => (∃ B d, r = .returned (.tuple #[.slice B xs.length d, (.int .i64 0)]) ∧ Cells w' B (lvsK lk ht rc ts gs xs xs.length)) ∧ Below w.heap.size w w' := by
  have HCR : Hid (∀ W, Cells W A1 ts → Cells W A2 gs → Cells W A3 xs → Calls Tryz.prog 57 #[.agg #[(.int .i64 lk), (.int .i64 ht), .slice A1 ts.length c1, (.int .i64 rc), .slice A2 gs.length c2], .slice A3 xs.length c3] W fun r w' => r = .returned (.int .i64 0) ∧ Below W.heap.size W w') := Lib.hid (fun W q1 q2 q3 => by
    have := checkRun_any lk ht rc ts gs xs A1 A2 A3 c1 c2 c3 W q1 q2 q3 h1 h2 h3
    rwa [he] at this)
  have HR : Hid (∀ W, Lim W → Cells W A1 ts → Cells W A2 gs → Cells W A3 xs → Calls Tryz.prog 58 #[.agg #[(.int .i64 lk), (.int .i64 ht), .slice A1 ts.length c1, (.int .i64 rc), .slice A2 gs.length c2], .slice A3 xs.length c3] W fun r w' => (∃ B1 d1 B2 d2, r = .returned (.tuple #[.slice B1 xs.length d1, .slice B2 xs.length d2]) ∧ Cells w' B1 (outsK lk ht rc ts gs xs xs.length) ∧ Cells w' B2 (lvsK lk ht rc ts gs xs xs.length)) ∧ Below W.heap.size W w') :=
    Lib.hid (fun W q0 q1 q2 q3 => run_any lk ht rc ts gs xs A1 A2 A3 c1 c2 c3 W q0 hV q1 q2 q3 hx h3)
  have HT := Lib.hid hT
  have HG := Lib.hid hG
  have HX := Lib.hid hX
  have HL := Lib.hid hL
  generalize xs.length = N at *
  generalize ts.length = M at *
  generalize gs.length = L at *
  clear hT hG hX hL hV hx he
  go_enter Tryz.func27, Tryz.ntmps27
  go_wp2_with (first
    | (go_at_call 57; refine (HCR.out _ (HT.out.below (by (repeat (first | (with_reducible exact Below.refl _ _) | ((with_reducible refine Below.setCell ?_ ?_ _); rotate_left 1; focus (first | (simp; done) | (simp; omega) | (simp at *; omega))) | ((with_reducible refine Below.alloc ?_ ?_ _); rotate_left 1; focus (first | (simp; done) | (simp; omega) | (simp at *; omega))) | (with_reducible refine Below.drew ?_) | ((with_reducible refine Calm.step (by assumption) ?_ ?_); rotate_left 1; focus (first | (simp; done) | (simp; omega) | (simp at *; omega))))))) (HG.out.below (by (repeat (first | (with_reducible exact Below.refl _ _) | ((with_reducible refine Below.setCell ?_ ?_ _); rotate_left 1; focus (first | (simp; done) | (simp; omega) | (simp at *; omega))) | ((with_reducible refine Below.alloc ?_ ?_ _); rotate_left 1; focus (first | (simp; done) | (simp; omega) | (simp at *; omega))) | (with_reducible refine Below.drew ?_) | ((with_reducible refine Calm.step (by assumption) ?_ ?_); rotate_left 1; focus (first | (simp; done) | (simp; omega) | (simp at *; omega))))))) (HX.out.below (by (repeat (first | (with_reducible exact Below.refl _ _) | ((with_reducible refine Below.setCell ?_ ?_ _); rotate_left 1; focus (first | (simp; done) | (simp; omega) | (simp at *; omega))) | ((with_reducible refine Below.alloc ?_ ?_ _); rotate_left 1; focus (first | (simp; done) | (simp; omega) | (simp at *; omega))) | (with_reducible refine Below.drew ?_) | ((with_reducible refine Calm.step (by assumption) ?_ ?_); rotate_left 1; focus (first | (simp; done) | (simp; omega) | (simp at *; omega)))))))).mono ?_; rintro r w1 ⟨rfl, hb1⟩; have HB1 := Lib.hid (show Below w.heap.size w w1 from Below.trans (by (repeat (first | (with_reducible exact Below.refl _ _) | ((with_reducible refine Below.setCell ?_ ?_ _); rotate_left 1; focus (first | (simp; done) | (simp; omega) | (simp at *; omega))) | ((with_reducible refine Below.alloc ?_ ?_ _); rotate_left 1; focus (first | (simp; done) | (simp; omega) | (simp at *; omega))) | (with_reducible refine Below.drew ?_) | ((with_reducible refine Calm.step (by assumption) ?_ ?_); rotate_left 1; focus (first | (simp; done) | (simp; omega) | (simp at *; omega)))))) (hb1.mono (by simp))); have K0 : Blk w1 w.heap.size #[(.int .i64 lk), (.int .i64 ht), .slice A1 M c1, (.int .i64 rc), .slice A2 L c2] := Blk.below (by (repeat (first | ((with_reducible refine Blk.at_ ?_); focus (first | rfl | (simp; done) | (simp; omega))) | (with_reducible refine Blk.alloc ?_ _) | (with_reducible refine Blk.below ?_ (by with_reducible assumption)) | (with_reducible refine Blk.drew ?_)))) hb1; obtain ⟨c00, c01, c02, c03, c04, l0, f0⟩ := K0.o5; clear hb1 K0)
    | (go_at_call 58; refine (HR.out _ (HL.out.below HB1.out) (HT.out.below HB1.out) (HG.out.below HB1.out) (HX.out.below HB1.out)).mono ?_; rintro r w2 ⟨⟨B1, d1, B2, d2, rfl, _, hc1⟩, hb2⟩; have HC1 := Lib.hid hc1; have HB2 := Lib.hid (HB1.out.trans (hb2.mono HB1.out.size)); clear hb2 hc1))
  exact bodyPost_ret (v := .tuple #[.slice B2 N d2, (.int .i64 0)]) (by simp [results, Tryz.results27, go_sem]) rfl (by first | exact ⟨⟨B2, d2, rfl, HC1.out⟩, HB2.out⟩ | exact ⟨⟨B2, ⟨d2, rfl⟩, HC1.out⟩, HB2.out⟩)

end Go.Proofs.YtdeapbihbhoefaaGreatDoor

/- Contracts of CheckRun (with a right length), steady, Steady. -/
namespace Go.Proofs.YtdeapbihbhoefaaGreatDoor
open Go.RowKit
open Calm (bcell Blk)

theorem sigErr_in {xs : List Int} (e : sigErr xs = 0) : inB 2048 xs := by
  have h := firstOf_eq_zero.1 e
  exact eachErr_zero.1 (h (eachErr xs (-2048) 2048) (by simp))
theorem runErr_zero {lk ht rc : Int} {ts gs xs : List Int} (e : runErr lk ht rc ts gs xs = 0) : guardErr lk ht rc ts gs = 0 ∧ sigErr xs = 0 := by
  have h := firstOf_eq_zero.1 e
  exact ⟨h _ (by simp), h (sigErr xs) (by simp)⟩

/-- the greatest output whose square is not above hs: from y on, in n steps. -/
def stdG (hs : Int) : Nat → Nat → Nat
  | y, 0 => y
  | y, n + 1 => if ((y : Int) + 1) * ((y : Int) + 1) ≤ hs then stdG hs (y + 1) n else y
def stdF (lk ht : Int) : Nat := stdG (ht / 2 ^ lk.toNat) 0 2048

set_option maxRecDepth 100000 in
set_option maxHeartbeats 1000000 in
theorem steady_any (lk ht rc : Int) (A1 A2 : Option Addr) (M L c1 c2 : Nat) (w : World) (hl : 1 ≤ lk ∧ lk ≤ 8) (hh : 0 ≤ ht ∧ ht ≤ 536870912) :
    Calls Tryz.prog 60 #[.agg #[(.int .i64 lk), (.int .i64 ht), .slice A1 M c1, (.int .i64 rc), .slice A2 L c2]] w fun r w' => r = .returned (.int .i64 ((stdF lk ht : Int))) ∧ Below w.heap.size w w' := by
  obtain ⟨h1, h2⟩ := hl
  obtain ⟨h3, h4⟩ := hh
  obtain ⟨h5, h6⟩ := shr_bd lk h3
  obtain ⟨hs, hhs⟩ : ∃ hs, hs = ht / 2 ^ lk.toNat := ⟨_, rfl⟩
  have HF : Hid (stdF lk ht = stdG hs 0 2048) := Lib.hid (by rw [hhs]; rfl)
  have HHS := Lib.hid hhs
  obtain ⟨R, hR⟩ : ∃ R, R = stdF lk ht := ⟨_, rfl⟩
  rw [← hR] at HF ⊢
  clear hhs hR
  go_enter Tryz.func60, Tryz.ntmps60
  go_wp2
  go_loopw [3] (fun i wr => ∃ k : Nat, k ≤ 2048 ∧ i = (.int .i64 ((k : Int))) ∧ R = stdG hs k (2048 - k) ∧ Blk wr w.heap.size #[(.int .i64 lk), (.int .i64 ht), .slice A1 M c1, (.int .i64 rc), .slice A2 L c2] ∧ Below w.heap.size w wr) (fun i _ => 2048 - (intOf i).toNat)
  case atStart => exact ⟨0, by omega, rfl, HF.out, by (repeat (first | ((with_reducible refine Blk.at_ ?_); focus (first | rfl | (simp; done) | (simp; omega))) | (with_reducible refine Blk.alloc ?_ _) | (with_reducible refine Blk.below ?_ (by with_reducible assumption)) | (with_reducible refine Blk.drew ?_))), by (repeat (first | (with_reducible exact Below.refl _ _) | ((with_reducible refine Below.setCell ?_ ?_ _); rotate_left 1; focus (first | (simp; done) | (simp; omega) | (simp at *; omega))) | ((with_reducible refine Below.alloc ?_ ?_ _); rotate_left 1; focus (first | (simp; done) | (simp; omega) | (simp at *; omega))) | (with_reducible refine Below.drew ?_) | ((with_reducible refine Calm.step (by assumption) ?_ ?_); rotate_left 1; focus (first | (simp; done) | (simp; omega) | (simp at *; omega)))))⟩
  case round =>
    obtain ⟨k, hk, rfl, hRk, K0, hB⟩ := hrel
    have HR := Lib.hid hRk
    have HB := Lib.hid hB
    have HK := Lib.hid K0
    obtain ⟨g0, g1, g2, g3, g4, gl, gf⟩ := K0.o5
    clear hRk hB K0 HF
    by_cases hlt : k < 2048
    · have m1 : ((k : Int) + 1) * ((k : Int) + 1) ≤ 4194304 := by
        have := mul_bd (a := (k : Int) + 1) (b := (k : Int) + 1) (A := 2048) (B := 2048) (by omega) (by omega)
        omega
      have m2 : 0 ≤ ((k : Int) + 1) * ((k : Int) + 1) := Int.mul_nonneg (by omega) (by omega)
      obtain ⟨q, hq⟩ : ∃ q, q = ((k : Int) + 1) * ((k : Int) + 1) := ⟨_, rfl⟩
      rw [← hq] at m1 m2
      by_cases hc : ((k : Int) + 1) * ((k : Int) + 1) ≤ hs
      · have hc2 : q ≤ ht / 2 ^ lk.toNat := by rw [← HHS.out, hq]; exact hc
        have HC := Lib.hid hc
        have hq' := hq.symm
        clear hc hq
        go_wp2
        go_roundw
        case rel =>
          refine ⟨k + 1, by omega, by go_num, ?_, HK.out, HB.out⟩
          rw [HR.out, show 2048 - k = (2048 - (k + 1)) + 1 by omega]
          exact if_pos HC.out
        case measure => simp [intOf]; omega
      · have hc2 : ¬ q ≤ ht / 2 ^ lk.toNat := by rw [← HHS.out, hq]; exact hc
        have hRK : R = k := by
          rw [HR.out, show 2048 - k = (2048 - (k + 1)) + 1 by omega]
          exact if_neg hc
        have HRK := Lib.hid hRK
        have hq' := hq.symm
        clear hc hq hRK
        go_wp2
        go_ret
        exact ⟨ret_i (by rw [HRK.out]), HB.out⟩
    · obtain rfl : k = 2048 := by omega
      have hRK : R = 2048 := HR.out
      subst hRK
      go_wp2
      go_ret
      exact ⟨rfl, HB.out⟩
end Go.Proofs.YtdeapbihbhoefaaGreatDoor

/- Plain laws: a heat that cools. -/
namespace Go.Proofs.YtdeapbihbhoefaaGreatDoor
open Go.RowKit

/-- a heat behind k steps without outputs. -/
def coolK (lk h : Int) : Nat → Int
  | 0 => h
  | k + 1 => coolF lk (coolK lk h k)
theorem coolK_bd (lk : Int) {h : Int} (h0 : 0 ≤ h) : ∀ k, 0 ≤ coolK lk h k ∧ coolK lk h k ≤ h
  | 0 => ⟨h0, Int.le_refl _⟩
  | k + 1 => by
    have h1 := coolK_bd lk h0 k
    have h2 := coolF_bd lk h1.1
    simp only [coolK]
    omega
/-- the answer of Cool, in so many steps, from a heat and a number on. -/
def coolG (lk to : Int) : Nat → Int → Nat → Int × Int
  | 0, _, _ => (0, 24)
  | f + 1, h, n => if h ≤ to then ((n : Int), 0) else if coolF lk h = h then (0, 24) else coolG lk to f (coolF lk h) (n + 1)
def coolR (lk h to : Int) : Int × Int := coolG lk to (h.toNat + 1) h 0
theorem coolG_step {lk to : Int} {f n : Nat} {h : Int} (h1 : to < h) (h2 : coolF lk h ≠ h) : coolG lk to (f + 1) h n = coolG lk to f (coolF lk h) (n + 1) := by
  show (if h ≤ to then ((n : Int), (0 : Int)) else if coolF lk h = h then (0, 24) else coolG lk to f (coolF lk h) (n + 1)) = _
  rw [if_neg (by omega), if_neg h2]
theorem coolG_done {lk to : Int} {f n : Nat} {h : Int} (h1 : h ≤ to) : coolG lk to (f + 1) h n = ((n : Int), 0) := if_pos h1
theorem coolG_stuck {lk to : Int} {f n : Nat} {h : Int} (h1 : to < h) (h2 : coolF lk h = h) : coolG lk to (f + 1) h n = (0, 24) := by
  show (if h ≤ to then ((n : Int), (0 : Int)) else if coolF lk h = h then (0, 24) else coolG lk to f (coolF lk h) (n + 1)) = _
  rw [if_neg (by omega), if_pos h2]
theorem coolK_fall {lk h to : Int} (h0 : 0 ≤ h) : ∀ k, (∀ j, j < k → to < coolK lk h j ∧ coolK lk h (j + 1) ≠ coolK lk h j) → coolK lk h k + k ≤ h
  | 0, _ => by simp [coolK]
  | k + 1, hk => by
    have ih := coolK_fall h0 k (fun j hj => hk j (by omega))
    have h1 := (hk k (by omega)).2
    have h2 := coolF_bd lk (coolK_bd lk h0 k).1
    simp only [coolK] at h1 ⊢
    omega
theorem coolR_steps {lk h to : Int} (h0 : 0 ≤ h) : ∀ k, (∀ j, j < k → to < coolK lk h j ∧ coolK lk h (j + 1) ≠ coolK lk h j) → ∃ f, coolR lk h to = coolG lk to (f + 1) (coolK lk h k) k ∧ h.toNat = f + k
  | 0, _ => ⟨h.toNat, rfl, rfl⟩
  | k + 1, hk => by
    obtain ⟨f, h1, h2⟩ := coolR_steps h0 k (fun j hj => hk j (by omega))
    have h3 := coolK_fall h0 (k + 1) hk
    have h4 := (coolK_bd lk h0 (k + 1)).1
    obtain ⟨f, rfl⟩ : ∃ g, f = g + 1 := ⟨f - 1, by omega⟩
    refine ⟨f, ?_, by omega⟩
    rw [h1, coolG_step (hk k (by omega)).1 (hk k (by omega)).2]
    rfl
theorem coolR_done {lk h to : Int} (h0 : 0 ≤ h) {k : Nat} (hk : ∀ j, j < k → to < coolK lk h j ∧ coolK lk h (j + 1) ≠ coolK lk h j) (h1 : coolK lk h k ≤ to) : coolR lk h to = ((k : Int), 0) := by
  obtain ⟨f, e, _⟩ := coolR_steps h0 k hk
  rw [e, coolG_done h1]
theorem coolR_stuck {lk h to : Int} (h0 : 0 ≤ h) {k : Nat} (hk : ∀ j, j < k → to < coolK lk h j ∧ coolK lk h (j + 1) ≠ coolK lk h j) (h1 : to < coolK lk h k) (h2 : coolK lk h (k + 1) = coolK lk h k) : coolR lk h to = (0, 24) := by
  obtain ⟨f, e, _⟩ := coolR_steps h0 k hk
  rw [e, coolG_stuck h1 h2]
end Go.Proofs.YtdeapbihbhoefaaGreatDoor

/- Plain laws: the weight of the taps, the steady output, the quiet input. -/
namespace Go.Proofs.YtdeapbihbhoefaaGreatDoor
open Go.RowKit

/-- the sum of the taps' sizes. -/
def wtK (ts : List Int) : Nat → Int
  | 0 => 0
  | k + 1 => wtK ts k + absI (ts.getD k 0)
theorem absI_bd {x b : Int} (h : -b ≤ x ∧ x ≤ b) : 0 ≤ absI x ∧ absI x ≤ b := by unfold absI; omega
theorem wtK_bd {ts : List Int} (h : inB 64 ts) : ∀ k : Nat, 0 ≤ wtK ts k ∧ wtK ts k ≤ 64 * (k : Int)
  | 0 => by simp [wtK]
  | k + 1 => by
    have h1 := wtK_bd h k
    have h2 := absI_bd (inB_get h (by omega) k)
    simp only [wtK]
    omega
theorem wtK_zero {ts : List Int} : ∀ {k : Nat}, (∀ i, i < k → ts.getD i 0 = 0) → wtK ts k = 0
  | 0, _ => rfl
  | k + 1, h => by
    simp only [wtK]
    rw [wtK_zero (fun i hi => h i (by omega)), h k (by omega), absI_zero]
    rfl
/-- the quiet input. -/
def quietF (lk ht rc : Int) (ts : List Int) : Int := if 0 < wtK ts 8 then min (stdF lk ht : Int) (rc / wtK ts 8) else (stdF lk ht : Int)
end Go.Proofs.YtdeapbihbhoefaaGreatDoor
