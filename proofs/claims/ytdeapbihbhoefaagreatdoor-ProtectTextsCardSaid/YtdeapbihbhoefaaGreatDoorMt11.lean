/- Part 11 of the texts of the claim: X5, Y1, Y2. -/
import Derived.Test.YtdeapbihbhoefaaGreatDoorMt10

/- protect.Loudest. -/
namespace Go.Proofs.YtdeapbihbhoefaaGreatDoor
open Go.RowKit
open Calm (bcell Blk)

theorem visit_any (lk ht rc : Int) (ts gs ls : List Int) (A1 A2 A5 : Option Addr) (M L Q N c1 c2 c5 sb : Nat) (hM : M = ts.length) (hQ : Q + 1 = ts.length) (hN : N = ls.length) (hN2 : N ≤ 5000) (hV : Valid lk ht rc ts gs) (hls : inB 2048 ls)
    (oG : sb ≠ 0) (o1 : Off sb A1) (o5 : Off sb A5) : ∀ n, VisC lk ht rc ts gs ls A1 A2 A5 M L Q N c1 c2 c5 sb n
  | 0 => fun l s b A3 A6 K c3 c6 w hK hK2 hS hl hX hP hT hX5 hL hSB o6 o3 => visit_zero lk ht rc s l b A1 A2 A3 A5 A6 M L Q N K c1 c2 c3 c5 c6 sb w hK (by omega) hX hl hSB o6
  | n + 1 => visit_succ lk ht rc ts gs ls A1 A2 A5 M L Q N c1 c2 c5 sb n hM hQ hN hN2 hV hls oG o1 o5 (visit_any lk ht rc ts gs ls A1 A2 A5 M L Q N c1 c2 c5 sb hM hQ hN hN2 hV hls oG o1 o5 n)

/-- the state at rest. -/
def restS (ts gs : List Int) : St := ⟨0, gs.length - 1, List.replicate (ts.length - 1) 0⟩
/-- the loudest list of n levels. -/
def loudF (lk ht rc : Int) (ts gs ls : List Int) (n : Nat) : Option (List Int) := visF lk ht rc ts ls n [] (restS ts gs) none
def loudErr (lk ht rc : Int) (ts gs ls : List Int) (n : Int) : Int := firstOf [guardErr lk ht rc ts gs, someErr ls.length 6, ascErr ls (-2048) 2048, rangeErr n 0 6]

set_option maxHeartbeats 4000000 in
set_option maxRecDepth 100000 in
theorem Loudest_bad (lk ht rc n : Int) (ts gs ls : List Int) (A1 A2 A5 : Option Addr) (c1 c2 c5 M L N : Nat) (w : World) (hM : M = ts.length) (hL : L = gs.length) (hN : N = ls.length) (hT : Cells w A1 ts) (hG : Cells w A2 gs) (hX : Cells w A5 ls) (h1 : M ≤ 5000) (h2 : L ≤ 5000) (h3 : N ≤ 5000)
    (he : loudErr lk ht rc ts gs ls n ≠ 0) :
    Calls Tryz.prog 33 #[.agg #[(.int .i64 lk), (.int .i64 ht), .slice A1 M c1, (.int .i64 rc), .slice A2 L c2], .slice A5 N c5, (.int .i64 n)] w fun r w' => r = .returned (.tuple #[.slice none 0 0, (.int .i64 (loudErr lk ht rc ts gs ls n))]) ∧ Below w.heap.size w w' := by
  have HCG : Hid (∀ W, Cells W A1 ts → Cells W A2 gs → Calls Tryz.prog 35 #[.agg #[(.int .i64 lk), (.int .i64 ht), .slice A1 M c1, (.int .i64 rc), .slice A2 L c2]] W fun r w' => r = .returned (.int .i64 (guardErr lk ht rc ts gs)) ∧ Below W.heap.size W w') := Lib.hid (fun W q1 q2 => by rw [hM, hL]; exact checkGuard_any lk ht rc ts gs A1 A2 c1 c2 W q1 q2 (by omega) (by omega))
  have HSO : Hid (∀ W, Calls Tryz.prog 64 #[.slice A5 N c5, (.int .i64 6)] W fun r w' => r = .returned (.int .i64 (someErr ls.length 6)) ∧ Below W.heap.size W w') := Lib.hid (fun W => by rw [hN]; exact some_any A5 ls.length c5 6 W (by omega))
  have HAS : Hid (∀ W, Cells W A5 ls → Calls Tryz.prog 65 #[.slice A5 N c5, (.int .i64 (-2048)), (.int .i64 2048)] W fun r w' => r = .returned (.int .i64 (ascErr ls (-2048) 2048)) ∧ Below W.heap.size W w') := Lib.hid (fun W q => by rw [hN]; exact ascending_any A5 ls c5 (-2048) 2048 W q (by omega))
  have HFI : Hid (∀ (a b c d : Int) (W : World), Calls Tryz.prog 49 #[.slice (some ⟨W.heap.size, 0, none⟩) 4 4] (W.alloc (.cells #[(.int .i64 a), (.int .i64 b), (.int .i64 c), (.int .i64 d)] 27)) fun r w' => r = .returned (.int .i64 (firstOf [a, b, c, d])) ∧ (W.alloc (.cells #[(.int .i64 a), (.int .i64 b), (.int .i64 c), (.int .i64 d)] 27)) = w') := Lib.hid (fun a b c d W => first_cells [a, b, c, d] W (by simp))
  have HT := Lib.hid hT
  have HG := Lib.hid hG
  have HX := Lib.hid hX
  have HE : Hid (firstOf [guardErr lk ht rc ts gs, someErr ls.length 6, ascErr ls (-2048) 2048, rangeErr n 0 6] = loudErr lk ht rc ts gs ls n) := Lib.hid rfl
  obtain ⟨E, hE⟩ : ∃ E, E = loudErr lk ht rc ts gs ls n := ⟨_, rfl⟩
  obtain ⟨a, ha⟩ : ∃ a, a = guardErr lk ht rc ts gs := ⟨_, rfl⟩
  obtain ⟨b, hb⟩ : ∃ b, b = someErr ls.length 6 := ⟨_, rfl⟩
  obtain ⟨c, hc⟩ : ∃ c, c = ascErr ls (-2048) 2048 := ⟨_, rfl⟩
  rw [← hE] at HE he ⊢
  rw [← ha] at HE HCG
  rw [← hb] at HE HSO
  rw [← hc] at HE HAS
  clear hE ha hb hc hM hL hN hT hG hX h1 h2 h3
  go_enter Tryz.func33, Tryz.ntmps33
  go_wp2_with (first
    | (go_at_call 35; refine (HCG.out _ (HT.out.below (by (repeat (first | (with_reducible exact Below.refl _ _) | ((with_reducible refine Below.setCell ?_ ?_ _); rotate_left 1; focus (first | (simp; done) | (simp; omega) | (simp at *; omega))) | ((with_reducible refine Below.alloc ?_ ?_ _); rotate_left 1; focus (first | (simp; done) | (simp; omega) | (simp at *; omega))) | (with_reducible refine Below.drew ?_) | ((with_reducible refine Calm.step (by assumption) ?_ ?_); rotate_left 1; focus (first | (simp; done) | (simp; omega) | (simp at *; omega))))))) (HG.out.below (by (repeat (first | (with_reducible exact Below.refl _ _) | ((with_reducible refine Below.setCell ?_ ?_ _); rotate_left 1; focus (first | (simp; done) | (simp; omega) | (simp at *; omega))) | ((with_reducible refine Below.alloc ?_ ?_ _); rotate_left 1; focus (first | (simp; done) | (simp; omega) | (simp at *; omega))) | (with_reducible refine Below.drew ?_) | ((with_reducible refine Calm.step (by assumption) ?_ ?_); rotate_left 1; focus (first | (simp; done) | (simp; omega) | (simp at *; omega)))))))).mono ?_; rintro r w1 ⟨rfl, hb1⟩; have HB1 := Lib.hid (show Below w.heap.size w w1 from Below.trans (by (repeat (first | (with_reducible exact Below.refl _ _) | ((with_reducible refine Below.setCell ?_ ?_ _); rotate_left 1; focus (first | (simp; done) | (simp; omega) | (simp at *; omega))) | ((with_reducible refine Below.alloc ?_ ?_ _); rotate_left 1; focus (first | (simp; done) | (simp; omega) | (simp at *; omega))) | (with_reducible refine Below.drew ?_) | ((with_reducible refine Calm.step (by assumption) ?_ ?_); rotate_left 1; focus (first | (simp; done) | (simp; omega) | (simp at *; omega)))))) (hb1.mono (by simp))); clear hb1)
    | (go_at_call 64; refine (HSO.out _).mono ?_; rintro r w2 ⟨rfl, hb2⟩; have HB2 := Lib.hid (HB1.out.trans (hb2.mono HB1.out.size)); clear hb2)
    | (go_at_call 65; refine (HAS.out _ (HX.out.below HB2.out)).mono ?_; rintro r w3 ⟨rfl, hb3⟩; have HB3 := Lib.hid (HB2.out.trans (hb3.mono HB2.out.size)); clear hb3)
    | (go_at_call 66; refine (within_any _ _ _ _).mono ?_; rintro r w4 ⟨rfl, rfl⟩)
    | (go_at_call 49; refine (HFI.out _ _ _ _ _).mono ?_; rw [HE.out]; rintro r w5 ⟨rfl, rfl⟩))
  exact bodyPost_ret (v := .tuple #[.slice none 0 0, (.int .i64 E)]) (by simp [results, Tryz.results33, go_sem]) rfl ⟨rfl, HB3.out.alloc HB3.out.size _⟩

set_option maxHeartbeats 4000000 in
set_option maxRecDepth 100000 in
theorem Loudest_okc (lk ht rc : Int) (n : Nat) (ts gs ls : List Int) (A1 A2 A5 : Option Addr) (c1 c2 c5 M L N : Nat) (w : World) (hM : M = ts.length) (hL : L = gs.length) (hN : N = ls.length) (hLim : Lim w) (hV : Valid lk ht rc ts gs) (hT : Cells w A1 ts) (hG : Cells w A2 gs) (hX : Cells w A5 ls)
    (h3 : 1 ≤ N ∧ N ≤ 6) (hn : n ≤ 6) (hls : inB 2048 ls) (he : loudErr lk ht rc ts gs ls n = 0) :
    Calls Tryz.prog 33 #[.agg #[(.int .i64 lk), (.int .i64 ht), .slice A1 M c1, (.int .i64 rc), .slice A2 L c2], .slice A5 N c5, (.int .i64 n)] w fun r w' => (∃ B d, r = .returned (.tuple #[.slice B ((loudF lk ht rc ts gs ls n).getD []).length d, (.int .i64 (if (loudF lk ht rc ts gs ls n).isSome then 0 else 24))]) ∧ Cells w' B ((loudF lk ht rc ts gs ls n).getD []) ∧ ((loudF lk ht rc ts gs ls n).getD []).length ≤ d ∧ d ≤ maxLen) ∧ Below w.heap.size w w' := by
  have htl := hV.tl
  have hgl := hV.gl
  have HCG : Hid (∀ W, Cells W A1 ts → Cells W A2 gs → Calls Tryz.prog 35 #[.agg #[(.int .i64 lk), (.int .i64 ht), .slice A1 M c1, (.int .i64 rc), .slice A2 L c2]] W fun r w' => r = .returned (.int .i64 (guardErr lk ht rc ts gs)) ∧ Below W.heap.size W w') := Lib.hid (fun W q1 q2 => by rw [hM, hL]; exact checkGuard_any lk ht rc ts gs A1 A2 c1 c2 W q1 q2 (by omega) (by omega))
  have HSO : Hid (∀ W, Calls Tryz.prog 64 #[.slice A5 N c5, (.int .i64 6)] W fun r w' => r = .returned (.int .i64 (someErr ls.length 6)) ∧ Below W.heap.size W w') := Lib.hid (fun W => by rw [hN]; exact some_any A5 ls.length c5 6 W (by omega))
  have HAS : Hid (∀ W, Cells W A5 ls → Calls Tryz.prog 65 #[.slice A5 N c5, (.int .i64 (-2048)), (.int .i64 2048)] W fun r w' => r = .returned (.int .i64 (ascErr ls (-2048) 2048)) ∧ Below W.heap.size W w') := Lib.hid (fun W q => by rw [hN]; exact ascending_any A5 ls c5 (-2048) 2048 W q (by omega))
  have HFI : Hid (∀ (a b c d : Int) (W : World), Calls Tryz.prog 49 #[.slice (some ⟨W.heap.size, 0, none⟩) 4 4] (W.alloc (.cells #[(.int .i64 a), (.int .i64 b), (.int .i64 c), (.int .i64 d)] 27)) fun r w' => r = .returned (.int .i64 (firstOf [a, b, c, d])) ∧ (W.alloc (.cells #[(.int .i64 a), (.int .i64 b), (.int .i64 c), (.int .i64 d)] 27)) = w') := Lib.hid (fun a b c d W => first_cells [a, b, c, d] W (by simp))
  have HRS : Hid (∀ W, Calls Tryz.prog 55 #[.agg #[(.int .i64 lk), (.int .i64 ht), .slice A1 M c1, (.int .i64 rc), .slice A2 L c2]] W fun r w' => (∃ B, W.heap.size ≤ B.block ∧ r = .returned (.agg #[(.int .i64 ((restS ts gs).h)), (.int .i64 (((restS ts gs).lv : Int))), .slice (some B) (M - 1) (M - 1)]) ∧ Cells w' (some B) (restS ts gs).ps) ∧ Below W.heap.size W w') := Lib.hid (fun W => by
    rw [hM, hL]
    exact rest_any lk ht rc A1 A2 ts.length c1 gs.length c2 W (by omega) (by omega))
  have HVI : Hid (∀ sb, sb ≠ 0 → Off sb A1 → Off sb A5 → VisC lk ht rc ts gs ls A1 A2 A5 M L (M - 1) N c1 c2 c5 sb n) := Lib.hid (fun sb q1 q2 q3 => visit_any lk ht rc ts gs ls A1 A2 A5 M L (M - 1) N c1 c2 c5 sb hM (by omega) hN (by omega) hV hls q1 q2 q3 n)
  have HGD : Hid (Good ht rc ts gs (restS ts gs)) := Lib.hid (rest_good hV)
  have hb1 : ∃ p, A1 = some p ∧ p.block < w.heap.size := by
    obtain ⟨b, o, e, h, _⟩ := hT (by omega)
    exact ⟨_, e, h⟩
  have hb5 : ∃ p, A5 = some p ∧ p.block < w.heap.size := by
    obtain ⟨b, o, e, h, _⟩ := hX (by omega)
    exact ⟨_, e, h⟩
  have HO1 : Hid (∀ sb, w.heap.size ≤ sb → Off sb A1) := Lib.hid (fun sb h p hp => by
    obtain ⟨p', e, h'⟩ := hb1
    rw [hp] at e; cases e; omega)
  have HO5 : Hid (∀ sb, w.heap.size ≤ sb → Off sb A5) := Lib.hid (fun sb h p hp => by
    obtain ⟨p', e, h'⟩ := hb5
    rw [hp] at e; cases e; omega)
  have HT := Lib.hid hT
  have HG := Lib.hid hG
  have HX := Lib.hid hX
  have HLI := Lib.hid hLim
  have HFF : Hid (loudF lk ht rc ts gs ls n = visF lk ht rc ts ls n [] (restS ts gs) none) := Lib.hid rfl
  have HE : Hid (firstOf [guardErr lk ht rc ts gs, someErr ls.length 6, ascErr ls (-2048) 2048, rangeErr n 0 6] = 0) := Lib.hid he
  obtain ⟨a, ha⟩ : ∃ a, a = guardErr lk ht rc ts gs := ⟨_, rfl⟩
  obtain ⟨b, hb⟩ : ∃ b, b = someErr ls.length 6 := ⟨_, rfl⟩
  obtain ⟨c, hc⟩ : ∃ c, c = ascErr ls (-2048) 2048 := ⟨_, rfl⟩
  obtain ⟨F, hF⟩ : ∃ F, F = loudF lk ht rc ts gs ls n := ⟨_, rfl⟩
  obtain ⟨R, hR⟩ : ∃ R, R = restS ts gs := ⟨_, rfl⟩
  rw [← hF] at HFF ⊢
  rw [← hR] at HFF HRS HGD
  rw [← ha] at HE HCG
  rw [← hb] at HE HSO
  rw [← hc] at HE HAS
  have hGl := hLim.lt
  obtain ⟨FS, hFS⟩ : ∃ FS, FS = F.isSome := ⟨_, rfl⟩
  obtain ⟨FL, hFL⟩ : ∃ FL, FL = F.getD [] := ⟨_, rfl⟩
  have HFS := Lib.hid hFS.symm
  have HFL := Lib.hid hFL.symm
  rw [← hFS, ← hFL]
  have hfin : (if FS then (0 : Int) else 24) = if (!FS) then 24 else 0 := by cases FS <;> rfl
  rw [hfin]
  obtain ⟨EF, hEF⟩ : ∃ EF : Int, EF = if (!FS) then 24 else 0 := ⟨_, rfl⟩
  rw [← hEF]
  have HEF := Lib.hid hEF
  have HWH : Hid (∀ W, Calls Tryz.prog 68 #[.bool (!FS), (.int .i64 24)] W fun r w' => r = .returned (.int .i64 EF) ∧ Below W.heap.size W w') := Lib.hid (fun W => (when_any (!FS) 24 W).mono (fun e w' h => ⟨h.1.trans (by rw [HEF.out]), h.2 ▸ Below.refl _ _⟩))
  obtain ⟨NF, hNF⟩ : ∃ NF, NF = FL.length := ⟨_, rfl⟩
  rw [← hNF]
  have HNF := Lib.hid hNF.symm
  clear hFS hFL hfin hEF hNF
  clear hF hR ha hb hc hM hL hN hT hG hX hLim hV hls he htl hgl hb1 hb5
  go_enter Tryz.func33, Tryz.ntmps33
  go_wp2_with (first
    | (go_at_call 35; refine (HCG.out _ (HT.out.below (by (repeat (first | (with_reducible exact Below.refl _ _) | ((with_reducible refine Below.setCell ?_ ?_ _); rotate_left 1; focus (first | (simp; done) | (simp; omega) | (simp at *; omega))) | ((with_reducible refine Below.alloc ?_ ?_ _); rotate_left 1; focus (first | (simp; done) | (simp; omega) | (simp at *; omega))) | (with_reducible refine Below.drew ?_) | ((with_reducible refine Calm.step (by assumption) ?_ ?_); rotate_left 1; focus (first | (simp; done) | (simp; omega) | (simp at *; omega))))))) (HG.out.below (by (repeat (first | (with_reducible exact Below.refl _ _) | ((with_reducible refine Below.setCell ?_ ?_ _); rotate_left 1; focus (first | (simp; done) | (simp; omega) | (simp at *; omega))) | ((with_reducible refine Below.alloc ?_ ?_ _); rotate_left 1; focus (first | (simp; done) | (simp; omega) | (simp at *; omega))) | (with_reducible refine Below.drew ?_) | ((with_reducible refine Calm.step (by assumption) ?_ ?_); rotate_left 1; focus (first | (simp; done) | (simp; omega) | (simp at *; omega)))))))).mono ?_; rintro r w1 ⟨rfl, hb1⟩; have HB1 := Lib.hid (show Below w.heap.size w w1 from Below.trans (by (repeat (first | (with_reducible exact Below.refl _ _) | ((with_reducible refine Below.setCell ?_ ?_ _); rotate_left 1; focus (first | (simp; done) | (simp; omega) | (simp at *; omega))) | ((with_reducible refine Below.alloc ?_ ?_ _); rotate_left 1; focus (first | (simp; done) | (simp; omega) | (simp at *; omega))) | (with_reducible refine Below.drew ?_) | ((with_reducible refine Calm.step (by assumption) ?_ ?_); rotate_left 1; focus (first | (simp; done) | (simp; omega) | (simp at *; omega)))))) (hb1.mono (by simp))); have K1 := Lib.hid (show Blk w1 w.heap.size #[(.int .i64 lk), (.int .i64 ht), .slice A1 M c1, (.int .i64 rc), .slice A2 L c2] from Blk.below (by (repeat (first | ((with_reducible refine Blk.at_ ?_); focus (first | rfl | (simp; done) | (simp; omega))) | (with_reducible refine Blk.alloc ?_ _) | (with_reducible refine Blk.below ?_ (by with_reducible assumption)) | (with_reducible refine Blk.drew ?_)))) hb1); clear hb1)
    | (go_at_call 64; refine (HSO.out _).mono ?_; rintro r w2 ⟨rfl, hb2⟩; have HB2 := Lib.hid (HB1.out.trans (hb2.mono HB1.out.size)); have K2 := Lib.hid (K1.out.below hb2); clear hb2)
    | (go_at_call 65; refine (HAS.out _ (HX.out.below HB2.out)).mono ?_; rintro r w3 ⟨rfl, hb3⟩; have HB3 := Lib.hid (HB2.out.trans (hb3.mono HB2.out.size)); have K3 := K2.out.below hb3; obtain ⟨c00, c01, c02, c03, c04, l0, f0⟩ := K3.o5; have hz3 : w.heap.size ≤ w3.heap.size := HB3.out.size; have HK3 := Lib.hid K3; clear hb3 K3)
    | (go_at_call 66; refine (within_any _ _ _ _).mono ?_; rintro r w4 ⟨rfl, rfl⟩)
    | (go_at_call 49; refine (HFI.out _ _ _ _ _).mono ?_; rw [HE.out]; rintro r w5 ⟨rfl, rfl⟩)
    | (go_at_call 55; refine (HRS.out _).mono ?_; rintro r w6 ⟨⟨B, hBb, rfl, hC6⟩, hb6⟩; refine Hid.out ?_))
  simp only [World.size_alloc] at hBb
  have KS6 : Blk w6 (w3.heap.size + 1) #[(.int .i64 lk), (.int .i64 ht), .slice A1 M c1, (.int .i64 rc), .slice A2 L c2, .slice A5 N c5, .slice none 0 0, (.int .i64 0), .bool false] := Blk.below (show Blk _ (w3.heap.size + 1) #[(.int .i64 lk), (.int .i64 ht), .slice A1 M c1, (.int .i64 rc), .slice A2 L c2, .slice A5 N c5, .slice none 0 0, (.int .i64 0), .bool false] from by (repeat (first | ((with_reducible refine Blk.at_ ?_); focus (first | rfl | (simp; done) | (simp; omega))) | (with_reducible refine Blk.alloc ?_ _) | (with_reducible refine Blk.below ?_ (by with_reducible assumption)) | (with_reducible refine Blk.drew ?_)))) hb6
  have HSB6 : Hid (SB lk ht rc A1 A2 A5 M c1 L c2 N c5 (w3.heap.size + 1) none w6) := Lib.hid ⟨none, 0, KS6, fun h => absurd h (by simp), (fun p hp => by cases hp), Nat.le_refl _, Nat.zero_le _⟩
  have HB6 : Hid (Below w.heap.size w w6) := Lib.hid ((HB3.out.trans (by (repeat (first | (with_reducible exact Below.refl _ _) | ((with_reducible refine Below.setCell ?_ ?_ _); rotate_left 1; focus (first | (simp; done) | (simp; omega) | (simp at *; omega))) | ((with_reducible refine Below.alloc ?_ ?_ _); rotate_left 1; focus (first | (simp; done) | (simp; omega) | (simp at *; omega))) | (with_reducible refine Below.drew ?_) | ((with_reducible refine Calm.step (by assumption) ?_ ?_); rotate_left 1; focus (first | (simp; done) | (simp; omega) | (simp at *; omega))))))).trans (hb6.mono (by simp; omega)))
  have hs6 := hb6.size
  simp only [World.size_alloc] at hs6
  have HC6 := Lib.hid hC6
  clear hb6 hC6 KS6 c00 c01 c02 c03 c04 l0 f0 HB1 HB2 K1 K2 HCG HSO HAS HFI HRS HE HK3
  unfold Hid
  go_wp2_with (go_at_call 67; refine (HVI.out (w3.heap.size + 1) (by omega) (HO1.out _ (by omega)) (HO5.out _ (by omega)) [] R none (some B) none 0 (M - 1) 0 w6 rfl (by omega) HGD.out (fun x hx => by cases hx) (fun h => absurd h (by simp)) HC6.out (HT.out.below HB6.out) (HX.out.below HB6.out) (HLI.out.below HB6.out) HSB6.out (fun p hp => by cases hp) (fun p hp => by cases hp; omega)).mono ?_; rw [← HFF.out]; rintro r w7 ⟨rfl, hs7, hb7⟩; refine Hid.out ?_)
  obtain ⟨B7, d7, K7, hC7, hO7⟩ := hs7
  have HB7 := Lib.hid (HB6.out.trans (hb7.below (by omega) HB6.out.size))
  have HC7 := Lib.hid hC7
  have hrm := hO7.2
  have hz7 := HB7.out.size
  obtain ⟨c00, c01, c02, c03, c04, c05, c06, c07, c08, l0, f0⟩ := K7.o9
  rw [HFS.out] at c08
  rw [HFL.out] at c06 c07 HC7
  rw [HNF.out] at c06
  rw [HFL.out, HNF.out] at hrm
  have HRM := Lib.hid hrm
  clear hrm hO7 hb7 hC7 K7 HSB6 HVI HFF HFS HFL HB6
  unfold Hid
  go_wp2
  refine Rel.region3 10 (by kernel_rfl) (by kernel_rfl) (by kernel_rfl) ?_
  simp only [List.take_succ_cons, List.take_zero, List.drop_succ_cons, List.drop_zero, List.filterMap_cons, List.filterMap_nil]
  iterate 9 (apply Rel.op3; (focus (first | exact Rel.gno rfl | exact Rel.gyes _ true _ rfl rfl rfl | exact Rel.gyes _ false _ rfl rfl rfl)); (focus (intro a W hb hd hbase; obtain ⟨hc, hf⟩ := bcell hb; clear hb hf; simp [Rel.deps, Rel.dep1, Rel.ons, Region.binds, Act.eval] at hd; simp only [Act.eval, List.mem_cons, List.not_mem_nil, not_or, and_imp, or_false, Array.getD_eq_getD_getElem?] at hbase; go_simp; (try go_bits); (try rfl); done)); (try simp only [List.nil_append, List.cons_append]))
  (apply Rel.call3; (focus (first | exact Rel.gno rfl | exact Rel.gyes _ true _ rfl rfl rfl | exact Rel.gyes _ false _ rfl rfl rfl)); (focus (intro a W hb hd hbase; obtain ⟨hc, hf⟩ := bcell hb; clear hb hf; simp [Rel.deps, Rel.dep1, Rel.ons, Region.binds, Act.eval] at hd; simp only [Act.eval, List.mem_cons, List.not_mem_nil, not_or, and_imp, or_false, Array.getD_eq_getD_getElem?] at hbase; go_simp; refine ⟨?_, ?_⟩; rfl; rfl)); (focus (intro W hb; go_at_call 68; exact (HWH.out W))); (try simp only [List.nil_append, List.cons_append]))
  refine Rel.done3 ?_
  intro x w8 hb8 hx
  simp only [Rel.facts, Nat.zero_add, Nat.reduceAdd] at hx
  obtain ⟨e0, e1, e2, e3, e4, e5, e6, e7, e8, e9, _⟩ := hx
  simp only [Rel.fill, Nat.zero_add, Nat.reduceAdd, e0, e1, e2, e3, e4, e5, e6, e7, e8, e9]
  simp only [Act.put, List.setIfInBounds_toArray, List.set_cons_zero, List.set_cons_succ]
  clear e0 e1 e2 e3 e4 e5 e6 e7 e8 e9
  have HB8 := Lib.hid (HB7.out.trans (hb8.mono HB7.out.size))
  have HC8 := Lib.hid (HC7.out.below hb8)
  clear hb8 c00 c01 c02 c03 c04 c05 c06 c07 c08 l0 f0
  go_wp2
  exact bodyPost_ret (v := .tuple #[.slice B7 NF d7, (.int .i64 EF)]) (by simp [results, Tryz.results33, go_sem]) rfl (by first | exact ⟨⟨B7, d7, rfl, HC8.out, HRM.out⟩, HB8.out⟩ | exact ⟨⟨B7, ⟨d7, rfl, HC8.out, HRM.out⟩⟩, HB8.out⟩)
theorem Loudest_ok (lk ht rc : Int) (n : Nat) (ts gs ls : List Int) (A1 A2 A5 : Option Addr) (c1 c2 c5 M L N : Nat) (w : World) (hM : M = ts.length) (hL : L = gs.length) (hN : N = ls.length) (hLim : Lim w) (hV : Valid lk ht rc ts gs) (hT : Cells w A1 ts) (hG : Cells w A2 gs) (hX : Cells w A5 ls)
    (h3 : 1 ≤ N ∧ N ≤ 6) (hn : n ≤ 6) (hls : inB 2048 ls) (he : loudErr lk ht rc ts gs ls n = 0) :
    Calls Tryz.prog 33 #[.agg #[(.int .i64 lk), (.int .i64 ht), .slice A1 M c1, (.int .i64 rc), .slice A2 L c2], .slice A5 N c5, (.int .i64 n)] w fun r w' => (∃ B d, r = .returned (.tuple #[.slice B ((loudF lk ht rc ts gs ls n).getD []).length d, (.int .i64 (if (loudF lk ht rc ts gs ls n).isSome then 0 else 24))]) ∧ Cells w' B ((loudF lk ht rc ts gs ls n).getD [])) ∧ Below w.heap.size w w' :=
  (Loudest_okc lk ht rc n ts gs ls A1 A2 A5 c1 c2 c5 M L N w hM hL hN hLim hV hT hG hX h3 hn hls he).mono fun e W' ⟨⟨B, d, h, hc, _⟩, hb⟩ => ⟨⟨B, d, h, hc⟩, hb⟩
end Go.Proofs.YtdeapbihbhoefaaGreatDoor

/- Contracts of checkHeat, checkValue and CheckState. -/
namespace Go.Proofs.YtdeapbihbhoefaaGreatDoor
open Go.RowKit
open Calm (bcell Blk)

theorem checkHeat_any (n : Int) (w : World) : Calls Tryz.prog 62 #[(.int .i64 n)] w fun r w' => r = .returned (.int .i64 (rangeErr n 0 536870912)) ∧ w = w' := by
  go_enter Tryz.func62, Tryz.ntmps62
  go_wp2_with (go_at_call 66; refine (within_any _ _ _ _).mono ?_; rintro r w' ⟨rfl, rfl⟩)
  go_ret
  exact ⟨rfl, rfl⟩
theorem checkValue_any (n : Int) (w : World) : Calls Tryz.prog 51 #[(.int .i64 n)] w fun r w' => r = .returned (.int .i64 (rangeErr n (-2048) 2048)) ∧ w = w' := by
  go_enter Tryz.func51, Tryz.ntmps51
  go_wp2_with (go_at_call 66; refine (within_any _ _ _ _).mono ?_; rintro r w' ⟨rfl, rfl⟩)
  go_ret
  exact ⟨rfl, rfl⟩

/-- the error of a state, behind that of its guard. -/
def stErr2 (h lv : Int) (ps : List Int) (M L : Nat) : Int := firstOf [rangeErr h 0 536870912, rangeErr lv 0 ((L : Int) - 1), if ps.length + 1 = M then 0 else 2, eachErr ps (-2048) 2048]
def stErr (lk ht rc : Int) (ts gs : List Int) (h lv : Int) (ps : List Int) : Int := if guardErr lk ht rc ts gs = 0 then stErr2 h lv ps ts.length gs.length else guardErr lk ht rc ts gs

set_option maxHeartbeats 4000000 in
set_option maxRecDepth 100000 in
theorem checkState_any (lk ht rc h lv : Int) (ts gs ps : List Int) (A1 A2 A3 : Option Addr) (M L Q c1 c2 c3 : Nat) (w : World) (hM : M = ts.length) (hL : L = gs.length) (hQ : Q = ps.length) (hT : Cells w A1 ts) (hG : Cells w A2 gs) (hP : Cells w A3 ps) (h1 : M ≤ 1000) (h2 : L ≤ 1000) (h3 : Q ≤ 1000) :
    Calls Tryz.prog 50 #[.agg #[(.int .i64 lk), (.int .i64 ht), .slice A1 M c1, (.int .i64 rc), .slice A2 L c2], .agg #[(.int .i64 h), (.int .i64 lv), .slice A3 Q c3]] w fun r w' => r = .returned (.int .i64 (stErr lk ht rc ts gs h lv ps)) ∧ Below w.heap.size w w' := by
  have HCG : Hid (∀ W, Cells W A1 ts → Cells W A2 gs → Calls Tryz.prog 35 #[.agg #[(.int .i64 lk), (.int .i64 ht), .slice A1 M c1, (.int .i64 rc), .slice A2 L c2]] W fun r w' => r = .returned (.int .i64 (guardErr lk ht rc ts gs)) ∧ Below W.heap.size W w') := Lib.hid (fun W q1 q2 => by rw [hM, hL]; exact checkGuard_any lk ht rc ts gs A1 A2 c1 c2 W q1 q2 (by omega) (by omega))
  have hval : guardErr lk ht rc ts gs = 0 → 1 ≤ M ∧ 1 ≤ L := fun e => by
    have := guard_valid e
    exact ⟨by rw [hM]; exact this.tl.1, by rw [hL]; exact this.gl.1⟩
  have HST : Hid ((guardErr lk ht rc ts gs = 0 → stErr lk ht rc ts gs h lv ps = stErr2 h lv ps M L) ∧ (guardErr lk ht rc ts gs ≠ 0 → stErr lk ht rc ts gs h lv ps = guardErr lk ht rc ts gs)) := Lib.hid (by
    unfold stErr
    rw [← hM, ← hL]
    exact ⟨fun e => if_pos e, fun e => if_neg e⟩)
  have HT := Lib.hid hT
  have HG := Lib.hid hG
  have HP := Lib.hid hP
  obtain ⟨E, hE⟩ : ∃ E, E = guardErr lk ht rc ts gs := ⟨_, rfl⟩
  rw [← hE] at HCG hval HST
  obtain ⟨R, hR⟩ : ∃ R, R = stErr lk ht rc ts gs h lv ps := ⟨_, rfl⟩
  rw [← hR] at HST ⊢
  by_cases he : E = 0
  · obtain ⟨hM1, hL1⟩ := hval he
    have hst := HST.out.1 he
    subst he
    rw [hst]
    have HCH : Hid (∀ W, Calls Tryz.prog 62 #[(.int .i64 h)] W fun r w' => r = .returned (.int .i64 (rangeErr h 0 536870912)) ∧ Below W.heap.size W w') := Lib.hid (fun W => (checkHeat_any h W).mono (fun e w' h => ⟨h.1, h.2 ▸ Below.refl _ _⟩))
    have HWI : Hid (∀ W, Calls Tryz.prog 66 #[(.int .i64 lv), (.int .i64 0), (.int .i64 ((L : Int) - 1))] W fun r w' => r = .returned (.int .i64 (rangeErr lv 0 ((L : Int) - 1))) ∧ Below W.heap.size W w') := Lib.hid (fun W => (within_any _ _ _ W).mono (fun e w' h => ⟨h.1, h.2 ▸ Below.refl _ _⟩))
    have HW0 : Hid (∀ W, Calls Tryz.prog 68 #[.bool false, (.int .i64 2)] W fun r w' => r = .returned (.int .i64 0) ∧ Below W.heap.size W w') := Lib.hid (fun W => (when_any false _ W).mono (fun e w' h => ⟨h.1, h.2 ▸ Below.refl _ _⟩))
    have HW2 : Hid (∀ W, Calls Tryz.prog 68 #[.bool true, (.int .i64 2)] W fun r w' => r = .returned (.int .i64 2) ∧ Below W.heap.size W w') := Lib.hid (fun W => (when_any true _ W).mono (fun e w' h => ⟨h.1, h.2 ▸ Below.refl _ _⟩))
    have HEA : Hid (∀ W, Cells W A3 ps → Calls Tryz.prog 71 #[.slice A3 Q c3, (.int .i64 (-2048)), (.int .i64 2048)] W fun r w' => r = .returned (.int .i64 (eachErr ps (-2048) 2048)) ∧ Below W.heap.size W w') := Lib.hid (fun W q => by rw [hQ]; exact each_any A3 ps c3 (-2048) 2048 W q (by omega))
    have HFI : Hid (∀ (a b c d : Int) (W : World), Calls Tryz.prog 49 #[.slice (some ⟨W.heap.size, 0, none⟩) 4 4] (W.alloc (.cells #[(.int .i64 a), (.int .i64 b), (.int .i64 c), (.int .i64 d)] 27)) fun r w' => r = .returned (.int .i64 (firstOf [a, b, c, d])) ∧ (W.alloc (.cells #[(.int .i64 a), (.int .i64 b), (.int .i64 c), (.int .i64 d)] 27)) = w') := Lib.hid (fun a b c d W => first_cells [a, b, c, d] W (by simp))
    obtain ⟨E1, hE1⟩ : ∃ E1, E1 = rangeErr h 0 536870912 := ⟨_, rfl⟩
    obtain ⟨E2, hE2⟩ : ∃ E2, E2 = rangeErr lv 0 ((L : Int) - 1) := ⟨_, rfl⟩
    obtain ⟨E4, hE4⟩ : ∃ E4, E4 = eachErr ps (-2048) 2048 := ⟨_, rfl⟩
    have HF : Hid (stErr2 h lv ps M L = firstOf [E1, E2, if Q + 1 = M then 0 else 2, E4]) := Lib.hid (by rw [hE1, hE2, hE4, hQ]; rfl)
    rw [← hE1] at HCH
    rw [← hE2] at HWI
    rw [← hE4] at HEA
    obtain ⟨RR, hRR⟩ : ∃ RR, RR = stErr2 h lv ps M L := ⟨_, rfl⟩
    rw [← hRR] at HF ⊢
    clear hM hL hQ hT hG hP hE hR HST hval hst hE1 hE2 hE4 hRR
    go_enter Tryz.func50, Tryz.ntmps50
    go_wp2_with (go_at_call 35; refine (HCG.out _ (HT.out.below (by (repeat (first | (with_reducible exact Below.refl _ _) | ((with_reducible refine Below.setCell ?_ ?_ _); rotate_left 1; focus (first | (simp; done) | (simp; omega) | (simp at *; omega))) | ((with_reducible refine Below.alloc ?_ ?_ _); rotate_left 1; focus (first | (simp; done) | (simp; omega) | (simp at *; omega))) | (with_reducible refine Below.drew ?_) | ((with_reducible refine Calm.step (by assumption) ?_ ?_); rotate_left 1; focus (first | (simp; done) | (simp; omega) | (simp at *; omega))))))) (HG.out.below (by (repeat (first | (with_reducible exact Below.refl _ _) | ((with_reducible refine Below.setCell ?_ ?_ _); rotate_left 1; focus (first | (simp; done) | (simp; omega) | (simp at *; omega))) | ((with_reducible refine Below.alloc ?_ ?_ _); rotate_left 1; focus (first | (simp; done) | (simp; omega) | (simp at *; omega))) | (with_reducible refine Below.drew ?_) | ((with_reducible refine Calm.step (by assumption) ?_ ?_); rotate_left 1; focus (first | (simp; done) | (simp; omega) | (simp at *; omega)))))))).mono ?_; rintro r w1 ⟨rfl, hb1⟩; have HB1 := Lib.hid (show Below w.heap.size w w1 from Below.trans (by (repeat (first | (with_reducible exact Below.refl _ _) | ((with_reducible refine Below.setCell ?_ ?_ _); rotate_left 1; focus (first | (simp; done) | (simp; omega) | (simp at *; omega))) | ((with_reducible refine Below.alloc ?_ ?_ _); rotate_left 1; focus (first | (simp; done) | (simp; omega) | (simp at *; omega))) | (with_reducible refine Below.drew ?_) | ((with_reducible refine Calm.step (by assumption) ?_ ?_); rotate_left 1; focus (first | (simp; done) | (simp; omega) | (simp at *; omega)))))) (hb1.mono (by simp; omega))); have K1 := Lib.hid (show Blk w1 w.heap.size #[(.int .i64 lk), (.int .i64 ht), .slice A1 M c1, (.int .i64 rc), .slice A2 L c2] from Blk.below (by (repeat (first | ((with_reducible refine Blk.at_ ?_); focus (first | rfl | (simp; done) | (simp; omega))) | (with_reducible refine Blk.alloc ?_ _) | (with_reducible refine Blk.below ?_ (by with_reducible assumption)) | (with_reducible refine Blk.drew ?_)))) hb1); have S1 := Lib.hid (show Blk w1 (w.heap.size + 1) #[(.int .i64 h), (.int .i64 lv), .slice A3 Q c3] from Blk.below (by (repeat (first | ((with_reducible refine Blk.at_ ?_); focus (first | rfl | (simp; done) | (simp; omega))) | (with_reducible refine Blk.alloc ?_ _) | (with_reducible refine Blk.below ?_ (by with_reducible assumption)) | (with_reducible refine Blk.drew ?_)))) hb1); clear hb1)
    have HP1 := Lib.hid (HP.out.below HB1.out)
    obtain ⟨c00, c01, c02, c03, c04, l0, f0⟩ := K1.out.o5
    obtain ⟨s00, s01, s02, l1, f1⟩ := S1.out.o3
    by_cases hq : Q + 1 = M
    · have hqe : (Q : Int) = (M : Int) - 1 := by omega
      have HF2 : Hid (firstOf [E1, E2, 0, E4] = RR) := Lib.hid (by rw [HF.out, if_pos hq])
      refine Rel.region3 22 (by kernel_rfl) (by kernel_rfl) (by kernel_rfl) ?_
      simp only [List.take_succ_cons, List.take_zero, List.drop_succ_cons, List.drop_zero, List.filterMap_cons, List.filterMap_nil]
      iterate 2 (apply Rel.op3; (focus (first | exact Rel.gno rfl | exact Rel.gyes _ true _ rfl rfl rfl | exact Rel.gyes _ false _ rfl rfl rfl)); (focus (intro a W hb hd hbase; obtain ⟨hc, hf⟩ := bcell hb; clear hb hf; simp [Rel.deps, Rel.dep1, Rel.ons, Region.binds, Act.eval] at hd; simp only [Act.eval, List.mem_cons, List.not_mem_nil, not_or, and_imp, or_false, Array.getD_eq_getD_getElem?] at hbase; go_simp; (try go_bits); (try rfl); done)); (try simp only [List.nil_append, List.cons_append]))
      (apply Rel.call3; (focus (first | exact Rel.gno rfl | exact Rel.gyes _ true _ rfl rfl rfl | exact Rel.gyes _ false _ rfl rfl rfl)); (focus (intro a W hb hd hbase; obtain ⟨hc, hf⟩ := bcell hb; clear hb hf; simp [Rel.deps, Rel.dep1, Rel.ons, Region.binds, Act.eval] at hd; simp only [Act.eval, List.mem_cons, List.not_mem_nil, not_or, and_imp, or_false, Array.getD_eq_getD_getElem?] at hbase; go_simp; refine ⟨?_, ?_⟩; rfl; rfl)); (focus (intro W hb; go_at_call 62; exact (HCH.out W))); (try simp only [List.nil_append, List.cons_append]))
      iterate 6 (apply Rel.op3; (focus (first | exact Rel.gno rfl | exact Rel.gyes _ true _ rfl rfl rfl | exact Rel.gyes _ false _ rfl rfl rfl)); (focus (intro a W hb hd hbase; obtain ⟨hc, hf⟩ := bcell hb; clear hb hf; simp [Rel.deps, Rel.dep1, Rel.ons, Region.binds, Act.eval] at hd; simp only [Act.eval, List.mem_cons, List.not_mem_nil, not_or, and_imp, or_false, Array.getD_eq_getD_getElem?] at hbase; go_simp; (try go_bits); (try rfl); done)); (try simp only [List.nil_append, List.cons_append]))
      (apply Rel.call3; (focus (first | exact Rel.gno rfl | exact Rel.gyes _ true _ rfl rfl rfl | exact Rel.gyes _ false _ rfl rfl rfl)); (focus (intro a W hb hd hbase; obtain ⟨hc, hf⟩ := bcell hb; clear hb hf; simp [Rel.deps, Rel.dep1, Rel.ons, Region.binds, Act.eval] at hd; simp only [Act.eval, List.mem_cons, List.not_mem_nil, not_or, and_imp, or_false, Array.getD_eq_getD_getElem?] at hbase; go_simp; refine ⟨?_, ?_⟩; rfl; rfl)); (focus (intro W hb; go_at_call 66; exact (HWI.out W))); (try simp only [List.nil_append, List.cons_append]))
      iterate 7 (apply Rel.op3; (focus (first | exact Rel.gno rfl | exact Rel.gyes _ true _ rfl rfl rfl | exact Rel.gyes _ false _ rfl rfl rfl)); (focus (intro a W hb hd hbase; obtain ⟨hc, hf⟩ := bcell hb; clear hb hf; simp [Rel.deps, Rel.dep1, Rel.ons, Region.binds, Act.eval] at hd; simp only [Act.eval, List.mem_cons, List.not_mem_nil, not_or, and_imp, or_false, Array.getD_eq_getD_getElem?] at hbase; go_simp; (try go_bits); (try rfl); done)); (try simp only [List.nil_append, List.cons_append]))
      (apply Rel.op3 (.bool false); (focus (first | exact Rel.gno rfl | exact Rel.gyes _ true _ rfl rfl rfl | exact Rel.gyes _ false _ rfl rfl rfl)); (focus (intro a W hb hd hbase; obtain ⟨hc, hf⟩ := bcell hb; clear hb hf; simp [Rel.deps, Rel.dep1, Rel.ons, Region.binds, Act.eval] at hd; simp only [Act.eval, List.mem_cons, List.not_mem_nil, not_or, and_imp, or_false, Array.getD_eq_getD_getElem?] at hbase; go_simp; (try go_bits); (try rfl); done)); (try simp only [List.nil_append, List.cons_append]))
      (apply Rel.call3; (focus (first | exact Rel.gno rfl | exact Rel.gyes _ true _ rfl rfl rfl | exact Rel.gyes _ false _ rfl rfl rfl)); (focus (intro a W hb hd hbase; obtain ⟨hc, hf⟩ := bcell hb; clear hb hf; simp [Rel.deps, Rel.dep1, Rel.ons, Region.binds, Act.eval] at hd; simp only [Act.eval, List.mem_cons, List.not_mem_nil, not_or, and_imp, or_false, Array.getD_eq_getD_getElem?] at hbase; go_simp; refine ⟨?_, ?_⟩; rfl; rfl)); (focus (intro W hb; go_at_call 68; exact (HW0.out W))); (try simp only [List.nil_append, List.cons_append]))
      iterate 2 (apply Rel.op3; (focus (first | exact Rel.gno rfl | exact Rel.gyes _ true _ rfl rfl rfl | exact Rel.gyes _ false _ rfl rfl rfl)); (focus (intro a W hb hd hbase; obtain ⟨hc, hf⟩ := bcell hb; clear hb hf; simp [Rel.deps, Rel.dep1, Rel.ons, Region.binds, Act.eval] at hd; simp only [Act.eval, List.mem_cons, List.not_mem_nil, not_or, and_imp, or_false, Array.getD_eq_getD_getElem?] at hbase; go_simp; (try go_bits); (try rfl); done)); (try simp only [List.nil_append, List.cons_append]))
      (apply Rel.call3; (focus (first | exact Rel.gno rfl | exact Rel.gyes _ true _ rfl rfl rfl | exact Rel.gyes _ false _ rfl rfl rfl)); (focus (intro a W hb hd hbase; obtain ⟨hc, hf⟩ := bcell hb; clear hb hf; simp [Rel.deps, Rel.dep1, Rel.ons, Region.binds, Act.eval] at hd; simp only [Act.eval, List.mem_cons, List.not_mem_nil, not_or, and_imp, or_false, Array.getD_eq_getD_getElem?] at hbase; go_simp; refine ⟨?_, ?_⟩; rfl; rfl)); (focus (intro W hb; go_at_call 71; exact (HEA.out W (HP1.out.below hb)))); (try simp only [List.nil_append, List.cons_append]))
      refine Rel.done3 ?_
      intro x w2 hb2 hx
      simp only [Rel.facts, Nat.zero_add, Nat.reduceAdd] at hx
      obtain ⟨e0, e1, e2, e3, e4, e5, e6, e7, e8, e9, e10, e11, e12, e13, e14, e15, e16, e17, e18, e19, e20, e21, _⟩ := hx
      simp only [Rel.fill, Nat.zero_add, Nat.reduceAdd, e0, e1, e2, e3, e4, e5, e6, e7, e8, e9, e10, e11, e12, e13, e14, e15, e16, e17, e18, e19, e20, e21]
      simp only [Act.put, List.setIfInBounds_toArray, List.set_cons_zero, List.set_cons_succ]
      clear e0 e1 e2 e3 e4 e5 e6 e7 e8 e9 e10 e11 e12 e13 e14 e15 e16 e17 e18 e19 e20 e21
      have HB2 := Lib.hid (HB1.out.trans (hb2.mono HB1.out.size))
      clear hb2 c00 c01 c02 c03 c04 l0 f0 s00 s01 s02 l1 f1
      go_wp2_with (go_at_call 49; refine (HFI.out _ _ _ _ _).mono ?_; rw [HF2.out]; rintro r w5 ⟨rfl, rfl⟩)
      go_ret
      exact ⟨rfl, HB2.out.alloc HB2.out.size _⟩
    · have hqe : ¬ (Q : Int) = (M : Int) - 1 := by omega
      have HF2 : Hid (firstOf [E1, E2, 2, E4] = RR) := Lib.hid (by rw [HF.out, if_neg hq])
      refine Rel.region3 22 (by kernel_rfl) (by kernel_rfl) (by kernel_rfl) ?_
      simp only [List.take_succ_cons, List.take_zero, List.drop_succ_cons, List.drop_zero, List.filterMap_cons, List.filterMap_nil]
      iterate 2 (apply Rel.op3; (focus (first | exact Rel.gno rfl | exact Rel.gyes _ true _ rfl rfl rfl | exact Rel.gyes _ false _ rfl rfl rfl)); (focus (intro a W hb hd hbase; obtain ⟨hc, hf⟩ := bcell hb; clear hb hf; simp [Rel.deps, Rel.dep1, Rel.ons, Region.binds, Act.eval] at hd; simp only [Act.eval, List.mem_cons, List.not_mem_nil, not_or, and_imp, or_false, Array.getD_eq_getD_getElem?] at hbase; go_simp; (try go_bits); (try rfl); done)); (try simp only [List.nil_append, List.cons_append]))
      (apply Rel.call3; (focus (first | exact Rel.gno rfl | exact Rel.gyes _ true _ rfl rfl rfl | exact Rel.gyes _ false _ rfl rfl rfl)); (focus (intro a W hb hd hbase; obtain ⟨hc, hf⟩ := bcell hb; clear hb hf; simp [Rel.deps, Rel.dep1, Rel.ons, Region.binds, Act.eval] at hd; simp only [Act.eval, List.mem_cons, List.not_mem_nil, not_or, and_imp, or_false, Array.getD_eq_getD_getElem?] at hbase; go_simp; refine ⟨?_, ?_⟩; rfl; rfl)); (focus (intro W hb; go_at_call 62; exact (HCH.out W))); (try simp only [List.nil_append, List.cons_append]))
      iterate 6 (apply Rel.op3; (focus (first | exact Rel.gno rfl | exact Rel.gyes _ true _ rfl rfl rfl | exact Rel.gyes _ false _ rfl rfl rfl)); (focus (intro a W hb hd hbase; obtain ⟨hc, hf⟩ := bcell hb; clear hb hf; simp [Rel.deps, Rel.dep1, Rel.ons, Region.binds, Act.eval] at hd; simp only [Act.eval, List.mem_cons, List.not_mem_nil, not_or, and_imp, or_false, Array.getD_eq_getD_getElem?] at hbase; go_simp; (try go_bits); (try rfl); done)); (try simp only [List.nil_append, List.cons_append]))
      (apply Rel.call3; (focus (first | exact Rel.gno rfl | exact Rel.gyes _ true _ rfl rfl rfl | exact Rel.gyes _ false _ rfl rfl rfl)); (focus (intro a W hb hd hbase; obtain ⟨hc, hf⟩ := bcell hb; clear hb hf; simp [Rel.deps, Rel.dep1, Rel.ons, Region.binds, Act.eval] at hd; simp only [Act.eval, List.mem_cons, List.not_mem_nil, not_or, and_imp, or_false, Array.getD_eq_getD_getElem?] at hbase; go_simp; refine ⟨?_, ?_⟩; rfl; rfl)); (focus (intro W hb; go_at_call 66; exact (HWI.out W))); (try simp only [List.nil_append, List.cons_append]))
      iterate 7 (apply Rel.op3; (focus (first | exact Rel.gno rfl | exact Rel.gyes _ true _ rfl rfl rfl | exact Rel.gyes _ false _ rfl rfl rfl)); (focus (intro a W hb hd hbase; obtain ⟨hc, hf⟩ := bcell hb; clear hb hf; simp [Rel.deps, Rel.dep1, Rel.ons, Region.binds, Act.eval] at hd; simp only [Act.eval, List.mem_cons, List.not_mem_nil, not_or, and_imp, or_false, Array.getD_eq_getD_getElem?] at hbase; go_simp; (try go_bits); (try rfl); done)); (try simp only [List.nil_append, List.cons_append]))
      (apply Rel.op3 (.bool true); (focus (first | exact Rel.gno rfl | exact Rel.gyes _ true _ rfl rfl rfl | exact Rel.gyes _ false _ rfl rfl rfl)); (focus (intro a W hb hd hbase; obtain ⟨hc, hf⟩ := bcell hb; clear hb hf; simp [Rel.deps, Rel.dep1, Rel.ons, Region.binds, Act.eval] at hd; simp only [Act.eval, List.mem_cons, List.not_mem_nil, not_or, and_imp, or_false, Array.getD_eq_getD_getElem?] at hbase; go_simp; (try go_bits); (try rfl); done)); (try simp only [List.nil_append, List.cons_append]))
      (apply Rel.call3; (focus (first | exact Rel.gno rfl | exact Rel.gyes _ true _ rfl rfl rfl | exact Rel.gyes _ false _ rfl rfl rfl)); (focus (intro a W hb hd hbase; obtain ⟨hc, hf⟩ := bcell hb; clear hb hf; simp [Rel.deps, Rel.dep1, Rel.ons, Region.binds, Act.eval] at hd; simp only [Act.eval, List.mem_cons, List.not_mem_nil, not_or, and_imp, or_false, Array.getD_eq_getD_getElem?] at hbase; go_simp; refine ⟨?_, ?_⟩; rfl; rfl)); (focus (intro W hb; go_at_call 68; exact (HW2.out W))); (try simp only [List.nil_append, List.cons_append]))
      iterate 2 (apply Rel.op3; (focus (first | exact Rel.gno rfl | exact Rel.gyes _ true _ rfl rfl rfl | exact Rel.gyes _ false _ rfl rfl rfl)); (focus (intro a W hb hd hbase; obtain ⟨hc, hf⟩ := bcell hb; clear hb hf; simp [Rel.deps, Rel.dep1, Rel.ons, Region.binds, Act.eval] at hd; simp only [Act.eval, List.mem_cons, List.not_mem_nil, not_or, and_imp, or_false, Array.getD_eq_getD_getElem?] at hbase; go_simp; (try go_bits); (try rfl); done)); (try simp only [List.nil_append, List.cons_append]))
      (apply Rel.call3; (focus (first | exact Rel.gno rfl | exact Rel.gyes _ true _ rfl rfl rfl | exact Rel.gyes _ false _ rfl rfl rfl)); (focus (intro a W hb hd hbase; obtain ⟨hc, hf⟩ := bcell hb; clear hb hf; simp [Rel.deps, Rel.dep1, Rel.ons, Region.binds, Act.eval] at hd; simp only [Act.eval, List.mem_cons, List.not_mem_nil, not_or, and_imp, or_false, Array.getD_eq_getD_getElem?] at hbase; go_simp; refine ⟨?_, ?_⟩; rfl; rfl)); (focus (intro W hb; go_at_call 71; exact (HEA.out W (HP1.out.below hb)))); (try simp only [List.nil_append, List.cons_append]))
      refine Rel.done3 ?_
      intro x w2 hb2 hx
      simp only [Rel.facts, Nat.zero_add, Nat.reduceAdd] at hx
      obtain ⟨e0, e1, e2, e3, e4, e5, e6, e7, e8, e9, e10, e11, e12, e13, e14, e15, e16, e17, e18, e19, e20, e21, _⟩ := hx
      simp only [Rel.fill, Nat.zero_add, Nat.reduceAdd, e0, e1, e2, e3, e4, e5, e6, e7, e8, e9, e10, e11, e12, e13, e14, e15, e16, e17, e18, e19, e20, e21]
      simp only [Act.put, List.setIfInBounds_toArray, List.set_cons_zero, List.set_cons_succ]
      clear e0 e1 e2 e3 e4 e5 e6 e7 e8 e9 e10 e11 e12 e13 e14 e15 e16 e17 e18 e19 e20 e21
      have HB2 := Lib.hid (HB1.out.trans (hb2.mono HB1.out.size))
      clear hb2 c00 c01 c02 c03 c04 l0 f0 s00 s01 s02 l1 f1
      go_wp2_with (go_at_call 49; refine (HFI.out _ _ _ _ _).mono ?_; rw [HF2.out]; rintro r w5 ⟨rfl, rfl⟩)
      go_ret
      exact ⟨rfl, HB2.out.alloc HB2.out.size _⟩
  · have hst := HST.out.2 he
    rw [hst]
    clear hM hL hQ hT hG hP hE hR HST hval hst
    go_enter Tryz.func50, Tryz.ntmps50
    go_wp2_with (go_at_call 35; refine (HCG.out _ (HT.out.below (by (repeat (first | (with_reducible exact Below.refl _ _) | ((with_reducible refine Below.setCell ?_ ?_ _); rotate_left 1; focus (first | (simp; done) | (simp; omega) | (simp at *; omega))) | ((with_reducible refine Below.alloc ?_ ?_ _); rotate_left 1; focus (first | (simp; done) | (simp; omega) | (simp at *; omega))) | (with_reducible refine Below.drew ?_) | ((with_reducible refine Calm.step (by assumption) ?_ ?_); rotate_left 1; focus (first | (simp; done) | (simp; omega) | (simp at *; omega))))))) (HG.out.below (by (repeat (first | (with_reducible exact Below.refl _ _) | ((with_reducible refine Below.setCell ?_ ?_ _); rotate_left 1; focus (first | (simp; done) | (simp; omega) | (simp at *; omega))) | ((with_reducible refine Below.alloc ?_ ?_ _); rotate_left 1; focus (first | (simp; done) | (simp; omega) | (simp at *; omega))) | (with_reducible refine Below.drew ?_) | ((with_reducible refine Calm.step (by assumption) ?_ ?_); rotate_left 1; focus (first | (simp; done) | (simp; omega) | (simp at *; omega)))))))).mono ?_; rintro r w1 ⟨rfl, hb1⟩; have HB1 := Lib.hid (show Below w.heap.size w w1 from Below.trans (by (repeat (first | (with_reducible exact Below.refl _ _) | ((with_reducible refine Below.setCell ?_ ?_ _); rotate_left 1; focus (first | (simp; done) | (simp; omega) | (simp at *; omega))) | ((with_reducible refine Below.alloc ?_ ?_ _); rotate_left 1; focus (first | (simp; done) | (simp; omega) | (simp at *; omega))) | (with_reducible refine Below.drew ?_) | ((with_reducible refine Calm.step (by assumption) ?_ ?_); rotate_left 1; focus (first | (simp; done) | (simp; omega) | (simp at *; omega)))))) (hb1.mono (by simp; omega))); clear hb1)
    go_ret
    exact ⟨rfl, HB1.out⟩
end Go.Proofs.YtdeapbihbhoefaaGreatDoor

/- Contracts of Begin, safe, Safe, Tails. -/
namespace Go.Proofs.YtdeapbihbhoefaaGreatDoor
open Go.RowKit
open Calm (bcell Blk)

/-- a valid guard and state. -/
structure StV (lk ht rc : Int) (ts gs : List Int) (h lv : Int) (ps : List Int) : Prop where
  g : guardErr lk ht rc ts gs = 0
  v : Valid lk ht rc ts gs
  h : 0 ≤ h ∧ h ≤ 536870912
  lv : 0 ≤ lv ∧ lv < gs.length
  pl : ts.length = ps.length + 1
  pb : inB 2048 ps
theorem stErr_zero {lk ht rc h lv : Int} {ts gs ps : List Int} (e : stErr lk ht rc ts gs h lv ps = 0) : StV lk ht rc ts gs h lv ps := by
  unfold stErr at e
  split at e
  · rename_i hg
    have h2 := firstOf_eq_zero.1 e
    have k1 := rangeErr_zero.1 (h2 (rangeErr h 0 536870912) (by simp))
    have k2 := rangeErr_zero.1 (h2 (rangeErr lv 0 ((gs.length : Int) - 1)) (by simp))
    have k3 := h2 (if ps.length + 1 = ts.length then 0 else 2) (by simp)
    have k4 := eachErr_zero.1 (h2 (eachErr ps (-2048) 2048) (by simp))
    refine ⟨hg, guard_valid hg, k1, ⟨k2.1, by omega⟩, ?_, k4⟩
    split at k3
    · rename_i h3; exact h3.symm
    · simp at k3
  · rename_i hg; exact absurd e hg
set_option maxHeartbeats 1000000 in
theorem Begin_bad (lk ht rc : Int) (ts gs : List Int) (A1 A2 : Option Addr) (M L c1 c2 : Nat) (w : World) (hM : M = ts.length) (hL : L = gs.length) (hT : Cells w A1 ts) (hG : Cells w A2 gs) (h1 : M ≤ 1000) (h2 : L ≤ 1000) (he : guardErr lk ht rc ts gs ≠ 0) :
    Calls Tryz.prog 22 #[.agg #[(.int .i64 lk), (.int .i64 ht), .slice A1 M c1, (.int .i64 rc), .slice A2 L c2]] w fun r w' => r = .returned (.tuple #[.agg #[(.int .i64 0), (.int .i64 0), .slice none 0 0], (.int .i64 (guardErr lk ht rc ts gs))]) ∧ Below w.heap.size w w' := by
  have HCG : Hid (∀ W, Cells W A1 ts → Cells W A2 gs → Calls Tryz.prog 35 #[.agg #[(.int .i64 lk), (.int .i64 ht), .slice A1 M c1, (.int .i64 rc), .slice A2 L c2]] W fun r w' => r = .returned (.int .i64 (guardErr lk ht rc ts gs)) ∧ Below W.heap.size W w') := Lib.hid (fun W q1 q2 => by rw [hM, hL]; exact checkGuard_any lk ht rc ts gs A1 A2 c1 c2 W q1 q2 (by omega) (by omega))
  have HT := Lib.hid hT
  have HG := Lib.hid hG
  obtain ⟨E, hE⟩ : ∃ E, E = guardErr lk ht rc ts gs := ⟨_, rfl⟩
  rw [← hE] at HCG he ⊢
  clear hM hL hT hG hE
  go_enter Tryz.func22, Tryz.ntmps22
  go_wp2_with (go_at_call 35; refine (HCG.out _ (HT.out.below (by (repeat (first | (with_reducible exact Below.refl _ _) | ((with_reducible refine Below.setCell ?_ ?_ _); rotate_left 1; focus (first | (simp; done) | (simp; omega) | (simp at *; omega))) | ((with_reducible refine Below.alloc ?_ ?_ _); rotate_left 1; focus (first | (simp; done) | (simp; omega) | (simp at *; omega))) | (with_reducible refine Below.drew ?_) | ((with_reducible refine Calm.step (by assumption) ?_ ?_); rotate_left 1; focus (first | (simp; done) | (simp; omega) | (simp at *; omega))))))) (HG.out.below (by (repeat (first | (with_reducible exact Below.refl _ _) | ((with_reducible refine Below.setCell ?_ ?_ _); rotate_left 1; focus (first | (simp; done) | (simp; omega) | (simp at *; omega))) | ((with_reducible refine Below.alloc ?_ ?_ _); rotate_left 1; focus (first | (simp; done) | (simp; omega) | (simp at *; omega))) | (with_reducible refine Below.drew ?_) | ((with_reducible refine Calm.step (by assumption) ?_ ?_); rotate_left 1; focus (first | (simp; done) | (simp; omega) | (simp at *; omega)))))))).mono ?_; rintro r w1 ⟨rfl, hb1⟩; have HB1 := Lib.hid (show Below w.heap.size w w1 from Below.trans (by (repeat (first | (with_reducible exact Below.refl _ _) | ((with_reducible refine Below.setCell ?_ ?_ _); rotate_left 1; focus (first | (simp; done) | (simp; omega) | (simp at *; omega))) | ((with_reducible refine Below.alloc ?_ ?_ _); rotate_left 1; focus (first | (simp; done) | (simp; omega) | (simp at *; omega))) | (with_reducible refine Below.drew ?_) | ((with_reducible refine Calm.step (by assumption) ?_ ?_); rotate_left 1; focus (first | (simp; done) | (simp; omega) | (simp at *; omega)))))) (hb1.mono (by simp; omega))); have S1 := Lib.hid (show Blk w1 (w.heap.size + 1) #[(.int .i64 0), (.int .i64 0), .slice none 0 0] from Blk.below (by (repeat (first | ((with_reducible refine Blk.at_ ?_); focus (first | rfl | (simp; done) | (simp; omega))) | (with_reducible refine Blk.alloc ?_ _) | (with_reducible refine Blk.below ?_ (by with_reducible assumption)) | (with_reducible refine Blk.drew ?_)))) hb1); obtain ⟨s0, s1, s2, l1, f1⟩ := S1.out.o3; clear hb1)
  have K := ((S1.out.set (i := 0) (by simp) (.int .i64 0)).set (i := 1) (by simp) (.int .i64 0)).set (i := 2) (by simp) (.slice none 0 0)
  obtain ⟨k0, k1, k2, _, _⟩ := K.o3
  refine bodyPost_ret (v := .tuple #[.agg #[(.int .i64 0), (.int .i64 0), .slice none 0 0], (.int .i64 E)]) ?_ rfl ⟨rfl, ?_⟩
  · simp [results, Tryz.results22, go_sem, k0, k1, k2]
  · exact ((HB1.out.setCell (by simp) _).setCell (by simp) _).setCell (by simp) _

set_option maxHeartbeats 1000000 in
theorem Begin_ok (lk ht rc : Int) (ts gs : List Int) (A1 A2 : Option Addr) (M L c1 c2 : Nat) (w : World) (hM : M = ts.length) (hL : L = gs.length) (hT : Cells w A1 ts) (hG : Cells w A2 gs) (h1 : M ≤ 1000) (h2 : L ≤ 1000) (he : guardErr lk ht rc ts gs = 0) :
    Calls Tryz.prog 22 #[.agg #[(.int .i64 lk), (.int .i64 ht), .slice A1 M c1, (.int .i64 rc), .slice A2 L c2]] w fun r w' => (∃ B, w.heap.size ≤ B.block ∧ r = .returned (.tuple #[.agg #[(.int .i64 0), (.int .i64 (((L - 1 : Nat) : Int))), .slice (some B) (M - 1) (M - 1)], (.int .i64 0)]) ∧ Cells w' (some B) (List.replicate (M - 1) 0) ∧ IntRow w' B) ∧ Below w.heap.size w w' := by
  have hV := guard_valid he
  have htl := hV.tl
  have hgl := hV.gl
  have HCG : Hid (∀ W, Cells W A1 ts → Cells W A2 gs → Calls Tryz.prog 35 #[.agg #[(.int .i64 lk), (.int .i64 ht), .slice A1 M c1, (.int .i64 rc), .slice A2 L c2]] W fun r w' => r = .returned (.int .i64 0) ∧ Below W.heap.size W w') := Lib.hid (fun W q1 q2 => by
    have := checkGuard_any lk ht rc ts gs A1 A2 c1 c2 W q1 q2 (by omega) (by omega)
    rwa [← hM, ← hL, he] at this)
  have HRS : Hid (∀ W, Calls Tryz.prog 55 #[.agg #[(.int .i64 lk), (.int .i64 ht), .slice A1 M c1, (.int .i64 rc), .slice A2 L c2]] W fun r w' => (∃ B, W.heap.size ≤ B.block ∧ r = .returned (.agg #[(.int .i64 0), (.int .i64 (((L - 1 : Nat) : Int))), .slice (some B) (M - 1) (M - 1)]) ∧ Cells w' (some B) (List.replicate (M - 1) 0) ∧ IntRow w' B) ∧ Below W.heap.size W w') := Lib.hid (fun W => rest_typed lk ht rc A1 A2 M c1 L c2 W (by omega) (by omega))
  have HT := Lib.hid hT
  have HG := Lib.hid hG
  clear hM hL hT hG he hV htl hgl
  go_enter Tryz.func22, Tryz.ntmps22
  go_wp2_with (first
    | (go_at_call 35; refine (HCG.out _ (HT.out.below (by (repeat (first | (with_reducible exact Below.refl _ _) | ((with_reducible refine Below.setCell ?_ ?_ _); rotate_left 1; focus (first | (simp; done) | (simp; omega) | (simp at *; omega))) | ((with_reducible refine Below.alloc ?_ ?_ _); rotate_left 1; focus (first | (simp; done) | (simp; omega) | (simp at *; omega))) | (with_reducible refine Below.drew ?_) | ((with_reducible refine Calm.step (by assumption) ?_ ?_); rotate_left 1; focus (first | (simp; done) | (simp; omega) | (simp at *; omega))))))) (HG.out.below (by (repeat (first | (with_reducible exact Below.refl _ _) | ((with_reducible refine Below.setCell ?_ ?_ _); rotate_left 1; focus (first | (simp; done) | (simp; omega) | (simp at *; omega))) | ((with_reducible refine Below.alloc ?_ ?_ _); rotate_left 1; focus (first | (simp; done) | (simp; omega) | (simp at *; omega))) | (with_reducible refine Below.drew ?_) | ((with_reducible refine Calm.step (by assumption) ?_ ?_); rotate_left 1; focus (first | (simp; done) | (simp; omega) | (simp at *; omega)))))))).mono ?_; rintro r w1 ⟨rfl, hb1⟩; have HB1 := Lib.hid (show Below w.heap.size w w1 from Below.trans (by (repeat (first | (with_reducible exact Below.refl _ _) | ((with_reducible refine Below.setCell ?_ ?_ _); rotate_left 1; focus (first | (simp; done) | (simp; omega) | (simp at *; omega))) | ((with_reducible refine Below.alloc ?_ ?_ _); rotate_left 1; focus (first | (simp; done) | (simp; omega) | (simp at *; omega))) | (with_reducible refine Below.drew ?_) | ((with_reducible refine Calm.step (by assumption) ?_ ?_); rotate_left 1; focus (first | (simp; done) | (simp; omega) | (simp at *; omega)))))) (hb1.mono (by simp; omega))); have G1 := Lib.hid (show Blk w1 w.heap.size #[(.int .i64 lk), (.int .i64 ht), .slice A1 M c1, (.int .i64 rc), .slice A2 L c2] from Blk.below (by (repeat (first | ((with_reducible refine Blk.at_ ?_); focus (first | rfl | (simp; done) | (simp; omega))) | (with_reducible refine Blk.alloc ?_ _) | (with_reducible refine Blk.below ?_ (by with_reducible assumption)) | (with_reducible refine Blk.drew ?_)))) hb1); obtain ⟨g0, g1, g2, g3, g4, gl, gf⟩ := G1.out.o5; have S1 := Lib.hid (show Blk w1 (w.heap.size + 1) #[(.int .i64 0), (.int .i64 0), .slice none 0 0] from Blk.below (by (repeat (first | ((with_reducible refine Blk.at_ ?_); focus (first | rfl | (simp; done) | (simp; omega))) | (with_reducible refine Blk.alloc ?_ _) | (with_reducible refine Blk.below ?_ (by with_reducible assumption)) | (with_reducible refine Blk.drew ?_)))) hb1); clear hb1)
    | (go_at_call 55; refine (HRS.out _).mono ?_; rintro r w2 ⟨⟨B, hBb, rfl, hC2, hI2⟩, hb2⟩; have HI2 := Lib.hid hI2; clear hI2; have HB2 := Lib.hid (HB1.out.trans (hb2.mono HB1.out.size)); have S2 := Lib.hid (S1.out.below hb2); have hs1 := HB1.out.size; have hl1 := S1.out.lt; obtain ⟨s0, s1, s2, l1, f1⟩ := S2.out.o3; have HC2 := Lib.hid hC2; clear hC2 hb2 g0 g1 g2 g3 g4 gl gf))
  have K := ((S2.out.set (i := 0) (by simp) (.int .i64 0)).set (i := 1) (by simp) (.int .i64 (((L - 1 : Nat) : Int)))).set (i := 2) (by simp) (.slice (some B) (M - 1) (M - 1))
  obtain ⟨k0, k1, k2, _, _⟩ := K.o3
  have hne : 0 < M - 1 → B.block ≠ w.heap.size + 1 := fun h => by
    obtain ⟨b, o, e, hl, _⟩ := HC2.out (by simpa using h)
    have : B.block = b := by cases e; rfl
    omega
  refine bodyPost_ret (v := .tuple #[.agg #[(.int .i64 0), (.int .i64 (((L - 1 : Nat) : Int))), .slice (some B) (M - 1) (M - 1)], (.int .i64 0)]) ?_ rfl ⟨⟨B, by omega, rfl, ?_, ?_⟩, ?_⟩
  · simp [results, Tryz.results22, go_sem, k0, k1, k2]
  · exact ((HC2.out.sets (g := w.heap.size + 1) (by intro h p hp; cases hp; exact hne (by simpa using h)) 0 _).sets (by intro h p hp; cases hp; exact hne (by simpa using h)) 1 _).sets (by intro h p hp; cases hp; exact hne (by simpa using h)) 2 _
  · have hne2 : B.block ≠ w.heap.size + 1 := by omega
    exact ((HI2.out.sets hne2 0 _).sets hne2 1 _).sets hne2 2 _
  · exact ((HB2.out.setCell (by simp) _).setCell (by simp) _).setCell (by simp) _
end Go.Proofs.YtdeapbihbhoefaaGreatDoor
