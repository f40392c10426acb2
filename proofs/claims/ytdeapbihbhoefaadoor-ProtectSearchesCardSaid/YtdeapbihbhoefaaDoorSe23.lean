/- Part 23 of the texts of the claim: LSe_0, LSe_1, LSe_2, LSe_a, LSe_bl, LSe_bg. -/
import Derived.Test.YtdeapbihbhoefaaDoorSe22

/- ProtectSearches, case 0. -/
namespace Go.Proofs.YtdeapbihbhoefaaDoor
open Go.RowKit
open Calm (bcell Blk)
set_option maxRecDepth 100000 in
set_option maxHeartbeats 8000000 in
theorem searches_0 (lk ht rc n : Int) (M L N : Nat) (ts gs xs : List Int) (u v : Value) (w : World) (hTab : PTab w) (hM : M = ts.length) (hL : L = gs.length) (hN : N = xs.length) (b0 : ¬ (M ≤ 9 ∧ L ≤ 9)) (hu : KG lk ht rc M ts L gs u w) (hv : KS N xs v w) :
    Calls Tryd.prog 7 #[u, v, (.int .i64 n)] w fun r w' => r = .returned (.bool true) ∧ Below w.heap.size w w' := by
  obtain ⟨A1, c1, A2, c2, rfl, hT, hG⟩ := hu
  obtain ⟨A3, c3, rfl, hP⟩ := hv
  have HU := Lib.hid (show KG lk ht rc M ts L gs (.agg #[(.int .i64 lk), (.int .i64 ht), .slice A1 M c1, (.int .i64 rc), .slice A2 L c2]) w from ⟨_, _, _, _, rfl, hT, hG⟩)
  have HX := Lib.hid (show KS N xs (.slice A3 N c3) w from ⟨_, _, rfl, hP⟩)
  have HSH : Hid (∀ W, KG lk ht rc M ts L gs (.agg #[(.int .i64 lk), (.int .i64 ht), .slice A1 M c1, (.int .i64 rc), .slice A2 L c2]) W → Calls Tryd.prog 13 #[.agg #[(.int .i64 lk), (.int .i64 ht), .slice A1 M c1, (.int .i64 rc), .slice A2 L c2]] W (KP (KV (.bool false)) W)) := Lib.hid (fun W q => by have := Short_K q; rwa [decide_eq_false b0] at this)
  have HTab := Lib.hid hTab
  clear hTab hM hL hN hT hG hP b0
  go_enter Tryd.func7, Tryd.ntmps7
  have HB0 := Lib.hid (Below.refl w.heap.size w)
  go_wp2_with (go_at_call 13; refine name_calls ?_; intro w1 e1; refine Hid.out ?_)
  unfold Hid
  have h1 : Below w.heap.size w w1 := by rw [e1]; exact bel
  have HB1 := Lib.hid (HB0.out.trans (h1.mono HB0.out.size))
  have bg_1 := Lib.hid (show Blk w1 w.heap.size #[(.int .i64 lk), (.int .i64 ht), .slice A1 M c1, (.int .i64 rc), .slice A2 L c2] from by rw [e1]; (repeat (first | ((with_reducible refine Blk.at_ ?_); focus (first | rfl | (simp; done) | (simp; omega))) | (with_reducible refine Blk.alloc ?_ _) | (with_reducible refine Blk.below ?_ (by with_reducible assumption)) | (with_reducible refine Blk.drew ?_))))
  clear e1 h1
  refine (HSH.out _ (KG.st _ _ _ _ _ _ _ _ _ _ HU.out HB1.out)).mono ?_
  rintro r w2 ⟨v2, rfl, k2, h2⟩
  have bg_2 := Lib.hid (bg_1.out.below h2)
  have HB2 := Lib.hid (HB1.out.trans (h2.mono HB1.out.size))
  obtain rfl := k2
  clear h2
  have ug_rw2 := Lib.hid (KG.st _ _ _ _ _ _ _ _ _ _ HU.out HB2.out)
  have ux_rw2 := Lib.hid (KS.st _ _ _ _ _ HX.out HB2.out)
  have HTabw2 := Lib.hid (HTab.out.below HB2.out)
  have HZw2 := Lib.hid (Below.refl w2.heap.size w2)
  clear HU HX HTab
  go_wp2_with (go_at_call 15; refine name_calls ?_; intro w3 e3; refine Hid.out ?_)
  unfold Hid
  have h3 : Below w2.heap.size w2 w3 := by rw [e3]; exact bel
  have HB3 := Lib.hid (HZw2.out.trans (h3.mono HZw2.out.size))
  clear e3 h3
  refine (awake_any _ (HTabw2.out.below HB3.out)).mono ?_
  rintro r w4 ⟨rfl, h4⟩
  have HB4 := Lib.hid (HB3.out.trans (h4.mono HB3.out.size))
  clear h4
  go_wp2
  go_ret
  exact ⟨by first | rfl | (simp; done), HB2.out.trans (HB4.out.mono HB2.out.size)⟩
end Go.Proofs.YtdeapbihbhoefaaDoor

/- ProtectSearches, case 1. -/
namespace Go.Proofs.YtdeapbihbhoefaaDoor
open Go.RowKit
open Calm (bcell Blk)
set_option maxRecDepth 100000 in
set_option maxHeartbeats 8000000 in
theorem searches_1 (lk ht rc n : Int) (M L N : Nat) (ts gs xs : List Int) (u v : Value) (w : World) (hTab : PTab w) (hM : M = ts.length) (hL : L = gs.length) (hN : N = xs.length) (b0 : M ≤ 9 ∧ L ≤ 9) (b1 : ¬ N ≤ 7) (hu : KG lk ht rc M ts L gs u w) (hv : KS N xs v w) :
    Calls Tryd.prog 7 #[u, v, (.int .i64 n)] w fun r w' => r = .returned (.bool true) ∧ Below w.heap.size w w' := by
  obtain ⟨A1, c1, A2, c2, rfl, hT, hG⟩ := hu
  obtain ⟨A3, c3, rfl, hP⟩ := hv
  have HU := Lib.hid (show KG lk ht rc M ts L gs (.agg #[(.int .i64 lk), (.int .i64 ht), .slice A1 M c1, (.int .i64 rc), .slice A2 L c2]) w from ⟨_, _, _, _, rfl, hT, hG⟩)
  have HX := Lib.hid (show KS N xs (.slice A3 N c3) w from ⟨_, _, rfl, hP⟩)
  have HSH : Hid (∀ W, KG lk ht rc M ts L gs (.agg #[(.int .i64 lk), (.int .i64 ht), .slice A1 M c1, (.int .i64 rc), .slice A2 L c2]) W → Calls Tryd.prog 13 #[.agg #[(.int .i64 lk), (.int .i64 ht), .slice A1 M c1, (.int .i64 rc), .slice A2 L c2]] W (KP (KV (.bool true)) W)) := Lib.hid (fun W q => by have := Short_K q; rwa [decide_eq_true b0] at this)
  have hlen : (7 : Int) < (N : Int) := by omega
  have HTab := Lib.hid hTab
  clear hTab hM hL hN hT hG hP b1
  go_enter Tryd.func7, Tryd.ntmps7
  have HB0 := Lib.hid (Below.refl w.heap.size w)
  go_wp2_with (go_at_call 13; refine name_calls ?_; intro w1 e1; refine Hid.out ?_)
  unfold Hid
  have h1 : Below w.heap.size w w1 := by rw [e1]; exact bel
  have HB1 := Lib.hid (HB0.out.trans (h1.mono HB0.out.size))
  have bg_1 := Lib.hid (show Blk w1 w.heap.size #[(.int .i64 lk), (.int .i64 ht), .slice A1 M c1, (.int .i64 rc), .slice A2 L c2] from by rw [e1]; (repeat (first | ((with_reducible refine Blk.at_ ?_); focus (first | rfl | (simp; done) | (simp; omega))) | (with_reducible refine Blk.alloc ?_ _) | (with_reducible refine Blk.below ?_ (by with_reducible assumption)) | (with_reducible refine Blk.drew ?_))))
  clear e1 h1
  refine (HSH.out _ (KG.st _ _ _ _ _ _ _ _ _ _ HU.out HB1.out)).mono ?_
  rintro r w2 ⟨v2, rfl, k2, h2⟩
  have bg_2 := Lib.hid (bg_1.out.below h2)
  have HB2 := Lib.hid (HB1.out.trans (h2.mono HB1.out.size))
  obtain rfl := k2
  clear h2
  have ug_rw2 := Lib.hid (KG.st _ _ _ _ _ _ _ _ _ _ HU.out HB2.out)
  have ux_rw2 := Lib.hid (KS.st _ _ _ _ _ HX.out HB2.out)
  have HTabw2 := Lib.hid (HTab.out.below HB2.out)
  have HZw2 := Lib.hid (Below.refl w2.heap.size w2)
  clear HU HX HTab
  go_wp2_with (go_at_call 15; refine name_calls ?_; intro w3 e3; refine Hid.out ?_)
  unfold Hid
  have h3 : Below w2.heap.size w2 w3 := by rw [e3]; exact bel
  have HB3 := Lib.hid (HZw2.out.trans (h3.mono HZw2.out.size))
  clear e3 h3
  refine (awake_any _ (HTabw2.out.below HB3.out)).mono ?_
  rintro r w4 ⟨rfl, h4⟩
  have HB4 := Lib.hid (HB3.out.trans (h4.mono HB3.out.size))
  clear h4
  go_wp2
  go_ret
  exact ⟨by first | rfl | (simp; done), HB2.out.trans (HB4.out.mono HB2.out.size)⟩
end Go.Proofs.YtdeapbihbhoefaaDoor

/- ProtectSearches, case 2. -/
namespace Go.Proofs.YtdeapbihbhoefaaDoor
open Go.RowKit
open Calm (bcell Blk)
set_option maxRecDepth 100000 in
set_option maxHeartbeats 8000000 in
theorem searches_2 (lk ht rc n : Int) (M L N : Nat) (ts gs xs : List Int) (u v : Value) (w : World) (hTab : PTab w) (hM : M = ts.length) (hL : L = gs.length) (hN : N = xs.length) (b0 : M ≤ 9 ∧ L ≤ 9) (b1 : N ≤ 7) (b2 : 4 < n) (b3 : n ≤ 6) (hu : KG lk ht rc M ts L gs u w) (hv : KS N xs v w) :
    Calls Tryd.prog 7 #[u, v, (.int .i64 n)] w fun r w' => r = .returned (.bool true) ∧ Below w.heap.size w w' := by
  obtain ⟨A1, c1, A2, c2, rfl, hT, hG⟩ := hu
  obtain ⟨A3, c3, rfl, hP⟩ := hv
  have HU := Lib.hid (show KG lk ht rc M ts L gs (.agg #[(.int .i64 lk), (.int .i64 ht), .slice A1 M c1, (.int .i64 rc), .slice A2 L c2]) w from ⟨_, _, _, _, rfl, hT, hG⟩)
  have HX := Lib.hid (show KS N xs (.slice A3 N c3) w from ⟨_, _, rfl, hP⟩)
  have HSH : Hid (∀ W, KG lk ht rc M ts L gs (.agg #[(.int .i64 lk), (.int .i64 ht), .slice A1 M c1, (.int .i64 rc), .slice A2 L c2]) W → Calls Tryd.prog 13 #[.agg #[(.int .i64 lk), (.int .i64 ht), .slice A1 M c1, (.int .i64 rc), .slice A2 L c2]] W (KP (KV (.bool true)) W)) := Lib.hid (fun W q => by have := Short_K q; rwa [decide_eq_true b0] at this)
  have hlen : (N : Int) ≤ 7 := by omega
  have hd7 : decide ((7 : Int) < (N : Int)) = false := decide_eq_false (by omega)
  have HTab := Lib.hid hTab
  clear hTab hM hL hN hT hG hP
  go_enter Tryd.func7, Tryd.ntmps7
  have HB0 := Lib.hid (Below.refl w.heap.size w)
  go_wp2_with (go_at_call 13; refine name_calls ?_; intro w1 e1; refine Hid.out ?_)
  unfold Hid
  have h1 : Below w.heap.size w w1 := by rw [e1]; exact bel
  have HB1 := Lib.hid (HB0.out.trans (h1.mono HB0.out.size))
  have bg_1 := Lib.hid (show Blk w1 w.heap.size #[(.int .i64 lk), (.int .i64 ht), .slice A1 M c1, (.int .i64 rc), .slice A2 L c2] from by rw [e1]; (repeat (first | ((with_reducible refine Blk.at_ ?_); focus (first | rfl | (simp; done) | (simp; omega))) | (with_reducible refine Blk.alloc ?_ _) | (with_reducible refine Blk.below ?_ (by with_reducible assumption)) | (with_reducible refine Blk.drew ?_))))
  clear e1 h1
  refine (HSH.out _ (KG.st _ _ _ _ _ _ _ _ _ _ HU.out HB1.out)).mono ?_
  rintro r w2 ⟨v2, rfl, k2, h2⟩
  have bg_2 := Lib.hid (bg_1.out.below h2)
  have HB2 := Lib.hid (HB1.out.trans (h2.mono HB1.out.size))
  obtain rfl := k2
  clear h2
  have ug_rw2 := Lib.hid (KG.st _ _ _ _ _ _ _ _ _ _ HU.out HB2.out)
  have ux_rw2 := Lib.hid (KS.st _ _ _ _ _ HX.out HB2.out)
  have HTabw2 := Lib.hid (HTab.out.below HB2.out)
  have HZw2 := Lib.hid (Below.refl w2.heap.size w2)
  clear HU HX HTab
  go_wp2_with (go_at_call 15; refine name_calls ?_; intro w3 e3; refine Hid.out ?_)
  unfold Hid
  have h3 : Below w2.heap.size w2 w3 := by rw [e3]; exact bel
  have HB3 := Lib.hid (HZw2.out.trans (h3.mono HZw2.out.size))
  clear e3 h3
  refine (awake_any _ (HTabw2.out.below HB3.out)).mono ?_
  rintro r w4 ⟨rfl, h4⟩
  have HB4 := Lib.hid (HB3.out.trans (h4.mono HB3.out.size))
  clear h4
  go_wp2
  go_ret
  exact ⟨by first | rfl | (simp; done), HB2.out.trans (HB4.out.mono HB2.out.size)⟩
end Go.Proofs.YtdeapbihbhoefaaDoor

/- ProtectSearches, case a. -/
namespace Go.Proofs.YtdeapbihbhoefaaDoor
open Go.RowKit
open Calm (bcell Blk)
set_option maxRecDepth 100000 in
set_option maxHeartbeats 8000000 in
theorem searches_a (lk ht rc n : Int) (M L N : Nat) (ts gs xs : List Int) (u v : Value) (w : World) (hTab : PTab w) (hM : M = ts.length) (hL : L = gs.length) (hN : N = xs.length) (b0 : M ≤ 9 ∧ L ≤ 9) (b1 : N ≤ 7) (b2 : n ≤ 4) (b3 : loudErr lk ht rc ts gs xs n = 0) (hu : KG lk ht rc M ts L gs u w) (hv : KS N xs v w) :
    Calls Tryd.prog 7 #[u, v, (.int .i64 n)] w fun r w' => r = .returned (.bool true) ∧ Below w.heap.size w w' := by
  obtain ⟨A1, c1, A2, c2, rfl, hT, hG⟩ := hu
  obtain ⟨A3, c3, rfl, hP⟩ := hv
  have HU := Lib.hid (show KG lk ht rc M ts L gs (.agg #[(.int .i64 lk), (.int .i64 ht), .slice A1 M c1, (.int .i64 rc), .slice A2 L c2]) w from ⟨_, _, _, _, rfl, hT, hG⟩)
  have HX := Lib.hid (show KS N xs (.slice A3 N c3) w from ⟨_, _, rfl, hP⟩)
  have HSH : Hid (∀ W, KG lk ht rc M ts L gs (.agg #[(.int .i64 lk), (.int .i64 ht), .slice A1 M c1, (.int .i64 rc), .slice A2 L c2]) W → Calls Tryd.prog 13 #[.agg #[(.int .i64 lk), (.int .i64 ht), .slice A1 M c1, (.int .i64 rc), .slice A2 L c2]] W (KP (KV (.bool true)) W)) := Lib.hid (fun W q => by have := Short_K q; rwa [decide_eq_true b0] at this)
  have hlen : (N : Int) ≤ 7 := by omega
  have hd7 : decide ((7 : Int) < (N : Int)) = false := decide_eq_false (by omega)
  have hd4 : decide ((4 : Int) < n) = false := decide_eq_false (by omega)
  obtain ⟨b01, b02⟩ := b0
  have hEE := loudErr_three lk ht rc ts gs xs n
  obtain ⟨GE, hGE⟩ : ∃ GE, GE = guardErr lk ht rc ts gs := ⟨_, rfl⟩
  obtain ⟨LE, hLE⟩ : ∃ LE, LE = firstOf [someErr (xs.length : Int) 6, ascErr xs (-2048) 2048] := ⟨_, rfl⟩
  obtain ⟨RE, hRE⟩ : ∃ RE, RE = rangeErr n 0 6 := ⟨_, rfl⟩
  obtain ⟨SE, hSE⟩ : ∃ SE, SE = sigErr xs := ⟨_, rfl⟩
  have hGG := hGE
  have HGU : Hid (∀ {x : Value} (W : World), KG lk ht rc M ts L gs x W → Calls Tryd.prog 17 #[x] W (KP (KGI lk ht rc M ts L gs) W)) := Lib.hid (fun W q => guard_K hM hL (by omega) (by omega) q)
  have HIN : Hid (∀ {x : Value} (W : World), KS N xs x W → Calls Tryd.prog 41 #[x] W (KP (KSI N xs) W)) := Lib.hid (fun W q => ints_K hN (by omega) q)
  have HCG : Hid (∀ {x : Value} (W : World), KG lk ht rc M ts L gs x W → Calls Tryd.prog 18 #[x] W (KP (KV (.int .i64 GE)) W)) := Lib.hid (fun W q => by rw [hGE]; exact rGuard_K hM hL (by omega) (by omega) q)
  have HCL : Hid (∀ {x : Value} (W : World), KS N xs x W → Calls Tryd.prog 57 #[x] W (KP (KV (.int .i64 LE)) W)) := Lib.hid (fun W q => by rw [hLE]; exact rCheckLevels_K hN (by omega) q)
  have HCR : Hid (∀ (W : World), Calls Tryd.prog 58 #[(.int .i64 n), (.int .i64 0), (.int .i64 6)] W (KP (KV (.int .i64 RE)) W)) := Lib.hid (fun W => by rw [hRE]; exact (qRange_any n 0 6 W).mono fun e W' ⟨k1, k2⟩ => ⟨_, k1, rfl, k2 ▸ Below.refl _ _⟩)
  have hz := loudErr_zero b3
  have hV := guard_valid hz.1
  have hg2 := hz.2.1
  have hg3 := ascErr_in hz.2.2.1
  have hg4 := hz.2.2.2
  obtain ⟨k, hk⟩ : ∃ k : Nat, n = k := ⟨n.toNat, by omega⟩
  subst hk
  have hS1 : sigErr xs = 0 := sigErr_ok hg3 (by omega)
  obtain ⟨LR, hLR⟩ : ∃ LR, LR = (loudF lk ht rc ts gs xs k).getD [] := ⟨_, rfl⟩
  obtain ⟨NR, hNR⟩ : ∃ NR, NR = LR.length := ⟨_, rfl⟩
  obtain ⟨E1, hE1⟩ : ∃ E1 : Int, E1 = if (loudF lk ht rc ts gs xs k).isSome then 0 else 24 := ⟨_, rfl⟩
  have hnk : NR ≤ 1000 := by
    rw [hNR, hLR]
    cases h : loudF lk ht rc ts gs xs k with
    | none => exact Nat.zero_le _
    | some r => have := (loud_sound h).2; show r.length ≤ _; omega
  have HLO : Hid (∀ {a y : Value} (W : World), Lim W → KG lk ht rc M ts L gs a W → KS N xs y W → Calls Tryd.prog 55 #[a, y, (.int .i64 ((k : Int)))] W (KP (K2 (KS NR LR) (KV (.int .i64 E1))) W)) := Lib.hid (fun W q0 q q2 => by
    have e1 : loudR lk ht rc ts gs xs k = LR := by rw [hLR]; unfold loudR; rw [if_pos b3, Int.toNat_natCast]
    have e2 : loudE lk ht rc ts gs xs k = E1 := by rw [hE1]; unfold loudE; rw [if_pos b3, Int.toNat_natCast]
    have := cLoudest (n := (k : Int)) (N2 := NR) hM hL hN (by omega) (by omega) (by omega) q0 q q2 (by rw [e1]; exact hNR)
    rwa [e1, e2] at this)
  have HRL : Hid (∀ {a y : Value} (W : World), KG lk ht rc M ts L gs a W → KS N xs y W → Calls Tryd.prog 59 #[a, y, (.int .i64 ((k : Int)))] W (KP (K2 (KS NR LR) (KV (.int .i64 E1))) W)) := Lib.hid (fun W q q2 => by
    have := rLoudest_K hV hM hL hN (by omega) hg3 (n := k) (by omega) q q2
    rwa [← hLR, ← hNR, ← hE1] at this)
  have HSI : Hid (∀ {x y : Value} (W : World), KS NR LR x W → KS NR LR y W → Calls Tryd.prog 38 #[x, y] W (KP (KV (.bool true)) W)) := Lib.hid (fun W q q2 => same_T rfl hNR hNR (by omega) q q2)
  rw [b3, ← hGE, ← hLE, ← hRE] at hEE
  have HFI : Hid (∀ (g : Nat) (W : World), W.heap[g]? = some (.cells #[(.int .i64 GE), (.int .i64 LE), (.int .i64 RE)] 3 (0, 0)) → Calls Tryd.prog 31 #[.slice (some ⟨g, 0, none⟩) 3 3] W (KP (KV (.int .i64 0)) W)) := Lib.hid (fun g W h => by
    rw [hEE]
    exact (qFirst_any [GE, LE, RE] _ 3 W (by simp) (Cells.row h)).mono fun e W' ⟨k1, k2⟩ => ⟨_, k1, rfl, k2 ▸ Below.refl _ _⟩)
  obtain ⟨EN, hEN⟩ : ∃ EN, EN = enF xs := ⟨_, rfl⟩
  have HCX : Hid (∀ {x : Value} (W : World), KS N xs x W → Calls Tryd.prog 44 #[x] W (KP (KV (.int .i64 0)) W)) := Lib.hid (fun W q => by rw [← hS1]; exact xSignal_K hN (by omega) q)
  have HPE : Hid (∀ {y : Value} (W : World), KS N xs y W → Calls Tryd.prog 56 #[y] W (KP (K2 (KV (.int .i64 EN)) (KV (.int .i64 0))) W)) := Lib.hid (fun W q => by
    have := cEnergy hN (by omega) q
    rwa [show enR xs = EN by rw [hEN]; exact if_pos hS1, hS1] at this)
  have HRE : Hid (∀ {y : Value} (W : World), KS N xs y W → Calls Tryd.prog 60 #[y] W (KP (KV (.int .i64 EN)) W)) := Lib.hid (fun W q => by rw [hEN]; exact rEnergy_K hN (by omega) (sigErr_in hS1) q)
  have HTab := Lib.hid hTab
  clear hTab hM hL hN hT hG hP b01 b02 b1 hGE hSE hLE hRE hEE b3 hS1 hGG hz hV hg2 hg3 hg4 hnk hNR hLR hE1 hEN
  go_enter Tryd.func7, Tryd.ntmps7
  have HB0 := Lib.hid (Below.refl w.heap.size w)
  go_wp2_with (go_at_call 13; refine name_calls ?_; intro w1 e1; refine Hid.out ?_)
  unfold Hid
  have h1 : Below w.heap.size w w1 := by rw [e1]; exact bel
  have HB1 := Lib.hid (HB0.out.trans (h1.mono HB0.out.size))
  have bg_1 := Lib.hid (show Blk w1 w.heap.size #[(.int .i64 lk), (.int .i64 ht), .slice A1 M c1, (.int .i64 rc), .slice A2 L c2] from by rw [e1]; (repeat (first | ((with_reducible refine Blk.at_ ?_); focus (first | rfl | (simp; done) | (simp; omega))) | (with_reducible refine Blk.alloc ?_ _) | (with_reducible refine Blk.below ?_ (by with_reducible assumption)) | (with_reducible refine Blk.drew ?_))))
  clear e1 h1
  refine (HSH.out _ (KG.st _ _ _ _ _ _ _ _ _ _ HU.out HB1.out)).mono ?_
  rintro r w2 ⟨v2, rfl, k2, h2⟩
  have bg_2 := Lib.hid (bg_1.out.below h2)
  have HB2 := Lib.hid (HB1.out.trans (h2.mono HB1.out.size))
  obtain rfl := k2
  clear h2
  have ug_rw2 := Lib.hid (KG.st _ _ _ _ _ _ _ _ _ _ HU.out HB2.out)
  have ux_rw2 := Lib.hid (KS.st _ _ _ _ _ HX.out HB2.out)
  have HTabw2 := Lib.hid (HTab.out.below HB2.out)
  have HZw2 := Lib.hid (Below.refl w2.heap.size w2)
  clear HU HX HTab
  obtain ⟨fbg_0, fbg_1, fbg_2, fbg_3, fbg_4, fbg_l, -⟩ := (bg_2.out.below HZw2.out).o5
  go_wp2_with (go_at_call 17; refine name_calls ?_; intro w3 e3; refine Hid.out ?_)
  unfold Hid
  have h3 : Below w2.heap.size w2 w3 := by rw [e3]; exact bel
  have HB3 := Lib.hid (HZw2.out.trans (h3.mono HZw2.out.size))
  clear e3 h3
  refine (HGU.out _ (KG.st _ _ _ _ _ _ _ _ _ _ ug_rw2.out HB3.out)).mono ?_
  rintro r w4 ⟨v4, rfl, k4, h4⟩
  have HB4 := Lib.hid (HB3.out.trans (h4.mono HB3.out.size))
  have g_4 := Lib.hid k4
  clear k4 h4
  clear fbg_0 fbg_1 fbg_2 fbg_3 fbg_4 fbg_l
  go_wp2_with (go_at_call 41; refine name_calls ?_; intro w5 e5; refine Hid.out ?_)
  unfold Hid
  have h5 : Below w4.heap.size w4 w5 := by rw [e5]; exact bel
  have g_5 := Lib.hid ((KGI.ik _ _ _ _ _ _ _).st _ _ _ g_4.out h5)
  have HB5 := Lib.hid (HB4.out.trans (h5.mono HB4.out.size))
  clear e5 h5
  refine (HIN.out _ (KS.st _ _ _ _ _ ux_rw2.out HB5.out)).mono ?_
  rintro r w6 ⟨v6, rfl, k6, h6⟩
  have g_6 := Lib.hid ((KGI.ik _ _ _ _ _ _ _).st _ _ _ g_5.out h6)
  have HB6 := Lib.hid (HB5.out.trans (h6.mono HB5.out.size))
  have i_6 := Lib.hid k6
  clear k6 h6
  go_wp2_with (go_at_call 55; refine name_calls ?_; intro w7 e7; refine Hid.out ?_)
  unfold Hid
  have h7 : Below w6.heap.size w6 w7 := by rw [e7]; exact bel
  have g_7 := Lib.hid ((KGI.ik _ _ _ _ _ _ _).st _ _ _ g_6.out h7)
  have i_7 := Lib.hid ((KSI.ik N xs).st _ _ _ i_6.out h7)
  have HB7 := Lib.hid (HB6.out.trans (h7.mono HB6.out.size))
  clear e7 h7
  refine (HLO.out _ (HTabw2.out.below HB7.out).lim g_7.out.kg i_7.out.ks).mono ?_
  rintro r w8 ⟨v8, rfl, k8, h8⟩
  have g_8 := Lib.hid ((KGI.ik _ _ _ _ _ _ _).st _ _ _ g_7.out h8)
  have i_8 := Lib.hid ((KSI.ik N xs).st _ _ _ i_7.out h8)
  have HB8 := Lib.hid (HB7.out.trans (h8.mono HB7.out.size))
  obtain ⟨_, _, rfl, ⟨QA, QAc, rfl, q8⟩, rfl⟩ := k8
  have a_8 := Lib.hid (show KS NR LR (.slice QA NR QAc) w8 from ⟨_, _, rfl, q8⟩)
  clear q8 h8
  go_wp2_with (go_at_call 41; refine name_calls ?_; intro w9 e9; refine Hid.out ?_)
  unfold Hid
  have h9 : Below w8.heap.size w8 w9 := by rw [e9]; exact bel
  have a_9 := Lib.hid (KS.st _ _ _ _ _ a_8.out h9)
  have HB9 := Lib.hid (HB8.out.trans (h9.mono HB8.out.size))
  clear e9 h9
  refine (HIN.out _ (KS.st _ _ _ _ _ ux_rw2.out HB9.out)).mono ?_
  rintro r w10 ⟨v10, rfl, k10, h10⟩
  have a_10 := Lib.hid (KS.st _ _ _ _ _ a_9.out h10)
  have HB10 := Lib.hid (HB9.out.trans (h10.mono HB9.out.size))
  have i_10 := Lib.hid k10
  clear k10 h10
  go_wp2_with (go_at_call 56; refine name_calls ?_; intro w11 e11; refine Hid.out ?_)
  unfold Hid
  have h11 : Below w10.heap.size w10 w11 := by rw [e11]; exact bel
  have a_11 := Lib.hid (KS.st _ _ _ _ _ a_10.out h11)
  have i_11 := Lib.hid ((KSI.ik N xs).st _ _ _ i_10.out h11)
  have HB11 := Lib.hid (HB10.out.trans (h11.mono HB10.out.size))
  clear e11 h11
  refine (HPE.out _ i_11.out.ks).mono ?_
  rintro r w12 ⟨v12, rfl, k12, h12⟩
  have a_12 := Lib.hid (KS.st _ _ _ _ _ a_11.out h12)
  have i_12 := Lib.hid ((KSI.ik N xs).st _ _ _ i_11.out h12)
  have HB12 := Lib.hid (HB11.out.trans (h12.mono HB11.out.size))
  obtain ⟨_, _, rfl, rfl, rfl⟩ := k12
  clear h12
  have ug_rw12 := Lib.hid (KG.st _ _ _ _ _ _ _ _ _ _ ug_rw2.out HB12.out)
  have ux_rw12 := Lib.hid (KS.st _ _ _ _ _ ux_rw2.out HB12.out)
  have bg_rw12 := Lib.hid (bg_2.out.below HB12.out)
  have HTabw12 := Lib.hid (HTabw2.out.below HB12.out)
  have HOw12 := Lib.hid (HB2.out.trans (HB12.out.mono HB2.out.size))
  have HZw12 := Lib.hid (Below.refl w12.heap.size w12)
  clear HB12 ug_rw2 ux_rw2 bg_2 HTabw2 HB2
  obtain ⟨fbg_0, fbg_1, fbg_2, fbg_3, fbg_4, fbg_l, -⟩ := (bg_rw12.out.below HZw12.out).o5
  go_wp2_with (go_at_call 18; refine name_calls ?_; intro w13 e13; refine Hid.out ?_)
  unfold Hid
  have h13 : Below w12.heap.size w12 w13 := by rw [e13]; exact bel
  have HB13 := Lib.hid (HZw12.out.trans (h13.mono HZw12.out.size))
  clear e13 h13
  refine (HCG.out _ (KG.st _ _ _ _ _ _ _ _ _ _ ug_rw12.out HB13.out)).mono ?_
  rintro r w14 ⟨v14, rfl, k14, h14⟩
  have HB14 := Lib.hid (HB13.out.trans (h14.mono HB13.out.size))
  obtain rfl := k14
  clear h14
  clear fbg_0 fbg_1 fbg_2 fbg_3 fbg_4 fbg_l
  go_wp2_with (go_at_call 57; refine name_calls ?_; intro w15 e15; refine Hid.out ?_)
  unfold Hid
  have h15 : Below w14.heap.size w14 w15 := by rw [e15]; exact bel
  have HB15 := Lib.hid (HB14.out.trans (h15.mono HB14.out.size))
  clear e15 h15
  refine (HCL.out _ (KS.st _ _ _ _ _ ux_rw12.out HB15.out)).mono ?_
  rintro r w16 ⟨v16, rfl, k16, h16⟩
  have HB16 := Lib.hid (HB15.out.trans (h16.mono HB15.out.size))
  obtain rfl := k16
  clear h16
  go_wp2_with (go_at_call 58; refine name_calls ?_; intro w17 e17; refine Hid.out ?_)
  unfold Hid
  have h17 : Below w16.heap.size w16 w17 := by rw [e17]; exact bel
  have HB17 := Lib.hid (HB16.out.trans (h17.mono HB16.out.size))
  clear e17 h17
  refine (HCR.out _).mono ?_
  rintro r w18 ⟨v18, rfl, k18, h18⟩
  have HB18 := Lib.hid (HB17.out.trans (h18.mono HB17.out.size))
  obtain rfl := k18
  clear h18
  go_wp2_with (go_at_call 31; refine name_calls ?_; intro w19 e19; refine Hid.out ?_)
  unfold Hid
  have h19 : Below w18.heap.size w18 w19 := by rw [e19]; exact bel
  have HB19 := Lib.hid (HB18.out.trans (h19.mono HB18.out.size))
  have hcf : Hid (w19.heap[w18.heap.size]? = some (.cells #[(.int .i64 GE), (.int .i64 LE), (.int .i64 RE)] 3 (0, 0))) := Lib.hid (by rw [e19]; exact heap_new rfl)
  clear e19 h19
  refine (HFI.out _ _ hcf.out).mono ?_
  rintro r w20 ⟨v20, rfl, k20, h20⟩
  have HB20 := Lib.hid (HB19.out.trans (h20.mono HB19.out.size))
  obtain rfl := k20
  clear h20
  clear hcf
  have ug_rw20 := Lib.hid (KG.st _ _ _ _ _ _ _ _ _ _ ug_rw12.out HB20.out)
  have ux_rw20 := Lib.hid (KS.st _ _ _ _ _ ux_rw12.out HB20.out)
  have a_rw20 := Lib.hid (KS.st _ _ _ _ _ a_12.out HB20.out)
  have bg_rw20 := Lib.hid (bg_rw12.out.below HB20.out)
  have HTabw20 := Lib.hid (HTabw12.out.below HB20.out)
  have HOw20 := Lib.hid (HOw12.out.trans (HB20.out.mono HOw12.out.size))
  have HZw20 := Lib.hid (Below.refl w20.heap.size w20)
  clear HB20 ug_rw12 ux_rw12 a_12 bg_rw12 HTabw12 HOw12
  go_wp2_with (go_at_call 44; refine name_calls ?_; intro w21 e21; refine Hid.out ?_)
  unfold Hid
  have h21 : Below w20.heap.size w20 w21 := by rw [e21]; exact bel
  have HB21 := Lib.hid (HZw20.out.trans (h21.mono HZw20.out.size))
  clear e21 h21
  refine (HCX.out _ (KS.st _ _ _ _ _ ux_rw20.out HB21.out)).mono ?_
  rintro r w22 ⟨v22, rfl, k22, h22⟩
  have HB22 := Lib.hid (HB21.out.trans (h22.mono HB21.out.size))
  obtain rfl := k22
  clear h22
  obtain ⟨fbg_0, fbg_1, fbg_2, fbg_3, fbg_4, fbg_l, -⟩ := (bg_rw20.out.below HB22.out).o5
  go_wp2_with (go_at_call 59; refine name_calls ?_; intro w23 e23; refine Hid.out ?_)
  unfold Hid
  have h23 : Below w22.heap.size w22 w23 := by rw [e23]; exact bel
  have HB23 := Lib.hid (HB22.out.trans (h23.mono HB22.out.size))
  clear e23 h23
  refine (HRL.out _ (KG.st _ _ _ _ _ _ _ _ _ _ ug_rw20.out HB23.out) (KS.st _ _ _ _ _ ux_rw20.out HB23.out)).mono ?_
  rintro r w24 ⟨v24, rfl, k24, h24⟩
  have HB24 := Lib.hid (HB23.out.trans (h24.mono HB23.out.size))
  obtain ⟨_, _, rfl, ⟨QB, QBc, rfl, q24⟩, rfl⟩ := k24
  have b_24 := Lib.hid (show KS NR LR (.slice QB NR QBc) w24 from ⟨_, _, rfl, q24⟩)
  clear q24 h24
  clear fbg_0 fbg_1 fbg_2 fbg_3 fbg_4 fbg_l
  go_wp2_with (go_at_call 60; refine name_calls ?_; intro w25 e25; refine Hid.out ?_)
  unfold Hid
  have h25 : Below w24.heap.size w24 w25 := by rw [e25]; exact bel
  have b_25 := Lib.hid (KS.st _ _ _ _ _ b_24.out h25)
  have HB25 := Lib.hid (HB24.out.trans (h25.mono HB24.out.size))
  clear e25 h25
  refine (HRE.out _ (KS.st _ _ _ _ _ ux_rw20.out HB25.out)).mono ?_
  rintro r w26 ⟨v26, rfl, k26, h26⟩
  have b_26 := Lib.hid (KS.st _ _ _ _ _ b_25.out h26)
  have HB26 := Lib.hid (HB25.out.trans (h26.mono HB25.out.size))
  obtain rfl := k26
  clear h26
  go_wp2_with (go_at_call 38; refine name_calls ?_; intro w27 e27; refine Hid.out ?_)
  unfold Hid
  have h27 : Below w26.heap.size w26 w27 := by rw [e27]; exact bel
  have b_27 := Lib.hid (KS.st _ _ _ _ _ b_26.out h27)
  have HB27 := Lib.hid (HB26.out.trans (h27.mono HB26.out.size))
  clear e27 h27
  refine (HSI.out _ (KS.st _ _ _ _ _ a_rw20.out HB27.out) b_27.out).mono ?_
  rintro r w28 ⟨v28, rfl, k28, h28⟩
  have b_28 := Lib.hid (KS.st _ _ _ _ _ b_27.out h28)
  have HB28 := Lib.hid (HB27.out.trans (h28.mono HB27.out.size))
  obtain rfl := k28
  clear h28
  go_wp2_with (go_at_call 15; refine name_calls ?_; intro w29 e29; refine Hid.out ?_)
  unfold Hid
  have h29 : Below w28.heap.size w28 w29 := by rw [e29]; exact bel
  have b_29 := Lib.hid (KS.st _ _ _ _ _ b_28.out h29)
  have HB29 := Lib.hid (HB28.out.trans (h29.mono HB28.out.size))
  clear e29 h29
  refine (awake_any _ (HTabw20.out.below HB29.out)).mono ?_
  rintro r w30 ⟨rfl, h30⟩
  have HB30 := Lib.hid (HB29.out.trans (h30.mono HB29.out.size))
  clear h30
  go_wp2
  go_ret
  exact ⟨by first | rfl | (simp; done), HOw20.out.trans (HB30.out.mono HOw20.out.size)⟩
end Go.Proofs.YtdeapbihbhoefaaDoor

/- ProtectSearches, case bl. -/
namespace Go.Proofs.YtdeapbihbhoefaaDoor
open Go.RowKit
open Calm (bcell Blk)
set_option maxRecDepth 100000 in
set_option maxHeartbeats 8000000 in
theorem searches_bl (lk ht rc n : Int) (M L N : Nat) (ts gs xs : List Int) (u v : Value) (w : World) (hTab : PTab w) (hM : M = ts.length) (hL : L = gs.length) (hN : N = xs.length) (b0 : M ≤ 9 ∧ L ≤ 9) (b1 : N ≤ 7) (b2 : n ≤ 4) (b3 : ¬ loudErr lk ht rc ts gs xs n = 0) (b4 : sigErr xs = 0) (hu : KG lk ht rc M ts L gs u w) (hv : KS N xs v w) :
    Calls Tryd.prog 7 #[u, v, (.int .i64 n)] w fun r w' => r = .returned (.bool true) ∧ Below w.heap.size w w' := by
  obtain ⟨A1, c1, A2, c2, rfl, hT, hG⟩ := hu
  obtain ⟨A3, c3, rfl, hP⟩ := hv
  have HU := Lib.hid (show KG lk ht rc M ts L gs (.agg #[(.int .i64 lk), (.int .i64 ht), .slice A1 M c1, (.int .i64 rc), .slice A2 L c2]) w from ⟨_, _, _, _, rfl, hT, hG⟩)
  have HX := Lib.hid (show KS N xs (.slice A3 N c3) w from ⟨_, _, rfl, hP⟩)
  have HSH : Hid (∀ W, KG lk ht rc M ts L gs (.agg #[(.int .i64 lk), (.int .i64 ht), .slice A1 M c1, (.int .i64 rc), .slice A2 L c2]) W → Calls Tryd.prog 13 #[.agg #[(.int .i64 lk), (.int .i64 ht), .slice A1 M c1, (.int .i64 rc), .slice A2 L c2]] W (KP (KV (.bool true)) W)) := Lib.hid (fun W q => by have := Short_K q; rwa [decide_eq_true b0] at this)
  have hlen : (N : Int) ≤ 7 := by omega
  have hd7 : decide ((7 : Int) < (N : Int)) = false := decide_eq_false (by omega)
  have hd4 : decide ((4 : Int) < n) = false := decide_eq_false (by omega)
  obtain ⟨b01, b02⟩ := b0
  have hEE := loudErr_three lk ht rc ts gs xs n
  obtain ⟨GE, hGE⟩ : ∃ GE, GE = guardErr lk ht rc ts gs := ⟨_, rfl⟩
  obtain ⟨LE, hLE⟩ : ∃ LE, LE = firstOf [someErr (xs.length : Int) 6, ascErr xs (-2048) 2048] := ⟨_, rfl⟩
  obtain ⟨RE, hRE⟩ : ∃ RE, RE = rangeErr n 0 6 := ⟨_, rfl⟩
  obtain ⟨SE, hSE⟩ : ∃ SE, SE = sigErr xs := ⟨_, rfl⟩
  have hGG := hGE
  have HGU : Hid (∀ {x : Value} (W : World), KG lk ht rc M ts L gs x W → Calls Tryd.prog 17 #[x] W (KP (KGI lk ht rc M ts L gs) W)) := Lib.hid (fun W q => guard_K hM hL (by omega) (by omega) q)
  have HIN : Hid (∀ {x : Value} (W : World), KS N xs x W → Calls Tryd.prog 41 #[x] W (KP (KSI N xs) W)) := Lib.hid (fun W q => ints_K hN (by omega) q)
  have HCG : Hid (∀ {x : Value} (W : World), KG lk ht rc M ts L gs x W → Calls Tryd.prog 18 #[x] W (KP (KV (.int .i64 GE)) W)) := Lib.hid (fun W q => by rw [hGE]; exact rGuard_K hM hL (by omega) (by omega) q)
  have HCL : Hid (∀ {x : Value} (W : World), KS N xs x W → Calls Tryd.prog 57 #[x] W (KP (KV (.int .i64 LE)) W)) := Lib.hid (fun W q => by rw [hLE]; exact rCheckLevels_K hN (by omega) q)
  have HCR : Hid (∀ (W : World), Calls Tryd.prog 58 #[(.int .i64 n), (.int .i64 0), (.int .i64 6)] W (KP (KV (.int .i64 RE)) W)) := Lib.hid (fun W => by rw [hRE]; exact (qRange_any n 0 6 W).mono fun e W' ⟨k1, k2⟩ => ⟨_, k1, rfl, k2 ▸ Below.refl _ _⟩)
  obtain ⟨E, hE⟩ : ∃ E, E = loudErr lk ht rc ts gs xs n := ⟨_, rfl⟩
  have hE0 : (E == 0) = false := by rw [hE]; simpa using b3
  have HLO : Hid (∀ {a y : Value} (W : World), Lim W → KG lk ht rc M ts L gs a W → KS N xs y W → Calls Tryd.prog 55 #[a, y, (.int .i64 n)] W (KP (K2 (KS 0 []) (KV (.int .i64 E))) W)) := Lib.hid (fun W q0 q q2 => by
    have e1 : loudR lk ht rc ts gs xs n = [] := if_neg b3
    have e2 : loudE lk ht rc ts gs xs n = E := by rw [hE]; exact if_neg b3
    have := cLoudest (n := n) (N2 := 0) hM hL hN (by omega) (by omega) (by omega) q0 q q2 (by rw [e1]; rfl)
    rwa [e1, e2] at this)
  have HSI : Hid (∀ {x y : Value} (W : World), KS 0 [] x W → KS 0 [] y W → Calls Tryd.prog 38 #[x, y] W (KP (KV (.bool true)) W)) := Lib.hid (fun W q q2 => same_T (n := 0) (m := 0) (a := []) (b := []) rfl rfl rfl (by omega) q q2)
  rw [← hE, ← hGE, ← hLE, ← hRE] at hEE
  have HFI : Hid (∀ (g : Nat) (W : World), W.heap[g]? = some (.cells #[(.int .i64 GE), (.int .i64 LE), (.int .i64 RE)] 3 (0, 0)) → Calls Tryd.prog 31 #[.slice (some ⟨g, 0, none⟩) 3 3] W (KP (KV (.int .i64 E)) W)) := Lib.hid (fun g W h => by
    rw [hEE]
    exact (qFirst_any [GE, LE, RE] _ 3 W (by simp) (Cells.row h)).mono fun e W' ⟨k1, k2⟩ => ⟨_, k1, rfl, k2 ▸ Below.refl _ _⟩)
  have hS1 : sigErr xs = 0 := b4
  obtain ⟨EN, hEN⟩ : ∃ EN, EN = enF xs := ⟨_, rfl⟩
  have HCX : Hid (∀ {x : Value} (W : World), KS N xs x W → Calls Tryd.prog 44 #[x] W (KP (KV (.int .i64 0)) W)) := Lib.hid (fun W q => by rw [← hS1]; exact xSignal_K hN (by omega) q)
  have HPE : Hid (∀ {y : Value} (W : World), KS N xs y W → Calls Tryd.prog 56 #[y] W (KP (K2 (KV (.int .i64 EN)) (KV (.int .i64 0))) W)) := Lib.hid (fun W q => by
    have := cEnergy hN (by omega) q
    rwa [show enR xs = EN by rw [hEN]; exact if_pos hS1, hS1] at this)
  have HRE : Hid (∀ {y : Value} (W : World), KS N xs y W → Calls Tryd.prog 60 #[y] W (KP (KV (.int .i64 EN)) W)) := Lib.hid (fun W q => by rw [hEN]; exact rEnergy_K hN (by omega) (sigErr_in hS1) q)
  have HTab := Lib.hid hTab
  clear hTab hM hL hN hT hG hP b01 b02 b1 hGE hSE hLE hRE hEE b3 hS1 hGG b4 hEN hE
  go_enter Tryd.func7, Tryd.ntmps7
  have HB0 := Lib.hid (Below.refl w.heap.size w)
  go_wp2_with (go_at_call 13; refine name_calls ?_; intro w1 e1; refine Hid.out ?_)
  unfold Hid
  have h1 : Below w.heap.size w w1 := by rw [e1]; exact bel
  have HB1 := Lib.hid (HB0.out.trans (h1.mono HB0.out.size))
  have bg_1 := Lib.hid (show Blk w1 w.heap.size #[(.int .i64 lk), (.int .i64 ht), .slice A1 M c1, (.int .i64 rc), .slice A2 L c2] from by rw [e1]; (repeat (first | ((with_reducible refine Blk.at_ ?_); focus (first | rfl | (simp; done) | (simp; omega))) | (with_reducible refine Blk.alloc ?_ _) | (with_reducible refine Blk.below ?_ (by with_reducible assumption)) | (with_reducible refine Blk.drew ?_))))
  clear e1 h1
  refine (HSH.out _ (KG.st _ _ _ _ _ _ _ _ _ _ HU.out HB1.out)).mono ?_
  rintro r w2 ⟨v2, rfl, k2, h2⟩
  have bg_2 := Lib.hid (bg_1.out.below h2)
  have HB2 := Lib.hid (HB1.out.trans (h2.mono HB1.out.size))
  obtain rfl := k2
  clear h2
  have ug_rw2 := Lib.hid (KG.st _ _ _ _ _ _ _ _ _ _ HU.out HB2.out)
  have ux_rw2 := Lib.hid (KS.st _ _ _ _ _ HX.out HB2.out)
  have HTabw2 := Lib.hid (HTab.out.below HB2.out)
  have HZw2 := Lib.hid (Below.refl w2.heap.size w2)
  clear HU HX HTab
  obtain ⟨fbg_0, fbg_1, fbg_2, fbg_3, fbg_4, fbg_l, -⟩ := (bg_2.out.below HZw2.out).o5
  go_wp2_with (go_at_call 17; refine name_calls ?_; intro w3 e3; refine Hid.out ?_)
  unfold Hid
  have h3 : Below w2.heap.size w2 w3 := by rw [e3]; exact bel
  have HB3 := Lib.hid (HZw2.out.trans (h3.mono HZw2.out.size))
  clear e3 h3
  refine (HGU.out _ (KG.st _ _ _ _ _ _ _ _ _ _ ug_rw2.out HB3.out)).mono ?_
  rintro r w4 ⟨v4, rfl, k4, h4⟩
  have HB4 := Lib.hid (HB3.out.trans (h4.mono HB3.out.size))
  have g_4 := Lib.hid k4
  clear k4 h4
  clear fbg_0 fbg_1 fbg_2 fbg_3 fbg_4 fbg_l
  go_wp2_with (go_at_call 41; refine name_calls ?_; intro w5 e5; refine Hid.out ?_)
  unfold Hid
  have h5 : Below w4.heap.size w4 w5 := by rw [e5]; exact bel
  have g_5 := Lib.hid ((KGI.ik _ _ _ _ _ _ _).st _ _ _ g_4.out h5)
  have HB5 := Lib.hid (HB4.out.trans (h5.mono HB4.out.size))
  clear e5 h5
  refine (HIN.out _ (KS.st _ _ _ _ _ ux_rw2.out HB5.out)).mono ?_
  rintro r w6 ⟨v6, rfl, k6, h6⟩
  have g_6 := Lib.hid ((KGI.ik _ _ _ _ _ _ _).st _ _ _ g_5.out h6)
  have HB6 := Lib.hid (HB5.out.trans (h6.mono HB5.out.size))
  have i_6 := Lib.hid k6
  clear k6 h6
  go_wp2_with (go_at_call 55; refine name_calls ?_; intro w7 e7; refine Hid.out ?_)
  unfold Hid
  have h7 : Below w6.heap.size w6 w7 := by rw [e7]; exact bel
  have g_7 := Lib.hid ((KGI.ik _ _ _ _ _ _ _).st _ _ _ g_6.out h7)
  have i_7 := Lib.hid ((KSI.ik N xs).st _ _ _ i_6.out h7)
  have HB7 := Lib.hid (HB6.out.trans (h7.mono HB6.out.size))
  clear e7 h7
  refine (HLO.out _ (HTabw2.out.below HB7.out).lim g_7.out.kg i_7.out.ks).mono ?_
  rintro r w8 ⟨v8, rfl, k8, h8⟩
  have g_8 := Lib.hid ((KGI.ik _ _ _ _ _ _ _).st _ _ _ g_7.out h8)
  have i_8 := Lib.hid ((KSI.ik N xs).st _ _ _ i_7.out h8)
  have HB8 := Lib.hid (HB7.out.trans (h8.mono HB7.out.size))
  obtain ⟨_, _, rfl, ⟨QA, QAc, rfl, q8⟩, rfl⟩ := k8
  have a_8 := Lib.hid (show KS 0 [] (.slice QA 0 QAc) w8 from ⟨_, _, rfl, q8⟩)
  clear q8 h8
  go_wp2_with (go_at_call 41; refine name_calls ?_; intro w9 e9; refine Hid.out ?_)
  unfold Hid
  have h9 : Below w8.heap.size w8 w9 := by rw [e9]; exact bel
  have a_9 := Lib.hid (KS.st _ _ _ _ _ a_8.out h9)
  have HB9 := Lib.hid (HB8.out.trans (h9.mono HB8.out.size))
  clear e9 h9
  refine (HIN.out _ (KS.st _ _ _ _ _ ux_rw2.out HB9.out)).mono ?_
  rintro r w10 ⟨v10, rfl, k10, h10⟩
  have a_10 := Lib.hid (KS.st _ _ _ _ _ a_9.out h10)
  have HB10 := Lib.hid (HB9.out.trans (h10.mono HB9.out.size))
  have i_10 := Lib.hid k10
  clear k10 h10
  go_wp2_with (go_at_call 56; refine name_calls ?_; intro w11 e11; refine Hid.out ?_)
  unfold Hid
  have h11 : Below w10.heap.size w10 w11 := by rw [e11]; exact bel
  have a_11 := Lib.hid (KS.st _ _ _ _ _ a_10.out h11)
  have i_11 := Lib.hid ((KSI.ik N xs).st _ _ _ i_10.out h11)
  have HB11 := Lib.hid (HB10.out.trans (h11.mono HB10.out.size))
  clear e11 h11
  refine (HPE.out _ i_11.out.ks).mono ?_
  rintro r w12 ⟨v12, rfl, k12, h12⟩
  have a_12 := Lib.hid (KS.st _ _ _ _ _ a_11.out h12)
  have i_12 := Lib.hid ((KSI.ik N xs).st _ _ _ i_11.out h12)
  have HB12 := Lib.hid (HB11.out.trans (h12.mono HB11.out.size))
  obtain ⟨_, _, rfl, rfl, rfl⟩ := k12
  clear h12
  have ug_rw12 := Lib.hid (KG.st _ _ _ _ _ _ _ _ _ _ ug_rw2.out HB12.out)
  have ux_rw12 := Lib.hid (KS.st _ _ _ _ _ ux_rw2.out HB12.out)
  have bg_rw12 := Lib.hid (bg_2.out.below HB12.out)
  have HTabw12 := Lib.hid (HTabw2.out.below HB12.out)
  have HOw12 := Lib.hid (HB2.out.trans (HB12.out.mono HB2.out.size))
  have HZw12 := Lib.hid (Below.refl w12.heap.size w12)
  clear HB12 ug_rw2 ux_rw2 bg_2 HTabw2 HB2
  obtain ⟨fbg_0, fbg_1, fbg_2, fbg_3, fbg_4, fbg_l, -⟩ := (bg_rw12.out.below HZw12.out).o5
  go_wp2_with (go_at_call 18; refine name_calls ?_; intro w13 e13; refine Hid.out ?_)
  unfold Hid
  have h13 : Below w12.heap.size w12 w13 := by rw [e13]; exact bel
  have HB13 := Lib.hid (HZw12.out.trans (h13.mono HZw12.out.size))
  clear e13 h13
  refine (HCG.out _ (KG.st _ _ _ _ _ _ _ _ _ _ ug_rw12.out HB13.out)).mono ?_
  rintro r w14 ⟨v14, rfl, k14, h14⟩
  have HB14 := Lib.hid (HB13.out.trans (h14.mono HB13.out.size))
  obtain rfl := k14
  clear h14
  clear fbg_0 fbg_1 fbg_2 fbg_3 fbg_4 fbg_l
  go_wp2_with (go_at_call 57; refine name_calls ?_; intro w15 e15; refine Hid.out ?_)
  unfold Hid
  have h15 : Below w14.heap.size w14 w15 := by rw [e15]; exact bel
  have HB15 := Lib.hid (HB14.out.trans (h15.mono HB14.out.size))
  clear e15 h15
  refine (HCL.out _ (KS.st _ _ _ _ _ ux_rw12.out HB15.out)).mono ?_
  rintro r w16 ⟨v16, rfl, k16, h16⟩
  have HB16 := Lib.hid (HB15.out.trans (h16.mono HB15.out.size))
  obtain rfl := k16
  clear h16
  go_wp2_with (go_at_call 58; refine name_calls ?_; intro w17 e17; refine Hid.out ?_)
  unfold Hid
  have h17 : Below w16.heap.size w16 w17 := by rw [e17]; exact bel
  have HB17 := Lib.hid (HB16.out.trans (h17.mono HB16.out.size))
  clear e17 h17
  refine (HCR.out _).mono ?_
  rintro r w18 ⟨v18, rfl, k18, h18⟩
  have HB18 := Lib.hid (HB17.out.trans (h18.mono HB17.out.size))
  obtain rfl := k18
  clear h18
  go_wp2_with (go_at_call 31; refine name_calls ?_; intro w19 e19; refine Hid.out ?_)
  unfold Hid
  have h19 : Below w18.heap.size w18 w19 := by rw [e19]; exact bel
  have HB19 := Lib.hid (HB18.out.trans (h19.mono HB18.out.size))
  have hcf : Hid (w19.heap[w18.heap.size]? = some (.cells #[(.int .i64 GE), (.int .i64 LE), (.int .i64 RE)] 3 (0, 0))) := Lib.hid (by rw [e19]; exact heap_new rfl)
  clear e19 h19
  refine (HFI.out _ _ hcf.out).mono ?_
  rintro r w20 ⟨v20, rfl, k20, h20⟩
  have HB20 := Lib.hid (HB19.out.trans (h20.mono HB19.out.size))
  obtain rfl := k20
  clear h20
  clear hcf
  have ug_rw20 := Lib.hid (KG.st _ _ _ _ _ _ _ _ _ _ ug_rw12.out HB20.out)
  have ux_rw20 := Lib.hid (KS.st _ _ _ _ _ ux_rw12.out HB20.out)
  have a_rw20 := Lib.hid (KS.st _ _ _ _ _ a_12.out HB20.out)
  have bg_rw20 := Lib.hid (bg_rw12.out.below HB20.out)
  have HTabw20 := Lib.hid (HTabw12.out.below HB20.out)
  have HOw20 := Lib.hid (HOw12.out.trans (HB20.out.mono HOw12.out.size))
  have HZw20 := Lib.hid (Below.refl w20.heap.size w20)
  clear HB20 ug_rw12 ux_rw12 a_12 bg_rw12 HTabw12 HOw12
  go_wp2_with (go_at_call 44; refine name_calls ?_; intro w21 e21; refine Hid.out ?_)
  unfold Hid
  have h21 : Below w20.heap.size w20 w21 := by rw [e21]; exact bel
  have HB21 := Lib.hid (HZw20.out.trans (h21.mono HZw20.out.size))
  clear e21 h21
  refine (HCX.out _ (KS.st _ _ _ _ _ ux_rw20.out HB21.out)).mono ?_
  rintro r w22 ⟨v22, rfl, k22, h22⟩
  have HB22 := Lib.hid (HB21.out.trans (h22.mono HB21.out.size))
  obtain rfl := k22
  clear h22
  obtain ⟨fbg_0, fbg_1, fbg_2, fbg_3, fbg_4, fbg_l, -⟩ := (bg_rw20.out.below HB22.out).o5
  go_wp2_with (go_at_call 60; refine name_calls ?_; intro w23 e23; refine Hid.out ?_)
  unfold Hid
  have h23 : Below w22.heap.size w22 w23 := by rw [e23]; exact bel
  have HB23 := Lib.hid (HB22.out.trans (h23.mono HB22.out.size))
  clear e23 h23
  refine (HRE.out _ (KS.st _ _ _ _ _ ux_rw20.out HB23.out)).mono ?_
  rintro r w24 ⟨v24, rfl, k24, h24⟩
  have HB24 := Lib.hid (HB23.out.trans (h24.mono HB23.out.size))
  obtain rfl := k24
  clear h24
  clear fbg_0 fbg_1 fbg_2 fbg_3 fbg_4 fbg_l
  go_wp2_with (go_at_call 38; refine name_calls ?_; intro w25 e25; refine Hid.out ?_)
  unfold Hid
  have h25 : Below w24.heap.size w24 w25 := by rw [e25]; exact bel
  have HB25 := Lib.hid (HB24.out.trans (h25.mono HB24.out.size))
  clear e25 h25
  refine (HSI.out _ (KS.st _ _ _ _ _ a_rw20.out HB25.out) (KS.nil _)).mono ?_
  rintro r w26 ⟨v26, rfl, k26, h26⟩
  have HB26 := Lib.hid (HB25.out.trans (h26.mono HB25.out.size))
  obtain rfl := k26
  clear h26
  go_wp2_with (go_at_call 15; refine name_calls ?_; intro w27 e27; refine Hid.out ?_)
  unfold Hid
  have h27 : Below w26.heap.size w26 w27 := by rw [e27]; exact bel
  have HB27 := Lib.hid (HB26.out.trans (h27.mono HB26.out.size))
  clear e27 h27
  refine (awake_any _ (HTabw20.out.below HB27.out)).mono ?_
  rintro r w28 ⟨rfl, h28⟩
  have HB28 := Lib.hid (HB27.out.trans (h28.mono HB27.out.size))
  clear h28
  go_wp2
  go_ret
  exact ⟨by first | rfl | (simp; done), HOw20.out.trans (HB28.out.mono HOw20.out.size)⟩
end Go.Proofs.YtdeapbihbhoefaaDoor

/- ProtectSearches, case bg. -/
namespace Go.Proofs.YtdeapbihbhoefaaDoor
open Go.RowKit
open Calm (bcell Blk)
set_option maxRecDepth 100000 in
set_option maxHeartbeats 8000000 in
theorem searches_bg (lk ht rc n : Int) (M L N : Nat) (ts gs xs : List Int) (u v : Value) (w : World) (hTab : PTab w) (hM : M = ts.length) (hL : L = gs.length) (hN : N = xs.length) (b0 : M ≤ 9 ∧ L ≤ 9) (b1 : N ≤ 7) (b2 : 6 < n) (b3 : ¬ loudErr lk ht rc ts gs xs n = 0) (b4 : sigErr xs = 0) (hu : KG lk ht rc M ts L gs u w) (hv : KS N xs v w) :
    Calls Tryd.prog 7 #[u, v, (.int .i64 n)] w fun r w' => r = .returned (.bool true) ∧ Below w.heap.size w w' := by
  obtain ⟨A1, c1, A2, c2, rfl, hT, hG⟩ := hu
  obtain ⟨A3, c3, rfl, hP⟩ := hv
  have HU := Lib.hid (show KG lk ht rc M ts L gs (.agg #[(.int .i64 lk), (.int .i64 ht), .slice A1 M c1, (.int .i64 rc), .slice A2 L c2]) w from ⟨_, _, _, _, rfl, hT, hG⟩)
  have HX := Lib.hid (show KS N xs (.slice A3 N c3) w from ⟨_, _, rfl, hP⟩)
  have HSH : Hid (∀ W, KG lk ht rc M ts L gs (.agg #[(.int .i64 lk), (.int .i64 ht), .slice A1 M c1, (.int .i64 rc), .slice A2 L c2]) W → Calls Tryd.prog 13 #[.agg #[(.int .i64 lk), (.int .i64 ht), .slice A1 M c1, (.int .i64 rc), .slice A2 L c2]] W (KP (KV (.bool true)) W)) := Lib.hid (fun W q => by have := Short_K q; rwa [decide_eq_true b0] at this)
  have hlen : (N : Int) ≤ 7 := by omega
  have hd7 : decide ((7 : Int) < (N : Int)) = false := decide_eq_false (by omega)
  obtain ⟨b01, b02⟩ := b0
  have hEE := loudErr_three lk ht rc ts gs xs n
  obtain ⟨GE, hGE⟩ : ∃ GE, GE = guardErr lk ht rc ts gs := ⟨_, rfl⟩
  obtain ⟨LE, hLE⟩ : ∃ LE, LE = firstOf [someErr (xs.length : Int) 6, ascErr xs (-2048) 2048] := ⟨_, rfl⟩
  obtain ⟨RE, hRE⟩ : ∃ RE, RE = rangeErr n 0 6 := ⟨_, rfl⟩
  obtain ⟨SE, hSE⟩ : ∃ SE, SE = sigErr xs := ⟨_, rfl⟩
  have hGG := hGE
  have HGU : Hid (∀ {x : Value} (W : World), KG lk ht rc M ts L gs x W → Calls Tryd.prog 17 #[x] W (KP (KGI lk ht rc M ts L gs) W)) := Lib.hid (fun W q => guard_K hM hL (by omega) (by omega) q)
  have HIN : Hid (∀ {x : Value} (W : World), KS N xs x W → Calls Tryd.prog 41 #[x] W (KP (KSI N xs) W)) := Lib.hid (fun W q => ints_K hN (by omega) q)
  have HCG : Hid (∀ {x : Value} (W : World), KG lk ht rc M ts L gs x W → Calls Tryd.prog 18 #[x] W (KP (KV (.int .i64 GE)) W)) := Lib.hid (fun W q => by rw [hGE]; exact rGuard_K hM hL (by omega) (by omega) q)
  have HCL : Hid (∀ {x : Value} (W : World), KS N xs x W → Calls Tryd.prog 57 #[x] W (KP (KV (.int .i64 LE)) W)) := Lib.hid (fun W q => by rw [hLE]; exact rCheckLevels_K hN (by omega) q)
  have HCR : Hid (∀ (W : World), Calls Tryd.prog 58 #[(.int .i64 n), (.int .i64 0), (.int .i64 6)] W (KP (KV (.int .i64 RE)) W)) := Lib.hid (fun W => by rw [hRE]; exact (qRange_any n 0 6 W).mono fun e W' ⟨k1, k2⟩ => ⟨_, k1, rfl, k2 ▸ Below.refl _ _⟩)
  obtain ⟨E, hE⟩ : ∃ E, E = loudErr lk ht rc ts gs xs n := ⟨_, rfl⟩
  have hE0 : (E == 0) = false := by rw [hE]; simpa using b3
  have HLO : Hid (∀ {a y : Value} (W : World), Lim W → KG lk ht rc M ts L gs a W → KS N xs y W → Calls Tryd.prog 55 #[a, y, (.int .i64 n)] W (KP (K2 (KS 0 []) (KV (.int .i64 E))) W)) := Lib.hid (fun W q0 q q2 => by
    have e1 : loudR lk ht rc ts gs xs n = [] := if_neg b3
    have e2 : loudE lk ht rc ts gs xs n = E := by rw [hE]; exact if_neg b3
    have := cLoudest (n := n) (N2 := 0) hM hL hN (by omega) (by omega) (by omega) q0 q q2 (by rw [e1]; rfl)
    rwa [e1, e2] at this)
  have HSI : Hid (∀ {x y : Value} (W : World), KS 0 [] x W → KS 0 [] y W → Calls Tryd.prog 38 #[x, y] W (KP (KV (.bool true)) W)) := Lib.hid (fun W q q2 => same_T (n := 0) (m := 0) (a := []) (b := []) rfl rfl rfl (by omega) q q2)
  rw [← hE, ← hGE, ← hLE, ← hRE] at hEE
  have HFI : Hid (∀ (g : Nat) (W : World), W.heap[g]? = some (.cells #[(.int .i64 GE), (.int .i64 LE), (.int .i64 RE)] 3 (0, 0)) → Calls Tryd.prog 31 #[.slice (some ⟨g, 0, none⟩) 3 3] W (KP (KV (.int .i64 E)) W)) := Lib.hid (fun g W h => by
    rw [hEE]
    exact (qFirst_any [GE, LE, RE] _ 3 W (by simp) (Cells.row h)).mono fun e W' ⟨k1, k2⟩ => ⟨_, k1, rfl, k2 ▸ Below.refl _ _⟩)
  have hS1 : sigErr xs = 0 := b4
  obtain ⟨EN, hEN⟩ : ∃ EN, EN = enF xs := ⟨_, rfl⟩
  have HCX : Hid (∀ {x : Value} (W : World), KS N xs x W → Calls Tryd.prog 44 #[x] W (KP (KV (.int .i64 0)) W)) := Lib.hid (fun W q => by rw [← hS1]; exact xSignal_K hN (by omega) q)
  have HPE : Hid (∀ {y : Value} (W : World), KS N xs y W → Calls Tryd.prog 56 #[y] W (KP (K2 (KV (.int .i64 EN)) (KV (.int .i64 0))) W)) := Lib.hid (fun W q => by
    have := cEnergy hN (by omega) q
    rwa [show enR xs = EN by rw [hEN]; exact if_pos hS1, hS1] at this)
  have HRE : Hid (∀ {y : Value} (W : World), KS N xs y W → Calls Tryd.prog 60 #[y] W (KP (KV (.int .i64 EN)) W)) := Lib.hid (fun W q => by rw [hEN]; exact rEnergy_K hN (by omega) (sigErr_in hS1) q)
  have HTab := Lib.hid hTab
  clear hTab hM hL hN hT hG hP b01 b02 b1 hGE hSE hLE hRE hEE b3 hS1 hGG b4 hEN hE
  go_enter Tryd.func7, Tryd.ntmps7
  have HB0 := Lib.hid (Below.refl w.heap.size w)
  go_wp2_with (go_at_call 13; refine name_calls ?_; intro w1 e1; refine Hid.out ?_)
  unfold Hid
  have h1 : Below w.heap.size w w1 := by rw [e1]; exact bel
  have HB1 := Lib.hid (HB0.out.trans (h1.mono HB0.out.size))
  have bg_1 := Lib.hid (show Blk w1 w.heap.size #[(.int .i64 lk), (.int .i64 ht), .slice A1 M c1, (.int .i64 rc), .slice A2 L c2] from by rw [e1]; (repeat (first | ((with_reducible refine Blk.at_ ?_); focus (first | rfl | (simp; done) | (simp; omega))) | (with_reducible refine Blk.alloc ?_ _) | (with_reducible refine Blk.below ?_ (by with_reducible assumption)) | (with_reducible refine Blk.drew ?_))))
  clear e1 h1
  refine (HSH.out _ (KG.st _ _ _ _ _ _ _ _ _ _ HU.out HB1.out)).mono ?_
  rintro r w2 ⟨v2, rfl, k2, h2⟩
  have bg_2 := Lib.hid (bg_1.out.below h2)
  have HB2 := Lib.hid (HB1.out.trans (h2.mono HB1.out.size))
  obtain rfl := k2
  clear h2
  have ug_rw2 := Lib.hid (KG.st _ _ _ _ _ _ _ _ _ _ HU.out HB2.out)
  have ux_rw2 := Lib.hid (KS.st _ _ _ _ _ HX.out HB2.out)
  have HTabw2 := Lib.hid (HTab.out.below HB2.out)
  have HZw2 := Lib.hid (Below.refl w2.heap.size w2)
  clear HU HX HTab
  obtain ⟨fbg_0, fbg_1, fbg_2, fbg_3, fbg_4, fbg_l, -⟩ := (bg_2.out.below HZw2.out).o5
  go_wp2_with (go_at_call 17; refine name_calls ?_; intro w3 e3; refine Hid.out ?_)
  unfold Hid
  have h3 : Below w2.heap.size w2 w3 := by rw [e3]; exact bel
  have HB3 := Lib.hid (HZw2.out.trans (h3.mono HZw2.out.size))
  clear e3 h3
  refine (HGU.out _ (KG.st _ _ _ _ _ _ _ _ _ _ ug_rw2.out HB3.out)).mono ?_
  rintro r w4 ⟨v4, rfl, k4, h4⟩
  have HB4 := Lib.hid (HB3.out.trans (h4.mono HB3.out.size))
  have g_4 := Lib.hid k4
  clear k4 h4
  clear fbg_0 fbg_1 fbg_2 fbg_3 fbg_4 fbg_l
  go_wp2_with (go_at_call 41; refine name_calls ?_; intro w5 e5; refine Hid.out ?_)
  unfold Hid
  have h5 : Below w4.heap.size w4 w5 := by rw [e5]; exact bel
  have g_5 := Lib.hid ((KGI.ik _ _ _ _ _ _ _).st _ _ _ g_4.out h5)
  have HB5 := Lib.hid (HB4.out.trans (h5.mono HB4.out.size))
  clear e5 h5
  refine (HIN.out _ (KS.st _ _ _ _ _ ux_rw2.out HB5.out)).mono ?_
  rintro r w6 ⟨v6, rfl, k6, h6⟩
  have g_6 := Lib.hid ((KGI.ik _ _ _ _ _ _ _).st _ _ _ g_5.out h6)
  have HB6 := Lib.hid (HB5.out.trans (h6.mono HB5.out.size))
  have i_6 := Lib.hid k6
  clear k6 h6
  go_wp2_with (go_at_call 55; refine name_calls ?_; intro w7 e7; refine Hid.out ?_)
  unfold Hid
  have h7 : Below w6.heap.size w6 w7 := by rw [e7]; exact bel
  have g_7 := Lib.hid ((KGI.ik _ _ _ _ _ _ _).st _ _ _ g_6.out h7)
  have i_7 := Lib.hid ((KSI.ik N xs).st _ _ _ i_6.out h7)
  have HB7 := Lib.hid (HB6.out.trans (h7.mono HB6.out.size))
  clear e7 h7
  refine (HLO.out _ (HTabw2.out.below HB7.out).lim g_7.out.kg i_7.out.ks).mono ?_
  rintro r w8 ⟨v8, rfl, k8, h8⟩
  have g_8 := Lib.hid ((KGI.ik _ _ _ _ _ _ _).st _ _ _ g_7.out h8)
  have i_8 := Lib.hid ((KSI.ik N xs).st _ _ _ i_7.out h8)
  have HB8 := Lib.hid (HB7.out.trans (h8.mono HB7.out.size))
  obtain ⟨_, _, rfl, ⟨QA, QAc, rfl, q8⟩, rfl⟩ := k8
  have a_8 := Lib.hid (show KS 0 [] (.slice QA 0 QAc) w8 from ⟨_, _, rfl, q8⟩)
  clear q8 h8
  go_wp2_with (go_at_call 41; refine name_calls ?_; intro w9 e9; refine Hid.out ?_)
  unfold Hid
  have h9 : Below w8.heap.size w8 w9 := by rw [e9]; exact bel
  have a_9 := Lib.hid (KS.st _ _ _ _ _ a_8.out h9)
  have HB9 := Lib.hid (HB8.out.trans (h9.mono HB8.out.size))
  clear e9 h9
  refine (HIN.out _ (KS.st _ _ _ _ _ ux_rw2.out HB9.out)).mono ?_
  rintro r w10 ⟨v10, rfl, k10, h10⟩
  have a_10 := Lib.hid (KS.st _ _ _ _ _ a_9.out h10)
  have HB10 := Lib.hid (HB9.out.trans (h10.mono HB9.out.size))
  have i_10 := Lib.hid k10
  clear k10 h10
  go_wp2_with (go_at_call 56; refine name_calls ?_; intro w11 e11; refine Hid.out ?_)
  unfold Hid
  have h11 : Below w10.heap.size w10 w11 := by rw [e11]; exact bel
  have a_11 := Lib.hid (KS.st _ _ _ _ _ a_10.out h11)
  have i_11 := Lib.hid ((KSI.ik N xs).st _ _ _ i_10.out h11)
  have HB11 := Lib.hid (HB10.out.trans (h11.mono HB10.out.size))
  clear e11 h11
  refine (HPE.out _ i_11.out.ks).mono ?_
  rintro r w12 ⟨v12, rfl, k12, h12⟩
  have a_12 := Lib.hid (KS.st _ _ _ _ _ a_11.out h12)
  have i_12 := Lib.hid ((KSI.ik N xs).st _ _ _ i_11.out h12)
  have HB12 := Lib.hid (HB11.out.trans (h12.mono HB11.out.size))
  obtain ⟨_, _, rfl, rfl, rfl⟩ := k12
  clear h12
  have ug_rw12 := Lib.hid (KG.st _ _ _ _ _ _ _ _ _ _ ug_rw2.out HB12.out)
  have ux_rw12 := Lib.hid (KS.st _ _ _ _ _ ux_rw2.out HB12.out)
  have bg_rw12 := Lib.hid (bg_2.out.below HB12.out)
  have HTabw12 := Lib.hid (HTabw2.out.below HB12.out)
  have HOw12 := Lib.hid (HB2.out.trans (HB12.out.mono HB2.out.size))
  have HZw12 := Lib.hid (Below.refl w12.heap.size w12)
  clear HB12 ug_rw2 ux_rw2 bg_2 HTabw2 HB2
  obtain ⟨fbg_0, fbg_1, fbg_2, fbg_3, fbg_4, fbg_l, -⟩ := (bg_rw12.out.below HZw12.out).o5
  go_wp2_with (go_at_call 18; refine name_calls ?_; intro w13 e13; refine Hid.out ?_)
  unfold Hid
  have h13 : Below w12.heap.size w12 w13 := by rw [e13]; exact bel
  have HB13 := Lib.hid (HZw12.out.trans (h13.mono HZw12.out.size))
  clear e13 h13
  refine (HCG.out _ (KG.st _ _ _ _ _ _ _ _ _ _ ug_rw12.out HB13.out)).mono ?_
  rintro r w14 ⟨v14, rfl, k14, h14⟩
  have HB14 := Lib.hid (HB13.out.trans (h14.mono HB13.out.size))
  obtain rfl := k14
  clear h14
  clear fbg_0 fbg_1 fbg_2 fbg_3 fbg_4 fbg_l
  go_wp2_with (go_at_call 57; refine name_calls ?_; intro w15 e15; refine Hid.out ?_)
  unfold Hid
  have h15 : Below w14.heap.size w14 w15 := by rw [e15]; exact bel
  have HB15 := Lib.hid (HB14.out.trans (h15.mono HB14.out.size))
  clear e15 h15
  refine (HCL.out _ (KS.st _ _ _ _ _ ux_rw12.out HB15.out)).mono ?_
  rintro r w16 ⟨v16, rfl, k16, h16⟩
  have HB16 := Lib.hid (HB15.out.trans (h16.mono HB15.out.size))
  obtain rfl := k16
  clear h16
  go_wp2_with (go_at_call 58; refine name_calls ?_; intro w17 e17; refine Hid.out ?_)
  unfold Hid
  have h17 : Below w16.heap.size w16 w17 := by rw [e17]; exact bel
  have HB17 := Lib.hid (HB16.out.trans (h17.mono HB16.out.size))
  clear e17 h17
  refine (HCR.out _).mono ?_
  rintro r w18 ⟨v18, rfl, k18, h18⟩
  have HB18 := Lib.hid (HB17.out.trans (h18.mono HB17.out.size))
  obtain rfl := k18
  clear h18
  go_wp2_with (go_at_call 31; refine name_calls ?_; intro w19 e19; refine Hid.out ?_)
  unfold Hid
  have h19 : Below w18.heap.size w18 w19 := by rw [e19]; exact bel
  have HB19 := Lib.hid (HB18.out.trans (h19.mono HB18.out.size))
  have hcf : Hid (w19.heap[w18.heap.size]? = some (.cells #[(.int .i64 GE), (.int .i64 LE), (.int .i64 RE)] 3 (0, 0))) := Lib.hid (by rw [e19]; exact heap_new rfl)
  clear e19 h19
  refine (HFI.out _ _ hcf.out).mono ?_
  rintro r w20 ⟨v20, rfl, k20, h20⟩
  have HB20 := Lib.hid (HB19.out.trans (h20.mono HB19.out.size))
  obtain rfl := k20
  clear h20
  clear hcf
  have ug_rw20 := Lib.hid (KG.st _ _ _ _ _ _ _ _ _ _ ug_rw12.out HB20.out)
  have ux_rw20 := Lib.hid (KS.st _ _ _ _ _ ux_rw12.out HB20.out)
  have a_rw20 := Lib.hid (KS.st _ _ _ _ _ a_12.out HB20.out)
  have bg_rw20 := Lib.hid (bg_rw12.out.below HB20.out)
  have HTabw20 := Lib.hid (HTabw12.out.below HB20.out)
  have HOw20 := Lib.hid (HOw12.out.trans (HB20.out.mono HOw12.out.size))
  have HZw20 := Lib.hid (Below.refl w20.heap.size w20)
  clear HB20 ug_rw12 ux_rw12 a_12 bg_rw12 HTabw12 HOw12
  go_wp2_with (go_at_call 44; refine name_calls ?_; intro w21 e21; refine Hid.out ?_)
  unfold Hid
  have h21 : Below w20.heap.size w20 w21 := by rw [e21]; exact bel
  have HB21 := Lib.hid (HZw20.out.trans (h21.mono HZw20.out.size))
  clear e21 h21
  refine (HCX.out _ (KS.st _ _ _ _ _ ux_rw20.out HB21.out)).mono ?_
  rintro r w22 ⟨v22, rfl, k22, h22⟩
  have HB22 := Lib.hid (HB21.out.trans (h22.mono HB21.out.size))
  obtain rfl := k22
  clear h22
  obtain ⟨fbg_0, fbg_1, fbg_2, fbg_3, fbg_4, fbg_l, -⟩ := (bg_rw20.out.below HB22.out).o5
  go_wp2_with (go_at_call 60; refine name_calls ?_; intro w23 e23; refine Hid.out ?_)
  unfold Hid
  have h23 : Below w22.heap.size w22 w23 := by rw [e23]; exact bel
  have HB23 := Lib.hid (HB22.out.trans (h23.mono HB22.out.size))
  clear e23 h23
  refine (HRE.out _ (KS.st _ _ _ _ _ ux_rw20.out HB23.out)).mono ?_
  rintro r w24 ⟨v24, rfl, k24, h24⟩
  have HB24 := Lib.hid (HB23.out.trans (h24.mono HB23.out.size))
  obtain rfl := k24
  clear h24
  clear fbg_0 fbg_1 fbg_2 fbg_3 fbg_4 fbg_l
  go_wp2_with (go_at_call 38; refine name_calls ?_; intro w25 e25; refine Hid.out ?_)
  unfold Hid
  have h25 : Below w24.heap.size w24 w25 := by rw [e25]; exact bel
  have HB25 := Lib.hid (HB24.out.trans (h25.mono HB24.out.size))
  clear e25 h25
  refine (HSI.out _ (KS.st _ _ _ _ _ a_rw20.out HB25.out) (KS.nil _)).mono ?_
  rintro r w26 ⟨v26, rfl, k26, h26⟩
  have HB26 := Lib.hid (HB25.out.trans (h26.mono HB25.out.size))
  obtain rfl := k26
  clear h26
  go_wp2_with (go_at_call 15; refine name_calls ?_; intro w27 e27; refine Hid.out ?_)
  unfold Hid
  have h27 : Below w26.heap.size w26 w27 := by rw [e27]; exact bel
  have HB27 := Lib.hid (HB26.out.trans (h27.mono HB26.out.size))
  clear e27 h27
  refine (awake_any _ (HTabw20.out.below HB27.out)).mono ?_
  rintro r w28 ⟨rfl, h28⟩
  have HB28 := Lib.hid (HB27.out.trans (h28.mono HB27.out.size))
  clear h28
  go_wp2
  go_ret
  exact ⟨by first | rfl | (simp; done), HOw20.out.trans (HB28.out.mono HOw20.out.size)⟩
end Go.Proofs.YtdeapbihbhoefaaDoor
