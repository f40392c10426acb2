/- Part 29 of the texts of the claim: N13, LPrP, LPr_0, LPr_1, LPr_2, LPr_m, LPrAll. -/
import Derived.Test.YtdeapbihbhoefaaDoorPr27
import Derived.Test.YtdeapbihbhoefaaDoorPr28

/- The reference's Run, Levels, CheckRun. -/
namespace Go.Proofs.YtdeapbihbhoefaaDoor
open Go.RowKit
open Calm (bcell Blk)
theorem rPlayed_K {lk ht rc : Int} {ts gs xs : List Int} {M L N : Nat} {u v : Value} {w : World} (hV : Valid lk ht rc ts gs) (hM : M = ts.length) (hL : L = gs.length) (hN : N = xs.length) (h5 : N ≤ 5000) (hx : inB 2048 xs) (hu : KG lk ht rc M ts L gs u w) (hv : KS N xs v w) :
    Calls Tryd.prog 89 #[u, v] w (KP (K3 (KS N (outsK lk ht rc ts gs xs N)) (KS N (lvsK lk ht rc ts gs xs N)) KW) w) := by
  obtain ⟨A1, c1, A2, c2, rfl, hT, hG⟩ := hu
  obtain ⟨A3, c3, rfl, hP⟩ := hv
  exact rPlayed_walk hV hM hL hN rfl h5 hx hT hG hP
set_option maxRecDepth 100000 in
set_option maxHeartbeats 2000000 in
theorem rRun_K {lk ht rc : Int} {ts gs xs : List Int} {M L N : Nat} {u v : Value} {w : World} (hV : Valid lk ht rc ts gs) (hM : M = ts.length) (hL : L = gs.length) (hN : N = xs.length) (h5 : N ≤ 5000) (hx : inB 2048 xs) (hu : KG lk ht rc M ts L gs u w) (hv : KS N xs v w) :
    Calls Tryd.prog 45 #[u, v] w (KP (KS N (outsK lk ht rc ts gs xs N)) w) := by
  obtain ⟨A1, c1, A2, c2, rfl, hT, hG⟩ := hu
  obtain ⟨A3, c3, rfl, hP⟩ := hv
  have HU := Lib.hid (show KG lk ht rc M ts L gs (.agg #[(.int .i64 (lk)), (.int .i64 (ht)), .slice A1 M c1, (.int .i64 (rc)), .slice A2 L c2]) w from ⟨_, _, _, _, rfl, hT, hG⟩)
  have HX := Lib.hid (show KS N xs (.slice A3 N c3) w from ⟨_, _, rfl, hP⟩)
  have HPL : Hid (∀ {a y : Value} (W : World), KG lk ht rc M ts L gs a W → KS N xs y W → Calls Tryd.prog 89 #[a, y] W (KP (K3 (KS N (outsK lk ht rc ts gs xs N)) (KS N (lvsK lk ht rc ts gs xs N)) KW) W)) := Lib.hid (fun W q q2 => rPlayed_K hV hM hL hN h5 hx q q2)
  clear hT hG hP hV hM hL hN hx
  go_enter Tryd.func45, Tryd.ntmps45
  have HB0 := Lib.hid (Below.refl w.heap.size w)
  go_wp2_with (go_at_call 89; refine name_calls ?_; intro w1 e1; refine Hid.out ?_)
  unfold Hid
  have h1 : Below w.heap.size w w1 := by rw [e1]; exact bel
  have HB1 := Lib.hid (HB0.out.trans (h1.mono HB0.out.size))
  have bg_1 := Lib.hid (show Blk w1 w.heap.size #[(.int .i64 (lk)), (.int .i64 (ht)), .slice A1 M c1, (.int .i64 (rc)), .slice A2 L c2] from by rw [e1]; (repeat (first | ((with_reducible refine Blk.at_ ?_); focus (first | rfl | (simp; done) | (simp; omega))) | (with_reducible refine Blk.alloc ?_ _) | (with_reducible refine Blk.below ?_ (by with_reducible assumption)) | (with_reducible refine Blk.drew ?_))))
  clear e1 h1
  refine (HPL.out _ (KG.st _ _ _ _ _ _ _ _ _ _ HU.out HB1.out) (KS.st _ _ _ _ _ HX.out HB1.out)).mono ?_
  rintro r w2 ⟨v2, rfl, ⟨_, _, _, rfl, ⟨B1, d1, rfl, hc1⟩, ⟨B2, d2, rfl, hc2⟩, ⟨x1, x2, x3, x4, x5, rfl⟩⟩, h2⟩
  have HC := Lib.hid hc1
  have HB2 := Lib.hid (HB1.out.trans (h2.mono HB1.out.size))
  clear hc1 hc2 h2
  go_wp2
  go_ret
  exact ⟨_, by first | rfl | (simp; done), ⟨_, _, rfl, HC.out.below ((Below.refl _ _).alloc (Nat.le_refl _) _)⟩, HB2.out.alloc HB2.out.size _⟩
set_option maxRecDepth 100000 in
set_option maxHeartbeats 2000000 in
theorem rLevels_K {lk ht rc : Int} {ts gs xs : List Int} {M L N : Nat} {u v : Value} {w : World} (hV : Valid lk ht rc ts gs) (hM : M = ts.length) (hL : L = gs.length) (hN : N = xs.length) (h5 : N ≤ 5000) (hx : inB 2048 xs) (hu : KG lk ht rc M ts L gs u w) (hv : KS N xs v w) :
    Calls Tryd.prog 46 #[u, v] w (KP (KS N (lvsK lk ht rc ts gs xs N)) w) := by
  obtain ⟨A1, c1, A2, c2, rfl, hT, hG⟩ := hu
  obtain ⟨A3, c3, rfl, hP⟩ := hv
  have HU := Lib.hid (show KG lk ht rc M ts L gs (.agg #[(.int .i64 (lk)), (.int .i64 (ht)), .slice A1 M c1, (.int .i64 (rc)), .slice A2 L c2]) w from ⟨_, _, _, _, rfl, hT, hG⟩)
  have HX := Lib.hid (show KS N xs (.slice A3 N c3) w from ⟨_, _, rfl, hP⟩)
  have HPL : Hid (∀ {a y : Value} (W : World), KG lk ht rc M ts L gs a W → KS N xs y W → Calls Tryd.prog 89 #[a, y] W (KP (K3 (KS N (outsK lk ht rc ts gs xs N)) (KS N (lvsK lk ht rc ts gs xs N)) KW) W)) := Lib.hid (fun W q q2 => rPlayed_K hV hM hL hN h5 hx q q2)
  clear hT hG hP hV hM hL hN hx
  go_enter Tryd.func46, Tryd.ntmps46
  have HB0 := Lib.hid (Below.refl w.heap.size w)
  go_wp2_with (go_at_call 89; refine name_calls ?_; intro w1 e1; refine Hid.out ?_)
  unfold Hid
  have h1 : Below w.heap.size w w1 := by rw [e1]; exact bel
  have HB1 := Lib.hid (HB0.out.trans (h1.mono HB0.out.size))
  have bg_1 := Lib.hid (show Blk w1 w.heap.size #[(.int .i64 (lk)), (.int .i64 (ht)), .slice A1 M c1, (.int .i64 (rc)), .slice A2 L c2] from by rw [e1]; (repeat (first | ((with_reducible refine Blk.at_ ?_); focus (first | rfl | (simp; done) | (simp; omega))) | (with_reducible refine Blk.alloc ?_ _) | (with_reducible refine Blk.below ?_ (by with_reducible assumption)) | (with_reducible refine Blk.drew ?_))))
  clear e1 h1
  refine (HPL.out _ (KG.st _ _ _ _ _ _ _ _ _ _ HU.out HB1.out) (KS.st _ _ _ _ _ HX.out HB1.out)).mono ?_
  rintro r w2 ⟨v2, rfl, ⟨_, _, _, rfl, ⟨B1, d1, rfl, hc1⟩, ⟨B2, d2, rfl, hc2⟩, ⟨x1, x2, x3, x4, x5, rfl⟩⟩, h2⟩
  have HC := Lib.hid hc2
  have HB2 := Lib.hid (HB1.out.trans (h2.mono HB1.out.size))
  clear hc1 hc2 h2
  go_wp2
  go_ret
  exact ⟨_, by first | rfl | (simp; done), ⟨_, _, rfl, HC.out.below ((Below.refl _ _).alloc (Nat.le_refl _) _)⟩, HB2.out.alloc HB2.out.size _⟩
set_option maxRecDepth 100000 in
set_option maxHeartbeats 2000000 in
theorem rCheckRun_e {lk ht rc : Int} {ts gs xs os : List Int} {M L N N2 : Nat} {u v y : Value} {w : World} (hM : M = ts.length) (hL : L = gs.length) (hN : N = xs.length) (hN2 : N2 = os.length) (h1 : M ≤ 1000) (h2 : L ≤ 1000) (h5 : N ≤ 5000) (h6 : N2 ≤ 5000) (d0 : ¬ firstOf [guardErr lk ht rc ts gs, sigErr xs, sigErr os] = 0) (hu : KG lk ht rc M ts L gs u w) (hv : KS N xs v w) (hy : KS N2 os y w) :
    Calls Tryd.prog 66 #[u, v, y] w (KP (KV (.int .i64 (firstOf [guardErr lk ht rc ts gs, sigErr xs, sigErr os]))) w) := by
  obtain ⟨A1, c1, A2, c2, rfl, hT, hG⟩ := hu
  obtain ⟨A3, c3, rfl, hP⟩ := hv
  obtain ⟨A4, c4, rfl, hO⟩ := hy
  have HU := Lib.hid (show KG lk ht rc M ts L gs (.agg #[(.int .i64 (lk)), (.int .i64 (ht)), .slice A1 M c1, (.int .i64 (rc)), .slice A2 L c2]) w from ⟨_, _, _, _, rfl, hT, hG⟩)
  have HX := Lib.hid (show KS N xs (.slice A3 N c3) w from ⟨_, _, rfl, hP⟩)
  have HO := Lib.hid (show KS N2 os (.slice A4 N2 c4) w from ⟨_, _, rfl, hO⟩)
  obtain ⟨GE, hGE⟩ : ∃ GE, GE = guardErr lk ht rc ts gs := ⟨_, rfl⟩
  obtain ⟨SE, hSE⟩ : ∃ SE, SE = sigErr xs := ⟨_, rfl⟩
  obtain ⟨OE, hOE⟩ : ∃ OE, OE = sigErr os := ⟨_, rfl⟩
  obtain ⟨R, hR⟩ : ∃ R, R = firstOf [guardErr lk ht rc ts gs, sigErr xs, sigErr os] := ⟨_, rfl⟩
  have HRR : Hid (firstOf [guardErr lk ht rc ts gs, sigErr xs, sigErr os] = R) := Lib.hid hR.symm
  have HCG : Hid (∀ {x : Value} (W : World), KG lk ht rc M ts L gs x W → Calls Tryd.prog 18 #[x] W (KP (KV (.int .i64 (GE))) W)) := Lib.hid (fun W q => by rw [hGE]; exact rGuard_K hM hL (by omega) (by omega) q)
  have HCX : Hid (∀ {x : Value} (W : World), KS N xs x W → Calls Tryd.prog 44 #[x] W (KP (KV (.int .i64 (SE))) W)) := Lib.hid (fun W q => by rw [hSE]; exact xSignal_K hN h5 q)
  have HCO : Hid (∀ {x : Value} (W : World), KS N2 os x W → Calls Tryd.prog 44 #[x] W (KP (KV (.int .i64 (OE))) W)) := Lib.hid (fun W q => by rw [hOE]; exact xSignal_K hN2 h6 q)
  have HFI : Hid (∀ (g : Nat) (W : World), W.heap[g]? = some (.cells #[(.int .i64 (GE)), (.int .i64 (SE)), (.int .i64 (OE))] 3 (0, 0)) → Calls Tryd.prog 31 #[.slice (some ⟨g, 0, none⟩) 3 3] W (KP (KV (.int .i64 (R))) W)) := Lib.hid (fun g W h => by
    rw [show (R : Int) = firstOf [GE, SE, OE] by rw [hR, hGE, hSE, hOE]]
    exact (qFirst_any [GE, SE, OE] _ 3 W (by simp) (Cells.row h)).mono fun e W' ⟨k1, k2⟩ => ⟨_, k1, rfl, k2 ▸ Below.refl _ _⟩)
  have hRn : (R != 0) = true := by rw [hR]; simpa using d0
  clear hT hG hP hO hM hL hN hN2 hGE hSE hOE hR d0
  go_enter Tryd.func66, Tryd.ntmps66
  have HB0 := Lib.hid (Below.refl w.heap.size w)
  go_wp2_with (go_at_call 18; refine name_calls ?_; intro w1 e1; refine Hid.out ?_)
  unfold Hid
  have h1 : Below w.heap.size w w1 := by rw [e1]; exact bel
  have HB1 := Lib.hid (HB0.out.trans (h1.mono HB0.out.size))
  have bg_1 := Lib.hid (show Blk w1 w.heap.size #[(.int .i64 (lk)), (.int .i64 (ht)), .slice A1 M c1, (.int .i64 (rc)), .slice A2 L c2] from by rw [e1]; (repeat (first | ((with_reducible refine Blk.at_ ?_); focus (first | rfl | (simp; done) | (simp; omega))) | (with_reducible refine Blk.alloc ?_ _) | (with_reducible refine Blk.below ?_ (by with_reducible assumption)) | (with_reducible refine Blk.drew ?_))))
  clear e1 h1
  refine (HCG.out _ (KG.st _ _ _ _ _ _ _ _ _ _ HU.out HB1.out)).mono ?_
  rintro r w2 ⟨v2, rfl, k2, h2⟩
  have bg_2 := Lib.hid (bg_1.out.below h2)
  have HB2 := Lib.hid (HB1.out.trans (h2.mono HB1.out.size))
  obtain rfl := k2
  clear h2
  go_wp2_with (go_at_call 44; refine name_calls ?_; intro w3 e3; refine Hid.out ?_)
  unfold Hid
  have h3 : Below w2.heap.size w2 w3 := by rw [e3]; exact bel
  have bg_3 := Lib.hid (bg_2.out.below h3)
  have HB3 := Lib.hid (HB2.out.trans (h3.mono HB2.out.size))
  clear e3 h3
  refine (HCX.out _ (KS.st _ _ _ _ _ HX.out HB3.out)).mono ?_
  rintro r w4 ⟨v4, rfl, k4, h4⟩
  have bg_4 := Lib.hid (bg_3.out.below h4)
  have HB4 := Lib.hid (HB3.out.trans (h4.mono HB3.out.size))
  obtain rfl := k4
  clear h4
  go_wp2_with (go_at_call 44; refine name_calls ?_; intro w5 e5; refine Hid.out ?_)
  unfold Hid
  have h5 : Below w4.heap.size w4 w5 := by rw [e5]; exact bel
  have bg_5 := Lib.hid (bg_4.out.below h5)
  have HB5 := Lib.hid (HB4.out.trans (h5.mono HB4.out.size))
  clear e5 h5
  refine (HCO.out _ (KS.st _ _ _ _ _ HO.out HB5.out)).mono ?_
  rintro r w6 ⟨v6, rfl, k6, h6⟩
  have bg_6 := Lib.hid (bg_5.out.below h6)
  have HB6 := Lib.hid (HB5.out.trans (h6.mono HB5.out.size))
  obtain rfl := k6
  clear h6
  go_wp2_with (go_at_call 31; refine name_calls ?_; intro w7 e7; refine Hid.out ?_)
  unfold Hid
  have h7 : Below w6.heap.size w6 w7 := by rw [e7]; exact bel
  have bg_7 := Lib.hid (bg_6.out.below h7)
  have HB7 := Lib.hid (HB6.out.trans (h7.mono HB6.out.size))
  have hcf : Hid (w7.heap[w6.heap.size]? = some (.cells #[(.int .i64 (GE)), (.int .i64 (SE)), (.int .i64 (OE))] 3 (0, 0))) := Lib.hid (by rw [e7]; exact heap_new rfl)
  clear e7 h7
  refine (HFI.out _ _ hcf.out).mono ?_
  rintro r w8 ⟨v8, rfl, k8, h8⟩
  have bg_8 := Lib.hid (bg_7.out.below h8)
  have HB8 := Lib.hid (HB7.out.trans (h8.mono HB7.out.size))
  obtain rfl := k8
  clear h8
  clear hcf
  go_wp2
  go_ret
  exact ⟨_, by first | rfl | (simp; done), by rw [HRR.out]; rfl, HB8.out⟩
set_option maxRecDepth 100000 in
set_option maxHeartbeats 2000000 in
theorem rCheckRun_l {lk ht rc : Int} {ts gs xs os : List Int} {M L N N2 : Nat} {u v y : Value} {w : World} (hM : M = ts.length) (hL : L = gs.length) (hN : N = xs.length) (hN2 : N2 = os.length) (h1 : M ≤ 1000) (h2 : L ≤ 1000) (h5 : N ≤ 5000) (h6 : N2 ≤ 5000) (d0 : firstOf [guardErr lk ht rc ts gs, sigErr xs, sigErr os] = 0) (d1 : ¬ N = N2) (hu : KG lk ht rc M ts L gs u w) (hv : KS N xs v w) (hy : KS N2 os y w) :
    Calls Tryd.prog 66 #[u, v, y] w (KP (KV (.int .i64 (2))) w) := by
  obtain ⟨A1, c1, A2, c2, rfl, hT, hG⟩ := hu
  obtain ⟨A3, c3, rfl, hP⟩ := hv
  obtain ⟨A4, c4, rfl, hO⟩ := hy
  have HU := Lib.hid (show KG lk ht rc M ts L gs (.agg #[(.int .i64 (lk)), (.int .i64 (ht)), .slice A1 M c1, (.int .i64 (rc)), .slice A2 L c2]) w from ⟨_, _, _, _, rfl, hT, hG⟩)
  have HX := Lib.hid (show KS N xs (.slice A3 N c3) w from ⟨_, _, rfl, hP⟩)
  have HO := Lib.hid (show KS N2 os (.slice A4 N2 c4) w from ⟨_, _, rfl, hO⟩)
  obtain ⟨GE, hGE⟩ : ∃ GE, GE = guardErr lk ht rc ts gs := ⟨_, rfl⟩
  obtain ⟨SE, hSE⟩ : ∃ SE, SE = sigErr xs := ⟨_, rfl⟩
  obtain ⟨OE, hOE⟩ : ∃ OE, OE = sigErr os := ⟨_, rfl⟩
  have HCG : Hid (∀ {x : Value} (W : World), KG lk ht rc M ts L gs x W → Calls Tryd.prog 18 #[x] W (KP (KV (.int .i64 (GE))) W)) := Lib.hid (fun W q => by rw [hGE]; exact rGuard_K hM hL (by omega) (by omega) q)
  have HCX : Hid (∀ {x : Value} (W : World), KS N xs x W → Calls Tryd.prog 44 #[x] W (KP (KV (.int .i64 (SE))) W)) := Lib.hid (fun W q => by rw [hSE]; exact xSignal_K hN h5 q)
  have HCO : Hid (∀ {x : Value} (W : World), KS N2 os x W → Calls Tryd.prog 44 #[x] W (KP (KV (.int .i64 (OE))) W)) := Lib.hid (fun W q => by rw [hOE]; exact xSignal_K hN2 h6 q)
  have HFI : Hid (∀ (g : Nat) (W : World), W.heap[g]? = some (.cells #[(.int .i64 (GE)), (.int .i64 (SE)), (.int .i64 (OE))] 3 (0, 0)) → Calls Tryd.prog 31 #[.slice (some ⟨g, 0, none⟩) 3 3] W (KP (KV (.int .i64 (0))) W)) := Lib.hid (fun g W h => by
    rw [show (0 : Int) = firstOf [GE, SE, OE] by rw [← d0, hGE, hSE, hOE]]
    exact (qFirst_any [GE, SE, OE] _ 3 W (by simp) (Cells.row h)).mono fun e W' ⟨k1, k2⟩ => ⟨_, k1, rfl, k2 ▸ Below.refl _ _⟩)
  have hln : ((N : Int) != (N2 : Int)) = true := by simp; omega
  clear hT hG hP hO hM hL hN hN2 hGE hSE hOE d0 d1
  go_enter Tryd.func66, Tryd.ntmps66
  have HB0 := Lib.hid (Below.refl w.heap.size w)
  go_wp2_with (go_at_call 18; refine name_calls ?_; intro w1 e1; refine Hid.out ?_)
  unfold Hid
  have h1 : Below w.heap.size w w1 := by rw [e1]; exact bel
  have HB1 := Lib.hid (HB0.out.trans (h1.mono HB0.out.size))
  have bg_1 := Lib.hid (show Blk w1 w.heap.size #[(.int .i64 (lk)), (.int .i64 (ht)), .slice A1 M c1, (.int .i64 (rc)), .slice A2 L c2] from by rw [e1]; (repeat (first | ((with_reducible refine Blk.at_ ?_); focus (first | rfl | (simp; done) | (simp; omega))) | (with_reducible refine Blk.alloc ?_ _) | (with_reducible refine Blk.below ?_ (by with_reducible assumption)) | (with_reducible refine Blk.drew ?_))))
  clear e1 h1
  refine (HCG.out _ (KG.st _ _ _ _ _ _ _ _ _ _ HU.out HB1.out)).mono ?_
  rintro r w2 ⟨v2, rfl, k2, h2⟩
  have bg_2 := Lib.hid (bg_1.out.below h2)
  have HB2 := Lib.hid (HB1.out.trans (h2.mono HB1.out.size))
  obtain rfl := k2
  clear h2
  go_wp2_with (go_at_call 44; refine name_calls ?_; intro w3 e3; refine Hid.out ?_)
  unfold Hid
  have h3 : Below w2.heap.size w2 w3 := by rw [e3]; exact bel
  have bg_3 := Lib.hid (bg_2.out.below h3)
  have HB3 := Lib.hid (HB2.out.trans (h3.mono HB2.out.size))
  clear e3 h3
  refine (HCX.out _ (KS.st _ _ _ _ _ HX.out HB3.out)).mono ?_
  rintro r w4 ⟨v4, rfl, k4, h4⟩
  have bg_4 := Lib.hid (bg_3.out.below h4)
  have HB4 := Lib.hid (HB3.out.trans (h4.mono HB3.out.size))
  obtain rfl := k4
  clear h4
  go_wp2_with (go_at_call 44; refine name_calls ?_; intro w5 e5; refine Hid.out ?_)
  unfold Hid
  have h5 : Below w4.heap.size w4 w5 := by rw [e5]; exact bel
  have bg_5 := Lib.hid (bg_4.out.below h5)
  have HB5 := Lib.hid (HB4.out.trans (h5.mono HB4.out.size))
  clear e5 h5
  refine (HCO.out _ (KS.st _ _ _ _ _ HO.out HB5.out)).mono ?_
  rintro r w6 ⟨v6, rfl, k6, h6⟩
  have bg_6 := Lib.hid (bg_5.out.below h6)
  have HB6 := Lib.hid (HB5.out.trans (h6.mono HB5.out.size))
  obtain rfl := k6
  clear h6
  go_wp2_with (go_at_call 31; refine name_calls ?_; intro w7 e7; refine Hid.out ?_)
  unfold Hid
  have h7 : Below w6.heap.size w6 w7 := by rw [e7]; exact bel
  have bg_7 := Lib.hid (bg_6.out.below h7)
  have HB7 := Lib.hid (HB6.out.trans (h7.mono HB6.out.size))
  have hcf : Hid (w7.heap[w6.heap.size]? = some (.cells #[(.int .i64 (GE)), (.int .i64 (SE)), (.int .i64 (OE))] 3 (0, 0))) := Lib.hid (by rw [e7]; exact heap_new rfl)
  clear e7 h7
  refine (HFI.out _ _ hcf.out).mono ?_
  rintro r w8 ⟨v8, rfl, k8, h8⟩
  have bg_8 := Lib.hid (bg_7.out.below h8)
  have HB8 := Lib.hid (HB7.out.trans (h8.mono HB7.out.size))
  obtain rfl := k8
  clear h8
  clear hcf
  go_wp2
  go_ret
  exact ⟨_, by first | rfl | (simp; done), by rfl, HB8.out⟩
set_option maxRecDepth 100000 in
set_option maxHeartbeats 2000000 in
theorem rCheckRun_s {lk ht rc : Int} {ts gs xs os : List Int} {M L N N2 : Nat} {u v y : Value} {w : World} (hM : M = ts.length) (hL : L = gs.length) (hN : N = xs.length) (hN2 : N2 = os.length) (h1 : M ≤ 1000) (h2 : L ≤ 1000) (h5 : N ≤ 5000) (h6 : N2 ≤ 5000) (d0 : firstOf [guardErr lk ht rc ts gs, sigErr xs, sigErr os] = 0) (d1 : N = N2) (d2 : os = outsK lk ht rc ts gs xs N) (hu : KG lk ht rc M ts L gs u w) (hv : KS N xs v w) (hy : KS N2 os y w) :
    Calls Tryd.prog 66 #[u, v, y] w (KP (KV (.int .i64 (0))) w) := by
  obtain ⟨A1, c1, A2, c2, rfl, hT, hG⟩ := hu
  obtain ⟨A3, c3, rfl, hP⟩ := hv
  obtain ⟨A4, c4, rfl, hO⟩ := hy
  have HU := Lib.hid (show KG lk ht rc M ts L gs (.agg #[(.int .i64 (lk)), (.int .i64 (ht)), .slice A1 M c1, (.int .i64 (rc)), .slice A2 L c2]) w from ⟨_, _, _, _, rfl, hT, hG⟩)
  have HX := Lib.hid (show KS N xs (.slice A3 N c3) w from ⟨_, _, rfl, hP⟩)
  have HO := Lib.hid (show KS N2 os (.slice A4 N2 c4) w from ⟨_, _, rfl, hO⟩)
  obtain ⟨GE, hGE⟩ : ∃ GE, GE = guardErr lk ht rc ts gs := ⟨_, rfl⟩
  obtain ⟨SE, hSE⟩ : ∃ SE, SE = sigErr xs := ⟨_, rfl⟩
  obtain ⟨OE, hOE⟩ : ∃ OE, OE = sigErr os := ⟨_, rfl⟩
  have HCG : Hid (∀ {x : Value} (W : World), KG lk ht rc M ts L gs x W → Calls Tryd.prog 18 #[x] W (KP (KV (.int .i64 (GE))) W)) := Lib.hid (fun W q => by rw [hGE]; exact rGuard_K hM hL (by omega) (by omega) q)
  have HCX : Hid (∀ {x : Value} (W : World), KS N xs x W → Calls Tryd.prog 44 #[x] W (KP (KV (.int .i64 (SE))) W)) := Lib.hid (fun W q => by rw [hSE]; exact xSignal_K hN h5 q)
  have HCO : Hid (∀ {x : Value} (W : World), KS N2 os x W → Calls Tryd.prog 44 #[x] W (KP (KV (.int .i64 (OE))) W)) := Lib.hid (fun W q => by rw [hOE]; exact xSignal_K hN2 h6 q)
  have HFI : Hid (∀ (g : Nat) (W : World), W.heap[g]? = some (.cells #[(.int .i64 (GE)), (.int .i64 (SE)), (.int .i64 (OE))] 3 (0, 0)) → Calls Tryd.prog 31 #[.slice (some ⟨g, 0, none⟩) 3 3] W (KP (KV (.int .i64 (0))) W)) := Lib.hid (fun g W h => by
    rw [show (0 : Int) = firstOf [GE, SE, OE] by rw [← d0, hGE, hSE, hOE]]
    exact (qFirst_any [GE, SE, OE] _ 3 W (by simp) (Cells.row h)).mono fun e W' ⟨k1, k2⟩ => ⟨_, k1, rfl, k2 ▸ Below.refl _ _⟩)
  have hz := firstOf_eq_zero.1 d0
  have hV := guard_valid (hz _ (by simp : guardErr lk ht rc ts gs ∈ _))
  have hx := sigErr_in (hz (sigErr xs) (by simp))
  obtain ⟨RN, hRN⟩ : ∃ RN, RN = outsK lk ht rc ts gs xs N := ⟨_, rfl⟩
  have HRN : Hid (∀ {a y : Value} (W : World), KG lk ht rc M ts L gs a W → KS N xs y W → Calls Tryd.prog 45 #[a, y] W (KP (KS N RN) W)) := Lib.hid (fun W q q2 => by rw [hRN]; exact rRun_K hV hM hL hN h5 hx q q2)
  have hRNl : N = RN.length := by rw [hRN]; exact (outsK_len _ _ _ _ _ _ _).symm
  rw [← hRN] at d2
  have HSI : Hid (∀ {a y : Value} (W : World), KS N2 os a W → KS N RN y W → Calls Tryd.prog 38 #[a, y] W (KP (KV (.bool true)) W)) := Lib.hid (fun W q q2 => by have := same_K hN2 hRNl (by omega) (by omega) q q2; rwa [decide_eq_true d2] at this)
  clear hT hG hP hO hM hL hN hN2 hGE hSE hOE d0 d2 hz hV hx hRN hRNl
  subst d1
  go_enter Tryd.func66, Tryd.ntmps66
  have HB0 := Lib.hid (Below.refl w.heap.size w)
  go_wp2_with (go_at_call 18; refine name_calls ?_; intro w1 e1; refine Hid.out ?_)
  unfold Hid
  have h1 : Below w.heap.size w w1 := by rw [e1]; exact bel
  have HB1 := Lib.hid (HB0.out.trans (h1.mono HB0.out.size))
  have bg_1 := Lib.hid (show Blk w1 w.heap.size #[(.int .i64 (lk)), (.int .i64 (ht)), .slice A1 M c1, (.int .i64 (rc)), .slice A2 L c2] from by rw [e1]; (repeat (first | ((with_reducible refine Blk.at_ ?_); focus (first | rfl | (simp; done) | (simp; omega))) | (with_reducible refine Blk.alloc ?_ _) | (with_reducible refine Blk.below ?_ (by with_reducible assumption)) | (with_reducible refine Blk.drew ?_))))
  clear e1 h1
  refine (HCG.out _ (KG.st _ _ _ _ _ _ _ _ _ _ HU.out HB1.out)).mono ?_
  rintro r w2 ⟨v2, rfl, k2, h2⟩
  have bg_2 := Lib.hid (bg_1.out.below h2)
  have HB2 := Lib.hid (HB1.out.trans (h2.mono HB1.out.size))
  obtain rfl := k2
  clear h2
  go_wp2_with (go_at_call 44; refine name_calls ?_; intro w3 e3; refine Hid.out ?_)
  unfold Hid
  have h3 : Below w2.heap.size w2 w3 := by rw [e3]; exact bel
  have bg_3 := Lib.hid (bg_2.out.below h3)
  have HB3 := Lib.hid (HB2.out.trans (h3.mono HB2.out.size))
  clear e3 h3
  refine (HCX.out _ (KS.st _ _ _ _ _ HX.out HB3.out)).mono ?_
  rintro r w4 ⟨v4, rfl, k4, h4⟩
  have bg_4 := Lib.hid (bg_3.out.below h4)
  have HB4 := Lib.hid (HB3.out.trans (h4.mono HB3.out.size))
  obtain rfl := k4
  clear h4
  go_wp2_with (go_at_call 44; refine name_calls ?_; intro w5 e5; refine Hid.out ?_)
  unfold Hid
  have h5 : Below w4.heap.size w4 w5 := by rw [e5]; exact bel
  have bg_5 := Lib.hid (bg_4.out.below h5)
  have HB5 := Lib.hid (HB4.out.trans (h5.mono HB4.out.size))
  clear e5 h5
  refine (HCO.out _ (KS.st _ _ _ _ _ HO.out HB5.out)).mono ?_
  rintro r w6 ⟨v6, rfl, k6, h6⟩
  have bg_6 := Lib.hid (bg_5.out.below h6)
  have HB6 := Lib.hid (HB5.out.trans (h6.mono HB5.out.size))
  obtain rfl := k6
  clear h6
  go_wp2_with (go_at_call 31; refine name_calls ?_; intro w7 e7; refine Hid.out ?_)
  unfold Hid
  have h7 : Below w6.heap.size w6 w7 := by rw [e7]; exact bel
  have bg_7 := Lib.hid (bg_6.out.below h7)
  have HB7 := Lib.hid (HB6.out.trans (h7.mono HB6.out.size))
  have hcf : Hid (w7.heap[w6.heap.size]? = some (.cells #[(.int .i64 (GE)), (.int .i64 (SE)), (.int .i64 (OE))] 3 (0, 0))) := Lib.hid (by rw [e7]; exact heap_new rfl)
  clear e7 h7
  refine (HFI.out _ _ hcf.out).mono ?_
  rintro r w8 ⟨v8, rfl, k8, h8⟩
  have bg_8 := Lib.hid (bg_7.out.below h8)
  have HB8 := Lib.hid (HB7.out.trans (h8.mono HB7.out.size))
  obtain rfl := k8
  clear h8
  clear hcf
  obtain ⟨fbg_0, fbg_1, fbg_2, fbg_3, fbg_4, fbg_l, -⟩ := bg_8.out.o5
  go_wp2_with (go_at_call 45; refine name_calls ?_; intro w9 e9; refine Hid.out ?_)
  unfold Hid
  have h9 : Below w8.heap.size w8 w9 := by rw [e9]; exact bel
  have bg_9 := Lib.hid (bg_8.out.below h9)
  have HB9 := Lib.hid (HB8.out.trans (h9.mono HB8.out.size))
  clear e9 h9
  refine (HRN.out _ (KG.st _ _ _ _ _ _ _ _ _ _ HU.out HB9.out) (KS.st _ _ _ _ _ HX.out HB9.out)).mono ?_
  rintro r w10 ⟨v10, rfl, k10, h10⟩
  have bg_10 := Lib.hid (bg_9.out.below h10)
  have HB10 := Lib.hid (HB9.out.trans (h10.mono HB9.out.size))
  obtain ⟨B10, d10, rfl, q10⟩ := k10
  have rn_10 := Lib.hid (show KS N RN (.slice B10 N d10) w10 from ⟨_, _, rfl, q10⟩)
  clear q10 h10
  clear fbg_0 fbg_1 fbg_2 fbg_3 fbg_4 fbg_l
  go_wp2_with (go_at_call 38; refine name_calls ?_; intro w11 e11; refine Hid.out ?_)
  unfold Hid
  have h11 : Below w10.heap.size w10 w11 := by rw [e11]; exact bel
  have rn_11 := Lib.hid (KS.st _ _ _ _ _ rn_10.out h11)
  have bg_11 := Lib.hid (bg_10.out.below h11)
  have HB11 := Lib.hid (HB10.out.trans (h11.mono HB10.out.size))
  clear e11 h11
  refine (HSI.out _ (KS.st _ _ _ _ _ HO.out HB11.out) rn_11.out).mono ?_
  rintro r w12 ⟨v12, rfl, k12, h12⟩
  have rn_12 := Lib.hid (KS.st _ _ _ _ _ rn_11.out h12)
  have bg_12 := Lib.hid (bg_11.out.below h12)
  have HB12 := Lib.hid (HB11.out.trans (h12.mono HB11.out.size))
  obtain rfl := k12
  clear h12
  go_wp2
  go_ret
  exact ⟨_, by first | rfl | (simp; done), by rfl, HB12.out⟩
set_option maxRecDepth 100000 in
set_option maxHeartbeats 2000000 in
theorem rCheckRun_n {lk ht rc : Int} {ts gs xs os : List Int} {M L N N2 : Nat} {u v y : Value} {w : World} (hM : M = ts.length) (hL : L = gs.length) (hN : N = xs.length) (hN2 : N2 = os.length) (h1 : M ≤ 1000) (h2 : L ≤ 1000) (h5 : N ≤ 5000) (h6 : N2 ≤ 5000) (d0 : firstOf [guardErr lk ht rc ts gs, sigErr xs, sigErr os] = 0) (d1 : N = N2) (d2 : ¬ os = outsK lk ht rc ts gs xs N) (hu : KG lk ht rc M ts L gs u w) (hv : KS N xs v w) (hy : KS N2 os y w) :
    Calls Tryd.prog 66 #[u, v, y] w (KP (KV (.int .i64 (22))) w) := by
  obtain ⟨A1, c1, A2, c2, rfl, hT, hG⟩ := hu
  obtain ⟨A3, c3, rfl, hP⟩ := hv
  obtain ⟨A4, c4, rfl, hO⟩ := hy
  have HU := Lib.hid (show KG lk ht rc M ts L gs (.agg #[(.int .i64 (lk)), (.int .i64 (ht)), .slice A1 M c1, (.int .i64 (rc)), .slice A2 L c2]) w from ⟨_, _, _, _, rfl, hT, hG⟩)
  have HX := Lib.hid (show KS N xs (.slice A3 N c3) w from ⟨_, _, rfl, hP⟩)
  have HO := Lib.hid (show KS N2 os (.slice A4 N2 c4) w from ⟨_, _, rfl, hO⟩)
  obtain ⟨GE, hGE⟩ : ∃ GE, GE = guardErr lk ht rc ts gs := ⟨_, rfl⟩
  obtain ⟨SE, hSE⟩ : ∃ SE, SE = sigErr xs := ⟨_, rfl⟩
  obtain ⟨OE, hOE⟩ : ∃ OE, OE = sigErr os := ⟨_, rfl⟩
  have HCG : Hid (∀ {x : Value} (W : World), KG lk ht rc M ts L gs x W → Calls Tryd.prog 18 #[x] W (KP (KV (.int .i64 (GE))) W)) := Lib.hid (fun W q => by rw [hGE]; exact rGuard_K hM hL (by omega) (by omega) q)
  have HCX : Hid (∀ {x : Value} (W : World), KS N xs x W → Calls Tryd.prog 44 #[x] W (KP (KV (.int .i64 (SE))) W)) := Lib.hid (fun W q => by rw [hSE]; exact xSignal_K hN h5 q)
  have HCO : Hid (∀ {x : Value} (W : World), KS N2 os x W → Calls Tryd.prog 44 #[x] W (KP (KV (.int .i64 (OE))) W)) := Lib.hid (fun W q => by rw [hOE]; exact xSignal_K hN2 h6 q)
  have HFI : Hid (∀ (g : Nat) (W : World), W.heap[g]? = some (.cells #[(.int .i64 (GE)), (.int .i64 (SE)), (.int .i64 (OE))] 3 (0, 0)) → Calls Tryd.prog 31 #[.slice (some ⟨g, 0, none⟩) 3 3] W (KP (KV (.int .i64 (0))) W)) := Lib.hid (fun g W h => by
    rw [show (0 : Int) = firstOf [GE, SE, OE] by rw [← d0, hGE, hSE, hOE]]
    exact (qFirst_any [GE, SE, OE] _ 3 W (by simp) (Cells.row h)).mono fun e W' ⟨k1, k2⟩ => ⟨_, k1, rfl, k2 ▸ Below.refl _ _⟩)
  have hz := firstOf_eq_zero.1 d0
  have hV := guard_valid (hz _ (by simp : guardErr lk ht rc ts gs ∈ _))
  have hx := sigErr_in (hz (sigErr xs) (by simp))
  obtain ⟨RN, hRN⟩ : ∃ RN, RN = outsK lk ht rc ts gs xs N := ⟨_, rfl⟩
  have HRN : Hid (∀ {a y : Value} (W : World), KG lk ht rc M ts L gs a W → KS N xs y W → Calls Tryd.prog 45 #[a, y] W (KP (KS N RN) W)) := Lib.hid (fun W q q2 => by rw [hRN]; exact rRun_K hV hM hL hN h5 hx q q2)
  have hRNl : N = RN.length := by rw [hRN]; exact (outsK_len _ _ _ _ _ _ _).symm
  rw [← hRN] at d2
  have HSI : Hid (∀ {a y : Value} (W : World), KS N2 os a W → KS N RN y W → Calls Tryd.prog 38 #[a, y] W (KP (KV (.bool false)) W)) := Lib.hid (fun W q q2 => by have := same_K hN2 hRNl (by omega) (by omega) q q2; rwa [decide_eq_false d2] at this)
  clear hT hG hP hO hM hL hN hN2 hGE hSE hOE d0 d2 hz hV hx hRN hRNl
  subst d1
  go_enter Tryd.func66, Tryd.ntmps66
  have HB0 := Lib.hid (Below.refl w.heap.size w)
  go_wp2_with (go_at_call 18; refine name_calls ?_; intro w1 e1; refine Hid.out ?_)
  unfold Hid
  have h1 : Below w.heap.size w w1 := by rw [e1]; exact bel
  have HB1 := Lib.hid (HB0.out.trans (h1.mono HB0.out.size))
  have bg_1 := Lib.hid (show Blk w1 w.heap.size #[(.int .i64 (lk)), (.int .i64 (ht)), .slice A1 M c1, (.int .i64 (rc)), .slice A2 L c2] from by rw [e1]; (repeat (first | ((with_reducible refine Blk.at_ ?_); focus (first | rfl | (simp; done) | (simp; omega))) | (with_reducible refine Blk.alloc ?_ _) | (with_reducible refine Blk.below ?_ (by with_reducible assumption)) | (with_reducible refine Blk.drew ?_))))
  clear e1 h1
  refine (HCG.out _ (KG.st _ _ _ _ _ _ _ _ _ _ HU.out HB1.out)).mono ?_
  rintro r w2 ⟨v2, rfl, k2, h2⟩
  have bg_2 := Lib.hid (bg_1.out.below h2)
  have HB2 := Lib.hid (HB1.out.trans (h2.mono HB1.out.size))
  obtain rfl := k2
  clear h2
  go_wp2_with (go_at_call 44; refine name_calls ?_; intro w3 e3; refine Hid.out ?_)
  unfold Hid
  have h3 : Below w2.heap.size w2 w3 := by rw [e3]; exact bel
  have bg_3 := Lib.hid (bg_2.out.below h3)
  have HB3 := Lib.hid (HB2.out.trans (h3.mono HB2.out.size))
  clear e3 h3
  refine (HCX.out _ (KS.st _ _ _ _ _ HX.out HB3.out)).mono ?_
  rintro r w4 ⟨v4, rfl, k4, h4⟩
  have bg_4 := Lib.hid (bg_3.out.below h4)
  have HB4 := Lib.hid (HB3.out.trans (h4.mono HB3.out.size))
  obtain rfl := k4
  clear h4
  go_wp2_with (go_at_call 44; refine name_calls ?_; intro w5 e5; refine Hid.out ?_)
  unfold Hid
  have h5 : Below w4.heap.size w4 w5 := by rw [e5]; exact bel
  have bg_5 := Lib.hid (bg_4.out.below h5)
  have HB5 := Lib.hid (HB4.out.trans (h5.mono HB4.out.size))
  clear e5 h5
  refine (HCO.out _ (KS.st _ _ _ _ _ HO.out HB5.out)).mono ?_
  rintro r w6 ⟨v6, rfl, k6, h6⟩
  have bg_6 := Lib.hid (bg_5.out.below h6)
  have HB6 := Lib.hid (HB5.out.trans (h6.mono HB5.out.size))
  obtain rfl := k6
  clear h6
  go_wp2_with (go_at_call 31; refine name_calls ?_; intro w7 e7; refine Hid.out ?_)
  unfold Hid
  have h7 : Below w6.heap.size w6 w7 := by rw [e7]; exact bel
  have bg_7 := Lib.hid (bg_6.out.below h7)
  have HB7 := Lib.hid (HB6.out.trans (h7.mono HB6.out.size))
  have hcf : Hid (w7.heap[w6.heap.size]? = some (.cells #[(.int .i64 (GE)), (.int .i64 (SE)), (.int .i64 (OE))] 3 (0, 0))) := Lib.hid (by rw [e7]; exact heap_new rfl)
  clear e7 h7
  refine (HFI.out _ _ hcf.out).mono ?_
  rintro r w8 ⟨v8, rfl, k8, h8⟩
  have bg_8 := Lib.hid (bg_7.out.below h8)
  have HB8 := Lib.hid (HB7.out.trans (h8.mono HB7.out.size))
  obtain rfl := k8
  clear h8
  clear hcf
  obtain ⟨fbg_0, fbg_1, fbg_2, fbg_3, fbg_4, fbg_l, -⟩ := bg_8.out.o5
  go_wp2_with (go_at_call 45; refine name_calls ?_; intro w9 e9; refine Hid.out ?_)
  unfold Hid
  have h9 : Below w8.heap.size w8 w9 := by rw [e9]; exact bel
  have bg_9 := Lib.hid (bg_8.out.below h9)
  have HB9 := Lib.hid (HB8.out.trans (h9.mono HB8.out.size))
  clear e9 h9
  refine (HRN.out _ (KG.st _ _ _ _ _ _ _ _ _ _ HU.out HB9.out) (KS.st _ _ _ _ _ HX.out HB9.out)).mono ?_
  rintro r w10 ⟨v10, rfl, k10, h10⟩
  have bg_10 := Lib.hid (bg_9.out.below h10)
  have HB10 := Lib.hid (HB9.out.trans (h10.mono HB9.out.size))
  obtain ⟨B10, d10, rfl, q10⟩ := k10
  have rn_10 := Lib.hid (show KS N RN (.slice B10 N d10) w10 from ⟨_, _, rfl, q10⟩)
  clear q10 h10
  clear fbg_0 fbg_1 fbg_2 fbg_3 fbg_4 fbg_l
  go_wp2_with (go_at_call 38; refine name_calls ?_; intro w11 e11; refine Hid.out ?_)
  unfold Hid
  have h11 : Below w10.heap.size w10 w11 := by rw [e11]; exact bel
  have rn_11 := Lib.hid (KS.st _ _ _ _ _ rn_10.out h11)
  have bg_11 := Lib.hid (bg_10.out.below h11)
  have HB11 := Lib.hid (HB10.out.trans (h11.mono HB10.out.size))
  clear e11 h11
  refine (HSI.out _ (KS.st _ _ _ _ _ HO.out HB11.out) rn_11.out).mono ?_
  rintro r w12 ⟨v12, rfl, k12, h12⟩
  have rn_12 := Lib.hid (KS.st _ _ _ _ _ rn_11.out h12)
  have bg_12 := Lib.hid (bg_11.out.below h12)
  have HB12 := Lib.hid (HB11.out.trans (h12.mono HB11.out.size))
  obtain rfl := k12
  clear h12
  go_wp2
  go_ret
  exact ⟨_, by first | rfl | (simp; done), by rfl, HB12.out⟩
end Go.Proofs.YtdeapbihbhoefaaDoor

/- What ProtectProofs wants: Few, and the reference's CheckRun in one contract. -/
namespace Go.Proofs.YtdeapbihbhoefaaDoor
open Go.RowKit
open Calm (bcell Blk)
theorem Few_K {n : Nat} {l : List Int} {u : Value} {W : World} (hu : KS n l u W) : Calls Tryd.prog 39 #[u] W (KP (KV (.bool (decide (n ≤ 40 ∨ n = 4097)))) W) := by
  obtain ⟨A, c, rfl, _⟩ := hu
  by_cases h1 : n ≤ 40
  · have h1i : (n : Int) ≤ 40 := by omega
    rw [decide_eq_true (Or.inl h1)]
    clear h1
    go_enter Tryd.func39, Tryd.ntmps39
    go_wp2
    go_ret
    exact ⟨_, by first | rfl | (simp; done), rfl, Below.refl _ _⟩
  · have h1i : ¬ (n : Int) ≤ 40 := by omega
    by_cases h2 : n = 4097
    · subst h2
      go_enter Tryd.func39, Tryd.ntmps39
      go_wp2
      go_ret
      exact ⟨_, by first | rfl | (simp; done), rfl, Below.refl _ _⟩
    · have h2i : ((n : Int) == 4097) = false := by simp; omega
      rw [decide_eq_false (by omega)]
      clear h1 h2
      go_enter Tryd.func39, Tryd.ntmps39
      go_wp2
      go_ret
      exact ⟨_, by first | rfl | (simp; done), rfl, Below.refl _ _⟩
theorem crErr_three {lk ht rc : Int} {ts gs xs os : List Int} : crErr lk ht rc ts gs xs os = if firstOf [guardErr lk ht rc ts gs, sigErr xs, sigErr os] = 0 then (if os.length = xs.length then 0 else 2) else firstOf [guardErr lk ht rc ts gs, sigErr xs, sigErr os] := by
  unfold crErr runErr
  by_cases h1 : guardErr lk ht rc ts gs = 0
  · rw [h1, fo_cons0, fo_cons0]
    by_cases h2 : sigErr xs = 0
    · rw [h2, fo_cons0, fo_cons0]
      by_cases h3 : sigErr os = 0
      · rw [h3]
        by_cases h4 : os.length = xs.length
        · rw [if_pos h4]; rfl
        · rw [if_neg h4]; rfl
      · have e : firstOf [sigErr os] = sigErr os := fo_consN h3 _
        rw [show firstOf ([] : List Int) = 0 from rfl, fo_cons0, fo_consN h3, e, if_neg h3]
    · have e : firstOf [sigErr xs] = sigErr xs := fo_consN h2 _
      rw [e, fo_consN h2, fo_consN h2, if_neg h2]
  · rw [fo_consN h1, fo_consN h1, fo_consN h1, if_neg h1]
theorem rCheckRun_K {lk ht rc : Int} {ts gs xs os : List Int} {M L N N2 : Nat} {u v y : Value} {w : World} (hM : M = ts.length) (hL : L = gs.length) (hN : N = xs.length) (hN2 : N2 = os.length) (h1 : M ≤ 1000) (h2 : L ≤ 1000) (h5 : N ≤ 5000) (h6 : N2 ≤ 5000) (hu : KG lk ht rc M ts L gs u w) (hv : KS N xs v w) (hy : KS N2 os y w) :
    Calls Tryd.prog 66 #[u, v, y] w (KP (KV (.int .i64 (crR lk ht rc ts gs xs os))) w) := by
  by_cases d0 : firstOf [guardErr lk ht rc ts gs, sigErr xs, sigErr os] = 0
  · by_cases d1 : N = N2
    · have e : crErr lk ht rc ts gs xs os = 0 := by rw [crErr_three, if_pos d0, if_pos (by omega)]
      by_cases d2 : os = outsK lk ht rc ts gs xs N
      · rw [show crR lk ht rc ts gs xs os = 0 by unfold crR; rw [if_pos e, if_pos (by rw [← hN]; exact d2.symm)]]
        exact rCheckRun_s hM hL hN hN2 h1 h2 h5 h6 d0 d1 d2 hu hv hy
      · rw [show crR lk ht rc ts gs xs os = 22 by unfold crR; rw [if_pos e, if_neg (by rw [← hN]; exact fun q => d2 q.symm)]]
        exact rCheckRun_n hM hL hN hN2 h1 h2 h5 h6 d0 d1 d2 hu hv hy
    · have e : crErr lk ht rc ts gs xs os = 2 := by rw [crErr_three, if_pos d0, if_neg (by omega)]
      rw [show crR lk ht rc ts gs xs os = 2 by unfold crR; rw [if_neg (by rw [e]; decide), e]]
      exact rCheckRun_l hM hL hN hN2 h1 h2 h5 h6 d0 d1 hu hv hy
  · have e : crErr lk ht rc ts gs xs os = firstOf [guardErr lk ht rc ts gs, sigErr xs, sigErr os] := by rw [crErr_three, if_neg d0]
    rw [show crR lk ht rc ts gs xs os = firstOf [guardErr lk ht rc ts gs, sigErr xs, sigErr os] by unfold crR; rw [if_neg (by rw [e]; exact d0), e]]
    exact rCheckRun_e hM hL hN hN2 h1 h2 h5 h6 d0 hu hv hy
end Go.Proofs.YtdeapbihbhoefaaDoor

/- ProtectProofs, case 0. -/
namespace Go.Proofs.YtdeapbihbhoefaaDoor
open Go.RowKit
open Calm (bcell Blk)
set_option maxRecDepth 100000 in
set_option maxHeartbeats 8000000 in
theorem proofs_0 (lk ht rc : Int) (M L N N2 : Nat) (ts gs xs os : List Int) (u v y : Value) (w : World) (hTab : PTab w) (hM : M = ts.length) (hL : L = gs.length) (hN : N = xs.length) (hN2 : N2 = os.length) (b0 : ¬ (M ≤ 9 ∧ L ≤ 9)) (hu : KG lk ht rc M ts L gs u w) (hv : KS N xs v w) (hy : KS N2 os y w) :
    Calls Tryd.prog 11 #[u, v, y] w fun r w' => r = .returned (.bool true) ∧ Below w.heap.size w w' := by
  obtain ⟨A1, c1, A2, c2, rfl, hT, hG⟩ := hu
  obtain ⟨A3, c3, rfl, hP⟩ := hv
  obtain ⟨A4, c4, rfl, hO⟩ := hy
  have HU := Lib.hid (show KG lk ht rc M ts L gs (.agg #[(.int .i64 (lk)), (.int .i64 (ht)), .slice A1 M c1, (.int .i64 (rc)), .slice A2 L c2]) w from ⟨_, _, _, _, rfl, hT, hG⟩)
  have HX := Lib.hid (show KS N xs (.slice A3 N c3) w from ⟨_, _, rfl, hP⟩)
  have HO := Lib.hid (show KS N2 os (.slice A4 N2 c4) w from ⟨_, _, rfl, hO⟩)
  have HSH : Hid (∀ W, KG lk ht rc M ts L gs (.agg #[(.int .i64 (lk)), (.int .i64 (ht)), .slice A1 M c1, (.int .i64 (rc)), .slice A2 L c2]) W → Calls Tryd.prog 13 #[.agg #[(.int .i64 (lk)), (.int .i64 (ht)), .slice A1 M c1, (.int .i64 (rc)), .slice A2 L c2]] W (KP (KV (.bool false)) W)) := Lib.hid (fun W q => by have := Short_K q; rwa [decide_eq_false b0] at this)
  have HTab := Lib.hid hTab
  clear hTab hM hL hN hN2 hT hG hP hO b0
  go_enter Tryd.func11, Tryd.ntmps11
  have HB0 := Lib.hid (Below.refl w.heap.size w)
  go_wp2_with (go_at_call 13; refine name_calls ?_; intro w1 e1; refine Hid.out ?_)
  unfold Hid
  have h1 : Below w.heap.size w w1 := by rw [e1]; exact bel
  have HB1 := Lib.hid (HB0.out.trans (h1.mono HB0.out.size))
  have bg_1 := Lib.hid (show Blk w1 w.heap.size #[(.int .i64 (lk)), (.int .i64 (ht)), .slice A1 M c1, (.int .i64 (rc)), .slice A2 L c2] from by rw [e1]; (repeat (first | ((with_reducible refine Blk.at_ ?_); focus (first | rfl | (simp; done) | (simp; omega))) | (with_reducible refine Blk.alloc ?_ _) | (with_reducible refine Blk.below ?_ (by with_reducible assumption)) | (with_reducible refine Blk.drew ?_))))
  clear e1 h1
  refine (HSH.out _ (KG.st _ _ _ _ _ _ _ _ _ _ HU.out HB1.out)).mono ?_
  rintro r w2 ⟨v2, rfl, k2, h2⟩
  have bg_2 := Lib.hid (bg_1.out.below h2)
  have HB2 := Lib.hid (HB1.out.trans (h2.mono HB1.out.size))
  obtain rfl := k2
  clear h2
  have ug_rw2 := Lib.hid (KG.st _ _ _ _ _ _ _ _ _ _ HU.out HB2.out)
  have ux_rw2 := Lib.hid (KS.st _ _ _ _ _ HX.out HB2.out)
  have uo_rw2 := Lib.hid (KS.st _ _ _ _ _ HO.out HB2.out)
  have HTabw2 := Lib.hid (HTab.out.below HB2.out)
  have HZw2 := Lib.hid (Below.refl w2.heap.size w2)
  clear HU HX HO HTab
  go_wp2_with (go_at_call 15; refine name_calls ?_; intro w3 e3; refine Hid.out ?_)
  unfold Hid
  have h3 : Below w2.heap.size w2 w3 := by rw [e3]; exact bel
  have HB3 := Lib.hid (HZw2.out.trans (h3.mono HZw2.out.size))
  clear e3 h3
  refine (awake_any _ (HTabw2.out.below HB3.out)).mono ?_
  rintro r w4 ⟨rfl, h4⟩
  have HB4 := Lib.hid (HB3.out.trans (h4.mono HB3.out.size))
  clear h4
  go_wp2
  go_ret
  exact ⟨by first | rfl | (simp; done), HB2.out.trans (HB4.out.mono HB2.out.size)⟩
end Go.Proofs.YtdeapbihbhoefaaDoor

/- ProtectProofs, case 1. -/
namespace Go.Proofs.YtdeapbihbhoefaaDoor
open Go.RowKit
open Calm (bcell Blk)
set_option maxRecDepth 100000 in
set_option maxHeartbeats 8000000 in
theorem proofs_1 (lk ht rc : Int) (M L N N2 : Nat) (ts gs xs os : List Int) (u v y : Value) (w : World) (hTab : PTab w) (hM : M = ts.length) (hL : L = gs.length) (hN : N = xs.length) (hN2 : N2 = os.length) (b0 : M ≤ 9 ∧ L ≤ 9) (b1 : ¬ (N ≤ 40 ∨ N = 4097)) (hu : KG lk ht rc M ts L gs u w) (hv : KS N xs v w) (hy : KS N2 os y w) :
    Calls Tryd.prog 11 #[u, v, y] w fun r w' => r = .returned (.bool true) ∧ Below w.heap.size w w' := by
  obtain ⟨A1, c1, A2, c2, rfl, hT, hG⟩ := hu
  obtain ⟨A3, c3, rfl, hP⟩ := hv
  obtain ⟨A4, c4, rfl, hO⟩ := hy
  have HU := Lib.hid (show KG lk ht rc M ts L gs (.agg #[(.int .i64 (lk)), (.int .i64 (ht)), .slice A1 M c1, (.int .i64 (rc)), .slice A2 L c2]) w from ⟨_, _, _, _, rfl, hT, hG⟩)
  have HX := Lib.hid (show KS N xs (.slice A3 N c3) w from ⟨_, _, rfl, hP⟩)
  have HO := Lib.hid (show KS N2 os (.slice A4 N2 c4) w from ⟨_, _, rfl, hO⟩)
  have HSH : Hid (∀ W, KG lk ht rc M ts L gs (.agg #[(.int .i64 (lk)), (.int .i64 (ht)), .slice A1 M c1, (.int .i64 (rc)), .slice A2 L c2]) W → Calls Tryd.prog 13 #[.agg #[(.int .i64 (lk)), (.int .i64 (ht)), .slice A1 M c1, (.int .i64 (rc)), .slice A2 L c2]] W (KP (KV (.bool true)) W)) := Lib.hid (fun W q => by have := Short_K q; rwa [decide_eq_true b0] at this)
  have HF1 : Hid (∀ {x : Value} (W : World), KS N xs x W → Calls Tryd.prog 39 #[x] W (KP (KV (.bool false)) W)) := Lib.hid (fun W q => by have := Few_K q; rwa [decide_eq_false b1] at this)
  have HTab := Lib.hid hTab
  clear hTab hM hL hN hN2 hT hG hP hO b1
  go_enter Tryd.func11, Tryd.ntmps11
  have HB0 := Lib.hid (Below.refl w.heap.size w)
  go_wp2_with (go_at_call 13; refine name_calls ?_; intro w1 e1; refine Hid.out ?_)
  unfold Hid
  have h1 : Below w.heap.size w w1 := by rw [e1]; exact bel
  have HB1 := Lib.hid (HB0.out.trans (h1.mono HB0.out.size))
  have bg_1 := Lib.hid (show Blk w1 w.heap.size #[(.int .i64 (lk)), (.int .i64 (ht)), .slice A1 M c1, (.int .i64 (rc)), .slice A2 L c2] from by rw [e1]; (repeat (first | ((with_reducible refine Blk.at_ ?_); focus (first | rfl | (simp; done) | (simp; omega))) | (with_reducible refine Blk.alloc ?_ _) | (with_reducible refine Blk.below ?_ (by with_reducible assumption)) | (with_reducible refine Blk.drew ?_))))
  clear e1 h1
  refine (HSH.out _ (KG.st _ _ _ _ _ _ _ _ _ _ HU.out HB1.out)).mono ?_
  rintro r w2 ⟨v2, rfl, k2, h2⟩
  have bg_2 := Lib.hid (bg_1.out.below h2)
  have HB2 := Lib.hid (HB1.out.trans (h2.mono HB1.out.size))
  obtain rfl := k2
  clear h2
  have ug_rw2 := Lib.hid (KG.st _ _ _ _ _ _ _ _ _ _ HU.out HB2.out)
  have ux_rw2 := Lib.hid (KS.st _ _ _ _ _ HX.out HB2.out)
  have uo_rw2 := Lib.hid (KS.st _ _ _ _ _ HO.out HB2.out)
  have HTabw2 := Lib.hid (HTab.out.below HB2.out)
  have HZw2 := Lib.hid (Below.refl w2.heap.size w2)
  clear HU HX HO HTab
  go_wp2_with (go_at_call 39; refine name_calls ?_; intro w3 e3; refine Hid.out ?_)
  unfold Hid
  have h3 : Below w2.heap.size w2 w3 := by rw [e3]; exact bel
  have HB3 := Lib.hid (HZw2.out.trans (h3.mono HZw2.out.size))
  clear e3 h3
  refine (HF1.out _ (KS.st _ _ _ _ _ ux_rw2.out HB3.out)).mono ?_
  rintro r w4 ⟨v4, rfl, k4, h4⟩
  have HB4 := Lib.hid (HB3.out.trans (h4.mono HB3.out.size))
  obtain rfl := k4
  clear h4
  go_wp2_with (go_at_call 15; refine name_calls ?_; intro w5 e5; refine Hid.out ?_)
  unfold Hid
  have h5 : Below w4.heap.size w4 w5 := by rw [e5]; exact bel
  have HB5 := Lib.hid (HB4.out.trans (h5.mono HB4.out.size))
  clear e5 h5
  refine (awake_any _ (HTabw2.out.below HB5.out)).mono ?_
  rintro r w6 ⟨rfl, h6⟩
  have HB6 := Lib.hid (HB5.out.trans (h6.mono HB5.out.size))
  clear h6
  go_wp2
  go_ret
  exact ⟨by first | rfl | (simp; done), HB2.out.trans (HB6.out.mono HB2.out.size)⟩
end Go.Proofs.YtdeapbihbhoefaaDoor

/- ProtectProofs, case 2. -/
namespace Go.Proofs.YtdeapbihbhoefaaDoor
open Go.RowKit
open Calm (bcell Blk)
set_option maxRecDepth 100000 in
set_option maxHeartbeats 8000000 in
theorem proofs_2 (lk ht rc : Int) (M L N N2 : Nat) (ts gs xs os : List Int) (u v y : Value) (w : World) (hTab : PTab w) (hM : M = ts.length) (hL : L = gs.length) (hN : N = xs.length) (hN2 : N2 = os.length) (b0 : M ≤ 9 ∧ L ≤ 9) (b1 : N ≤ 40 ∨ N = 4097) (b2 : ¬ (N2 ≤ 40 ∨ N2 = 4097)) (hu : KG lk ht rc M ts L gs u w) (hv : KS N xs v w) (hy : KS N2 os y w) :
    Calls Tryd.prog 11 #[u, v, y] w fun r w' => r = .returned (.bool true) ∧ Below w.heap.size w w' := by
  obtain ⟨A1, c1, A2, c2, rfl, hT, hG⟩ := hu
  obtain ⟨A3, c3, rfl, hP⟩ := hv
  obtain ⟨A4, c4, rfl, hO⟩ := hy
  have HU := Lib.hid (show KG lk ht rc M ts L gs (.agg #[(.int .i64 (lk)), (.int .i64 (ht)), .slice A1 M c1, (.int .i64 (rc)), .slice A2 L c2]) w from ⟨_, _, _, _, rfl, hT, hG⟩)
  have HX := Lib.hid (show KS N xs (.slice A3 N c3) w from ⟨_, _, rfl, hP⟩)
  have HO := Lib.hid (show KS N2 os (.slice A4 N2 c4) w from ⟨_, _, rfl, hO⟩)
  have HSH : Hid (∀ W, KG lk ht rc M ts L gs (.agg #[(.int .i64 (lk)), (.int .i64 (ht)), .slice A1 M c1, (.int .i64 (rc)), .slice A2 L c2]) W → Calls Tryd.prog 13 #[.agg #[(.int .i64 (lk)), (.int .i64 (ht)), .slice A1 M c1, (.int .i64 (rc)), .slice A2 L c2]] W (KP (KV (.bool true)) W)) := Lib.hid (fun W q => by have := Short_K q; rwa [decide_eq_true b0] at this)
  have HF1 : Hid (∀ {x : Value} (W : World), KS N xs x W → Calls Tryd.prog 39 #[x] W (KP (KV (.bool true)) W)) := Lib.hid (fun W q => by have := Few_K q; rwa [decide_eq_true b1] at this)
  have HF2 : Hid (∀ {x : Value} (W : World), KS N2 os x W → Calls Tryd.prog 39 #[x] W (KP (KV (.bool false)) W)) := Lib.hid (fun W q => by have := Few_K q; rwa [decide_eq_false b2] at this)
  have HTab := Lib.hid hTab
  clear hTab hM hL hN hN2 hT hG hP hO b1 b2
  go_enter Tryd.func11, Tryd.ntmps11
  have HB0 := Lib.hid (Below.refl w.heap.size w)
  go_wp2_with (go_at_call 13; refine name_calls ?_; intro w1 e1; refine Hid.out ?_)
  unfold Hid
  have h1 : Below w.heap.size w w1 := by rw [e1]; exact bel
  have HB1 := Lib.hid (HB0.out.trans (h1.mono HB0.out.size))
  have bg_1 := Lib.hid (show Blk w1 w.heap.size #[(.int .i64 (lk)), (.int .i64 (ht)), .slice A1 M c1, (.int .i64 (rc)), .slice A2 L c2] from by rw [e1]; (repeat (first | ((with_reducible refine Blk.at_ ?_); focus (first | rfl | (simp; done) | (simp; omega))) | (with_reducible refine Blk.alloc ?_ _) | (with_reducible refine Blk.below ?_ (by with_reducible assumption)) | (with_reducible refine Blk.drew ?_))))
  clear e1 h1
  refine (HSH.out _ (KG.st _ _ _ _ _ _ _ _ _ _ HU.out HB1.out)).mono ?_
  rintro r w2 ⟨v2, rfl, k2, h2⟩
  have bg_2 := Lib.hid (bg_1.out.below h2)
  have HB2 := Lib.hid (HB1.out.trans (h2.mono HB1.out.size))
  obtain rfl := k2
  clear h2
  have ug_rw2 := Lib.hid (KG.st _ _ _ _ _ _ _ _ _ _ HU.out HB2.out)
  have ux_rw2 := Lib.hid (KS.st _ _ _ _ _ HX.out HB2.out)
  have uo_rw2 := Lib.hid (KS.st _ _ _ _ _ HO.out HB2.out)
  have HTabw2 := Lib.hid (HTab.out.below HB2.out)
  have HZw2 := Lib.hid (Below.refl w2.heap.size w2)
  clear HU HX HO HTab
  go_wp2_with (go_at_call 39; refine name_calls ?_; intro w3 e3; refine Hid.out ?_)
  unfold Hid
  have h3 : Below w2.heap.size w2 w3 := by rw [e3]; exact bel
  have HB3 := Lib.hid (HZw2.out.trans (h3.mono HZw2.out.size))
  clear e3 h3
  refine (HF1.out _ (KS.st _ _ _ _ _ ux_rw2.out HB3.out)).mono ?_
  rintro r w4 ⟨v4, rfl, k4, h4⟩
  have HB4 := Lib.hid (HB3.out.trans (h4.mono HB3.out.size))
  obtain rfl := k4
  clear h4
  go_wp2_with (go_at_call 39; refine name_calls ?_; intro w5 e5; refine Hid.out ?_)
  unfold Hid
  have h5 : Below w4.heap.size w4 w5 := by rw [e5]; exact bel
  have HB5 := Lib.hid (HB4.out.trans (h5.mono HB4.out.size))
  clear e5 h5
  refine (HF2.out _ (KS.st _ _ _ _ _ uo_rw2.out HB5.out)).mono ?_
  rintro r w6 ⟨v6, rfl, k6, h6⟩
  have HB6 := Lib.hid (HB5.out.trans (h6.mono HB5.out.size))
  obtain rfl := k6
  clear h6
  go_wp2_with (go_at_call 15; refine name_calls ?_; intro w7 e7; refine Hid.out ?_)
  unfold Hid
  have h7 : Below w6.heap.size w6 w7 := by rw [e7]; exact bel
  have HB7 := Lib.hid (HB6.out.trans (h7.mono HB6.out.size))
  clear e7 h7
  refine (awake_any _ (HTabw2.out.below HB7.out)).mono ?_
  rintro r w8 ⟨rfl, h8⟩
  have HB8 := Lib.hid (HB7.out.trans (h8.mono HB7.out.size))
  clear h8
  go_wp2
  go_ret
  exact ⟨by first | rfl | (simp; done), HB2.out.trans (HB8.out.mono HB2.out.size)⟩
end Go.Proofs.YtdeapbihbhoefaaDoor

/- ProtectProofs, case m. -/
namespace Go.Proofs.YtdeapbihbhoefaaDoor
open Go.RowKit
open Calm (bcell Blk)
set_option maxRecDepth 100000 in
set_option maxHeartbeats 8000000 in
theorem proofs_m (lk ht rc : Int) (M L N N2 : Nat) (ts gs xs os : List Int) (u v y : Value) (w : World) (hTab : PTab w) (hM : M = ts.length) (hL : L = gs.length) (hN : N = xs.length) (hN2 : N2 = os.length) (b0 : M ≤ 9 ∧ L ≤ 9) (b1 : N ≤ 40 ∨ N = 4097) (b2 : N2 ≤ 40 ∨ N2 = 4097) (hu : KG lk ht rc M ts L gs u w) (hv : KS N xs v w) (hy : KS N2 os y w) :
    Calls Tryd.prog 11 #[u, v, y] w fun r w' => r = .returned (.bool true) ∧ Below w.heap.size w w' := by
  obtain ⟨A1, c1, A2, c2, rfl, hT, hG⟩ := hu
  obtain ⟨A3, c3, rfl, hP⟩ := hv
  obtain ⟨A4, c4, rfl, hO⟩ := hy
  have HU := Lib.hid (show KG lk ht rc M ts L gs (.agg #[(.int .i64 (lk)), (.int .i64 (ht)), .slice A1 M c1, (.int .i64 (rc)), .slice A2 L c2]) w from ⟨_, _, _, _, rfl, hT, hG⟩)
  have HX := Lib.hid (show KS N xs (.slice A3 N c3) w from ⟨_, _, rfl, hP⟩)
  have HO := Lib.hid (show KS N2 os (.slice A4 N2 c4) w from ⟨_, _, rfl, hO⟩)
  have HSH : Hid (∀ W, KG lk ht rc M ts L gs (.agg #[(.int .i64 (lk)), (.int .i64 (ht)), .slice A1 M c1, (.int .i64 (rc)), .slice A2 L c2]) W → Calls Tryd.prog 13 #[.agg #[(.int .i64 (lk)), (.int .i64 (ht)), .slice A1 M c1, (.int .i64 (rc)), .slice A2 L c2]] W (KP (KV (.bool true)) W)) := Lib.hid (fun W q => by have := Short_K q; rwa [decide_eq_true b0] at this)
  have HF1 : Hid (∀ {x : Value} (W : World), KS N xs x W → Calls Tryd.prog 39 #[x] W (KP (KV (.bool true)) W)) := Lib.hid (fun W q => by have := Few_K q; rwa [decide_eq_true b1] at this)
  have HF2 : Hid (∀ {x : Value} (W : World), KS N2 os x W → Calls Tryd.prog 39 #[x] W (KP (KV (.bool true)) W)) := Lib.hid (fun W q => by have := Few_K q; rwa [decide_eq_true b2] at this)
  obtain ⟨b01, b02⟩ := b0
  have hn5 : N ≤ 5000 := by omega
  have hn6 : N2 ≤ 5000 := by omega
  have HGU : Hid (∀ {x : Value} (W : World), KG lk ht rc M ts L gs x W → Calls Tryd.prog 17 #[x] W (KP (KGI lk ht rc M ts L gs) W)) := Lib.hid (fun W q => guard_K hM hL (by omega) (by omega) q)
  have HI1 : Hid (∀ {x : Value} (W : World), KS N xs x W → Calls Tryd.prog 41 #[x] W (KP (KSI N xs) W)) := Lib.hid (fun W q => ints_K hN (by omega) q)
  have HI2 : Hid (∀ {x : Value} (W : World), KS N2 os x W → Calls Tryd.prog 41 #[x] W (KP (KSI N2 os) W)) := Lib.hid (fun W q => ints_K hN2 (by omega) q)
  obtain ⟨R, hR⟩ : ∃ R, R = crR lk ht rc ts gs xs os := ⟨_, rfl⟩
  have HCR : Hid (∀ {a y z : Value} (W : World), Lim W → KG lk ht rc M ts L gs a W → KS N xs y W → KS N2 os z W → Calls Tryd.prog 65 #[a, y, z] W (KP (KV (.int .i64 (R))) W)) := Lib.hid (fun W q0 q q2 q3 => by rw [hR]; exact cCheckRun hM hL hN hN2 (by omega) (by omega) hn5 hn6 q0 q q2 q3)
  have HRC : Hid (∀ {a y z : Value} (W : World), KG lk ht rc M ts L gs a W → KS N xs y W → KS N2 os z W → Calls Tryd.prog 66 #[a, y, z] W (KP (KV (.int .i64 (R))) W)) := Lib.hid (fun W q q2 q3 => by rw [hR]; exact rCheckRun_K hM hL hN hN2 (by omega) (by omega) hn5 hn6 q q2 q3)
  have HTab := Lib.hid hTab
  clear hTab hM hL hN hN2 hT hG hP hO b1 b2 hR hn5 hn6
  go_enter Tryd.func11, Tryd.ntmps11
  have HB0 := Lib.hid (Below.refl w.heap.size w)
  go_wp2_with (go_at_call 13; refine name_calls ?_; intro w1 e1; refine Hid.out ?_)
  unfold Hid
  have h1 : Below w.heap.size w w1 := by rw [e1]; exact bel
  have HB1 := Lib.hid (HB0.out.trans (h1.mono HB0.out.size))
  have bg_1 := Lib.hid (show Blk w1 w.heap.size #[(.int .i64 (lk)), (.int .i64 (ht)), .slice A1 M c1, (.int .i64 (rc)), .slice A2 L c2] from by rw [e1]; (repeat (first | ((with_reducible refine Blk.at_ ?_); focus (first | rfl | (simp; done) | (simp; omega))) | (with_reducible refine Blk.alloc ?_ _) | (with_reducible refine Blk.below ?_ (by with_reducible assumption)) | (with_reducible refine Blk.drew ?_))))
  clear e1 h1
  refine (HSH.out _ (KG.st _ _ _ _ _ _ _ _ _ _ HU.out HB1.out)).mono ?_
  rintro r w2 ⟨v2, rfl, k2, h2⟩
  have bg_2 := Lib.hid (bg_1.out.below h2)
  have HB2 := Lib.hid (HB1.out.trans (h2.mono HB1.out.size))
  obtain rfl := k2
  clear h2
  have ug_rw2 := Lib.hid (KG.st _ _ _ _ _ _ _ _ _ _ HU.out HB2.out)
  have ux_rw2 := Lib.hid (KS.st _ _ _ _ _ HX.out HB2.out)
  have uo_rw2 := Lib.hid (KS.st _ _ _ _ _ HO.out HB2.out)
  have HTabw2 := Lib.hid (HTab.out.below HB2.out)
  have HZw2 := Lib.hid (Below.refl w2.heap.size w2)
  clear HU HX HO HTab
  go_wp2_with (go_at_call 39; refine name_calls ?_; intro w3 e3; refine Hid.out ?_)
  unfold Hid
  have h3 : Below w2.heap.size w2 w3 := by rw [e3]; exact bel
  have HB3 := Lib.hid (HZw2.out.trans (h3.mono HZw2.out.size))
  clear e3 h3
  refine (HF1.out _ (KS.st _ _ _ _ _ ux_rw2.out HB3.out)).mono ?_
  rintro r w4 ⟨v4, rfl, k4, h4⟩
  have HB4 := Lib.hid (HB3.out.trans (h4.mono HB3.out.size))
  obtain rfl := k4
  clear h4
  go_wp2_with (go_at_call 39; refine name_calls ?_; intro w5 e5; refine Hid.out ?_)
  unfold Hid
  have h5 : Below w4.heap.size w4 w5 := by rw [e5]; exact bel
  have HB5 := Lib.hid (HB4.out.trans (h5.mono HB4.out.size))
  clear e5 h5
  refine (HF2.out _ (KS.st _ _ _ _ _ uo_rw2.out HB5.out)).mono ?_
  rintro r w6 ⟨v6, rfl, k6, h6⟩
  have HB6 := Lib.hid (HB5.out.trans (h6.mono HB5.out.size))
  obtain rfl := k6
  clear h6
  have ug_rw6 := Lib.hid (KG.st _ _ _ _ _ _ _ _ _ _ ug_rw2.out HB6.out)
  have ux_rw6 := Lib.hid (KS.st _ _ _ _ _ ux_rw2.out HB6.out)
  have uo_rw6 := Lib.hid (KS.st _ _ _ _ _ uo_rw2.out HB6.out)
  have bg_rw6 := Lib.hid (bg_2.out.below HB6.out)
  have HTabw6 := Lib.hid (HTabw2.out.below HB6.out)
  have HOw6 := Lib.hid (HB2.out.trans (HB6.out.mono HB2.out.size))
  have HZw6 := Lib.hid (Below.refl w6.heap.size w6)
  clear HB6 ug_rw2 ux_rw2 uo_rw2 bg_2 HTabw2 HB2
  obtain ⟨fbg_0, fbg_1, fbg_2, fbg_3, fbg_4, fbg_l, -⟩ := (bg_rw6.out.below HZw6.out).o5
  go_wp2
  refine Rel.region3 14 (by kernel_rfl) (by kernel_rfl) (by kernel_rfl) ?_
  simp only [List.take_succ_cons, List.take_zero, List.drop_succ_cons, List.drop_zero, List.filterMap_cons, List.filterMap_nil]
  (refine Rel.opz (hn := ?_); (try simp only [List.nil_append, List.cons_append]))
  refine Rel.callK 17 (KGI lk ht rc M ts L gs) ((KGI.ik _ _ _ _ _ _ _).st) (Rel.gno rfl) ?_ ?_
  · intro a W hb hd hbase
    have q1 : a.eval (.tmp 21) = _ := (Rel.dep_at hd 0 rfl rfl)
    refine ⟨#[a.eval (.tmp 21)], ?_, by rw [q1]; exact HGU.out _ (KG.st _ _ _ _ _ _ _ _ _ _ ug_rw6.out (HZw6.out.trans (hb.mono HZw6.out.size)))⟩
    clear hd hbase hb
    go_simp
    (first | done | rfl | (refine ⟨?_, ?_⟩ <;> rfl))
  (try simp only [List.nil_append, List.cons_append])
  (refine Rel.opz (hn := ?_); (try simp only [List.nil_append, List.cons_append]))
  refine Rel.callK 41 (KSI N xs) ((KSI.ik _ _).st) (Rel.gno rfl) ?_ ?_
  · intro a W hb hd hbase
    have q1 : a.eval (.tmp 23) = _ := (Rel.dep_at hd 2 rfl rfl)
    refine ⟨#[a.eval (.tmp 23)], ?_, by rw [q1]; exact HI1.out _ (KS.st _ _ _ _ _ ux_rw6.out (HZw6.out.trans (hb.mono HZw6.out.size)))⟩
    clear hd hbase hb
    go_simp
    (first | done | rfl | (refine ⟨?_, ?_⟩ <;> rfl))
  (try simp only [List.nil_append, List.cons_append])
  (refine Rel.opz (hn := ?_); (try simp only [List.nil_append, List.cons_append]))
  refine Rel.callK 41 (KSI N2 os) ((KSI.ik _ _).st) (Rel.gno rfl) ?_ ?_
  · intro a W hb hd hbase
    have q1 : a.eval (.tmp 25) = _ := (Rel.dep_at hd 4 rfl rfl)
    refine ⟨#[a.eval (.tmp 25)], ?_, by rw [q1]; exact HI2.out _ (KS.st _ _ _ _ _ uo_rw6.out (HZw6.out.trans (hb.mono HZw6.out.size)))⟩
    clear hd hbase hb
    go_simp
    (first | done | rfl | (refine ⟨?_, ?_⟩ <;> rfl))
  (try simp only [List.nil_append, List.cons_append])
  refine Rel.callK 65 (KV (.int .i64 (R))) (KV.st _) (Rel.gno rfl) ?_ ?_
  · intro a W hb hd hbase
    refine ⟨#[a.eval (.tmp 22), a.eval (.tmp 24), a.eval (.tmp 26)], ?_, HCR.out _ (HTabw6.out.below (HZw6.out.trans (hb.mono HZw6.out.size))).lim (Rel.dep_at hd 1 rfl rfl).kg (Rel.dep_at hd 3 rfl rfl).ks (Rel.dep_at hd 5 rfl rfl).ks⟩
    clear hd hbase hb
    go_simp
    (first | done | rfl | (refine ⟨?_, ?_⟩ <;> rfl))
  (try simp only [List.nil_append, List.cons_append])
  iterate 3 (refine Rel.opz (hn := ?_); (try simp only [List.nil_append, List.cons_append]))
  refine Rel.callK 66 (KV (.int .i64 (R))) (KV.st _) (Rel.gno rfl) ?_ ?_
  · intro a W hb hd hbase
    have q1 : a.eval (.tmp 28) = _ := (Rel.dep_at hd 7 rfl rfl)
    have q2 : a.eval (.tmp 29) = _ := (Rel.dep_at hd 8 rfl rfl)
    have q3 : a.eval (.tmp 30) = _ := (Rel.dep_at hd 9 rfl rfl)
    refine ⟨#[a.eval (.tmp 28), a.eval (.tmp 29), a.eval (.tmp 30)], ?_, by rw [q1, q2, q3]; exact HRC.out _ (KG.st _ _ _ _ _ _ _ _ _ _ ug_rw6.out (HZw6.out.trans (hb.mono HZw6.out.size))) (KS.st _ _ _ _ _ ux_rw6.out (HZw6.out.trans (hb.mono HZw6.out.size))) (KS.st _ _ _ _ _ uo_rw6.out (HZw6.out.trans (hb.mono HZw6.out.size)))⟩
    clear hd hbase hb
    go_simp
    (first | done | rfl | (refine ⟨?_, ?_⟩ <;> rfl))
  (try simp only [List.nil_append, List.cons_append])
  iterate 2 (refine Rel.opz (hn := ?_); (try simp only [List.nil_append, List.cons_append]))
  refine Rel.callK 15 (KV (.bool true)) (KV.st _) (Rel.gyes 12 true _ rfl rfl rfl) ?_ ?_
  · intro a W hb hd hbase
    refine ⟨#[], ?_, awake_K _ (HTabw6.out.below (HZw6.out.trans (hb.mono HZw6.out.size)))⟩
    clear hd hbase hb
    go_simp
    (first | done | rfl | (refine ⟨?_, ?_⟩ <;> rfl))
  (try simp only [List.nil_append, List.cons_append])
  refine Rel.done3 ?_
  intro x w7 h7 hx
  simp only [Rel.facts, Nat.zero_add, Nat.reduceAdd] at hx
  clear fbg_0 fbg_1 fbg_2 fbg_3 fbg_4 fbg_l
  obtain ⟨e0, _, e2, _, e4, _, e6, e7, e8, e9, e10, e11, e12, e13, _⟩ := hx
  have e6 : x 6 = _ := e6
  have e10 : x 10 = _ := e10
  have e13 : x 13 = _ := e13
  simp only [Rel.fill, Nat.zero_add, Nat.reduceAdd, e0, e2, e4, e6, e7, e8, e9, e10, e11, e12, e13]
  simp only [Act.put, List.setIfInBounds_toArray, List.set_cons_zero, List.set_cons_succ]
  clear e0 e2 e4 e6 e7 e8 e9 e10 e11 e12 e13
  have HB7 := Lib.hid (HZw6.out.trans (h7.mono HZw6.out.size))
  clear h7
  go_wp2
  go_ret
  exact ⟨by first | rfl | (simp; done), HOw6.out.trans (HB7.out.mono HOw6.out.size)⟩
end Go.Proofs.YtdeapbihbhoefaaDoor

/- ProtectProofs answers yes, whatever its arguments. -/
namespace Go.Proofs.YtdeapbihbhoefaaDoor
open Go.RowKit
open Calm (bcell Blk)
theorem ProtectProofs_any (lk ht rc : Int) (M L N N2 : Nat) (ts gs xs os : List Int) (u v y : Value) (w : World) (hTab : PTab w) (hM : M = ts.length) (hL : L = gs.length) (hN : N = xs.length) (hN2 : N2 = os.length) (hu : KG lk ht rc M ts L gs u w) (hv : KS N xs v w) (hy : KS N2 os y w) :
    Calls Tryd.prog 11 #[u, v, y] w fun r w' => r = .returned (.bool true) ∧ Below w.heap.size w w' := by
  by_cases b0 : M ≤ 9 ∧ L ≤ 9
  · by_cases b1 : N ≤ 40 ∨ N = 4097
    · by_cases b2 : N2 ≤ 40 ∨ N2 = 4097
      · exact proofs_m lk ht rc M L N N2 ts gs xs os u v y w hTab hM hL hN hN2 b0 b1 b2 hu hv hy
      · exact proofs_2 lk ht rc M L N N2 ts gs xs os u v y w hTab hM hL hN hN2 b0 b1 b2 hu hv hy
    · exact proofs_1 lk ht rc M L N N2 ts gs xs os u v y w hTab hM hL hN hN2 b0 b1 hu hv hy
  · exact proofs_0 lk ht rc M L N N2 ts gs xs os u v y w hTab hM hL hN hN2 b0 hu hv hy
end Go.Proofs.YtdeapbihbhoefaaDoor
