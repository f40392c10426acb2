/- Part 24 of the texts of the claim: LSe_cl, LSe_cg, LSeAll, SeRow. -/
import Derived.Test.YtdeapbihbhoefaaDoorSe22
import Derived.Test.YtdeapbihbhoefaaDoorSe23
import Derived.Test.YtdeapbihbhoefaaDoorSe15

/- ProtectSearches, case cl. -/
namespace Go.Proofs.YtdeapbihbhoefaaDoor
open Go.RowKit
open Calm (bcell Blk)
set_option maxRecDepth 100000 in
set_option maxHeartbeats 8000000 in
theorem searches_cl (lk ht rc n : Int) (M L N : Nat) (ts gs xs : List Int) (u v : Value) (w : World) (hTab : PTab w) (hM : M = ts.length) (hL : L = gs.length) (hN : N = xs.length) (b0 : M ≤ 9 ∧ L ≤ 9) (b1 : N ≤ 7) (b2 : n ≤ 4) (b3 : ¬ loudErr lk ht rc ts gs xs n = 0) (b4 : ¬ sigErr xs = 0) (hu : KG lk ht rc M ts L gs u w) (hv : KS N xs v w) :
    Calls Tryd.prog 7 #[u, v, (.int .i64 n)] w fun r w' => r = .returned (.bool true) ∧ Below w.heap.size w w' := by
  obtain ⟨A1, c1, A2, c2, rfl, hT, hG⟩ := hu
  obtain ⟨A3, c3, rfl, hP⟩ := hv
  have HU := Lib.hid (show KG lk ht rc M ts L gs (.agg #[(.int .i64 lk), (.int .i64 ht), .slice A1 M c1, (.int .i64 rc), .slice A2 L c2]) w from ⟨_, _, _, _, rfl, hT, hG⟩)
  have HX := Lib.hid (show KS N xs (.slice A3 N c3) w from ⟨_, _, rfl, hP⟩)
  have HSH : Hid (∀ W, KG lk ht rc M ts L gs (.agg #[(.int .i64 lk), (.int .i64 ht), .slice A1 M c1, (.int .i64 rc), .slice A2 L c2]) W → Calls Tryd.prog 13 #[.agg #[(.int .i64 lk), (.int .i64 ht), .slice A1 M c1, (.int .i64 rc), .slice A2 L c2]] W (KP (KV (.bool true)) W)) := Lib.hid (fun W q => by have := Short_K q; rwa [decide_eq_true b0] at this)
  have hlen : (N : Int) ≤ 7 := by omega
  have hd7 : decide ((7 : Int) < (N : Int)) = false := decide_eq_false (by omega)
  have hd4 : decide ((4 : Int) < n) = false := decide_eq_false (by omega)
  obtain ⟨b01, b02⟩ := b0
  have hEE := loudErr_three lk ht rc ts gs xs n
  obtain ⟨GE, hGE⟩ : ∃ GE, GE = guardErr lk ht rc ts gs := ⟨_, rfl⟩
  obtain ⟨LE, hLE⟩ : ∃ LE, LE = firstOf [someErr (xs.length : Int) 6, ascErr xs (-2048) 2048] := ⟨_, rfl⟩
  obtain ⟨RE, hRE⟩ : ∃ RE, RE = rangeErr n 0 6 := ⟨_, rfl⟩
  obtain ⟨SE, hSE⟩ : ∃ SE, SE = sigErr xs := ⟨_, rfl⟩
  have hGG := hGE
  have HGU : Hid (∀ {x : Value} (W : World), KG lk ht rc M ts L gs x W → Calls Tryd.prog 17 #[x] W (KP (KGI lk ht rc M ts L gs) W)) := Lib.hid (fun W q => guard_K hM hL (by omega) (by omega) q)
  have HIN : Hid (∀ {x : Value} (W : World), KS N xs x W → Calls Tryd.prog 41 #[x] W (KP (KSI N xs) W)) := Lib.hid (fun W q => ints_K hN (by omega) q)
  have HCG : Hid (∀ {x : Value} (W : World), KG lk ht rc M ts L gs x W → Calls Tryd.prog 18 #[x] W (KP (KV (.int .i64 GE)) W)) := Lib.hid (fun W q => by rw [hGE]; exact rGuard_K hM hL (by omega) (by omega) q)
  have HCL : Hid (∀ {x : Value} (W : World), KS N xs x W → Calls Tryd.prog 57 #[x] W (KP (KV (.int .i64 LE)) W)) := Lib.hid (fun W q => by rw [hLE]; exact rCheckLevels_K hN (by omega) q)
  have HCR : Hid (∀ (W : World), Calls Tryd.prog 58 #[(.int .i64 n), (.int .i64 0), (.int .i64 6)] W (KP (KV (.int .i64 RE)) W)) := Lib.hid (fun W => by rw [hRE]; exact (qRange_any n 0 6 W).mono fun e W' ⟨k1, k2⟩ => ⟨_, k1, rfl, k2 ▸ Below.refl _ _⟩)
  obtain ⟨E, hE⟩ : ∃ E, E = loudErr lk ht rc ts gs xs n := ⟨_, rfl⟩
  have hE0 : (E == 0) = false := by rw [hE]; simpa using b3
  have HLO : Hid (∀ {a y : Value} (W : World), Lim W → KG lk ht rc M ts L gs a W → KS N xs y W → Calls Tryd.prog 55 #[a, y, (.int .i64 n)] W (KP (K2 (KS 0 []) (KV (.int .i64 E))) W)) := Lib.hid (fun W q0 q q2 => by
    have e1 : loudR lk ht rc ts gs xs n = [] := if_neg b3
    have e2 : loudE lk ht rc ts gs xs n = E := by rw [hE]; exact if_neg b3
    have := cLoudest (n := n) (N2 := 0) hM hL hN (by omega) (by omega) (by omega) q0 q q2 (by rw [e1]; rfl)
    rwa [e1, e2] at this)
  have HSI : Hid (∀ {x y : Value} (W : World), KS 0 [] x W → KS 0 [] y W → Calls Tryd.prog 38 #[x, y] W (KP (KV (.bool true)) W)) := Lib.hid (fun W q q2 => same_T (n := 0) (m := 0) (a := []) (b := []) rfl rfl rfl (by omega) q q2)
  rw [← hE, ← hGE, ← hLE, ← hRE] at hEE
  have HFI : Hid (∀ (g : Nat) (W : World), W.heap[g]? = some (.cells #[(.int .i64 GE), (.int .i64 LE), (.int .i64 RE)] 3 (0, 0)) → Calls Tryd.prog 31 #[.slice (some ⟨g, 0, none⟩) 3 3] W (KP (KV (.int .i64 E)) W)) := Lib.hid (fun g W h => by
    rw [hEE]
    exact (qFirst_any [GE, LE, RE] _ 3 W (by simp) (Cells.row h)).mono fun e W' ⟨k1, k2⟩ => ⟨_, k1, rfl, k2 ▸ Below.refl _ _⟩)
  have hS1 : (SE == 0) = false := by rw [hSE]; simpa using b4
  have hSE0 := hS1
  have HCX : Hid (∀ {x : Value} (W : World), KS N xs x W → Calls Tryd.prog 44 #[x] W (KP (KV (.int .i64 SE)) W)) := Lib.hid (fun W q => by rw [hSE]; exact xSignal_K hN (by omega) q)
  have HPE : Hid (∀ {y : Value} (W : World), KS N xs y W → Calls Tryd.prog 56 #[y] W (KP (K2 (KV (.int .i64 0)) (KV (.int .i64 SE))) W)) := Lib.hid (fun W q => by
    have := cEnergy hN (by omega) q
    rwa [show enR xs = 0 from if_neg b4, ← hSE] at this)
  have HTab := Lib.hid hTab
  clear hTab hM hL hN hT hG hP b01 b02 b1 hGE hSE hLE hRE hEE b3 hS1 hGG b4 hE
  go_enter Tryd.func7, Tryd.ntmps7
  have HB0 := Lib.hid (Below.refl w.heap.size w)
  go_wp2_with (go_at_call 13; refine name_calls ?_; intro w1 e1; refine Hid.out ?_)
  unfold Hid
  have h1 : Below w.heap.size w w1 := by rw [e1]; exact bel
  have HB1 := Lib.hid (HB0.out.trans (h1.mono HB0.out.size))
  have bg_1 := Lib.hid (show Blk w1 w.heap.size #[(.int .i64 lk), (.int .i64 ht), .slice A1 M c1, (.int .i64 rc), .slice A2 L c2] from by rw [e1]; (repeat (first | ((with_reducible refine Blk.at_ ?_); focus (first | rfl | (simp; done) | (simp; omega))) | (with_reducible refine Blk.alloc ?_ _) | (with_reducible refine Blk.below ?_ (by with_reducible assumption)) | (with_reducible refine Blk.drew ?_))))
  clear e1 h1
  refine (HSH.out _ (KG.st _ _ _ _ _ _ _ _ _ _ HU.out HB1.out)).mono ?_
  rintro r w2 ⟨v2, rfl, k2, h2⟩
  have bg_2 := Lib.hid (bg_1.out.below h2)
  have HB2 := Lib.hid (HB1.out.trans (h2.mono HB1.out.size))
  obtain rfl := k2
  clear h2
  have ug_rw2 := Lib.hid (KG.st _ _ _ _ _ _ _ _ _ _ HU.out HB2.out)
  have ux_rw2 := Lib.hid (KS.st _ _ _ _ _ HX.out HB2.out)
  have HTabw2 := Lib.hid (HTab.out.below HB2.out)
  have HZw2 := Lib.hid (Below.refl w2.heap.size w2)
  clear HU HX HTab
  obtain ⟨fbg_0, fbg_1, fbg_2, fbg_3, fbg_4, fbg_l, -⟩ := (bg_2.out.below HZw2.out).o5
  go_wp2_with (go_at_call 17; refine name_calls ?_; intro w3 e3; refine Hid.out ?_)
  unfold Hid
  have h3 : Below w2.heap.size w2 w3 := by rw [e3]; exact bel
  have HB3 := Lib.hid (HZw2.out.trans (h3.mono HZw2.out.size))
  clear e3 h3
  refine (HGU.out _ (KG.st _ _ _ _ _ _ _ _ _ _ ug_rw2.out HB3.out)).mono ?_
  rintro r w4 ⟨v4, rfl, k4, h4⟩
  have HB4 := Lib.hid (HB3.out.trans (h4.mono HB3.out.size))
  have g_4 := Lib.hid k4
  clear k4 h4
  clear fbg_0 fbg_1 fbg_2 fbg_3 fbg_4 fbg_l
  go_wp2_with (go_at_call 41; refine name_calls ?_; intro w5 e5; refine Hid.out ?_)
  unfold Hid
  have h5 : Below w4.heap.size w4 w5 := by rw [e5]; exact bel
  have g_5 := Lib.hid ((KGI.ik _ _ _ _ _ _ _).st _ _ _ g_4.out h5)
  have HB5 := Lib.hid (HB4.out.trans (h5.mono HB4.out.size))
  clear e5 h5
  refine (HIN.out _ (KS.st _ _ _ _ _ ux_rw2.out HB5.out)).mono ?_
  rintro r w6 ⟨v6, rfl, k6, h6⟩
  have g_6 := Lib.hid ((KGI.ik _ _ _ _ _ _ _).st _ _ _ g_5.out h6)
  have HB6 := Lib.hid (HB5.out.trans (h6.mono HB5.out.size))
  have i_6 := Lib.hid k6
  clear k6 h6
  go_wp2_with (go_at_call 55; refine name_calls ?_; intro w7 e7; refine Hid.out ?_)
  unfold Hid
  have h7 : Below w6.heap.size w6 w7 := by rw [e7]; exact bel
  have g_7 := Lib.hid ((KGI.ik _ _ _ _ _ _ _).st _ _ _ g_6.out h7)
  have i_7 := Lib.hid ((KSI.ik N xs).st _ _ _ i_6.out h7)
  have HB7 := Lib.hid (HB6.out.trans (h7.mono HB6.out.size))
  clear e7 h7
  refine (HLO.out _ (HTabw2.out.below HB7.out).lim g_7.out.kg i_7.out.ks).mono ?_
  rintro r w8 ⟨v8, rfl, k8, h8⟩
  have g_8 := Lib.hid ((KGI.ik _ _ _ _ _ _ _).st _ _ _ g_7.out h8)
  have i_8 := Lib.hid ((KSI.ik N xs).st _ _ _ i_7.out h8)
  have HB8 := Lib.hid (HB7.out.trans (h8.mono HB7.out.size))
  obtain ⟨_, _, rfl, ⟨QA, QAc, rfl, q8⟩, rfl⟩ := k8
  have a_8 := Lib.hid (show KS 0 [] (.slice QA 0 QAc) w8 from ⟨_, _, rfl, q8⟩)
  clear q8 h8
  go_wp2_with (go_at_call 41; refine name_calls ?_; intro w9 e9; refine Hid.out ?_)
  unfold Hid
  have h9 : Below w8.heap.size w8 w9 := by rw [e9]; exact bel
  have a_9 := Lib.hid (KS.st _ _ _ _ _ a_8.out h9)
  have HB9 := Lib.hid (HB8.out.trans (h9.mono HB8.out.size))
  clear e9 h9
  refine (HIN.out _ (KS.st _ _ _ _ _ ux_rw2.out HB9.out)).mono ?_
  rintro r w10 ⟨v10, rfl, k10, h10⟩
  have a_10 := Lib.hid (KS.st _ _ _ _ _ a_9.out h10)
  have HB10 := Lib.hid (HB9.out.trans (h10.mono HB9.out.size))
  have i_10 := Lib.hid k10
  clear k10 h10
  go_wp2_with (go_at_call 56; refine name_calls ?_; intro w11 e11; refine Hid.out ?_)
  unfold Hid
  have h11 : Below w10.heap.size w10 w11 := by rw [e11]; exact bel
  have a_11 := Lib.hid (KS.st _ _ _ _ _ a_10.out h11)
  have i_11 := Lib.hid ((KSI.ik N xs).st _ _ _ i_10.out h11)
  have HB11 := Lib.hid (HB10.out.trans (h11.mono HB10.out.size))
  clear e11 h11
  refine (HPE.out _ i_11.out.ks).mono ?_
  rintro r w12 ⟨v12, rfl, k12, h12⟩
  have a_12 := Lib.hid (KS.st _ _ _ _ _ a_11.out h12)
  have i_12 := Lib.hid ((KSI.ik N xs).st _ _ _ i_11.out h12)
  have HB12 := Lib.hid (HB11.out.trans (h12.mono HB11.out.size))
  obtain ⟨_, _, rfl, rfl, rfl⟩ := k12
  clear h12
  have ug_rw12 := Lib.hid (KG.st _ _ _ _ _ _ _ _ _ _ ug_rw2.out HB12.out)
  have ux_rw12 := Lib.hid (KS.st _ _ _ _ _ ux_rw2.out HB12.out)
  have bg_rw12 := Lib.hid (bg_2.out.below HB12.out)
  have HTabw12 := Lib.hid (HTabw2.out.below HB12.out)
  have HOw12 := Lib.hid (HB2.out.trans (HB12.out.mono HB2.out.size))
  have HZw12 := Lib.hid (Below.refl w12.heap.size w12)
  clear HB12 ug_rw2 ux_rw2 bg_2 HTabw2 HB2
  obtain ⟨fbg_0, fbg_1, fbg_2, fbg_3, fbg_4, fbg_l, -⟩ := (bg_rw12.out.below HZw12.out).o5
  go_wp2_with (go_at_call 18; refine name_calls ?_; intro w13 e13; refine Hid.out ?_)
  unfold Hid
  have h13 : Below w12.heap.size w12 w13 := by rw [e13]; exact bel
  have HB13 := Lib.hid (HZw12.out.trans (h13.mono HZw12.out.size))
  clear e13 h13
  refine (HCG.out _ (KG.st _ _ _ _ _ _ _ _ _ _ ug_rw12.out HB13.out)).mono ?_
  rintro r w14 ⟨v14, rfl, k14, h14⟩
  have HB14 := Lib.hid (HB13.out.trans (h14.mono HB13.out.size))
  obtain rfl := k14
  clear h14
  clear fbg_0 fbg_1 fbg_2 fbg_3 fbg_4 fbg_l
  go_wp2_with (go_at_call 57; refine name_calls ?_; intro w15 e15; refine Hid.out ?_)
  unfold Hid
  have h15 : Below w14.heap.size w14 w15 := by rw [e15]; exact bel
  have HB15 := Lib.hid (HB14.out.trans (h15.mono HB14.out.size))
  clear e15 h15
  refine (HCL.out _ (KS.st _ _ _ _ _ ux_rw12.out HB15.out)).mono ?_
  rintro r w16 ⟨v16, rfl, k16, h16⟩
  have HB16 := Lib.hid (HB15.out.trans (h16.mono HB15.out.size))
  obtain rfl := k16
  clear h16
  go_wp2_with (go_at_call 58; refine name_calls ?_; intro w17 e17; refine Hid.out ?_)
  unfold Hid
  have h17 : Below w16.heap.size w16 w17 := by rw [e17]; exact bel
  have HB17 := Lib.hid (HB16.out.trans (h17.mono HB16.out.size))
  clear e17 h17
  refine (HCR.out _).mono ?_
  rintro r w18 ⟨v18, rfl, k18, h18⟩
  have HB18 := Lib.hid (HB17.out.trans (h18.mono HB17.out.size))
  obtain rfl := k18
  clear h18
  go_wp2_with (go_at_call 31; refine name_calls ?_; intro w19 e19; refine Hid.out ?_)
  unfold Hid
  have h19 : Below w18.heap.size w18 w19 := by rw [e19]; exact bel
  have HB19 := Lib.hid (HB18.out.trans (h19.mono HB18.out.size))
  have hcf : Hid (w19.heap[w18.heap.size]? = some (.cells #[(.int .i64 GE), (.int .i64 LE), (.int .i64 RE)] 3 (0, 0))) := Lib.hid (by rw [e19]; exact heap_new rfl)
  clear e19 h19
  refine (HFI.out _ _ hcf.out).mono ?_
  rintro r w20 ⟨v20, rfl, k20, h20⟩
  have HB20 := Lib.hid (HB19.out.trans (h20.mono HB19.out.size))
  obtain rfl := k20
  clear h20
  clear hcf
  have ug_rw20 := Lib.hid (KG.st _ _ _ _ _ _ _ _ _ _ ug_rw12.out HB20.out)
  have ux_rw20 := Lib.hid (KS.st _ _ _ _ _ ux_rw12.out HB20.out)
  have a_rw20 := Lib.hid (KS.st _ _ _ _ _ a_12.out HB20.out)
  have bg_rw20 := Lib.hid (bg_rw12.out.below HB20.out)
  have HTabw20 := Lib.hid (HTabw12.out.below HB20.out)
  have HOw20 := Lib.hid (HOw12.out.trans (HB20.out.mono HOw12.out.size))
  have HZw20 := Lib.hid (Below.refl w20.heap.size w20)
  clear HB20 ug_rw12 ux_rw12 a_12 bg_rw12 HTabw12 HOw12
  go_wp2_with (go_at_call 44; refine name_calls ?_; intro w21 e21; refine Hid.out ?_)
  unfold Hid
  have h21 : Below w20.heap.size w20 w21 := by rw [e21]; exact bel
  have HB21 := Lib.hid (HZw20.out.trans (h21.mono HZw20.out.size))
  clear e21 h21
  refine (HCX.out _ (KS.st _ _ _ _ _ ux_rw20.out HB21.out)).mono ?_
  rintro r w22 ⟨v22, rfl, k22, h22⟩
  have HB22 := Lib.hid (HB21.out.trans (h22.mono HB21.out.size))
  obtain rfl := k22
  clear h22
  obtain ⟨fbg_0, fbg_1, fbg_2, fbg_3, fbg_4, fbg_l, -⟩ := (bg_rw20.out.below HB22.out).o5
  go_wp2_with (go_at_call 38; refine name_calls ?_; intro w23 e23; refine Hid.out ?_)
  unfold Hid
  have h23 : Below w22.heap.size w22 w23 := by rw [e23]; exact bel
  have HB23 := Lib.hid (HB22.out.trans (h23.mono HB22.out.size))
  clear e23 h23
  refine (HSI.out _ (KS.st _ _ _ _ _ a_rw20.out HB23.out) (KS.nil _)).mono ?_
  rintro r w24 ⟨v24, rfl, k24, h24⟩
  have HB24 := Lib.hid (HB23.out.trans (h24.mono HB23.out.size))
  obtain rfl := k24
  clear h24
  clear fbg_0 fbg_1 fbg_2 fbg_3 fbg_4 fbg_l
  go_wp2_with (go_at_call 15; refine name_calls ?_; intro w25 e25; refine Hid.out ?_)
  unfold Hid
  have h25 : Below w24.heap.size w24 w25 := by rw [e25]; exact bel
  have HB25 := Lib.hid (HB24.out.trans (h25.mono HB24.out.size))
  clear e25 h25
  refine (awake_any _ (HTabw20.out.below HB25.out)).mono ?_
  rintro r w26 ⟨rfl, h26⟩
  have HB26 := Lib.hid (HB25.out.trans (h26.mono HB25.out.size))
  clear h26
  go_wp2
  go_ret
  exact ⟨by first | rfl | (simp; done), HOw20.out.trans (HB26.out.mono HOw20.out.size)⟩
end Go.Proofs.YtdeapbihbhoefaaDoor

/- ProtectSearches, case cg. -/
namespace Go.Proofs.YtdeapbihbhoefaaDoor
open Go.RowKit
open Calm (bcell Blk)
set_option maxRecDepth 100000 in
set_option maxHeartbeats 8000000 in
theorem searches_cg (lk ht rc n : Int) (M L N : Nat) (ts gs xs : List Int) (u v : Value) (w : World) (hTab : PTab w) (hM : M = ts.length) (hL : L = gs.length) (hN : N = xs.length) (b0 : M ≤ 9 ∧ L ≤ 9) (b1 : N ≤ 7) (b2 : 6 < n) (b3 : ¬ loudErr lk ht rc ts gs xs n = 0) (b4 : ¬ sigErr xs = 0) (hu : KG lk ht rc M ts L gs u w) (hv : KS N xs v w) :
    Calls Tryd.prog 7 #[u, v, (.int .i64 n)] w fun r w' => r = .returned (.bool true) ∧ Below w.heap.size w w' := by
  obtain ⟨A1, c1, A2, c2, rfl, hT, hG⟩ := hu
  obtain ⟨A3, c3, rfl, hP⟩ := hv
  have HU := Lib.hid (show KG lk ht rc M ts L gs (.agg #[(.int .i64 lk), (.int .i64 ht), .slice A1 M c1, (.int .i64 rc), .slice A2 L c2]) w from ⟨_, _, _, _, rfl, hT, hG⟩)
  have HX := Lib.hid (show KS N xs (.slice A3 N c3) w from ⟨_, _, rfl, hP⟩)
  have HSH : Hid (∀ W, KG lk ht rc M ts L gs (.agg #[(.int .i64 lk), (.int .i64 ht), .slice A1 M c1, (.int .i64 rc), .slice A2 L c2]) W → Calls Tryd.prog 13 #[.agg #[(.int .i64 lk), (.int .i64 ht), .slice A1 M c1, (.int .i64 rc), .slice A2 L c2]] W (KP (KV (.bool true)) W)) := Lib.hid (fun W q => by have := Short_K q; rwa [decide_eq_true b0] at this)
  have hlen : (N : Int) ≤ 7 := by omega
  have hd7 : decide ((7 : Int) < (N : Int)) = false := decide_eq_false (by omega)
  obtain ⟨b01, b02⟩ := b0
  have hEE := loudErr_three lk ht rc ts gs xs n
  obtain ⟨GE, hGE⟩ : ∃ GE, GE = guardErr lk ht rc ts gs := ⟨_, rfl⟩
  obtain ⟨LE, hLE⟩ : ∃ LE, LE = firstOf [someErr (xs.length : Int) 6, ascErr xs (-2048) 2048] := ⟨_, rfl⟩
  obtain ⟨RE, hRE⟩ : ∃ RE, RE = rangeErr n 0 6 := ⟨_, rfl⟩
  obtain ⟨SE, hSE⟩ : ∃ SE, SE = sigErr xs := ⟨_, rfl⟩
  have hGG := hGE
  have HGU : Hid (∀ {x : Value} (W : World), KG lk ht rc M ts L gs x W → Calls Tryd.prog 17 #[x] W (KP (KGI lk ht rc M ts L gs) W)) := Lib.hid (fun W q => guard_K hM hL (by omega) (by omega) q)
  have HIN : Hid (∀ {x : Value} (W : World), KS N xs x W → Calls Tryd.prog 41 #[x] W (KP (KSI N xs) W)) := Lib.hid (fun W q => ints_K hN (by omega) q)
  have HCG : Hid (∀ {x : Value} (W : World), KG lk ht rc M ts L gs x W → Calls Tryd.prog 18 #[x] W (KP (KV (.int .i64 GE)) W)) := Lib.hid (fun W q => by rw [hGE]; exact rGuard_K hM hL (by omega) (by omega) q)
  have HCL : Hid (∀ {x : Value} (W : World), KS N xs x W → Calls Tryd.prog 57 #[x] W (KP (KV (.int .i64 LE)) W)) := Lib.hid (fun W q => by rw [hLE]; exact rCheckLevels_K hN (by omega) q)
  have HCR : Hid (∀ (W : World), Calls Tryd.prog 58 #[(.int .i64 n), (.int .i64 0), (.int .i64 6)] W (KP (KV (.int .i64 RE)) W)) := Lib.hid (fun W => by rw [hRE]; exact (qRange_any n 0 6 W).mono fun e W' ⟨k1, k2⟩ => ⟨_, k1, rfl, k2 ▸ Below.refl _ _⟩)
  obtain ⟨E, hE⟩ : ∃ E, E = loudErr lk ht rc ts gs xs n := ⟨_, rfl⟩
  have hE0 : (E == 0) = false := by rw [hE]; simpa using b3
  have HLO : Hid (∀ {a y : Value} (W : World), Lim W → KG lk ht rc M ts L gs a W → KS N xs y W → Calls Tryd.prog 55 #[a, y, (.int .i64 n)] W (KP (K2 (KS 0 []) (KV (.int .i64 E))) W)) := Lib.hid (fun W q0 q q2 => by
    have e1 : loudR lk ht rc ts gs xs n = [] := if_neg b3
    have e2 : loudE lk ht rc ts gs xs n = E := by rw [hE]; exact if_neg b3
    have := cLoudest (n := n) (N2 := 0) hM hL hN (by omega) (by omega) (by omega) q0 q q2 (by rw [e1]; rfl)
    rwa [e1, e2] at this)
  have HSI : Hid (∀ {x y : Value} (W : World), KS 0 [] x W → KS 0 [] y W → Calls Tryd.prog 38 #[x, y] W (KP (KV (.bool true)) W)) := Lib.hid (fun W q q2 => same_T (n := 0) (m := 0) (a := []) (b := []) rfl rfl rfl (by omega) q q2)
  rw [← hE, ← hGE, ← hLE, ← hRE] at hEE
  have HFI : Hid (∀ (g : Nat) (W : World), W.heap[g]? = some (.cells #[(.int .i64 GE), (.int .i64 LE), (.int .i64 RE)] 3 (0, 0)) → Calls Tryd.prog 31 #[.slice (some ⟨g, 0, none⟩) 3 3] W (KP (KV (.int .i64 E)) W)) := Lib.hid (fun g W h => by
    rw [hEE]
    exact (qFirst_any [GE, LE, RE] _ 3 W (by simp) (Cells.row h)).mono fun e W' ⟨k1, k2⟩ => ⟨_, k1, rfl, k2 ▸ Below.refl _ _⟩)
  have hS1 : (SE == 0) = false := by rw [hSE]; simpa using b4
  have hSE0 := hS1
  have HCX : Hid (∀ {x : Value} (W : World), KS N xs x W → Calls Tryd.prog 44 #[x] W (KP (KV (.int .i64 SE)) W)) := Lib.hid (fun W q => by rw [hSE]; exact xSignal_K hN (by omega) q)
  have HPE : Hid (∀ {y : Value} (W : World), KS N xs y W → Calls Tryd.prog 56 #[y] W (KP (K2 (KV (.int .i64 0)) (KV (.int .i64 SE))) W)) := Lib.hid (fun W q => by
    have := cEnergy hN (by omega) q
    rwa [show enR xs = 0 from if_neg b4, ← hSE] at this)
  have HTab := Lib.hid hTab
  clear hTab hM hL hN hT hG hP b01 b02 b1 hGE hSE hLE hRE hEE b3 hS1 hGG b4 hE
  go_enter Tryd.func7, Tryd.ntmps7
  have HB0 := Lib.hid (Below.refl w.heap.size w)
  go_wp2_with (go_at_call 13; refine name_calls ?_; intro w1 e1; refine Hid.out ?_)
  unfold Hid
  have h1 : Below w.heap.size w w1 := by rw [e1]; exact bel
  have HB1 := Lib.hid (HB0.out.trans (h1.mono HB0.out.size))
  have bg_1 := Lib.hid (show Blk w1 w.heap.size #[(.int .i64 lk), (.int .i64 ht), .slice A1 M c1, (.int .i64 rc), .slice A2 L c2] from by rw [e1]; (repeat (first | ((with_reducible refine Blk.at_ ?_); focus (first | rfl | (simp; done) | (simp; omega))) | (with_reducible refine Blk.alloc ?_ _) | (with_reducible refine Blk.below ?_ (by with_reducible assumption)) | (with_reducible refine Blk.drew ?_))))
  clear e1 h1
  refine (HSH.out _ (KG.st _ _ _ _ _ _ _ _ _ _ HU.out HB1.out)).mono ?_
  rintro r w2 ⟨v2, rfl, k2, h2⟩
  have bg_2 := Lib.hid (bg_1.out.below h2)
  have HB2 := Lib.hid (HB1.out.trans (h2.mono HB1.out.size))
  obtain rfl := k2
  clear h2
  have ug_rw2 := Lib.hid (KG.st _ _ _ _ _ _ _ _ _ _ HU.out HB2.out)
  have ux_rw2 := Lib.hid (KS.st _ _ _ _ _ HX.out HB2.out)
  have HTabw2 := Lib.hid (HTab.out.below HB2.out)
  have HZw2 := Lib.hid (Below.refl w2.heap.size w2)
  clear HU HX HTab
  obtain ⟨fbg_0, fbg_1, fbg_2, fbg_3, fbg_4, fbg_l, -⟩ := (bg_2.out.below HZw2.out).o5
  go_wp2_with (go_at_call 17; refine name_calls ?_; intro w3 e3; refine Hid.out ?_)
  unfold Hid
  have h3 : Below w2.heap.size w2 w3 := by rw [e3]; exact bel
  have HB3 := Lib.hid (HZw2.out.trans (h3.mono HZw2.out.size))
  clear e3 h3
  refine (HGU.out _ (KG.st _ _ _ _ _ _ _ _ _ _ ug_rw2.out HB3.out)).mono ?_
  rintro r w4 ⟨v4, rfl, k4, h4⟩
  have HB4 := Lib.hid (HB3.out.trans (h4.mono HB3.out.size))
  have g_4 := Lib.hid k4
  clear k4 h4
  clear fbg_0 fbg_1 fbg_2 fbg_3 fbg_4 fbg_l
  go_wp2_with (go_at_call 41; refine name_calls ?_; intro w5 e5; refine Hid.out ?_)
  unfold Hid
  have h5 : Below w4.heap.size w4 w5 := by rw [e5]; exact bel
  have g_5 := Lib.hid ((KGI.ik _ _ _ _ _ _ _).st _ _ _ g_4.out h5)
  have HB5 := Lib.hid (HB4.out.trans (h5.mono HB4.out.size))
  clear e5 h5
  refine (HIN.out _ (KS.st _ _ _ _ _ ux_rw2.out HB5.out)).mono ?_
  rintro r w6 ⟨v6, rfl, k6, h6⟩
  have g_6 := Lib.hid ((KGI.ik _ _ _ _ _ _ _).st _ _ _ g_5.out h6)
  have HB6 := Lib.hid (HB5.out.trans (h6.mono HB5.out.size))
  have i_6 := Lib.hid k6
  clear k6 h6
  go_wp2_with (go_at_call 55; refine name_calls ?_; intro w7 e7; refine Hid.out ?_)
  unfold Hid
  have h7 : Below w6.heap.size w6 w7 := by rw [e7]; exact bel
  have g_7 := Lib.hid ((KGI.ik _ _ _ _ _ _ _).st _ _ _ g_6.out h7)
  have i_7 := Lib.hid ((KSI.ik N xs).st _ _ _ i_6.out h7)
  have HB7 := Lib.hid (HB6.out.trans (h7.mono HB6.out.size))
  clear e7 h7
  refine (HLO.out _ (HTabw2.out.below HB7.out).lim g_7.out.kg i_7.out.ks).mono ?_
  rintro r w8 ⟨v8, rfl, k8, h8⟩
  have g_8 := Lib.hid ((KGI.ik _ _ _ _ _ _ _).st _ _ _ g_7.out h8)
  have i_8 := Lib.hid ((KSI.ik N xs).st _ _ _ i_7.out h8)
  have HB8 := Lib.hid (HB7.out.trans (h8.mono HB7.out.size))
  obtain ⟨_, _, rfl, ⟨QA, QAc, rfl, q8⟩, rfl⟩ := k8
  have a_8 := Lib.hid (show KS 0 [] (.slice QA 0 QAc) w8 from ⟨_, _, rfl, q8⟩)
  clear q8 h8
  go_wp2_with (go_at_call 41; refine name_calls ?_; intro w9 e9; refine Hid.out ?_)
  unfold Hid
  have h9 : Below w8.heap.size w8 w9 := by rw [e9]; exact bel
  have a_9 := Lib.hid (KS.st _ _ _ _ _ a_8.out h9)
  have HB9 := Lib.hid (HB8.out.trans (h9.mono HB8.out.size))
  clear e9 h9
  refine (HIN.out _ (KS.st _ _ _ _ _ ux_rw2.out HB9.out)).mono ?_
  rintro r w10 ⟨v10, rfl, k10, h10⟩
  have a_10 := Lib.hid (KS.st _ _ _ _ _ a_9.out h10)
  have HB10 := Lib.hid (HB9.out.trans (h10.mono HB9.out.size))
  have i_10 := Lib.hid k10
  clear k10 h10
  go_wp2_with (go_at_call 56; refine name_calls ?_; intro w11 e11; refine Hid.out ?_)
  unfold Hid
  have h11 : Below w10.heap.size w10 w11 := by rw [e11]; exact bel
  have a_11 := Lib.hid (KS.st _ _ _ _ _ a_10.out h11)
  have i_11 := Lib.hid ((KSI.ik N xs).st _ _ _ i_10.out h11)
  have HB11 := Lib.hid (HB10.out.trans (h11.mono HB10.out.size))
  clear e11 h11
  refine (HPE.out _ i_11.out.ks).mono ?_
  rintro r w12 ⟨v12, rfl, k12, h12⟩
  have a_12 := Lib.hid (KS.st _ _ _ _ _ a_11.out h12)
  have i_12 := Lib.hid ((KSI.ik N xs).st _ _ _ i_11.out h12)
  have HB12 := Lib.hid (HB11.out.trans (h12.mono HB11.out.size))
  obtain ⟨_, _, rfl, rfl, rfl⟩ := k12
  clear h12
  have ug_rw12 := Lib.hid (KG.st _ _ _ _ _ _ _ _ _ _ ug_rw2.out HB12.out)
  have ux_rw12 := Lib.hid (KS.st _ _ _ _ _ ux_rw2.out HB12.out)
  have bg_rw12 := Lib.hid (bg_2.out.below HB12.out)
  have HTabw12 := Lib.hid (HTabw2.out.below HB12.out)
  have HOw12 := Lib.hid (HB2.out.trans (HB12.out.mono HB2.out.size))
  have HZw12 := Lib.hid (Below.refl w12.heap.size w12)
  clear HB12 ug_rw2 ux_rw2 bg_2 HTabw2 HB2
  obtain ⟨fbg_0, fbg_1, fbg_2, fbg_3, fbg_4, fbg_l, -⟩ := (bg_rw12.out.below HZw12.out).o5
  go_wp2_with (go_at_call 18; refine name_calls ?_; intro w13 e13; refine Hid.out ?_)
  unfold Hid
  have h13 : Below w12.heap.size w12 w13 := by rw [e13]; exact bel
  have HB13 := Lib.hid (HZw12.out.trans (h13.mono HZw12.out.size))
  clear e13 h13
  refine (HCG.out _ (KG.st _ _ _ _ _ _ _ _ _ _ ug_rw12.out HB13.out)).mono ?_
  rintro r w14 ⟨v14, rfl, k14, h14⟩
  have HB14 := Lib.hid (HB13.out.trans (h14.mono HB13.out.size))
  obtain rfl := k14
  clear h14
  clear fbg_0 fbg_1 fbg_2 fbg_3 fbg_4 fbg_l
  go_wp2_with (go_at_call 57; refine name_calls ?_; intro w15 e15; refine Hid.out ?_)
  unfold Hid
  have h15 : Below w14.heap.size w14 w15 := by rw [e15]; exact bel
  have HB15 := Lib.hid (HB14.out.trans (h15.mono HB14.out.size))
  clear e15 h15
  refine (HCL.out _ (KS.st _ _ _ _ _ ux_rw12.out HB15.out)).mono ?_
  rintro r w16 ⟨v16, rfl, k16, h16⟩
  have HB16 := Lib.hid (HB15.out.trans (h16.mono HB15.out.size))
  obtain rfl := k16
  clear h16
  go_wp2_with (go_at_call 58; refine name_calls ?_; intro w17 e17; refine Hid.out ?_)
  unfold Hid
  have h17 : Below w16.heap.size w16 w17 := by rw [e17]; exact bel
  have HB17 := Lib.hid (HB16.out.trans (h17.mono HB16.out.size))
  clear e17 h17
  refine (HCR.out _).mono ?_
  rintro r w18 ⟨v18, rfl, k18, h18⟩
  have HB18 := Lib.hid (HB17.out.trans (h18.mono HB17.out.size))
  obtain rfl := k18
  clear h18
  go_wp2_with (go_at_call 31; refine name_calls ?_; intro w19 e19; refine Hid.out ?_)
  unfold Hid
  have h19 : Below w18.heap.size w18 w19 := by rw [e19]; exact bel
  have HB19 := Lib.hid (HB18.out.trans (h19.mono HB18.out.size))
  have hcf : Hid (w19.heap[w18.heap.size]? = some (.cells #[(.int .i64 GE), (.int .i64 LE), (.int .i64 RE)] 3 (0, 0))) := Lib.hid (by rw [e19]; exact heap_new rfl)
  clear e19 h19
  refine (HFI.out _ _ hcf.out).mono ?_
  rintro r w20 ⟨v20, rfl, k20, h20⟩
  have HB20 := Lib.hid (HB19.out.trans (h20.mono HB19.out.size))
  obtain rfl := k20
  clear h20
  clear hcf
  have ug_rw20 := Lib.hid (KG.st _ _ _ _ _ _ _ _ _ _ ug_rw12.out HB20.out)
  have ux_rw20 := Lib.hid (KS.st _ _ _ _ _ ux_rw12.out HB20.out)
  have a_rw20 := Lib.hid (KS.st _ _ _ _ _ a_12.out HB20.out)
  have bg_rw20 := Lib.hid (bg_rw12.out.below HB20.out)
  have HTabw20 := Lib.hid (HTabw12.out.below HB20.out)
  have HOw20 := Lib.hid (HOw12.out.trans (HB20.out.mono HOw12.out.size))
  have HZw20 := Lib.hid (Below.refl w20.heap.size w20)
  clear HB20 ug_rw12 ux_rw12 a_12 bg_rw12 HTabw12 HOw12
  go_wp2_with (go_at_call 44; refine name_calls ?_; intro w21 e21; refine Hid.out ?_)
  unfold Hid
  have h21 : Below w20.heap.size w20 w21 := by rw [e21]; exact bel
  have HB21 := Lib.hid (HZw20.out.trans (h21.mono HZw20.out.size))
  clear e21 h21
  refine (HCX.out _ (KS.st _ _ _ _ _ ux_rw20.out HB21.out)).mono ?_
  rintro r w22 ⟨v22, rfl, k22, h22⟩
  have HB22 := Lib.hid (HB21.out.trans (h22.mono HB21.out.size))
  obtain rfl := k22
  clear h22
  obtain ⟨fbg_0, fbg_1, fbg_2, fbg_3, fbg_4, fbg_l, -⟩ := (bg_rw20.out.below HB22.out).o5
  go_wp2_with (go_at_call 38; refine name_calls ?_; intro w23 e23; refine Hid.out ?_)
  unfold Hid
  have h23 : Below w22.heap.size w22 w23 := by rw [e23]; exact bel
  have HB23 := Lib.hid (HB22.out.trans (h23.mono HB22.out.size))
  clear e23 h23
  refine (HSI.out _ (KS.st _ _ _ _ _ a_rw20.out HB23.out) (KS.nil _)).mono ?_
  rintro r w24 ⟨v24, rfl, k24, h24⟩
  have HB24 := Lib.hid (HB23.out.trans (h24.mono HB23.out.size))
  obtain rfl := k24
  clear h24
  clear fbg_0 fbg_1 fbg_2 fbg_3 fbg_4 fbg_l
  go_wp2_with (go_at_call 15; refine name_calls ?_; intro w25 e25; refine Hid.out ?_)
  unfold Hid
  have h25 : Below w24.heap.size w24 w25 := by rw [e25]; exact bel
  have HB25 := Lib.hid (HB24.out.trans (h25.mono HB24.out.size))
  clear e25 h25
  refine (awake_any _ (HTabw20.out.below HB25.out)).mono ?_
  rintro r w26 ⟨rfl, h26⟩
  have HB26 := Lib.hid (HB25.out.trans (h26.mono HB25.out.size))
  clear h26
  go_wp2
  go_ret
  exact ⟨by first | rfl | (simp; done), HOw20.out.trans (HB26.out.mono HOw20.out.size)⟩
end Go.Proofs.YtdeapbihbhoefaaDoor

/- ProtectSearches answers yes, whatever its arguments. -/
namespace Go.Proofs.YtdeapbihbhoefaaDoor
open Go.RowKit
open Calm (bcell Blk)
theorem ProtectSearches_any (lk ht rc n : Int) (M L N : Nat) (ts gs xs : List Int) (u v : Value) (w : World) (hTab : PTab w) (hM : M = ts.length) (hL : L = gs.length) (hN : N = xs.length) (hu : KG lk ht rc M ts L gs u w) (hv : KS N xs v w) :
    Calls Tryd.prog 7 #[u, v, (.int .i64 n)] w fun r w' => r = .returned (.bool true) ∧ Below w.heap.size w w' := by
  by_cases b0 : M ≤ 9 ∧ L ≤ 9
  · by_cases b1 : N ≤ 7
    · by_cases b3 : loudErr lk ht rc ts gs xs n = 0
      · by_cases b2 : n ≤ 4
        · exact searches_a lk ht rc n M L N ts gs xs u v w hTab hM hL hN b0 b1 b2 b3 hu hv
        · exact searches_2 lk ht rc n M L N ts gs xs u v w hTab hM hL hN b0 b1 (by omega) (loudErr_zero b3).2.2.2.2 hu hv
      · by_cases b2 : n ≤ 4
        · by_cases b4 : sigErr xs = 0
          · exact searches_bl lk ht rc n M L N ts gs xs u v w hTab hM hL hN b0 b1 b2 b3 b4 hu hv
          · exact searches_cl lk ht rc n M L N ts gs xs u v w hTab hM hL hN b0 b1 b2 b3 b4 hu hv
        · by_cases b5 : n ≤ 6
          · exact searches_2 lk ht rc n M L N ts gs xs u v w hTab hM hL hN b0 b1 (by omega) b5 hu hv
          · by_cases b4 : sigErr xs = 0
            · exact searches_bg lk ht rc n M L N ts gs xs u v w hTab hM hL hN b0 b1 (by omega) b3 b4 hu hv
            · exact searches_cg lk ht rc n M L N ts gs xs u v w hTab hM hL hN b0 b1 (by omega) b3 b4 hu hv
    · exact searches_1 lk ht rc n M L N ts gs xs u v w hTab hM hL hN b0 b1 hu hv
  · exact searches_0 lk ht rc n M L N ts gs xs u v w hTab hM hL hN b0 hu hv
end Go.Proofs.YtdeapbihbhoefaaDoor

/- ProtectSearches: the row and its card. -/
namespace Go.Proofs.YtdeapbihbhoefaaDoor.protectSearches
open Go.ChangeShapes Go.WideShapes Go.ChangeAt Go.RowKit Go.Flat
open Calm (bcell)

set_option maxRecDepth 100000 in
theorem contract (H : Type) (enc : TypeId × Value → H) (W : World) (base : Nat) (args : Array Value) (ds gs : List (DataW H)) (before : List MemPlace)
    (hval : ∀ (j : Nat) t v, Tryd.f7.params[j]? = some t → args[j]? = some v → Value.okWide Tryd.prog W .any base t v)
    (hW : DataW.Whole enc Tryd.prog Tryd.f7.params.toList Rows.protectSearchesSpec.vars false W args.toList ds gs before) (hL : laidMetH Tryd.prog laidList W) :
    Calls Tryd.prog 7 args W fun e W' => ∃ v, e = .returned v ∧ Rows.protectSearchesSpec.post enc Tryd.prog Tryd.f7 false true false false W args v W' := by
  have hW' := hW
  have hlt : ∀ p ∈ before, p.block < W.heap.size := fun p hp => hW.lt p hp
  obtain ⟨p, q, hA0, hV, rfl, hfz, hnd⟩ := hW
  have hA : DataW.TrodAll enc Tryd.prog W 0 (fun _ => true) true Tryd.f7.params.toList args.toList ds p := hA0
  rw [Tryd.params7] at hA hval
  obtain ⟨v0, v1, v2, d0, d1, d2, p0, p1, p2, rfl, rfl, rfl, h0, h1, h2⟩ := trodAll_three hA
  obtain ⟨rfl, rfl⟩ := trodVars_none hV
  obtain ⟨lk, ht, rc, A1, A2, c1, c2, ts, gs', rfl, k1, k2⟩ := open_guard (hval 0 _ _ rfl rfl) h0
  obtain ⟨B1, d1', xs1, rfl, q1a, q1b, j1⟩ := open_islice (hval 1 _ _ rfl rfl) h1
  obtain ⟨n2, rfl, _, _, wf2⟩ := open_int Tryd.underlying3 (hval 2 _ _ rfl rfl) h2
  refine (ProtectSearches_any lk ht rc n2 _ _ _ ts gs' xs1 _ _ W (tab_of_laid hL) rfl rfl rfl ⟨A1, c1, A2, c2, rfl, k1, k2⟩ ⟨B1, d1', rfl, j1⟩).mono fun e W' ⟨he, hb⟩ => ?_
  subst he
  refine ⟨_, rfl, post_of_below (pa := p0 ++ p1 ++ p2) (pv := []) hW' (fun _ _ _ => trodAll_cons_mk (shut_bool Tryd.underlying4 _) trodAll_mk0) (fun sp hs => ?_) (fun _ _ => rfl) rfl hb (ok_one (by kernel_rfl) rfl (okWide_bool_mk Tryd.underlying4 _))⟩
  exact trodAll_below laidOut hb (by rw [Tryd.params7]; exact of_decide_eq_true (by kernel_rfl)) hA0 (fun x hx => hlt x (List.mem_append_left _ hx)) (fun x hx => hs x (List.mem_append_left _ hx))

/-- the witness: nothing. -/
noncomputable def wit : Array Value := #[.agg #[(.int .i64 0), (.int .i64 0), .slice none 0 0, (.int .i64 0), .slice none 0 0], .slice none 0 0, (.int .i64 0)]
theorem reads (os : Os) {H : Type} (enc : TypeId × Value → H) : ∃ ds places, DataW.whole enc Tryd.prog ((World.doorLaid Tryd.prog 35 os).forCall (fun _ _ => 0) ⟨#[], wit, []⟩).memory Tryd.f7.params.toList Rows.protectSearchesSpec.vars false wit.toList 8 = some (ds, [], places) :=
  ⟨[.agg [.lit (.int .i64 0), .lit (.int .i64 0), .nil, .lit (.int .i64 0), .nil], .nil, .lit (.int .i64 0)], [], by kernel_rfl⟩

set_option maxRecDepth 100000 in
theorem lifted (os : Os) (started : os.Started) (H : Type) (enc : TypeId × Value → H) (F : Stop.Interp) :
    ReturnsInHanded {} Tryd.checked os 7 .any ((OpenSpec.ofChange Rows.protectSearchesSpec).preRow enc Tryd.prog Tryd.f7 Rows.protectSearchesRow.domain false Rows.protectSearchesRow.laid) (((OpenSpec.ofChange Rows.protectSearchesSpec).at F).post enc Tryd.prog Tryd.f7 false true false false) := by
  obtain ⟨ds, places, hx⟩ := reads os enc
  refine returnsInHanded_of_row (C := Tryd.checked) (s := OpenSpec.ofChange Rows.protectSearchesSpec) own started (by kernel_rfl) Tryd.func7
    (witness_row_at (enc := enc) (C := Tryd.checked) false (World.doorLaid Tryd.prog 35 os) wit rfl (door_vars os _) (door_rest os _) (by kernel_rfl)
      (OpenSpec.preRow_of_cond 8 hx (by kernel_rfl) (fun k hk => by cases hk) (by kernel_rfl) (laid_met os _))) ?_
  intro W base args ds gs before hval hW _ _ _ hL _ _
  exact contract H enc W base args ds gs before hval hW hL

theorem said : Rows.ProtectSearchesSaid :=
  OpenClaim.holds_of_cond 7 Tryd.f7 rfl rfl rfl rfl rfl rfl rfl ⟨rfl, rfl, rfl, rfl, rfl⟩ rfl rfl rfl rfl rfl (by kernel_rfl) Tryd.func7 (by kernel_rfl)
    (of_decide_eq_true (by kernel_rfl)) (by unfold Func.isWrapper; first | (rw [if_pos (by decide +kernel)]; kernel_rfl) | (rw [if_neg (by decide +kernel)]; exact ⟨rfl, rfl⟩))
    (fun os started H enc _ F => by rw [OpenClaim.pre_eq_preRow]; exact lifted os started H enc F)

theorem plain (f : FuncId) (fn : Func) (hf : Tryd.pinned.checked.prog.funcNamed "woofer/wooferlaw08.ProtectSearches" = some f) (hfn : Tryd.pinned.checked.prog.funcs[f]? = some fn) :
    false = Tryd.pinned.checked.prog.looks [] ∧ ∀ (j : Nat) t, fn.params[j]? = some t → Tryd.pinned.checked.prog.wantsStandIn t = false := by
  obtain rfl : f = 7 := Option.some.inj ((show Tryd.prog.funcNamed "woofer/wooferlaw08.ProtectSearches" = some 7 by kernel_rfl).symm.trans hf) |>.symm
  obtain rfl : fn = Tryd.f7 := (Option.some.inj (Tryd.func7.symm.trans hfn)).symm
  refine ⟨by kernel_rfl, fun j t ht => ?_⟩
  rw [Tryd.params7] at ht
  have hall : ∀ t ∈ (#[24, 22, 3] : Array TypeId), Tryd.prog.wantsStandIn t = false := of_decide_eq_true (by kernel_rfl)
  exact hall t (Array.mem_of_getElem? ht)

theorem card : Rows.ProtectSearchesCardSaid :=
  Claim7.holds_tied_plain_at .later [] _ _ _ _ said (fun _ h => by cases h) (by kernel_rfl) (fun _ h => by cases h) protectSearches_row_tie rfl ⟨rfl, rfl⟩ (by kernel_rfl) rfl plain (by kernel_rfl)
end Go.Proofs.YtdeapbihbhoefaaDoor.protectSearches
