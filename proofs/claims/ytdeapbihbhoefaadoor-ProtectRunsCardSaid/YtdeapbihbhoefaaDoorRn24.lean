/- Part 24 of the texts of the claim: LRn_m, LRnAll, RnRow. -/
import Derived.Test.YtdeapbihbhoefaaDoorRn23
import Derived.Test.YtdeapbihbhoefaaDoorRn15

/- ProtectRuns, case m. -/
namespace Go.Proofs.YtdeapbihbhoefaaDoor
open Go.RowKit
open Calm (bcell Blk)
set_option maxRecDepth 100000 in
set_option maxHeartbeats 8000000 in
theorem runs_m (lk ht rc : Int) (M L N : Nat) (ts gs xs : List Int) (u v : Value) (w : World) (hTab : PTab w) (hM : M = ts.length) (hL : L = gs.length) (hN : N = xs.length) (b0 : M ≤ 9 ∧ L ≤ 9) (b1 : N ≤ 40 ∨ N = 4097) (b2 : runErr lk ht rc ts gs xs = 0) (hu : KG lk ht rc M ts L gs u w) (hv : KS N xs v w) :
    Calls Tryd.prog 5 #[u, v] w fun r w' => r = .returned (.bool true) ∧ Below w.heap.size w w' := by
  obtain ⟨A1, c1, A2, c2, rfl, hT, hG⟩ := hu
  obtain ⟨A3, c3, rfl, hP⟩ := hv
  have HU := Lib.hid (show KG lk ht rc M ts L gs (.agg #[(.int .i64 lk), (.int .i64 ht), .slice A1 M c1, (.int .i64 rc), .slice A2 L c2]) w from ⟨_, _, _, _, rfl, hT, hG⟩)
  have HX := Lib.hid (show KS N xs (.slice A3 N c3) w from ⟨_, _, rfl, hP⟩)
  have HSH : Hid (∀ W, KG lk ht rc M ts L gs (.agg #[(.int .i64 lk), (.int .i64 ht), .slice A1 M c1, (.int .i64 rc), .slice A2 L c2]) W → Calls Tryd.prog 13 #[.agg #[(.int .i64 lk), (.int .i64 ht), .slice A1 M c1, (.int .i64 rc), .slice A2 L c2]] W (KP (KV (.bool true)) W)) := Lib.hid (fun W q => by have := Short_K q; rwa [decide_eq_true b0] at this)
  have HF1 : Hid (∀ {x : Value} (W : World), KS N xs x W → Calls Tryd.prog 39 #[x] W (KP (KV (.bool true)) W)) := Lib.hid (fun W q => by have := Few_K q; rwa [decide_eq_true b1] at this)
  obtain ⟨b01, b02⟩ := b0
  have hn5 : N ≤ 5000 := by omega
  have HGU : Hid (∀ {x : Value} (W : World), KG lk ht rc M ts L gs x W → Calls Tryd.prog 17 #[x] W (KP (KGI lk ht rc M ts L gs) W)) := Lib.hid (fun W q => guard_K hM hL (by omega) (by omega) q)
  have HIN : Hid (∀ {x : Value} (W : World), KS N xs x W → Calls Tryd.prog 41 #[x] W (KP (KSI N xs) W)) := Lib.hid (fun W q => ints_K hN (by omega) q)
  have hz := runErr_zero b2
  have hge := hz.1
  have hse := hz.2
  have hV := guard_valid hge
  have hx := sigErr_in hse
  obtain ⟨RN, hRN⟩ : ∃ RN, RN = outsK lk ht rc ts gs xs N := ⟨_, rfl⟩
  obtain ⟨LV, hLV⟩ : ∃ LV, LV = lvsK lk ht rc ts gs xs N := ⟨_, rfl⟩
  obtain ⟨PH, hPH⟩ : ∃ PH, PH = pkH lk xs N := ⟨_, rfl⟩
  obtain ⟨PX, hPX⟩ : ∃ PX, PX = pkX ts xs N := ⟨_, rfl⟩
  have hRNl : N = RN.length := by rw [hRN]; exact (outsK_len _ _ _ _ _ _ _).symm
  have hLVl : N = LV.length := by rw [hLV]; exact (lvsK_len _ _ _ _ _ _ _).symm
  have HRR : Hid (∀ {a y : Value} (W : World), KG lk ht rc M ts L gs a W → KS N xs y W → Calls Tryd.prog 45 #[a, y] W (KP (KSI N RN) W)) := Lib.hid (fun W q q2 => by rw [hRN]; exact rRun_K hV hM hL hN hn5 hx q q2)
  have HRL : Hid (∀ {a y : Value} (W : World), KG lk ht rc M ts L gs a W → KS N xs y W → Calls Tryd.prog 46 #[a, y] W (KP (KSI N LV) W)) := Lib.hid (fun W q q2 => by rw [hLV]; exact rLevels_K hV hM hL hN hn5 hx q q2)
  have HRP : Hid (∀ {a y : Value} (W : World), KG lk ht rc M ts L gs a W → KS N xs y W → Calls Tryd.prog 47 #[a, y] W (KP (KV (.agg #[(.int .i64 PH), (.int .i64 PX)])) W)) := Lib.hid (fun W q q2 => by rw [hPH, hPX]; exact rPeaks_K hV hM hL hN hn5 hx q q2)
  have HSI : Hid (∀ {x y : Value} (W : World), KS N RN x W → KS N RN y W → Calls Tryd.prog 38 #[x, y] W (KP (KV (.bool true)) W)) := Lib.hid (fun W q q2 => same_T rfl hRNl hRNl (by omega) q q2)
  have HSJ : Hid (∀ {x y : Value} (W : World), KS N LV x W → KS N LV y W → Calls Tryd.prog 38 #[x, y] W (KP (KV (.bool true)) W)) := Lib.hid (fun W q q2 => same_T rfl hLVl hLVl (by omega) q q2)
  have HR1 : Hid (∀ {a y : Value} (W : World), Lim W → KG lk ht rc M ts L gs a W → KS N xs y W → Calls Tryd.prog 40 #[a, y] W (KP (K2 (KS N RN) (KV (.int .i64 0))) W)) := Lib.hid (fun W q0 q q2 => by rw [hRN]; exact xRun_ok hM hL hN (by omega) (by omega) hn5 q0 q q2 hge hse)
  have HL1 : Hid (∀ {a y : Value} (W : World), Lim W → KG lk ht rc M ts L gs a W → KS N xs y W → Calls Tryd.prog 42 #[a, y] W (KP (K2 (KS N LV) (KV (.int .i64 0))) W)) := Lib.hid (fun W q0 q q2 => by rw [hLV]; exact xLevels_ok hM hL hN (by omega) (by omega) hn5 q0 q q2 hge hse)
  have HP1 : Hid (∀ {a y : Value} (W : World), KG lk ht rc M ts L gs a W → KS N xs y W → Calls Tryd.prog 43 #[a, y] W (KP (K2 (KV (.agg #[(.int .i64 PH), (.int .i64 PX)])) (KV (.int .i64 0))) W)) := Lib.hid (fun W q q2 => by rw [hPH, hPX]; exact xPeaks_ok hM hL hN (by omega) (by omega) hn5 q q2 hge hse)
  obtain ⟨GE, hGE⟩ : ∃ GE, GE = guardErr lk ht rc ts gs := ⟨_, rfl⟩
  obtain ⟨SE, hSE⟩ : ∃ SE, SE = sigErr xs := ⟨_, rfl⟩
  have HCG : Hid (∀ {x : Value} (W : World), KG lk ht rc M ts L gs x W → Calls Tryd.prog 18 #[x] W (KP (KV (.int .i64 GE)) W)) := Lib.hid (fun W q => by rw [hGE]; exact rGuard_K hM hL (by omega) (by omega) q)
  have HCX : Hid (∀ {x : Value} (W : World), KS N xs x W → Calls Tryd.prog 44 #[x] W (KP (KV (.int .i64 SE)) W)) := Lib.hid (fun W q => by rw [hSE]; exact xSignal_K hN hn5 q)
  have HFI : Hid (∀ (g : Nat) (W : World), W.heap[g]? = some (.cells #[(.int .i64 GE), (.int .i64 SE)] 3 (0, 0)) → Calls Tryd.prog 31 #[.slice (some ⟨g, 0, none⟩) 2 2] W (KP (KV (.int .i64 0)) W)) := Lib.hid (fun g W h => by
    rw [show (0 : Int) = firstOf [GE, SE] by rw [← b2, hGE, hSE]; rfl]
    exact xFirst2_K h)
  have HTab := Lib.hid hTab
  clear hTab hM hL hN hT hG hP b1 b2 hn5 hz hge hse hV hx hRN hLV hPH hPX hRNl hLVl hGE hSE
  go_enter Tryd.func5, Tryd.ntmps5
  have HB0 := Lib.hid (Below.refl w.heap.size w)
  go_wp2_with (go_at_call 13; refine name_calls ?_; intro w1 e1; refine Hid.out ?_)
  unfold Hid
  have h1 : Below w.heap.size w w1 := by rw [e1]; exact bel
  have HB1 := Lib.hid (HB0.out.trans (h1.mono HB0.out.size))
  have bg_1 := Lib.hid (show Blk w1 w.heap.size #[(.int .i64 lk), (.int .i64 ht), .slice A1 M c1, (.int .i64 rc), .slice A2 L c2] from by rw [e1]; (repeat (first | ((with_reducible refine Blk.at_ ?_); focus (first | rfl | (simp; done) | (simp; omega))) | (with_reducible refine Blk.alloc ?_ _) | (with_reducible refine Blk.below ?_ (by with_reducible assumption)) | (with_reducible refine Blk.drew ?_))))
  clear e1 h1
  refine (HSH.out _ (KG.st _ _ _ _ _ _ _ _ _ _ HU.out HB1.out)).mono ?_
  rintro r w2 ⟨v2, rfl, k2, h2⟩
  have bg_2 := Lib.hid (bg_1.out.below h2)
  have HB2 := Lib.hid (HB1.out.trans (h2.mono HB1.out.size))
  obtain rfl := k2
  clear h2
  have ug_rw2 := Lib.hid (KG.st _ _ _ _ _ _ _ _ _ _ HU.out HB2.out)
  have ux_rw2 := Lib.hid (KS.st _ _ _ _ _ HX.out HB2.out)
  have HTabw2 := Lib.hid (HTab.out.below HB2.out)
  have HZw2 := Lib.hid (Below.refl w2.heap.size w2)
  clear HU HX HTab
  go_wp2_with (go_at_call 39; refine name_calls ?_; intro w3 e3; refine Hid.out ?_)
  unfold Hid
  have h3 : Below w2.heap.size w2 w3 := by rw [e3]; exact bel
  have HB3 := Lib.hid (HZw2.out.trans (h3.mono HZw2.out.size))
  clear e3 h3
  refine (HF1.out _ (KS.st _ _ _ _ _ ux_rw2.out HB3.out)).mono ?_
  rintro r w4 ⟨v4, rfl, k4, h4⟩
  have HB4 := Lib.hid (HB3.out.trans (h4.mono HB3.out.size))
  obtain rfl := k4
  clear h4
  have ug_rw4 := Lib.hid (KG.st _ _ _ _ _ _ _ _ _ _ ug_rw2.out HB4.out)
  have ux_rw4 := Lib.hid (KS.st _ _ _ _ _ ux_rw2.out HB4.out)
  have bg_rw4 := Lib.hid (bg_2.out.below HB4.out)
  have HTabw4 := Lib.hid (HTabw2.out.below HB4.out)
  have HOw4 := Lib.hid (HB2.out.trans (HB4.out.mono HB2.out.size))
  have HZw4 := Lib.hid (Below.refl w4.heap.size w4)
  clear HB4 ug_rw2 ux_rw2 bg_2 HTabw2 HB2
  obtain ⟨fbg_0, fbg_1, fbg_2, fbg_3, fbg_4, fbg_l, -⟩ := (bg_rw4.out.below HZw4.out).o5
  go_wp2_with (go_at_call 17; refine name_calls ?_; intro w5 e5; refine Hid.out ?_)
  unfold Hid
  have h5 : Below w4.heap.size w4 w5 := by rw [e5]; exact bel
  have HB5 := Lib.hid (HZw4.out.trans (h5.mono HZw4.out.size))
  clear e5 h5
  refine (HGU.out _ (KG.st _ _ _ _ _ _ _ _ _ _ ug_rw4.out HB5.out)).mono ?_
  rintro r w6 ⟨v6, rfl, k6, h6⟩
  have HB6 := Lib.hid (HB5.out.trans (h6.mono HB5.out.size))
  have g_6 := Lib.hid k6
  clear k6 h6
  clear fbg_0 fbg_1 fbg_2 fbg_3 fbg_4 fbg_l
  go_wp2_with (go_at_call 41; refine name_calls ?_; intro w7 e7; refine Hid.out ?_)
  unfold Hid
  have h7 : Below w6.heap.size w6 w7 := by rw [e7]; exact bel
  have g_7 := Lib.hid ((KGI.ik _ _ _ _ _ _ _).st _ _ _ g_6.out h7)
  have HB7 := Lib.hid (HB6.out.trans (h7.mono HB6.out.size))
  clear e7 h7
  refine (HIN.out _ (KS.st _ _ _ _ _ ux_rw4.out HB7.out)).mono ?_
  rintro r w8 ⟨v8, rfl, k8, h8⟩
  have g_8 := Lib.hid ((KGI.ik _ _ _ _ _ _ _).st _ _ _ g_7.out h8)
  have HB8 := Lib.hid (HB7.out.trans (h8.mono HB7.out.size))
  have i_8 := Lib.hid k8
  clear k8 h8
  go_wp2_with (go_at_call 40; refine name_calls ?_; intro w9 e9; refine Hid.out ?_)
  unfold Hid
  have h9 : Below w8.heap.size w8 w9 := by rw [e9]; exact bel
  have g_9 := Lib.hid ((KGI.ik _ _ _ _ _ _ _).st _ _ _ g_8.out h9)
  have i_9 := Lib.hid ((KSI.ik N xs).st _ _ _ i_8.out h9)
  have HB9 := Lib.hid (HB8.out.trans (h9.mono HB8.out.size))
  clear e9 h9
  refine (HR1.out _ (HTabw4.out.below HB9.out).lim g_9.out.kg i_9.out.ks).mono ?_
  rintro r w10 ⟨v10, rfl, k10, h10⟩
  have g_10 := Lib.hid ((KGI.ik _ _ _ _ _ _ _).st _ _ _ g_9.out h10)
  have i_10 := Lib.hid ((KSI.ik N xs).st _ _ _ i_9.out h10)
  have HB10 := Lib.hid (HB9.out.trans (h10.mono HB9.out.size))
  obtain ⟨_, _, rfl, ⟨QA, QAc, rfl, q10⟩, rfl⟩ := k10
  have a_10 := Lib.hid (show KS N RN (.slice QA N QAc) w10 from ⟨_, _, rfl, q10⟩)
  clear q10 h10
  obtain ⟨fbg_0, fbg_1, fbg_2, fbg_3, fbg_4, fbg_l, -⟩ := (bg_rw4.out.below HB10.out).o5
  go_wp2_with (go_at_call 17; refine name_calls ?_; intro w11 e11; refine Hid.out ?_)
  unfold Hid
  have h11 : Below w10.heap.size w10 w11 := by rw [e11]; exact bel
  have a_11 := Lib.hid (KS.st _ _ _ _ _ a_10.out h11)
  have HB11 := Lib.hid (HB10.out.trans (h11.mono HB10.out.size))
  clear e11 h11
  refine (HGU.out _ (KG.st _ _ _ _ _ _ _ _ _ _ ug_rw4.out HB11.out)).mono ?_
  rintro r w12 ⟨v12, rfl, k12, h12⟩
  have a_12 := Lib.hid (KS.st _ _ _ _ _ a_11.out h12)
  have HB12 := Lib.hid (HB11.out.trans (h12.mono HB11.out.size))
  have g_12 := Lib.hid k12
  clear k12 h12
  clear fbg_0 fbg_1 fbg_2 fbg_3 fbg_4 fbg_l
  go_wp2_with (go_at_call 41; refine name_calls ?_; intro w13 e13; refine Hid.out ?_)
  unfold Hid
  have h13 : Below w12.heap.size w12 w13 := by rw [e13]; exact bel
  have a_13 := Lib.hid (KS.st _ _ _ _ _ a_12.out h13)
  have g_13 := Lib.hid ((KGI.ik _ _ _ _ _ _ _).st _ _ _ g_12.out h13)
  have HB13 := Lib.hid (HB12.out.trans (h13.mono HB12.out.size))
  clear e13 h13
  refine (HIN.out _ (KS.st _ _ _ _ _ ux_rw4.out HB13.out)).mono ?_
  rintro r w14 ⟨v14, rfl, k14, h14⟩
  have a_14 := Lib.hid (KS.st _ _ _ _ _ a_13.out h14)
  have g_14 := Lib.hid ((KGI.ik _ _ _ _ _ _ _).st _ _ _ g_13.out h14)
  have HB14 := Lib.hid (HB13.out.trans (h14.mono HB13.out.size))
  have i_14 := Lib.hid k14
  clear k14 h14
  go_wp2_with (go_at_call 42; refine name_calls ?_; intro w15 e15; refine Hid.out ?_)
  unfold Hid
  have h15 : Below w14.heap.size w14 w15 := by rw [e15]; exact bel
  have a_15 := Lib.hid (KS.st _ _ _ _ _ a_14.out h15)
  have g_15 := Lib.hid ((KGI.ik _ _ _ _ _ _ _).st _ _ _ g_14.out h15)
  have i_15 := Lib.hid ((KSI.ik N xs).st _ _ _ i_14.out h15)
  have HB15 := Lib.hid (HB14.out.trans (h15.mono HB14.out.size))
  clear e15 h15
  refine (HL1.out _ (HTabw4.out.below HB15.out).lim g_15.out.kg i_15.out.ks).mono ?_
  rintro r w16 ⟨v16, rfl, k16, h16⟩
  have a_16 := Lib.hid (KS.st _ _ _ _ _ a_15.out h16)
  have g_16 := Lib.hid ((KGI.ik _ _ _ _ _ _ _).st _ _ _ g_15.out h16)
  have i_16 := Lib.hid ((KSI.ik N xs).st _ _ _ i_15.out h16)
  have HB16 := Lib.hid (HB15.out.trans (h16.mono HB15.out.size))
  obtain ⟨_, _, rfl, ⟨QB, QBc, rfl, q16⟩, rfl⟩ := k16
  have b_16 := Lib.hid (show KS N LV (.slice QB N QBc) w16 from ⟨_, _, rfl, q16⟩)
  clear q16 h16
  obtain ⟨fbg_0, fbg_1, fbg_2, fbg_3, fbg_4, fbg_l, -⟩ := (bg_rw4.out.below HB16.out).o5
  go_wp2_with (go_at_call 17; refine name_calls ?_; intro w17 e17; refine Hid.out ?_)
  unfold Hid
  have h17 : Below w16.heap.size w16 w17 := by rw [e17]; exact bel
  have a_17 := Lib.hid (KS.st _ _ _ _ _ a_16.out h17)
  have b_17 := Lib.hid (KS.st _ _ _ _ _ b_16.out h17)
  have HB17 := Lib.hid (HB16.out.trans (h17.mono HB16.out.size))
  clear e17 h17
  refine (HGU.out _ (KG.st _ _ _ _ _ _ _ _ _ _ ug_rw4.out HB17.out)).mono ?_
  rintro r w18 ⟨v18, rfl, k18, h18⟩
  have a_18 := Lib.hid (KS.st _ _ _ _ _ a_17.out h18)
  have b_18 := Lib.hid (KS.st _ _ _ _ _ b_17.out h18)
  have HB18 := Lib.hid (HB17.out.trans (h18.mono HB17.out.size))
  have g_18 := Lib.hid k18
  clear k18 h18
  clear fbg_0 fbg_1 fbg_2 fbg_3 fbg_4 fbg_l
  go_wp2_with (go_at_call 41; refine name_calls ?_; intro w19 e19; refine Hid.out ?_)
  unfold Hid
  have h19 : Below w18.heap.size w18 w19 := by rw [e19]; exact bel
  have a_19 := Lib.hid (KS.st _ _ _ _ _ a_18.out h19)
  have b_19 := Lib.hid (KS.st _ _ _ _ _ b_18.out h19)
  have g_19 := Lib.hid ((KGI.ik _ _ _ _ _ _ _).st _ _ _ g_18.out h19)
  have HB19 := Lib.hid (HB18.out.trans (h19.mono HB18.out.size))
  clear e19 h19
  refine (HIN.out _ (KS.st _ _ _ _ _ ux_rw4.out HB19.out)).mono ?_
  rintro r w20 ⟨v20, rfl, k20, h20⟩
  have a_20 := Lib.hid (KS.st _ _ _ _ _ a_19.out h20)
  have b_20 := Lib.hid (KS.st _ _ _ _ _ b_19.out h20)
  have g_20 := Lib.hid ((KGI.ik _ _ _ _ _ _ _).st _ _ _ g_19.out h20)
  have HB20 := Lib.hid (HB19.out.trans (h20.mono HB19.out.size))
  have i_20 := Lib.hid k20
  clear k20 h20
  go_wp2_with (go_at_call 43; refine name_calls ?_; intro w21 e21; refine Hid.out ?_)
  unfold Hid
  have h21 : Below w20.heap.size w20 w21 := by rw [e21]; exact bel
  have a_21 := Lib.hid (KS.st _ _ _ _ _ a_20.out h21)
  have b_21 := Lib.hid (KS.st _ _ _ _ _ b_20.out h21)
  have g_21 := Lib.hid ((KGI.ik _ _ _ _ _ _ _).st _ _ _ g_20.out h21)
  have i_21 := Lib.hid ((KSI.ik N xs).st _ _ _ i_20.out h21)
  have HB21 := Lib.hid (HB20.out.trans (h21.mono HB20.out.size))
  clear e21 h21
  refine (HP1.out _ g_21.out.kg i_21.out.ks).mono ?_
  rintro r w22 ⟨v22, rfl, k22, h22⟩
  have a_22 := Lib.hid (KS.st _ _ _ _ _ a_21.out h22)
  have b_22 := Lib.hid (KS.st _ _ _ _ _ b_21.out h22)
  have g_22 := Lib.hid ((KGI.ik _ _ _ _ _ _ _).st _ _ _ g_21.out h22)
  have i_22 := Lib.hid ((KSI.ik N xs).st _ _ _ i_21.out h22)
  have HB22 := Lib.hid (HB21.out.trans (h22.mono HB21.out.size))
  obtain ⟨_, _, rfl, rfl, rfl⟩ := k22
  clear h22
  have ug_rw22 := Lib.hid (KG.st _ _ _ _ _ _ _ _ _ _ ug_rw4.out HB22.out)
  have ux_rw22 := Lib.hid (KS.st _ _ _ _ _ ux_rw4.out HB22.out)
  have bg_rw22 := Lib.hid (bg_rw4.out.below HB22.out)
  have HTabw22 := Lib.hid (HTabw4.out.below HB22.out)
  have HOw22 := Lib.hid (HOw4.out.trans (HB22.out.mono HOw4.out.size))
  have HZw22 := Lib.hid (Below.refl w22.heap.size w22)
  clear HB22 ug_rw4 ux_rw4 bg_rw4 HTabw4 HOw4
  obtain ⟨fbg_0, fbg_1, fbg_2, fbg_3, fbg_4, fbg_l, -⟩ := (bg_rw22.out.below HZw22.out).o5
  go_wp2_with (go_at_call 18; refine name_calls ?_; intro w23 e23; refine Hid.out ?_)
  unfold Hid
  have h23 : Below w22.heap.size w22 w23 := by rw [e23]; exact bel
  have HB23 := Lib.hid (HZw22.out.trans (h23.mono HZw22.out.size))
  have bp_23 := Lib.hid (show Blk w23 w22.heap.size #[(.int .i64 PH), (.int .i64 PX)] from by rw [e23]; exact Calm.Blk.new _ _ _)
  clear e23 h23
  refine (HCG.out _ (KG.st _ _ _ _ _ _ _ _ _ _ ug_rw22.out HB23.out)).mono ?_
  rintro r w24 ⟨v24, rfl, k24, h24⟩
  have bp_24 := Lib.hid (bp_23.out.below h24)
  have HB24 := Lib.hid (HB23.out.trans (h24.mono HB23.out.size))
  obtain rfl := k24
  clear h24
  clear fbg_0 fbg_1 fbg_2 fbg_3 fbg_4 fbg_l
  go_wp2_with (go_at_call 44; refine name_calls ?_; intro w25 e25; refine Hid.out ?_)
  unfold Hid
  have h25 : Below w24.heap.size w24 w25 := by rw [e25]; exact bel
  have bp_25 := Lib.hid (bp_24.out.below h25)
  have HB25 := Lib.hid (HB24.out.trans (h25.mono HB24.out.size))
  clear e25 h25
  refine (HCX.out _ (KS.st _ _ _ _ _ ux_rw22.out HB25.out)).mono ?_
  rintro r w26 ⟨v26, rfl, k26, h26⟩
  have bp_26 := Lib.hid (bp_25.out.below h26)
  have HB26 := Lib.hid (HB25.out.trans (h26.mono HB25.out.size))
  obtain rfl := k26
  clear h26
  go_wp2_with (go_at_call 31; refine name_calls ?_; intro w27 e27; refine Hid.out ?_)
  unfold Hid
  have h27 : Below w26.heap.size w26 w27 := by rw [e27]; exact bel
  have bp_27 := Lib.hid (bp_26.out.below h27)
  have HB27 := Lib.hid (HB26.out.trans (h27.mono HB26.out.size))
  have hcf : Hid (w27.heap[w26.heap.size]? = some (.cells #[(.int .i64 GE), (.int .i64 SE)] 3 (0, 0))) := Lib.hid (by rw [e27]; exact heap_new rfl)
  clear e27 h27
  refine (HFI.out _ _ hcf.out).mono ?_
  rintro r w28 ⟨v28, rfl, k28, h28⟩
  have bp_28 := Lib.hid (bp_27.out.below h28)
  have HB28 := Lib.hid (HB27.out.trans (h28.mono HB27.out.size))
  obtain rfl := k28
  clear h28
  clear hcf
  have ug_rw28 := Lib.hid (KG.st _ _ _ _ _ _ _ _ _ _ ug_rw22.out HB28.out)
  have ux_rw28 := Lib.hid (KS.st _ _ _ _ _ ux_rw22.out HB28.out)
  have a_rw28 := Lib.hid (KS.st _ _ _ _ _ a_22.out HB28.out)
  have b_rw28 := Lib.hid (KS.st _ _ _ _ _ b_22.out HB28.out)
  have bg_rw28 := Lib.hid (bg_rw22.out.below HB28.out)
  have HTabw28 := Lib.hid (HTabw22.out.below HB28.out)
  have HOw28 := Lib.hid (HOw22.out.trans (HB28.out.mono HOw22.out.size))
  have HZw28 := Lib.hid (Below.refl w28.heap.size w28)
  clear HB28 ug_rw22 ux_rw22 a_22 b_22 bg_rw22 HTabw22 HOw22
  go_wp2
  refine name_world ?_
  intro w29 e29
  have h29 : Below w28.heap.size w28 w29 := by rw [e29]; exact bel
  have HB29 := Lib.hid (HZw28.out.trans (h29.mono HZw28.out.size))
  have bq_29 := Lib.hid (show Blk w29 w28.heap.size #[(.int .i64 0), (.int .i64 0)] from by rw [e29]; exact Calm.Blk.new _ _ _)
  have tybq := Lib.hid (show IsTy w29 w28.heap.size 71 from by rw [e29]; exact IsTy.new)
  clear e29 h29
  obtain ⟨fbg_0, fbg_1, fbg_2, fbg_3, fbg_4, fbg_l, -⟩ := (bg_rw28.out.below HB29.out).o5
  refine Rel.region3 9 (by kernel_rfl) (by kernel_rfl) (by kernel_rfl) ?_
  simp only [List.take_succ_cons, List.take_zero, List.drop_succ_cons, List.drop_zero, List.filterMap_cons, List.filterMap_nil]
  iterate 2 (refine Rel.opz (hn := ?_); (try simp only [List.nil_append, List.cons_append]))
  refine Rel.callK 45 (KSI N RN) ((KSI.ik _ _).st) (Rel.gno rfl) ?_ ?_
  · intro a W hb hd hbase
    have q1 : a.eval (.tmp 56) = _ := (Rel.dep_at hd 0 rfl rfl)
    have q2 : a.eval (.tmp 57) = _ := (Rel.dep_at hd 1 rfl rfl)
    refine ⟨#[a.eval (.tmp 56), a.eval (.tmp 57)], ?_, by rw [q1, q2]; exact HRR.out _ (KG.st _ _ _ _ _ _ _ _ _ _ ug_rw28.out (HB29.out.trans (hb.mono HB29.out.size))) (KS.st _ _ _ _ _ ux_rw28.out (HB29.out.trans (hb.mono HB29.out.size)))⟩
    clear hd hbase hb
    go_simp
    (first | done | rfl | (refine ⟨?_, ?_⟩ <;> rfl))
  (try simp only [List.nil_append, List.cons_append])
  iterate 2 (refine Rel.opz (hn := ?_); (try simp only [List.nil_append, List.cons_append]))
  refine Rel.callK 46 (KSI N LV) ((KSI.ik _ _).st) (Rel.gno rfl) ?_ ?_
  · intro a W hb hd hbase
    have q1 : a.eval (.tmp 59) = _ := (Rel.dep_at hd 3 rfl rfl)
    have q2 : a.eval (.tmp 60) = _ := (Rel.dep_at hd 4 rfl rfl)
    refine ⟨#[a.eval (.tmp 59), a.eval (.tmp 60)], ?_, by rw [q1, q2]; exact HRL.out _ (KG.st _ _ _ _ _ _ _ _ _ _ ug_rw28.out (HB29.out.trans (hb.mono HB29.out.size))) (KS.st _ _ _ _ _ ux_rw28.out (HB29.out.trans (hb.mono HB29.out.size)))⟩
    clear hd hbase hb
    go_simp
    (first | done | rfl | (refine ⟨?_, ?_⟩ <;> rfl))
  (try simp only [List.nil_append, List.cons_append])
  iterate 2 (refine Rel.opz (hn := ?_); (try simp only [List.nil_append, List.cons_append]))
  refine Rel.callK 47 (KV (.agg #[(.int .i64 PH), (.int .i64 PX)])) (KV.st _) (Rel.gno rfl) ?_ ?_
  · intro a W hb hd hbase
    have q1 : a.eval (.tmp 62) = _ := (Rel.dep_at hd 6 rfl rfl)
    have q2 : a.eval (.tmp 63) = _ := (Rel.dep_at hd 7 rfl rfl)
    refine ⟨#[a.eval (.tmp 62), a.eval (.tmp 63)], ?_, by rw [q1, q2]; exact HRP.out _ (KG.st _ _ _ _ _ _ _ _ _ _ ug_rw28.out (HB29.out.trans (hb.mono HB29.out.size))) (KS.st _ _ _ _ _ ux_rw28.out (HB29.out.trans (hb.mono HB29.out.size)))⟩
    clear hd hbase hb
    go_simp
    (first | done | rfl | (refine ⟨?_, ?_⟩ <;> rfl))
  (try simp only [List.nil_append, List.cons_append])
  refine Rel.done3 ?_
  intro x w30 h30 hx
  simp only [Rel.facts, Nat.zero_add, Nat.reduceAdd] at hx
  clear fbg_0 fbg_1 fbg_2 fbg_3 fbg_4 fbg_l
  obtain ⟨e0, e1, ⟨RA, RAc, e2, hRA⟩, e3, e4, ⟨RB, RBc, e5, hRB⟩, e6, e7, e8, _⟩ := hx
  have e8 : x 8 = _ := e8
  simp only [Rel.fill, Nat.zero_add, Nat.reduceAdd, e0, e1, e2, e3, e4, e5, e6, e7, e8]
  simp only [Act.put, List.setIfInBounds_toArray, List.set_cons_zero, List.set_cons_succ]
  clear e0 e1 e2 e3 e4 e5 e6 e7 e8
  have bq_30 := Lib.hid (bq_29.out.below h30)
  have HB30 := Lib.hid (HB29.out.trans (h30.mono HB29.out.size))
  have ra_30 := Lib.hid (show KSI N RN (.slice RA N RAc) w30 from ⟨_, _, rfl, hRA⟩)
  have rb_30 := Lib.hid (show KSI N LV (.slice RB N RBc) w30 from ⟨_, _, rfl, hRB⟩)
  have tybq_30 := Lib.hid (tybq.out.below h30)
  clear hRA hRB h30
  obtain ⟨fbq_0, fbq_1, fbq_l, fbq_f⟩ := bq_30.out.o2
  go_wp2_with (go_at_call 38; refine name_calls ?_; intro w31 e31; refine Hid.out ?_)
  unfold Hid
  have hz31 : w28.heap.size ≤ w28.heap.size := Nat.le_refl _
  have hb31 : Below w28.heap.size w28 w31 := by rw [e31]; exact ((HB30.out.setCell (p := ⟨w28.heap.size, 0, none⟩) hz31 _).setCell (p := ⟨w28.heap.size, 1, none⟩) hz31 _)
  have bq_31 := Lib.hid (show Blk w31 w28.heap.size #[(.int .i64 PH), (.int .i64 PX)] by rw [e31]; exact ((bq_30.out.set (i := 0) (by simp) (.int .i64 PH)).set (i := 1) (by simp) (.int .i64 PX)))
  have ra_31 := Lib.hid (show KSI N RN (.slice RA N RAc) w31 by rw [e31]; exact (ra_30.out.put tybq_30.out (by decide) 0 _).put (tybq_30.out.put 0 _) (by decide) 1 _)
  have rb_31 := Lib.hid (show KSI N LV (.slice RB N RBc) w31 by rw [e31]; exact (rb_30.out.put tybq_30.out (by decide) 0 _).put (tybq_30.out.put 0 _) (by decide) 1 _)
  have HB31 := Lib.hid hb31
  clear fbq_0 fbq_1 fbq_l fbq_f
  clear e31
  refine (HSI.out _ (KS.st _ _ _ _ _ a_rw28.out HB31.out) ra_31.out.ks).mono ?_
  rintro r w32 ⟨v32, rfl, k32, h32⟩
  have ra_32 := Lib.hid ((KSI.ik _ _).st _ _ _ ra_31.out h32)
  have rb_32 := Lib.hid ((KSI.ik _ _).st _ _ _ rb_31.out h32)
  have bq_32 := Lib.hid (bq_31.out.below h32)
  have HB32 := Lib.hid (HB31.out.trans (h32.mono HB31.out.size))
  obtain rfl := k32
  clear h32
  go_wp2_with (go_at_call 38; refine name_calls ?_; intro w33 e33; refine Hid.out ?_)
  unfold Hid
  have h33 : Below w32.heap.size w32 w33 := by rw [e33]; exact bel
  have ra_33 := Lib.hid ((KSI.ik _ _).st _ _ _ ra_32.out h33)
  have rb_33 := Lib.hid ((KSI.ik _ _).st _ _ _ rb_32.out h33)
  have bq_33 := Lib.hid (bq_32.out.below h33)
  have HB33 := Lib.hid (HB32.out.trans (h33.mono HB32.out.size))
  clear e33 h33
  refine (HSJ.out _ (KS.st _ _ _ _ _ b_rw28.out HB33.out) rb_33.out.ks).mono ?_
  rintro r w34 ⟨v34, rfl, k34, h34⟩
  have ra_34 := Lib.hid ((KSI.ik _ _).st _ _ _ ra_33.out h34)
  have rb_34 := Lib.hid ((KSI.ik _ _).st _ _ _ rb_33.out h34)
  have bq_34 := Lib.hid (bq_33.out.below h34)
  have HB34 := Lib.hid (HB33.out.trans (h34.mono HB33.out.size))
  obtain rfl := k34
  clear h34
  obtain ⟨fbp_0, fbp_1, fbp_l, -⟩ := (bp_28.out.below HB34.out).o2
  obtain ⟨fbq_0, fbq_1, fbq_l, -⟩ := bq_34.out.o2
  go_wp2_with (go_at_call 15; refine name_calls ?_; intro w35 e35; refine Hid.out ?_)
  unfold Hid
  have h35 : Below w34.heap.size w34 w35 := by rw [e35]; exact bel
  have bq_35 := Lib.hid (bq_34.out.below h35)
  have HB35 := Lib.hid (HB34.out.trans (h35.mono HB34.out.size))
  clear e35 h35
  refine (awake_any _ (HTabw28.out.below HB35.out)).mono ?_
  rintro r w36 ⟨rfl, h36⟩
  have HB36 := Lib.hid (HB35.out.trans (h36.mono HB35.out.size))
  clear h36
  go_wp2
  go_ret
  exact ⟨by first | rfl | (simp; done), HOw28.out.trans (HB36.out.mono HOw28.out.size)⟩
end Go.Proofs.YtdeapbihbhoefaaDoor

/- ProtectRuns answers yes, whatever its arguments. -/
namespace Go.Proofs.YtdeapbihbhoefaaDoor
open Go.RowKit
open Calm (bcell Blk)
theorem ProtectRuns_any (lk ht rc : Int) (M L N : Nat) (ts gs xs : List Int) (u v : Value) (w : World) (hTab : PTab w) (hM : M = ts.length) (hL : L = gs.length) (hN : N = xs.length) (hu : KG lk ht rc M ts L gs u w) (hv : KS N xs v w) :
    Calls Tryd.prog 5 #[u, v] w fun r w' => r = .returned (.bool true) ∧ Below w.heap.size w w' := by
  by_cases b0 : M ≤ 9 ∧ L ≤ 9
  · by_cases b1 : N ≤ 40 ∨ N = 4097
    · by_cases b2 : runErr lk ht rc ts gs xs = 0
      · exact runs_m lk ht rc M L N ts gs xs u v w hTab hM hL hN b0 b1 b2 hu hv
      · exact runs_e lk ht rc M L N ts gs xs u v w hTab hM hL hN b0 b1 b2 hu hv
    · exact runs_1 lk ht rc M L N ts gs xs u v w hTab hM hL hN b0 b1 hu hv
  · exact runs_0 lk ht rc M L N ts gs xs u v w hTab hM hL hN b0 hu hv
end Go.Proofs.YtdeapbihbhoefaaDoor

/- ProtectRuns: the row and its card. -/
namespace Go.Proofs.YtdeapbihbhoefaaDoor.protectRuns
open Go.ChangeShapes Go.WideShapes Go.ChangeAt Go.RowKit Go.Flat
open Calm (bcell)

set_option maxRecDepth 100000 in
theorem contract (H : Type) (enc : TypeId × Value → H) (W : World) (base : Nat) (args : Array Value) (ds gs : List (DataW H)) (before : List MemPlace)
    (hval : ∀ (j : Nat) t v, Tryd.f5.params[j]? = some t → args[j]? = some v → Value.okWide Tryd.prog W .any base t v)
    (hW : DataW.Whole enc Tryd.prog Tryd.f5.params.toList Rows.protectRunsSpec.vars false W args.toList ds gs before) (hL : laidMetH Tryd.prog laidList W) :
    Calls Tryd.prog 5 args W fun e W' => ∃ v, e = .returned v ∧ Rows.protectRunsSpec.post enc Tryd.prog Tryd.f5 false true false false W args v W' := by
  have hW' := hW
  have hlt : ∀ p ∈ before, p.block < W.heap.size := fun p hp => hW.lt p hp
  obtain ⟨p, q, hA0, hV, rfl, hfz, hnd⟩ := hW
  have hA : DataW.TrodAll enc Tryd.prog W 0 (fun _ => true) true Tryd.f5.params.toList args.toList ds p := hA0
  rw [Tryd.params5] at hA hval
  obtain ⟨v0, v1, d0, d1, p0, p1, rfl, rfl, rfl, h0, h1⟩ := trodAll_two hA
  obtain ⟨rfl, rfl⟩ := trodVars_none hV
  obtain ⟨lk, ht, rc, A1, A2, c1, c2, ts, gs', rfl, k1, k2⟩ := open_guard (hval 0 _ _ rfl rfl) h0
  obtain ⟨B1, d1', xs1, rfl, q1a, q1b, j1⟩ := open_islice (hval 1 _ _ rfl rfl) h1
  refine (ProtectRuns_any lk ht rc _ _ _ ts gs' xs1 _ _ W (tab_of_laid hL) rfl rfl rfl ⟨A1, c1, A2, c2, rfl, k1, k2⟩ ⟨B1, d1', rfl, j1⟩).mono fun e W' ⟨he, hb⟩ => ?_
  subst he
  refine ⟨_, rfl, post_of_below (pa := p0 ++ p1) (pv := []) hW' (fun _ _ _ => trodAll_cons_mk (shut_bool Tryd.underlying4 _) trodAll_mk0) (fun sp hs => ?_) (fun _ _ => rfl) rfl hb (ok_one (by kernel_rfl) rfl (okWide_bool_mk Tryd.underlying4 _))⟩
  exact trodAll_below laidOut hb (by rw [Tryd.params5]; exact of_decide_eq_true (by kernel_rfl)) hA0 (fun x hx => hlt x (List.mem_append_left _ hx)) (fun x hx => hs x (List.mem_append_left _ hx))

/-- the witness: nothing. -/
noncomputable def wit : Array Value := #[.agg #[(.int .i64 0), (.int .i64 0), .slice none 0 0, (.int .i64 0), .slice none 0 0], .slice none 0 0]
theorem reads (os : Os) {H : Type} (enc : TypeId × Value → H) : ∃ ds places, DataW.whole enc Tryd.prog ((World.doorLaid Tryd.prog 35 os).forCall (fun _ _ => 0) ⟨#[], wit, []⟩).memory Tryd.f5.params.toList Rows.protectRunsSpec.vars false wit.toList 8 = some (ds, [], places) :=
  ⟨[.agg [.lit (.int .i64 0), .lit (.int .i64 0), .nil, .lit (.int .i64 0), .nil], .nil], [], by kernel_rfl⟩

set_option maxRecDepth 100000 in
theorem lifted (os : Os) (started : os.Started) (H : Type) (enc : TypeId × Value → H) (F : Stop.Interp) :
    ReturnsInHanded {} Tryd.checked os 5 .any ((OpenSpec.ofChange Rows.protectRunsSpec).preRow enc Tryd.prog Tryd.f5 Rows.protectRunsRow.domain false Rows.protectRunsRow.laid) (((OpenSpec.ofChange Rows.protectRunsSpec).at F).post enc Tryd.prog Tryd.f5 false true false false) := by
  obtain ⟨ds, places, hx⟩ := reads os enc
  refine returnsInHanded_of_row (C := Tryd.checked) (s := OpenSpec.ofChange Rows.protectRunsSpec) own started (by kernel_rfl) Tryd.func5
    (witness_row_at (enc := enc) (C := Tryd.checked) false (World.doorLaid Tryd.prog 35 os) wit rfl (door_vars os _) (door_rest os _) (by kernel_rfl)
      (OpenSpec.preRow_of_cond 8 hx (by kernel_rfl) (fun k hk => by cases hk) (by kernel_rfl) (laid_met os _))) ?_
  intro W base args ds gs before hval hW _ _ _ hL _ _
  exact contract H enc W base args ds gs before hval hW hL

theorem said : Rows.ProtectRunsSaid :=
  OpenClaim.holds_of_cond 5 Tryd.f5 rfl rfl rfl rfl rfl rfl rfl ⟨rfl, rfl, rfl, rfl, rfl⟩ rfl rfl rfl rfl rfl (by kernel_rfl) Tryd.func5 (by kernel_rfl)
    (of_decide_eq_true (by kernel_rfl)) (by unfold Func.isWrapper; first | (rw [if_pos (by decide +kernel)]; kernel_rfl) | (rw [if_neg (by decide +kernel)]; exact ⟨rfl, rfl⟩))
    (fun os started H enc _ F => by rw [OpenClaim.pre_eq_preRow]; exact lifted os started H enc F)

theorem plain (f : FuncId) (fn : Func) (hf : Tryd.pinned.checked.prog.funcNamed "woofer/wooferlaw08.ProtectRuns" = some f) (hfn : Tryd.pinned.checked.prog.funcs[f]? = some fn) :
    false = Tryd.pinned.checked.prog.looks [] ∧ ∀ (j : Nat) t, fn.params[j]? = some t → Tryd.pinned.checked.prog.wantsStandIn t = false := by
  obtain rfl : f = 5 := Option.some.inj ((show Tryd.prog.funcNamed "woofer/wooferlaw08.ProtectRuns" = some 5 by kernel_rfl).symm.trans hf) |>.symm
  obtain rfl : fn = Tryd.f5 := (Option.some.inj (Tryd.func5.symm.trans hfn)).symm
  refine ⟨by kernel_rfl, fun j t ht => ?_⟩
  rw [Tryd.params5] at ht
  have hall : ∀ t ∈ (#[24, 22] : Array TypeId), Tryd.prog.wantsStandIn t = false := of_decide_eq_true (by kernel_rfl)
  exact hall t (Array.mem_of_getElem? ht)

theorem card : Rows.ProtectRunsCardSaid :=
  Claim7.holds_tied_plain_at .later [] _ _ _ _ said (fun _ h => by cases h) (by kernel_rfl) (fun _ h => by cases h) protectRuns_row_tie rfl ⟨rfl, rfl⟩ (by kernel_rfl) rfl plain (by kernel_rfl)
end Go.Proofs.YtdeapbihbhoefaaDoor.protectRuns
