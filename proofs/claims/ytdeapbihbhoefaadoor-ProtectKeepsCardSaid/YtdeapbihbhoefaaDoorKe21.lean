/- Part 21 of the texts of the claim: LKe_3, LKe_m, LKeAll, KeRow. -/
import Derived.Test.YtdeapbihbhoefaaDoorKe20
import Derived.Test.YtdeapbihbhoefaaDoorKe15

/- ProtectKeeps, case 3. -/
namespace Go.Proofs.YtdeapbihbhoefaaDoor
open Go.RowKit
open Calm (bcell Blk)
set_option maxRecDepth 100000 in
set_option maxHeartbeats 8000000 in
theorem keeps_3 (lk ht rc : Int) (M L N : Nat) (ts gs xs : List Int) (u v : Value) (w : World) (hTab : PTab w) (hM : M = ts.length) (hL : L = gs.length) (hN : N = xs.length) (b0 : M ≤ 9 ∧ L ≤ 9) (b1 : N ≤ 40) (b2 : guardErr lk ht rc ts gs = 0) (b3 : ¬ sigErr xs = 0) (hu : KG lk ht rc M ts L gs u w) (hv : KS N xs v w) :
    Calls Tryd.prog 8 #[u, v] w fun r w' => r = .returned (.bool true) ∧ Below w.heap.size w w' := by
  obtain ⟨A1, c1, A2, c2, rfl, hT, hG⟩ := hu
  obtain ⟨A3, c3, rfl, hP⟩ := hv
  have HU := Lib.hid (show KG lk ht rc M ts L gs (.agg #[(.int .i64 lk), (.int .i64 ht), .slice A1 M c1, (.int .i64 rc), .slice A2 L c2]) w from ⟨_, _, _, _, rfl, hT, hG⟩)
  have HX := Lib.hid (show KS N xs (.slice A3 N c3) w from ⟨_, _, rfl, hP⟩)
  have HSH : Hid (∀ W, KG lk ht rc M ts L gs (.agg #[(.int .i64 lk), (.int .i64 ht), .slice A1 M c1, (.int .i64 rc), .slice A2 L c2]) W → Calls Tryd.prog 13 #[.agg #[(.int .i64 lk), (.int .i64 ht), .slice A1 M c1, (.int .i64 rc), .slice A2 L c2]] W (KP (KV (.bool true)) W)) := Lib.hid (fun W q => by have := Short_K q; rwa [decide_eq_true b0] at this)
  obtain ⟨b01, b02⟩ := b0
  have hlen : (N : Int) ≤ 40 := by omega
  obtain ⟨GE, hGE⟩ : ∃ GE, GE = guardErr lk ht rc ts gs := ⟨_, rfl⟩
  have HCG : Hid (∀ {x : Value} (W : World), KG lk ht rc M ts L gs x W → Calls Tryd.prog 18 #[x] W (KP (KV (.int .i64 GE)) W)) := Lib.hid (fun W q => by rw [hGE]; exact rGuard_K hM hL (by omega) (by omega) q)
  rw [← hGE] at b2
  obtain ⟨SE, hSE⟩ : ∃ SE, SE = sigErr xs := ⟨_, rfl⟩
  have HCX : Hid (∀ {x : Value} (W : World), KS N xs x W → Calls Tryd.prog 44 #[x] W (KP (KV (.int .i64 SE)) W)) := Lib.hid (fun W q => by rw [hSE]; exact xSignal_K hN (by omega) q)
  rw [← hSE] at b3
  subst b2
  have b3x : (SE != 0) = true := by simp [b3]
  have HTab := Lib.hid hTab
  clear hTab hM hL hN hT hG hP hGE hSE b3
  go_enter Tryd.func8, Tryd.ntmps8
  have HB0 := Lib.hid (Below.refl w.heap.size w)
  go_wp2_with (go_at_call 13; refine name_calls ?_; intro w1 e1; refine Hid.out ?_)
  unfold Hid
  have h1 : Below w.heap.size w w1 := by rw [e1]; exact bel
  have HB1 := Lib.hid (HB0.out.trans (h1.mono HB0.out.size))
  have bg_1 := Lib.hid (show Blk w1 w.heap.size #[(.int .i64 lk), (.int .i64 ht), .slice A1 M c1, (.int .i64 rc), .slice A2 L c2] from by rw [e1]; (repeat (first | ((with_reducible refine Blk.at_ ?_); focus (first | rfl | (simp; done) | (simp; omega))) | (with_reducible refine Blk.alloc ?_ _) | (with_reducible refine Blk.below ?_ (by with_reducible assumption)) | (with_reducible refine Blk.drew ?_))))
  clear e1 h1
  refine (HSH.out _ (KG.st _ _ _ _ _ _ _ _ _ _ HU.out HB1.out)).mono ?_
  rintro r w2 ⟨v2, rfl, k2, h2⟩
  have bg_2 := Lib.hid (bg_1.out.below h2)
  have HB2 := Lib.hid (HB1.out.trans (h2.mono HB1.out.size))
  obtain rfl := k2
  clear h2
  have ug_rw2 := Lib.hid (KG.st _ _ _ _ _ _ _ _ _ _ HU.out HB2.out)
  have ux_rw2 := Lib.hid (KS.st _ _ _ _ _ HX.out HB2.out)
  have HTabw2 := Lib.hid (HTab.out.below HB2.out)
  have HZw2 := Lib.hid (Below.refl w2.heap.size w2)
  clear HU HX HTab
  obtain ⟨fbg_0, fbg_1, fbg_2, fbg_3, fbg_4, fbg_l, -⟩ := (bg_2.out.below HZw2.out).o5
  go_wp2_with (go_at_call 18; refine name_calls ?_; intro w3 e3; refine Hid.out ?_)
  unfold Hid
  have h3 : Below w2.heap.size w2 w3 := by rw [e3]; exact bel
  have HB3 := Lib.hid (HZw2.out.trans (h3.mono HZw2.out.size))
  clear e3 h3
  refine (HCG.out _ (KG.st _ _ _ _ _ _ _ _ _ _ ug_rw2.out HB3.out)).mono ?_
  rintro r w4 ⟨v4, rfl, k4, h4⟩
  have HB4 := Lib.hid (HB3.out.trans (h4.mono HB3.out.size))
  obtain rfl := k4
  clear h4
  clear fbg_0 fbg_1 fbg_2 fbg_3 fbg_4 fbg_l
  go_wp2_with (go_at_call 44; refine name_calls ?_; intro w5 e5; refine Hid.out ?_)
  unfold Hid
  have h5 : Below w4.heap.size w4 w5 := by rw [e5]; exact bel
  have HB5 := Lib.hid (HB4.out.trans (h5.mono HB4.out.size))
  clear e5 h5
  refine (HCX.out _ (KS.st _ _ _ _ _ ux_rw2.out HB5.out)).mono ?_
  rintro r w6 ⟨v6, rfl, k6, h6⟩
  have HB6 := Lib.hid (HB5.out.trans (h6.mono HB5.out.size))
  obtain rfl := k6
  clear h6
  go_wp2_with (go_at_call 15; refine name_calls ?_; intro w7 e7; refine Hid.out ?_)
  unfold Hid
  have h7 : Below w6.heap.size w6 w7 := by rw [e7]; exact bel
  have HB7 := Lib.hid (HB6.out.trans (h7.mono HB6.out.size))
  clear e7 h7
  refine (awake_any _ (HTabw2.out.below HB7.out)).mono ?_
  rintro r w8 ⟨rfl, h8⟩
  have HB8 := Lib.hid (HB7.out.trans (h8.mono HB7.out.size))
  clear h8
  go_wp2
  go_ret
  exact ⟨by first | rfl | (simp; done), HB2.out.trans (HB8.out.mono HB2.out.size)⟩
end Go.Proofs.YtdeapbihbhoefaaDoor

/- ProtectKeeps, case m. -/
namespace Go.Proofs.YtdeapbihbhoefaaDoor
open Go.RowKit
open Calm (bcell Blk)
set_option maxRecDepth 100000 in
set_option maxHeartbeats 8000000 in
theorem keeps_m (lk ht rc : Int) (M L N : Nat) (ts gs xs : List Int) (u v : Value) (w : World) (hTab : PTab w) (hM : M = ts.length) (hL : L = gs.length) (hN : N = xs.length) (b0 : M ≤ 9 ∧ L ≤ 9) (b1 : N ≤ 40) (b2 : guardErr lk ht rc ts gs = 0) (b3 : sigErr xs = 0) (hu : KG lk ht rc M ts L gs u w) (hv : KS N xs v w) :
    Calls Tryd.prog 8 #[u, v] w fun r w' => r = .returned (.bool true) ∧ Below w.heap.size w w' := by
  obtain ⟨A1, c1, A2, c2, rfl, hT, hG⟩ := hu
  obtain ⟨A3, c3, rfl, hP⟩ := hv
  have HU := Lib.hid (show KG lk ht rc M ts L gs (.agg #[(.int .i64 lk), (.int .i64 ht), .slice A1 M c1, (.int .i64 rc), .slice A2 L c2]) w from ⟨_, _, _, _, rfl, hT, hG⟩)
  have HX := Lib.hid (show KS N xs (.slice A3 N c3) w from ⟨_, _, rfl, hP⟩)
  have HSH : Hid (∀ W, KG lk ht rc M ts L gs (.agg #[(.int .i64 lk), (.int .i64 ht), .slice A1 M c1, (.int .i64 rc), .slice A2 L c2]) W → Calls Tryd.prog 13 #[.agg #[(.int .i64 lk), (.int .i64 ht), .slice A1 M c1, (.int .i64 rc), .slice A2 L c2]] W (KP (KV (.bool true)) W)) := Lib.hid (fun W q => by have := Short_K q; rwa [decide_eq_true b0] at this)
  obtain ⟨b01, b02⟩ := b0
  have hlen : (N : Int) ≤ 40 := by omega
  obtain ⟨GE, hGE⟩ : ∃ GE, GE = guardErr lk ht rc ts gs := ⟨_, rfl⟩
  have HCG : Hid (∀ {x : Value} (W : World), KG lk ht rc M ts L gs x W → Calls Tryd.prog 18 #[x] W (KP (KV (.int .i64 GE)) W)) := Lib.hid (fun W q => by rw [hGE]; exact rGuard_K hM hL (by omega) (by omega) q)
  rw [← hGE] at b2
  obtain ⟨SE, hSE⟩ : ∃ SE, SE = sigErr xs := ⟨_, rfl⟩
  have HCX : Hid (∀ {x : Value} (W : World), KS N xs x W → Calls Tryd.prog 44 #[x] W (KP (KV (.int .i64 SE)) W)) := Lib.hid (fun W q => by rw [hSE]; exact xSignal_K hN (by omega) q)
  rw [← hSE] at b3
  have b2' := b2
  have b3' := b3
  rw [hGE] at b2'
  rw [hSE] at b3'
  subst b2 b3
  have hV := guard_valid b2'
  have hX := sigErr_in b3'
  have hll := hV.gl
  have hgb := hV.gb
  obtain ⟨lk1, lk2⟩ := hV.lk
  obtain ⟨ht1, ht2⟩ := hV.ht
  have HN := Lib.hid hN
  have HN40 := Lib.hid b1
  have HGB := Lib.hid hgb
  obtain ⟨m, rfl⟩ : ∃ m, L = m + 1 := ⟨L - 1, by omega⟩
  have HL := Lib.hid hL
  have hm7 : m ≤ 7 := by omega
  have hlvB : ∀ i, (stAt lk ht rc ts gs xs i).lv ≤ 8 := fun i => by have := (good_at hV hX i).lv; omega
  have HLB := Lib.hid hlvB
  obtain ⟨A, hAe⟩ : ∃ A, A = outsK lk ht rc ts gs xs N := ⟨_, rfl⟩
  obtain ⟨B, hBe⟩ : ∃ B, B = lvsK lk ht rc ts gs xs N := ⟨_, rfl⟩
  have hAl : N = A.length := by rw [hAe]; exact (outsK_len _ _ _ _ _ _ _).symm
  have hBl : N = B.length := by rw [hBe]; exact (lvsK_len _ _ _ _ _ _ _).symm
  have HNA := Lib.hid hAl
  have HNB := Lib.hid hBl
  have HAo := Lib.hid hAe
  have HBo := Lib.hid hBe
  have hAI : inB 2048 A := by
    intro z hz
    rw [hAe] at hz
    obtain ⟨i, _, rfl⟩ := List.mem_map.1 hz
    exact (step_good hV (good_at hV hX i) (inB_get hX (by omega) i)).2.1
  have HAI := Lib.hid hAI
  have hL0 : (stAt lk ht rc ts gs xs 0).lv = m := by show gs.length - 1 = m; omega
  have HL0 := Lib.hid hL0
  have HRD : Hid (∀ i, i < N → ∃ h x y gk lv k, Round lk ht rc ts gs xs N i h x y gk lv k) := Lib.hid (fun i hi => keeps_round hV hX hi)
  have HGU : Hid (∀ {x : Value} (W : World), KG lk ht rc M ts (m + 1) gs x W → Calls Tryd.prog 17 #[x] W (KP (KGI lk ht rc M ts (m + 1) gs) W)) := Lib.hid (fun W q => guard_K hM hL (by omega) (by omega) q)
  have HIN : Hid (∀ {x : Value} (W : World), KS N xs x W → Calls Tryd.prog 41 #[x] W (KP (KSI N xs) W)) := Lib.hid (fun W q => ints_K hN (by omega) q)
  have HR1 : Hid (∀ {a y : Value} (W : World), Lim W → KG lk ht rc M ts (m + 1) gs a W → KS N xs y W → Calls Tryd.prog 40 #[a, y] W (KP (K2 (KSC N A) (KV (.int .i64 0))) W)) := Lib.hid (fun W q0 q q2 => by rw [hAe]; exact xRun_cap hM hL hN (by omega) (by omega) (by omega) q0 q q2 b2' b3')
  have HL1 : Hid (∀ {a y : Value} (W : World), Lim W → KG lk ht rc M ts (m + 1) gs a W → KS N xs y W → Calls Tryd.prog 42 #[a, y] W (KP (K2 (KS N B) (KV (.int .i64 0))) W)) := Lib.hid (fun W q0 q q2 => by rw [hBe]; exact xLevels_ok hM hL hN (by omega) (by omega) (by omega) q0 q q2 b2' b3')
  have HKE : Hid (∀ {u v : Value} (W : World) (h : Int) (n : Nat) (os : List Int), 0 ≤ h ∧ h ≤ 536870912 → n = os.length → 0 < n → n ≤ 10000 → inB 2048 os → KG lk ht rc M ts (m + 1) gs u W → KS n os v W → Calls Tryd.prog 62 #[u, (.int .i64 h), v] W (KP (KV (.bool (keepsF lk ht rc h ts os))) W)) := Lib.hid (fun W h n os q1 q2 q3 q4 q5 q6 q7 => keeps_K hV.lk ⟨q1.1, by omega⟩ hM q2 q3 (by omega) q4 hV.tb q5 q6 q7)
  have HTab := Lib.hid hTab
  clear hTab hM hL hN hT hG hP hGE hSE hV hX b2' b3' b01 b02 hll hgb hlvB hAl hBl hAe hBe hAI hL0 b1
  go_enter Tryd.func8, Tryd.ntmps8
  have HB0 := Lib.hid (Below.refl w.heap.size w)
  go_wp2_with (go_at_call 13; refine name_calls ?_; intro w1 e1; refine Hid.out ?_)
  unfold Hid
  have h1 : Below w.heap.size w w1 := by rw [e1]; exact bel
  have HB1 := Lib.hid (HB0.out.trans (h1.mono HB0.out.size))
  have bg_1 := Lib.hid (show Blk w1 w.heap.size #[(.int .i64 lk), (.int .i64 ht), .slice A1 M c1, (.int .i64 rc), .slice A2 (m + 1) c2] from by rw [e1]; (repeat (first | ((with_reducible refine Blk.at_ ?_); focus (first | rfl | (simp; done) | (simp; omega))) | (with_reducible refine Blk.alloc ?_ _) | (with_reducible refine Blk.below ?_ (by with_reducible assumption)) | (with_reducible refine Blk.drew ?_))))
  clear e1 h1
  refine (HSH.out _ (KG.st _ _ _ _ _ _ _ _ _ _ HU.out HB1.out)).mono ?_
  rintro r w2 ⟨v2, rfl, k2, h2⟩
  have bg_2 := Lib.hid (bg_1.out.below h2)
  have HB2 := Lib.hid (HB1.out.trans (h2.mono HB1.out.size))
  obtain rfl := k2
  clear h2
  have ug_rw2 := Lib.hid (KG.st _ _ _ _ _ _ _ _ _ _ HU.out HB2.out)
  have ux_rw2 := Lib.hid (KS.st _ _ _ _ _ HX.out HB2.out)
  have HTabw2 := Lib.hid (HTab.out.below HB2.out)
  have HZw2 := Lib.hid (Below.refl w2.heap.size w2)
  clear HU HX HTab
  obtain ⟨fbg_0, fbg_1, fbg_2, fbg_3, fbg_4, fbg_l, -⟩ := (bg_2.out.below HZw2.out).o5
  go_wp2_with (go_at_call 18; refine name_calls ?_; intro w3 e3; refine Hid.out ?_)
  unfold Hid
  have h3 : Below w2.heap.size w2 w3 := by rw [e3]; exact bel
  have HB3 := Lib.hid (HZw2.out.trans (h3.mono HZw2.out.size))
  clear e3 h3
  refine (HCG.out _ (KG.st _ _ _ _ _ _ _ _ _ _ ug_rw2.out HB3.out)).mono ?_
  rintro r w4 ⟨v4, rfl, k4, h4⟩
  have HB4 := Lib.hid (HB3.out.trans (h4.mono HB3.out.size))
  obtain rfl := k4
  clear h4
  clear fbg_0 fbg_1 fbg_2 fbg_3 fbg_4 fbg_l
  go_wp2_with (go_at_call 44; refine name_calls ?_; intro w5 e5; refine Hid.out ?_)
  unfold Hid
  have h5 : Below w4.heap.size w4 w5 := by rw [e5]; exact bel
  have HB5 := Lib.hid (HB4.out.trans (h5.mono HB4.out.size))
  clear e5 h5
  refine (HCX.out _ (KS.st _ _ _ _ _ ux_rw2.out HB5.out)).mono ?_
  rintro r w6 ⟨v6, rfl, k6, h6⟩
  have HB6 := Lib.hid (HB5.out.trans (h6.mono HB5.out.size))
  obtain rfl := k6
  clear h6
  have ug_rw6 := Lib.hid (KG.st _ _ _ _ _ _ _ _ _ _ ug_rw2.out HB6.out)
  have ux_rw6 := Lib.hid (KS.st _ _ _ _ _ ux_rw2.out HB6.out)
  have bg_rw6 := Lib.hid (bg_2.out.below HB6.out)
  have HTabw6 := Lib.hid (HTabw2.out.below HB6.out)
  have HOw6 := Lib.hid (HB2.out.trans (HB6.out.mono HB2.out.size))
  have HZw6 := Lib.hid (Below.refl w6.heap.size w6)
  clear HB6 ug_rw2 ux_rw2 bg_2 HTabw2 HB2
  obtain ⟨fbg_0, fbg_1, fbg_2, fbg_3, fbg_4, fbg_l, -⟩ := (bg_rw6.out.below HZw6.out).o5
  go_wp2_with (go_at_call 17; refine name_calls ?_; intro w7 e7; refine Hid.out ?_)
  unfold Hid
  have h7 : Below w6.heap.size w6 w7 := by rw [e7]; exact bel
  have HB7 := Lib.hid (HZw6.out.trans (h7.mono HZw6.out.size))
  clear e7 h7
  refine (HGU.out _ (KG.st _ _ _ _ _ _ _ _ _ _ ug_rw6.out HB7.out)).mono ?_
  rintro r w8 ⟨v8, rfl, k8, h8⟩
  have HB8 := Lib.hid (HB7.out.trans (h8.mono HB7.out.size))
  have g_8 := Lib.hid k8
  clear k8 h8
  clear fbg_0 fbg_1 fbg_2 fbg_3 fbg_4 fbg_l
  go_wp2_with (go_at_call 41; refine name_calls ?_; intro w9 e9; refine Hid.out ?_)
  unfold Hid
  have h9 : Below w8.heap.size w8 w9 := by rw [e9]; exact bel
  have g_9 := Lib.hid ((KGI.ik _ _ _ _ _ _ _).st _ _ _ g_8.out h9)
  have HB9 := Lib.hid (HB8.out.trans (h9.mono HB8.out.size))
  clear e9 h9
  refine (HIN.out _ (KS.st _ _ _ _ _ ux_rw6.out HB9.out)).mono ?_
  rintro r w10 ⟨v10, rfl, k10, h10⟩
  have g_10 := Lib.hid ((KGI.ik _ _ _ _ _ _ _).st _ _ _ g_9.out h10)
  have HB10 := Lib.hid (HB9.out.trans (h10.mono HB9.out.size))
  have i_10 := Lib.hid k10
  clear k10 h10
  go_wp2_with (go_at_call 40; refine name_calls ?_; intro w11 e11; refine Hid.out ?_)
  unfold Hid
  have h11 : Below w10.heap.size w10 w11 := by rw [e11]; exact bel
  have g_11 := Lib.hid ((KGI.ik _ _ _ _ _ _ _).st _ _ _ g_10.out h11)
  have i_11 := Lib.hid ((KSI.ik N xs).st _ _ _ i_10.out h11)
  have HB11 := Lib.hid (HB10.out.trans (h11.mono HB10.out.size))
  clear e11 h11
  refine (HR1.out _ (HTabw6.out.below HB11.out).lim g_11.out.kg i_11.out.ks).mono ?_
  rintro r w12 ⟨v12, rfl, k12, h12⟩
  have g_12 := Lib.hid ((KGI.ik _ _ _ _ _ _ _).st _ _ _ g_11.out h12)
  have i_12 := Lib.hid ((KSI.ik N xs).st _ _ _ i_11.out h12)
  have HB12 := Lib.hid (HB11.out.trans (h12.mono HB11.out.size))
  obtain ⟨_, _, rfl, ⟨QA, QAc, rfl, q12, qa1, qa2⟩, rfl⟩ := k12
  have a_12 := Lib.hid (show KS N A (.slice QA N QAc) w12 from ⟨_, _, rfl, q12⟩)
  have HQA := Lib.hid (show N ≤ QAc ∧ QAc ≤ maxLen from ⟨qa1, qa2⟩)
  clear q12 h12 qa1 qa2
  obtain ⟨fbg_0, fbg_1, fbg_2, fbg_3, fbg_4, fbg_l, -⟩ := (bg_rw6.out.below HB12.out).o5
  go_wp2_with (go_at_call 17; refine name_calls ?_; intro w13 e13; refine Hid.out ?_)
  unfold Hid
  have h13 : Below w12.heap.size w12 w13 := by rw [e13]; exact bel
  have a_13 := Lib.hid (KS.st _ _ _ _ _ a_12.out h13)
  have HB13 := Lib.hid (HB12.out.trans (h13.mono HB12.out.size))
  clear e13 h13
  refine (HGU.out _ (KG.st _ _ _ _ _ _ _ _ _ _ ug_rw6.out HB13.out)).mono ?_
  rintro r w14 ⟨v14, rfl, k14, h14⟩
  have a_14 := Lib.hid (KS.st _ _ _ _ _ a_13.out h14)
  have HB14 := Lib.hid (HB13.out.trans (h14.mono HB13.out.size))
  have g_14 := Lib.hid k14
  clear k14 h14
  clear fbg_0 fbg_1 fbg_2 fbg_3 fbg_4 fbg_l
  go_wp2_with (go_at_call 41; refine name_calls ?_; intro w15 e15; refine Hid.out ?_)
  unfold Hid
  have h15 : Below w14.heap.size w14 w15 := by rw [e15]; exact bel
  have a_15 := Lib.hid (KS.st _ _ _ _ _ a_14.out h15)
  have g_15 := Lib.hid ((KGI.ik _ _ _ _ _ _ _).st _ _ _ g_14.out h15)
  have HB15 := Lib.hid (HB14.out.trans (h15.mono HB14.out.size))
  clear e15 h15
  refine (HIN.out _ (KS.st _ _ _ _ _ ux_rw6.out HB15.out)).mono ?_
  rintro r w16 ⟨v16, rfl, k16, h16⟩
  have a_16 := Lib.hid (KS.st _ _ _ _ _ a_15.out h16)
  have g_16 := Lib.hid ((KGI.ik _ _ _ _ _ _ _).st _ _ _ g_15.out h16)
  have HB16 := Lib.hid (HB15.out.trans (h16.mono HB15.out.size))
  have i_16 := Lib.hid k16
  clear k16 h16
  go_wp2_with (go_at_call 42; refine name_calls ?_; intro w17 e17; refine Hid.out ?_)
  unfold Hid
  have h17 : Below w16.heap.size w16 w17 := by rw [e17]; exact bel
  have a_17 := Lib.hid (KS.st _ _ _ _ _ a_16.out h17)
  have g_17 := Lib.hid ((KGI.ik _ _ _ _ _ _ _).st _ _ _ g_16.out h17)
  have i_17 := Lib.hid ((KSI.ik N xs).st _ _ _ i_16.out h17)
  have HB17 := Lib.hid (HB16.out.trans (h17.mono HB16.out.size))
  clear e17 h17
  refine (HL1.out _ (HTabw6.out.below HB17.out).lim g_17.out.kg i_17.out.ks).mono ?_
  rintro r w18 ⟨v18, rfl, k18, h18⟩
  have a_18 := Lib.hid (KS.st _ _ _ _ _ a_17.out h18)
  have g_18 := Lib.hid ((KGI.ik _ _ _ _ _ _ _).st _ _ _ g_17.out h18)
  have i_18 := Lib.hid ((KSI.ik N xs).st _ _ _ i_17.out h18)
  have HB18 := Lib.hid (HB17.out.trans (h18.mono HB17.out.size))
  obtain ⟨_, _, rfl, ⟨QB, QBc, rfl, q18⟩, rfl⟩ := k18
  have b_18 := Lib.hid (show KS N B (.slice QB N QBc) w18 from ⟨_, _, rfl, q18⟩)
  clear q18 h18
  have ug_rw18 := Lib.hid (KG.st _ _ _ _ _ _ _ _ _ _ ug_rw6.out HB18.out)
  have ux_rw18 := Lib.hid (KS.st _ _ _ _ _ ux_rw6.out HB18.out)
  have bg_rw18 := Lib.hid (bg_rw6.out.below HB18.out)
  have HTabw18 := Lib.hid (HTabw6.out.below HB18.out)
  have HOw18 := Lib.hid (HOw6.out.trans (HB18.out.mono HOw6.out.size))
  have HZw18 := Lib.hid (Below.refl w18.heap.size w18)
  clear HB18 ug_rw6 ux_rw6 bg_rw6 HTabw6 HOw6
  obtain ⟨fbg_0, fbg_1, fbg_2, fbg_3, fbg_4, fbg_l, -⟩ := (bg_rw18.out.below HZw18.out).o5
  go_wp2
  refine Rel.region3 5 (by kernel_rfl) (by kernel_rfl) (by kernel_rfl) ?_
  simp only [List.take_succ_cons, List.take_zero, List.drop_succ_cons, List.drop_zero, List.filterMap_cons, List.filterMap_nil]
  iterate 5 (refine Rel.opz (hn := ?_); (try simp only [List.nil_append, List.cons_append]))
  refine Rel.done3 ?_
  intro x w19 h19 hx
  simp only [Rel.facts, Nat.zero_add, Nat.reduceAdd] at hx
  clear fbg_0 fbg_1 fbg_2 fbg_3 fbg_4 fbg_l
  obtain ⟨e0, e1, e2, e3, e4, _⟩ := hx
  simp only [Rel.fill, Nat.zero_add, Nat.reduceAdd, e0, e1, e2, e3, e4]
  simp only [Act.put, List.setIfInBounds_toArray, List.set_cons_zero, List.set_cons_succ]
  clear e0 e1 e2 e3 e4
  have HB19 := Lib.hid (HZw18.out.trans (h19.mono HZw18.out.size))
  clear h19
  have ug_rw19 := Lib.hid (KG.st _ _ _ _ _ _ _ _ _ _ ug_rw18.out HB19.out)
  have ux_rw19 := Lib.hid (KS.st _ _ _ _ _ ux_rw18.out HB19.out)
  have a_rw19 := Lib.hid (KS.st _ _ _ _ _ a_18.out HB19.out)
  have b_rw19 := Lib.hid (KS.st _ _ _ _ _ b_18.out HB19.out)
  have bg_rw19 := Lib.hid (bg_rw18.out.below HB19.out)
  have HTabw19 := Lib.hid (HTabw18.out.below HB19.out)
  have HOw19 := Lib.hid (HOw18.out.trans (HB19.out.mono HOw18.out.size))
  have HZw19 := Lib.hid (Below.refl w19.heap.size w19)
  clear HB19 ug_rw18 ux_rw18 a_18 b_18 bg_rw18 HTabw18 HOw18
  obtain ⟨fbg_0, fbg_1, fbg_2, fbg_3, fbg_4, fbg_l, -⟩ := (bg_rw19.out.below HZw19.out).o5
  go_wp2
  clear fbg_0 fbg_1 fbg_2 fbg_3 fbg_4 fbg_l
  go_loopw [9, 10, 76] (fun h lv i wr => ∃ k : Nat, k ≤ N ∧ i = (.int .i64 ((k : Int))) ∧ h = (.int .i64 ((stAt lk ht rc ts gs xs k).h)) ∧ lv = (.int .i64 (((stAt lk ht rc ts gs xs k).lv : Int))) ∧ Below w19.heap.size w19 wr) (fun _ _ i _ => N - (intOf i).toNat)
  case atStart => exact ⟨0, Nat.zero_le _, rfl, rfl, by rw [HL0.out], HZw19.out⟩
  case round =>
    obtain ⟨i, hi, rfl, rfl, rfl, kb⟩ := hrel
    have KB := Lib.hid kb
    clear kb
    by_cases hlt : i < N
    · obtain ⟨h, xi, y, gk, lv, k, R⟩ := HRD.out i hlt
      obtain ⟨hh, hlv, hx, hy, hk, hgk, ⟨hb1, hb2⟩, ⟨x1, x2⟩, ⟨y1, y2⟩, gkb, yby, kl, kvl, ab, sg, h1, l1, yes, no⟩ := R
      rw [← hh, ← hlv]
      have HCA := Lib.hid (KS.st _ _ _ _ _ a_rw19.out KB.out)
      have HCB := Lib.hid (KS.st _ _ _ _ _ b_rw19.out KB.out)
      have HCX2 := Lib.hid (KS.st _ _ _ _ _ ux_rw19.out KB.out)
      have HUW := Lib.hid (KG.st _ _ _ _ _ _ _ _ _ _ ug_rw19.out KB.out)
      have bg_r := Lib.hid (bg_rw19.out.below KB.out)
      obtain ⟨_, _, ee, hcA⟩ := HCA.out
      cases ee
      have HCA0 := Lib.hid hcA
      obtain ⟨bA, oA, hA', hbl, hcell⟩ := hcA (by rw [← HNA.out]; omega)
      subst hA'
      have hck := hcell i (by rw [← HNA.out]; exact hlt)
      clear hcell hbl hcA
      obtain ⟨_, _, ee, hcB⟩ := HCB.out
      cases ee
      obtain ⟨bB, oB, hA', hbl, hcell⟩ := hcB (by rw [← HNB.out]; omega)
      subst hA'
      have hdk := hcell i (by rw [← HNB.out]; exact hlt)
      clear hcell hbl hcB
      obtain ⟨_, _, ee, hcX⟩ := HCX2.out
      cases ee
      obtain ⟨bX, oX, hA', hbl, hcell⟩ := hcX (by rw [← HN.out]; omega)
      subst hA'
      have hxk := hcell i (by rw [← HN.out]; exact hlt)
      have hblX := hbl
      clear hcell hbl hcX
      obtain ⟨_, _, _, _, ee, hcT, hcG⟩ := HUW.out
      cases ee
      obtain ⟨bG, oG, hA', hbl, hcell⟩ := hcG (by rw [← HL.out]; omega)
      subst hA'
      have HGC := Lib.hid hcell
      have hgk2 := hcell k kl
      have hblG := hbl
      clear hcell hbl hcG hcT
      rw [HAo.out] at hck
      rw [HBo.out] at hdk
      rw [← hy] at hck
      rw [← hk] at hdk
      rw [← hx] at hxk
      rw [← hgk] at hgk2
      have HSC : Hid (∀ W, Calls Tryd.prog 61 #[(.int .i64 xi), (.int .i64 gk)] W (KP (KV (.int .i64 y)) W)) := Lib.hid (fun W => by have := scaled_K (W := W) ⟨x1, x2⟩ gkb; rwa [← yby] at this)
      have HXo := Lib.hid hx
      have HYES := Lib.hid yes
      have HNO := Lib.hid no
      have HH1 := Lib.hid h1
      have HL1' := Lib.hid l1
      have HKG := Lib.hid hgk
      obtain ⟨gk1, gk2⟩ := gkb
      have hkm : k ≤ m := by rw [← HL.out] at kl; omega
      have HKL := Lib.hid hkm
      obtain ⟨ay, hay⟩ : ∃ ay, ay = absI y := ⟨_, rfl⟩
      obtain ⟨ax, hax⟩ : ∃ ax, ax = absI xi := ⟨_, rfl⟩
      rw [← hay, ← hax] at ab
      have hmxy : ∀ (a : Array TypeId) (t : TypeId) (W : World), (Builtin.max_ a t #[(.int .i64 y), (.int .i64 (-y))]).run Tryd.prog W = .ok (.int .i64 ay) W := fun a t W => by rw [max2_any, hay, mx_eq]; rfl
      have hmxxi : ∀ (a : Array TypeId) (t : TypeId) (W : World), (Builtin.max_ a t #[(.int .i64 xi), (.int .i64 (-xi))]).run Tryd.prog W = .ok (.int .i64 ax) W := fun a t W => by rw [max2_any, hax, mx_eq]; rfl
      obtain ⟨p, hp⟩ : ∃ p, y * xi = p := ⟨_, rfl⟩
      have hpb := mul_bd (a := y) (b := xi) (A := 2048) (B := 2048) ⟨y1, y2⟩ ⟨x1, x2⟩
      rw [hp] at hpb sg
      obtain ⟨p1, p2⟩ := hpb
      obtain ⟨q, hq⟩ : ∃ q, y * y = q := ⟨_, rfl⟩
      have hqb := sq_bd (y := y) ⟨y1, y2⟩
      rw [hq] at hqb HH1
      obtain ⟨q1, q2⟩ := hqb
      have HP := Lib.hid hp
      have HQ := Lib.hid hq
      obtain ⟨s1, s2⟩ := shr_bd lk hb1
      have hlvb : lv ≤ 8 := by rw [hlv]; exact HLB.out i
      clear hh hlv hx hy hk hgk yby kl h1 l1 yes no hay hax hq HCB HCX2
      have hiN : (i : Int) < (N : Int) := by omega
      have cA : decide ((k : Int) < 0) = false := decide_eq_false (by omega)
      have cB : decide ((m : Int) + 1 ≤ (k : Int)) = false := decide_eq_false (by omega)
      have cC : decide ((lv : Int) + 1 < (k : Int)) = false := decide_eq_false (by omega)
      have cD : decide (ax < ay) = false := decide_eq_false (by omega)
      have cE : decide (p < 0) = false := decide_eq_false (by omega)
      have cK : (k : Int) < (m : Int) + 1 := by omega
      have cK0 : (0 : Int) ≤ (k : Int) := by omega
      obtain ⟨fbg_0, fbg_1, fbg_2, fbg_3, fbg_4, fbg_l, -⟩ := bg_r.out.o5
      go_wp2
      refine Rel.region3 54 (by kernel_rfl) (by kernel_rfl) (by kernel_rfl) ?_
      simp only [List.take_succ_cons, List.take_zero, List.drop_succ_cons, List.drop_zero, List.filterMap_cons, List.filterMap_nil]
      iterate 26 (refine Rel.opz (hn := ?_); (try simp only [List.nil_append, List.cons_append]))
      refine Rel.callK 61 (KV (.int .i64 y)) (KV.st _) (Rel.gyes 15 false _ rfl rfl rfl) ?_ ?_
      · intro a W hb hd hbase
        have q1 : a.eval (.tmp 105) = _ := (Rel.dep_at hd 20 rfl rfl)
        have q2 : a.eval (.tmp 110) = _ := (Rel.dep_at hd 25 rfl rfl)
        refine ⟨#[a.eval (.tmp 105), a.eval (.tmp 110)], ?_, by rw [q1, q2]; exact HSC.out _⟩
        clear hd hbase hb
        go_simp
        (first | done | rfl | (refine ⟨?_, ?_⟩ <;> rfl))
      (try simp only [List.nil_append, List.cons_append])
      iterate 27 (refine Rel.opz (hn := ?_); (try simp only [List.nil_append, List.cons_append]))
      refine Rel.done3 ?_
      intro x w20 h20 hx
      simp only [Rel.facts, Nat.zero_add, Nat.reduceAdd] at hx
      clear fbg_0 fbg_1 fbg_2 fbg_3 fbg_4 fbg_l
      obtain ⟨e0, e1, e2, e3, e4, e5, e6, e7, e8, e9, e10, e11, e12, e13, e14, e15, e16, e17, e18, e19, e20, e21, e22, e23, e24, e25, e26, e27, e28, e29, e30, e31, e32, e33, e34, e35, e36, e37, e38, e39, e40, e41, e42, e43, e44, e45, e46, e47, e48, e49, e50, e51, e52, e53, _⟩ := hx
      have e26 : x 26 = _ := e26
      simp only [Rel.fill, Nat.zero_add, Nat.reduceAdd, e0, e1, e2, e3, e4, e5, e6, e7, e8, e9, e10, e11, e12, e13, e14, e15, e16, e17, e18, e19, e20, e21, e22, e23, e24, e25, e26, e27, e28, e29, e30, e31, e32, e33, e34, e35, e36, e37, e38, e39, e40, e41, e42, e43, e44, e45, e46, e47, e48, e49, e50, e51, e52, e53]
      simp only [Act.put, List.setIfInBounds_toArray, List.set_cons_zero, List.set_cons_succ]
      clear e0 e1 e2 e3 e4 e5 e6 e7 e8 e9 e10 e11 e12 e13 e14 e15 e16 e17 e18 e19 e20 e21 e22 e23 e24 e25 e26 e27 e28 e29 e30 e31 e32 e33 e34 e35 e36 e37 e38 e39 e40 e41 e42 e43 e44 e45 e46 e47 e48 e49 e50 e51 e52 e53
      have bg_20 := Lib.hid (bg_r.out.below h20)
      have HB20 := Lib.hid (KB.out.trans (h20.mono KB.out.size))
      have HUW2 := Lib.hid ((KG.st _ _ _ _ _ _ _ _ _ _ HUW.out h20))
      have HCA2 := Lib.hid (HCA0.out.below h20)
      clear HUW HCA HCA0
      clear h20 cA cB cC cD cE hck hdk hxk hgk2 ab sg HSC hmxy hmxxi
      obtain ⟨i1, hi1, jz0, jz1, jz2⟩ := info_parts Tryd.infoI
      have hAi : i ≤ A.length := by rw [← HNA.out]; omega
      obtain ⟨AT, hAT⟩ : ∃ AT, AT = A.take i := ⟨_, rfl⟩
      have HATl : Hid (AT.length = i) := Lib.hid (by rw [hAT]; simp; omega)
      have HATn := Lib.hid hAT
      clear hAT
      have hqa := Nat.le_trans (Nat.le_of_lt hlt) HQA.out.1
      have hqi : (i : Int) ≤ (QAc : Int) := by omega
      have hi0 : 0 ≤ (i : Int) := by omega
      have hN40 := HN40.out
      have HIR : Hid (∀ W, Cells W (some ⟨bA, oA, none⟩) AT → Calls Tryd.prog 41 #[.slice (some ⟨bA, oA, none⟩) i QAc] W fun e W' => ∃ v, e = .returned v ∧ W'.ownsRow W.heap.size 3 1 v i (AT.map (Value.int .i64)) ∧ Below W.heap.size W W') := Lib.hid (fun W q => ints_R HATl.out.symm (by omega) q)
      have HCT := Lib.hid (show Cells w20 (some ⟨bA, oA, none⟩) AT by rw [HATn.out]; exact Cells.takeN HCA2.out i)
      obtain ⟨fbg_0, fbg_1, fbg_2, fbg_3, fbg_4, fbg_l, -⟩ := bg_20.out.o5
      go_wp2
      have hTC := Lib.hid (fun (W' : World) (hS : Sett i (.int .i64 y) w20.heap.size w20 W') => bcell hS.below)
      refine RelH.region3 (S := Sett i (.int .i64 y) w20.heap.size) Sett.trans Sett.drawn 9 (by kernel_rfl) (by kernel_rfl) (by kernel_rfl) ?_
      simp only [List.take_succ_cons, List.take_zero, List.drop_succ_cons, List.drop_zero, List.filterMap_cons, List.filterMap_nil]
      iterate 5 (apply RelH.op3 Sett.refl; (focus (first | exact RelH.gno rfl | exact RelH.gyes _ true _ rfl rfl rfl | exact RelH.gyes _ false _ rfl rfl rfl)); (focus (intro a W x hb hd hbase; obtain ⟨hc, hf⟩ := hTC.out W hb; clear hb hf; simp [RelH.deps, RelH.dep1, Rel.ons, Region.binds, Act.eval] at hd; simp only [Act.eval, List.mem_cons, List.not_mem_nil, not_or, and_imp, or_false, Array.getD_eq_getD_getElem?] at hbase; go_simp; (try go_bits); (try rfl); done)); (try simp only [List.nil_append, List.cons_append]))
      refine RelH.callR3 (fun _ u W' => W'.ownsRow w20.heap.size 3 1 u i (AT.map (Value.int .i64))) (fun x v W W' h hS => ownsRow_sett h hS (by rw [List.set_eq_of_length_le (by simp; have := HATl.out; omega)])) RelH.loc_const (fun W W' hS h => Sett.ofGe hS h) (RelH.gno rfl) ?_ ?_
      · intro a W' x hb hd hbase
        refine ⟨41, #[.slice (some ⟨bA, oA, none⟩) i QAc], ?_, (HIR.out W' (HCT.out.below hb.below)).mono ?_⟩
        · clear hb
          simp [RelH.deps, RelH.dep1, Rel.ons, Region.binds, Act.eval] at hd
          go_simp
          (first | done | rfl | (refine ⟨?_, ?_⟩ <;> rfl))
        · rintro e W2 ⟨v, rfl, ho, hbb⟩
          exact ⟨_, rfl, ownsRow_base ho hb.below.size, hbb⟩
      (try simp only [List.nil_append, List.cons_append])
      iterate 1 (apply RelH.op3 Sett.refl; (focus (first | exact RelH.gno rfl | exact RelH.gyes _ true _ rfl rfl rfl | exact RelH.gyes _ false _ rfl rfl rfl)); (focus (intro a W x hb hd hbase; obtain ⟨hc, hf⟩ := hTC.out W hb; clear hb hf; simp [RelH.deps, RelH.dep1, Rel.ons, Region.binds, Act.eval] at hd; simp only [Act.eval, List.mem_cons, List.not_mem_nil, not_or, and_imp, or_false, Array.getD_eq_getD_getElem?] at hbase; go_simp; (try go_bits); (try rfl); done)); (try simp only [List.nil_append, List.cons_append]))
      refine RelH.opW3 (fun _ => Rel.NewS w20.heap.size 1 1 #[(.int .i64 y)]) (fun x v W W' h hS => by
        obtain ⟨g, h1, h2, h3⟩ := h
        refine ⟨g, h1, h2, Blk.sett h3 hS h2 ?_⟩
        apply Array.toList_inj.1
        rw [Array.toList_setIfInBounds]
        cases i with
        | zero => rfl
        | succ q => simp) RelH.loc_const (RelH.gno rfl) ?_ ?_
      · intro a W' x hb hd hbase
        simp [RelH.deps, RelH.dep1, Rel.ons, Region.binds, Act.eval, KV] at hd
        refine ⟨.slice (some ⟨W'.heap.size, 0, none⟩) 1 1, W'.alloc (.cells #[(.int .i64 y)] 3), ?_, ⟨_, rfl, hb.below.size, Calm.Blk.new W' _ _⟩, Sett.of ((Below.refl _ _).alloc (Nat.le_refl _) _) hb.below.size⟩
        go_simp
        (first | done | rfl | (refine ⟨?_, ?_⟩ <;> rfl))
      (try simp only [List.nil_append, List.cons_append])
      refine RelH.app3 (fun _ u W' => W'.ownsRow w20.heap.size 3 1 u (i + 1) (AT.map (Value.int .i64) ++ [(.int .i64 y)])) (fun x v W W' h hS => ownsRow_sett h hS (by
        have hl : (AT.map (Value.int .i64)).length = i := by simp; exact HATl.out
        conv => lhs; arg 2; rw [← hl]
        simp)) RelH.loc_const (.tmp 145) (.tmp 147) 22 rfl (RelH.gno rfl) ?_ ?_
      · intro a W' x hb hd hbase
        simp [RelH.deps, RelH.dep1, Rel.ons, Region.binds] at hd
        obtain ⟨⟨_, ho⟩, ⟨_, hx⟩, _⟩ := hd
        obtain ⟨g, hxv, _, hxk⟩ := hx
        rw [hxv]
        exact append_sett (P := Tryd.prog) w20.heap.size 22 22 3 i1 _ 8 Tryd.underlying22 hi1 jz0 jz1 jz2 rfl _ i _ (.int .i64 y) rfl W' ho hb.below.size (by unfold maxLen; omega) (by omega) g 1 (hxk.cell 0 _ rfl)
      (try simp only [List.nil_append, List.cons_append])
      refine RelH.done3 ?_
      intro x w21 hS hx
      simp only [RelH.facts, Nat.zero_add, Nat.reduceAdd] at hx
      obtain ⟨e0, e1, e2, e3, e4, -, e6, -, e8, _⟩ := hx
      obtain ⟨B21, d21, v21⟩ := own_slice e8
      rw [v21] at e8
      obtain ⟨B21', d21', v21', hge21, hcc21⟩ := own_ints (zs := AT ++ [y]) (by simpa using e8) (by simp; have := HATl.out; omega)
      cases v21'
      simp only [RelH.fill, Nat.zero_add, Nat.reduceAdd, e0, e1, e2, e3, e4, e6, v21]
      simp only [Act.put, List.setIfInBounds_toArray, List.set_cons_zero, List.set_cons_succ]
      have hb21 := hS.below
      clear fbg_0 fbg_1 fbg_2 fbg_3 fbg_4 fbg_l
      have bg_21 := Lib.hid (bg_20.out.below hb21)
      have HB21 := Lib.hid (HB20.out.trans (hb21.mono HB20.out.size))
      have HUW3 := Lib.hid ((KG.st _ _ _ _ _ _ _ _ _ _ HUW2.out hb21))
      have HCA3 := Lib.hid (HCA2.out.below hb21)
      have HOS := Lib.hid (show KS (i + 1) (AT ++ [y]) (.slice B21 (i + 1) d21) w21 from ⟨_, _, rfl, hcc21⟩)
      clear hb21 hS hTC hcc21 hge21 e0 e1 e2 e3 e4 e6 e8 v21 HUW2 HCA2 HCT HIR
      have HKY : Hid (∀ {u v : Value} (W : World), KG lk ht rc M ts (m + 1) gs u W → KS (i + 1) (AT ++ [y]) v W → Calls Tryd.prog 62 #[u, (.int .i64 h), v] W (KP (KV (.bool true)) W)) := Lib.hid (fun W q q2 => by have := HKE.out W h (i + 1) (AT ++ [y]) ⟨hb1, hb2⟩ (by simp; have := HATl.out; omega) (by omega) (by omega) (fun z hz => by rcases List.mem_append.1 hz with hz | hz; exact HAI.out z (List.mem_of_mem_take (HATn.out ▸ hz)); obtain rfl := List.mem_singleton.1 hz; exact ⟨y1, y2⟩) q q2; rwa [show keepsF lk ht rc h ts (AT ++ [y]) = true from by rw [HATn.out, HAo.out]; exact HYES.out] at this)
      go_wp2_with (go_at_call 62; refine (HKY.out _ HUW3.out HOS.out).mono ?_; rintro r w22 ⟨v22, rfl, rfl, h22⟩; refine Hid.out ?_)
      unfold Hid
      have bg_22 := Lib.hid (bg_21.out.below h22)
      have HB22 := Lib.hid (HB21.out.trans (h22.mono HB21.out.size))
      have HUW4 := Lib.hid ((KG.st _ _ _ _ _ _ _ _ _ _ HUW3.out h22))
      have HCA4 := Lib.hid (HCA3.out.below h22)
      have HXX4 := Lib.hid (KS.st _ _ _ _ _ (KS.st _ _ _ _ _ ux_rw19.out HB22.out) (Below.refl _ w22))
      clear h22 HUW3 HCA3 HOS HKY
      obtain ⟨fbg_0, fbg_1, fbg_2, fbg_3, fbg_4, fbg_l, -⟩ := bg_22.out.o5
      go_wp2
      clear fbg_0 fbg_1 fbg_2 fbg_3 fbg_4 fbg_l
      go_loopw [14] (fun n wq => ∃ j : Nat, k + 1 ≤ j ∧ j ≤ m + 1 ∧ n = (.int .i64 ((j : Int))) ∧ Below w19.heap.size w19 wq ∧ Blk wq w.heap.size #[(.int .i64 lk), (.int .i64 ht), .slice A1 M c1, (.int .i64 rc), .slice (some ⟨bG, oG, none⟩) (m + 1) c2] ∧ KG lk ht rc M ts (m + 1) gs (.agg #[(.int .i64 lk), (.int .i64 ht), .slice A1 M c1, (.int .i64 rc), .slice (some ⟨bG, oG, none⟩) (m + 1) c2]) wq ∧ KS N A (.slice (some ⟨bA, oA, none⟩) N QAc) wq) (fun n _ => m + 1 - (intOf n).toNat)
      case atStart => exact ⟨k + 1, by omega, by have := HKL.out; omega, by first | rfl | go_num, HB22.out, bg_22.out, HUW4.out, ⟨_, _, rfl, HCA4.out⟩⟩
      case round =>
        obtain ⟨j, hj1, hj2, rfl, kb, kg, ku, ka⟩ := hrel
        have KB2 := Lib.hid kb
        have BG2 := Lib.hid kg
        have KU2 := Lib.hid ku
        have KA2 := Lib.hid ka
        clear kb kg ku ka
        by_cases hjm : j < m + 1
        · by_cases hjl : j ≤ lv + 1
          · have c1 : (j : Int) < (m : Int) + 1 := by omega
            have c2 : (j : Int) ≤ (lv : Int) + 1 := by omega
            obtain ⟨z, hz⟩ : ∃ z, z = byF xi (gs.getD j 0) := ⟨_, rfl⟩
            have hgj := HGB.out j
            have hzb := byF_bd ⟨x1, x2⟩ hgj
            rw [← hz] at hzb
            obtain ⟨z1, z2⟩ := hzb
            have HSC2 : Hid (∀ W, Calls Tryd.prog 61 #[(.int .i64 xi), (.int .i64 (gs.getD j 0))] W (KP (KV (.int .i64 z)) W)) := Lib.hid (fun W => by have := scaled_K (W := W) ⟨x1, x2⟩ hgj; rwa [← hz] at this)
            have HNOj := Lib.hid (HNO.out j (by omega) (by rw [← HL.out]; exact hjm) (by omega))
            rw [← hz] at HNOj
            obtain ⟨gj, hgj'⟩ : ∃ gj, gj = gs.getD j 0 := ⟨_, rfl⟩
            have hcX2 := KS.st _ _ _ _ _ ux_rw19.out KB2.out
            obtain ⟨_, _, ee, hcX⟩ := hcX2
            cases ee
            obtain ⟨bX2, oX2, hA', hbl, hcell⟩ := hcX (by rw [← HN.out]; omega)
            cases hA'
            have hxk := hcell i (by rw [← HN.out]; exact hlt)
            rw [← HXo.out] at hxk
            have hblX2 := hbl
            clear hbl hcell hcX
            obtain ⟨_, _, _, _, ee, hcT, hcG⟩ := KU2.out
            cases ee
            obtain ⟨bG2, oG2, hA', hbl, hcell⟩ := hcG (by rw [← HL.out]; omega)
            cases hA'
            have hgk2 := hcell j (by rw [← HL.out]; exact hjm)
            rw [← hgj'] at hgk2 HSC2
            have hblG2 := hbl
            clear hcell hbl hcG hcT
            obtain ⟨_, _, ee, hcA⟩ := KA2.out
            cases ee
            have HCT := Lib.hid (show Cells wr (some ⟨bA, oA, none⟩) AT by rw [HATn.out]; exact Cells.takeN hcA i)
            clear hcA hz hgj hgj'
            have HIR : Hid (∀ W, Cells W (some ⟨bA, oA, none⟩) AT → Calls Tryd.prog 41 #[.slice (some ⟨bA, oA, none⟩) i QAc] W fun e W' => ∃ v, e = .returned v ∧ W'.ownsRow W.heap.size 3 1 v i (AT.map (Value.int .i64)) ∧ Below W.heap.size W W') := Lib.hid (fun W q => ints_R HATl.out.symm (by omega) q)
            obtain ⟨fbg_0, fbg_1, fbg_2, fbg_3, fbg_4, fbg_l, -⟩ := BG2.out.o5
            go_wp2
            have hTC := Lib.hid (fun (W' : World) (hS : Sett i (.int .i64 z) wr.heap.size wr W') => bcell hS.below)
            refine RelH.region3 (S := Sett i (.int .i64 z) wr.heap.size) Sett.trans Sett.drawn 18 (by kernel_rfl) (by kernel_rfl) (by kernel_rfl) ?_
            simp only [List.take_succ_cons, List.take_zero, List.drop_succ_cons, List.drop_zero, List.filterMap_cons, List.filterMap_nil]
            iterate 5 (apply RelH.op3 Sett.refl; (focus (first | exact RelH.gno rfl | exact RelH.gyes _ true _ rfl rfl rfl | exact RelH.gyes _ false _ rfl rfl rfl)); (focus (intro a W x hb hd hbase; obtain ⟨hc, hf⟩ := hTC.out W hb; clear hb hf; simp [RelH.deps, RelH.dep1, Rel.ons, Region.binds, Act.eval] at hd; simp only [Act.eval, List.mem_cons, List.not_mem_nil, not_or, and_imp, or_false, Array.getD_eq_getD_getElem?] at hbase; go_simp; (try go_bits); (try rfl); done)); (try simp only [List.nil_append, List.cons_append]))
            refine RelH.callR3 (fun _ u W' => W'.ownsRow wr.heap.size 3 1 u i (AT.map (Value.int .i64))) (fun x v W W' h hS => ownsRow_sett h hS (by rw [List.set_eq_of_length_le (by simp; have := HATl.out; omega)])) RelH.loc_const (fun W W' hS h => Sett.ofGe hS h) (RelH.gno rfl) ?_ ?_
            · intro a W' x hb hd hbase
              refine ⟨41, #[.slice (some ⟨bA, oA, none⟩) i QAc], ?_, (HIR.out W' (HCT.out.below hb.below)).mono ?_⟩
              · clear hb
                simp [RelH.deps, RelH.dep1, Rel.ons, Region.binds, Act.eval] at hd
                go_simp
                (first | done | rfl | (refine ⟨?_, ?_⟩ <;> rfl))
              · rintro e W2 ⟨v, rfl, ho, hbb⟩
                exact ⟨_, rfl, ownsRow_base ho hb.below.size, hbb⟩
            (try simp only [List.nil_append, List.cons_append])
            iterate 9 (apply RelH.op3 Sett.refl; (focus (first | exact RelH.gno rfl | exact RelH.gyes _ true _ rfl rfl rfl | exact RelH.gyes _ false _ rfl rfl rfl)); (focus (intro a W x hb hd hbase; obtain ⟨hc, hf⟩ := hTC.out W hb; clear hb hf; simp [RelH.deps, RelH.dep1, Rel.ons, Region.binds, Act.eval] at hd; simp only [Act.eval, List.mem_cons, List.not_mem_nil, not_or, and_imp, or_false, Array.getD_eq_getD_getElem?] at hbase; go_simp; (try go_bits); (try rfl); done)); (try simp only [List.nil_append, List.cons_append]))
            refine RelH.callR3 (fun _ u _ => u = (.int .i64 z)) (fun x v W W' h hS => h) RelH.loc_const (fun W W' hS h => Sett.ofGe hS h) (RelH.gno rfl) ?_ ?_
            · intro a W' x hb hd hbase
              refine ⟨61, #[(.int .i64 xi), (.int .i64 gj)], ?_, (HSC2.out W').mono ?_⟩
              · clear hb
                simp [RelH.deps, RelH.dep1, Rel.ons, Region.binds, Act.eval] at hd
                go_simp
                (first | done | rfl | (refine ⟨?_, ?_⟩ <;> rfl))
              · rintro e W2 ⟨v, rfl, rfl, hbb⟩
                exact ⟨_, rfl, rfl, hbb⟩
            (try simp only [List.nil_append, List.cons_append])
            refine RelH.opW3 (fun _ => Rel.NewS wr.heap.size 1 1 #[(.int .i64 z)]) (fun x v W W' h hS => by
              obtain ⟨g, h1, h2, h3⟩ := h
              refine ⟨g, h1, h2, Blk.sett h3 hS h2 ?_⟩
              apply Array.toList_inj.1
              rw [Array.toList_setIfInBounds]
              cases i with
              | zero => rfl
              | succ q => simp) RelH.loc_const (RelH.gno rfl) ?_ ?_
            · intro a W' x hb hd hbase
              simp [RelH.deps, RelH.dep1, Rel.ons, Region.binds, Act.eval, KV] at hd
              refine ⟨.slice (some ⟨W'.heap.size, 0, none⟩) 1 1, W'.alloc (.cells #[(.int .i64 z)] 3), ?_, ⟨_, rfl, hb.below.size, Calm.Blk.new W' _ _⟩, Sett.of ((Below.refl _ _).alloc (Nat.le_refl _) _) hb.below.size⟩
              go_simp
              (first | done | rfl | (refine ⟨?_, ?_⟩ <;> rfl))
            (try simp only [List.nil_append, List.cons_append])
            refine RelH.app3 (fun _ u W' => W'.ownsRow wr.heap.size 3 1 u (i + 1) (AT.map (Value.int .i64) ++ [(.int .i64 z)])) (fun x v W W' h hS => ownsRow_sett h hS (by
              have hl : (AT.map (Value.int .i64)).length = i := by simp; exact HATl.out
              conv => lhs; arg 2; rw [← hl]
              simp)) RelH.loc_const (.tmp 171) (.tmp 182) 22 rfl (RelH.gno rfl) ?_ ?_
            · intro a W' x hb hd hbase
              simp [RelH.deps, RelH.dep1, Rel.ons, Region.binds] at hd
              obtain ⟨⟨_, ho⟩, ⟨_, hx⟩, _⟩ := hd
              obtain ⟨g, hxv, _, hxk⟩ := hx
              rw [hxv]
              exact append_sett (P := Tryd.prog) wr.heap.size 22 22 3 i1 _ 8 Tryd.underlying22 hi1 jz0 jz1 jz2 rfl _ i _ (.int .i64 z) rfl W' ho hb.below.size (by unfold maxLen; omega) (by omega) g 1 (hxk.cell 0 _ rfl)
            (try simp only [List.nil_append, List.cons_append])
            refine RelH.done3 ?_
            intro x w23 hS hx
            simp only [RelH.facts, Nat.zero_add, Nat.reduceAdd] at hx
            obtain ⟨e0, e1, e2, e3, e4, -, e6, e7, e8, e9, e10, e11, e12, e13, e14, e15, -, e17, _⟩ := hx
            obtain ⟨B23, d23, v23⟩ := own_slice e17
            rw [v23] at e17
            obtain ⟨B23', d23', v23', hge23, hcc23⟩ := own_ints (zs := AT ++ [z]) (by simpa using e17) (by simp; have := HATl.out; omega)
            cases v23'
            simp only [RelH.fill, Nat.zero_add, Nat.reduceAdd, e0, e1, e2, e3, e4, e6, e7, e8, e9, e10, e11, e12, e13, e14, e15, v23]
            simp only [Act.put, List.setIfInBounds_toArray, List.set_cons_zero, List.set_cons_succ]
            have hb23 := hS.below
            clear fbg_0 fbg_1 fbg_2 fbg_3 fbg_4 fbg_l
            have bg_23 := Lib.hid (BG2.out.below hb23)
            have HB23 := Lib.hid (KB2.out.trans (hb23.mono KB2.out.size))
            have HUW3 := Lib.hid ((KG.st _ _ _ _ _ _ _ _ _ _ KU2.out hb23))
            have KA3 := Lib.hid (KS.st _ _ _ _ _ KA2.out hb23)
            have HOS := Lib.hid (show KS (i + 1) (AT ++ [z]) (.slice B23 (i + 1) d23) w23 from ⟨_, _, rfl, hcc23⟩)
            clear hb23 hS hTC hcc23 hge23 e0 e1 e2 e3 e4 e6 e7 e8 e9 e10 e11 e12 e13 e14 e15 e17 v23 KU2 KA2 HCT HIR HSC2 hgk2 hxk
            have HKZ : Hid (∀ {u v : Value} (W : World), KG lk ht rc M ts (m + 1) gs u W → KS (i + 1) (AT ++ [z]) v W → Calls Tryd.prog 62 #[u, (.int .i64 h), v] W (KP (KV (.bool false)) W)) := Lib.hid (fun W q q2 => by have := HKE.out W h (i + 1) (AT ++ [z]) ⟨hb1, hb2⟩ (by simp; have := HATl.out; omega) (by omega) (by omega) (fun z' hz => by rcases List.mem_append.1 hz with hz | hz; exact HAI.out z' (List.mem_of_mem_take (HATn.out ▸ hz)); obtain rfl := List.mem_singleton.1 hz; exact ⟨z1, z2⟩) q q2; rwa [show keepsF lk ht rc h ts (AT ++ [z]) = false from by rw [HATn.out, HAo.out]; exact HNOj.out] at this)
            go_wp2_with (go_at_call 62; refine (HKZ.out _ HUW3.out HOS.out).mono ?_; rintro r w24 ⟨v24, rfl, rfl, h24⟩; refine Hid.out ?_)
            unfold Hid
            have bg_24 := Lib.hid (bg_23.out.below h24)
            have HB24 := Lib.hid (HB23.out.trans (h24.mono HB23.out.size))
            have HUW4 := Lib.hid ((KG.st _ _ _ _ _ _ _ _ _ _ HUW3.out h24))
            have KA4 := Lib.hid (KS.st _ _ _ _ _ KA3.out h24)
            clear h24
            go_wp2
            go_roundw
            case rel => exact ⟨j + 1, by omega, by omega, by go_num, HB24.out, bg_24.out, HUW4.out, KA4.out⟩
            case measure => simp [intOf]; omega
          · have c1 : (j : Int) < (m : Int) + 1 := by omega
            have c2 : ¬ (j : Int) ≤ (lv : Int) + 1 := by omega
            have HPQ := HQ.out
            obtain ⟨fbg_0, fbg_1, fbg_2, fbg_3, fbg_4, fbg_l, -⟩ := BG2.out.o5
            go_wp2
            go_roundw
            case rel => exact ⟨i + 1, by omega, by go_num, by rw [HH1.out], by rw [HL1'.out], KB2.out⟩
            case measure => simp [intOf]; omega
        · have c1 : ¬ (j : Int) < (m : Int) + 1 := by omega
          have HPQ := HQ.out
          obtain ⟨fbg_0, fbg_1, fbg_2, fbg_3, fbg_4, fbg_l, -⟩ := BG2.out.o5
          go_wp2
          go_roundw
          case rel => exact ⟨i + 1, by omega, by go_num, by rw [HH1.out], by rw [HL1'.out], KB2.out⟩
          case measure => simp [intOf]; omega
    · obtain rfl : i = N := by omega
      go_wp2_with (go_at_call 15; refine name_calls ?_; intro w25 e25; refine Hid.out ?_)
      unfold Hid
      have h25 : Below wr.heap.size wr w25 := by rw [e25]; exact bel
      have HB25 := Lib.hid (KB.out.trans (h25.mono KB.out.size))
      clear e25 h25
      refine (awake_any _ (HTabw19.out.below HB25.out)).mono ?_
      rintro r w26 ⟨rfl, h26⟩
      have HB26 := Lib.hid (HB25.out.trans (h26.mono HB25.out.size))
      clear h26
      go_wp2
      go_ret
      exact ⟨by first | rfl | (simp; done), HOw19.out.trans (HB26.out.mono HOw19.out.size)⟩
end Go.Proofs.YtdeapbihbhoefaaDoor

/- ProtectKeeps answers yes, whatever its arguments. -/
namespace Go.Proofs.YtdeapbihbhoefaaDoor
open Go.RowKit
open Calm (bcell Blk)
theorem ProtectKeeps_any (lk ht rc : Int) (M L N : Nat) (ts gs xs : List Int) (u v : Value) (w : World) (hTab : PTab w) (hM : M = ts.length) (hL : L = gs.length) (hN : N = xs.length) (hu : KG lk ht rc M ts L gs u w) (hv : KS N xs v w) :
    Calls Tryd.prog 8 #[u, v] w fun r w' => r = .returned (.bool true) ∧ Below w.heap.size w w' := by
  by_cases b0 : M ≤ 9 ∧ L ≤ 9
  · by_cases b1 : N ≤ 40
    · by_cases b2 : guardErr lk ht rc ts gs = 0
      · by_cases b3 : sigErr xs = 0
        · exact keeps_m lk ht rc M L N ts gs xs u v w hTab hM hL hN b0 b1 b2 b3 hu hv
        · exact keeps_3 lk ht rc M L N ts gs xs u v w hTab hM hL hN b0 b1 b2 b3 hu hv
      · exact keeps_2 lk ht rc M L N ts gs xs u v w hTab hM hL hN b0 b1 b2 hu hv
    · exact keeps_1 lk ht rc M L N ts gs xs u v w hTab hM hL hN b0 b1 hu hv
  · exact keeps_0 lk ht rc M L N ts gs xs u v w hTab hM hL hN b0 hu hv
end Go.Proofs.YtdeapbihbhoefaaDoor

/- ProtectKeeps: the row and its card. -/
namespace Go.Proofs.YtdeapbihbhoefaaDoor.protectKeeps
open Go.ChangeShapes Go.WideShapes Go.ChangeAt Go.RowKit Go.Flat
open Calm (bcell)

set_option maxRecDepth 100000 in
theorem contract (H : Type) (enc : TypeId × Value → H) (W : World) (base : Nat) (args : Array Value) (ds gs : List (DataW H)) (before : List MemPlace)
    (hval : ∀ (j : Nat) t v, Tryd.f8.params[j]? = some t → args[j]? = some v → Value.okWide Tryd.prog W .any base t v)
    (hW : DataW.Whole enc Tryd.prog Tryd.f8.params.toList Rows.protectKeepsSpec.vars false W args.toList ds gs before) (hL : laidMetH Tryd.prog laidList W) :
    Calls Tryd.prog 8 args W fun e W' => ∃ v, e = .returned v ∧ Rows.protectKeepsSpec.post enc Tryd.prog Tryd.f8 false true false false W args v W' := by
  have hW' := hW
  have hlt : ∀ p ∈ before, p.block < W.heap.size := fun p hp => hW.lt p hp
  obtain ⟨p, q, hA0, hV, rfl, hfz, hnd⟩ := hW
  have hA : DataW.TrodAll enc Tryd.prog W 0 (fun _ => true) true Tryd.f8.params.toList args.toList ds p := hA0
  rw [Tryd.params8] at hA hval
  obtain ⟨v0, v1, d0, d1, p0, p1, rfl, rfl, rfl, h0, h1⟩ := trodAll_two hA
  obtain ⟨rfl, rfl⟩ := trodVars_none hV
  obtain ⟨lk, ht, rc, A1, A2, c1, c2, ts, gs', rfl, k1, k2⟩ := open_guard (hval 0 _ _ rfl rfl) h0
  obtain ⟨B1, d1', xs1, rfl, q1a, q1b, j1⟩ := open_islice (hval 1 _ _ rfl rfl) h1
  refine (ProtectKeeps_any lk ht rc _ _ _ ts gs' xs1 _ _ W (tab_of_laid hL) rfl rfl rfl ⟨A1, c1, A2, c2, rfl, k1, k2⟩ ⟨B1, d1', rfl, j1⟩).mono fun e W' ⟨he, hb⟩ => ?_
  subst he
  refine ⟨_, rfl, post_of_below (pa := p0 ++ p1) (pv := []) hW' (fun _ _ _ => trodAll_cons_mk (shut_bool Tryd.underlying4 _) trodAll_mk0) (fun sp hs => ?_) (fun _ _ => rfl) rfl hb (ok_one (by kernel_rfl) rfl (okWide_bool_mk Tryd.underlying4 _))⟩
  exact trodAll_below laidOut hb (by rw [Tryd.params8]; exact of_decide_eq_true (by kernel_rfl)) hA0 (fun x hx => hlt x (List.mem_append_left _ hx)) (fun x hx => hs x (List.mem_append_left _ hx))

/-- the witness: nothing. -/
noncomputable def wit : Array Value := #[.agg #[(.int .i64 0), (.int .i64 0), .slice none 0 0, (.int .i64 0), .slice none 0 0], .slice none 0 0]
theorem reads (os : Os) {H : Type} (enc : TypeId × Value → H) : ∃ ds places, DataW.whole enc Tryd.prog ((World.doorLaid Tryd.prog 35 os).forCall (fun _ _ => 0) ⟨#[], wit, []⟩).memory Tryd.f8.params.toList Rows.protectKeepsSpec.vars false wit.toList 8 = some (ds, [], places) :=
  ⟨[.agg [.lit (.int .i64 0), .lit (.int .i64 0), .nil, .lit (.int .i64 0), .nil], .nil], [], by kernel_rfl⟩

set_option maxRecDepth 100000 in
theorem lifted (os : Os) (started : os.Started) (H : Type) (enc : TypeId × Value → H) (F : Stop.Interp) :
    ReturnsInHanded {} Tryd.checked os 8 .any ((OpenSpec.ofChange Rows.protectKeepsSpec).preRow enc Tryd.prog Tryd.f8 Rows.protectKeepsRow.domain false Rows.protectKeepsRow.laid) (((OpenSpec.ofChange Rows.protectKeepsSpec).at F).post enc Tryd.prog Tryd.f8 false true false false) := by
  obtain ⟨ds, places, hx⟩ := reads os enc
  refine returnsInHanded_of_row (C := Tryd.checked) (s := OpenSpec.ofChange Rows.protectKeepsSpec) own started (by kernel_rfl) Tryd.func8
    (witness_row_at (enc := enc) (C := Tryd.checked) false (World.doorLaid Tryd.prog 35 os) wit rfl (door_vars os _) (door_rest os _) (by kernel_rfl)
      (OpenSpec.preRow_of_cond 8 hx (by kernel_rfl) (fun k hk => by cases hk) (by kernel_rfl) (laid_met os _))) ?_
  intro W base args ds gs before hval hW _ _ _ hL _ _
  exact contract H enc W base args ds gs before hval hW hL

theorem said : Rows.ProtectKeepsSaid :=
  OpenClaim.holds_of_cond 8 Tryd.f8 rfl rfl rfl rfl rfl rfl rfl ⟨rfl, rfl, rfl, rfl, rfl⟩ rfl rfl rfl rfl rfl (by kernel_rfl) Tryd.func8 (by kernel_rfl)
    (of_decide_eq_true (by kernel_rfl)) (by unfold Func.isWrapper; first | (rw [if_pos (by decide +kernel)]; kernel_rfl) | (rw [if_neg (by decide +kernel)]; exact ⟨rfl, rfl⟩))
    (fun os started H enc _ F => by rw [OpenClaim.pre_eq_preRow]; exact lifted os started H enc F)

theorem plain (f : FuncId) (fn : Func) (hf : Tryd.pinned.checked.prog.funcNamed "woofer/wooferlaw08.ProtectKeeps" = some f) (hfn : Tryd.pinned.checked.prog.funcs[f]? = some fn) :
    false = Tryd.pinned.checked.prog.looks [] ∧ ∀ (j : Nat) t, fn.params[j]? = some t → Tryd.pinned.checked.prog.wantsStandIn t = false := by
  obtain rfl : f = 8 := Option.some.inj ((show Tryd.prog.funcNamed "woofer/wooferlaw08.ProtectKeeps" = some 8 by kernel_rfl).symm.trans hf) |>.symm
  obtain rfl : fn = Tryd.f8 := (Option.some.inj (Tryd.func8.symm.trans hfn)).symm
  refine ⟨by kernel_rfl, fun j t ht => ?_⟩
  rw [Tryd.params8] at ht
  have hall : ∀ t ∈ (#[24, 22] : Array TypeId), Tryd.prog.wantsStandIn t = false := of_decide_eq_true (by kernel_rfl)
  exact hall t (Array.mem_of_getElem? ht)

theorem card : Rows.ProtectKeepsCardSaid :=
  Claim7.holds_tied_plain_at .later [] _ _ _ _ said (fun _ h => by cases h) (by kernel_rfl) (fun _ h => by cases h) protectKeeps_row_tie rfl ⟨rfl, rfl⟩ (by kernel_rfl) rfl plain (by kernel_rfl)
end Go.Proofs.YtdeapbihbhoefaaDoor.protectKeeps
