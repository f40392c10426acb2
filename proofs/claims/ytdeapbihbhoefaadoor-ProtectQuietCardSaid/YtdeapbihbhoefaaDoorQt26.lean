/- Part 26 of the texts of the claim: LQt_nls, LQt_nms. -/
import Derived.Test.YtdeapbihbhoefaaDoorQt24

/- ProtectQuiet, case nls. -/
namespace Go.Proofs.YtdeapbihbhoefaaDoor
open Go.RowKit
open Calm (bcell Blk)
set_option maxRecDepth 100000 in
set_option maxHeartbeats 8000000 in
theorem quiet_nls (lk ht rc he : Int) (M L N : Nat) (ts gs xs : List Int) (u v : Value) (w : World) (hTab : PTab w) (hM : M = ts.length) (hL : L = gs.length) (hN : N = xs.length) (b0 : M ≤ 9 ∧ L ≤ 9) (b1 : N ≤ 40) (b2 : guardErr lk ht rc ts gs = 0) (b3 : sigErr xs = 0) (b4 : rangeErr he 0 536870912 = 0) (b5 : ¬ gs.getD (gs.length - 1) 0 = 16) (b6 : stdF lk ht < 2048) (b7 : coolR lk he (he / 3) = (0, 24)) (b8 : ∃ n, he / 3 < coolK lk he n ∧ coolK lk he (n + 1) = coolK lk he n) (hu : KG lk ht rc M ts L gs u w) (hv : KS N xs v w) :
    Calls Tryd.prog 9 #[u, v, (.int .i64 (he))] w fun r w' => r = .returned (.bool true) ∧ Below w.heap.size w w' := by
  obtain ⟨A1, c1, A2, c2, rfl, hT, hG⟩ := hu
  obtain ⟨A3, c3, rfl, hP⟩ := hv
  have HU := Lib.hid (show KG lk ht rc M ts L gs (.agg #[(.int .i64 (lk)), (.int .i64 (ht)), .slice A1 M c1, (.int .i64 (rc)), .slice A2 L c2]) w from ⟨_, _, _, _, rfl, hT, hG⟩)
  have HX := Lib.hid (show KS N xs (.slice A3 N c3) w from ⟨_, _, rfl, hP⟩)
  have HSH : Hid (∀ W, KG lk ht rc M ts L gs (.agg #[(.int .i64 (lk)), (.int .i64 (ht)), .slice A1 M c1, (.int .i64 (rc)), .slice A2 L c2]) W → Calls Tryd.prog 13 #[.agg #[(.int .i64 (lk)), (.int .i64 (ht)), .slice A1 M c1, (.int .i64 (rc)), .slice A2 L c2]] W (KP (KV (.bool true)) W)) := Lib.hid (fun W q => by have := Short_K q; rwa [decide_eq_true b0] at this)
  obtain ⟨b01, b02⟩ := b0
  have hlen : (N : Int) ≤ 40 := by omega
  obtain ⟨GE, hGE⟩ : ∃ GE, GE = guardErr lk ht rc ts gs := ⟨_, rfl⟩
  have HCG : Hid (∀ {x : Value} (W : World), KG lk ht rc M ts L gs x W → Calls Tryd.prog 18 #[x] W (KP (KV (.int .i64 (GE))) W)) := Lib.hid (fun W q => by rw [hGE]; exact rGuard_K hM hL (by omega) (by omega) q)
  rw [← hGE] at b2
  obtain ⟨SE, hSE⟩ : ∃ SE, SE = sigErr xs := ⟨_, rfl⟩
  have HCX : Hid (∀ {x : Value} (W : World), KS N xs x W → Calls Tryd.prog 44 #[x] W (KP (KV (.int .i64 (SE))) W)) := Lib.hid (fun W q => by rw [hSE]; exact xSignal_K hN (by omega) q)
  rw [← hSE] at b3
  obtain ⟨HE, hHE⟩ : ∃ HE, HE = rangeErr he 0 536870912 := ⟨_, rfl⟩
  have HCH : Hid (∀ (W : World), Calls Tryd.prog 51 #[(.int .i64 (he))] W (KP (KV (.int .i64 (HE))) W)) := Lib.hid (fun W => by rw [hHE]; exact (rHeat_any he W).mono fun e W' ⟨k1, k2⟩ => ⟨_, k1, rfl, k2 ▸ Below.refl _ _⟩)
  rw [← hHE] at b4
  have b2' := b2
  have b3' := b3
  have hhe := b4
  rw [hGE] at b2'
  rw [hSE] at b3'
  rw [hHE] at hhe
  have hhe := rangeErr_zero.1 hhe
  subst b2 b3 b4
  have hV := guard_valid b2'
  have hX := sigErr_in b3'
  have hll := hV.gl
  have hlk := hV.lk
  have hht := hV.ht
  have hst := stdF_law (lk := lk) hht.1
  have hqb := quietF_bd hV
  have HXB : Hid (∀ k : Nat, -2048 ≤ xs.getD k 0 ∧ xs.getD k 0 ≤ 2048) := Lib.hid (fun k => inB_get hX (by omega) k)
  have HN := Lib.hid hN
  obtain ⟨m, rfl⟩ : ∃ m, L = m + 1 := ⟨L - 1, by omega⟩
  have HL := Lib.hid hL
  rw [show gs.length - 1 = m by omega] at b5
  have HGU : Hid (∀ {x : Value} (W : World), KG lk ht rc M ts (m + 1) gs x W → Calls Tryd.prog 17 #[x] W (KP (KGI lk ht rc M ts (m + 1) gs) W)) := Lib.hid (fun W q => guard_K hM hL (by omega) (by omega) q)
  obtain ⟨X, hQX⟩ : ∃ X, X = quietF lk ht rc ts := ⟨_, rfl⟩
  obtain ⟨Y, hSY⟩ : ∃ Y, Y = (stdF lk ht : Int) := ⟨_, rfl⟩
  rw [← hSY, ← hQX] at hqb
  rw [← hSY] at hst
  have b6' : Y < 2048 := by omega
  have HQU : Hid (∀ {x : Value} (W : World), KG lk ht rc M ts (m + 1) gs x W → Calls Tryd.prog 49 #[x] W (KP (K2 (KV (.int .i64 (X))) (KV (.int .i64 (0)))) W)) := Lib.hid (fun W q => by rw [hQX]; exact xQuiet_ok hM hL (by omega) (by omega) q b2')
  have HSD : Hid (∀ {x : Value} (W : World), KG lk ht rc M ts (m + 1) gs x W → Calls Tryd.prog 48 #[x] W (KP (K2 (KV (.int .i64 (Y))) (KV (.int .i64 (0)))) W)) := Lib.hid (fun W q => by rw [hSY]; exact xSteady_ok hM hL (by omega) (by omega) q b2')
  obtain ⟨GM, hGM⟩ : ∃ GM, GM = gs.getD m 0 := ⟨_, rfl⟩
  rw [← hGM] at b5
  have HGN := Lib.hid (show (GM == 16) = false by simp; exact b5)
  have HF := Lib.hid (show gs.getD m 0 = GM ∧ 0 ≤ X ∧ X ≤ Y ∧ Y ≤ 2048 ∧ 0 ≤ Y from ⟨hGM.symm, by omega, by omega, by omega, by omega⟩)
  obtain ⟨R, hR⟩ : ∃ R, ht / 2 ^ lk.toNat = R := ⟨_, rfl⟩
  obtain ⟨Q, hQ⟩ : ∃ Q, Y * Y = Q := ⟨_, rfl⟩
  have hQb := sq_bd (y := Y) ⟨by omega, by omega⟩
  obtain ⟨Q3, hQ3⟩ : ∃ Q3, (Y + 1) * (Y + 1) = Q3 := ⟨_, rfl⟩
  have hQ3b := sq_le (a := Y + 1) (b := 2049) ⟨by omega, by omega⟩
  have hshr := shr_bd lk hht.1
  rw [hR] at hst hshr
  rw [hQ] at hst hQb
  rw [hQ3] at hst hQ3b
  obtain ⟨H0, hH0⟩ : ∃ H0, (if ht < he then ht else he) = H0 := ⟨_, rfl⟩
  have hH0b : 0 ≤ H0 ∧ H0 ≤ ht := by rw [← hH0]; split <;> omega
  have HR := Lib.hid (show ht / 2 ^ lk.toNat = R ∧ Y * Y = Q ∧ (Y + 1) * (Y + 1) = Q3 ∧ (0 ≤ Q ∧ Q ≤ 4194304 ∧ 0 ≤ Q3 ∧ Q3 ≤ 4198401) ∧ Q ≤ R ∧ (R ≤ ht ∧ 0 ≤ R) ∧ 0 ≤ H0 ∧ H0 ≤ ht ∧ (R < Q3) ∧ (∀ (a : Array TypeId) (t : TypeId) (W : World), (Builtin.min_ a t #[(.int .i64 (he)), (.int .i64 (ht))]).run Tryd.prog W = .ok (.int .i64 (H0)) W) from
    ⟨hR, hQ, hQ3, ⟨hQb.1, hQb.2, by rw [← hQ3]; exact sq_nonneg' (by omega), by omega⟩, hst.2.1, ⟨hshr.2, hshr.1⟩, hH0b.1, hH0b.2, hst.2.2 (by omega), fun a t W => by rw [mnQ, hH0]⟩)
  have HST : Hid (∀ z, 0 ≤ z → z ≤ ht → z - z / 2 ^ lk.toNat + Q ≤ ht) := Lib.hid (fun z q1 q2 => by rw [← hQ]; exact heat_stays (lk := lk) (y := Y) hht.1 q2 (by rw [hR, hQ]; exact hst.2.1))
  have HTO := Lib.hid (show 0 ≤ he / 3 ∧ he / 3 ≤ he from ⟨by omega, by omega⟩)
  have HCL : Hid (∀ {x : Value} (W : World), KG lk ht rc M ts (m + 1) gs x W → Calls Tryd.prog 50 #[x, (.int .i64 (he)), (.int .i64 (he / 3))] W (KP (K2 (KV (.int .i64 (0))) (KV (.int .i64 (24)))) W)) := Lib.hid (fun W q => by
    have := xCool_ok hM hL (by omega) (by omega) q b2' hhe (show 0 ≤ he / 3 ∧ he / 3 ≤ 536870912 by omega)
    rwa [b7] at this)
  have hpw := pow_bd hlk
  have hTP : he / 3 < (2 : Int) ^ lk.toNat := by
    obtain ⟨n, e1, e2⟩ := b8
    have := cool_fix (coolK_bd lk hhe.1 n).1 e2
    omega
  have HSK := Lib.hid (show he / 3 < (2 : Int) ^ lk.toNat ∧ 2 ≤ (2 : Int) ^ lk.toNat ∧ (2 : Int) ^ lk.toNat ≤ 256 from ⟨hTP, hpw.1, hpw.2⟩)
  obtain ⟨lk1, lk2⟩ := hlk
  obtain ⟨ht1, ht2⟩ := hht
  obtain ⟨he1, he2⟩ := hhe
  have HTab := Lib.hid hTab
  clear hTab hM hL hN hT hG hP hGE hSE hHE hV hX b2' b3' hll hst hqb hQX hSY b5 b6 b7 b8 hGM hR hQ hQb hQ3 hQ3b hshr hH0 hH0b hpw hTP
  go_enter Tryd.func9, Tryd.ntmps9
  have HB0 := Lib.hid (Below.refl w.heap.size w)
  go_wp2_with (go_at_call 13; refine name_calls ?_; intro w1 e1; refine Hid.out ?_)
  unfold Hid
  have h1 : Below w.heap.size w w1 := by rw [e1]; exact bel
  have HB1 := Lib.hid (HB0.out.trans (h1.mono HB0.out.size))
  have bg_1 := Lib.hid (show Blk w1 w.heap.size #[(.int .i64 (lk)), (.int .i64 (ht)), .slice A1 M c1, (.int .i64 (rc)), .slice A2 (m + 1) c2] from by rw [e1]; (repeat (first | ((with_reducible refine Blk.at_ ?_); focus (first | rfl | (simp; done) | (simp; omega))) | (with_reducible refine Blk.alloc ?_ _) | (with_reducible refine Blk.below ?_ (by with_reducible assumption)) | (with_reducible refine Blk.drew ?_))))
  clear e1 h1
  refine (HSH.out _ (KG.st _ _ _ _ _ _ _ _ _ _ HU.out HB1.out)).mono ?_
  rintro r w2 ⟨v2, rfl, k2, h2⟩
  have bg_2 := Lib.hid (bg_1.out.below h2)
  have HB2 := Lib.hid (HB1.out.trans (h2.mono HB1.out.size))
  obtain rfl := k2
  clear h2
  have ug_rw2 := Lib.hid (KG.st _ _ _ _ _ _ _ _ _ _ HU.out HB2.out)
  have ux_rw2 := Lib.hid (KS.st _ _ _ _ _ HX.out HB2.out)
  have HTabw2 := Lib.hid (HTab.out.below HB2.out)
  have HZw2 := Lib.hid (Below.refl w2.heap.size w2)
  clear HU HX HTab
  obtain ⟨fbg_0, fbg_1, fbg_2, fbg_3, fbg_4, fbg_l, -⟩ := (bg_2.out.below HZw2.out).o5
  go_wp2_with (go_at_call 18; refine name_calls ?_; intro w3 e3; refine Hid.out ?_)
  unfold Hid
  have h3 : Below w2.heap.size w2 w3 := by rw [e3]; exact bel
  have HB3 := Lib.hid (HZw2.out.trans (h3.mono HZw2.out.size))
  clear e3 h3
  refine (HCG.out _ (KG.st _ _ _ _ _ _ _ _ _ _ ug_rw2.out HB3.out)).mono ?_
  rintro r w4 ⟨v4, rfl, k4, h4⟩
  have HB4 := Lib.hid (HB3.out.trans (h4.mono HB3.out.size))
  obtain rfl := k4
  clear h4
  clear fbg_0 fbg_1 fbg_2 fbg_3 fbg_4 fbg_l
  go_wp2_with (go_at_call 44; refine name_calls ?_; intro w5 e5; refine Hid.out ?_)
  unfold Hid
  have h5 : Below w4.heap.size w4 w5 := by rw [e5]; exact bel
  have HB5 := Lib.hid (HB4.out.trans (h5.mono HB4.out.size))
  clear e5 h5
  refine (HCX.out _ (KS.st _ _ _ _ _ ux_rw2.out HB5.out)).mono ?_
  rintro r w6 ⟨v6, rfl, k6, h6⟩
  have HB6 := Lib.hid (HB5.out.trans (h6.mono HB5.out.size))
  obtain rfl := k6
  clear h6
  go_wp2_with (go_at_call 51; refine name_calls ?_; intro w7 e7; refine Hid.out ?_)
  unfold Hid
  have h7 : Below w6.heap.size w6 w7 := by rw [e7]; exact bel
  have HB7 := Lib.hid (HB6.out.trans (h7.mono HB6.out.size))
  clear e7 h7
  refine (HCH.out _).mono ?_
  rintro r w8 ⟨v8, rfl, k8, h8⟩
  have HB8 := Lib.hid (HB7.out.trans (h8.mono HB7.out.size))
  obtain rfl := k8
  clear h8
  have ug_rw8 := Lib.hid (KG.st _ _ _ _ _ _ _ _ _ _ ug_rw2.out HB8.out)
  have ux_rw8 := Lib.hid (KS.st _ _ _ _ _ ux_rw2.out HB8.out)
  have bg_rw8 := Lib.hid (bg_2.out.below HB8.out)
  have HTabw8 := Lib.hid (HTabw2.out.below HB8.out)
  have HOw8 := Lib.hid (HB2.out.trans (HB8.out.mono HB2.out.size))
  have HZw8 := Lib.hid (Below.refl w8.heap.size w8)
  clear HB8 ug_rw2 ux_rw2 bg_2 HTabw2 HB2
  obtain ⟨fbg_0, fbg_1, fbg_2, fbg_3, fbg_4, fbg_l, -⟩ := (bg_rw8.out.below HZw8.out).o5
  go_wp2_with (go_at_call 17; refine name_calls ?_; intro w9 e9; refine Hid.out ?_)
  unfold Hid
  have h9 : Below w8.heap.size w8 w9 := by rw [e9]; exact bel
  have HB9 := Lib.hid (HZw8.out.trans (h9.mono HZw8.out.size))
  clear e9 h9
  refine (HGU.out _ (KG.st _ _ _ _ _ _ _ _ _ _ ug_rw8.out HB9.out)).mono ?_
  rintro r w10 ⟨v10, rfl, k10, h10⟩
  have HB10 := Lib.hid (HB9.out.trans (h10.mono HB9.out.size))
  have g_10 := Lib.hid k10
  clear k10 h10
  clear fbg_0 fbg_1 fbg_2 fbg_3 fbg_4 fbg_l
  go_wp2_with (go_at_call 49; refine name_calls ?_; intro w11 e11; refine Hid.out ?_)
  unfold Hid
  have h11 : Below w10.heap.size w10 w11 := by rw [e11]; exact bel
  have g_11 := Lib.hid ((KGI.ik _ _ _ _ _ _ _).st _ _ _ g_10.out h11)
  have HB11 := Lib.hid (HB10.out.trans (h11.mono HB10.out.size))
  clear e11 h11
  refine (HQU.out _ g_11.out.kg).mono ?_
  rintro r w12 ⟨v12, rfl, k12, h12⟩
  have g_12 := Lib.hid ((KGI.ik _ _ _ _ _ _ _).st _ _ _ g_11.out h12)
  have HB12 := Lib.hid (HB11.out.trans (h12.mono HB11.out.size))
  obtain ⟨_, _, rfl, rfl, rfl⟩ := k12
  clear h12
  obtain ⟨fbg_0, fbg_1, fbg_2, fbg_3, fbg_4, fbg_l, -⟩ := (bg_rw8.out.below HB12.out).o5
  go_wp2_with (go_at_call 17; refine name_calls ?_; intro w13 e13; refine Hid.out ?_)
  unfold Hid
  have h13 : Below w12.heap.size w12 w13 := by rw [e13]; exact bel
  have HB13 := Lib.hid (HB12.out.trans (h13.mono HB12.out.size))
  clear e13 h13
  refine (HGU.out _ (KG.st _ _ _ _ _ _ _ _ _ _ ug_rw8.out HB13.out)).mono ?_
  rintro r w14 ⟨v14, rfl, k14, h14⟩
  have HB14 := Lib.hid (HB13.out.trans (h14.mono HB13.out.size))
  have g_14 := Lib.hid k14
  clear k14 h14
  clear fbg_0 fbg_1 fbg_2 fbg_3 fbg_4 fbg_l
  go_wp2_with (go_at_call 48; refine name_calls ?_; intro w15 e15; refine Hid.out ?_)
  unfold Hid
  have h15 : Below w14.heap.size w14 w15 := by rw [e15]; exact bel
  have g_15 := Lib.hid ((KGI.ik _ _ _ _ _ _ _).st _ _ _ g_14.out h15)
  have HB15 := Lib.hid (HB14.out.trans (h15.mono HB14.out.size))
  clear e15 h15
  refine (HSD.out _ g_15.out.kg).mono ?_
  rintro r w16 ⟨v16, rfl, k16, h16⟩
  have g_16 := Lib.hid ((KGI.ik _ _ _ _ _ _ _).st _ _ _ g_15.out h16)
  have HB16 := Lib.hid (HB15.out.trans (h16.mono HB15.out.size))
  obtain ⟨_, _, rfl, rfl, rfl⟩ := k16
  clear h16
  have ug_rw16 := Lib.hid (KG.st _ _ _ _ _ _ _ _ _ _ ug_rw8.out HB16.out)
  have ux_rw16 := Lib.hid (KS.st _ _ _ _ _ ux_rw8.out HB16.out)
  have bg_rw16 := Lib.hid (bg_rw8.out.below HB16.out)
  have HTabw16 := Lib.hid (HTabw8.out.below HB16.out)
  have HOw16 := Lib.hid (HOw8.out.trans (HB16.out.mono HOw8.out.size))
  have HZw16 := Lib.hid (Below.refl w16.heap.size w16)
  clear HB16 ug_rw8 ux_rw8 bg_rw8 HTabw8 HOw8
  obtain ⟨fbg_0, fbg_1, fbg_2, fbg_3, fbg_4, fbg_l, -⟩ := (bg_rw16.out.below HZw16.out).o5
  obtain ⟨_, _, _, _, ee, -, hgg⟩ := (KG.st _ _ _ _ _ _ _ _ _ _ ug_rw16.out HZw16.out)
  cases ee
  obtain ⟨bG, oG, hA2, hGl, hGc⟩ := hgg (by rw [← HL.out]; omega)
  subst hA2
  have hgk := hGc m (by rw [← HL.out]; omega)
  clear hGc hgg
  obtain ⟨hGG, hxX, hXY, hY1, hY0⟩ := HF.out
  rw [hGG] at hgk
  clear hGG
  have hGn := HGN.out
  obtain ⟨h1, h2, h3, h4, h5, h6, h7, h8, h9⟩ := HR.out
  go_wp2
  go_loop [143, 17] (fun i z => ∃ (j : Nat) (z' : Int), j ≤ 40 ∧ i = (.int .i64 ((j : Int))) ∧ z = (.int .i64 (z')) ∧ 0 ≤ z' ∧ z' ≤ ht) (fun i _ => 40 - (intOf i).toNat)
  case atStart => exact ⟨0, H0, by omega, rfl, rfl, h7, h8⟩
  case round =>
    obtain ⟨j, z, hj, rfl, rfl, hz0, hz1⟩ := hrel
    by_cases hlt : j < 40
    · obtain ⟨z1, z2⟩ := shr_bd lk hz0
      have z3 := HST.out z hz0 hz1
      obtain ⟨dz, hdz⟩ : ∃ dz, z / 2 ^ lk.toNat = dz := ⟨_, rfl⟩
      rw [hdz] at z1 z2 z3
      have hlj : (j : Int) < 40 := by omega
      go_wp2
      go_round
      case rel => exact ⟨j + 1, _, by omega, by go_num, rfl, by omega, z3⟩
      case measure => simp [intOf]; omega
    · obtain rfl : j = 40 := by omega
      clear h1 h2 h3 h4 h5 h6 h7 h8 h9 hz0 hz1 hlt
      clear fbg_0 fbg_1 fbg_2 fbg_3 fbg_4 fbg_l
      rename_i hw0
      clear hw0 hj
      obtain ⟨to2, to3⟩ := HTO.out
      obtain ⟨fbg_0, fbg_1, fbg_2, fbg_3, fbg_4, fbg_l, -⟩ := (bg_rw16.out.below HZw16.out).o5
      go_wp2_with (go_at_call 17; refine name_calls ?_; intro w17 e17; refine Hid.out ?_)
      unfold Hid
      have h17 : Below w16.heap.size w16 w17 := by rw [e17]; exact bel
      have HB17 := Lib.hid (HZw16.out.trans (h17.mono HZw16.out.size))
      clear e17 h17
      refine (HGU.out _ (KG.st _ _ _ _ _ _ _ _ _ _ ug_rw16.out HB17.out)).mono ?_
      rintro r w18 ⟨v18, rfl, k18, h18⟩
      have HB18 := Lib.hid (HB17.out.trans (h18.mono HB17.out.size))
      have g_18 := Lib.hid k18
      clear k18 h18
      clear fbg_0 fbg_1 fbg_2 fbg_3 fbg_4 fbg_l
      go_wp2_with (go_at_call 50; refine name_calls ?_; intro w19 e19; refine Hid.out ?_)
      unfold Hid
      have h19 : Below w18.heap.size w18 w19 := by rw [e19]; exact bel
      have g_19 := Lib.hid ((KGI.ik _ _ _ _ _ _ _).st _ _ _ g_18.out h19)
      have HB19 := Lib.hid (HB18.out.trans (h19.mono HB18.out.size))
      clear e19 h19
      refine (HCL.out _ g_19.out.kg).mono ?_
      rintro r w20 ⟨v20, rfl, k20, h20⟩
      have g_20 := Lib.hid ((KGI.ik _ _ _ _ _ _ _).st _ _ _ g_19.out h20)
      have HB20 := Lib.hid (HB19.out.trans (h20.mono HB19.out.size))
      obtain ⟨_, _, rfl, rfl, rfl⟩ := k20
      clear h20
      have ug_rw20 := Lib.hid (KG.st _ _ _ _ _ _ _ _ _ _ ug_rw16.out HB20.out)
      have ux_rw20 := Lib.hid (KS.st _ _ _ _ _ ux_rw16.out HB20.out)
      have bg_rw20 := Lib.hid (bg_rw16.out.below HB20.out)
      have HTabw20 := Lib.hid (HTabw16.out.below HB20.out)
      have HOw20 := Lib.hid (HOw16.out.trans (HB20.out.mono HOw16.out.size))
      have HZw20 := Lib.hid (Below.refl w20.heap.size w20)
      clear HB20 ug_rw16 ux_rw16 bg_rw16 HTabw16 HOw16
      obtain ⟨fbg_0, fbg_1, fbg_2, fbg_3, fbg_4, fbg_l, -⟩ := (bg_rw20.out.below HZw20.out).o5
      obtain ⟨s1, s2, s3⟩ := HSK.out
      go_wp2_with (go_at_call 15; refine name_calls ?_; intro w21 e21; refine Hid.out ?_)
      unfold Hid
      have h21 : Below w20.heap.size w20 w21 := by rw [e21]; exact bel
      have HB21 := Lib.hid (HZw20.out.trans (h21.mono HZw20.out.size))
      clear e21 h21
      refine (awake_any _ (HTabw20.out.below HB21.out)).mono ?_
      rintro r w22 ⟨rfl, h22⟩
      have HB22 := Lib.hid (HB21.out.trans (h22.mono HB21.out.size))
      clear h22
      go_wp2
      go_ret
      exact ⟨by first | rfl | (simp; done), HOw20.out.trans (HB22.out.mono HOw20.out.size)⟩
end Go.Proofs.YtdeapbihbhoefaaDoor

/- ProtectQuiet, case nms. -/
namespace Go.Proofs.YtdeapbihbhoefaaDoor
open Go.RowKit
open Calm (bcell Blk)
set_option maxRecDepth 100000 in
set_option maxHeartbeats 8000000 in
theorem quiet_nms (lk ht rc he : Int) (M L N : Nat) (ts gs xs : List Int) (u v : Value) (w : World) (hTab : PTab w) (hM : M = ts.length) (hL : L = gs.length) (hN : N = xs.length) (b0 : M ≤ 9 ∧ L ≤ 9) (b1 : N ≤ 40) (b2 : guardErr lk ht rc ts gs = 0) (b3 : sigErr xs = 0) (b4 : rangeErr he 0 536870912 = 0) (b5 : ¬ gs.getD (gs.length - 1) 0 = 16) (b6 : ¬ stdF lk ht < 2048) (b7 : coolR lk he (he / 3) = (0, 24)) (b8 : ∃ n, he / 3 < coolK lk he n ∧ coolK lk he (n + 1) = coolK lk he n) (hu : KG lk ht rc M ts L gs u w) (hv : KS N xs v w) :
    Calls Tryd.prog 9 #[u, v, (.int .i64 (he))] w fun r w' => r = .returned (.bool true) ∧ Below w.heap.size w w' := by
  obtain ⟨A1, c1, A2, c2, rfl, hT, hG⟩ := hu
  obtain ⟨A3, c3, rfl, hP⟩ := hv
  have HU := Lib.hid (show KG lk ht rc M ts L gs (.agg #[(.int .i64 (lk)), (.int .i64 (ht)), .slice A1 M c1, (.int .i64 (rc)), .slice A2 L c2]) w from ⟨_, _, _, _, rfl, hT, hG⟩)
  have HX := Lib.hid (show KS N xs (.slice A3 N c3) w from ⟨_, _, rfl, hP⟩)
  have HSH : Hid (∀ W, KG lk ht rc M ts L gs (.agg #[(.int .i64 (lk)), (.int .i64 (ht)), .slice A1 M c1, (.int .i64 (rc)), .slice A2 L c2]) W → Calls Tryd.prog 13 #[.agg #[(.int .i64 (lk)), (.int .i64 (ht)), .slice A1 M c1, (.int .i64 (rc)), .slice A2 L c2]] W (KP (KV (.bool true)) W)) := Lib.hid (fun W q => by have := Short_K q; rwa [decide_eq_true b0] at this)
  obtain ⟨b01, b02⟩ := b0
  have hlen : (N : Int) ≤ 40 := by omega
  obtain ⟨GE, hGE⟩ : ∃ GE, GE = guardErr lk ht rc ts gs := ⟨_, rfl⟩
  have HCG : Hid (∀ {x : Value} (W : World), KG lk ht rc M ts L gs x W → Calls Tryd.prog 18 #[x] W (KP (KV (.int .i64 (GE))) W)) := Lib.hid (fun W q => by rw [hGE]; exact rGuard_K hM hL (by omega) (by omega) q)
  rw [← hGE] at b2
  obtain ⟨SE, hSE⟩ : ∃ SE, SE = sigErr xs := ⟨_, rfl⟩
  have HCX : Hid (∀ {x : Value} (W : World), KS N xs x W → Calls Tryd.prog 44 #[x] W (KP (KV (.int .i64 (SE))) W)) := Lib.hid (fun W q => by rw [hSE]; exact xSignal_K hN (by omega) q)
  rw [← hSE] at b3
  obtain ⟨HE, hHE⟩ : ∃ HE, HE = rangeErr he 0 536870912 := ⟨_, rfl⟩
  have HCH : Hid (∀ (W : World), Calls Tryd.prog 51 #[(.int .i64 (he))] W (KP (KV (.int .i64 (HE))) W)) := Lib.hid (fun W => by rw [hHE]; exact (rHeat_any he W).mono fun e W' ⟨k1, k2⟩ => ⟨_, k1, rfl, k2 ▸ Below.refl _ _⟩)
  rw [← hHE] at b4
  have b2' := b2
  have b3' := b3
  have hhe := b4
  rw [hGE] at b2'
  rw [hSE] at b3'
  rw [hHE] at hhe
  have hhe := rangeErr_zero.1 hhe
  subst b2 b3 b4
  have hV := guard_valid b2'
  have hX := sigErr_in b3'
  have hll := hV.gl
  have hlk := hV.lk
  have hht := hV.ht
  have hst := stdF_law (lk := lk) hht.1
  have hqb := quietF_bd hV
  have HXB : Hid (∀ k : Nat, -2048 ≤ xs.getD k 0 ∧ xs.getD k 0 ≤ 2048) := Lib.hid (fun k => inB_get hX (by omega) k)
  have HN := Lib.hid hN
  obtain ⟨m, rfl⟩ : ∃ m, L = m + 1 := ⟨L - 1, by omega⟩
  have HL := Lib.hid hL
  rw [show gs.length - 1 = m by omega] at b5
  have HGU : Hid (∀ {x : Value} (W : World), KG lk ht rc M ts (m + 1) gs x W → Calls Tryd.prog 17 #[x] W (KP (KGI lk ht rc M ts (m + 1) gs) W)) := Lib.hid (fun W q => guard_K hM hL (by omega) (by omega) q)
  obtain ⟨X, hQX⟩ : ∃ X, X = quietF lk ht rc ts := ⟨_, rfl⟩
  obtain ⟨Y, hSY⟩ : ∃ Y, Y = (stdF lk ht : Int) := ⟨_, rfl⟩
  rw [← hSY, ← hQX] at hqb
  rw [← hSY] at hst
  have b6' : 2048 ≤ Y := by omega
  have HQU : Hid (∀ {x : Value} (W : World), KG lk ht rc M ts (m + 1) gs x W → Calls Tryd.prog 49 #[x] W (KP (K2 (KV (.int .i64 (X))) (KV (.int .i64 (0)))) W)) := Lib.hid (fun W q => by rw [hQX]; exact xQuiet_ok hM hL (by omega) (by omega) q b2')
  have HSD : Hid (∀ {x : Value} (W : World), KG lk ht rc M ts (m + 1) gs x W → Calls Tryd.prog 48 #[x] W (KP (K2 (KV (.int .i64 (Y))) (KV (.int .i64 (0)))) W)) := Lib.hid (fun W q => by rw [hSY]; exact xSteady_ok hM hL (by omega) (by omega) q b2')
  obtain ⟨GM, hGM⟩ : ∃ GM, GM = gs.getD m 0 := ⟨_, rfl⟩
  rw [← hGM] at b5
  have HGN := Lib.hid (show (GM == 16) = false by simp; exact b5)
  have HF := Lib.hid (show gs.getD m 0 = GM ∧ 0 ≤ X ∧ X ≤ Y ∧ Y ≤ 2048 ∧ 0 ≤ Y from ⟨hGM.symm, by omega, by omega, by omega, by omega⟩)
  obtain ⟨R, hR⟩ : ∃ R, ht / 2 ^ lk.toNat = R := ⟨_, rfl⟩
  obtain ⟨Q, hQ⟩ : ∃ Q, Y * Y = Q := ⟨_, rfl⟩
  have hQb := sq_bd (y := Y) ⟨by omega, by omega⟩
  obtain ⟨Q3, hQ3⟩ : ∃ Q3, (Y + 1) * (Y + 1) = Q3 := ⟨_, rfl⟩
  have hQ3b := sq_le (a := Y + 1) (b := 2049) ⟨by omega, by omega⟩
  have hshr := shr_bd lk hht.1
  rw [hR] at hst hshr
  rw [hQ] at hst hQb
  rw [hQ3] at hst hQ3b
  obtain ⟨H0, hH0⟩ : ∃ H0, (if ht < he then ht else he) = H0 := ⟨_, rfl⟩
  have hH0b : 0 ≤ H0 ∧ H0 ≤ ht := by rw [← hH0]; split <;> omega
  have HR := Lib.hid (show ht / 2 ^ lk.toNat = R ∧ Y * Y = Q ∧ (Y + 1) * (Y + 1) = Q3 ∧ (0 ≤ Q ∧ Q ≤ 4194304 ∧ 0 ≤ Q3 ∧ Q3 ≤ 4198401) ∧ Q ≤ R ∧ (R ≤ ht ∧ 0 ≤ R) ∧ 0 ≤ H0 ∧ H0 ≤ ht ∧ (True) ∧ (∀ (a : Array TypeId) (t : TypeId) (W : World), (Builtin.min_ a t #[(.int .i64 (he)), (.int .i64 (ht))]).run Tryd.prog W = .ok (.int .i64 (H0)) W) from
    ⟨hR, hQ, hQ3, ⟨hQb.1, hQb.2, by rw [← hQ3]; exact sq_nonneg' (by omega), by omega⟩, hst.2.1, ⟨hshr.2, hshr.1⟩, hH0b.1, hH0b.2, trivial, fun a t W => by rw [mnQ, hH0]⟩)
  have HST : Hid (∀ z, 0 ≤ z → z ≤ ht → z - z / 2 ^ lk.toNat + Q ≤ ht) := Lib.hid (fun z q1 q2 => by rw [← hQ]; exact heat_stays (lk := lk) (y := Y) hht.1 q2 (by rw [hR, hQ]; exact hst.2.1))
  have HTO := Lib.hid (show 0 ≤ he / 3 ∧ he / 3 ≤ he from ⟨by omega, by omega⟩)
  have HCL : Hid (∀ {x : Value} (W : World), KG lk ht rc M ts (m + 1) gs x W → Calls Tryd.prog 50 #[x, (.int .i64 (he)), (.int .i64 (he / 3))] W (KP (K2 (KV (.int .i64 (0))) (KV (.int .i64 (24)))) W)) := Lib.hid (fun W q => by
    have := xCool_ok hM hL (by omega) (by omega) q b2' hhe (show 0 ≤ he / 3 ∧ he / 3 ≤ 536870912 by omega)
    rwa [b7] at this)
  have hpw := pow_bd hlk
  have hTP : he / 3 < (2 : Int) ^ lk.toNat := by
    obtain ⟨n, e1, e2⟩ := b8
    have := cool_fix (coolK_bd lk hhe.1 n).1 e2
    omega
  have HSK := Lib.hid (show he / 3 < (2 : Int) ^ lk.toNat ∧ 2 ≤ (2 : Int) ^ lk.toNat ∧ (2 : Int) ^ lk.toNat ≤ 256 from ⟨hTP, hpw.1, hpw.2⟩)
  obtain ⟨lk1, lk2⟩ := hlk
  obtain ⟨ht1, ht2⟩ := hht
  obtain ⟨he1, he2⟩ := hhe
  have HTab := Lib.hid hTab
  clear hTab hM hL hN hT hG hP hGE hSE hHE hV hX b2' b3' hll hst hqb hQX hSY b5 b6 b7 b8 hGM hR hQ hQb hQ3 hQ3b hshr hH0 hH0b hpw hTP
  go_enter Tryd.func9, Tryd.ntmps9
  have HB0 := Lib.hid (Below.refl w.heap.size w)
  go_wp2_with (go_at_call 13; refine name_calls ?_; intro w1 e1; refine Hid.out ?_)
  unfold Hid
  have h1 : Below w.heap.size w w1 := by rw [e1]; exact bel
  have HB1 := Lib.hid (HB0.out.trans (h1.mono HB0.out.size))
  have bg_1 := Lib.hid (show Blk w1 w.heap.size #[(.int .i64 (lk)), (.int .i64 (ht)), .slice A1 M c1, (.int .i64 (rc)), .slice A2 (m + 1) c2] from by rw [e1]; (repeat (first | ((with_reducible refine Blk.at_ ?_); focus (first | rfl | (simp; done) | (simp; omega))) | (with_reducible refine Blk.alloc ?_ _) | (with_reducible refine Blk.below ?_ (by with_reducible assumption)) | (with_reducible refine Blk.drew ?_))))
  clear e1 h1
  refine (HSH.out _ (KG.st _ _ _ _ _ _ _ _ _ _ HU.out HB1.out)).mono ?_
  rintro r w2 ⟨v2, rfl, k2, h2⟩
  have bg_2 := Lib.hid (bg_1.out.below h2)
  have HB2 := Lib.hid (HB1.out.trans (h2.mono HB1.out.size))
  obtain rfl := k2
  clear h2
  have ug_rw2 := Lib.hid (KG.st _ _ _ _ _ _ _ _ _ _ HU.out HB2.out)
  have ux_rw2 := Lib.hid (KS.st _ _ _ _ _ HX.out HB2.out)
  have HTabw2 := Lib.hid (HTab.out.below HB2.out)
  have HZw2 := Lib.hid (Below.refl w2.heap.size w2)
  clear HU HX HTab
  obtain ⟨fbg_0, fbg_1, fbg_2, fbg_3, fbg_4, fbg_l, -⟩ := (bg_2.out.below HZw2.out).o5
  go_wp2_with (go_at_call 18; refine name_calls ?_; intro w3 e3; refine Hid.out ?_)
  unfold Hid
  have h3 : Below w2.heap.size w2 w3 := by rw [e3]; exact bel
  have HB3 := Lib.hid (HZw2.out.trans (h3.mono HZw2.out.size))
  clear e3 h3
  refine (HCG.out _ (KG.st _ _ _ _ _ _ _ _ _ _ ug_rw2.out HB3.out)).mono ?_
  rintro r w4 ⟨v4, rfl, k4, h4⟩
  have HB4 := Lib.hid (HB3.out.trans (h4.mono HB3.out.size))
  obtain rfl := k4
  clear h4
  clear fbg_0 fbg_1 fbg_2 fbg_3 fbg_4 fbg_l
  go_wp2_with (go_at_call 44; refine name_calls ?_; intro w5 e5; refine Hid.out ?_)
  unfold Hid
  have h5 : Below w4.heap.size w4 w5 := by rw [e5]; exact bel
  have HB5 := Lib.hid (HB4.out.trans (h5.mono HB4.out.size))
  clear e5 h5
  refine (HCX.out _ (KS.st _ _ _ _ _ ux_rw2.out HB5.out)).mono ?_
  rintro r w6 ⟨v6, rfl, k6, h6⟩
  have HB6 := Lib.hid (HB5.out.trans (h6.mono HB5.out.size))
  obtain rfl := k6
  clear h6
  go_wp2_with (go_at_call 51; refine name_calls ?_; intro w7 e7; refine Hid.out ?_)
  unfold Hid
  have h7 : Below w6.heap.size w6 w7 := by rw [e7]; exact bel
  have HB7 := Lib.hid (HB6.out.trans (h7.mono HB6.out.size))
  clear e7 h7
  refine (HCH.out _).mono ?_
  rintro r w8 ⟨v8, rfl, k8, h8⟩
  have HB8 := Lib.hid (HB7.out.trans (h8.mono HB7.out.size))
  obtain rfl := k8
  clear h8
  have ug_rw8 := Lib.hid (KG.st _ _ _ _ _ _ _ _ _ _ ug_rw2.out HB8.out)
  have ux_rw8 := Lib.hid (KS.st _ _ _ _ _ ux_rw2.out HB8.out)
  have bg_rw8 := Lib.hid (bg_2.out.below HB8.out)
  have HTabw8 := Lib.hid (HTabw2.out.below HB8.out)
  have HOw8 := Lib.hid (HB2.out.trans (HB8.out.mono HB2.out.size))
  have HZw8 := Lib.hid (Below.refl w8.heap.size w8)
  clear HB8 ug_rw2 ux_rw2 bg_2 HTabw2 HB2
  obtain ⟨fbg_0, fbg_1, fbg_2, fbg_3, fbg_4, fbg_l, -⟩ := (bg_rw8.out.below HZw8.out).o5
  go_wp2_with (go_at_call 17; refine name_calls ?_; intro w9 e9; refine Hid.out ?_)
  unfold Hid
  have h9 : Below w8.heap.size w8 w9 := by rw [e9]; exact bel
  have HB9 := Lib.hid (HZw8.out.trans (h9.mono HZw8.out.size))
  clear e9 h9
  refine (HGU.out _ (KG.st _ _ _ _ _ _ _ _ _ _ ug_rw8.out HB9.out)).mono ?_
  rintro r w10 ⟨v10, rfl, k10, h10⟩
  have HB10 := Lib.hid (HB9.out.trans (h10.mono HB9.out.size))
  have g_10 := Lib.hid k10
  clear k10 h10
  clear fbg_0 fbg_1 fbg_2 fbg_3 fbg_4 fbg_l
  go_wp2_with (go_at_call 49; refine name_calls ?_; intro w11 e11; refine Hid.out ?_)
  unfold Hid
  have h11 : Below w10.heap.size w10 w11 := by rw [e11]; exact bel
  have g_11 := Lib.hid ((KGI.ik _ _ _ _ _ _ _).st _ _ _ g_10.out h11)
  have HB11 := Lib.hid (HB10.out.trans (h11.mono HB10.out.size))
  clear e11 h11
  refine (HQU.out _ g_11.out.kg).mono ?_
  rintro r w12 ⟨v12, rfl, k12, h12⟩
  have g_12 := Lib.hid ((KGI.ik _ _ _ _ _ _ _).st _ _ _ g_11.out h12)
  have HB12 := Lib.hid (HB11.out.trans (h12.mono HB11.out.size))
  obtain ⟨_, _, rfl, rfl, rfl⟩ := k12
  clear h12
  obtain ⟨fbg_0, fbg_1, fbg_2, fbg_3, fbg_4, fbg_l, -⟩ := (bg_rw8.out.below HB12.out).o5
  go_wp2_with (go_at_call 17; refine name_calls ?_; intro w13 e13; refine Hid.out ?_)
  unfold Hid
  have h13 : Below w12.heap.size w12 w13 := by rw [e13]; exact bel
  have HB13 := Lib.hid (HB12.out.trans (h13.mono HB12.out.size))
  clear e13 h13
  refine (HGU.out _ (KG.st _ _ _ _ _ _ _ _ _ _ ug_rw8.out HB13.out)).mono ?_
  rintro r w14 ⟨v14, rfl, k14, h14⟩
  have HB14 := Lib.hid (HB13.out.trans (h14.mono HB13.out.size))
  have g_14 := Lib.hid k14
  clear k14 h14
  clear fbg_0 fbg_1 fbg_2 fbg_3 fbg_4 fbg_l
  go_wp2_with (go_at_call 48; refine name_calls ?_; intro w15 e15; refine Hid.out ?_)
  unfold Hid
  have h15 : Below w14.heap.size w14 w15 := by rw [e15]; exact bel
  have g_15 := Lib.hid ((KGI.ik _ _ _ _ _ _ _).st _ _ _ g_14.out h15)
  have HB15 := Lib.hid (HB14.out.trans (h15.mono HB14.out.size))
  clear e15 h15
  refine (HSD.out _ g_15.out.kg).mono ?_
  rintro r w16 ⟨v16, rfl, k16, h16⟩
  have g_16 := Lib.hid ((KGI.ik _ _ _ _ _ _ _).st _ _ _ g_15.out h16)
  have HB16 := Lib.hid (HB15.out.trans (h16.mono HB15.out.size))
  obtain ⟨_, _, rfl, rfl, rfl⟩ := k16
  clear h16
  have ug_rw16 := Lib.hid (KG.st _ _ _ _ _ _ _ _ _ _ ug_rw8.out HB16.out)
  have ux_rw16 := Lib.hid (KS.st _ _ _ _ _ ux_rw8.out HB16.out)
  have bg_rw16 := Lib.hid (bg_rw8.out.below HB16.out)
  have HTabw16 := Lib.hid (HTabw8.out.below HB16.out)
  have HOw16 := Lib.hid (HOw8.out.trans (HB16.out.mono HOw8.out.size))
  have HZw16 := Lib.hid (Below.refl w16.heap.size w16)
  clear HB16 ug_rw8 ux_rw8 bg_rw8 HTabw8 HOw8
  obtain ⟨fbg_0, fbg_1, fbg_2, fbg_3, fbg_4, fbg_l, -⟩ := (bg_rw16.out.below HZw16.out).o5
  obtain ⟨_, _, _, _, ee, -, hgg⟩ := (KG.st _ _ _ _ _ _ _ _ _ _ ug_rw16.out HZw16.out)
  cases ee
  obtain ⟨bG, oG, hA2, hGl, hGc⟩ := hgg (by rw [← HL.out]; omega)
  subst hA2
  have hgk := hGc m (by rw [← HL.out]; omega)
  clear hGc hgg
  obtain ⟨hGG, hxX, hXY, hY1, hY0⟩ := HF.out
  rw [hGG] at hgk
  clear hGG
  have hGn := HGN.out
  obtain ⟨h1, h2, h3, h4, h5, h6, h7, h8, h9⟩ := HR.out
  go_wp2
  go_loop [143, 17] (fun i z => ∃ (j : Nat) (z' : Int), j ≤ 40 ∧ i = (.int .i64 ((j : Int))) ∧ z = (.int .i64 (z')) ∧ 0 ≤ z' ∧ z' ≤ ht) (fun i _ => 40 - (intOf i).toNat)
  case atStart => exact ⟨0, H0, by omega, rfl, rfl, h7, h8⟩
  case round =>
    obtain ⟨j, z, hj, rfl, rfl, hz0, hz1⟩ := hrel
    by_cases hlt : j < 40
    · obtain ⟨z1, z2⟩ := shr_bd lk hz0
      have z3 := HST.out z hz0 hz1
      obtain ⟨dz, hdz⟩ : ∃ dz, z / 2 ^ lk.toNat = dz := ⟨_, rfl⟩
      rw [hdz] at z1 z2 z3
      have hlj : (j : Int) < 40 := by omega
      go_wp2
      go_round
      case rel => exact ⟨j + 1, _, by omega, by go_num, rfl, by omega, z3⟩
      case measure => simp [intOf]; omega
    · obtain rfl : j = 40 := by omega
      clear h1 h2 h3 h4 h5 h6 h7 h8 h9 hz0 hz1 hlt
      clear fbg_0 fbg_1 fbg_2 fbg_3 fbg_4 fbg_l
      rename_i hw0
      clear hw0 hj
      obtain ⟨to2, to3⟩ := HTO.out
      obtain ⟨fbg_0, fbg_1, fbg_2, fbg_3, fbg_4, fbg_l, -⟩ := (bg_rw16.out.below HZw16.out).o5
      go_wp2_with (go_at_call 17; refine name_calls ?_; intro w17 e17; refine Hid.out ?_)
      unfold Hid
      have h17 : Below w16.heap.size w16 w17 := by rw [e17]; exact bel
      have HB17 := Lib.hid (HZw16.out.trans (h17.mono HZw16.out.size))
      clear e17 h17
      refine (HGU.out _ (KG.st _ _ _ _ _ _ _ _ _ _ ug_rw16.out HB17.out)).mono ?_
      rintro r w18 ⟨v18, rfl, k18, h18⟩
      have HB18 := Lib.hid (HB17.out.trans (h18.mono HB17.out.size))
      have g_18 := Lib.hid k18
      clear k18 h18
      clear fbg_0 fbg_1 fbg_2 fbg_3 fbg_4 fbg_l
      go_wp2_with (go_at_call 50; refine name_calls ?_; intro w19 e19; refine Hid.out ?_)
      unfold Hid
      have h19 : Below w18.heap.size w18 w19 := by rw [e19]; exact bel
      have g_19 := Lib.hid ((KGI.ik _ _ _ _ _ _ _).st _ _ _ g_18.out h19)
      have HB19 := Lib.hid (HB18.out.trans (h19.mono HB18.out.size))
      clear e19 h19
      refine (HCL.out _ g_19.out.kg).mono ?_
      rintro r w20 ⟨v20, rfl, k20, h20⟩
      have g_20 := Lib.hid ((KGI.ik _ _ _ _ _ _ _).st _ _ _ g_19.out h20)
      have HB20 := Lib.hid (HB19.out.trans (h20.mono HB19.out.size))
      obtain ⟨_, _, rfl, rfl, rfl⟩ := k20
      clear h20
      have ug_rw20 := Lib.hid (KG.st _ _ _ _ _ _ _ _ _ _ ug_rw16.out HB20.out)
      have ux_rw20 := Lib.hid (KS.st _ _ _ _ _ ux_rw16.out HB20.out)
      have bg_rw20 := Lib.hid (bg_rw16.out.below HB20.out)
      have HTabw20 := Lib.hid (HTabw16.out.below HB20.out)
      have HOw20 := Lib.hid (HOw16.out.trans (HB20.out.mono HOw16.out.size))
      have HZw20 := Lib.hid (Below.refl w20.heap.size w20)
      clear HB20 ug_rw16 ux_rw16 bg_rw16 HTabw16 HOw16
      obtain ⟨fbg_0, fbg_1, fbg_2, fbg_3, fbg_4, fbg_l, -⟩ := (bg_rw20.out.below HZw20.out).o5
      obtain ⟨s1, s2, s3⟩ := HSK.out
      go_wp2_with (go_at_call 15; refine name_calls ?_; intro w21 e21; refine Hid.out ?_)
      unfold Hid
      have h21 : Below w20.heap.size w20 w21 := by rw [e21]; exact bel
      have HB21 := Lib.hid (HZw20.out.trans (h21.mono HZw20.out.size))
      clear e21 h21
      refine (awake_any _ (HTabw20.out.below HB21.out)).mono ?_
      rintro r w22 ⟨rfl, h22⟩
      have HB22 := Lib.hid (HB21.out.trans (h22.mono HB21.out.size))
      clear h22
      go_wp2
      go_ret
      exact ⟨by first | rfl | (simp; done), HOw20.out.trans (HB22.out.mono HOw20.out.size)⟩
end Go.Proofs.YtdeapbihbhoefaaDoor
