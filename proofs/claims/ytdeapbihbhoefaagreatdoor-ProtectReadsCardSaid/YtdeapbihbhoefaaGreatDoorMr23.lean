/- Part 23 of the texts of the claim: LRd_pmy. -/
import Derived.Test.YtdeapbihbhoefaaGreatDoorMr22

/- ProtectReads, case pmy. -/
namespace Go.Proofs.YtdeapbihbhoefaaGreatDoor
open Go.RowKit
open Calm (bcell Blk)
set_option maxRecDepth 100000 in
set_option maxHeartbeats 8000000 in
theorem reads_pmy (lk ht rc h lv : Int) (M L n : Nat) (ts gs l : List Int) (s : ByteArray) (u v : Value) (w : World) (hTab : RTab w) (hM : M = ts.length) (hL : L = gs.length) (hn : n = l.length) (b0 : M ≤ 9 ∧ L ≤ 9) (b1 : n ≤ 9) (b2 : s.size ≤ 300) (c0 : (parF s.data.toList).err = 0) (d0 : stErr lk ht rc ts gs h lv l = 0) (d1 : h ≤ 268435456) (f0 : fineF ht rc h 0 ts l = true) (hu : KG lk ht rc M ts L gs u w) (hv : KT h lv n l v w) :
    Calls Tryz.prog 4 #[u, v, .string s] w fun r w' => r = .returned (.bool true) ∧ Below w.heap.size w w' := by
  obtain ⟨A1, c1, A2, c2, rfl, hT, hG⟩ := hu
  obtain ⟨A3, c3, rfl, hP⟩ := hv
  have HU := Lib.hid (show KG lk ht rc M ts L gs (.agg #[(.int .i64 lk), (.int .i64 ht), .slice A1 M c1, (.int .i64 rc), .slice A2 L c2]) w from ⟨_, _, _, _, rfl, hT, hG⟩)
  have HS := Lib.hid (show KT h lv n l (.agg #[(.int .i64 h), (.int .i64 lv), .slice A3 n c3]) w from ⟨_, _, rfl, hP⟩)
  have HSH : Hid (∀ W, KG lk ht rc M ts L gs (.agg #[(.int .i64 lk), (.int .i64 ht), .slice A1 M c1, (.int .i64 rc), .slice A2 L c2]) W → Calls Tryz.prog 5 #[.agg #[(.int .i64 lk), (.int .i64 ht), .slice A1 M c1, (.int .i64 rc), .slice A2 L c2]] W (KP (KV (.bool true)) W)) := Lib.hid (fun W q => by have := Short_K q; rwa [decide_eq_true b0] at this)
  have HSS : Hid (∀ W, KT h lv n l (.agg #[(.int .i64 h), (.int .i64 lv), .slice A3 n c3]) W → Calls Tryz.prog 15 #[.agg #[(.int .i64 h), (.int .i64 lv), .slice A3 n c3]] W (KP (KV (.bool true)) W)) := Lib.hid (fun W q => by have := ShortState_K q; rwa [decide_eq_true b1] at this)
  have hd3 : decide ((300 : Int) < (s.size : Int)) = false := decide_eq_false (by omega)
  obtain ⟨b3, b4⟩ := b0
  have hLim := hTab.tab.lim
  have hPT : ∀ W : World, RTab W → Calls Tryz.prog 9 #[.string s] W (KP (K2 (KG (parF s.data.toList).lk (parF s.data.toList).ht (parF s.data.toList).rc (parF s.data.toList).ts.length (parF s.data.toList).ts (parF s.data.toList).gs.length (parF s.data.toList).gs) (KV (.int .i64 ((parF s.data.toList).err)))) W) := fun W q => parse_P s W q
  obtain ⟨PQ, hPQ⟩ : ∃ PQ, PQ = parF s.data.toList := ⟨_, rfl⟩
  rw [← hPQ] at hPT c0
  have hpp := parF_print (l := s.data.toList) (by rw [← hPQ]; exact c0)
  rw [← hPQ] at hpp
  rw [c0] at hPT
  obtain ⟨pl, ph, pr, pt, pg, pe⟩ := PQ
  obtain ⟨PM, hPM⟩ : ∃ PM, PM = pt.length := ⟨_, rfl⟩
  obtain ⟨PL, hPL⟩ : ∃ PL, PL = pg.length := ⟨_, rfl⟩
  have HPT : Hid (∀ W : World, RTab W → Calls Tryz.prog 9 #[.string s] W (KP (K2 (KG pl ph pr PM pt PL pg) (KV (.int .i64 0))) W)) := Lib.hid (fun W q => by rw [hPM, hPL]; exact hPT W q)
  have hpV : Valid pl ph pr pt pg := guard_valid hpp.1
  have HPR : Hid (∀ {a : Value} (W : World), RTab W → KG pl ph pr PM pt PL pg a W → Calls Tryz.prog 7 #[a] W (KP (K2 (KV (.string s)) (KV (.int .i64 0))) W)) := Lib.hid (fun W q0 q => by
    have e1 := hpV.tl
    have e2 := hpV.gl
    have := cPrint hPM hPL (by omega) (by omega) q0.tab q
    rw [textR_ok hpp.1, show textG pl ph pr pt pg = s.data.toList from hpp.2, show guardErr pl ph pr pt pg = 0 from hpp.1] at this
    exact this)
  obtain ⟨ST, hST⟩ : ∃ ST, ST = stErr lk ht rc ts gs h lv l := ⟨_, rfl⟩
  rw [← hST] at d0
  have HCS : Hid (∀ {a y : Value} (W : World), KG lk ht rc M ts L gs a W → KT h lv n l y W → Calls Tryz.prog 16 #[a, y] W (KP (KV (.int .i64 0)) W)) := Lib.hid (fun W q q2 => by rw [← d0, hST]; exact rCheckState_K hM hL hn (by omega) (by omega) (by omega) q q2)
  have HF := Lib.hid f0
  have hd8 : decide ((268435456 : Int) < h) = false := decide_eq_false (by omega)
  have hS := stErr_zero (hST ▸ d0)
  have hV := hS.v
  have hg := hS.g
  have hh := hS.h
  have hp := hS.pl
  obtain ⟨h2, hh2⟩ : ∃ h2, h2 = h / 2 := ⟨_, rfl⟩
  have hS2 : StV lk ht rc ts gs h2 lv l := ⟨hS.g, hS.v, by omega, hS.lv, hS.pl, hS.pb⟩
  have hM8 := hV.tl
  have HQ2 : Hid (wrap64 (h.tdiv 2) = h2) := Lib.hid (by rw [Int.tdiv_eq_ediv_of_nonneg hh.1, Go.IntWalk.wrap64_in _ (by omega), hh2])
  have HGU : Hid (∀ {x : Value} (W : World), KG lk ht rc M ts L gs x W → Calls Tryz.prog 8 #[x] W (KP (KGI lk ht rc M ts L gs) W)) := Lib.hid (fun W q => guard_K hM hL (by omega) (by omega) q)
  have HSU : Hid (∀ {x : Value} (W : World), KT h lv n l x W → Calls Tryz.prog 17 #[x] W (KP (KTI h lv n l) W)) := Lib.hid (fun W q => state_K hn (by omega) q)
  obtain ⟨tg, htg⟩ : ∃ tg : ByteArray, tg = ⟨(textG lk ht rc ts gs).toArray⟩ := ⟨_, rfl⟩
  have HPG : Hid (∀ {a : Value} (W : World), RTab W → KG lk ht rc M ts L gs a W → Calls Tryz.prog 7 #[a] W (KP (K2 (KV (.string tg)) (KV (.int .i64 0))) W)) := Lib.hid (fun W q0 q => by
    have := cPrint hM hL (by omega) (by omega) q0.tab q
    rw [textR_ok hg, hg] at this
    rw [htg]
    exact this)
  have HPP : Hid (∀ W : World, RTab W → Calls Tryz.prog 9 #[.string tg] W (KP (K2 (KG lk ht rc M ts L gs) (KV (.int .i64 0))) W)) := Lib.hid (fun W q => by
    have := parse_P tg W q
    rw [show parF tg.data.toList = ⟨lk, ht, rc, ts, gs, 0⟩ by rw [htg]; exact parF_text hg] at this
    rw [hM, hL]
    exact this)
  obtain ⟨BH, hBH⟩ : ∃ BH, BH = coolF lk h + 9 * 9 := ⟨_, rfl⟩
  obtain ⟨CH, hCH⟩ : ∃ CH, CH = coolF lk h2 + 9 * 9 := ⟨_, rfl⟩
  obtain ⟨BP, hBP⟩ : ∃ BP, BP = pushL l 9 := ⟨_, rfl⟩
  obtain ⟨BX, hBX⟩ : ∃ BX, BX = exF ts l 9 := ⟨_, rfl⟩
  have hcm := coolF_mono lk (show h2 ≤ h by omega)
  have hcb := coolF_bd lk hh.1
  have HLE : Hid (CH ≤ BH) := Lib.hid (by omega)
  have hbo : ∀ z, StV lk ht rc ts gs z lv l → bothErr lk ht rc ts gs z lv l 9 = 0 := fun z hz => by unfold bothErr; rw [stErr_ok hz, rangeErr_in (by omega) (by omega)]; rfl
  have HBA : Hid (∀ {a y : Value} (W : World), Lim W → KG lk ht rc M ts L gs a W → KT h lv n l y W → Calls Tryz.prog 18 #[a, y, (.int .i64 9)] W (KP (K3 (KTI BH lv n BP) (KV (.int .i64 BX)) (KV (.int .i64 0))) W)) := Lib.hid (fun W q0 q q2 => by rw [hBH, hBP, hBX]; exact xBehind_ok hM hL hn (by omega) (by omega) (by omega) q0 q q2 (hbo h hS) (by omega))
  have HBB : Hid (∀ {a y : Value} (W : World), Lim W → KG lk ht rc M ts L gs a W → KT h2 lv n l y W → Calls Tryz.prog 18 #[a, y, (.int .i64 9)] W (KP (K3 (KTI CH lv n BP) (KV (.int .i64 BX)) (KV (.int .i64 0))) W)) := Lib.hid (fun W q0 q q2 => by rw [hCH, hBP, hBX]; exact xBehind_ok hM hL hn (by omega) (by omega) (by omega) q0 q q2 (hbo h2 hS2) (by omega))
  have hFB := f0.symm
  have HSF : Hid (∀ {a y : Value} (W : World), Lim W → KG lk ht rc M ts L gs a W → KT h lv n l y W → Calls Tryz.prog 19 #[a, y] W (KP (K2 (KV (.bool true)) (KV (.int .i64 0))) W)) := Lib.hid (fun W q0 q q2 => by rw [hFB]; exact xSafe_ok hM hL hn (by omega) (by omega) (by omega) q0 q q2 (stErr_ok hS))
  obtain ⟨TL, hTL⟩ : ∃ TL, TL = tailsF ts l := ⟨_, rfl⟩
  have HTL : Hid (∀ {a y : Value} (W : World), Lim W → KG lk ht rc M ts L gs a W → KT h lv n l y W → Calls Tryz.prog 20 #[a, y] W (KP (K2 (KS n TL) (KV (.int .i64 0))) W)) := Lib.hid (fun W q0 q q2 => by rw [hTL]; exact xTails_ok hM hL hn (by omega) (by omega) (by omega) q0 q q2 (stErr_ok hS))
  have HSG : Hid (∀ {a y : Value} (W : World), KG lk ht rc M ts L gs a W → KG lk ht rc M ts L gs y W → Calls Tryz.prog 13 #[a, y] W (KP (KV (.bool true)) W)) := Lib.hid (fun W q q2 => sameGuard_T hM hL (by omega) (by omega) q q2)
  have HTLn : Hid (n = TL.length) := Lib.hid (by rw [hTL, hn]; exact (tailsL_len _ _ _).symm)
  have HRD := Lib.hid (round_R hM hL hn b3 b4 b1 hS hTL)
  have hMn : (M : Int) - 1 = (n : Int) := by omega
  have HNB : Hid ((n : Int) ≤ 9) := Lib.hid (by omega)
  have hwn : wrap64 (n : Int) = (n : Int) := Go.IntWalk.wrap64_in _ (by omega)
  have hdC : decide (BH < CH) = false := decide_eq_false (by omega)
  have HTab := Lib.hid hTab
  clear hTab hM hL hn hT hG hP b1 b3 b4 hLim c0 hPT b2 hPQ hpp hPM hPL hpV hST d0 f0 d1 hS hV hg hp hS2 hM8 htg hBH hCH hBP hBX hcm hcb hbo hFB hTL hh2 hh
  go_enter Tryz.func4, Tryz.ntmps4
  have HB0 := Lib.hid (Below.refl w.heap.size w)
  go_wp2_with (go_at_call 5; refine name_calls ?_; intro w1 e1; refine Hid.out ?_)
  unfold Hid
  have h1 : Below w.heap.size w w1 := by rw [e1]; exact bel
  have HB1 := Lib.hid (HB0.out.trans (h1.mono HB0.out.size))
  have bg_1 := Lib.hid (show Blk w1 w.heap.size #[(.int .i64 lk), (.int .i64 ht), .slice A1 M c1, (.int .i64 rc), .slice A2 L c2] from by rw [e1]; (repeat (first | ((with_reducible refine Blk.at_ ?_); focus (first | rfl | (simp; done) | (simp; omega))) | (with_reducible refine Blk.alloc ?_ _) | (with_reducible refine Blk.below ?_ (by with_reducible assumption)) | (with_reducible refine Blk.drew ?_))))
  have bs_1 := Lib.hid (show Blk w1 (w.heap.size + 1) #[(.int .i64 h), (.int .i64 lv), .slice A3 n c3] from by rw [e1]; (repeat (first | ((with_reducible refine Blk.at_ ?_); focus (first | rfl | (simp; done) | (simp; omega))) | (with_reducible refine Blk.alloc ?_ _) | (with_reducible refine Blk.below ?_ (by with_reducible assumption)) | (with_reducible refine Blk.drew ?_))))
  clear e1 h1
  refine (HSH.out _ (KG.st _ _ _ _ _ _ _ _ _ _ HU.out HB1.out)).mono ?_
  rintro r w2 ⟨v2, rfl, k2, h2⟩
  have bg_2 := Lib.hid (bg_1.out.below h2)
  have bs_2 := Lib.hid (bs_1.out.below h2)
  have HB2 := Lib.hid (HB1.out.trans (h2.mono HB1.out.size))
  obtain rfl := k2
  clear h2
  obtain ⟨fbs_0, fbs_1, fbs_2, fbs_l, -⟩ := bs_2.out.o3
  go_wp2_with (go_at_call 15; refine name_calls ?_; intro w3 e3; refine Hid.out ?_)
  unfold Hid
  have h3 : Below w2.heap.size w2 w3 := by rw [e3]; exact bel
  have bg_3 := Lib.hid (bg_2.out.below h3)
  have bs_3 := Lib.hid (bs_2.out.below h3)
  have HB3 := Lib.hid (HB2.out.trans (h3.mono HB2.out.size))
  clear e3 h3
  refine (HSS.out _ (KT.st _ _ _ _ _ _ _ HS.out HB3.out)).mono ?_
  rintro r w4 ⟨v4, rfl, k4, h4⟩
  have bg_4 := Lib.hid (bg_3.out.below h4)
  have bs_4 := Lib.hid (bs_3.out.below h4)
  have HB4 := Lib.hid (HB3.out.trans (h4.mono HB3.out.size))
  obtain rfl := k4
  clear h4
  clear fbs_0 fbs_1 fbs_2 fbs_l
  have ug_rw4 := Lib.hid (KG.st _ _ _ _ _ _ _ _ _ _ HU.out HB4.out)
  have us_rw4 := Lib.hid (KT.st _ _ _ _ _ _ _ HS.out HB4.out)
  have HTabw4 := Lib.hid (HTab.out.below HB4.out)
  have HZw4 := Lib.hid (Below.refl w4.heap.size w4)
  clear HU HS HTab
  go_wp2_with (go_at_call 9; refine name_calls ?_; intro w5 e5; refine Hid.out ?_)
  unfold Hid
  have h5 : Below w4.heap.size w4 w5 := by rw [e5]; exact bel
  have HB5 := Lib.hid (HZw4.out.trans (h5.mono HZw4.out.size))
  clear e5 h5
  refine (HPT.out _ (HTabw4.out.below HB5.out)).mono ?_
  rintro r w6 ⟨v6, rfl, k6, h6⟩
  have HB6 := Lib.hid (HB5.out.trans (h6.mono HB5.out.size))
  obtain ⟨_, _, rfl, ⟨PA, Pa, PB, Pb, rfl, hpa, hpb⟩, rfl⟩ := k6
  have px_6 := Lib.hid (show KG pl ph pr PM pt PL pg (.agg #[(.int .i64 pl), (.int .i64 ph), .slice PA PM Pa, (.int .i64 pr), .slice PB PL Pb]) w6 from ⟨_, _, _, _, rfl, hpa, hpb⟩)
  clear hpa hpb h6
  go_wp2_with (go_at_call 7; refine name_calls ?_; intro w7 e7; refine Hid.out ?_)
  unfold Hid
  have h7 : Below w6.heap.size w6 w7 := by rw [e7]; exact bel
  have px_7 := Lib.hid (KG.st _ _ _ _ _ _ _ _ _ _ px_6.out h7)
  have HB7 := Lib.hid (HB6.out.trans (h7.mono HB6.out.size))
  have bp_7 := Lib.hid (show Blk w7 w6.heap.size #[(.int .i64 pl), (.int .i64 ph), .slice PA PM Pa, (.int .i64 pr), .slice PB PL Pb] from by rw [e7]; exact Calm.Blk.new _ _ _)
  clear e7 h7
  refine (HPR.out _ (HTabw4.out.below HB7.out) px_7.out).mono ?_
  rintro r w8 ⟨v8, rfl, k8, h8⟩
  have px_8 := Lib.hid (KG.st _ _ _ _ _ _ _ _ _ _ px_7.out h8)
  have bp_8 := Lib.hid (bp_7.out.below h8)
  have HB8 := Lib.hid (HB7.out.trans (h8.mono HB7.out.size))
  obtain ⟨_, _, rfl, rfl, rfl⟩ := k8
  clear h8
  obtain ⟨fbg_0, fbg_1, fbg_2, fbg_3, fbg_4, fbg_l, -⟩ := (bg_4.out.below HB8.out).o5
  obtain ⟨fbs_0, fbs_1, fbs_2, fbs_l, -⟩ := (bs_4.out.below HB8.out).o3
  go_wp2_with (go_at_call 16; refine name_calls ?_; intro w9 e9; refine Hid.out ?_)
  unfold Hid
  have h9 : Below w8.heap.size w8 w9 := by rw [e9]; exact bel
  have HB9 := Lib.hid (HB8.out.trans (h9.mono HB8.out.size))
  clear e9 h9
  refine (HCS.out _ (KG.st _ _ _ _ _ _ _ _ _ _ ug_rw4.out HB9.out) (KT.st _ _ _ _ _ _ _ us_rw4.out HB9.out)).mono ?_
  rintro r w10 ⟨v10, rfl, k10, h10⟩
  have HB10 := Lib.hid (HB9.out.trans (h10.mono HB9.out.size))
  obtain rfl := k10
  clear h10
  have ug_rw10 := Lib.hid (KG.st _ _ _ _ _ _ _ _ _ _ ug_rw4.out HB10.out)
  have us_rw10 := Lib.hid (KT.st _ _ _ _ _ _ _ us_rw4.out HB10.out)
  have bg_rw10 := Lib.hid (bg_4.out.below HB10.out)
  have bs_rw10 := Lib.hid (bs_4.out.below HB10.out)
  have HTabw10 := Lib.hid (HTabw4.out.below HB10.out)
  have HOw10 := Lib.hid (HB4.out.trans (HB10.out.mono HB4.out.size))
  have HZw10 := Lib.hid (Below.refl w10.heap.size w10)
  clear HB10 ug_rw4 us_rw4 bg_4 bs_4 HTabw4 HB4
  clear fbg_0 fbg_1 fbg_2 fbg_3 fbg_4 fbg_l
  obtain ⟨fbg_0, fbg_1, fbg_2, fbg_3, fbg_4, fbg_l, -⟩ := (bg_rw10.out.below HZw10.out).o5
  clear fbs_0 fbs_1 fbs_2 fbs_l
  obtain ⟨fbs_0, fbs_1, fbs_2, fbs_l, -⟩ := (bs_rw10.out.below HZw10.out).o3
  go_wp2_with (go_at_call 8; refine name_calls ?_; intro w11 e11; refine Hid.out ?_)
  unfold Hid
  have h11 : Below w10.heap.size w10 w11 := by rw [e11]; exact bel
  have HB11 := Lib.hid (HZw10.out.trans (h11.mono HZw10.out.size))
  clear e11 h11
  refine (HGU.out _ (KG.st _ _ _ _ _ _ _ _ _ _ ug_rw10.out HB11.out)).mono ?_
  rintro r w12 ⟨v12, rfl, k12, h12⟩
  have HB12 := Lib.hid (HB11.out.trans (h12.mono HB11.out.size))
  have g_12 := Lib.hid k12
  clear k12 h12
  clear fbg_0 fbg_1 fbg_2 fbg_3 fbg_4 fbg_l
  clear fbs_0 fbs_1 fbs_2 fbs_l
  go_wp2_with (go_at_call 7; refine name_calls ?_; intro w13 e13; refine Hid.out ?_)
  unfold Hid
  have h13 : Below w12.heap.size w12 w13 := by rw [e13]; exact bel
  have g_13 := Lib.hid ((KGI.ik _ _ _ _ _ _ _).st _ _ _ g_12.out h13)
  have HB13 := Lib.hid (HB12.out.trans (h13.mono HB12.out.size))
  clear e13 h13
  refine (HPG.out _ (HTabw10.out.below HB13.out) g_13.out.kg).mono ?_
  rintro r w14 ⟨v14, rfl, k14, h14⟩
  have g_14 := Lib.hid ((KGI.ik _ _ _ _ _ _ _).st _ _ _ g_13.out h14)
  have HB14 := Lib.hid (HB13.out.trans (h14.mono HB13.out.size))
  obtain ⟨_, _, rfl, rfl, rfl⟩ := k14
  clear h14
  go_wp2_with (go_at_call 9; refine name_calls ?_; intro w15 e15; refine Hid.out ?_)
  unfold Hid
  have h15 : Below w14.heap.size w14 w15 := by rw [e15]; exact bel
  have HB15 := Lib.hid (HB14.out.trans (h15.mono HB14.out.size))
  clear e15 h15
  refine (HPP.out _ (HTabw10.out.below HB15.out)).mono ?_
  rintro r w16 ⟨v16, rfl, k16, h16⟩
  have HB16 := Lib.hid (HB15.out.trans (h16.mono HB15.out.size))
  obtain ⟨_, _, rfl, ⟨XA, Xa, XB, Xb, rfl, hpa, hpb⟩, rfl⟩ := k16
  have x_16 := Lib.hid (show KG lk ht rc M ts L gs (.agg #[(.int .i64 lk), (.int .i64 ht), .slice XA M Xa, (.int .i64 rc), .slice XB L Xb]) w16 from ⟨_, _, _, _, rfl, hpa, hpb⟩)
  clear hpa hpb h16
  obtain ⟨fbs_0, fbs_1, fbs_2, fbs_l, -⟩ := (bs_rw10.out.below HB16.out).o3
  go_wp2_with (go_at_call 17; refine name_calls ?_; intro w17 e17; refine Hid.out ?_)
  unfold Hid
  have h17 : Below w16.heap.size w16 w17 := by rw [e17]; exact bel
  have x_17 := Lib.hid (KG.st _ _ _ _ _ _ _ _ _ _ x_16.out h17)
  have HB17 := Lib.hid (HB16.out.trans (h17.mono HB16.out.size))
  have bx_17 := Lib.hid (show Blk w17 w16.heap.size #[(.int .i64 lk), (.int .i64 ht), .slice XA M Xa, (.int .i64 rc), .slice XB L Xb] from by rw [e17]; exact Calm.Blk.new _ _ _)
  clear e17 h17
  refine (HSU.out _ (KT.st _ _ _ _ _ _ _ us_rw10.out HB17.out)).mono ?_
  rintro r w18 ⟨v18, rfl, k18, h18⟩
  have x_18 := Lib.hid (KG.st _ _ _ _ _ _ _ _ _ _ x_17.out h18)
  have bx_18 := Lib.hid (bx_17.out.below h18)
  have HB18 := Lib.hid (HB17.out.trans (h18.mono HB17.out.size))
  obtain ⟨LB, Lc, rfl, hlc, hli⟩ := k18
  have l_18 := Lib.hid (show KTI h lv n l (.agg #[(.int .i64 h), (.int .i64 lv), .slice LB n Lc]) w18 from ⟨_, _, rfl, hlc, hli⟩)
  clear hlc hli h18
  clear fbs_0 fbs_1 fbs_2 fbs_l
  obtain ⟨fbg_0, fbg_1, fbg_2, fbg_3, fbg_4, fbg_l, -⟩ := (bg_rw10.out.below HB18.out).o5
  obtain ⟨fbs_0, fbs_1, fbs_2, fbs_l, -⟩ := (bs_rw10.out.below HB18.out).o3
  have hsg0 := (bs_rw10.out.below HB18.out).lt
  go_wp2
  obtain ⟨gl, hgl⟩ : ∃ gl, gl = w18.heap.size := ⟨_, rfl⟩
  refine name_world ?_
  intro w19 e19
  have hb19 : Below w18.heap.size w18 w19 := by rw [e19]; exact bel
  have bl_19 := Lib.hid (show Blk w19 gl #[(.int .i64 h2), (.int .i64 lv), .slice LB n Lc] from by rw [e19, hgl, HQ2.out]; exact Calm.Blk.new _ _ _)
  have x_19 := Lib.hid (KG.st _ _ _ _ _ _ _ _ _ _ x_18.out hb19)
  have l0_19 := Lib.hid ((KTI.ik h lv n l).st _ _ _ l_18.out hb19)
  have bx_19 := Lib.hid (bx_18.out.below hb19)
  have HB19 := Lib.hid (HB18.out.trans (hb19.mono HB18.out.size))
  clear fbg_0 fbg_1 fbg_2 fbg_3 fbg_4 fbg_l
  clear fbs_0 fbs_1 fbs_2 fbs_l
  have l2_19 := Lib.hid (show KT h2 lv n l (.agg #[(.int .i64 h2), (.int .i64 lv), .slice LB n Lc]) w19 by obtain ⟨_, _, ee, hcc⟩ := l0_19.out.kt; cases ee; exact ⟨_, _, rfl, hcc⟩)
  rw [← hgl]
  clear e19 hb19 hgl hsg0 HQ2
  have ug_rw19 := Lib.hid (KG.st _ _ _ _ _ _ _ _ _ _ ug_rw10.out HB19.out)
  have us_rw19 := Lib.hid (KT.st _ _ _ _ _ _ _ us_rw10.out HB19.out)
  have bg_rw19 := Lib.hid (bg_rw10.out.below HB19.out)
  have bs_rw19 := Lib.hid (bs_rw10.out.below HB19.out)
  have HTabw19 := Lib.hid (HTabw10.out.below HB19.out)
  have HOw19 := Lib.hid (HOw10.out.trans (HB19.out.mono HOw10.out.size))
  have HZw19 := Lib.hid (Below.refl w19.heap.size w19)
  clear HB19 ug_rw10 us_rw10 bg_rw10 bs_rw10 HTabw10 HOw10
  obtain ⟨fbg_0, fbg_1, fbg_2, fbg_3, fbg_4, fbg_l, -⟩ := (bg_rw19.out.below HZw19.out).o5
  obtain ⟨fbs_0, fbs_1, fbs_2, fbs_l, -⟩ := (bs_rw19.out.below HZw19.out).o3
  go_wp2
  refine RelH.region3 (S := Sty 45 (KTI BH lv n BP) w19.heap.size) (Sty.trans (KTI.ik _ _ _ _)) (Sty.drawn (by decide)) 12 (by kernel_rfl) (by kernel_rfl) (by kernel_rfl) ?_
  simp only [List.take_succ_cons, List.take_zero, List.drop_succ_cons, List.drop_zero, List.filterMap_cons, List.filterMap_nil]
  (refine RelH.opz (Sty.refl (by decide)) (hn := ?_); (try simp only [List.nil_append, List.cons_append]))
  refine RelH.callH (fun _ _ h => h.keep) (fun _ _ h => Sty.of (by decide) h) 8 (KGI lk ht rc M ts L gs) ((KGI.ik _ _ _ _ _ _ _)) (RelH.gno rfl) ?_ ?_
  · intro a W x hS hd hbase
    have hb := hS.below (Nat.le_refl _)
    have q1 : a.eval (.tmp 95) = _ := (RelH.dep_k hd 0 rfl rfl)
    refine ⟨#[a.eval (.tmp 95)], ?_, by rw [q1]; exact HGU.out _ (KG.st _ _ _ _ _ _ _ _ _ _ ug_rw19.out (HZw19.out.trans (hb.mono HZw19.out.size)))⟩
    clear hd hbase hb hS
    go_simp
    (first | done | rfl | (refine ⟨?_, ?_⟩ <;> rfl))
  (try simp only [List.nil_append, List.cons_append])
  (refine RelH.opz (Sty.refl (by decide)) (hn := ?_); (try simp only [List.nil_append, List.cons_append]))
  refine RelH.callH (fun _ _ h => h.keep) (fun _ _ h => Sty.of (by decide) h) 17 (KTI h lv n l) ((KTI.ik _ _ _ _)) (RelH.gno rfl) ?_ ?_
  · intro a W x hS hd hbase
    have hb := hS.below (Nat.le_refl _)
    have q1 : a.eval (.tmp 97) = _ := (RelH.dep_k hd 2 rfl rfl)
    refine ⟨#[a.eval (.tmp 97)], ?_, by rw [q1]; exact HSU.out _ (KT.st _ _ _ _ _ _ _ us_rw19.out (HZw19.out.trans (hb.mono HZw19.out.size)))⟩
    clear hd hbase hb hS
    go_simp
    (first | done | rfl | (refine ⟨?_, ?_⟩ <;> rfl))
  (try simp only [List.nil_append, List.cons_append])
  refine RelH.callH (fun _ _ h => h.keep) (fun _ _ h => Sty.of (by decide) h) 18 (K3 (KTI BH lv n BP) (KV (.int .i64 BX)) (KV (.int .i64 0))) ((K3.ik (KTI.ik _ _ _ _) (KV.ik _) (KV.ik _))) (RelH.gno rfl) ?_ ?_
  · intro a W x hS hd hbase
    have hb := hS.below (Nat.le_refl _)
    refine ⟨#[a.eval (.tmp 96), a.eval (.tmp 98), (.int .i64 9)], ?_, HBA.out _ (HTabw19.out.below (HZw19.out.trans (hb.mono HZw19.out.size))).tab.lim (RelH.dep_k hd 1 rfl rfl).kg (RelH.dep_k hd 3 rfl rfl).kt⟩
    clear hd hbase hb hS
    go_simp
    (first | done | rfl | (refine ⟨?_, ?_⟩ <;> rfl))
  (try simp only [List.nil_append, List.cons_append])
  refine RelH.mvH (Sty.refl (by decide)) (fun _ _ h => h.keep) 99 4 rfl rfl rfl ((K3.ik (KTI.ik _ _ _ _) (KV.ik _) (KV.ik _))) (RelH.gno rfl) ?_
  (try simp only [List.nil_append, List.cons_append])
  refine RelH.ext30H (Sty.refl (by decide)) (fun _ _ h => h.keep) 94 5 rfl rfl rfl ((KTI.ik _ _ _ _)) (RelH.gno rfl) ?_
  (try simp only [List.nil_append, List.cons_append])
  refine RelH.ext31H (Sty.refl (by decide)) (fun _ _ h => h.keep) 94 5 rfl rfl rfl ((KV.ik _)) (RelH.gno rfl) ?_
  (try simp only [List.nil_append, List.cons_append])
  refine RelH.ext32H (Sty.refl (by decide)) (fun _ _ h => h.keep) 94 5 rfl rfl rfl ((KV.ik _)) (RelH.gno rfl) ?_
  (try simp only [List.nil_append, List.cons_append])
  (refine RelH.allocH (by decide) (n := 3) (fun cs W h => by obtain ⟨_, _, e, _⟩ := h; cases e; rfl) #[(.int .i64 0), (.int .i64 0), .slice none 0 0] rfl (RelH.gno rfl) (by intro a W; go_simp) ?_; (try simp only [List.nil_append, List.cons_append]))
  refine RelH.storeH 16 100 9 6 rfl rfl rfl rfl rfl (RelH.gno rfl) ?_
  (try simp only [List.nil_append, List.cons_append])
  (refine RelH.opz (Sty.refl (by decide)) (hn := ?_); (try simp only [List.nil_append, List.cons_append]))
  refine RelH.done3 ?_
  intro x w20 hS20 hx
  have h20 := hS20.below (Nat.le_refl _)
  clear hS20
  simp only [RelH.facts, Nat.zero_add, Nat.reduceAdd] at hx
  clear fbg_0 fbg_1 fbg_2 fbg_3 fbg_4 fbg_l
  clear fbs_0 fbs_1 fbs_2 fbs_l
  obtain ⟨e0, _, e2, _, _, _, _, e7, e8, _, ⟨gb20, e9, hg20, cs20, hG20, B20, c20, ec20, hc20, hi20⟩, e11, _⟩ := hx
  have e7 : x 7 = _ := e7
  have e8 : x 8 = _ := e8
  cases ec20
  simp only [RelH.fill, Nat.zero_add, Nat.reduceAdd, e0, e2, e7, e8, e9, e11]
  simp only [Act.put, List.setIfInBounds_toArray, List.set_cons_zero, List.set_cons_succ]
  clear e0 e2 e7 e8 e9 e11
  have HB20 := Lib.hid (HZw19.out.trans (h20.mono HZw19.out.size))
  have ba_20 := Lib.hid (show Blk w20 gb20 #[(.int .i64 BH), (.int .i64 lv), .slice B20 n c20] from Calm.Blk.row hG20)
  have a_20 := Lib.hid (show KTI BH lv n BP (.agg #[(.int .i64 BH), (.int .i64 lv), .slice B20 n c20]) w20 from ⟨_, _, rfl, hc20, hi20⟩)
  clear hc20 hi20 hG20 hg20 h20
  obtain ⟨fbg_0, fbg_1, fbg_2, fbg_3, fbg_4, fbg_l, -⟩ := (bg_rw19.out.below HB20.out).o5
  obtain ⟨fbl_0, fbl_1, fbl_2, fbl_l, -⟩ := (bl_19.out.below HB20.out).o3
  go_wp2
  refine RelH.region3 (S := Sty 45 (KTI CH lv n BP) w20.heap.size) (Sty.trans (KTI.ik _ _ _ _)) (Sty.drawn (by decide)) 11 (by kernel_rfl) (by kernel_rfl) (by kernel_rfl) ?_
  simp only [List.take_succ_cons, List.take_zero, List.drop_succ_cons, List.drop_zero, List.filterMap_cons, List.filterMap_nil]
  (refine RelH.opz (Sty.refl (by decide)) (hn := ?_); (try simp only [List.nil_append, List.cons_append]))
  refine RelH.callH (fun _ _ h => h.keep) (fun _ _ h => Sty.of (by decide) h) 8 (KGI lk ht rc M ts L gs) ((KGI.ik _ _ _ _ _ _ _)) (RelH.gno rfl) ?_ ?_
  · intro a W x hS hd hbase
    have hb := hS.below (Nat.le_refl _)
    have q1 : a.eval (.tmp 104) = _ := (RelH.dep_k hd 0 rfl rfl)
    refine ⟨#[a.eval (.tmp 104)], ?_, by rw [q1]; exact HGU.out _ (KG.st _ _ _ _ _ _ _ _ _ _ ug_rw19.out (HB20.out.trans (hb.mono HB20.out.size)))⟩
    clear hd hbase hb hS
    go_simp
    (first | done | rfl | (refine ⟨?_, ?_⟩ <;> rfl))
  (try simp only [List.nil_append, List.cons_append])
  (refine RelH.opz (Sty.refl (by decide)) (hn := ?_); (try simp only [List.nil_append, List.cons_append]))
  refine RelH.callH (fun _ _ h => h.keep) (fun _ _ h => Sty.of (by decide) h) 18 (K3 (KTI CH lv n BP) (KV (.int .i64 BX)) (KV (.int .i64 0))) ((K3.ik (KTI.ik _ _ _ _) (KV.ik _) (KV.ik _))) (RelH.gno rfl) ?_ ?_
  · intro a W x hS hd hbase
    have hb := hS.below (Nat.le_refl _)
    have q2 : a.eval (.tmp 106) = _ := (RelH.dep_k hd 2 rfl rfl)
    refine ⟨#[a.eval (.tmp 105), a.eval (.tmp 106), (.int .i64 9)], ?_, by rw [q2]; exact HBB.out _ (HTabw19.out.below (HB20.out.trans (hb.mono HB20.out.size))).tab.lim (RelH.dep_k hd 1 rfl rfl).kg (KT.st _ _ _ _ _ _ _ l2_19.out (HB20.out.trans (hb.mono HB20.out.size)))⟩
    clear hd hbase hb hS
    go_simp
    (first | done | rfl | (refine ⟨?_, ?_⟩ <;> rfl))
  (try simp only [List.nil_append, List.cons_append])
  refine RelH.mvH (Sty.refl (by decide)) (fun _ _ h => h.keep) 107 3 rfl rfl rfl ((K3.ik (KTI.ik _ _ _ _) (KV.ik _) (KV.ik _))) (RelH.gno rfl) ?_
  (try simp only [List.nil_append, List.cons_append])
  refine RelH.ext30H (Sty.refl (by decide)) (fun _ _ h => h.keep) 103 4 rfl rfl rfl ((KTI.ik _ _ _ _)) (RelH.gno rfl) ?_
  (try simp only [List.nil_append, List.cons_append])
  refine RelH.ext31H (Sty.refl (by decide)) (fun _ _ h => h.keep) 103 4 rfl rfl rfl ((KV.ik _)) (RelH.gno rfl) ?_
  (try simp only [List.nil_append, List.cons_append])
  refine RelH.ext32H (Sty.refl (by decide)) (fun _ _ h => h.keep) 103 4 rfl rfl rfl ((KV.ik _)) (RelH.gno rfl) ?_
  (try simp only [List.nil_append, List.cons_append])
  (refine RelH.allocH (by decide) (n := 3) (fun cs W h => by obtain ⟨_, _, e, _⟩ := h; cases e; rfl) #[(.int .i64 0), (.int .i64 0), .slice none 0 0] rfl (RelH.gno rfl) (by intro a W; go_simp) ?_; (try simp only [List.nil_append, List.cons_append]))
  refine RelH.storeH 19 108 8 5 rfl rfl rfl rfl rfl (RelH.gno rfl) ?_
  (try simp only [List.nil_append, List.cons_append])
  (refine RelH.opz (Sty.refl (by decide)) (hn := ?_); (try simp only [List.nil_append, List.cons_append]))
  refine RelH.done3 ?_
  intro x w21 hS21 hx
  have h21 := hS21.below (Nat.le_refl _)
  clear hS21
  simp only [RelH.facts, Nat.zero_add, Nat.reduceAdd] at hx
  clear fbg_0 fbg_1 fbg_2 fbg_3 fbg_4 fbg_l
  clear fbl_0 fbl_1 fbl_2 fbl_l
  obtain ⟨e0, _, e2, _, _, _, e6, e7, _, ⟨gb21, e8, hg21, cs21, hG21, B21, c21, ec21, hc21, hi21⟩, e10, _⟩ := hx
  have e6 : x 6 = _ := e6
  have e7 : x 7 = _ := e7
  cases ec21
  simp only [RelH.fill, Nat.zero_add, Nat.reduceAdd, e0, e2, e6, e7, e8, e10]
  simp only [Act.put, List.setIfInBounds_toArray, List.set_cons_zero, List.set_cons_succ]
  clear e0 e2 e6 e7 e8 e10
  have a_21 := Lib.hid ((KTI.ik BH lv n BP).st _ _ _ a_20.out h21)
  have ba_21 := Lib.hid (ba_20.out.below h21)
  have HB21 := Lib.hid (HB20.out.trans (h21.mono HB20.out.size))
  have bb_21 := Lib.hid (show Blk w21 gb21 #[(.int .i64 CH), (.int .i64 lv), .slice B21 n c21] from Calm.Blk.row hG21)
  have b_21 := Lib.hid (show KTI CH lv n BP (.agg #[(.int .i64 CH), (.int .i64 lv), .slice B21 n c21]) w21 from ⟨_, _, rfl, hc21, hi21⟩)
  clear hc21 hi21 hG21 hg21 h21
  obtain ⟨fbg_0, fbg_1, fbg_2, fbg_3, fbg_4, fbg_l, -⟩ := (bg_rw19.out.below HB21.out).o5
  obtain ⟨fbs_0, fbs_1, fbs_2, fbs_l, -⟩ := (bs_rw19.out.below HB21.out).o3
  go_wp2
  refine Rel.region3 9 (by kernel_rfl) (by kernel_rfl) (by kernel_rfl) ?_
  simp only [List.take_succ_cons, List.take_zero, List.drop_succ_cons, List.drop_zero, List.filterMap_cons, List.filterMap_nil]
  (refine Rel.opz (hn := ?_); (try simp only [List.nil_append, List.cons_append]))
  refine Rel.callK 8 (KGI lk ht rc M ts L gs) ((KGI.ik _ _ _ _ _ _ _).st) (Rel.gno rfl) ?_ ?_
  · intro a W hb hd hbase
    have q1 : a.eval (.tmp 112) = _ := (Rel.dep_at hd 0 rfl rfl)
    refine ⟨#[a.eval (.tmp 112)], ?_, by rw [q1]; exact HGU.out _ (KG.st _ _ _ _ _ _ _ _ _ _ ug_rw19.out (HB21.out.trans (hb.mono HB21.out.size)))⟩
    clear hd hbase hb
    go_simp
    (first | done | rfl | (refine ⟨?_, ?_⟩ <;> rfl))
  (try simp only [List.nil_append, List.cons_append])
  (refine Rel.opz (hn := ?_); (try simp only [List.nil_append, List.cons_append]))
  refine Rel.callK 17 (KTI h lv n l) ((KTI.ik _ _ _ _).st) (Rel.gno rfl) ?_ ?_
  · intro a W hb hd hbase
    have q1 : a.eval (.tmp 114) = _ := (Rel.dep_at hd 2 rfl rfl)
    refine ⟨#[a.eval (.tmp 114)], ?_, by rw [q1]; exact HSU.out _ (KT.st _ _ _ _ _ _ _ us_rw19.out (HB21.out.trans (hb.mono HB21.out.size)))⟩
    clear hd hbase hb
    go_simp
    (first | done | rfl | (refine ⟨?_, ?_⟩ <;> rfl))
  (try simp only [List.nil_append, List.cons_append])
  refine Rel.callK 19 (K2 (KV (.bool true)) (KV (.int .i64 0))) ((K2.st (KV.st _) (KV.st _))) (Rel.gno rfl) ?_ ?_
  · intro a W hb hd hbase
    refine ⟨#[a.eval (.tmp 113), a.eval (.tmp 115)], ?_, HSF.out _ (HTabw19.out.below (HB21.out.trans (hb.mono HB21.out.size))).tab.lim (Rel.dep_at hd 1 rfl rfl).kg (Rel.dep_at hd 3 rfl rfl).kt⟩
    clear hd hbase hb
    go_simp
    (first | done | rfl | (refine ⟨?_, ?_⟩ <;> rfl))
  (try simp only [List.nil_append, List.cons_append])
  refine Rel.mvK 116 4 rfl rfl rfl ((K2.st (KV.st _) (KV.st _))) (Rel.gno rfl) ?_
  (try simp only [List.nil_append, List.cons_append])
  refine Rel.ext20 111 5 rfl rfl rfl (KV.st _) (Rel.gno rfl) ?_
  (try simp only [List.nil_append, List.cons_append])
  refine Rel.ext21 111 5 rfl rfl rfl (KV.st _) (Rel.gno rfl) ?_
  (try simp only [List.nil_append, List.cons_append])
  (refine Rel.opz (hn := ?_); (try simp only [List.nil_append, List.cons_append]))
  refine Rel.done3 ?_
  intro x w22 h22 hx
  simp only [Rel.facts, Nat.zero_add, Nat.reduceAdd] at hx
  clear fbg_0 fbg_1 fbg_2 fbg_3 fbg_4 fbg_l
  clear fbs_0 fbs_1 fbs_2 fbs_l
  obtain ⟨e0, _, e2, _, _, _, e6, e7, e8, _⟩ := hx
  have e6 : x 6 = _ := e6
  have e7 : x 7 = _ := e7
  simp only [Rel.fill, Nat.zero_add, Nat.reduceAdd, e0, e2, e6, e7, e8]
  simp only [Act.put, List.setIfInBounds_toArray, List.set_cons_zero, List.set_cons_succ]
  clear e0 e2 e6 e7 e8
  have a_22 := Lib.hid ((KTI.ik BH lv n BP).st _ _ _ a_21.out h22)
  have b_22 := Lib.hid ((KTI.ik CH lv n BP).st _ _ _ b_21.out h22)
  have ba_22 := Lib.hid (ba_21.out.below h22)
  have bb_22 := Lib.hid (bb_21.out.below h22)
  have HB22 := Lib.hid (HB21.out.trans (h22.mono HB21.out.size))
  clear h22
  obtain ⟨fbg_0, fbg_1, fbg_2, fbg_3, fbg_4, fbg_l, -⟩ := (bg_rw19.out.below HB22.out).o5
  obtain ⟨fbs_0, fbs_1, fbs_2, fbs_l, -⟩ := (bs_rw19.out.below HB22.out).o3
  go_wp2
  refine Rel.region3 9 (by kernel_rfl) (by kernel_rfl) (by kernel_rfl) ?_
  simp only [List.take_succ_cons, List.take_zero, List.drop_succ_cons, List.drop_zero, List.filterMap_cons, List.filterMap_nil]
  (refine Rel.opz (hn := ?_); (try simp only [List.nil_append, List.cons_append]))
  refine Rel.callK 8 (KGI lk ht rc M ts L gs) ((KGI.ik _ _ _ _ _ _ _).st) (Rel.gno rfl) ?_ ?_
  · intro a W hb hd hbase
    have q1 : a.eval (.tmp 120) = _ := (Rel.dep_at hd 0 rfl rfl)
    refine ⟨#[a.eval (.tmp 120)], ?_, by rw [q1]; exact HGU.out _ (KG.st _ _ _ _ _ _ _ _ _ _ ug_rw19.out (HB22.out.trans (hb.mono HB22.out.size)))⟩
    clear hd hbase hb
    go_simp
    (first | done | rfl | (refine ⟨?_, ?_⟩ <;> rfl))
  (try simp only [List.nil_append, List.cons_append])
  (refine Rel.opz (hn := ?_); (try simp only [List.nil_append, List.cons_append]))
  refine Rel.callK 17 (KTI h lv n l) ((KTI.ik _ _ _ _).st) (Rel.gno rfl) ?_ ?_
  · intro a W hb hd hbase
    have q1 : a.eval (.tmp 122) = _ := (Rel.dep_at hd 2 rfl rfl)
    refine ⟨#[a.eval (.tmp 122)], ?_, by rw [q1]; exact HSU.out _ (KT.st _ _ _ _ _ _ _ us_rw19.out (HB22.out.trans (hb.mono HB22.out.size)))⟩
    clear hd hbase hb
    go_simp
    (first | done | rfl | (refine ⟨?_, ?_⟩ <;> rfl))
  (try simp only [List.nil_append, List.cons_append])
  refine Rel.callK 20 (K2 (KS n TL) (KV (.int .i64 0))) ((K2.st (KS.st _ _) (KV.st _))) (Rel.gno rfl) ?_ ?_
  · intro a W hb hd hbase
    refine ⟨#[a.eval (.tmp 121), a.eval (.tmp 123)], ?_, HTL.out _ (HTabw19.out.below (HB22.out.trans (hb.mono HB22.out.size))).tab.lim (Rel.dep_at hd 1 rfl rfl).kg (Rel.dep_at hd 3 rfl rfl).kt⟩
    clear hd hbase hb
    go_simp
    (first | done | rfl | (refine ⟨?_, ?_⟩ <;> rfl))
  (try simp only [List.nil_append, List.cons_append])
  refine Rel.mvK 124 4 rfl rfl rfl ((K2.st (KS.st _ _) (KV.st _))) (Rel.gno rfl) ?_
  (try simp only [List.nil_append, List.cons_append])
  refine Rel.ext20 119 5 rfl rfl rfl ((KS.st _ _)) (Rel.gno rfl) ?_
  (try simp only [List.nil_append, List.cons_append])
  refine Rel.ext21 119 5 rfl rfl rfl (KV.st _) (Rel.gno rfl) ?_
  (try simp only [List.nil_append, List.cons_append])
  refine Rel.asgK 125 6 rfl rfl rfl ((KS.st _ _)) (Rel.gno rfl) ?_
  (try simp only [List.nil_append, List.cons_append])
  refine Rel.done3 ?_
  intro x w23 h23 hx
  simp only [Rel.facts, Nat.zero_add, Nat.reduceAdd] at hx
  clear fbg_0 fbg_1 fbg_2 fbg_3 fbg_4 fbg_l
  clear fbs_0 fbs_1 fbs_2 fbs_l
  obtain ⟨e0, _, e2, _, _, _, _, e7, ⟨TB, TC, e8, hTB⟩, _⟩ := hx
  have e7 : x 7 = _ := e7
  simp only [Rel.fill, Nat.zero_add, Nat.reduceAdd, e0, e2, e7, e8]
  simp only [Act.put, List.setIfInBounds_toArray, List.set_cons_zero, List.set_cons_succ]
  clear e0 e2 e7 e8
  have a_23 := Lib.hid ((KTI.ik BH lv n BP).st _ _ _ a_22.out h23)
  have b_23 := Lib.hid ((KTI.ik CH lv n BP).st _ _ _ b_22.out h23)
  have ba_23 := Lib.hid (ba_22.out.below h23)
  have bb_23 := Lib.hid (bb_22.out.below h23)
  have HB23 := Lib.hid (HB22.out.trans (h23.mono HB22.out.size))
  have t_23 := Lib.hid (show KS n TL (.slice TB n TC) w23 from ⟨_, _, rfl, hTB⟩)
  clear hTB h23
  have ug_rw23 := Lib.hid (KG.st _ _ _ _ _ _ _ _ _ _ ug_rw19.out HB23.out)
  have us_rw23 := Lib.hid (KT.st _ _ _ _ _ _ _ us_rw19.out HB23.out)
  have x_rw23 := Lib.hid (KG.st _ _ _ _ _ _ _ _ _ _ x_19.out HB23.out)
  have l2_rw23 := Lib.hid (KT.st _ _ _ _ _ _ _ l2_19.out HB23.out)
  have bg_rw23 := Lib.hid (bg_rw19.out.below HB23.out)
  have bs_rw23 := Lib.hid (bs_rw19.out.below HB23.out)
  have bx_rw23 := Lib.hid (bx_19.out.below HB23.out)
  have bl_rw23 := Lib.hid (bl_19.out.below HB23.out)
  have HTabw23 := Lib.hid (HTabw19.out.below HB23.out)
  have HOw23 := Lib.hid (HOw19.out.trans (HB23.out.mono HOw19.out.size))
  have HZw23 := Lib.hid (Below.refl w23.heap.size w23)
  clear HB23 ug_rw19 us_rw19 x_19 l2_19 bg_rw19 bs_rw19 bx_19 bl_19 HTabw19 HOw19
  obtain ⟨fbg_0, fbg_1, fbg_2, fbg_3, fbg_4, fbg_l, -⟩ := (bg_rw23.out.below HZw23.out).o5
  obtain ⟨fbx_0, fbx_1, fbx_2, fbx_3, fbx_4, fbx_l, -⟩ := (bx_rw23.out.below HZw23.out).o5
  obtain ⟨fba_0, fba_1, fba_2, fba_l, -⟩ := (ba_23.out.below HZw23.out).o3
  obtain ⟨fbb_0, fbb_1, fbb_2, fbb_l, -⟩ := (bb_23.out.below HZw23.out).o3
  go_wp2
  refine Rel.region3 39 (by kernel_rfl) (by kernel_rfl) (by kernel_rfl) ?_
  simp only [List.take_succ_cons, List.take_zero, List.drop_succ_cons, List.drop_zero, List.filterMap_cons, List.filterMap_nil]
  iterate 14 (refine Rel.opz (hn := ?_); (try simp only [List.nil_append, List.cons_append]))
  refine Rel.callK 14 (KG lk ht rc M ts L gs) (KG.st _ _ _ _ _ _ _) (Rel.gyes 12 false _ rfl rfl rfl) ?_ ?_
  · intro a W hb hd hbase
    have q1 : a.eval (.tmp 140) = _ := (Rel.dep_at hd 13 rfl rfl)
    refine ⟨#[a.eval (.tmp 140)], ?_, by rw [q1]; exact own_K (KG.st _ _ _ _ _ _ _ _ _ _ x_rw23.out (HZw23.out.trans (hb.mono HZw23.out.size)))⟩
    clear hd hbase hb
    go_simp
    (first | done | rfl | (refine ⟨?_, ?_⟩ <;> rfl))
  (try simp only [List.nil_append, List.cons_append])
  (refine Rel.opz (hn := ?_); (try simp only [List.nil_append, List.cons_append]))
  refine Rel.callK 13 (KV (.bool true)) (KV.st _) (Rel.gyes 12 false _ rfl rfl rfl) ?_ ?_
  · intro a W hb hd hbase
    have q2 : a.eval (.tmp 142) = _ := (Rel.dep_at hd 15 rfl rfl)
    refine ⟨#[a.eval (.tmp 141), a.eval (.tmp 142)], ?_, by rw [q2]; exact HSG.out _ (Rel.dep_at hd 14 rfl rfl) (KG.st _ _ _ _ _ _ _ _ _ _ ug_rw23.out (HZw23.out.trans (hb.mono HZw23.out.size)))⟩
    clear hd hbase hb
    go_simp
    (first | done | rfl | (refine ⟨?_, ?_⟩ <;> rfl))
  (try simp only [List.nil_append, List.cons_append])
  iterate 22 (refine Rel.opz (hn := ?_); (try simp only [List.nil_append, List.cons_append]))
  refine Rel.done3 ?_
  intro x w24 h24 hx
  simp only [Rel.facts, Nat.zero_add, Nat.reduceAdd] at hx
  clear fbg_0 fbg_1 fbg_2 fbg_3 fbg_4 fbg_l
  clear fbx_0 fbx_1 fbx_2 fbx_3 fbx_4 fbx_l
  clear fba_0 fba_1 fba_2 fba_l
  clear fbb_0 fbb_1 fbb_2 fbb_l
  obtain ⟨e0, e1, e2, e3, e4, e5, e6, e7, e8, e9, e10, e11, e12, e13, _, e15, e16, e17, e18, e19, e20, e21, e22, e23, e24, e25, e26, e27, e28, e29, e30, e31, e32, e33, e34, e35, e36, e37, e38, _⟩ := hx
  have e16 : x 16 = _ := e16
  simp only [Rel.fill, Nat.zero_add, Nat.reduceAdd, e0, e1, e2, e3, e4, e5, e6, e7, e8, e9, e10, e11, e12, e13, e15, e16, e17, e18, e19, e20, e21, e22, e23, e24, e25, e26, e27, e28, e29, e30, e31, e32, e33, e34, e35, e36, e37, e38]
  simp only [Act.put, List.setIfInBounds_toArray, List.set_cons_zero, List.set_cons_succ]
  clear e0 e1 e2 e3 e4 e5 e6 e7 e8 e9 e10 e11 e12 e13 e15 e16 e17 e18 e19 e20 e21 e22 e23 e24 e25 e26 e27 e28 e29 e30 e31 e32 e33 e34 e35 e36 e37 e38
  have HB24 := Lib.hid (HZw23.out.trans (h24.mono HZw23.out.size))
  clear h24
  obtain ⟨fbs_0, fbs_1, fbs_2, fbs_l, -⟩ := (bs_rw23.out.below HB24.out).o3
  go_wp2_with (go_at_call 17; refine name_calls ?_; intro w25 e25; refine Hid.out ?_)
  unfold Hid
  have h25 : Below w24.heap.size w24 w25 := by rw [e25]; exact bel
  have HB25 := Lib.hid (HB24.out.trans (h25.mono HB24.out.size))
  clear e25 h25
  refine (HSU.out _ (KT.st _ _ _ _ _ _ _ us_rw23.out HB25.out)).mono ?_
  rintro r w26 ⟨v26, rfl, k26, h26⟩
  have HB26 := Lib.hid (HB25.out.trans (h26.mono HB25.out.size))
  obtain ⟨NB, Nc, rfl, hnc, hni⟩ := k26
  have n_26 := Lib.hid (show KTI h lv n l (.agg #[(.int .i64 h), (.int .i64 lv), .slice NB n Nc]) w26 from ⟨_, _, rfl, hnc, hni⟩)
  clear hnc hni h26
  clear fbs_0 fbs_1 fbs_2 fbs_l
  have ug_rw26 := Lib.hid (KG.st _ _ _ _ _ _ _ _ _ _ ug_rw23.out HB26.out)
  have us_rw26 := Lib.hid (KT.st _ _ _ _ _ _ _ us_rw23.out HB26.out)
  have x_rw26 := Lib.hid (KG.st _ _ _ _ _ _ _ _ _ _ x_rw23.out HB26.out)
  have l2_rw26 := Lib.hid (KT.st _ _ _ _ _ _ _ l2_rw23.out HB26.out)
  have a_rw26 := Lib.hid ((KTI.ik BH lv n BP).st _ _ _ a_23.out HB26.out)
  have b_rw26 := Lib.hid ((KTI.ik CH lv n BP).st _ _ _ b_23.out HB26.out)
  have t_rw26 := Lib.hid (KS.st _ _ _ _ _ t_23.out HB26.out)
  have bg_rw26 := Lib.hid (bg_rw23.out.below HB26.out)
  have bs_rw26 := Lib.hid (bs_rw23.out.below HB26.out)
  have bx_rw26 := Lib.hid (bx_rw23.out.below HB26.out)
  have bl_rw26 := Lib.hid (bl_rw23.out.below HB26.out)
  have ba_rw26 := Lib.hid (ba_23.out.below HB26.out)
  have bb_rw26 := Lib.hid (bb_23.out.below HB26.out)
  have HTabw26 := Lib.hid (HTabw23.out.below HB26.out)
  have HOw26 := Lib.hid (HOw23.out.trans (HB26.out.mono HOw23.out.size))
  have HZw26 := Lib.hid (Below.refl w26.heap.size w26)
  clear HB26 ug_rw23 us_rw23 x_rw23 l2_rw23 a_23 b_23 t_23 bg_rw23 bs_rw23 bx_rw23 bl_rw23 ba_23 bb_23 HTabw23 HOw23
  go_wp2
  refine name_world ?_
  intro w27 e27
  have h27 : Below w26.heap.size w26 w27 := by rw [e27]; exact bel
  have HB27 := Lib.hid (HZw26.out.trans (h27.mono HZw26.out.size))
  have bn_27 := Lib.hid (show Blk w27 w26.heap.size #[(.int .i64 h), (.int .i64 lv), .slice NB n Nc] from by rw [e27]; exact Calm.Blk.new _ _ _)
  have ty0 := Lib.hid (show IsTy w27 w26.heap.size 45 from by rw [e27]; exact IsTy.new)
  clear e27 h27
  obtain ⟨gn, hgn⟩ : ∃ gn, gn = w26.heap.size := ⟨_, rfl⟩
  rw [← hgn] at ty0
  rw [← hgn]
  have HGW : Hid (w26.heap.size ≤ gn) := Lib.hid (by omega)
  have bn0 := Lib.hid (show Blk w27 gn _ by rw [hgn]; exact bn_27.out)
  clear hgn
  go_loopw [171] (fun i wr => ∃ (k : Nat) (B : Option Addr) (c : Nat) (z : Int) (p : List Int), k ≤ n ∧ i = (.int .i64 ((k : Int))) ∧ z = coolK lk h k ∧ p = psK l k ∧ Below w26.heap.size w26 wr ∧ Blk wr gn #[(.int .i64 z), (.int .i64 lv), .slice B n c] ∧ KTI z lv n p (.agg #[(.int .i64 z), (.int .i64 lv), .slice B n c]) wr ∧ IsTy wr gn 45) (fun i _ => n - (intOf i).toNat)
  case atStart => exact ⟨0, NB, Nc, h, l, Nat.zero_le _, rfl, rfl, rfl, HB27.out, bn0.out, ((KTI.ik h lv n l).st _ _ _ n_26.out HB27.out), ty0.out⟩
  case round =>
    obtain ⟨k, B, c, z, p, hk, rfl, hz, hp, kb, kn, kt, ky⟩ := hrel
    have KB := Lib.hid kb
    have BN := Lib.hid kn
    have KZ := Lib.hid kt
    have KY := Lib.hid ky
    clear kb kn kt ky
    by_cases hlt : k < n
    · obtain ⟨z2, p2, xx, SB, hz2, hp2, hxx, hzz, q1, q2, q3, q4, q5⟩ := HRD.out k hlt z p hz hp
      have HKN := Lib.hid hlt
      have HZ2 := Lib.hid hz2
      have HP2 := Lib.hid hp2
      have HBN := q1
      have HCN := q2
      have HSN := q3
      have HFN := q4
      obtain rfl := q5 HF.out
      clear q1 q2 q3 q4 hz2 hp2 hz hp
      have hdZ : decide (z < z2) = false := decide_eq_false (by omega)
      clear hzz
      have HT := Lib.hid (KS.st _ _ _ _ _ t_rw26.out KB.out)
      obtain ⟨_, _, ee, hcc⟩ := HT.out
      cases ee
      obtain ⟨b1, o1, hA, hbl, hcell⟩ := hcc (by rw [← HTLn.out]; omega)
      subst hA
      have hck := hcell k (by rw [← HTLn.out]; exact hlt)
      rw [← hxx] at hck
      clear hcell hxx hcc HT
      have hkn : (k : Int) < (n : Int) := by omega
      obtain ⟨fbg_0, fbg_1, fbg_2, fbg_3, fbg_4, fbg_l, -⟩ := (bg_rw26.out.below KB.out).o5
      obtain ⟨fbn_0, fbn_1, fbn_2, fbn_l, -⟩ := BN.out.o3
      go_wp2
      refine RelH.region3 (S := Sty 45 (KTI z2 lv n p2) wr.heap.size) (Sty.trans (KTI.ik _ _ _ _)) (Sty.drawn (by decide)) 11 (by kernel_rfl) (by kernel_rfl) (by kernel_rfl) ?_
      simp only [List.take_succ_cons, List.take_zero, List.drop_succ_cons, List.drop_zero, List.filterMap_cons, List.filterMap_nil]
      (refine RelH.opz (Sty.refl (by decide)) (hn := ?_); (try simp only [List.nil_append, List.cons_append]))
      refine RelH.callH (fun _ _ h => h.keep) (fun _ _ h => Sty.of (by decide) h) 8 (KGI lk ht rc M ts L gs) ((KGI.ik _ _ _ _ _ _ _)) (RelH.gno rfl) ?_ ?_
      · intro a W x hS hd hbase
        have hb := hS.below (Nat.le_refl _)
        have q1 : a.eval (.tmp 176) = _ := (RelH.dep_k hd 0 rfl rfl)
        refine ⟨#[a.eval (.tmp 176)], ?_, by rw [q1]; exact HGU.out _ (KG.st _ _ _ _ _ _ _ _ _ _ ug_rw26.out (KB.out.trans (hb.mono KB.out.size)))⟩
        clear hd hbase hb hS
        go_simp
        (first | done | rfl | (refine ⟨?_, ?_⟩ <;> rfl))
      (try simp only [List.nil_append, List.cons_append])
      (refine RelH.opz (Sty.refl (by decide)) (hn := ?_); (try simp only [List.nil_append, List.cons_append]))
      refine RelH.callH (fun _ _ h => h.keep) (fun _ _ h => Sty.of (by decide) h) 18 (K3 (KTI z2 lv n p2) (KV (.int .i64 xx)) (KV (.int .i64 0))) ((K3.ik (KTI.ik _ _ _ _) (KV.ik _) (KV.ik _))) (RelH.gno rfl) ?_ ?_
      · intro a W x hS hd hbase
        have hb := hS.below (Nat.le_refl _)
        have q2 : a.eval (.tmp 178) = _ := (RelH.dep_k hd 2 rfl rfl)
        refine ⟨#[a.eval (.tmp 177), a.eval (.tmp 178), (.int .i64 0)], ?_, by rw [q2]; exact HBN.out _ _ _ (HTabw26.out.below (KB.out.trans (hb.mono KB.out.size))).tab.lim (RelH.dep_k hd 1 rfl rfl).kg (KTI.kt ((KTI.ik z lv n p).st _ _ _ KZ.out hb))⟩
        clear hd hbase hb hS
        go_simp
        (first | done | rfl | (refine ⟨?_, ?_⟩ <;> rfl))
      (try simp only [List.nil_append, List.cons_append])
      refine RelH.mvH (Sty.refl (by decide)) (fun _ _ h => h.keep) 179 3 rfl rfl rfl ((K3.ik (KTI.ik _ _ _ _) (KV.ik _) (KV.ik _))) (RelH.gno rfl) ?_
      (try simp only [List.nil_append, List.cons_append])
      refine RelH.ext30H (Sty.refl (by decide)) (fun _ _ h => h.keep) 175 4 rfl rfl rfl ((KTI.ik _ _ _ _)) (RelH.gno rfl) ?_
      (try simp only [List.nil_append, List.cons_append])
      refine RelH.ext31H (Sty.refl (by decide)) (fun _ _ h => h.keep) 175 4 rfl rfl rfl ((KV.ik _)) (RelH.gno rfl) ?_
      (try simp only [List.nil_append, List.cons_append])
      refine RelH.ext32H (Sty.refl (by decide)) (fun _ _ h => h.keep) 175 4 rfl rfl rfl ((KV.ik _)) (RelH.gno rfl) ?_
      (try simp only [List.nil_append, List.cons_append])
      (refine RelH.allocH (by decide) (n := 3) (fun cs W h => by obtain ⟨_, _, e, _⟩ := h; cases e; rfl) #[(.int .i64 0), (.int .i64 0), .slice none 0 0] rfl (RelH.gno rfl) (by intro a W; go_simp) ?_; (try simp only [List.nil_append, List.cons_append]))
      refine RelH.storeH 29 180 8 5 rfl rfl rfl rfl rfl (RelH.gno rfl) ?_
      (try simp only [List.nil_append, List.cons_append])
      (refine RelH.opz (Sty.refl (by decide)) (hn := ?_); (try simp only [List.nil_append, List.cons_append]))
      refine RelH.done3 ?_
      intro x w28 hS28 hx
      have h28 := hS28.below (Nat.le_refl _)
      clear hS28
      simp only [RelH.facts, Nat.zero_add, Nat.reduceAdd] at hx
      clear fbg_0 fbg_1 fbg_2 fbg_3 fbg_4 fbg_l
      clear fbn_0 fbn_1 fbn_2 fbn_l
      obtain ⟨e0, _, e2, _, _, _, e6, e7, _, ⟨gb28, e8, hg28, cs28, hG28, B28, c28, ec28, hc28, hi28⟩, e10, _⟩ := hx
      have e6 : x 6 = _ := e6
      have e7 : x 7 = _ := e7
      cases ec28
      simp only [RelH.fill, Nat.zero_add, Nat.reduceAdd, e0, e2, e6, e7, e8, e10]
      simp only [Act.put, List.setIfInBounds_toArray, List.set_cons_zero, List.set_cons_succ]
      clear e0 e2 e6 e7 e8 e10
      have nw_28 := Lib.hid ((KTI.ik z lv n p).st _ _ _ KZ.out h28)
      have bn_28 := Lib.hid (BN.out.below h28)
      have tyn_28 := Lib.hid (KY.out.below h28)
      have HB28 := Lib.hid (KB.out.trans (h28.mono KB.out.size))
      have bv_28 := Lib.hid (show Blk w28 gb28 #[(.int .i64 z2), (.int .i64 lv), .slice B28 n c28] from Calm.Blk.row hG28)
      have v_28 := Lib.hid (show KTI z2 lv n p2 (.agg #[(.int .i64 z2), (.int .i64 lv), .slice B28 n c28]) w28 from ⟨_, _, rfl, hc28, hi28⟩)
      clear hc28 hi28 hG28 hg28 h28
      clear hck
      obtain ⟨fbg_0, fbg_1, fbg_2, fbg_3, fbg_4, fbg_l, -⟩ := (bg_rw26.out.below HB28.out).o5
      obtain ⟨fbn_0, fbn_1, fbn_2, fbn_l, -⟩ := bn_28.out.o3
      obtain ⟨fbv_0, fbv_1, fbv_2, fbv_l, -⟩ := bv_28.out.o3
      go_wp2
      refine Rel.region3 20 (by kernel_rfl) (by kernel_rfl) (by kernel_rfl) ?_
      simp only [List.take_succ_cons, List.take_zero, List.drop_succ_cons, List.drop_zero, List.filterMap_cons, List.filterMap_nil]
      iterate 17 (refine Rel.opz (hn := ?_); (try simp only [List.nil_append, List.cons_append]))
      refine Rel.callK 21 (KT z2 lv n p2) (KT.st _ _ _ _) (Rel.gyes 14 false _ rfl rfl rfl) ?_ ?_
      · intro a W hb hd hbase
        have q1 : a.eval (.tmp 199) = _ := (Rel.dep_at hd 16 rfl rfl)
        refine ⟨#[a.eval (.tmp 199)], ?_, by rw [q1]; exact told_K (KTI.kt ((KTI.ik z2 lv n p2).st _ _ _ v_28.out hb))⟩
        clear hd hbase hb
        go_simp
        (first | done | rfl | (refine ⟨?_, ?_⟩ <;> rfl))
      (try simp only [List.nil_append, List.cons_append])
      refine Rel.callK 16 (KV (.int .i64 0)) (KV.st _) (Rel.gyes 14 false _ rfl rfl rfl) ?_ ?_
      · intro a W hb hd hbase
        have q1 : a.eval (.tmp 198) = _ := (Rel.dep_at hd 15 rfl rfl)
        refine ⟨#[a.eval (.tmp 198), a.eval (.tmp 200)], ?_, by rw [q1]; exact HCN.out _ _ _ (KG.st _ _ _ _ _ _ _ _ _ _ ug_rw26.out (HB28.out.trans (hb.mono HB28.out.size))) (Rel.dep_at hd 17 rfl rfl)⟩
        clear hd hbase hb
        go_simp
        (first | done | rfl | (refine ⟨?_, ?_⟩ <;> rfl))
      (try simp only [List.nil_append, List.cons_append])
      (refine Rel.opz (hn := ?_); (try simp only [List.nil_append, List.cons_append]))
      refine Rel.done3 ?_
      intro x w29 h29 hx
      simp only [Rel.facts, Nat.zero_add, Nat.reduceAdd] at hx
      clear fbg_0 fbg_1 fbg_2 fbg_3 fbg_4 fbg_l
      clear fbn_0 fbn_1 fbn_2 fbn_l
      clear fbv_0 fbv_1 fbv_2 fbv_l
      obtain ⟨e0, e1, e2, e3, e4, e5, e6, e7, e8, e9, e10, e11, e12, e13, e14, e15, e16, _, e18, e19, _⟩ := hx
      have e18 : x 18 = _ := e18
      simp only [Rel.fill, Nat.zero_add, Nat.reduceAdd, e0, e1, e2, e3, e4, e5, e6, e7, e8, e9, e10, e11, e12, e13, e14, e15, e16, e18, e19]
      simp only [Act.put, List.setIfInBounds_toArray, List.set_cons_zero, List.set_cons_succ]
      clear e0 e1 e2 e3 e4 e5 e6 e7 e8 e9 e10 e11 e12 e13 e14 e15 e16 e18 e19
      have v_29 := Lib.hid ((KTI.ik z2 lv n p2).st _ _ _ v_28.out h29)
      have bn_29 := Lib.hid (bn_28.out.below h29)
      have bv_29 := Lib.hid (bv_28.out.below h29)
      have tyn_29 := Lib.hid (tyn_28.out.below h29)
      have HB29 := Lib.hid (HB28.out.trans (h29.mono HB28.out.size))
      clear h29
      obtain ⟨fbg_0, fbg_1, fbg_2, fbg_3, fbg_4, fbg_l, -⟩ := (bg_rw26.out.below HB29.out).o5
      obtain ⟨fbv_0, fbv_1, fbv_2, fbv_l, -⟩ := bv_29.out.o3
      go_wp2
      refine Rel.region3 10 (by kernel_rfl) (by kernel_rfl) (by kernel_rfl) ?_
      simp only [List.take_succ_cons, List.take_zero, List.drop_succ_cons, List.drop_zero, List.filterMap_cons, List.filterMap_nil]
      (refine Rel.opz (hn := ?_); (try simp only [List.nil_append, List.cons_append]))
      refine Rel.callK 8 (KGI lk ht rc M ts L gs) ((KGI.ik _ _ _ _ _ _ _).st) (Rel.gno rfl) ?_ ?_
      · intro a W hb hd hbase
        have q1 : a.eval (.tmp 205) = _ := (Rel.dep_at hd 0 rfl rfl)
        refine ⟨#[a.eval (.tmp 205)], ?_, by rw [q1]; exact HGU.out _ (KG.st _ _ _ _ _ _ _ _ _ _ ug_rw26.out (HB29.out.trans (hb.mono HB29.out.size)))⟩
        clear hd hbase hb
        go_simp
        (first | done | rfl | (refine ⟨?_, ?_⟩ <;> rfl))
      (try simp only [List.nil_append, List.cons_append])
      (refine Rel.opz (hn := ?_); (try simp only [List.nil_append, List.cons_append]))
      refine Rel.callK 21 (KT z2 lv n p2) (KT.st _ _ _ _) (Rel.gno rfl) ?_ ?_
      · intro a W hb hd hbase
        have q1 : a.eval (.tmp 207) = _ := (Rel.dep_at hd 2 rfl rfl)
        refine ⟨#[a.eval (.tmp 207)], ?_, by rw [q1]; exact told_K (KTI.kt ((KTI.ik z2 lv n p2).st _ _ _ v_29.out hb))⟩
        clear hd hbase hb
        go_simp
        (first | done | rfl | (refine ⟨?_, ?_⟩ <;> rfl))
      (try simp only [List.nil_append, List.cons_append])
      refine Rel.callK 17 (KTI z2 lv n p2) ((KTI.ik _ _ _ _).st) (Rel.gno rfl) ?_ ?_
      · intro a W hb hd hbase
        refine ⟨#[a.eval (.tmp 208)], ?_, HSN.out _ _ (Rel.dep_at hd 3 rfl rfl)⟩
        clear hd hbase hb
        go_simp
        (first | done | rfl | (refine ⟨?_, ?_⟩ <;> rfl))
      (try simp only [List.nil_append, List.cons_append])
      refine Rel.callK 19 (K2 (KV (.bool true)) (KV (.int .i64 0))) ((K2.st (KV.st _) (KV.st _))) (Rel.gno rfl) ?_ ?_
      · intro a W hb hd hbase
        refine ⟨#[a.eval (.tmp 206), a.eval (.tmp 209)], ?_, HFN.out _ _ _ (HTabw26.out.below (HB29.out.trans (hb.mono HB29.out.size))).tab.lim (Rel.dep_at hd 1 rfl rfl).kg (KTI.kt (Rel.dep_at hd 4 rfl rfl))⟩
        clear hd hbase hb
        go_simp
        (first | done | rfl | (refine ⟨?_, ?_⟩ <;> rfl))
      (try simp only [List.nil_append, List.cons_append])
      refine Rel.mvK 210 5 rfl rfl rfl ((K2.st (KV.st _) (KV.st _))) (Rel.gno rfl) ?_
      (try simp only [List.nil_append, List.cons_append])
      refine Rel.ext20 204 6 rfl rfl rfl (KV.st _) (Rel.gno rfl) ?_
      (try simp only [List.nil_append, List.cons_append])
      refine Rel.ext21 204 6 rfl rfl rfl (KV.st _) (Rel.gno rfl) ?_
      (try simp only [List.nil_append, List.cons_append])
      (refine Rel.opz (hn := ?_); (try simp only [List.nil_append, List.cons_append]))
      refine Rel.done3 ?_
      intro x w30 h30 hx
      simp only [Rel.facts, Nat.zero_add, Nat.reduceAdd] at hx
      clear fbg_0 fbg_1 fbg_2 fbg_3 fbg_4 fbg_l
      clear fbv_0 fbv_1 fbv_2 fbv_l
      obtain ⟨e0, _, e2, _, _, _, _, e7, e8, e9, _⟩ := hx
      have e7 : x 7 = _ := e7
      have e8 : x 8 = _ := e8
      simp only [Rel.fill, Nat.zero_add, Nat.reduceAdd, e0, e2, e7, e8, e9]
      simp only [Act.put, List.setIfInBounds_toArray, List.set_cons_zero, List.set_cons_succ]
      clear e0 e2 e7 e8 e9
      have v_30 := Lib.hid ((KTI.ik z2 lv n p2).st _ _ _ v_29.out h30)
      have bn_30 := Lib.hid (bn_29.out.below h30)
      have bv_30 := Lib.hid (bv_29.out.below h30)
      have tyn_30 := Lib.hid (tyn_29.out.below h30)
      have HB30 := Lib.hid (HB29.out.trans (h30.mono HB29.out.size))
      clear h30
      obtain ⟨fbv_0, fbv_1, fbv_2, fbv_l, -⟩ := bv_30.out.o3
      go_wp2_with (go_at_call 21; refine name_calls ?_; intro w31 e31; refine Hid.out ?_)
      unfold Hid
      have h31 : Below w30.heap.size w30 w31 := by rw [e31]; exact bel
      have v_31 := Lib.hid ((KTI.ik z2 lv n p2).st _ _ _ v_30.out h31)
      have bn_31 := Lib.hid (bn_30.out.below h31)
      have bv_31 := Lib.hid (bv_30.out.below h31)
      have tyn_31 := Lib.hid (tyn_30.out.below h31)
      have HB31 := Lib.hid (HB30.out.trans (h31.mono HB30.out.size))
      clear e31 h31
      refine (told_K (KTI.kt v_31.out)).mono ?_
      rintro r w32 ⟨v32, rfl, k32, h32⟩
      have v_32 := Lib.hid ((KTI.ik z2 lv n p2).st _ _ _ v_31.out h32)
      have bn_32 := Lib.hid (bn_31.out.below h32)
      have bv_32 := Lib.hid (bv_31.out.below h32)
      have tyn_32 := Lib.hid (tyn_31.out.below h32)
      have HB32 := Lib.hid (HB31.out.trans (h32.mono HB31.out.size))
      obtain ⟨TO, To, rfl, htc⟩ := k32
      have to_32 := Lib.hid (show KT z2 lv n p2 (.agg #[(.int .i64 z2), (.int .i64 lv), .slice TO n To]) w32 from ⟨_, _, rfl, htc⟩)
      clear htc h32
      clear fbv_0 fbv_1 fbv_2 fbv_l
      go_wp2_with (go_at_call 17; refine name_calls ?_; intro w33 e33; refine Hid.out ?_)
      unfold Hid
      have h33 : Below w32.heap.size w32 w33 := by rw [e33]; exact bel
      have to_33 := Lib.hid (KT.st _ _ _ _ _ _ _ to_32.out h33)
      have bn_33 := Lib.hid (bn_32.out.below h33)
      have tyn_33 := Lib.hid (tyn_32.out.below h33)
      have HB33 := Lib.hid (HB32.out.trans (h33.mono HB32.out.size))
      clear e33 h33
      refine (HSN.out _ _ to_33.out).mono ?_
      rintro r w34 ⟨v34, rfl, k34, h34⟩
      have to_34 := Lib.hid (KT.st _ _ _ _ _ _ _ to_33.out h34)
      have bn_34 := Lib.hid (bn_33.out.below h34)
      have tyn_34 := Lib.hid (tyn_33.out.below h34)
      have HB34 := Lib.hid (HB33.out.trans (h34.mono HB33.out.size))
      obtain ⟨SA, Sc, rfl, hsc, hsi⟩ := k34
      have nn_34 := Lib.hid (show KTI z2 lv n p2 (.agg #[(.int .i64 z2), (.int .i64 lv), .slice SA n Sc]) w34 from ⟨_, _, rfl, hsc, hsi⟩)
      clear hsc hsi h34
      obtain ⟨fbn_0, fbn_1, fbn_2, fbn_l, fbn_f⟩ := bn_34.out.o3
      have hnb := HNB.out
      go_wp2
      clear fbn_0 fbn_1 fbn_2 fbn_l fbn_f
      go_roundw
      case rel => exact ⟨k + 1, SA, Sc, z2, p2, by have := HKN.out; omega, by go_num, HZ2.out, HP2.out, (((HB34.out.setCell (p := ⟨gn, 0, none⟩) HGW.out ((.int .i64 z2))).setCell (p := ⟨gn, 1, none⟩) HGW.out ((.int .i64 lv))).setCell (p := ⟨gn, 2, none⟩) HGW.out (.slice SA n Sc)), (((bn_34.out.set (i := 0) (by simp) ((.int .i64 z2))).set (i := 1) (by simp) ((.int .i64 lv))).set (i := 2) (by simp) (.slice SA n Sc)), KTI.ik z2 lv n p2 _ _ _ nn_34.out ((((IntKeep.refl w34).put tyn_34.out (by decide) 0 ((.int .i64 z2))).put (tyn_34.out.put 0 ((.int .i64 z2))) (by decide) 1 ((.int .i64 lv))).put ((tyn_34.out.put 0 ((.int .i64 z2))).put 1 ((.int .i64 lv))) (by decide) 2 (.slice SA n Sc)), (((tyn_34.out.put 0 ((.int .i64 z2))).put 1 ((.int .i64 lv))).put 2 (.slice SA n Sc))⟩
      case measure => have := HKN.out; simp [intOf]; omega
    · obtain rfl : k = n := by omega
      clear BN KZ KY hz hp
      go_wp2_with (go_at_call 6; refine name_calls ?_; intro w35 e35; refine Hid.out ?_)
      unfold Hid
      have h35 : Below wr.heap.size wr w35 := by rw [e35]; exact bel
      have HB35 := Lib.hid (KB.out.trans (h35.mono KB.out.size))
      clear e35 h35
      refine (awake_any _ (HTabw26.out.below HB35.out).tab).mono ?_
      rintro r w36 ⟨rfl, h36⟩
      have HB36 := Lib.hid (HB35.out.trans (h36.mono HB35.out.size))
      clear h36
      go_wp2
      go_ret
      exact ⟨by first | rfl | (simp; done), HOw26.out.trans (HB36.out.mono HOw26.out.size)⟩
end Go.Proofs.YtdeapbihbhoefaaGreatDoor
