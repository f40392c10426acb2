/- Part 27 of the texts of the claim: LRd_qmn, LRdAll. -/
import Derived.Test.YtdeapbihbhoefaaGreatDoorMr22
import Derived.Test.YtdeapbihbhoefaaGreatDoorMr21
import Derived.Test.YtdeapbihbhoefaaGreatDoorMr23
import Derived.Test.YtdeapbihbhoefaaGreatDoorMr24
import Derived.Test.YtdeapbihbhoefaaGreatDoorMr25
import Derived.Test.YtdeapbihbhoefaaGreatDoorMr26

/- ProtectReads, case qmn. -/
namespace Go.Proofs.YtdeapbihbhoefaaGreatDoor
open Go.RowKit
open Calm (bcell Blk)
set_option maxRecDepth 100000 in
set_option maxHeartbeats 8000000 in
theorem reads_qmn (lk ht rc h lv : Int) (M L n : Nat) (ts gs l : List Int) (s : ByteArray) (u v : Value) (w : World) (hTab : RTab w) (hM : M = ts.length) (hL : L = gs.length) (hn : n = l.length) (b0 : M ≤ 9 ∧ L ≤ 9) (b1 : n ≤ 9) (b2 : s.size ≤ 300) (c0 : ¬ (parF s.data.toList).err = 0) (d0 : stErr lk ht rc ts gs h lv l = 0) (d1 : h ≤ 268435456) (f0 : fineF ht rc h 0 ts l = false) (hu : KG lk ht rc M ts L gs u w) (hv : KT h lv n l v w) :
    Calls Tryz.prog 4 #[u, v, .string s] w fun r w' => r = .returned (.bool true) ∧ Below w.heap.size w w' := by
  obtain ⟨A1, c1, A2, c2, rfl, hT, hG⟩ := hu
  obtain ⟨A3, c3, rfl, hP⟩ := hv
  have HU := Lib.hid (show KG lk ht rc M ts L gs (.agg #[(.int .i64 lk), (.int .i64 ht), .slice A1 M c1, (.int .i64 rc), .slice A2 L c2]) w from ⟨_, _, _, _, rfl, hT, hG⟩)
  have HS := Lib.hid (show KT h lv n l (.agg #[(.int .i64 h), (.int .i64 lv), .slice A3 n c3]) w from ⟨_, _, rfl, hP⟩)
  have HSH : Hid (∀ W, KG lk ht rc M ts L gs (.agg #[(.int .i64 lk), (.int .i64 ht), .slice A1 M c1, (.int .i64 rc), .slice A2 L c2]) W → Calls Tryz.prog 5 #[.agg #[(.int .i64 lk), (.int .i64 ht), .slice A1 M c1, (.int .i64 rc), .slice A2 L c2]] W (KP (KV (.bool true)) W)) := Lib.hid (fun W q => by have := Short_K q; rwa [decide_eq_true b0] at this)
  have HSS : Hid (∀ W, KT h lv n l (.agg #[(.int .i64 h), (.int .i64 lv), .slice A3 n c3]) W → Calls Tryz.prog 15 #[.agg #[(.int .i64 h), (.int .i64 lv), .slice A3 n c3]] W (KP (KV (.bool true)) W)) := Lib.hid (fun W q => by have := ShortState_K q; rwa [decide_eq_true b1] at this)
  have hd3 : decide ((300 : Int) < (s.size : Int)) = false := decide_eq_false (by omega)
  obtain ⟨b3, b4⟩ := b0
  have hLim := hTab.tab.lim
  have hPT : ∀ W : World, RTab W → Calls Tryz.prog 9 #[.string s] W (KP (K2 (KG (parF s.data.toList).lk (parF s.data.toList).ht (parF s.data.toList).rc (parF s.data.toList).ts.length (parF s.data.toList).ts (parF s.data.toList).gs.length (parF s.data.toList).gs) (KV (.int .i64 ((parF s.data.toList).err)))) W) := fun W q => parse_P s W q
  obtain ⟨PQ, hPQ⟩ : ∃ PQ, PQ = parF s.data.toList := ⟨_, rfl⟩
  rw [← hPQ] at hPT c0
  obtain ⟨pl, ph, pr, pt, pg, PE⟩ := PQ
  obtain ⟨PM, hPM⟩ : ∃ PM, PM = pt.length := ⟨_, rfl⟩
  obtain ⟨PL, hPL⟩ : ∃ PL, PL = pg.length := ⟨_, rfl⟩
  have HPT : Hid (∀ W : World, RTab W → Calls Tryz.prog 9 #[.string s] W (KP (K2 (KG pl ph pr PM pt PL pg) (KV (.int .i64 PE))) W)) := Lib.hid (fun W q => by rw [hPM, hPL]; exact hPT W q)
  have hPE : (PE == 0) = false := by simpa using c0
  obtain ⟨ST, hST⟩ : ∃ ST, ST = stErr lk ht rc ts gs h lv l := ⟨_, rfl⟩
  rw [← hST] at d0
  have HCS : Hid (∀ {a y : Value} (W : World), KG lk ht rc M ts L gs a W → KT h lv n l y W → Calls Tryz.prog 16 #[a, y] W (KP (KV (.int .i64 0)) W)) := Lib.hid (fun W q q2 => by rw [← d0, hST]; exact rCheckState_K hM hL hn (by omega) (by omega) (by omega) q q2)
  have hd8 : decide ((268435456 : Int) < h) = false := decide_eq_false (by omega)
  have hS := stErr_zero (hST ▸ d0)
  have hV := hS.v
  have hg := hS.g
  have hh := hS.h
  have hp := hS.pl
  obtain ⟨h2, hh2⟩ : ∃ h2, h2 = h / 2 := ⟨_, rfl⟩
  have hS2 : StV lk ht rc ts gs h2 lv l := ⟨hS.g, hS.v, by omega, hS.lv, hS.pl, hS.pb⟩
  have hM8 := hV.tl
  have HQ2 : Hid (wrap64 (h.tdiv 2) = h2) := Lib.hid (by rw [Int.tdiv_eq_ediv_of_nonneg hh.1, Go.IntWalk.wrap64_in _ (by omega), hh2])
  have HGU : Hid (∀ {x : Value} (W : World), KG lk ht rc M ts L gs x W → Calls Tryz.prog 8 #[x] W (KP (KGI lk ht rc M ts L gs) W)) := Lib.hid (fun W q => guard_K hM hL (by omega) (by omega) q)
  have HSU : Hid (∀ {x : Value} (W : World), KT h lv n l x W → Calls Tryz.prog 17 #[x] W (KP (KTI h lv n l) W)) := Lib.hid (fun W q => state_K hn (by omega) q)
  obtain ⟨tg, htg⟩ : ∃ tg : ByteArray, tg = ⟨(textG lk ht rc ts gs).toArray⟩ := ⟨_, rfl⟩
  have HPG : Hid (∀ {a : Value} (W : World), RTab W → KG lk ht rc M ts L gs a W → Calls Tryz.prog 7 #[a] W (KP (K2 (KV (.string tg)) (KV (.int .i64 0))) W)) := Lib.hid (fun W q0 q => by
    have := cPrint hM hL (by omega) (by omega) q0.tab q
    rw [textR_ok hg, hg] at this
    rw [htg]
    exact this)
  have HPP : Hid (∀ W : World, RTab W → Calls Tryz.prog 9 #[.string tg] W (KP (K2 (KG lk ht rc M ts L gs) (KV (.int .i64 0))) W)) := Lib.hid (fun W q => by
    have := parse_P tg W q
    rw [show parF tg.data.toList = ⟨lk, ht, rc, ts, gs, 0⟩ by rw [htg]; exact parF_text hg] at this
    rw [hM, hL]
    exact this)
  obtain ⟨BH, hBH⟩ : ∃ BH, BH = coolF lk h + 9 * 9 := ⟨_, rfl⟩
  obtain ⟨CH, hCH⟩ : ∃ CH, CH = coolF lk h2 + 9 * 9 := ⟨_, rfl⟩
  obtain ⟨BP, hBP⟩ : ∃ BP, BP = pushL l 9 := ⟨_, rfl⟩
  obtain ⟨BX, hBX⟩ : ∃ BX, BX = exF ts l 9 := ⟨_, rfl⟩
  have hcm := coolF_mono lk (show h2 ≤ h by omega)
  have hcb := coolF_bd lk hh.1
  have HLE : Hid (CH ≤ BH) := Lib.hid (by omega)
  have hbo : ∀ z, StV lk ht rc ts gs z lv l → bothErr lk ht rc ts gs z lv l 9 = 0 := fun z hz => by unfold bothErr; rw [stErr_ok hz, rangeErr_in (by omega) (by omega)]; rfl
  have HBA : Hid (∀ {a y : Value} (W : World), Lim W → KG lk ht rc M ts L gs a W → KT h lv n l y W → Calls Tryz.prog 18 #[a, y, (.int .i64 9)] W (KP (K3 (KTI BH lv n BP) (KV (.int .i64 BX)) (KV (.int .i64 0))) W)) := Lib.hid (fun W q0 q q2 => by rw [hBH, hBP, hBX]; exact xBehind_ok hM hL hn (by omega) (by omega) (by omega) q0 q q2 (hbo h hS) (by omega))
  have HBB : Hid (∀ {a y : Value} (W : World), Lim W → KG lk ht rc M ts L gs a W → KT h2 lv n l y W → Calls Tryz.prog 18 #[a, y, (.int .i64 9)] W (KP (K3 (KTI CH lv n BP) (KV (.int .i64 BX)) (KV (.int .i64 0))) W)) := Lib.hid (fun W q0 q q2 => by rw [hCH, hBP, hBX]; exact xBehind_ok hM hL hn (by omega) (by omega) (by omega) q0 q q2 (hbo h2 hS2) (by omega))
  have hFB := f0.symm
  have HSF : Hid (∀ {a y : Value} (W : World), Lim W → KG lk ht rc M ts L gs a W → KT h lv n l y W → Calls Tryz.prog 19 #[a, y] W (KP (K2 (KV (.bool false)) (KV (.int .i64 0))) W)) := Lib.hid (fun W q0 q q2 => by rw [hFB]; exact xSafe_ok hM hL hn (by omega) (by omega) (by omega) q0 q q2 (stErr_ok hS))
  obtain ⟨TL, hTL⟩ : ∃ TL, TL = tailsF ts l := ⟨_, rfl⟩
  have HTL : Hid (∀ {a y : Value} (W : World), Lim W → KG lk ht rc M ts L gs a W → KT h lv n l y W → Calls Tryz.prog 20 #[a, y] W (KP (K2 (KS n TL) (KV (.int .i64 0))) W)) := Lib.hid (fun W q0 q q2 => by rw [hTL]; exact xTails_ok hM hL hn (by omega) (by omega) (by omega) q0 q q2 (stErr_ok hS))
  have HSG : Hid (∀ {a y : Value} (W : World), KG lk ht rc M ts L gs a W → KG lk ht rc M ts L gs y W → Calls Tryz.prog 13 #[a, y] W (KP (KV (.bool true)) W)) := Lib.hid (fun W q q2 => sameGuard_T hM hL (by omega) (by omega) q q2)
  have HTLn : Hid (n = TL.length) := Lib.hid (by rw [hTL, hn]; exact (tailsL_len _ _ _).symm)
  have HRD := Lib.hid (round_R hM hL hn b3 b4 b1 hS hTL)
  have hMn : (M : Int) - 1 = (n : Int) := by omega
  have HNB : Hid ((n : Int) ≤ 9) := Lib.hid (by omega)
  have hwn : wrap64 (n : Int) = (n : Int) := Go.IntWalk.wrap64_in _ (by omega)
  have hdC : decide (BH < CH) = false := decide_eq_false (by omega)
  have HTab := Lib.hid hTab
  clear hTab hM hL hn hT hG hP b1 b3 b4 hLim c0 hPT b2 hPQ hPM hPL hST d0 f0 d1 hS hV hg hp hS2 hM8 htg hBH hCH hBP hBX hcm hcb hbo hFB hTL hh2 hh
  go_enter Tryz.func4, Tryz.ntmps4
  have HB0 := Lib.hid (Below.refl w.heap.size w)
  go_wp2_with (go_at_call 5; refine name_calls ?_; intro w1 e1; refine Hid.out ?_)
  unfold Hid
  have h1 : Below w.heap.size w w1 := by rw [e1]; exact bel
  have HB1 := Lib.hid (HB0.out.trans (h1.mono HB0.out.size))
  have bg_1 := Lib.hid (show Blk w1 w.heap.size #[(.int .i64 lk), (.int .i64 ht), .slice A1 M c1, (.int .i64 rc), .slice A2 L c2] from by rw [e1]; (repeat (first | ((with_reducible refine Blk.at_ ?_); focus (first | rfl | (simp; done) | (simp; omega))) | (with_reducible refine Blk.alloc ?_ _) | (with_reducible refine Blk.below ?_ (by with_reducible assumption)) | (with_reducible refine Blk.drew ?_))))
  have bs_1 := Lib.hid (show Blk w1 (w.heap.size + 1) #[(.int .i64 h), (.int .i64 lv), .slice A3 n c3] from by rw [e1]; (repeat (first | ((with_reducible refine Blk.at_ ?_); focus (first | rfl | (simp; done) | (simp; omega))) | (with_reducible refine Blk.alloc ?_ _) | (with_reducible refine Blk.below ?_ (by with_reducible assumption)) | (with_reducible refine Blk.drew ?_))))
  clear e1 h1
  refine (HSH.out _ (KG.st _ _ _ _ _ _ _ _ _ _ HU.out HB1.out)).mono ?_
  rintro r w2 ⟨v2, rfl, k2, h2⟩
  have bg_2 := Lib.hid (bg_1.out.below h2)
  have bs_2 := Lib.hid (bs_1.out.below h2)
  have HB2 := Lib.hid (HB1.out.trans (h2.mono HB1.out.size))
  obtain rfl := k2
  clear h2
  obtain ⟨fbs_0, fbs_1, fbs_2, fbs_l, -⟩ := bs_2.out.o3
  go_wp2_with (go_at_call 15; refine name_calls ?_; intro w3 e3; refine Hid.out ?_)
  unfold Hid
  have h3 : Below w2.heap.size w2 w3 := by rw [e3]; exact bel
  have bg_3 := Lib.hid (bg_2.out.below h3)
  have bs_3 := Lib.hid (bs_2.out.below h3)
  have HB3 := Lib.hid (HB2.out.trans (h3.mono HB2.out.size))
  clear e3 h3
  refine (HSS.out _ (KT.st _ _ _ _ _ _ _ HS.out HB3.out)).mono ?_
  rintro r w4 ⟨v4, rfl, k4, h4⟩
  have bg_4 := Lib.hid (bg_3.out.below h4)
  have bs_4 := Lib.hid (bs_3.out.below h4)
  have HB4 := Lib.hid (HB3.out.trans (h4.mono HB3.out.size))
  obtain rfl := k4
  clear h4
  clear fbs_0 fbs_1 fbs_2 fbs_l
  have ug_rw4 := Lib.hid (KG.st _ _ _ _ _ _ _ _ _ _ HU.out HB4.out)
  have us_rw4 := Lib.hid (KT.st _ _ _ _ _ _ _ HS.out HB4.out)
  have HTabw4 := Lib.hid (HTab.out.below HB4.out)
  have HZw4 := Lib.hid (Below.refl w4.heap.size w4)
  clear HU HS HTab
  go_wp2_with (go_at_call 9; refine name_calls ?_; intro w5 e5; refine Hid.out ?_)
  unfold Hid
  have h5 : Below w4.heap.size w4 w5 := by rw [e5]; exact bel
  have HB5 := Lib.hid (HZw4.out.trans (h5.mono HZw4.out.size))
  clear e5 h5
  refine (HPT.out _ (HTabw4.out.below HB5.out)).mono ?_
  rintro r w6 ⟨v6, rfl, k6, h6⟩
  have HB6 := Lib.hid (HB5.out.trans (h6.mono HB5.out.size))
  obtain ⟨_, _, rfl, ⟨PA, Pa, PB, Pb, rfl, hpa, hpb⟩, rfl⟩ := k6
  have px_6 := Lib.hid (show KG pl ph pr PM pt PL pg (.agg #[(.int .i64 pl), (.int .i64 ph), .slice PA PM Pa, (.int .i64 pr), .slice PB PL Pb]) w6 from ⟨_, _, _, _, rfl, hpa, hpb⟩)
  clear hpa hpb h6
  obtain ⟨fbg_0, fbg_1, fbg_2, fbg_3, fbg_4, fbg_l, -⟩ := (bg_4.out.below HB6.out).o5
  obtain ⟨fbs_0, fbs_1, fbs_2, fbs_l, -⟩ := (bs_4.out.below HB6.out).o3
  go_wp2_with (go_at_call 16; refine name_calls ?_; intro w7 e7; refine Hid.out ?_)
  unfold Hid
  have h7 : Below w6.heap.size w6 w7 := by rw [e7]; exact bel
  have HB7 := Lib.hid (HB6.out.trans (h7.mono HB6.out.size))
  clear e7 h7
  refine (HCS.out _ (KG.st _ _ _ _ _ _ _ _ _ _ ug_rw4.out HB7.out) (KT.st _ _ _ _ _ _ _ us_rw4.out HB7.out)).mono ?_
  rintro r w8 ⟨v8, rfl, k8, h8⟩
  have HB8 := Lib.hid (HB7.out.trans (h8.mono HB7.out.size))
  obtain rfl := k8
  clear h8
  have ug_rw8 := Lib.hid (KG.st _ _ _ _ _ _ _ _ _ _ ug_rw4.out HB8.out)
  have us_rw8 := Lib.hid (KT.st _ _ _ _ _ _ _ us_rw4.out HB8.out)
  have bg_rw8 := Lib.hid (bg_4.out.below HB8.out)
  have bs_rw8 := Lib.hid (bs_4.out.below HB8.out)
  have HTabw8 := Lib.hid (HTabw4.out.below HB8.out)
  have HOw8 := Lib.hid (HB4.out.trans (HB8.out.mono HB4.out.size))
  have HZw8 := Lib.hid (Below.refl w8.heap.size w8)
  clear HB8 ug_rw4 us_rw4 bg_4 bs_4 HTabw4 HB4
  clear fbg_0 fbg_1 fbg_2 fbg_3 fbg_4 fbg_l
  obtain ⟨fbg_0, fbg_1, fbg_2, fbg_3, fbg_4, fbg_l, -⟩ := (bg_rw8.out.below HZw8.out).o5
  clear fbs_0 fbs_1 fbs_2 fbs_l
  obtain ⟨fbs_0, fbs_1, fbs_2, fbs_l, -⟩ := (bs_rw8.out.below HZw8.out).o3
  go_wp2_with (go_at_call 8; refine name_calls ?_; intro w9 e9; refine Hid.out ?_)
  unfold Hid
  have h9 : Below w8.heap.size w8 w9 := by rw [e9]; exact bel
  have HB9 := Lib.hid (HZw8.out.trans (h9.mono HZw8.out.size))
  clear e9 h9
  refine (HGU.out _ (KG.st _ _ _ _ _ _ _ _ _ _ ug_rw8.out HB9.out)).mono ?_
  rintro r w10 ⟨v10, rfl, k10, h10⟩
  have HB10 := Lib.hid (HB9.out.trans (h10.mono HB9.out.size))
  have g_10 := Lib.hid k10
  clear k10 h10
  clear fbg_0 fbg_1 fbg_2 fbg_3 fbg_4 fbg_l
  clear fbs_0 fbs_1 fbs_2 fbs_l
  go_wp2_with (go_at_call 7; refine name_calls ?_; intro w11 e11; refine Hid.out ?_)
  unfold Hid
  have h11 : Below w10.heap.size w10 w11 := by rw [e11]; exact bel
  have g_11 := Lib.hid ((KGI.ik _ _ _ _ _ _ _).st _ _ _ g_10.out h11)
  have HB11 := Lib.hid (HB10.out.trans (h11.mono HB10.out.size))
  clear e11 h11
  refine (HPG.out _ (HTabw8.out.below HB11.out) g_11.out.kg).mono ?_
  rintro r w12 ⟨v12, rfl, k12, h12⟩
  have g_12 := Lib.hid ((KGI.ik _ _ _ _ _ _ _).st _ _ _ g_11.out h12)
  have HB12 := Lib.hid (HB11.out.trans (h12.mono HB11.out.size))
  obtain ⟨_, _, rfl, rfl, rfl⟩ := k12
  clear h12
  go_wp2_with (go_at_call 9; refine name_calls ?_; intro w13 e13; refine Hid.out ?_)
  unfold Hid
  have h13 : Below w12.heap.size w12 w13 := by rw [e13]; exact bel
  have HB13 := Lib.hid (HB12.out.trans (h13.mono HB12.out.size))
  clear e13 h13
  refine (HPP.out _ (HTabw8.out.below HB13.out)).mono ?_
  rintro r w14 ⟨v14, rfl, k14, h14⟩
  have HB14 := Lib.hid (HB13.out.trans (h14.mono HB13.out.size))
  obtain ⟨_, _, rfl, ⟨XA, Xa, XB, Xb, rfl, hpa, hpb⟩, rfl⟩ := k14
  have x_14 := Lib.hid (show KG lk ht rc M ts L gs (.agg #[(.int .i64 lk), (.int .i64 ht), .slice XA M Xa, (.int .i64 rc), .slice XB L Xb]) w14 from ⟨_, _, _, _, rfl, hpa, hpb⟩)
  clear hpa hpb h14
  obtain ⟨fbs_0, fbs_1, fbs_2, fbs_l, -⟩ := (bs_rw8.out.below HB14.out).o3
  go_wp2_with (go_at_call 17; refine name_calls ?_; intro w15 e15; refine Hid.out ?_)
  unfold Hid
  have h15 : Below w14.heap.size w14 w15 := by rw [e15]; exact bel
  have x_15 := Lib.hid (KG.st _ _ _ _ _ _ _ _ _ _ x_14.out h15)
  have HB15 := Lib.hid (HB14.out.trans (h15.mono HB14.out.size))
  have bx_15 := Lib.hid (show Blk w15 w14.heap.size #[(.int .i64 lk), (.int .i64 ht), .slice XA M Xa, (.int .i64 rc), .slice XB L Xb] from by rw [e15]; exact Calm.Blk.new _ _ _)
  clear e15 h15
  refine (HSU.out _ (KT.st _ _ _ _ _ _ _ us_rw8.out HB15.out)).mono ?_
  rintro r w16 ⟨v16, rfl, k16, h16⟩
  have x_16 := Lib.hid (KG.st _ _ _ _ _ _ _ _ _ _ x_15.out h16)
  have bx_16 := Lib.hid (bx_15.out.below h16)
  have HB16 := Lib.hid (HB15.out.trans (h16.mono HB15.out.size))
  obtain ⟨LB, Lc, rfl, hlc, hli⟩ := k16
  have l_16 := Lib.hid (show KTI h lv n l (.agg #[(.int .i64 h), (.int .i64 lv), .slice LB n Lc]) w16 from ⟨_, _, rfl, hlc, hli⟩)
  clear hlc hli h16
  clear fbs_0 fbs_1 fbs_2 fbs_l
  obtain ⟨fbg_0, fbg_1, fbg_2, fbg_3, fbg_4, fbg_l, -⟩ := (bg_rw8.out.below HB16.out).o5
  obtain ⟨fbs_0, fbs_1, fbs_2, fbs_l, -⟩ := (bs_rw8.out.below HB16.out).o3
  have hsg0 := (bs_rw8.out.below HB16.out).lt
  go_wp2
  obtain ⟨gl, hgl⟩ : ∃ gl, gl = w16.heap.size := ⟨_, rfl⟩
  refine name_world ?_
  intro w17 e17
  have hb17 : Below w16.heap.size w16 w17 := by rw [e17]; exact bel
  have bl_17 := Lib.hid (show Blk w17 gl #[(.int .i64 h2), (.int .i64 lv), .slice LB n Lc] from by rw [e17, hgl, HQ2.out]; exact Calm.Blk.new _ _ _)
  have x_17 := Lib.hid (KG.st _ _ _ _ _ _ _ _ _ _ x_16.out hb17)
  have l0_17 := Lib.hid ((KTI.ik h lv n l).st _ _ _ l_16.out hb17)
  have bx_17 := Lib.hid (bx_16.out.below hb17)
  have HB17 := Lib.hid (HB16.out.trans (hb17.mono HB16.out.size))
  clear fbg_0 fbg_1 fbg_2 fbg_3 fbg_4 fbg_l
  clear fbs_0 fbs_1 fbs_2 fbs_l
  have l2_17 := Lib.hid (show KT h2 lv n l (.agg #[(.int .i64 h2), (.int .i64 lv), .slice LB n Lc]) w17 by obtain ⟨_, _, ee, hcc⟩ := l0_17.out.kt; cases ee; exact ⟨_, _, rfl, hcc⟩)
  rw [← hgl]
  clear e17 hb17 hgl hsg0 HQ2
  have ug_rw17 := Lib.hid (KG.st _ _ _ _ _ _ _ _ _ _ ug_rw8.out HB17.out)
  have us_rw17 := Lib.hid (KT.st _ _ _ _ _ _ _ us_rw8.out HB17.out)
  have bg_rw17 := Lib.hid (bg_rw8.out.below HB17.out)
  have bs_rw17 := Lib.hid (bs_rw8.out.below HB17.out)
  have HTabw17 := Lib.hid (HTabw8.out.below HB17.out)
  have HOw17 := Lib.hid (HOw8.out.trans (HB17.out.mono HOw8.out.size))
  have HZw17 := Lib.hid (Below.refl w17.heap.size w17)
  clear HB17 ug_rw8 us_rw8 bg_rw8 bs_rw8 HTabw8 HOw8
  obtain ⟨fbg_0, fbg_1, fbg_2, fbg_3, fbg_4, fbg_l, -⟩ := (bg_rw17.out.below HZw17.out).o5
  obtain ⟨fbs_0, fbs_1, fbs_2, fbs_l, -⟩ := (bs_rw17.out.below HZw17.out).o3
  go_wp2
  refine RelH.region3 (S := Sty 45 (KTI BH lv n BP) w17.heap.size) (Sty.trans (KTI.ik _ _ _ _)) (Sty.drawn (by decide)) 12 (by kernel_rfl) (by kernel_rfl) (by kernel_rfl) ?_
  simp only [List.take_succ_cons, List.take_zero, List.drop_succ_cons, List.drop_zero, List.filterMap_cons, List.filterMap_nil]
  (refine RelH.opz (Sty.refl (by decide)) (hn := ?_); (try simp only [List.nil_append, List.cons_append]))
  refine RelH.callH (fun _ _ h => h.keep) (fun _ _ h => Sty.of (by decide) h) 8 (KGI lk ht rc M ts L gs) ((KGI.ik _ _ _ _ _ _ _)) (RelH.gno rfl) ?_ ?_
  · intro a W x hS hd hbase
    have hb := hS.below (Nat.le_refl _)
    have q1 : a.eval (.tmp 95) = _ := (RelH.dep_k hd 0 rfl rfl)
    refine ⟨#[a.eval (.tmp 95)], ?_, by rw [q1]; exact HGU.out _ (KG.st _ _ _ _ _ _ _ _ _ _ ug_rw17.out (HZw17.out.trans (hb.mono HZw17.out.size)))⟩
    clear hd hbase hb hS
    go_simp
    (first | done | rfl | (refine ⟨?_, ?_⟩ <;> rfl))
  (try simp only [List.nil_append, List.cons_append])
  (refine RelH.opz (Sty.refl (by decide)) (hn := ?_); (try simp only [List.nil_append, List.cons_append]))
  refine RelH.callH (fun _ _ h => h.keep) (fun _ _ h => Sty.of (by decide) h) 17 (KTI h lv n l) ((KTI.ik _ _ _ _)) (RelH.gno rfl) ?_ ?_
  · intro a W x hS hd hbase
    have hb := hS.below (Nat.le_refl _)
    have q1 : a.eval (.tmp 97) = _ := (RelH.dep_k hd 2 rfl rfl)
    refine ⟨#[a.eval (.tmp 97)], ?_, by rw [q1]; exact HSU.out _ (KT.st _ _ _ _ _ _ _ us_rw17.out (HZw17.out.trans (hb.mono HZw17.out.size)))⟩
    clear hd hbase hb hS
    go_simp
    (first | done | rfl | (refine ⟨?_, ?_⟩ <;> rfl))
  (try simp only [List.nil_append, List.cons_append])
  refine RelH.callH (fun _ _ h => h.keep) (fun _ _ h => Sty.of (by decide) h) 18 (K3 (KTI BH lv n BP) (KV (.int .i64 BX)) (KV (.int .i64 0))) ((K3.ik (KTI.ik _ _ _ _) (KV.ik _) (KV.ik _))) (RelH.gno rfl) ?_ ?_
  · intro a W x hS hd hbase
    have hb := hS.below (Nat.le_refl _)
    refine ⟨#[a.eval (.tmp 96), a.eval (.tmp 98), (.int .i64 9)], ?_, HBA.out _ (HTabw17.out.below (HZw17.out.trans (hb.mono HZw17.out.size))).tab.lim (RelH.dep_k hd 1 rfl rfl).kg (RelH.dep_k hd 3 rfl rfl).kt⟩
    clear hd hbase hb hS
    go_simp
    (first | done | rfl | (refine ⟨?_, ?_⟩ <;> rfl))
  (try simp only [List.nil_append, List.cons_append])
  refine RelH.mvH (Sty.refl (by decide)) (fun _ _ h => h.keep) 99 4 rfl rfl rfl ((K3.ik (KTI.ik _ _ _ _) (KV.ik _) (KV.ik _))) (RelH.gno rfl) ?_
  (try simp only [List.nil_append, List.cons_append])
  refine RelH.ext30H (Sty.refl (by decide)) (fun _ _ h => h.keep) 94 5 rfl rfl rfl ((KTI.ik _ _ _ _)) (RelH.gno rfl) ?_
  (try simp only [List.nil_append, List.cons_append])
  refine RelH.ext31H (Sty.refl (by decide)) (fun _ _ h => h.keep) 94 5 rfl rfl rfl ((KV.ik _)) (RelH.gno rfl) ?_
  (try simp only [List.nil_append, List.cons_append])
  refine RelH.ext32H (Sty.refl (by decide)) (fun _ _ h => h.keep) 94 5 rfl rfl rfl ((KV.ik _)) (RelH.gno rfl) ?_
  (try simp only [List.nil_append, List.cons_append])
  (refine RelH.allocH (by decide) (n := 3) (fun cs W h => by obtain ⟨_, _, e, _⟩ := h; cases e; rfl) #[(.int .i64 0), (.int .i64 0), .slice none 0 0] rfl (RelH.gno rfl) (by intro a W; go_simp) ?_; (try simp only [List.nil_append, List.cons_append]))
  refine RelH.storeH 16 100 9 6 rfl rfl rfl rfl rfl (RelH.gno rfl) ?_
  (try simp only [List.nil_append, List.cons_append])
  (refine RelH.opz (Sty.refl (by decide)) (hn := ?_); (try simp only [List.nil_append, List.cons_append]))
  refine RelH.done3 ?_
  intro x w18 hS18 hx
  have h18 := hS18.below (Nat.le_refl _)
  clear hS18
  simp only [RelH.facts, Nat.zero_add, Nat.reduceAdd] at hx
  clear fbg_0 fbg_1 fbg_2 fbg_3 fbg_4 fbg_l
  clear fbs_0 fbs_1 fbs_2 fbs_l
  obtain ⟨e0, _, e2, _, _, _, _, e7, e8, _, ⟨gb18, e9, hg18, cs18, hG18, B18, c18, ec18, hc18, hi18⟩, e11, _⟩ := hx
  have e7 : x 7 = _ := e7
  have e8 : x 8 = _ := e8
  cases ec18
  simp only [RelH.fill, Nat.zero_add, Nat.reduceAdd, e0, e2, e7, e8, e9, e11]
  simp only [Act.put, List.setIfInBounds_toArray, List.set_cons_zero, List.set_cons_succ]
  clear e0 e2 e7 e8 e9 e11
  have HB18 := Lib.hid (HZw17.out.trans (h18.mono HZw17.out.size))
  have ba_18 := Lib.hid (show Blk w18 gb18 #[(.int .i64 BH), (.int .i64 lv), .slice B18 n c18] from Calm.Blk.row hG18)
  have a_18 := Lib.hid (show KTI BH lv n BP (.agg #[(.int .i64 BH), (.int .i64 lv), .slice B18 n c18]) w18 from ⟨_, _, rfl, hc18, hi18⟩)
  clear hc18 hi18 hG18 hg18 h18
  obtain ⟨fbg_0, fbg_1, fbg_2, fbg_3, fbg_4, fbg_l, -⟩ := (bg_rw17.out.below HB18.out).o5
  obtain ⟨fbl_0, fbl_1, fbl_2, fbl_l, -⟩ := (bl_17.out.below HB18.out).o3
  go_wp2
  refine RelH.region3 (S := Sty 45 (KTI CH lv n BP) w18.heap.size) (Sty.trans (KTI.ik _ _ _ _)) (Sty.drawn (by decide)) 11 (by kernel_rfl) (by kernel_rfl) (by kernel_rfl) ?_
  simp only [List.take_succ_cons, List.take_zero, List.drop_succ_cons, List.drop_zero, List.filterMap_cons, List.filterMap_nil]
  (refine RelH.opz (Sty.refl (by decide)) (hn := ?_); (try simp only [List.nil_append, List.cons_append]))
  refine RelH.callH (fun _ _ h => h.keep) (fun _ _ h => Sty.of (by decide) h) 8 (KGI lk ht rc M ts L gs) ((KGI.ik _ _ _ _ _ _ _)) (RelH.gno rfl) ?_ ?_
  · intro a W x hS hd hbase
    have hb := hS.below (Nat.le_refl _)
    have q1 : a.eval (.tmp 104) = _ := (RelH.dep_k hd 0 rfl rfl)
    refine ⟨#[a.eval (.tmp 104)], ?_, by rw [q1]; exact HGU.out _ (KG.st _ _ _ _ _ _ _ _ _ _ ug_rw17.out (HB18.out.trans (hb.mono HB18.out.size)))⟩
    clear hd hbase hb hS
    go_simp
    (first | done | rfl | (refine ⟨?_, ?_⟩ <;> rfl))
  (try simp only [List.nil_append, List.cons_append])
  (refine RelH.opz (Sty.refl (by decide)) (hn := ?_); (try simp only [List.nil_append, List.cons_append]))
  refine RelH.callH (fun _ _ h => h.keep) (fun _ _ h => Sty.of (by decide) h) 18 (K3 (KTI CH lv n BP) (KV (.int .i64 BX)) (KV (.int .i64 0))) ((K3.ik (KTI.ik _ _ _ _) (KV.ik _) (KV.ik _))) (RelH.gno rfl) ?_ ?_
  · intro a W x hS hd hbase
    have hb := hS.below (Nat.le_refl _)
    have q2 : a.eval (.tmp 106) = _ := (RelH.dep_k hd 2 rfl rfl)
    refine ⟨#[a.eval (.tmp 105), a.eval (.tmp 106), (.int .i64 9)], ?_, by rw [q2]; exact HBB.out _ (HTabw17.out.below (HB18.out.trans (hb.mono HB18.out.size))).tab.lim (RelH.dep_k hd 1 rfl rfl).kg (KT.st _ _ _ _ _ _ _ l2_17.out (HB18.out.trans (hb.mono HB18.out.size)))⟩
    clear hd hbase hb hS
    go_simp
    (first | done | rfl | (refine ⟨?_, ?_⟩ <;> rfl))
  (try simp only [List.nil_append, List.cons_append])
  refine RelH.mvH (Sty.refl (by decide)) (fun _ _ h => h.keep) 107 3 rfl rfl rfl ((K3.ik (KTI.ik _ _ _ _) (KV.ik _) (KV.ik _))) (RelH.gno rfl) ?_
  (try simp only [List.nil_append, List.cons_append])
  refine RelH.ext30H (Sty.refl (by decide)) (fun _ _ h => h.keep) 103 4 rfl rfl rfl ((KTI.ik _ _ _ _)) (RelH.gno rfl) ?_
  (try simp only [List.nil_append, List.cons_append])
  refine RelH.ext31H (Sty.refl (by decide)) (fun _ _ h => h.keep) 103 4 rfl rfl rfl ((KV.ik _)) (RelH.gno rfl) ?_
  (try simp only [List.nil_append, List.cons_append])
  refine RelH.ext32H (Sty.refl (by decide)) (fun _ _ h => h.keep) 103 4 rfl rfl rfl ((KV.ik _)) (RelH.gno rfl) ?_
  (try simp only [List.nil_append, List.cons_append])
  (refine RelH.allocH (by decide) (n := 3) (fun cs W h => by obtain ⟨_, _, e, _⟩ := h; cases e; rfl) #[(.int .i64 0), (.int .i64 0), .slice none 0 0] rfl (RelH.gno rfl) (by intro a W; go_simp) ?_; (try simp only [List.nil_append, List.cons_append]))
  refine RelH.storeH 19 108 8 5 rfl rfl rfl rfl rfl (RelH.gno rfl) ?_
  (try simp only [List.nil_append, List.cons_append])
  (refine RelH.opz (Sty.refl (by decide)) (hn := ?_); (try simp only [List.nil_append, List.cons_append]))
  refine RelH.done3 ?_
  intro x w19 hS19 hx
  have h19 := hS19.below (Nat.le_refl _)
  clear hS19
  simp only [RelH.facts, Nat.zero_add, Nat.reduceAdd] at hx
  clear fbg_0 fbg_1 fbg_2 fbg_3 fbg_4 fbg_l
  clear fbl_0 fbl_1 fbl_2 fbl_l
  obtain ⟨e0, _, e2, _, _, _, e6, e7, _, ⟨gb19, e8, hg19, cs19, hG19, B19, c19, ec19, hc19, hi19⟩, e10, _⟩ := hx
  have e6 : x 6 = _ := e6
  have e7 : x 7 = _ := e7
  cases ec19
  simp only [RelH.fill, Nat.zero_add, Nat.reduceAdd, e0, e2, e6, e7, e8, e10]
  simp only [Act.put, List.setIfInBounds_toArray, List.set_cons_zero, List.set_cons_succ]
  clear e0 e2 e6 e7 e8 e10
  have a_19 := Lib.hid ((KTI.ik BH lv n BP).st _ _ _ a_18.out h19)
  have ba_19 := Lib.hid (ba_18.out.below h19)
  have HB19 := Lib.hid (HB18.out.trans (h19.mono HB18.out.size))
  have bb_19 := Lib.hid (show Blk w19 gb19 #[(.int .i64 CH), (.int .i64 lv), .slice B19 n c19] from Calm.Blk.row hG19)
  have b_19 := Lib.hid (show KTI CH lv n BP (.agg #[(.int .i64 CH), (.int .i64 lv), .slice B19 n c19]) w19 from ⟨_, _, rfl, hc19, hi19⟩)
  clear hc19 hi19 hG19 hg19 h19
  obtain ⟨fbg_0, fbg_1, fbg_2, fbg_3, fbg_4, fbg_l, -⟩ := (bg_rw17.out.below HB19.out).o5
  obtain ⟨fbs_0, fbs_1, fbs_2, fbs_l, -⟩ := (bs_rw17.out.below HB19.out).o3
  go_wp2
  refine Rel.region3 9 (by kernel_rfl) (by kernel_rfl) (by kernel_rfl) ?_
  simp only [List.take_succ_cons, List.take_zero, List.drop_succ_cons, List.drop_zero, List.filterMap_cons, List.filterMap_nil]
  (refine Rel.opz (hn := ?_); (try simp only [List.nil_append, List.cons_append]))
  refine Rel.callK 8 (KGI lk ht rc M ts L gs) ((KGI.ik _ _ _ _ _ _ _).st) (Rel.gno rfl) ?_ ?_
  · intro a W hb hd hbase
    have q1 : a.eval (.tmp 112) = _ := (Rel.dep_at hd 0 rfl rfl)
    refine ⟨#[a.eval (.tmp 112)], ?_, by rw [q1]; exact HGU.out _ (KG.st _ _ _ _ _ _ _ _ _ _ ug_rw17.out (HB19.out.trans (hb.mono HB19.out.size)))⟩
    clear hd hbase hb
    go_simp
    (first | done | rfl | (refine ⟨?_, ?_⟩ <;> rfl))
  (try simp only [List.nil_append, List.cons_append])
  (refine Rel.opz (hn := ?_); (try simp only [List.nil_append, List.cons_append]))
  refine Rel.callK 17 (KTI h lv n l) ((KTI.ik _ _ _ _).st) (Rel.gno rfl) ?_ ?_
  · intro a W hb hd hbase
    have q1 : a.eval (.tmp 114) = _ := (Rel.dep_at hd 2 rfl rfl)
    refine ⟨#[a.eval (.tmp 114)], ?_, by rw [q1]; exact HSU.out _ (KT.st _ _ _ _ _ _ _ us_rw17.out (HB19.out.trans (hb.mono HB19.out.size)))⟩
    clear hd hbase hb
    go_simp
    (first | done | rfl | (refine ⟨?_, ?_⟩ <;> rfl))
  (try simp only [List.nil_append, List.cons_append])
  refine Rel.callK 19 (K2 (KV (.bool false)) (KV (.int .i64 0))) ((K2.st (KV.st _) (KV.st _))) (Rel.gno rfl) ?_ ?_
  · intro a W hb hd hbase
    refine ⟨#[a.eval (.tmp 113), a.eval (.tmp 115)], ?_, HSF.out _ (HTabw17.out.below (HB19.out.trans (hb.mono HB19.out.size))).tab.lim (Rel.dep_at hd 1 rfl rfl).kg (Rel.dep_at hd 3 rfl rfl).kt⟩
    clear hd hbase hb
    go_simp
    (first | done | rfl | (refine ⟨?_, ?_⟩ <;> rfl))
  (try simp only [List.nil_append, List.cons_append])
  refine Rel.mvK 116 4 rfl rfl rfl ((K2.st (KV.st _) (KV.st _))) (Rel.gno rfl) ?_
  (try simp only [List.nil_append, List.cons_append])
  refine Rel.ext20 111 5 rfl rfl rfl (KV.st _) (Rel.gno rfl) ?_
  (try simp only [List.nil_append, List.cons_append])
  refine Rel.ext21 111 5 rfl rfl rfl (KV.st _) (Rel.gno rfl) ?_
  (try simp only [List.nil_append, List.cons_append])
  (refine Rel.opz (hn := ?_); (try simp only [List.nil_append, List.cons_append]))
  refine Rel.done3 ?_
  intro x w20 h20 hx
  simp only [Rel.facts, Nat.zero_add, Nat.reduceAdd] at hx
  clear fbg_0 fbg_1 fbg_2 fbg_3 fbg_4 fbg_l
  clear fbs_0 fbs_1 fbs_2 fbs_l
  obtain ⟨e0, _, e2, _, _, _, e6, e7, e8, _⟩ := hx
  have e6 : x 6 = _ := e6
  have e7 : x 7 = _ := e7
  simp only [Rel.fill, Nat.zero_add, Nat.reduceAdd, e0, e2, e6, e7, e8]
  simp only [Act.put, List.setIfInBounds_toArray, List.set_cons_zero, List.set_cons_succ]
  clear e0 e2 e6 e7 e8
  have a_20 := Lib.hid ((KTI.ik BH lv n BP).st _ _ _ a_19.out h20)
  have b_20 := Lib.hid ((KTI.ik CH lv n BP).st _ _ _ b_19.out h20)
  have ba_20 := Lib.hid (ba_19.out.below h20)
  have bb_20 := Lib.hid (bb_19.out.below h20)
  have HB20 := Lib.hid (HB19.out.trans (h20.mono HB19.out.size))
  clear h20
  obtain ⟨fbg_0, fbg_1, fbg_2, fbg_3, fbg_4, fbg_l, -⟩ := (bg_rw17.out.below HB20.out).o5
  obtain ⟨fbs_0, fbs_1, fbs_2, fbs_l, -⟩ := (bs_rw17.out.below HB20.out).o3
  go_wp2
  refine Rel.region3 9 (by kernel_rfl) (by kernel_rfl) (by kernel_rfl) ?_
  simp only [List.take_succ_cons, List.take_zero, List.drop_succ_cons, List.drop_zero, List.filterMap_cons, List.filterMap_nil]
  (refine Rel.opz (hn := ?_); (try simp only [List.nil_append, List.cons_append]))
  refine Rel.callK 8 (KGI lk ht rc M ts L gs) ((KGI.ik _ _ _ _ _ _ _).st) (Rel.gno rfl) ?_ ?_
  · intro a W hb hd hbase
    have q1 : a.eval (.tmp 120) = _ := (Rel.dep_at hd 0 rfl rfl)
    refine ⟨#[a.eval (.tmp 120)], ?_, by rw [q1]; exact HGU.out _ (KG.st _ _ _ _ _ _ _ _ _ _ ug_rw17.out (HB20.out.trans (hb.mono HB20.out.size)))⟩
    clear hd hbase hb
    go_simp
    (first | done | rfl | (refine ⟨?_, ?_⟩ <;> rfl))
  (try simp only [List.nil_append, List.cons_append])
  (refine Rel.opz (hn := ?_); (try simp only [List.nil_append, List.cons_append]))
  refine Rel.callK 17 (KTI h lv n l) ((KTI.ik _ _ _ _).st) (Rel.gno rfl) ?_ ?_
  · intro a W hb hd hbase
    have q1 : a.eval (.tmp 122) = _ := (Rel.dep_at hd 2 rfl rfl)
    refine ⟨#[a.eval (.tmp 122)], ?_, by rw [q1]; exact HSU.out _ (KT.st _ _ _ _ _ _ _ us_rw17.out (HB20.out.trans (hb.mono HB20.out.size)))⟩
    clear hd hbase hb
    go_simp
    (first | done | rfl | (refine ⟨?_, ?_⟩ <;> rfl))
  (try simp only [List.nil_append, List.cons_append])
  refine Rel.callK 20 (K2 (KS n TL) (KV (.int .i64 0))) ((K2.st (KS.st _ _) (KV.st _))) (Rel.gno rfl) ?_ ?_
  · intro a W hb hd hbase
    refine ⟨#[a.eval (.tmp 121), a.eval (.tmp 123)], ?_, HTL.out _ (HTabw17.out.below (HB20.out.trans (hb.mono HB20.out.size))).tab.lim (Rel.dep_at hd 1 rfl rfl).kg (Rel.dep_at hd 3 rfl rfl).kt⟩
    clear hd hbase hb
    go_simp
    (first | done | rfl | (refine ⟨?_, ?_⟩ <;> rfl))
  (try simp only [List.nil_append, List.cons_append])
  refine Rel.mvK 124 4 rfl rfl rfl ((K2.st (KS.st _ _) (KV.st _))) (Rel.gno rfl) ?_
  (try simp only [List.nil_append, List.cons_append])
  refine Rel.ext20 119 5 rfl rfl rfl ((KS.st _ _)) (Rel.gno rfl) ?_
  (try simp only [List.nil_append, List.cons_append])
  refine Rel.ext21 119 5 rfl rfl rfl (KV.st _) (Rel.gno rfl) ?_
  (try simp only [List.nil_append, List.cons_append])
  refine Rel.asgK 125 6 rfl rfl rfl ((KS.st _ _)) (Rel.gno rfl) ?_
  (try simp only [List.nil_append, List.cons_append])
  refine Rel.done3 ?_
  intro x w21 h21 hx
  simp only [Rel.facts, Nat.zero_add, Nat.reduceAdd] at hx
  clear fbg_0 fbg_1 fbg_2 fbg_3 fbg_4 fbg_l
  clear fbs_0 fbs_1 fbs_2 fbs_l
  obtain ⟨e0, _, e2, _, _, _, _, e7, ⟨TB, TC, e8, hTB⟩, _⟩ := hx
  have e7 : x 7 = _ := e7
  simp only [Rel.fill, Nat.zero_add, Nat.reduceAdd, e0, e2, e7, e8]
  simp only [Act.put, List.setIfInBounds_toArray, List.set_cons_zero, List.set_cons_succ]
  clear e0 e2 e7 e8
  have a_21 := Lib.hid ((KTI.ik BH lv n BP).st _ _ _ a_20.out h21)
  have b_21 := Lib.hid ((KTI.ik CH lv n BP).st _ _ _ b_20.out h21)
  have ba_21 := Lib.hid (ba_20.out.below h21)
  have bb_21 := Lib.hid (bb_20.out.below h21)
  have HB21 := Lib.hid (HB20.out.trans (h21.mono HB20.out.size))
  have t_21 := Lib.hid (show KS n TL (.slice TB n TC) w21 from ⟨_, _, rfl, hTB⟩)
  clear hTB h21
  have ug_rw21 := Lib.hid (KG.st _ _ _ _ _ _ _ _ _ _ ug_rw17.out HB21.out)
  have us_rw21 := Lib.hid (KT.st _ _ _ _ _ _ _ us_rw17.out HB21.out)
  have x_rw21 := Lib.hid (KG.st _ _ _ _ _ _ _ _ _ _ x_17.out HB21.out)
  have l2_rw21 := Lib.hid (KT.st _ _ _ _ _ _ _ l2_17.out HB21.out)
  have bg_rw21 := Lib.hid (bg_rw17.out.below HB21.out)
  have bs_rw21 := Lib.hid (bs_rw17.out.below HB21.out)
  have bx_rw21 := Lib.hid (bx_17.out.below HB21.out)
  have bl_rw21 := Lib.hid (bl_17.out.below HB21.out)
  have HTabw21 := Lib.hid (HTabw17.out.below HB21.out)
  have HOw21 := Lib.hid (HOw17.out.trans (HB21.out.mono HOw17.out.size))
  have HZw21 := Lib.hid (Below.refl w21.heap.size w21)
  clear HB21 ug_rw17 us_rw17 x_17 l2_17 bg_rw17 bs_rw17 bx_17 bl_17 HTabw17 HOw17
  obtain ⟨fbg_0, fbg_1, fbg_2, fbg_3, fbg_4, fbg_l, -⟩ := (bg_rw21.out.below HZw21.out).o5
  obtain ⟨fbx_0, fbx_1, fbx_2, fbx_3, fbx_4, fbx_l, -⟩ := (bx_rw21.out.below HZw21.out).o5
  obtain ⟨fba_0, fba_1, fba_2, fba_l, -⟩ := (ba_21.out.below HZw21.out).o3
  obtain ⟨fbb_0, fbb_1, fbb_2, fbb_l, -⟩ := (bb_21.out.below HZw21.out).o3
  go_wp2
  refine Rel.region3 39 (by kernel_rfl) (by kernel_rfl) (by kernel_rfl) ?_
  simp only [List.take_succ_cons, List.take_zero, List.drop_succ_cons, List.drop_zero, List.filterMap_cons, List.filterMap_nil]
  iterate 14 (refine Rel.opz (hn := ?_); (try simp only [List.nil_append, List.cons_append]))
  refine Rel.callK 14 (KG lk ht rc M ts L gs) (KG.st _ _ _ _ _ _ _) (Rel.gyes 12 false _ rfl rfl rfl) ?_ ?_
  · intro a W hb hd hbase
    have q1 : a.eval (.tmp 140) = _ := (Rel.dep_at hd 13 rfl rfl)
    refine ⟨#[a.eval (.tmp 140)], ?_, by rw [q1]; exact own_K (KG.st _ _ _ _ _ _ _ _ _ _ x_rw21.out (HZw21.out.trans (hb.mono HZw21.out.size)))⟩
    clear hd hbase hb
    go_simp
    (first | done | rfl | (refine ⟨?_, ?_⟩ <;> rfl))
  (try simp only [List.nil_append, List.cons_append])
  (refine Rel.opz (hn := ?_); (try simp only [List.nil_append, List.cons_append]))
  refine Rel.callK 13 (KV (.bool true)) (KV.st _) (Rel.gyes 12 false _ rfl rfl rfl) ?_ ?_
  · intro a W hb hd hbase
    have q2 : a.eval (.tmp 142) = _ := (Rel.dep_at hd 15 rfl rfl)
    refine ⟨#[a.eval (.tmp 141), a.eval (.tmp 142)], ?_, by rw [q2]; exact HSG.out _ (Rel.dep_at hd 14 rfl rfl) (KG.st _ _ _ _ _ _ _ _ _ _ ug_rw21.out (HZw21.out.trans (hb.mono HZw21.out.size)))⟩
    clear hd hbase hb
    go_simp
    (first | done | rfl | (refine ⟨?_, ?_⟩ <;> rfl))
  (try simp only [List.nil_append, List.cons_append])
  iterate 22 (refine Rel.opz (hn := ?_); (try simp only [List.nil_append, List.cons_append]))
  refine Rel.done3 ?_
  intro x w22 h22 hx
  simp only [Rel.facts, Nat.zero_add, Nat.reduceAdd] at hx
  clear fbg_0 fbg_1 fbg_2 fbg_3 fbg_4 fbg_l
  clear fbx_0 fbx_1 fbx_2 fbx_3 fbx_4 fbx_l
  clear fba_0 fba_1 fba_2 fba_l
  clear fbb_0 fbb_1 fbb_2 fbb_l
  obtain ⟨e0, e1, e2, e3, e4, e5, e6, e7, e8, e9, e10, e11, e12, e13, _, e15, e16, e17, e18, e19, e20, e21, e22, e23, e24, e25, e26, e27, e28, e29, e30, e31, e32, e33, e34, e35, e36, e37, e38, _⟩ := hx
  have e16 : x 16 = _ := e16
  simp only [Rel.fill, Nat.zero_add, Nat.reduceAdd, e0, e1, e2, e3, e4, e5, e6, e7, e8, e9, e10, e11, e12, e13, e15, e16, e17, e18, e19, e20, e21, e22, e23, e24, e25, e26, e27, e28, e29, e30, e31, e32, e33, e34, e35, e36, e37, e38]
  simp only [Act.put, List.setIfInBounds_toArray, List.set_cons_zero, List.set_cons_succ]
  clear e0 e1 e2 e3 e4 e5 e6 e7 e8 e9 e10 e11 e12 e13 e15 e16 e17 e18 e19 e20 e21 e22 e23 e24 e25 e26 e27 e28 e29 e30 e31 e32 e33 e34 e35 e36 e37 e38
  have HB22 := Lib.hid (HZw21.out.trans (h22.mono HZw21.out.size))
  clear h22
  obtain ⟨fbs_0, fbs_1, fbs_2, fbs_l, -⟩ := (bs_rw21.out.below HB22.out).o3
  go_wp2_with (go_at_call 17; refine name_calls ?_; intro w23 e23; refine Hid.out ?_)
  unfold Hid
  have h23 : Below w22.heap.size w22 w23 := by rw [e23]; exact bel
  have HB23 := Lib.hid (HB22.out.trans (h23.mono HB22.out.size))
  clear e23 h23
  refine (HSU.out _ (KT.st _ _ _ _ _ _ _ us_rw21.out HB23.out)).mono ?_
  rintro r w24 ⟨v24, rfl, k24, h24⟩
  have HB24 := Lib.hid (HB23.out.trans (h24.mono HB23.out.size))
  obtain ⟨NB, Nc, rfl, hnc, hni⟩ := k24
  have n_24 := Lib.hid (show KTI h lv n l (.agg #[(.int .i64 h), (.int .i64 lv), .slice NB n Nc]) w24 from ⟨_, _, rfl, hnc, hni⟩)
  clear hnc hni h24
  clear fbs_0 fbs_1 fbs_2 fbs_l
  have ug_rw24 := Lib.hid (KG.st _ _ _ _ _ _ _ _ _ _ ug_rw21.out HB24.out)
  have us_rw24 := Lib.hid (KT.st _ _ _ _ _ _ _ us_rw21.out HB24.out)
  have x_rw24 := Lib.hid (KG.st _ _ _ _ _ _ _ _ _ _ x_rw21.out HB24.out)
  have l2_rw24 := Lib.hid (KT.st _ _ _ _ _ _ _ l2_rw21.out HB24.out)
  have a_rw24 := Lib.hid ((KTI.ik BH lv n BP).st _ _ _ a_21.out HB24.out)
  have b_rw24 := Lib.hid ((KTI.ik CH lv n BP).st _ _ _ b_21.out HB24.out)
  have t_rw24 := Lib.hid (KS.st _ _ _ _ _ t_21.out HB24.out)
  have bg_rw24 := Lib.hid (bg_rw21.out.below HB24.out)
  have bs_rw24 := Lib.hid (bs_rw21.out.below HB24.out)
  have bx_rw24 := Lib.hid (bx_rw21.out.below HB24.out)
  have bl_rw24 := Lib.hid (bl_rw21.out.below HB24.out)
  have ba_rw24 := Lib.hid (ba_21.out.below HB24.out)
  have bb_rw24 := Lib.hid (bb_21.out.below HB24.out)
  have HTabw24 := Lib.hid (HTabw21.out.below HB24.out)
  have HOw24 := Lib.hid (HOw21.out.trans (HB24.out.mono HOw21.out.size))
  have HZw24 := Lib.hid (Below.refl w24.heap.size w24)
  clear HB24 ug_rw21 us_rw21 x_rw21 l2_rw21 a_21 b_21 t_21 bg_rw21 bs_rw21 bx_rw21 bl_rw21 ba_21 bb_21 HTabw21 HOw21
  go_wp2
  refine name_world ?_
  intro w25 e25
  have h25 : Below w24.heap.size w24 w25 := by rw [e25]; exact bel
  have HB25 := Lib.hid (HZw24.out.trans (h25.mono HZw24.out.size))
  have bn_25 := Lib.hid (show Blk w25 w24.heap.size #[(.int .i64 h), (.int .i64 lv), .slice NB n Nc] from by rw [e25]; exact Calm.Blk.new _ _ _)
  have ty0 := Lib.hid (show IsTy w25 w24.heap.size 45 from by rw [e25]; exact IsTy.new)
  clear e25 h25
  obtain ⟨gn, hgn⟩ : ∃ gn, gn = w24.heap.size := ⟨_, rfl⟩
  rw [← hgn] at ty0
  rw [← hgn]
  have HGW : Hid (w24.heap.size ≤ gn) := Lib.hid (by omega)
  have bn0 := Lib.hid (show Blk w25 gn _ by rw [hgn]; exact bn_25.out)
  clear hgn
  go_loopw [171] (fun i wr => ∃ (k : Nat) (B : Option Addr) (c : Nat) (z : Int) (p : List Int), k ≤ n ∧ i = (.int .i64 ((k : Int))) ∧ z = coolK lk h k ∧ p = psK l k ∧ Below w24.heap.size w24 wr ∧ Blk wr gn #[(.int .i64 z), (.int .i64 lv), .slice B n c] ∧ KTI z lv n p (.agg #[(.int .i64 z), (.int .i64 lv), .slice B n c]) wr ∧ IsTy wr gn 45) (fun i _ => n - (intOf i).toNat)
  case atStart => exact ⟨0, NB, Nc, h, l, Nat.zero_le _, rfl, rfl, rfl, HB25.out, bn0.out, ((KTI.ik h lv n l).st _ _ _ n_24.out HB25.out), ty0.out⟩
  case round =>
    obtain ⟨k, B, c, z, p, hk, rfl, hz, hp, kb, kn, kt, ky⟩ := hrel
    have KB := Lib.hid kb
    have BN := Lib.hid kn
    have KZ := Lib.hid kt
    have KY := Lib.hid ky
    clear kb kn kt ky
    by_cases hlt : k < n
    · obtain ⟨z2, p2, xx, SB, hz2, hp2, hxx, hzz, q1, q2, q3, q4, q5⟩ := HRD.out k hlt z p hz hp
      have HKN := Lib.hid hlt
      have HZ2 := Lib.hid hz2
      have HP2 := Lib.hid hp2
      have HBN := q1
      have HCN := q2
      have HSN := q3
      have HFN := q4
      clear q1 q2 q3 q4 q5 hz2 hp2 hz hp
      have hdZ : decide (z < z2) = false := decide_eq_false (by omega)
      clear hzz
      have HT := Lib.hid (KS.st _ _ _ _ _ t_rw24.out KB.out)
      obtain ⟨_, _, ee, hcc⟩ := HT.out
      cases ee
      obtain ⟨b1, o1, hA, hbl, hcell⟩ := hcc (by rw [← HTLn.out]; omega)
      subst hA
      have hck := hcell k (by rw [← HTLn.out]; exact hlt)
      rw [← hxx] at hck
      clear hcell hxx hcc HT
      have hkn : (k : Int) < (n : Int) := by omega
      obtain ⟨fbg_0, fbg_1, fbg_2, fbg_3, fbg_4, fbg_l, -⟩ := (bg_rw24.out.below KB.out).o5
      obtain ⟨fbn_0, fbn_1, fbn_2, fbn_l, -⟩ := BN.out.o3
      go_wp2
      refine RelH.region3 (S := Sty 45 (KTI z2 lv n p2) wr.heap.size) (Sty.trans (KTI.ik _ _ _ _)) (Sty.drawn (by decide)) 11 (by kernel_rfl) (by kernel_rfl) (by kernel_rfl) ?_
      simp only [List.take_succ_cons, List.take_zero, List.drop_succ_cons, List.drop_zero, List.filterMap_cons, List.filterMap_nil]
      (refine RelH.opz (Sty.refl (by decide)) (hn := ?_); (try simp only [List.nil_append, List.cons_append]))
      refine RelH.callH (fun _ _ h => h.keep) (fun _ _ h => Sty.of (by decide) h) 8 (KGI lk ht rc M ts L gs) ((KGI.ik _ _ _ _ _ _ _)) (RelH.gno rfl) ?_ ?_
      · intro a W x hS hd hbase
        have hb := hS.below (Nat.le_refl _)
        have q1 : a.eval (.tmp 176) = _ := (RelH.dep_k hd 0 rfl rfl)
        refine ⟨#[a.eval (.tmp 176)], ?_, by rw [q1]; exact HGU.out _ (KG.st _ _ _ _ _ _ _ _ _ _ ug_rw24.out (KB.out.trans (hb.mono KB.out.size)))⟩
        clear hd hbase hb hS
        go_simp
        (first | done | rfl | (refine ⟨?_, ?_⟩ <;> rfl))
      (try simp only [List.nil_append, List.cons_append])
      (refine RelH.opz (Sty.refl (by decide)) (hn := ?_); (try simp only [List.nil_append, List.cons_append]))
      refine RelH.callH (fun _ _ h => h.keep) (fun _ _ h => Sty.of (by decide) h) 18 (K3 (KTI z2 lv n p2) (KV (.int .i64 xx)) (KV (.int .i64 0))) ((K3.ik (KTI.ik _ _ _ _) (KV.ik _) (KV.ik _))) (RelH.gno rfl) ?_ ?_
      · intro a W x hS hd hbase
        have hb := hS.below (Nat.le_refl _)
        have q2 : a.eval (.tmp 178) = _ := (RelH.dep_k hd 2 rfl rfl)
        refine ⟨#[a.eval (.tmp 177), a.eval (.tmp 178), (.int .i64 0)], ?_, by rw [q2]; exact HBN.out _ _ _ (HTabw24.out.below (KB.out.trans (hb.mono KB.out.size))).tab.lim (RelH.dep_k hd 1 rfl rfl).kg (KTI.kt ((KTI.ik z lv n p).st _ _ _ KZ.out hb))⟩
        clear hd hbase hb hS
        go_simp
        (first | done | rfl | (refine ⟨?_, ?_⟩ <;> rfl))
      (try simp only [List.nil_append, List.cons_append])
      refine RelH.mvH (Sty.refl (by decide)) (fun _ _ h => h.keep) 179 3 rfl rfl rfl ((K3.ik (KTI.ik _ _ _ _) (KV.ik _) (KV.ik _))) (RelH.gno rfl) ?_
      (try simp only [List.nil_append, List.cons_append])
      refine RelH.ext30H (Sty.refl (by decide)) (fun _ _ h => h.keep) 175 4 rfl rfl rfl ((KTI.ik _ _ _ _)) (RelH.gno rfl) ?_
      (try simp only [List.nil_append, List.cons_append])
      refine RelH.ext31H (Sty.refl (by decide)) (fun _ _ h => h.keep) 175 4 rfl rfl rfl ((KV.ik _)) (RelH.gno rfl) ?_
      (try simp only [List.nil_append, List.cons_append])
      refine RelH.ext32H (Sty.refl (by decide)) (fun _ _ h => h.keep) 175 4 rfl rfl rfl ((KV.ik _)) (RelH.gno rfl) ?_
      (try simp only [List.nil_append, List.cons_append])
      (refine RelH.allocH (by decide) (n := 3) (fun cs W h => by obtain ⟨_, _, e, _⟩ := h; cases e; rfl) #[(.int .i64 0), (.int .i64 0), .slice none 0 0] rfl (RelH.gno rfl) (by intro a W; go_simp) ?_; (try simp only [List.nil_append, List.cons_append]))
      refine RelH.storeH 29 180 8 5 rfl rfl rfl rfl rfl (RelH.gno rfl) ?_
      (try simp only [List.nil_append, List.cons_append])
      (refine RelH.opz (Sty.refl (by decide)) (hn := ?_); (try simp only [List.nil_append, List.cons_append]))
      refine RelH.done3 ?_
      intro x w26 hS26 hx
      have h26 := hS26.below (Nat.le_refl _)
      clear hS26
      simp only [RelH.facts, Nat.zero_add, Nat.reduceAdd] at hx
      clear fbg_0 fbg_1 fbg_2 fbg_3 fbg_4 fbg_l
      clear fbn_0 fbn_1 fbn_2 fbn_l
      obtain ⟨e0, _, e2, _, _, _, e6, e7, _, ⟨gb26, e8, hg26, cs26, hG26, B26, c26, ec26, hc26, hi26⟩, e10, _⟩ := hx
      have e6 : x 6 = _ := e6
      have e7 : x 7 = _ := e7
      cases ec26
      simp only [RelH.fill, Nat.zero_add, Nat.reduceAdd, e0, e2, e6, e7, e8, e10]
      simp only [Act.put, List.setIfInBounds_toArray, List.set_cons_zero, List.set_cons_succ]
      clear e0 e2 e6 e7 e8 e10
      have nw_26 := Lib.hid ((KTI.ik z lv n p).st _ _ _ KZ.out h26)
      have bn_26 := Lib.hid (BN.out.below h26)
      have tyn_26 := Lib.hid (KY.out.below h26)
      have HB26 := Lib.hid (KB.out.trans (h26.mono KB.out.size))
      have bv_26 := Lib.hid (show Blk w26 gb26 #[(.int .i64 z2), (.int .i64 lv), .slice B26 n c26] from Calm.Blk.row hG26)
      have v_26 := Lib.hid (show KTI z2 lv n p2 (.agg #[(.int .i64 z2), (.int .i64 lv), .slice B26 n c26]) w26 from ⟨_, _, rfl, hc26, hi26⟩)
      clear hc26 hi26 hG26 hg26 h26
      clear hck
      obtain ⟨fbg_0, fbg_1, fbg_2, fbg_3, fbg_4, fbg_l, -⟩ := (bg_rw24.out.below HB26.out).o5
      obtain ⟨fbn_0, fbn_1, fbn_2, fbn_l, -⟩ := bn_26.out.o3
      obtain ⟨fbv_0, fbv_1, fbv_2, fbv_l, -⟩ := bv_26.out.o3
      go_wp2
      refine Rel.region3 20 (by kernel_rfl) (by kernel_rfl) (by kernel_rfl) ?_
      simp only [List.take_succ_cons, List.take_zero, List.drop_succ_cons, List.drop_zero, List.filterMap_cons, List.filterMap_nil]
      iterate 17 (refine Rel.opz (hn := ?_); (try simp only [List.nil_append, List.cons_append]))
      refine Rel.callK 21 (KT z2 lv n p2) (KT.st _ _ _ _) (Rel.gyes 14 false _ rfl rfl rfl) ?_ ?_
      · intro a W hb hd hbase
        have q1 : a.eval (.tmp 199) = _ := (Rel.dep_at hd 16 rfl rfl)
        refine ⟨#[a.eval (.tmp 199)], ?_, by rw [q1]; exact told_K (KTI.kt ((KTI.ik z2 lv n p2).st _ _ _ v_26.out hb))⟩
        clear hd hbase hb
        go_simp
        (first | done | rfl | (refine ⟨?_, ?_⟩ <;> rfl))
      (try simp only [List.nil_append, List.cons_append])
      refine Rel.callK 16 (KV (.int .i64 0)) (KV.st _) (Rel.gyes 14 false _ rfl rfl rfl) ?_ ?_
      · intro a W hb hd hbase
        have q1 : a.eval (.tmp 198) = _ := (Rel.dep_at hd 15 rfl rfl)
        refine ⟨#[a.eval (.tmp 198), a.eval (.tmp 200)], ?_, by rw [q1]; exact HCN.out _ _ _ (KG.st _ _ _ _ _ _ _ _ _ _ ug_rw24.out (HB26.out.trans (hb.mono HB26.out.size))) (Rel.dep_at hd 17 rfl rfl)⟩
        clear hd hbase hb
        go_simp
        (first | done | rfl | (refine ⟨?_, ?_⟩ <;> rfl))
      (try simp only [List.nil_append, List.cons_append])
      (refine Rel.opz (hn := ?_); (try simp only [List.nil_append, List.cons_append]))
      refine Rel.done3 ?_
      intro x w27 h27 hx
      simp only [Rel.facts, Nat.zero_add, Nat.reduceAdd] at hx
      clear fbg_0 fbg_1 fbg_2 fbg_3 fbg_4 fbg_l
      clear fbn_0 fbn_1 fbn_2 fbn_l
      clear fbv_0 fbv_1 fbv_2 fbv_l
      obtain ⟨e0, e1, e2, e3, e4, e5, e6, e7, e8, e9, e10, e11, e12, e13, e14, e15, e16, _, e18, e19, _⟩ := hx
      have e18 : x 18 = _ := e18
      simp only [Rel.fill, Nat.zero_add, Nat.reduceAdd, e0, e1, e2, e3, e4, e5, e6, e7, e8, e9, e10, e11, e12, e13, e14, e15, e16, e18, e19]
      simp only [Act.put, List.setIfInBounds_toArray, List.set_cons_zero, List.set_cons_succ]
      clear e0 e1 e2 e3 e4 e5 e6 e7 e8 e9 e10 e11 e12 e13 e14 e15 e16 e18 e19
      have v_27 := Lib.hid ((KTI.ik z2 lv n p2).st _ _ _ v_26.out h27)
      have bn_27 := Lib.hid (bn_26.out.below h27)
      have bv_27 := Lib.hid (bv_26.out.below h27)
      have tyn_27 := Lib.hid (tyn_26.out.below h27)
      have HB27 := Lib.hid (HB26.out.trans (h27.mono HB26.out.size))
      clear h27
      obtain ⟨fbg_0, fbg_1, fbg_2, fbg_3, fbg_4, fbg_l, -⟩ := (bg_rw24.out.below HB27.out).o5
      obtain ⟨fbv_0, fbv_1, fbv_2, fbv_l, -⟩ := bv_27.out.o3
      go_wp2
      refine Rel.region3 10 (by kernel_rfl) (by kernel_rfl) (by kernel_rfl) ?_
      simp only [List.take_succ_cons, List.take_zero, List.drop_succ_cons, List.drop_zero, List.filterMap_cons, List.filterMap_nil]
      (refine Rel.opz (hn := ?_); (try simp only [List.nil_append, List.cons_append]))
      refine Rel.callK 8 (KGI lk ht rc M ts L gs) ((KGI.ik _ _ _ _ _ _ _).st) (Rel.gno rfl) ?_ ?_
      · intro a W hb hd hbase
        have q1 : a.eval (.tmp 205) = _ := (Rel.dep_at hd 0 rfl rfl)
        refine ⟨#[a.eval (.tmp 205)], ?_, by rw [q1]; exact HGU.out _ (KG.st _ _ _ _ _ _ _ _ _ _ ug_rw24.out (HB27.out.trans (hb.mono HB27.out.size)))⟩
        clear hd hbase hb
        go_simp
        (first | done | rfl | (refine ⟨?_, ?_⟩ <;> rfl))
      (try simp only [List.nil_append, List.cons_append])
      (refine Rel.opz (hn := ?_); (try simp only [List.nil_append, List.cons_append]))
      refine Rel.callK 21 (KT z2 lv n p2) (KT.st _ _ _ _) (Rel.gno rfl) ?_ ?_
      · intro a W hb hd hbase
        have q1 : a.eval (.tmp 207) = _ := (Rel.dep_at hd 2 rfl rfl)
        refine ⟨#[a.eval (.tmp 207)], ?_, by rw [q1]; exact told_K (KTI.kt ((KTI.ik z2 lv n p2).st _ _ _ v_27.out hb))⟩
        clear hd hbase hb
        go_simp
        (first | done | rfl | (refine ⟨?_, ?_⟩ <;> rfl))
      (try simp only [List.nil_append, List.cons_append])
      refine Rel.callK 17 (KTI z2 lv n p2) ((KTI.ik _ _ _ _).st) (Rel.gno rfl) ?_ ?_
      · intro a W hb hd hbase
        refine ⟨#[a.eval (.tmp 208)], ?_, HSN.out _ _ (Rel.dep_at hd 3 rfl rfl)⟩
        clear hd hbase hb
        go_simp
        (first | done | rfl | (refine ⟨?_, ?_⟩ <;> rfl))
      (try simp only [List.nil_append, List.cons_append])
      refine Rel.callK 19 (K2 (KV (.bool SB)) (KV (.int .i64 0))) ((K2.st (KV.st _) (KV.st _))) (Rel.gno rfl) ?_ ?_
      · intro a W hb hd hbase
        refine ⟨#[a.eval (.tmp 206), a.eval (.tmp 209)], ?_, HFN.out _ _ _ (HTabw24.out.below (HB27.out.trans (hb.mono HB27.out.size))).tab.lim (Rel.dep_at hd 1 rfl rfl).kg (KTI.kt (Rel.dep_at hd 4 rfl rfl))⟩
        clear hd hbase hb
        go_simp
        (first | done | rfl | (refine ⟨?_, ?_⟩ <;> rfl))
      (try simp only [List.nil_append, List.cons_append])
      refine Rel.mvK 210 5 rfl rfl rfl ((K2.st (KV.st _) (KV.st _))) (Rel.gno rfl) ?_
      (try simp only [List.nil_append, List.cons_append])
      refine Rel.ext20 204 6 rfl rfl rfl (KV.st _) (Rel.gno rfl) ?_
      (try simp only [List.nil_append, List.cons_append])
      refine Rel.ext21 204 6 rfl rfl rfl (KV.st _) (Rel.gno rfl) ?_
      (try simp only [List.nil_append, List.cons_append])
      (refine Rel.opz (hn := ?_); (try simp only [List.nil_append, List.cons_append]))
      refine Rel.done3 ?_
      intro x w28 h28 hx
      simp only [Rel.facts, Nat.zero_add, Nat.reduceAdd] at hx
      clear fbg_0 fbg_1 fbg_2 fbg_3 fbg_4 fbg_l
      clear fbv_0 fbv_1 fbv_2 fbv_l
      obtain ⟨e0, _, e2, _, _, _, _, e7, e8, e9, _⟩ := hx
      have e7 : x 7 = _ := e7
      have e8 : x 8 = _ := e8
      simp only [Rel.fill, Nat.zero_add, Nat.reduceAdd, e0, e2, e7, e8, e9]
      simp only [Act.put, List.setIfInBounds_toArray, List.set_cons_zero, List.set_cons_succ]
      clear e0 e2 e7 e8 e9
      have v_28 := Lib.hid ((KTI.ik z2 lv n p2).st _ _ _ v_27.out h28)
      have bn_28 := Lib.hid (bn_27.out.below h28)
      have bv_28 := Lib.hid (bv_27.out.below h28)
      have tyn_28 := Lib.hid (tyn_27.out.below h28)
      have HB28 := Lib.hid (HB27.out.trans (h28.mono HB27.out.size))
      clear h28
      obtain ⟨fbv_0, fbv_1, fbv_2, fbv_l, -⟩ := bv_28.out.o3
      go_wp2_with (go_at_call 21; refine name_calls ?_; intro w29 e29; refine Hid.out ?_)
      unfold Hid
      have h29 : Below w28.heap.size w28 w29 := by rw [e29]; exact bel
      have v_29 := Lib.hid ((KTI.ik z2 lv n p2).st _ _ _ v_28.out h29)
      have bn_29 := Lib.hid (bn_28.out.below h29)
      have bv_29 := Lib.hid (bv_28.out.below h29)
      have tyn_29 := Lib.hid (tyn_28.out.below h29)
      have HB29 := Lib.hid (HB28.out.trans (h29.mono HB28.out.size))
      clear e29 h29
      refine (told_K (KTI.kt v_29.out)).mono ?_
      rintro r w30 ⟨v30, rfl, k30, h30⟩
      have v_30 := Lib.hid ((KTI.ik z2 lv n p2).st _ _ _ v_29.out h30)
      have bn_30 := Lib.hid (bn_29.out.below h30)
      have bv_30 := Lib.hid (bv_29.out.below h30)
      have tyn_30 := Lib.hid (tyn_29.out.below h30)
      have HB30 := Lib.hid (HB29.out.trans (h30.mono HB29.out.size))
      obtain ⟨TO, To, rfl, htc⟩ := k30
      have to_30 := Lib.hid (show KT z2 lv n p2 (.agg #[(.int .i64 z2), (.int .i64 lv), .slice TO n To]) w30 from ⟨_, _, rfl, htc⟩)
      clear htc h30
      clear fbv_0 fbv_1 fbv_2 fbv_l
      go_wp2_with (go_at_call 17; refine name_calls ?_; intro w31 e31; refine Hid.out ?_)
      unfold Hid
      have h31 : Below w30.heap.size w30 w31 := by rw [e31]; exact bel
      have to_31 := Lib.hid (KT.st _ _ _ _ _ _ _ to_30.out h31)
      have bn_31 := Lib.hid (bn_30.out.below h31)
      have tyn_31 := Lib.hid (tyn_30.out.below h31)
      have HB31 := Lib.hid (HB30.out.trans (h31.mono HB30.out.size))
      clear e31 h31
      refine (HSN.out _ _ to_31.out).mono ?_
      rintro r w32 ⟨v32, rfl, k32, h32⟩
      have to_32 := Lib.hid (KT.st _ _ _ _ _ _ _ to_31.out h32)
      have bn_32 := Lib.hid (bn_31.out.below h32)
      have tyn_32 := Lib.hid (tyn_31.out.below h32)
      have HB32 := Lib.hid (HB31.out.trans (h32.mono HB31.out.size))
      obtain ⟨SA, Sc, rfl, hsc, hsi⟩ := k32
      have nn_32 := Lib.hid (show KTI z2 lv n p2 (.agg #[(.int .i64 z2), (.int .i64 lv), .slice SA n Sc]) w32 from ⟨_, _, rfl, hsc, hsi⟩)
      clear hsc hsi h32
      obtain ⟨fbn_0, fbn_1, fbn_2, fbn_l, fbn_f⟩ := bn_32.out.o3
      have hnb := HNB.out
      go_wp2
      clear fbn_0 fbn_1 fbn_2 fbn_l fbn_f
      go_roundw
      case rel => exact ⟨k + 1, SA, Sc, z2, p2, by have := HKN.out; omega, by go_num, HZ2.out, HP2.out, (((HB32.out.setCell (p := ⟨gn, 0, none⟩) HGW.out ((.int .i64 z2))).setCell (p := ⟨gn, 1, none⟩) HGW.out ((.int .i64 lv))).setCell (p := ⟨gn, 2, none⟩) HGW.out (.slice SA n Sc)), (((bn_32.out.set (i := 0) (by simp) ((.int .i64 z2))).set (i := 1) (by simp) ((.int .i64 lv))).set (i := 2) (by simp) (.slice SA n Sc)), KTI.ik z2 lv n p2 _ _ _ nn_32.out ((((IntKeep.refl w32).put tyn_32.out (by decide) 0 ((.int .i64 z2))).put (tyn_32.out.put 0 ((.int .i64 z2))) (by decide) 1 ((.int .i64 lv))).put ((tyn_32.out.put 0 ((.int .i64 z2))).put 1 ((.int .i64 lv))) (by decide) 2 (.slice SA n Sc)), (((tyn_32.out.put 0 ((.int .i64 z2))).put 1 ((.int .i64 lv))).put 2 (.slice SA n Sc))⟩
      case measure => have := HKN.out; simp [intOf]; omega
    · obtain rfl : k = n := by omega
      clear BN KZ KY hz hp
      go_wp2_with (go_at_call 6; refine name_calls ?_; intro w33 e33; refine Hid.out ?_)
      unfold Hid
      have h33 : Below wr.heap.size wr w33 := by rw [e33]; exact bel
      have HB33 := Lib.hid (KB.out.trans (h33.mono KB.out.size))
      clear e33 h33
      refine (awake_any _ (HTabw24.out.below HB33.out).tab).mono ?_
      rintro r w34 ⟨rfl, h34⟩
      have HB34 := Lib.hid (HB33.out.trans (h34.mono HB33.out.size))
      clear h34
      go_wp2
      go_ret
      exact ⟨by first | rfl | (simp; done), HOw24.out.trans (HB34.out.mono HOw24.out.size)⟩
end Go.Proofs.YtdeapbihbhoefaaGreatDoor

/- ProtectReads answers yes, whatever its arguments. -/
namespace Go.Proofs.YtdeapbihbhoefaaGreatDoor
open Go.RowKit
open Calm (bcell Blk)
theorem ProtectReads_any (lk ht rc h lv : Int) (M L n : Nat) (ts gs l : List Int) (s : ByteArray) (u v : Value) (w : World) (hTab : RTab w) (hM : M = ts.length) (hL : L = gs.length) (hn : n = l.length) (hu : KG lk ht rc M ts L gs u w) (hv : KT h lv n l v w) :
    Calls Tryz.prog 4 #[u, v, .string s] w fun r w' => r = .returned (.bool true) ∧ Below w.heap.size w w' := by
  by_cases b0 : M ≤ 9 ∧ L ≤ 9
  · by_cases b1 : n ≤ 9
    · by_cases b2 : s.size ≤ 300
      · by_cases c0 : (parF s.data.toList).err = 0
        · by_cases d0 : stErr lk ht rc ts gs h lv l = 0
          · by_cases d1 : h ≤ 268435456
            · cases f0 : fineF ht rc h 0 ts l with
              | true => exact reads_pmy lk ht rc h lv M L n ts gs l s u v w hTab hM hL hn b0 b1 b2 c0 d0 d1 f0 hu hv
              | false => exact reads_pmn lk ht rc h lv M L n ts gs l s u v w hTab hM hL hn b0 b1 b2 c0 d0 d1 f0 hu hv
            · exact reads_pb lk ht rc h lv M L n ts gs l s u v w hTab hM hL hn b0 b1 b2 c0 d0 (by omega) hu hv
          · exact reads_pe lk ht rc h lv M L n ts gs l s u v w hTab hM hL hn b0 b1 b2 c0 d0 hu hv
        · by_cases d0 : stErr lk ht rc ts gs h lv l = 0
          · by_cases d1 : h ≤ 268435456
            · cases f0 : fineF ht rc h 0 ts l with
              | true => exact reads_qmy lk ht rc h lv M L n ts gs l s u v w hTab hM hL hn b0 b1 b2 c0 d0 d1 f0 hu hv
              | false => exact reads_qmn lk ht rc h lv M L n ts gs l s u v w hTab hM hL hn b0 b1 b2 c0 d0 d1 f0 hu hv
            · exact reads_qb lk ht rc h lv M L n ts gs l s u v w hTab hM hL hn b0 b1 b2 c0 d0 (by omega) hu hv
          · exact reads_qe lk ht rc h lv M L n ts gs l s u v w hTab hM hL hn b0 b1 b2 c0 d0 hu hv
      · exact reads_2 lk ht rc h lv M L n ts gs l s u v w hTab hM hL hn b0 b1 b2 hu hv
    · exact reads_1 lk ht rc h lv M L n ts gs l s u v w hTab hM hL hn b0 b1 hu hv
  · exact reads_0 lk ht rc h lv M L n ts gs l s u v w hTab hM hL hn b0 hu hv
end Go.Proofs.YtdeapbihbhoefaaGreatDoor
