/- Part 22 of the texts of the claim: LRd_pe, LRd_pb, RQ3. -/
import Derived.Test.YtdeapbihbhoefaaGreatDoorMr21

/- ProtectReads, case pe. -/
namespace Go.Proofs.YtdeapbihbhoefaaGreatDoor
open Go.RowKit
open Calm (bcell Blk)
set_option maxRecDepth 100000 in
set_option maxHeartbeats 8000000 in
theorem reads_pe (lk ht rc h lv : Int) (M L n : Nat) (ts gs l : List Int) (s : ByteArray) (u v : Value) (w : World) (hTab : RTab w) (hM : M = ts.length) (hL : L = gs.length) (hn : n = l.length) (b0 : M ≤ 9 ∧ L ≤ 9) (b1 : n ≤ 9) (b2 : s.size ≤ 300) (c0 : (parF s.data.toList).err = 0) (d0 : ¬ stErr lk ht rc ts gs h lv l = 0) (hu : KG lk ht rc M ts L gs u w) (hv : KT h lv n l v w) :
    Calls Tryz.prog 4 #[u, v, .string s] w fun r w' => r = .returned (.bool true) ∧ Below w.heap.size w w' := by
  obtain ⟨A1, c1, A2, c2, rfl, hT, hG⟩ := hu
  obtain ⟨A3, c3, rfl, hP⟩ := hv
  have HU := Lib.hid (show KG lk ht rc M ts L gs (.agg #[(.int .i64 lk), (.int .i64 ht), .slice A1 M c1, (.int .i64 rc), .slice A2 L c2]) w from ⟨_, _, _, _, rfl, hT, hG⟩)
  have HS := Lib.hid (show KT h lv n l (.agg #[(.int .i64 h), (.int .i64 lv), .slice A3 n c3]) w from ⟨_, _, rfl, hP⟩)
  have HSH : Hid (∀ W, KG lk ht rc M ts L gs (.agg #[(.int .i64 lk), (.int .i64 ht), .slice A1 M c1, (.int .i64 rc), .slice A2 L c2]) W → Calls Tryz.prog 5 #[.agg #[(.int .i64 lk), (.int .i64 ht), .slice A1 M c1, (.int .i64 rc), .slice A2 L c2]] W (KP (KV (.bool true)) W)) := Lib.hid (fun W q => by have := Short_K q; rwa [decide_eq_true b0] at this)
  have HSS : Hid (∀ W, KT h lv n l (.agg #[(.int .i64 h), (.int .i64 lv), .slice A3 n c3]) W → Calls Tryz.prog 15 #[.agg #[(.int .i64 h), (.int .i64 lv), .slice A3 n c3]] W (KP (KV (.bool true)) W)) := Lib.hid (fun W q => by have := ShortState_K q; rwa [decide_eq_true b1] at this)
  have hd3 : decide ((300 : Int) < (s.size : Int)) = false := decide_eq_false (by omega)
  obtain ⟨b3, b4⟩ := b0
  have hLim := hTab.tab.lim
  have hPT : ∀ W : World, RTab W → Calls Tryz.prog 9 #[.string s] W (KP (K2 (KG (parF s.data.toList).lk (parF s.data.toList).ht (parF s.data.toList).rc (parF s.data.toList).ts.length (parF s.data.toList).ts (parF s.data.toList).gs.length (parF s.data.toList).gs) (KV (.int .i64 ((parF s.data.toList).err)))) W) := fun W q => parse_P s W q
  obtain ⟨PQ, hPQ⟩ : ∃ PQ, PQ = parF s.data.toList := ⟨_, rfl⟩
  rw [← hPQ] at hPT c0
  have hpp := parF_print (l := s.data.toList) (by rw [← hPQ]; exact c0)
  rw [← hPQ] at hpp
  rw [c0] at hPT
  obtain ⟨pl, ph, pr, pt, pg, pe⟩ := PQ
  obtain ⟨PM, hPM⟩ : ∃ PM, PM = pt.length := ⟨_, rfl⟩
  obtain ⟨PL, hPL⟩ : ∃ PL, PL = pg.length := ⟨_, rfl⟩
  have HPT : Hid (∀ W : World, RTab W → Calls Tryz.prog 9 #[.string s] W (KP (K2 (KG pl ph pr PM pt PL pg) (KV (.int .i64 0))) W)) := Lib.hid (fun W q => by rw [hPM, hPL]; exact hPT W q)
  have hpV : Valid pl ph pr pt pg := guard_valid hpp.1
  have HPR : Hid (∀ {a : Value} (W : World), RTab W → KG pl ph pr PM pt PL pg a W → Calls Tryz.prog 7 #[a] W (KP (K2 (KV (.string s)) (KV (.int .i64 0))) W)) := Lib.hid (fun W q0 q => by
    have e1 := hpV.tl
    have e2 := hpV.gl
    have := cPrint hPM hPL (by omega) (by omega) q0.tab q
    rw [textR_ok hpp.1, show textG pl ph pr pt pg = s.data.toList from hpp.2, show guardErr pl ph pr pt pg = 0 from hpp.1] at this
    exact this)
  obtain ⟨ST, hST⟩ : ∃ ST, ST = stErr lk ht rc ts gs h lv l := ⟨_, rfl⟩
  rw [← hST] at d0
  have hST0 : (ST != 0) = true := by simp [d0]
  have HCS : Hid (∀ {a y : Value} (W : World), KG lk ht rc M ts L gs a W → KT h lv n l y W → Calls Tryz.prog 16 #[a, y] W (KP (KV (.int .i64 ST)) W)) := Lib.hid (fun W q q2 => by rw [hST]; exact rCheckState_K hM hL hn (by omega) (by omega) (by omega) q q2)
  have HTab := Lib.hid hTab
  clear hTab hM hL hn hT hG hP b1 b3 b4 hLim c0 hPT b2 hPQ hpp hPM hPL hpV hST d0
  go_enter Tryz.func4, Tryz.ntmps4
  have HB0 := Lib.hid (Below.refl w.heap.size w)
  go_wp2_with (go_at_call 5; refine name_calls ?_; intro w1 e1; refine Hid.out ?_)
  unfold Hid
  have h1 : Below w.heap.size w w1 := by rw [e1]; exact bel
  have HB1 := Lib.hid (HB0.out.trans (h1.mono HB0.out.size))
  have bg_1 := Lib.hid (show Blk w1 w.heap.size #[(.int .i64 lk), (.int .i64 ht), .slice A1 M c1, (.int .i64 rc), .slice A2 L c2] from by rw [e1]; (repeat (first | ((with_reducible refine Blk.at_ ?_); focus (first | rfl | (simp; done) | (simp; omega))) | (with_reducible refine Blk.alloc ?_ _) | (with_reducible refine Blk.below ?_ (by with_reducible assumption)) | (with_reducible refine Blk.drew ?_))))
  have bs_1 := Lib.hid (show Blk w1 (w.heap.size + 1) #[(.int .i64 h), (.int .i64 lv), .slice A3 n c3] from by rw [e1]; (repeat (first | ((with_reducible refine Blk.at_ ?_); focus (first | rfl | (simp; done) | (simp; omega))) | (with_reducible refine Blk.alloc ?_ _) | (with_reducible refine Blk.below ?_ (by with_reducible assumption)) | (with_reducible refine Blk.drew ?_))))
  clear e1 h1
  refine (HSH.out _ (KG.st _ _ _ _ _ _ _ _ _ _ HU.out HB1.out)).mono ?_
  rintro r w2 ⟨v2, rfl, k2, h2⟩
  have bg_2 := Lib.hid (bg_1.out.below h2)
  have bs_2 := Lib.hid (bs_1.out.below h2)
  have HB2 := Lib.hid (HB1.out.trans (h2.mono HB1.out.size))
  obtain rfl := k2
  clear h2
  obtain ⟨fbs_0, fbs_1, fbs_2, fbs_l, -⟩ := bs_2.out.o3
  go_wp2_with (go_at_call 15; refine name_calls ?_; intro w3 e3; refine Hid.out ?_)
  unfold Hid
  have h3 : Below w2.heap.size w2 w3 := by rw [e3]; exact bel
  have bg_3 := Lib.hid (bg_2.out.below h3)
  have bs_3 := Lib.hid (bs_2.out.below h3)
  have HB3 := Lib.hid (HB2.out.trans (h3.mono HB2.out.size))
  clear e3 h3
  refine (HSS.out _ (KT.st _ _ _ _ _ _ _ HS.out HB3.out)).mono ?_
  rintro r w4 ⟨v4, rfl, k4, h4⟩
  have bg_4 := Lib.hid (bg_3.out.below h4)
  have bs_4 := Lib.hid (bs_3.out.below h4)
  have HB4 := Lib.hid (HB3.out.trans (h4.mono HB3.out.size))
  obtain rfl := k4
  clear h4
  clear fbs_0 fbs_1 fbs_2 fbs_l
  have ug_rw4 := Lib.hid (KG.st _ _ _ _ _ _ _ _ _ _ HU.out HB4.out)
  have us_rw4 := Lib.hid (KT.st _ _ _ _ _ _ _ HS.out HB4.out)
  have HTabw4 := Lib.hid (HTab.out.below HB4.out)
  have HZw4 := Lib.hid (Below.refl w4.heap.size w4)
  clear HU HS HTab
  go_wp2_with (go_at_call 9; refine name_calls ?_; intro w5 e5; refine Hid.out ?_)
  unfold Hid
  have h5 : Below w4.heap.size w4 w5 := by rw [e5]; exact bel
  have HB5 := Lib.hid (HZw4.out.trans (h5.mono HZw4.out.size))
  clear e5 h5
  refine (HPT.out _ (HTabw4.out.below HB5.out)).mono ?_
  rintro r w6 ⟨v6, rfl, k6, h6⟩
  have HB6 := Lib.hid (HB5.out.trans (h6.mono HB5.out.size))
  obtain ⟨_, _, rfl, ⟨PA, Pa, PB, Pb, rfl, hpa, hpb⟩, rfl⟩ := k6
  have px_6 := Lib.hid (show KG pl ph pr PM pt PL pg (.agg #[(.int .i64 pl), (.int .i64 ph), .slice PA PM Pa, (.int .i64 pr), .slice PB PL Pb]) w6 from ⟨_, _, _, _, rfl, hpa, hpb⟩)
  clear hpa hpb h6
  go_wp2_with (go_at_call 7; refine name_calls ?_; intro w7 e7; refine Hid.out ?_)
  unfold Hid
  have h7 : Below w6.heap.size w6 w7 := by rw [e7]; exact bel
  have px_7 := Lib.hid (KG.st _ _ _ _ _ _ _ _ _ _ px_6.out h7)
  have HB7 := Lib.hid (HB6.out.trans (h7.mono HB6.out.size))
  have bp_7 := Lib.hid (show Blk w7 w6.heap.size #[(.int .i64 pl), (.int .i64 ph), .slice PA PM Pa, (.int .i64 pr), .slice PB PL Pb] from by rw [e7]; exact Calm.Blk.new _ _ _)
  clear e7 h7
  refine (HPR.out _ (HTabw4.out.below HB7.out) px_7.out).mono ?_
  rintro r w8 ⟨v8, rfl, k8, h8⟩
  have px_8 := Lib.hid (KG.st _ _ _ _ _ _ _ _ _ _ px_7.out h8)
  have bp_8 := Lib.hid (bp_7.out.below h8)
  have HB8 := Lib.hid (HB7.out.trans (h8.mono HB7.out.size))
  obtain ⟨_, _, rfl, rfl, rfl⟩ := k8
  clear h8
  obtain ⟨fbg_0, fbg_1, fbg_2, fbg_3, fbg_4, fbg_l, -⟩ := (bg_4.out.below HB8.out).o5
  obtain ⟨fbs_0, fbs_1, fbs_2, fbs_l, -⟩ := (bs_4.out.below HB8.out).o3
  go_wp2_with (go_at_call 16; refine name_calls ?_; intro w9 e9; refine Hid.out ?_)
  unfold Hid
  have h9 : Below w8.heap.size w8 w9 := by rw [e9]; exact bel
  have HB9 := Lib.hid (HB8.out.trans (h9.mono HB8.out.size))
  clear e9 h9
  refine (HCS.out _ (KG.st _ _ _ _ _ _ _ _ _ _ ug_rw4.out HB9.out) (KT.st _ _ _ _ _ _ _ us_rw4.out HB9.out)).mono ?_
  rintro r w10 ⟨v10, rfl, k10, h10⟩
  have HB10 := Lib.hid (HB9.out.trans (h10.mono HB9.out.size))
  obtain rfl := k10
  clear h10
  clear fbg_0 fbg_1 fbg_2 fbg_3 fbg_4 fbg_l
  clear fbs_0 fbs_1 fbs_2 fbs_l
  obtain ⟨fbs_0, fbs_1, fbs_2, fbs_l, -⟩ := (bs_4.out.below HB10.out).o3
  go_wp2_with (go_at_call 6; refine name_calls ?_; intro w11 e11; refine Hid.out ?_)
  unfold Hid
  have h11 : Below w10.heap.size w10 w11 := by rw [e11]; exact bel
  have HB11 := Lib.hid (HB10.out.trans (h11.mono HB10.out.size))
  clear e11 h11
  refine (awake_any _ (HTabw4.out.below HB11.out).tab).mono ?_
  rintro r w12 ⟨rfl, h12⟩
  have HB12 := Lib.hid (HB11.out.trans (h12.mono HB11.out.size))
  clear h12
  clear fbs_0 fbs_1 fbs_2 fbs_l
  go_wp2
  go_ret
  exact ⟨by first | rfl | (simp; done), HB4.out.trans (HB12.out.mono HB4.out.size)⟩
end Go.Proofs.YtdeapbihbhoefaaGreatDoor

/- ProtectReads, case pb. -/
namespace Go.Proofs.YtdeapbihbhoefaaGreatDoor
open Go.RowKit
open Calm (bcell Blk)
set_option maxRecDepth 100000 in
set_option maxHeartbeats 8000000 in
theorem reads_pb (lk ht rc h lv : Int) (M L n : Nat) (ts gs l : List Int) (s : ByteArray) (u v : Value) (w : World) (hTab : RTab w) (hM : M = ts.length) (hL : L = gs.length) (hn : n = l.length) (b0 : M ≤ 9 ∧ L ≤ 9) (b1 : n ≤ 9) (b2 : s.size ≤ 300) (c0 : (parF s.data.toList).err = 0) (d0 : stErr lk ht rc ts gs h lv l = 0) (d1 : 268435456 < h) (hu : KG lk ht rc M ts L gs u w) (hv : KT h lv n l v w) :
    Calls Tryz.prog 4 #[u, v, .string s] w fun r w' => r = .returned (.bool true) ∧ Below w.heap.size w w' := by
  obtain ⟨A1, c1, A2, c2, rfl, hT, hG⟩ := hu
  obtain ⟨A3, c3, rfl, hP⟩ := hv
  have HU := Lib.hid (show KG lk ht rc M ts L gs (.agg #[(.int .i64 lk), (.int .i64 ht), .slice A1 M c1, (.int .i64 rc), .slice A2 L c2]) w from ⟨_, _, _, _, rfl, hT, hG⟩)
  have HS := Lib.hid (show KT h lv n l (.agg #[(.int .i64 h), (.int .i64 lv), .slice A3 n c3]) w from ⟨_, _, rfl, hP⟩)
  have HSH : Hid (∀ W, KG lk ht rc M ts L gs (.agg #[(.int .i64 lk), (.int .i64 ht), .slice A1 M c1, (.int .i64 rc), .slice A2 L c2]) W → Calls Tryz.prog 5 #[.agg #[(.int .i64 lk), (.int .i64 ht), .slice A1 M c1, (.int .i64 rc), .slice A2 L c2]] W (KP (KV (.bool true)) W)) := Lib.hid (fun W q => by have := Short_K q; rwa [decide_eq_true b0] at this)
  have HSS : Hid (∀ W, KT h lv n l (.agg #[(.int .i64 h), (.int .i64 lv), .slice A3 n c3]) W → Calls Tryz.prog 15 #[.agg #[(.int .i64 h), (.int .i64 lv), .slice A3 n c3]] W (KP (KV (.bool true)) W)) := Lib.hid (fun W q => by have := ShortState_K q; rwa [decide_eq_true b1] at this)
  have hd3 : decide ((300 : Int) < (s.size : Int)) = false := decide_eq_false (by omega)
  obtain ⟨b3, b4⟩ := b0
  have hLim := hTab.tab.lim
  have hPT : ∀ W : World, RTab W → Calls Tryz.prog 9 #[.string s] W (KP (K2 (KG (parF s.data.toList).lk (parF s.data.toList).ht (parF s.data.toList).rc (parF s.data.toList).ts.length (parF s.data.toList).ts (parF s.data.toList).gs.length (parF s.data.toList).gs) (KV (.int .i64 ((parF s.data.toList).err)))) W) := fun W q => parse_P s W q
  obtain ⟨PQ, hPQ⟩ : ∃ PQ, PQ = parF s.data.toList := ⟨_, rfl⟩
  rw [← hPQ] at hPT c0
  have hpp := parF_print (l := s.data.toList) (by rw [← hPQ]; exact c0)
  rw [← hPQ] at hpp
  rw [c0] at hPT
  obtain ⟨pl, ph, pr, pt, pg, pe⟩ := PQ
  obtain ⟨PM, hPM⟩ : ∃ PM, PM = pt.length := ⟨_, rfl⟩
  obtain ⟨PL, hPL⟩ : ∃ PL, PL = pg.length := ⟨_, rfl⟩
  have HPT : Hid (∀ W : World, RTab W → Calls Tryz.prog 9 #[.string s] W (KP (K2 (KG pl ph pr PM pt PL pg) (KV (.int .i64 0))) W)) := Lib.hid (fun W q => by rw [hPM, hPL]; exact hPT W q)
  have hpV : Valid pl ph pr pt pg := guard_valid hpp.1
  have HPR : Hid (∀ {a : Value} (W : World), RTab W → KG pl ph pr PM pt PL pg a W → Calls Tryz.prog 7 #[a] W (KP (K2 (KV (.string s)) (KV (.int .i64 0))) W)) := Lib.hid (fun W q0 q => by
    have e1 := hpV.tl
    have e2 := hpV.gl
    have := cPrint hPM hPL (by omega) (by omega) q0.tab q
    rw [textR_ok hpp.1, show textG pl ph pr pt pg = s.data.toList from hpp.2, show guardErr pl ph pr pt pg = 0 from hpp.1] at this
    exact this)
  obtain ⟨ST, hST⟩ : ∃ ST, ST = stErr lk ht rc ts gs h lv l := ⟨_, rfl⟩
  rw [← hST] at d0
  have HCS : Hid (∀ {a y : Value} (W : World), KG lk ht rc M ts L gs a W → KT h lv n l y W → Calls Tryz.prog 16 #[a, y] W (KP (KV (.int .i64 0)) W)) := Lib.hid (fun W q q2 => by rw [← d0, hST]; exact rCheckState_K hM hL hn (by omega) (by omega) (by omega) q q2)
  have hd8 : decide ((268435456 : Int) < h) = true := decide_eq_true d1
  have HTab := Lib.hid hTab
  clear hTab hM hL hn hT hG hP b1 b3 b4 hLim c0 hPT b2 hPQ hpp hPM hPL hpV hST d0 d1
  go_enter Tryz.func4, Tryz.ntmps4
  have HB0 := Lib.hid (Below.refl w.heap.size w)
  go_wp2_with (go_at_call 5; refine name_calls ?_; intro w1 e1; refine Hid.out ?_)
  unfold Hid
  have h1 : Below w.heap.size w w1 := by rw [e1]; exact bel
  have HB1 := Lib.hid (HB0.out.trans (h1.mono HB0.out.size))
  have bg_1 := Lib.hid (show Blk w1 w.heap.size #[(.int .i64 lk), (.int .i64 ht), .slice A1 M c1, (.int .i64 rc), .slice A2 L c2] from by rw [e1]; (repeat (first | ((with_reducible refine Blk.at_ ?_); focus (first | rfl | (simp; done) | (simp; omega))) | (with_reducible refine Blk.alloc ?_ _) | (with_reducible refine Blk.below ?_ (by with_reducible assumption)) | (with_reducible refine Blk.drew ?_))))
  have bs_1 := Lib.hid (show Blk w1 (w.heap.size + 1) #[(.int .i64 h), (.int .i64 lv), .slice A3 n c3] from by rw [e1]; (repeat (first | ((with_reducible refine Blk.at_ ?_); focus (first | rfl | (simp; done) | (simp; omega))) | (with_reducible refine Blk.alloc ?_ _) | (with_reducible refine Blk.below ?_ (by with_reducible assumption)) | (with_reducible refine Blk.drew ?_))))
  clear e1 h1
  refine (HSH.out _ (KG.st _ _ _ _ _ _ _ _ _ _ HU.out HB1.out)).mono ?_
  rintro r w2 ⟨v2, rfl, k2, h2⟩
  have bg_2 := Lib.hid (bg_1.out.below h2)
  have bs_2 := Lib.hid (bs_1.out.below h2)
  have HB2 := Lib.hid (HB1.out.trans (h2.mono HB1.out.size))
  obtain rfl := k2
  clear h2
  obtain ⟨fbs_0, fbs_1, fbs_2, fbs_l, -⟩ := bs_2.out.o3
  go_wp2_with (go_at_call 15; refine name_calls ?_; intro w3 e3; refine Hid.out ?_)
  unfold Hid
  have h3 : Below w2.heap.size w2 w3 := by rw [e3]; exact bel
  have bg_3 := Lib.hid (bg_2.out.below h3)
  have bs_3 := Lib.hid (bs_2.out.below h3)
  have HB3 := Lib.hid (HB2.out.trans (h3.mono HB2.out.size))
  clear e3 h3
  refine (HSS.out _ (KT.st _ _ _ _ _ _ _ HS.out HB3.out)).mono ?_
  rintro r w4 ⟨v4, rfl, k4, h4⟩
  have bg_4 := Lib.hid (bg_3.out.below h4)
  have bs_4 := Lib.hid (bs_3.out.below h4)
  have HB4 := Lib.hid (HB3.out.trans (h4.mono HB3.out.size))
  obtain rfl := k4
  clear h4
  clear fbs_0 fbs_1 fbs_2 fbs_l
  have ug_rw4 := Lib.hid (KG.st _ _ _ _ _ _ _ _ _ _ HU.out HB4.out)
  have us_rw4 := Lib.hid (KT.st _ _ _ _ _ _ _ HS.out HB4.out)
  have HTabw4 := Lib.hid (HTab.out.below HB4.out)
  have HZw4 := Lib.hid (Below.refl w4.heap.size w4)
  clear HU HS HTab
  go_wp2_with (go_at_call 9; refine name_calls ?_; intro w5 e5; refine Hid.out ?_)
  unfold Hid
  have h5 : Below w4.heap.size w4 w5 := by rw [e5]; exact bel
  have HB5 := Lib.hid (HZw4.out.trans (h5.mono HZw4.out.size))
  clear e5 h5
  refine (HPT.out _ (HTabw4.out.below HB5.out)).mono ?_
  rintro r w6 ⟨v6, rfl, k6, h6⟩
  have HB6 := Lib.hid (HB5.out.trans (h6.mono HB5.out.size))
  obtain ⟨_, _, rfl, ⟨PA, Pa, PB, Pb, rfl, hpa, hpb⟩, rfl⟩ := k6
  have px_6 := Lib.hid (show KG pl ph pr PM pt PL pg (.agg #[(.int .i64 pl), (.int .i64 ph), .slice PA PM Pa, (.int .i64 pr), .slice PB PL Pb]) w6 from ⟨_, _, _, _, rfl, hpa, hpb⟩)
  clear hpa hpb h6
  go_wp2_with (go_at_call 7; refine name_calls ?_; intro w7 e7; refine Hid.out ?_)
  unfold Hid
  have h7 : Below w6.heap.size w6 w7 := by rw [e7]; exact bel
  have px_7 := Lib.hid (KG.st _ _ _ _ _ _ _ _ _ _ px_6.out h7)
  have HB7 := Lib.hid (HB6.out.trans (h7.mono HB6.out.size))
  have bp_7 := Lib.hid (show Blk w7 w6.heap.size #[(.int .i64 pl), (.int .i64 ph), .slice PA PM Pa, (.int .i64 pr), .slice PB PL Pb] from by rw [e7]; exact Calm.Blk.new _ _ _)
  clear e7 h7
  refine (HPR.out _ (HTabw4.out.below HB7.out) px_7.out).mono ?_
  rintro r w8 ⟨v8, rfl, k8, h8⟩
  have px_8 := Lib.hid (KG.st _ _ _ _ _ _ _ _ _ _ px_7.out h8)
  have bp_8 := Lib.hid (bp_7.out.below h8)
  have HB8 := Lib.hid (HB7.out.trans (h8.mono HB7.out.size))
  obtain ⟨_, _, rfl, rfl, rfl⟩ := k8
  clear h8
  obtain ⟨fbg_0, fbg_1, fbg_2, fbg_3, fbg_4, fbg_l, -⟩ := (bg_4.out.below HB8.out).o5
  obtain ⟨fbs_0, fbs_1, fbs_2, fbs_l, -⟩ := (bs_4.out.below HB8.out).o3
  go_wp2_with (go_at_call 16; refine name_calls ?_; intro w9 e9; refine Hid.out ?_)
  unfold Hid
  have h9 : Below w8.heap.size w8 w9 := by rw [e9]; exact bel
  have HB9 := Lib.hid (HB8.out.trans (h9.mono HB8.out.size))
  clear e9 h9
  refine (HCS.out _ (KG.st _ _ _ _ _ _ _ _ _ _ ug_rw4.out HB9.out) (KT.st _ _ _ _ _ _ _ us_rw4.out HB9.out)).mono ?_
  rintro r w10 ⟨v10, rfl, k10, h10⟩
  have HB10 := Lib.hid (HB9.out.trans (h10.mono HB9.out.size))
  obtain rfl := k10
  clear h10
  clear fbg_0 fbg_1 fbg_2 fbg_3 fbg_4 fbg_l
  clear fbs_0 fbs_1 fbs_2 fbs_l
  obtain ⟨fbs_0, fbs_1, fbs_2, fbs_l, -⟩ := (bs_4.out.below HB10.out).o3
  go_wp2_with (go_at_call 6; refine name_calls ?_; intro w11 e11; refine Hid.out ?_)
  unfold Hid
  have h11 : Below w10.heap.size w10 w11 := by rw [e11]; exact bel
  have HB11 := Lib.hid (HB10.out.trans (h11.mono HB10.out.size))
  clear e11 h11
  refine (awake_any _ (HTabw4.out.below HB11.out).tab).mono ?_
  rintro r w12 ⟨rfl, h12⟩
  have HB12 := Lib.hid (HB11.out.trans (h12.mono HB11.out.size))
  clear h12
  clear fbs_0 fbs_1 fbs_2 fbs_l
  go_wp2
  go_ret
  exact ⟨by first | rfl | (simp; done), HB4.out.trans (HB12.out.mono HB4.out.size)⟩
end Go.Proofs.YtdeapbihbhoefaaGreatDoor

/- What a round of ProtectReads' loop needs. -/
namespace Go.Proofs.YtdeapbihbhoefaaGreatDoor
open Go.RowKit
open Calm (bcell Blk)
theorem round_R {lk ht rc h lv : Int} {M L n : Nat} {ts gs l : List Int} (hM : M = ts.length) (hL : L = gs.length) (hn : n = l.length) (hM8 : M ≤ 9) (hL8 : L ≤ 9) (hn8 : n ≤ 9) (hS : StV lk ht rc ts gs h lv l) {TL : List Int} (hTL : TL = tailsF ts l) (k : Nat) (hk : k < n) (z : Int) (p : List Int) (hz : z = coolK lk h k) (hp : p = psK l k) :
    ∃ (z2 : Int) (p2 : List Int) (xx : Int) (SB : Bool), z2 = coolK lk h (k + 1) ∧ p2 = psK l (k + 1) ∧ xx = TL.getD k 0 ∧ z2 ≤ z ∧
      Hid (∀ (a y : Value) (W : World), Lim W → KG lk ht rc M ts L gs a W → KT z lv n p y W → Calls Tryz.prog 18 #[a, y, (.int .i64 0)] W (KP (K3 (KTI z2 lv n p2) (KV (.int .i64 xx)) (KV (.int .i64 0))) W)) ∧
      Hid (∀ (a y : Value) (W : World), KG lk ht rc M ts L gs a W → KT z2 lv n p2 y W → Calls Tryz.prog 16 #[a, y] W (KP (KV (.int .i64 0)) W)) ∧
      Hid (∀ (x : Value) (W : World), KT z2 lv n p2 x W → Calls Tryz.prog 17 #[x] W (KP (KTI z2 lv n p2) W)) ∧
      Hid (∀ (a y : Value) (W : World), Lim W → KG lk ht rc M ts L gs a W → KT z2 lv n p2 y W → Calls Tryz.prog 19 #[a, y] W (KP (K2 (KV (.bool SB)) (KV (.int .i64 0))) W)) ∧
      (fineF ht rc h 0 ts l = true → SB = true) := by
  have s1 := still_st hS k
  have s2 := still_st hS (k + 1)
  rw [← hz, ← hp] at s1
  have hb := coolF_bd lk s1.h.1
  have hh := s1.h
  have e0 : coolF lk z + 0 * 0 = coolK lk h (k + 1) := by rw [hz]; simp [coolK]
  have e1 : pushL p 0 = psK l (k + 1) := by rw [hp]; rfl
  have hnp : n = p.length := by rw [hp, psK_len]; exact hn
  have hn2 : n = (psK l (k + 1)).length := by rw [psK_len]; exact hn
  have hbo : bothErr lk ht rc ts gs z lv p 0 = 0 := by unfold bothErr; rw [stErr_ok s1, rangeErr_in (by omega) (by omega)]; rfl
  refine ⟨coolK lk h (k + 1), psK l (k + 1), exF ts p 0, fineF ht rc (coolK lk h (k + 1)) 0 ts (psK l (k + 1)), rfl, rfl, ?_, ?_, ?_, ?_, ?_, ?_, ?_⟩
  · rw [hTL, hp]
    exact (exF_psK ts l k (by omega)).symm
  · rw [← e0]; omega
  · refine Lib.hid ?_
    intro a y W q0 q q2
    rw [← e0, ← e1]
    exact xBehind_ok hM hL hnp (by omega) (by omega) (by omega) q0 q q2 hbo (by omega)
  · refine Lib.hid ?_
    intro a y W q q2
    have := rCheckState_K hM hL hn2 (by omega) (by omega) (by omega) q q2
    rwa [stErr_ok s2] at this
  · refine Lib.hid ?_
    intro x W q
    exact state_K hn2 (by omega) q
  · refine Lib.hid ?_
    intro a y W q0 q q2
    exact xSafe_ok hM hL hn2 (by omega) (by omega) (by omega) q0 q q2 (stErr_ok s2)
  · intro hf
    exact still_safe hS hf (k + 1)
end Go.Proofs.YtdeapbihbhoefaaGreatDoor
