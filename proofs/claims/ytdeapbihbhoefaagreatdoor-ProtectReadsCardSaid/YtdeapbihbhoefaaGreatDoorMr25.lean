/- Part 25 of the texts of the claim: LRd_qe, LRd_qb. -/
import Derived.Test.YtdeapbihbhoefaaGreatDoorMr21

/- ProtectReads, case qe. -/
namespace Go.Proofs.YtdeapbihbhoefaaGreatDoor
open Go.RowKit
open Calm (bcell Blk)
set_option maxRecDepth 100000 in
set_option maxHeartbeats 8000000 in
theorem reads_qe (lk ht rc h lv : Int) (M L n : Nat) (ts gs l : List Int) (s : ByteArray) (u v : Value) (w : World) (hTab : RTab w) (hM : M = ts.length) (hL : L = gs.length) (hn : n = l.length) (b0 : M ≤ 9 ∧ L ≤ 9) (b1 : n ≤ 9) (b2 : s.size ≤ 300) (c0 : ¬ (parF s.data.toList).err = 0) (d0 : ¬ stErr lk ht rc ts gs h lv l = 0) (hu : KG lk ht rc M ts L gs u w) (hv : KT h lv n l v w) :
    Calls Tryz.prog 4 #[u, v, .string s] w fun r w' => r = .returned (.bool true) ∧ Below w.heap.size w w' := by
  obtain ⟨A1, c1, A2, c2, rfl, hT, hG⟩ := hu
  obtain ⟨A3, c3, rfl, hP⟩ := hv
  have HU := Lib.hid (show KG lk ht rc M ts L gs (.agg #[(.int .i64 lk), (.int .i64 ht), .slice A1 M c1, (.int .i64 rc), .slice A2 L c2]) w from ⟨_, _, _, _, rfl, hT, hG⟩)
  have HS := Lib.hid (show KT h lv n l (.agg #[(.int .i64 h), (.int .i64 lv), .slice A3 n c3]) w from ⟨_, _, rfl, hP⟩)
  have HSH : Hid (∀ W, KG lk ht rc M ts L gs (.agg #[(.int .i64 lk), (.int .i64 ht), .slice A1 M c1, (.int .i64 rc), .slice A2 L c2]) W → Calls Tryz.prog 5 #[.agg #[(.int .i64 lk), (.int .i64 ht), .slice A1 M c1, (.int .i64 rc), .slice A2 L c2]] W (KP (KV (.bool true)) W)) := Lib.hid (fun W q => by have := Short_K q; rwa [decide_eq_true b0] at this)
  have HSS : Hid (∀ W, KT h lv n l (.agg #[(.int .i64 h), (.int .i64 lv), .slice A3 n c3]) W → Calls Tryz.prog 15 #[.agg #[(.int .i64 h), (.int .i64 lv), .slice A3 n c3]] W (KP (KV (.bool true)) W)) := Lib.hid (fun W q => by have := ShortState_K q; rwa [decide_eq_true b1] at this)
  have hd3 : decide ((300 : Int) < (s.size : Int)) = false := decide_eq_false (by omega)
  obtain ⟨b3, b4⟩ := b0
  have hLim := hTab.tab.lim
  have hPT : ∀ W : World, RTab W → Calls Tryz.prog 9 #[.string s] W (KP (K2 (KG (parF s.data.toList).lk (parF s.data.toList).ht (parF s.data.toList).rc (parF s.data.toList).ts.length (parF s.data.toList).ts (parF s.data.toList).gs.length (parF s.data.toList).gs) (KV (.int .i64 ((parF s.data.toList).err)))) W) := fun W q => parse_P s W q
  obtain ⟨PQ, hPQ⟩ : ∃ PQ, PQ = parF s.data.toList := ⟨_, rfl⟩
  rw [← hPQ] at hPT c0
  obtain ⟨pl, ph, pr, pt, pg, PE⟩ := PQ
  obtain ⟨PM, hPM⟩ : ∃ PM, PM = pt.length := ⟨_, rfl⟩
  obtain ⟨PL, hPL⟩ : ∃ PL, PL = pg.length := ⟨_, rfl⟩
  have HPT : Hid (∀ W : World, RTab W → Calls Tryz.prog 9 #[.string s] W (KP (K2 (KG pl ph pr PM pt PL pg) (KV (.int .i64 PE))) W)) := Lib.hid (fun W q => by rw [hPM, hPL]; exact hPT W q)
  have hPE : (PE == 0) = false := by simpa using c0
  obtain ⟨ST, hST⟩ : ∃ ST, ST = stErr lk ht rc ts gs h lv l := ⟨_, rfl⟩
  rw [← hST] at d0
  have hST0 : (ST != 0) = true := by simp [d0]
  have HCS : Hid (∀ {a y : Value} (W : World), KG lk ht rc M ts L gs a W → KT h lv n l y W → Calls Tryz.prog 16 #[a, y] W (KP (KV (.int .i64 ST)) W)) := Lib.hid (fun W q q2 => by rw [hST]; exact rCheckState_K hM hL hn (by omega) (by omega) (by omega) q q2)
  have HTab := Lib.hid hTab
  clear hTab hM hL hn hT hG hP b1 b3 b4 hLim c0 hPT b2 hPQ hPM hPL hST d0
  go_enter Tryz.func4, Tryz.ntmps4
  have HB0 := Lib.hid (Below.refl w.heap.size w)
  go_wp2_with (go_at_call 5; refine name_calls ?_; intro w1 e1; refine Hid.out ?_)
  unfold Hid
  have h1 : Below w.heap.size w w1 := by rw [e1]; exact bel
  have HB1 := Lib.hid (HB0.out.trans (h1.mono HB0.out.size))
  have bg_1 := Lib.hid (show Blk w1 w.heap.size #[(.int .i64 lk), (.int .i64 ht), .slice A1 M c1, (.int .i64 rc), .slice A2 L c2] from by rw [e1]; (repeat (first | ((with_reducible refine Blk.at_ ?_); focus (first | rfl | (simp; done) | (simp; omega))) | (with_reducible refine Blk.alloc ?_ _) | (with_reducible refine Blk.below ?_ (by with_reducible assumption)) | (with_reducible refine Blk.drew ?_))))
  have bs_1 := Lib.hid (show Blk w1 (w.heap.size + 1) #[(.int .i64 h), (.int .i64 lv), .slice A3 n c3] from by rw [e1]; (repeat (first | ((with_reducible refine Blk.at_ ?_); focus (first | rfl | (simp; done) | (simp; omega))) | (with_reducible refine Blk.alloc ?_ _) | (with_reducible refine Blk.below ?_ (by with_reducible assumption)) | (with_reducible refine Blk.drew ?_))))
  clear e1 h1
  refine (HSH.out _ (KG.st _ _ _ _ _ _ _ _ _ _ HU.out HB1.out)).mono ?_
  rintro r w2 ⟨v2, rfl, k2, h2⟩
  have bg_2 := Lib.hid (bg_1.out.below h2)
  have bs_2 := Lib.hid (bs_1.out.below h2)
  have HB2 := Lib.hid (HB1.out.trans (h2.mono HB1.out.size))
  obtain rfl := k2
  clear h2
  obtain ⟨fbs_0, fbs_1, fbs_2, fbs_l, -⟩ := bs_2.out.o3
  go_wp2_with (go_at_call 15; refine name_calls ?_; intro w3 e3; refine Hid.out ?_)
  unfold Hid
  have h3 : Below w2.heap.size w2 w3 := by rw [e3]; exact bel
  have bg_3 := Lib.hid (bg_2.out.below h3)
  have bs_3 := Lib.hid (bs_2.out.below h3)
  have HB3 := Lib.hid (HB2.out.trans (h3.mono HB2.out.size))
  clear e3 h3
  refine (HSS.out _ (KT.st _ _ _ _ _ _ _ HS.out HB3.out)).mono ?_
  rintro r w4 ⟨v4, rfl, k4, h4⟩
  have bg_4 := Lib.hid (bg_3.out.below h4)
  have bs_4 := Lib.hid (bs_3.out.below h4)
  have HB4 := Lib.hid (HB3.out.trans (h4.mono HB3.out.size))
  obtain rfl := k4
  clear h4
  clear fbs_0 fbs_1 fbs_2 fbs_l
  have ug_rw4 := Lib.hid (KG.st _ _ _ _ _ _ _ _ _ _ HU.out HB4.out)
  have us_rw4 := Lib.hid (KT.st _ _ _ _ _ _ _ HS.out HB4.out)
  have HTabw4 := Lib.hid (HTab.out.below HB4.out)
  have HZw4 := Lib.hid (Below.refl w4.heap.size w4)
  clear HU HS HTab
  go_wp2_with (go_at_call 9; refine name_calls ?_; intro w5 e5; refine Hid.out ?_)
  unfold Hid
  have h5 : Below w4.heap.size w4 w5 := by rw [e5]; exact bel
  have HB5 := Lib.hid (HZw4.out.trans (h5.mono HZw4.out.size))
  clear e5 h5
  refine (HPT.out _ (HTabw4.out.below HB5.out)).mono ?_
  rintro r w6 ⟨v6, rfl, k6, h6⟩
  have HB6 := Lib.hid (HB5.out.trans (h6.mono HB5.out.size))
  obtain ⟨_, _, rfl, ⟨PA, Pa, PB, Pb, rfl, hpa, hpb⟩, rfl⟩ := k6
  have px_6 := Lib.hid (show KG pl ph pr PM pt PL pg (.agg #[(.int .i64 pl), (.int .i64 ph), .slice PA PM Pa, (.int .i64 pr), .slice PB PL Pb]) w6 from ⟨_, _, _, _, rfl, hpa, hpb⟩)
  clear hpa hpb h6
  obtain ⟨fbg_0, fbg_1, fbg_2, fbg_3, fbg_4, fbg_l, -⟩ := (bg_4.out.below HB6.out).o5
  obtain ⟨fbs_0, fbs_1, fbs_2, fbs_l, -⟩ := (bs_4.out.below HB6.out).o3
  go_wp2_with (go_at_call 16; refine name_calls ?_; intro w7 e7; refine Hid.out ?_)
  unfold Hid
  have h7 : Below w6.heap.size w6 w7 := by rw [e7]; exact bel
  have HB7 := Lib.hid (HB6.out.trans (h7.mono HB6.out.size))
  clear e7 h7
  refine (HCS.out _ (KG.st _ _ _ _ _ _ _ _ _ _ ug_rw4.out HB7.out) (KT.st _ _ _ _ _ _ _ us_rw4.out HB7.out)).mono ?_
  rintro r w8 ⟨v8, rfl, k8, h8⟩
  have HB8 := Lib.hid (HB7.out.trans (h8.mono HB7.out.size))
  obtain rfl := k8
  clear h8
  clear fbg_0 fbg_1 fbg_2 fbg_3 fbg_4 fbg_l
  clear fbs_0 fbs_1 fbs_2 fbs_l
  obtain ⟨fbs_0, fbs_1, fbs_2, fbs_l, -⟩ := (bs_4.out.below HB8.out).o3
  go_wp2_with (go_at_call 6; refine name_calls ?_; intro w9 e9; refine Hid.out ?_)
  unfold Hid
  have h9 : Below w8.heap.size w8 w9 := by rw [e9]; exact bel
  have HB9 := Lib.hid (HB8.out.trans (h9.mono HB8.out.size))
  clear e9 h9
  refine (awake_any _ (HTabw4.out.below HB9.out).tab).mono ?_
  rintro r w10 ⟨rfl, h10⟩
  have HB10 := Lib.hid (HB9.out.trans (h10.mono HB9.out.size))
  clear h10
  clear fbs_0 fbs_1 fbs_2 fbs_l
  go_wp2
  go_ret
  exact ⟨by first | rfl | (simp; done), HB4.out.trans (HB10.out.mono HB4.out.size)⟩
end Go.Proofs.YtdeapbihbhoefaaGreatDoor

/- ProtectReads, case qb. -/
namespace Go.Proofs.YtdeapbihbhoefaaGreatDoor
open Go.RowKit
open Calm (bcell Blk)
set_option maxRecDepth 100000 in
set_option maxHeartbeats 8000000 in
theorem reads_qb (lk ht rc h lv : Int) (M L n : Nat) (ts gs l : List Int) (s : ByteArray) (u v : Value) (w : World) (hTab : RTab w) (hM : M = ts.length) (hL : L = gs.length) (hn : n = l.length) (b0 : M ≤ 9 ∧ L ≤ 9) (b1 : n ≤ 9) (b2 : s.size ≤ 300) (c0 : ¬ (parF s.data.toList).err = 0) (d0 : stErr lk ht rc ts gs h lv l = 0) (d1 : 268435456 < h) (hu : KG lk ht rc M ts L gs u w) (hv : KT h lv n l v w) :
    Calls Tryz.prog 4 #[u, v, .string s] w fun r w' => r = .returned (.bool true) ∧ Below w.heap.size w w' := by
  obtain ⟨A1, c1, A2, c2, rfl, hT, hG⟩ := hu
  obtain ⟨A3, c3, rfl, hP⟩ := hv
  have HU := Lib.hid (show KG lk ht rc M ts L gs (.agg #[(.int .i64 lk), (.int .i64 ht), .slice A1 M c1, (.int .i64 rc), .slice A2 L c2]) w from ⟨_, _, _, _, rfl, hT, hG⟩)
  have HS := Lib.hid (show KT h lv n l (.agg #[(.int .i64 h), (.int .i64 lv), .slice A3 n c3]) w from ⟨_, _, rfl, hP⟩)
  have HSH : Hid (∀ W, KG lk ht rc M ts L gs (.agg #[(.int .i64 lk), (.int .i64 ht), .slice A1 M c1, (.int .i64 rc), .slice A2 L c2]) W → Calls Tryz.prog 5 #[.agg #[(.int .i64 lk), (.int .i64 ht), .slice A1 M c1, (.int .i64 rc), .slice A2 L c2]] W (KP (KV (.bool true)) W)) := Lib.hid (fun W q => by have := Short_K q; rwa [decide_eq_true b0] at this)
  have HSS : Hid (∀ W, KT h lv n l (.agg #[(.int .i64 h), (.int .i64 lv), .slice A3 n c3]) W → Calls Tryz.prog 15 #[.agg #[(.int .i64 h), (.int .i64 lv), .slice A3 n c3]] W (KP (KV (.bool true)) W)) := Lib.hid (fun W q => by have := ShortState_K q; rwa [decide_eq_true b1] at this)
  have hd3 : decide ((300 : Int) < (s.size : Int)) = false := decide_eq_false (by omega)
  obtain ⟨b3, b4⟩ := b0
  have hLim := hTab.tab.lim
  have hPT : ∀ W : World, RTab W → Calls Tryz.prog 9 #[.string s] W (KP (K2 (KG (parF s.data.toList).lk (parF s.data.toList).ht (parF s.data.toList).rc (parF s.data.toList).ts.length (parF s.data.toList).ts (parF s.data.toList).gs.length (parF s.data.toList).gs) (KV (.int .i64 ((parF s.data.toList).err)))) W) := fun W q => parse_P s W q
  obtain ⟨PQ, hPQ⟩ : ∃ PQ, PQ = parF s.data.toList := ⟨_, rfl⟩
  rw [← hPQ] at hPT c0
  obtain ⟨pl, ph, pr, pt, pg, PE⟩ := PQ
  obtain ⟨PM, hPM⟩ : ∃ PM, PM = pt.length := ⟨_, rfl⟩
  obtain ⟨PL, hPL⟩ : ∃ PL, PL = pg.length := ⟨_, rfl⟩
  have HPT : Hid (∀ W : World, RTab W → Calls Tryz.prog 9 #[.string s] W (KP (K2 (KG pl ph pr PM pt PL pg) (KV (.int .i64 PE))) W)) := Lib.hid (fun W q => by rw [hPM, hPL]; exact hPT W q)
  have hPE : (PE == 0) = false := by simpa using c0
  obtain ⟨ST, hST⟩ : ∃ ST, ST = stErr lk ht rc ts gs h lv l := ⟨_, rfl⟩
  rw [← hST] at d0
  have HCS : Hid (∀ {a y : Value} (W : World), KG lk ht rc M ts L gs a W → KT h lv n l y W → Calls Tryz.prog 16 #[a, y] W (KP (KV (.int .i64 0)) W)) := Lib.hid (fun W q q2 => by rw [← d0, hST]; exact rCheckState_K hM hL hn (by omega) (by omega) (by omega) q q2)
  have hd8 : decide ((268435456 : Int) < h) = true := decide_eq_true d1
  have HTab := Lib.hid hTab
  clear hTab hM hL hn hT hG hP b1 b3 b4 hLim c0 hPT b2 hPQ hPM hPL hST d0 d1
  go_enter Tryz.func4, Tryz.ntmps4
  have HB0 := Lib.hid (Below.refl w.heap.size w)
  go_wp2_with (go_at_call 5; refine name_calls ?_; intro w1 e1; refine Hid.out ?_)
  unfold Hid
  have h1 : Below w.heap.size w w1 := by rw [e1]; exact bel
  have HB1 := Lib.hid (HB0.out.trans (h1.mono HB0.out.size))
  have bg_1 := Lib.hid (show Blk w1 w.heap.size #[(.int .i64 lk), (.int .i64 ht), .slice A1 M c1, (.int .i64 rc), .slice A2 L c2] from by rw [e1]; (repeat (first | ((with_reducible refine Blk.at_ ?_); focus (first | rfl | (simp; done) | (simp; omega))) | (with_reducible refine Blk.alloc ?_ _) | (with_reducible refine Blk.below ?_ (by with_reducible assumption)) | (with_reducible refine Blk.drew ?_))))
  have bs_1 := Lib.hid (show Blk w1 (w.heap.size + 1) #[(.int .i64 h), (.int .i64 lv), .slice A3 n c3] from by rw [e1]; (repeat (first | ((with_reducible refine Blk.at_ ?_); focus (first | rfl | (simp; done) | (simp; omega))) | (with_reducible refine Blk.alloc ?_ _) | (with_reducible refine Blk.below ?_ (by with_reducible assumption)) | (with_reducible refine Blk.drew ?_))))
  clear e1 h1
  refine (HSH.out _ (KG.st _ _ _ _ _ _ _ _ _ _ HU.out HB1.out)).mono ?_
  rintro r w2 ⟨v2, rfl, k2, h2⟩
  have bg_2 := Lib.hid (bg_1.out.below h2)
  have bs_2 := Lib.hid (bs_1.out.below h2)
  have HB2 := Lib.hid (HB1.out.trans (h2.mono HB1.out.size))
  obtain rfl := k2
  clear h2
  obtain ⟨fbs_0, fbs_1, fbs_2, fbs_l, -⟩ := bs_2.out.o3
  go_wp2_with (go_at_call 15; refine name_calls ?_; intro w3 e3; refine Hid.out ?_)
  unfold Hid
  have h3 : Below w2.heap.size w2 w3 := by rw [e3]; exact bel
  have bg_3 := Lib.hid (bg_2.out.below h3)
  have bs_3 := Lib.hid (bs_2.out.below h3)
  have HB3 := Lib.hid (HB2.out.trans (h3.mono HB2.out.size))
  clear e3 h3
  refine (HSS.out _ (KT.st _ _ _ _ _ _ _ HS.out HB3.out)).mono ?_
  rintro r w4 ⟨v4, rfl, k4, h4⟩
  have bg_4 := Lib.hid (bg_3.out.below h4)
  have bs_4 := Lib.hid (bs_3.out.below h4)
  have HB4 := Lib.hid (HB3.out.trans (h4.mono HB3.out.size))
  obtain rfl := k4
  clear h4
  clear fbs_0 fbs_1 fbs_2 fbs_l
  have ug_rw4 := Lib.hid (KG.st _ _ _ _ _ _ _ _ _ _ HU.out HB4.out)
  have us_rw4 := Lib.hid (KT.st _ _ _ _ _ _ _ HS.out HB4.out)
  have HTabw4 := Lib.hid (HTab.out.below HB4.out)
  have HZw4 := Lib.hid (Below.refl w4.heap.size w4)
  clear HU HS HTab
  go_wp2_with (go_at_call 9; refine name_calls ?_; intro w5 e5; refine Hid.out ?_)
  unfold Hid
  have h5 : Below w4.heap.size w4 w5 := by rw [e5]; exact bel
  have HB5 := Lib.hid (HZw4.out.trans (h5.mono HZw4.out.size))
  clear e5 h5
  refine (HPT.out _ (HTabw4.out.below HB5.out)).mono ?_
  rintro r w6 ⟨v6, rfl, k6, h6⟩
  have HB6 := Lib.hid (HB5.out.trans (h6.mono HB5.out.size))
  obtain ⟨_, _, rfl, ⟨PA, Pa, PB, Pb, rfl, hpa, hpb⟩, rfl⟩ := k6
  have px_6 := Lib.hid (show KG pl ph pr PM pt PL pg (.agg #[(.int .i64 pl), (.int .i64 ph), .slice PA PM Pa, (.int .i64 pr), .slice PB PL Pb]) w6 from ⟨_, _, _, _, rfl, hpa, hpb⟩)
  clear hpa hpb h6
  obtain ⟨fbg_0, fbg_1, fbg_2, fbg_3, fbg_4, fbg_l, -⟩ := (bg_4.out.below HB6.out).o5
  obtain ⟨fbs_0, fbs_1, fbs_2, fbs_l, -⟩ := (bs_4.out.below HB6.out).o3
  go_wp2_with (go_at_call 16; refine name_calls ?_; intro w7 e7; refine Hid.out ?_)
  unfold Hid
  have h7 : Below w6.heap.size w6 w7 := by rw [e7]; exact bel
  have HB7 := Lib.hid (HB6.out.trans (h7.mono HB6.out.size))
  clear e7 h7
  refine (HCS.out _ (KG.st _ _ _ _ _ _ _ _ _ _ ug_rw4.out HB7.out) (KT.st _ _ _ _ _ _ _ us_rw4.out HB7.out)).mono ?_
  rintro r w8 ⟨v8, rfl, k8, h8⟩
  have HB8 := Lib.hid (HB7.out.trans (h8.mono HB7.out.size))
  obtain rfl := k8
  clear h8
  clear fbg_0 fbg_1 fbg_2 fbg_3 fbg_4 fbg_l
  clear fbs_0 fbs_1 fbs_2 fbs_l
  obtain ⟨fbs_0, fbs_1, fbs_2, fbs_l, -⟩ := (bs_4.out.below HB8.out).o3
  go_wp2_with (go_at_call 6; refine name_calls ?_; intro w9 e9; refine Hid.out ?_)
  unfold Hid
  have h9 : Below w8.heap.size w8 w9 := by rw [e9]; exact bel
  have HB9 := Lib.hid (HB8.out.trans (h9.mono HB8.out.size))
  clear e9 h9
  refine (awake_any _ (HTabw4.out.below HB9.out).tab).mono ?_
  rintro r w10 ⟨rfl, h10⟩
  have HB10 := Lib.hid (HB9.out.trans (h10.mono HB9.out.size))
  clear h10
  clear fbs_0 fbs_1 fbs_2 fbs_l
  go_wp2
  go_ret
  exact ⟨by first | rfl | (simp; done), HB4.out.trans (HB10.out.mono HB4.out.size)⟩
end Go.Proofs.YtdeapbihbhoefaaGreatDoor
