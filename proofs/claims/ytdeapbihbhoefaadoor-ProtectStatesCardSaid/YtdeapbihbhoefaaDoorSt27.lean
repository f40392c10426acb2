/- Part 27 of the texts of the claim: LSt_Cul. -/
import Derived.Test.YtdeapbihbhoefaaDoorSt23

/- ProtectStates, case Cul. -/
namespace Go.Proofs.YtdeapbihbhoefaaDoor
open Go.RowKit
open Calm (bcell Blk)
set_option maxRecDepth 100000 in
set_option maxHeartbeats 8000000 in
theorem states_Cul (lk ht rc h lv x : Int) (M L n : Nat) (ts gs l : List Int) (u v : Value) (w : World) (hTab : PTab w) (hM : M = ts.length) (hL : L = gs.length) (hn : n = l.length) (b0 : M ≤ 9 ∧ L ≤ 9) (b1 : n ≤ 9) (d1 : bothErr lk ht rc ts gs h lv l x = 0) (d2 : fineF ht rc h 0 ts l = false) (d3 : 536870912 < coolF lk h + x * x) (hu : KG lk ht rc M ts L gs u w) (hv : KT h lv n l v w) :
    Calls Tryd.prog 4 #[u, v, (.int .i64 x)] w fun r w' => r = .returned (.bool true) ∧ Below w.heap.size w w' := by
  obtain ⟨A1, c1, A2, c2, rfl, hT, hG⟩ := hu
  obtain ⟨A3, c3, rfl, hP⟩ := hv
  have HU := Lib.hid (show KG lk ht rc M ts L gs (.agg #[(.int .i64 lk), (.int .i64 ht), .slice A1 M c1, (.int .i64 rc), .slice A2 L c2]) w from ⟨_, _, _, _, rfl, hT, hG⟩)
  have HS := Lib.hid (show KT h lv n l (.agg #[(.int .i64 h), (.int .i64 lv), .slice A3 n c3]) w from ⟨_, _, rfl, hP⟩)
  have HSH : Hid (∀ W, KG lk ht rc M ts L gs (.agg #[(.int .i64 lk), (.int .i64 ht), .slice A1 M c1, (.int .i64 rc), .slice A2 L c2]) W → Calls Tryd.prog 13 #[.agg #[(.int .i64 lk), (.int .i64 ht), .slice A1 M c1, (.int .i64 rc), .slice A2 L c2]] W (KP (KV (.bool true)) W)) := Lib.hid (fun W q => by have := Short_K q; rwa [decide_eq_true b0] at this)
  have HSS : Hid (∀ W, KT h lv n l (.agg #[(.int .i64 h), (.int .i64 lv), .slice A3 n c3]) W → Calls Tryd.prog 14 #[.agg #[(.int .i64 h), (.int .i64 lv), .slice A3 n c3]] W (KP (KV (.bool true)) W)) := Lib.hid (fun W q => by have := ShortState_K q; rwa [decide_eq_true b1] at this)
  obtain ⟨b3, b4⟩ := b0
  have hLim := hTab.lim
  have HGU : Hid (∀ {x : Value} (W : World), KG lk ht rc M ts L gs x W → Calls Tryd.prog 17 #[x] W (KP (KGI lk ht rc M ts L gs) W)) := Lib.hid (fun W q => guard_K hM hL (by omega) (by omega) q)
  have HSU : Hid (∀ {x : Value} (W : World), KT h lv n l x W → Calls Tryd.prog 22 #[x] W (KP (KTI h lv n l) W)) := Lib.hid (fun W q => state_K hn (by omega) q)
  obtain ⟨d0, hx⟩ := bothErr_zero d1
  have hVE0 := rangeErr_in hx.1 hx.2
  have hS := stErr_zero d0
  have hV := hS.v
  have hh := hS.h
  have hp := hS.pl
  have hM8 := hV.tl
  obtain ⟨TL, hTL⟩ : ∃ TL, TL = tailsF ts l := ⟨_, rfl⟩
  have hTLn : n = TL.length := by rw [hTL, hn]; exact (tailsL_len _ _ _).symm
  have HTL : Hid (∀ {a y : Value} (W : World), Lim W → KG lk ht rc M ts L gs a W → KT h lv n l y W → Calls Tryd.prog 26 #[a, y] W (KP (K2 (KS n TL) (KV (.int .i64 0))) W)) := Lib.hid (fun W q0 q q2 => by rw [hTL]; exact xTails_ok hM hL hn (by omega) (by omega) (by omega) q0 q q2 d0)
  have HSF : Hid (∀ {a y : Value} (W : World), Lim W → KG lk ht rc M ts L gs a W → KT h lv n l y W → Calls Tryd.prog 27 #[a, y] W (KP (K2 (KV (.bool false)) (KV (.int .i64 0))) W)) := Lib.hid (fun W q0 q q2 => by rw [← d2]; exact xSafe_ok hM hL hn (by omega) (by omega) (by omega) q0 q q2 d0)
  obtain ⟨BX, hBX⟩ : ∃ BX, BX = exF ts l x := ⟨_, rfl⟩
  obtain ⟨BH, hBH⟩ : ∃ BH, BH = coolF lk h + x * x := ⟨_, rfl⟩
  obtain ⟨BP, hBP⟩ : ∃ BP, BP = pushL l x := ⟨_, rfl⟩
  have hBPn : n = BP.length := by rw [hBP, hn]; exact (pushL_len _ _).symm
  rw [← hBH] at d3
  have HD3 := Lib.hid (show 536870912 < BH by omega)
  have HBH : Hid (∀ {a y : Value} (W : World), Lim W → KG lk ht rc M ts L gs a W → KT h lv n l y W → Calls Tryd.prog 28 #[a, y, (.int .i64 x)] W (KP (K3 (KTI 0 0 0 []) (KV (.int .i64 0)) (KV (.int .i64 4))) W)) := Lib.hid (fun W q0 q q2 => by exact xBehind_large hM hL hn (by omega) (by omega) (by omega) q0 q q2 d1 (by rw [← hBH]; exact d3))
  have HSP : Hid (∀ {a y : Value} (W : World), Lim W → KG lk ht rc M ts L gs a W → KT h lv n l y W → Calls Tryd.prog 29 #[a, y, (.int .i64 x)] W (KP (K3 (KV (.int .i64 0)) (KTI 0 0 0 []) (KV (.int .i64 20))) W)) := Lib.hid (fun W q0 q q2 => by exact xStep_unsafe hM hL hn (by omega) (by omega) (by omega) q0 q q2 d1 d2)
  have HRL : Hid (∀ {a y : Value} (W : World), Lim W → KG lk ht rc M ts L gs a W → KT h lv n l y W → Calls Tryd.prog 30 #[a, y] W (KP (K2 (KV (.int .i64 0)) (KV (.int .i64 20))) W)) := Lib.hid (fun W q0 q q2 => by exact xRelease_unsafe hM hL hn (by omega) (by omega) (by omega) q0 q q2 d0 d2)
  have HCS : Hid (∀ {a y : Value} (W : World), KG lk ht rc M ts L gs a W → KT h lv n l y W → Calls Tryd.prog 23 #[a, y] W (KP (KV (.int .i64 0)) W)) := Lib.hid (fun W q q2 => by rw [← d0]; exact rCheckState_K hM hL hn (by omega) (by omega) (by omega) q q2)
  have HCV : Hid (∀ W : World, Calls Tryd.prog 32 #[(.int .i64 x)] W (KP (KV (.int .i64 0)) W)) := Lib.hid (fun W => by rw [← hVE0]; exact xValue_K x W)
  have HFI : Hid (∀ (g : Nat) (W : World), W.heap[g]? = some (.cells #[(.int .i64 0), (.int .i64 0)] 3 (0, 0)) → Calls Tryd.prog 31 #[.slice (some ⟨g, 0, none⟩) 2 2] W (KP (KV (.int .i64 0)) W)) := Lib.hid (fun g W h => by
    rw [show (0 : Int) = firstOf [0, 0] by rfl]
    exact xFirst2_K h)
  have HRT : Hid (∀ {a y : Value} (W : World), KG lk ht rc M ts L gs a W → KT h lv n l y W → Calls Tryd.prog 33 #[a, y] W (KP (KSI n TL) W)) := Lib.hid (fun W q q2 => by rw [hTL]; exact rTails_K hV.lk ⟨hh.1, by omega⟩ hM hn (by omega) (by omega) hV.tb hS.pb q q2)
  have HRF : Hid (∀ {a y : Value} (W : World), KG lk ht rc M ts L gs a W → KT h lv n l y W → Calls Tryd.prog 34 #[a, y] W (KP (KV (.bool false)) W)) := Lib.hid (fun W q q2 => by rw [← d2, fine_safeB hV.rc.1]; exact rSafe_K hV.lk ⟨hh.1, by omega⟩ hM hn (by omega) (by omega) hV.tb hS.pb q q2)
  have HRB : Hid (∀ {a y : Value} (W : World), KG lk ht rc M ts L gs a W → KT h lv n l y W → Calls Tryd.prog 36 #[a, y, (.int .i64 x)] W (KP (K2 (KTI BH lv n BP) (KV (.int .i64 BX))) W)) := Lib.hid (fun W q q2 => by rw [hBH, hBP, hBX]; exact rBehind_K hV.lk ⟨hh.1, by omega⟩ hM hn (by omega) (by omega) hV.tb hS.pb hx q q2)
  have HSB : Hid (∀ {x y : Value} (W : World), KT 0 0 0 [] x W → KT 0 0 0 [] y W → Calls Tryd.prog 24 #[x, y] W (KP (KV (.bool true)) W)) := Lib.hid (fun W q q2 => sameState_T (n := 0) (l := []) rfl (by omega) q q2)
  have HSC : Hid (∀ {x y : Value} (W : World), KT 0 0 0 [] x W → KT 0 0 0 [] y W → Calls Tryd.prog 24 #[x, y] W (KP (KV (.bool true)) W)) := Lib.hid (fun W q q2 => sameState_T (n := 0) (l := []) rfl (by omega) q q2)
  have HSI : Hid (∀ {x y : Value} (W : World), KS n TL x W → KS n TL y W → Calls Tryd.prog 38 #[x, y] W (KP (KV (.bool true)) W)) := Lib.hid (fun W q q2 => same_T rfl hTLn hTLn (by omega) q q2)
  have HTab := Lib.hid hTab
  clear hTab hM hL hn hT hG hP b1 b3 b4 hLim d0 d1 d2 d3 hx hVE0 hS hV hh hp hM8 hTL hTLn hBH hBP hBX hBPn
  go_enter Tryd.func4, Tryd.ntmps4
  have HB0 := Lib.hid (Below.refl w.heap.size w)
  go_wp2_with (go_at_call 13; refine name_calls ?_; intro w1 e1; refine Hid.out ?_)
  unfold Hid
  have h1 : Below w.heap.size w w1 := by rw [e1]; exact bel
  have HB1 := Lib.hid (HB0.out.trans (h1.mono HB0.out.size))
  have bg_1 := Lib.hid (show Blk w1 w.heap.size #[(.int .i64 lk), (.int .i64 ht), .slice A1 M c1, (.int .i64 rc), .slice A2 L c2] from by rw [e1]; (repeat (first | ((with_reducible refine Blk.at_ ?_); focus (first | rfl | (simp; done) | (simp; omega))) | (with_reducible refine Blk.alloc ?_ _) | (with_reducible refine Blk.below ?_ (by with_reducible assumption)) | (with_reducible refine Blk.drew ?_))))
  have bs_1 := Lib.hid (show Blk w1 (w.heap.size + 1) #[(.int .i64 h), (.int .i64 lv), .slice A3 n c3] from by rw [e1]; (repeat (first | ((with_reducible refine Blk.at_ ?_); focus (first | rfl | (simp; done) | (simp; omega))) | (with_reducible refine Blk.alloc ?_ _) | (with_reducible refine Blk.below ?_ (by with_reducible assumption)) | (with_reducible refine Blk.drew ?_))))
  clear e1 h1
  refine (HSH.out _ (KG.st _ _ _ _ _ _ _ _ _ _ HU.out HB1.out)).mono ?_
  rintro r w2 ⟨v2, rfl, k2, h2⟩
  have bg_2 := Lib.hid (bg_1.out.below h2)
  have bs_2 := Lib.hid (bs_1.out.below h2)
  have HB2 := Lib.hid (HB1.out.trans (h2.mono HB1.out.size))
  obtain rfl := k2
  clear h2
  obtain ⟨fbs_0, fbs_1, fbs_2, fbs_l, -⟩ := bs_2.out.o3
  go_wp2_with (go_at_call 14; refine name_calls ?_; intro w3 e3; refine Hid.out ?_)
  unfold Hid
  have h3 : Below w2.heap.size w2 w3 := by rw [e3]; exact bel
  have bg_3 := Lib.hid (bg_2.out.below h3)
  have bs_3 := Lib.hid (bs_2.out.below h3)
  have HB3 := Lib.hid (HB2.out.trans (h3.mono HB2.out.size))
  clear e3 h3
  refine (HSS.out _ (KT.st _ _ _ _ _ _ _ HS.out HB3.out)).mono ?_
  rintro r w4 ⟨v4, rfl, k4, h4⟩
  have bg_4 := Lib.hid (bg_3.out.below h4)
  have bs_4 := Lib.hid (bs_3.out.below h4)
  have HB4 := Lib.hid (HB3.out.trans (h4.mono HB3.out.size))
  obtain rfl := k4
  clear h4
  clear fbs_0 fbs_1 fbs_2 fbs_l
  have ug_rw4 := Lib.hid (KG.st _ _ _ _ _ _ _ _ _ _ HU.out HB4.out)
  have us_rw4 := Lib.hid (KT.st _ _ _ _ _ _ _ HS.out HB4.out)
  have HTabw4 := Lib.hid (HTab.out.below HB4.out)
  have HZw4 := Lib.hid (Below.refl w4.heap.size w4)
  clear HU HS HTab
  obtain ⟨fbg_0, fbg_1, fbg_2, fbg_3, fbg_4, fbg_l, -⟩ := (bg_4.out.below HZw4.out).o5
  obtain ⟨fbs_0, fbs_1, fbs_2, fbs_l, -⟩ := (bs_4.out.below HZw4.out).o3
  go_wp2
  refine Rel.region3 9 (by kernel_rfl) (by kernel_rfl) (by kernel_rfl) ?_
  simp only [List.take_succ_cons, List.take_zero, List.drop_succ_cons, List.drop_zero, List.filterMap_cons, List.filterMap_nil]
  (refine Rel.opz (hn := ?_); (try simp only [List.nil_append, List.cons_append]))
  refine Rel.callK 17 (KGI lk ht rc M ts L gs) ((KGI.ik _ _ _ _ _ _ _).st) (Rel.gno rfl) ?_ ?_
  · intro a W hb hd hbase
    have q1 : a.eval (.tmp 41) = _ := (Rel.dep_at hd 0 rfl rfl)
    refine ⟨#[a.eval (.tmp 41)], ?_, by rw [q1]; exact HGU.out _ (KG.st _ _ _ _ _ _ _ _ _ _ ug_rw4.out (HZw4.out.trans (hb.mono HZw4.out.size)))⟩
    clear hd hbase hb
    go_simp
    (first | done | rfl | (refine ⟨?_, ?_⟩ <;> rfl))
  (try simp only [List.nil_append, List.cons_append])
  (refine Rel.opz (hn := ?_); (try simp only [List.nil_append, List.cons_append]))
  refine Rel.callK 22 (KTI h lv n l) ((KTI.ik _ _ _ _).st) (Rel.gno rfl) ?_ ?_
  · intro a W hb hd hbase
    have q1 : a.eval (.tmp 43) = _ := (Rel.dep_at hd 2 rfl rfl)
    refine ⟨#[a.eval (.tmp 43)], ?_, by rw [q1]; exact HSU.out _ (KT.st _ _ _ _ _ _ _ us_rw4.out (HZw4.out.trans (hb.mono HZw4.out.size)))⟩
    clear hd hbase hb
    go_simp
    (first | done | rfl | (refine ⟨?_, ?_⟩ <;> rfl))
  (try simp only [List.nil_append, List.cons_append])
  refine Rel.callK 26 (K2 (KS n TL) (KV (.int .i64 0))) ((K2.st (KS.st _ _) (KV.st _))) (Rel.gno rfl) ?_ ?_
  · intro a W hb hd hbase
    refine ⟨#[a.eval (.tmp 42), a.eval (.tmp 44)], ?_, HTL.out _ (HTabw4.out.below (HZw4.out.trans (hb.mono HZw4.out.size))).lim (Rel.dep_at hd 1 rfl rfl).kg (Rel.dep_at hd 3 rfl rfl).kt⟩
    clear hd hbase hb
    go_simp
    (first | done | rfl | (refine ⟨?_, ?_⟩ <;> rfl))
  (try simp only [List.nil_append, List.cons_append])
  refine Rel.mvK 45 4 rfl rfl rfl ((K2.st (KS.st _ _) (KV.st _))) (Rel.gno rfl) ?_
  (try simp only [List.nil_append, List.cons_append])
  refine Rel.ext20 40 5 rfl rfl rfl ((KS.st _ _)) (Rel.gno rfl) ?_
  (try simp only [List.nil_append, List.cons_append])
  refine Rel.ext21 40 5 rfl rfl rfl (KV.st _) (Rel.gno rfl) ?_
  (try simp only [List.nil_append, List.cons_append])
  refine Rel.asgK 46 6 rfl rfl rfl ((KS.st _ _)) (Rel.gno rfl) ?_
  (try simp only [List.nil_append, List.cons_append])
  refine Rel.done3 ?_
  intro x w5 h5 hx
  simp only [Rel.facts, Nat.zero_add, Nat.reduceAdd] at hx
  clear fbg_0 fbg_1 fbg_2 fbg_3 fbg_4 fbg_l
  clear fbs_0 fbs_1 fbs_2 fbs_l
  obtain ⟨e0, _, e2, _, _, _, _, e7, ⟨TB, TC, e8, hTB⟩, _⟩ := hx
  have e7 : x 7 = _ := e7
  simp only [Rel.fill, Nat.zero_add, Nat.reduceAdd, e0, e2, e7, e8]
  simp only [Act.put, List.setIfInBounds_toArray, List.set_cons_zero, List.set_cons_succ]
  clear e0 e2 e7 e8
  have HB5 := Lib.hid (HZw4.out.trans (h5.mono HZw4.out.size))
  have t_5 := Lib.hid (show KS n TL (.slice TB n TC) w5 from ⟨_, _, rfl, hTB⟩)
  clear hTB h5
  obtain ⟨fbg_0, fbg_1, fbg_2, fbg_3, fbg_4, fbg_l, -⟩ := (bg_4.out.below HB5.out).o5
  obtain ⟨fbs_0, fbs_1, fbs_2, fbs_l, -⟩ := (bs_4.out.below HB5.out).o3
  go_wp2
  refine Rel.region3 9 (by kernel_rfl) (by kernel_rfl) (by kernel_rfl) ?_
  simp only [List.take_succ_cons, List.take_zero, List.drop_succ_cons, List.drop_zero, List.filterMap_cons, List.filterMap_nil]
  (refine Rel.opz (hn := ?_); (try simp only [List.nil_append, List.cons_append]))
  refine Rel.callK 17 (KGI lk ht rc M ts L gs) ((KGI.ik _ _ _ _ _ _ _).st) (Rel.gno rfl) ?_ ?_
  · intro a W hb hd hbase
    have q1 : a.eval (.tmp 49) = _ := (Rel.dep_at hd 0 rfl rfl)
    refine ⟨#[a.eval (.tmp 49)], ?_, by rw [q1]; exact HGU.out _ (KG.st _ _ _ _ _ _ _ _ _ _ ug_rw4.out (HB5.out.trans (hb.mono HB5.out.size)))⟩
    clear hd hbase hb
    go_simp
    (first | done | rfl | (refine ⟨?_, ?_⟩ <;> rfl))
  (try simp only [List.nil_append, List.cons_append])
  (refine Rel.opz (hn := ?_); (try simp only [List.nil_append, List.cons_append]))
  refine Rel.callK 22 (KTI h lv n l) ((KTI.ik _ _ _ _).st) (Rel.gno rfl) ?_ ?_
  · intro a W hb hd hbase
    have q1 : a.eval (.tmp 51) = _ := (Rel.dep_at hd 2 rfl rfl)
    refine ⟨#[a.eval (.tmp 51)], ?_, by rw [q1]; exact HSU.out _ (KT.st _ _ _ _ _ _ _ us_rw4.out (HB5.out.trans (hb.mono HB5.out.size)))⟩
    clear hd hbase hb
    go_simp
    (first | done | rfl | (refine ⟨?_, ?_⟩ <;> rfl))
  (try simp only [List.nil_append, List.cons_append])
  refine Rel.callK 27 (K2 (KV (.bool false)) (KV (.int .i64 0))) ((K2.st (KV.st _) (KV.st _))) (Rel.gno rfl) ?_ ?_
  · intro a W hb hd hbase
    refine ⟨#[a.eval (.tmp 50), a.eval (.tmp 52)], ?_, HSF.out _ (HTabw4.out.below (HB5.out.trans (hb.mono HB5.out.size))).lim (Rel.dep_at hd 1 rfl rfl).kg (Rel.dep_at hd 3 rfl rfl).kt⟩
    clear hd hbase hb
    go_simp
    (first | done | rfl | (refine ⟨?_, ?_⟩ <;> rfl))
  (try simp only [List.nil_append, List.cons_append])
  refine Rel.mvK 53 4 rfl rfl rfl ((K2.st (KV.st _) (KV.st _))) (Rel.gno rfl) ?_
  (try simp only [List.nil_append, List.cons_append])
  refine Rel.ext20 48 5 rfl rfl rfl (KV.st _) (Rel.gno rfl) ?_
  (try simp only [List.nil_append, List.cons_append])
  refine Rel.ext21 48 5 rfl rfl rfl (KV.st _) (Rel.gno rfl) ?_
  (try simp only [List.nil_append, List.cons_append])
  (refine Rel.opz (hn := ?_); (try simp only [List.nil_append, List.cons_append]))
  refine Rel.done3 ?_
  intro x w6 h6 hx
  simp only [Rel.facts, Nat.zero_add, Nat.reduceAdd] at hx
  clear fbg_0 fbg_1 fbg_2 fbg_3 fbg_4 fbg_l
  clear fbs_0 fbs_1 fbs_2 fbs_l
  obtain ⟨e0, _, e2, _, _, _, e6, e7, e8, _⟩ := hx
  have e6 : x 6 = _ := e6
  have e7 : x 7 = _ := e7
  simp only [Rel.fill, Nat.zero_add, Nat.reduceAdd, e0, e2, e6, e7, e8]
  simp only [Act.put, List.setIfInBounds_toArray, List.set_cons_zero, List.set_cons_succ]
  clear e0 e2 e6 e7 e8
  have t_6 := Lib.hid (KS.st _ _ _ _ _ t_5.out h6)
  have HB6 := Lib.hid (HB5.out.trans (h6.mono HB5.out.size))
  clear h6
  obtain ⟨fbg_0, fbg_1, fbg_2, fbg_3, fbg_4, fbg_l, -⟩ := (bg_4.out.below HB6.out).o5
  obtain ⟨fbs_0, fbs_1, fbs_2, fbs_l, -⟩ := (bs_4.out.below HB6.out).o3
  go_wp2
  refine RelH.region3 (S := Sty 30 (KTI 0 0 0 []) w6.heap.size) (Sty.trans (KTI.ik _ _ _ _)) (Sty.drawn (by decide)) 13 (by kernel_rfl) (by kernel_rfl) (by kernel_rfl) ?_
  simp only [List.take_succ_cons, List.take_zero, List.drop_succ_cons, List.drop_zero, List.filterMap_cons, List.filterMap_nil]
  (refine RelH.opz (Sty.refl (by decide)) (hn := ?_); (try simp only [List.nil_append, List.cons_append]))
  refine RelH.callH (fun _ _ h => h.keep) (fun _ _ h => Sty.of (by decide) h) 17 (KGI lk ht rc M ts L gs) ((KGI.ik _ _ _ _ _ _ _)) (RelH.gno rfl) ?_ ?_
  · intro a W x hS hd hbase
    have hb := hS.below (Nat.le_refl _)
    have q1 : a.eval (.tmp 57) = _ := (RelH.dep_k hd 0 rfl rfl)
    refine ⟨#[a.eval (.tmp 57)], ?_, by rw [q1]; exact HGU.out _ (KG.st _ _ _ _ _ _ _ _ _ _ ug_rw4.out (HB6.out.trans (hb.mono HB6.out.size)))⟩
    clear hd hbase hb hS
    go_simp
    (first | done | rfl | (refine ⟨?_, ?_⟩ <;> rfl))
  (try simp only [List.nil_append, List.cons_append])
  (refine RelH.opz (Sty.refl (by decide)) (hn := ?_); (try simp only [List.nil_append, List.cons_append]))
  refine RelH.callH (fun _ _ h => h.keep) (fun _ _ h => Sty.of (by decide) h) 22 (KTI h lv n l) ((KTI.ik _ _ _ _)) (RelH.gno rfl) ?_ ?_
  · intro a W x hS hd hbase
    have hb := hS.below (Nat.le_refl _)
    have q1 : a.eval (.tmp 59) = _ := (RelH.dep_k hd 2 rfl rfl)
    refine ⟨#[a.eval (.tmp 59)], ?_, by rw [q1]; exact HSU.out _ (KT.st _ _ _ _ _ _ _ us_rw4.out (HB6.out.trans (hb.mono HB6.out.size)))⟩
    clear hd hbase hb hS
    go_simp
    (first | done | rfl | (refine ⟨?_, ?_⟩ <;> rfl))
  (try simp only [List.nil_append, List.cons_append])
  (refine RelH.opz (Sty.refl (by decide)) (hn := ?_); (try simp only [List.nil_append, List.cons_append]))
  refine RelH.callH (fun _ _ h => h.keep) (fun _ _ h => Sty.of (by decide) h) 28 (K3 (KTI 0 0 0 []) (KV (.int .i64 0)) (KV (.int .i64 4))) ((K3.ik (KTI.ik _ _ _ _) (KV.ik _) (KV.ik _))) (RelH.gno rfl) ?_ ?_
  · intro a W x hS hd hbase
    have hb := hS.below (Nat.le_refl _)
    have q3 : a.eval (.tmp 61) = _ := (RelH.dep_k hd 4 rfl rfl)
    refine ⟨#[a.eval (.tmp 58), a.eval (.tmp 60), a.eval (.tmp 61)], ?_, by rw [q3]; exact HBH.out _ (HTabw4.out.below (HB6.out.trans (hb.mono HB6.out.size))).lim (RelH.dep_k hd 1 rfl rfl).kg (RelH.dep_k hd 3 rfl rfl).kt⟩
    clear hd hbase hb hS
    go_simp
    (first | done | rfl | (refine ⟨?_, ?_⟩ <;> rfl))
  (try simp only [List.nil_append, List.cons_append])
  refine RelH.mvH (Sty.refl (by decide)) (fun _ _ h => h.keep) 62 5 rfl rfl rfl ((K3.ik (KTI.ik _ _ _ _) (KV.ik _) (KV.ik _))) (RelH.gno rfl) ?_
  (try simp only [List.nil_append, List.cons_append])
  refine RelH.ext30H (Sty.refl (by decide)) (fun _ _ h => h.keep) 56 6 rfl rfl rfl ((KTI.ik _ _ _ _)) (RelH.gno rfl) ?_
  (try simp only [List.nil_append, List.cons_append])
  refine RelH.ext31H (Sty.refl (by decide)) (fun _ _ h => h.keep) 56 6 rfl rfl rfl ((KV.ik _)) (RelH.gno rfl) ?_
  (try simp only [List.nil_append, List.cons_append])
  refine RelH.ext32H (Sty.refl (by decide)) (fun _ _ h => h.keep) 56 6 rfl rfl rfl ((KV.ik _)) (RelH.gno rfl) ?_
  (try simp only [List.nil_append, List.cons_append])
  (refine RelH.allocH (by decide) (n := 3) (fun cs W h => by obtain ⟨_, _, e, _⟩ := h; cases e; rfl) #[(.int .i64 0), (.int .i64 0), .slice none 0 0] rfl (RelH.gno rfl) (by intro a W; go_simp) ?_; (try simp only [List.nil_append, List.cons_append]))
  refine RelH.storeH 11 63 10 7 rfl rfl rfl rfl rfl (RelH.gno rfl) ?_
  (try simp only [List.nil_append, List.cons_append])
  (refine RelH.opz (Sty.refl (by decide)) (hn := ?_); (try simp only [List.nil_append, List.cons_append]))
  refine RelH.done3 ?_
  intro x w7 hS7 hx
  have h7 := hS7.below (Nat.le_refl _)
  clear hS7
  simp only [RelH.facts, Nat.zero_add, Nat.reduceAdd] at hx
  clear fbg_0 fbg_1 fbg_2 fbg_3 fbg_4 fbg_l
  clear fbs_0 fbs_1 fbs_2 fbs_l
  obtain ⟨e0, _, e2, _, e4, _, _, _, e8, e9, _, ⟨gb7, e10, hg7, cs7, hG7, B7, c7, ec7, hc7, hi7⟩, e12, _⟩ := hx
  have e8 : x 8 = _ := e8
  have e9 : x 9 = _ := e9
  cases ec7
  simp only [RelH.fill, Nat.zero_add, Nat.reduceAdd, e0, e2, e4, e8, e9, e10, e12]
  simp only [Act.put, List.setIfInBounds_toArray, List.set_cons_zero, List.set_cons_succ]
  clear e0 e2 e4 e8 e9 e10 e12
  have t_7 := Lib.hid (KS.st _ _ _ _ _ t_6.out h7)
  have HB7 := Lib.hid (HB6.out.trans (h7.mono HB6.out.size))
  have bb_7 := Lib.hid (show Blk w7 gb7 #[(.int .i64 0), (.int .i64 0), .slice B7 0 c7] from Calm.Blk.row hG7)
  have b_7 := Lib.hid (show KTI 0 0 0 [] (.agg #[(.int .i64 0), (.int .i64 0), .slice B7 0 c7]) w7 from ⟨_, _, rfl, hc7, hi7⟩)
  clear hc7 hi7 hG7 hg7 h7
  obtain ⟨fbg_0, fbg_1, fbg_2, fbg_3, fbg_4, fbg_l, -⟩ := (bg_4.out.below HB7.out).o5
  obtain ⟨fbs_0, fbs_1, fbs_2, fbs_l, -⟩ := (bs_4.out.below HB7.out).o3
  go_wp2
  refine RelH.region3 (S := Sty 30 (KTI 0 0 0 []) w7.heap.size) (Sty.trans (KTI.ik _ _ _ _)) (Sty.drawn (by decide)) 13 (by kernel_rfl) (by kernel_rfl) (by kernel_rfl) ?_
  simp only [List.take_succ_cons, List.take_zero, List.drop_succ_cons, List.drop_zero, List.filterMap_cons, List.filterMap_nil]
  (refine RelH.opz (Sty.refl (by decide)) (hn := ?_); (try simp only [List.nil_append, List.cons_append]))
  refine RelH.callH (fun _ _ h => h.keep) (fun _ _ h => Sty.of (by decide) h) 17 (KGI lk ht rc M ts L gs) ((KGI.ik _ _ _ _ _ _ _)) (RelH.gno rfl) ?_ ?_
  · intro a W x hS hd hbase
    have hb := hS.below (Nat.le_refl _)
    have q1 : a.eval (.tmp 67) = _ := (RelH.dep_k hd 0 rfl rfl)
    refine ⟨#[a.eval (.tmp 67)], ?_, by rw [q1]; exact HGU.out _ (KG.st _ _ _ _ _ _ _ _ _ _ ug_rw4.out (HB7.out.trans (hb.mono HB7.out.size)))⟩
    clear hd hbase hb hS
    go_simp
    (first | done | rfl | (refine ⟨?_, ?_⟩ <;> rfl))
  (try simp only [List.nil_append, List.cons_append])
  (refine RelH.opz (Sty.refl (by decide)) (hn := ?_); (try simp only [List.nil_append, List.cons_append]))
  refine RelH.callH (fun _ _ h => h.keep) (fun _ _ h => Sty.of (by decide) h) 22 (KTI h lv n l) ((KTI.ik _ _ _ _)) (RelH.gno rfl) ?_ ?_
  · intro a W x hS hd hbase
    have hb := hS.below (Nat.le_refl _)
    have q1 : a.eval (.tmp 69) = _ := (RelH.dep_k hd 2 rfl rfl)
    refine ⟨#[a.eval (.tmp 69)], ?_, by rw [q1]; exact HSU.out _ (KT.st _ _ _ _ _ _ _ us_rw4.out (HB7.out.trans (hb.mono HB7.out.size)))⟩
    clear hd hbase hb hS
    go_simp
    (first | done | rfl | (refine ⟨?_, ?_⟩ <;> rfl))
  (try simp only [List.nil_append, List.cons_append])
  (refine RelH.opz (Sty.refl (by decide)) (hn := ?_); (try simp only [List.nil_append, List.cons_append]))
  refine RelH.callH (fun _ _ h => h.keep) (fun _ _ h => Sty.of (by decide) h) 29 (K3 (KV (.int .i64 0)) (KTI 0 0 0 []) (KV (.int .i64 20))) ((K3.ik (KV.ik _) (KTI.ik _ _ _ _) (KV.ik _))) (RelH.gno rfl) ?_ ?_
  · intro a W x hS hd hbase
    have hb := hS.below (Nat.le_refl _)
    have q3 : a.eval (.tmp 71) = _ := (RelH.dep_k hd 4 rfl rfl)
    refine ⟨#[a.eval (.tmp 68), a.eval (.tmp 70), a.eval (.tmp 71)], ?_, by rw [q3]; exact HSP.out _ (HTabw4.out.below (HB7.out.trans (hb.mono HB7.out.size))).lim (RelH.dep_k hd 1 rfl rfl).kg (RelH.dep_k hd 3 rfl rfl).kt⟩
    clear hd hbase hb hS
    go_simp
    (first | done | rfl | (refine ⟨?_, ?_⟩ <;> rfl))
  (try simp only [List.nil_append, List.cons_append])
  refine RelH.mvH (Sty.refl (by decide)) (fun _ _ h => h.keep) 72 5 rfl rfl rfl ((K3.ik (KV.ik _) (KTI.ik _ _ _ _) (KV.ik _))) (RelH.gno rfl) ?_
  (try simp only [List.nil_append, List.cons_append])
  refine RelH.ext30H (Sty.refl (by decide)) (fun _ _ h => h.keep) 66 6 rfl rfl rfl ((KV.ik _)) (RelH.gno rfl) ?_
  (try simp only [List.nil_append, List.cons_append])
  refine RelH.ext31H (Sty.refl (by decide)) (fun _ _ h => h.keep) 66 6 rfl rfl rfl ((KTI.ik _ _ _ _)) (RelH.gno rfl) ?_
  (try simp only [List.nil_append, List.cons_append])
  refine RelH.ext32H (Sty.refl (by decide)) (fun _ _ h => h.keep) 66 6 rfl rfl rfl ((KV.ik _)) (RelH.gno rfl) ?_
  (try simp only [List.nil_append, List.cons_append])
  (refine RelH.allocH (by decide) (n := 3) (fun cs W h => by obtain ⟨_, _, e, _⟩ := h; cases e; rfl) #[(.int .i64 0), (.int .i64 0), .slice none 0 0] rfl (RelH.gno rfl) (by intro a W; go_simp) ?_; (try simp only [List.nil_append, List.cons_append]))
  (refine RelH.opz (Sty.refl (by decide)) (hn := ?_); (try simp only [List.nil_append, List.cons_append]))
  refine RelH.storeH 15 74 10 8 rfl rfl rfl rfl rfl (RelH.gno rfl) ?_
  (try simp only [List.nil_append, List.cons_append])
  refine RelH.done3 ?_
  intro x w8 hS8 hx
  have h8 := hS8.below (Nat.le_refl _)
  clear hS8
  simp only [RelH.facts, Nat.zero_add, Nat.reduceAdd] at hx
  clear fbg_0 fbg_1 fbg_2 fbg_3 fbg_4 fbg_l
  clear fbs_0 fbs_1 fbs_2 fbs_l
  obtain ⟨e0, _, e2, _, e4, _, _, e7, _, e9, _, e11, ⟨gb8, e10, hg8, cs8, hG8, B8, c8, ec8, hc8, hi8⟩, _⟩ := hx
  have e7 : x 7 = _ := e7
  have e9 : x 9 = _ := e9
  cases ec8
  simp only [RelH.fill, Nat.zero_add, Nat.reduceAdd, e0, e2, e4, e7, e9, e11, e10]
  simp only [Act.put, List.setIfInBounds_toArray, List.set_cons_zero, List.set_cons_succ]
  clear e0 e2 e4 e7 e9 e11 e10
  have t_8 := Lib.hid (KS.st _ _ _ _ _ t_7.out h8)
  have b_8 := Lib.hid ((KTI.ik 0 0 0 []).st _ _ _ b_7.out h8)
  have bb_8 := Lib.hid (bb_7.out.below h8)
  have HB8 := Lib.hid (HB7.out.trans (h8.mono HB7.out.size))
  have bc_8 := Lib.hid (show Blk w8 gb8 #[(.int .i64 0), (.int .i64 0), .slice B8 0 c8] from Calm.Blk.row hG8)
  have c_8 := Lib.hid (show KTI 0 0 0 [] (.agg #[(.int .i64 0), (.int .i64 0), .slice B8 0 c8]) w8 from ⟨_, _, rfl, hc8, hi8⟩)
  clear hc8 hi8 hG8 hg8 h8
  obtain ⟨fbg_0, fbg_1, fbg_2, fbg_3, fbg_4, fbg_l, -⟩ := (bg_4.out.below HB8.out).o5
  obtain ⟨fbs_0, fbs_1, fbs_2, fbs_l, -⟩ := (bs_4.out.below HB8.out).o3
  go_wp2
  refine Rel.region3 9 (by kernel_rfl) (by kernel_rfl) (by kernel_rfl) ?_
  simp only [List.take_succ_cons, List.take_zero, List.drop_succ_cons, List.drop_zero, List.filterMap_cons, List.filterMap_nil]
  (refine Rel.opz (hn := ?_); (try simp only [List.nil_append, List.cons_append]))
  refine Rel.callK 17 (KGI lk ht rc M ts L gs) ((KGI.ik _ _ _ _ _ _ _).st) (Rel.gno rfl) ?_ ?_
  · intro a W hb hd hbase
    have q1 : a.eval (.tmp 77) = _ := (Rel.dep_at hd 0 rfl rfl)
    refine ⟨#[a.eval (.tmp 77)], ?_, by rw [q1]; exact HGU.out _ (KG.st _ _ _ _ _ _ _ _ _ _ ug_rw4.out (HB8.out.trans (hb.mono HB8.out.size)))⟩
    clear hd hbase hb
    go_simp
    (first | done | rfl | (refine ⟨?_, ?_⟩ <;> rfl))
  (try simp only [List.nil_append, List.cons_append])
  (refine Rel.opz (hn := ?_); (try simp only [List.nil_append, List.cons_append]))
  refine Rel.callK 22 (KTI h lv n l) ((KTI.ik _ _ _ _).st) (Rel.gno rfl) ?_ ?_
  · intro a W hb hd hbase
    have q1 : a.eval (.tmp 79) = _ := (Rel.dep_at hd 2 rfl rfl)
    refine ⟨#[a.eval (.tmp 79)], ?_, by rw [q1]; exact HSU.out _ (KT.st _ _ _ _ _ _ _ us_rw4.out (HB8.out.trans (hb.mono HB8.out.size)))⟩
    clear hd hbase hb
    go_simp
    (first | done | rfl | (refine ⟨?_, ?_⟩ <;> rfl))
  (try simp only [List.nil_append, List.cons_append])
  refine Rel.callK 30 (K2 (KV (.int .i64 0)) (KV (.int .i64 20))) ((K2.st (KV.st _) (KV.st _))) (Rel.gno rfl) ?_ ?_
  · intro a W hb hd hbase
    refine ⟨#[a.eval (.tmp 78), a.eval (.tmp 80)], ?_, HRL.out _ (HTabw4.out.below (HB8.out.trans (hb.mono HB8.out.size))).lim (Rel.dep_at hd 1 rfl rfl).kg (Rel.dep_at hd 3 rfl rfl).kt⟩
    clear hd hbase hb
    go_simp
    (first | done | rfl | (refine ⟨?_, ?_⟩ <;> rfl))
  (try simp only [List.nil_append, List.cons_append])
  refine Rel.mvK 81 4 rfl rfl rfl ((K2.st (KV.st _) (KV.st _))) (Rel.gno rfl) ?_
  (try simp only [List.nil_append, List.cons_append])
  refine Rel.ext20 76 5 rfl rfl rfl (KV.st _) (Rel.gno rfl) ?_
  (try simp only [List.nil_append, List.cons_append])
  refine Rel.ext21 76 5 rfl rfl rfl (KV.st _) (Rel.gno rfl) ?_
  (try simp only [List.nil_append, List.cons_append])
  (refine Rel.opz (hn := ?_); (try simp only [List.nil_append, List.cons_append]))
  refine Rel.done3 ?_
  intro x w9 h9 hx
  simp only [Rel.facts, Nat.zero_add, Nat.reduceAdd] at hx
  clear fbg_0 fbg_1 fbg_2 fbg_3 fbg_4 fbg_l
  clear fbs_0 fbs_1 fbs_2 fbs_l
  obtain ⟨e0, _, e2, _, _, _, e6, e7, e8, _⟩ := hx
  have e6 : x 6 = _ := e6
  have e7 : x 7 = _ := e7
  simp only [Rel.fill, Nat.zero_add, Nat.reduceAdd, e0, e2, e6, e7, e8]
  simp only [Act.put, List.setIfInBounds_toArray, List.set_cons_zero, List.set_cons_succ]
  clear e0 e2 e6 e7 e8
  have t_9 := Lib.hid (KS.st _ _ _ _ _ t_8.out h9)
  have b_9 := Lib.hid ((KTI.ik 0 0 0 []).st _ _ _ b_8.out h9)
  have c_9 := Lib.hid ((KTI.ik 0 0 0 []).st _ _ _ c_8.out h9)
  have bb_9 := Lib.hid (bb_8.out.below h9)
  have bc_9 := Lib.hid (bc_8.out.below h9)
  have HB9 := Lib.hid (HB8.out.trans (h9.mono HB8.out.size))
  clear h9
  have ug_rw9 := Lib.hid (KG.st _ _ _ _ _ _ _ _ _ _ ug_rw4.out HB9.out)
  have us_rw9 := Lib.hid (KT.st _ _ _ _ _ _ _ us_rw4.out HB9.out)
  have bg_rw9 := Lib.hid (bg_4.out.below HB9.out)
  have bs_rw9 := Lib.hid (bs_4.out.below HB9.out)
  have HTabw9 := Lib.hid (HTabw4.out.below HB9.out)
  have HOw9 := Lib.hid (HB4.out.trans (HB9.out.mono HB4.out.size))
  have HZw9 := Lib.hid (Below.refl w9.heap.size w9)
  clear HB9 ug_rw4 us_rw4 bg_4 bs_4 HTabw4 HB4
  obtain ⟨fbg_0, fbg_1, fbg_2, fbg_3, fbg_4, fbg_l, -⟩ := (bg_rw9.out.below HZw9.out).o5
  obtain ⟨fbs_0, fbs_1, fbs_2, fbs_l, -⟩ := (bs_rw9.out.below HZw9.out).o3
  go_wp2_with (go_at_call 23; refine name_calls ?_; intro w10 e10; refine Hid.out ?_)
  unfold Hid
  have h10 : Below w9.heap.size w9 w10 := by rw [e10]; exact bel
  have HB10 := Lib.hid (HZw9.out.trans (h10.mono HZw9.out.size))
  clear e10 h10
  refine (HCS.out _ (KG.st _ _ _ _ _ _ _ _ _ _ ug_rw9.out HB10.out) (KT.st _ _ _ _ _ _ _ us_rw9.out HB10.out)).mono ?_
  rintro r w11 ⟨v11, rfl, k11, h11⟩
  have HB11 := Lib.hid (HB10.out.trans (h11.mono HB10.out.size))
  obtain rfl := k11
  clear h11
  clear fbg_0 fbg_1 fbg_2 fbg_3 fbg_4 fbg_l
  clear fbs_0 fbs_1 fbs_2 fbs_l
  go_wp2_with (go_at_call 32; refine name_calls ?_; intro w12 e12; refine Hid.out ?_)
  unfold Hid
  have h12 : Below w11.heap.size w11 w12 := by rw [e12]; exact bel
  have HB12 := Lib.hid (HB11.out.trans (h12.mono HB11.out.size))
  clear e12 h12
  refine (HCV.out _).mono ?_
  rintro r w13 ⟨v13, rfl, k13, h13⟩
  have HB13 := Lib.hid (HB12.out.trans (h13.mono HB12.out.size))
  obtain rfl := k13
  clear h13
  go_wp2_with (go_at_call 31; refine name_calls ?_; intro w14 e14; refine Hid.out ?_)
  unfold Hid
  have h14 : Below w13.heap.size w13 w14 := by rw [e14]; exact bel
  have HB14 := Lib.hid (HB13.out.trans (h14.mono HB13.out.size))
  have hcf : Hid (w14.heap[w13.heap.size]? = some (.cells #[(.int .i64 0), (.int .i64 0)] 3 (0, 0))) := Lib.hid (by rw [e14]; exact heap_new rfl)
  clear e14 h14
  refine (HFI.out _ _ hcf.out).mono ?_
  rintro r w15 ⟨v15, rfl, k15, h15⟩
  have HB15 := Lib.hid (HB14.out.trans (h15.mono HB14.out.size))
  obtain rfl := k15
  clear h15
  clear hcf
  go_wp2
  refine name_world ?_
  intro w16 e16
  have h16 : Below w15.heap.size w15 w16 := by rw [e16]; exact bel
  have HB16 := Lib.hid (HB15.out.trans (h16.mono HB15.out.size))
  obtain ⟨gn, hgn⟩ : ∃ gn, gn = w15.heap.size := ⟨_, rfl⟩
  have bn_16 := Lib.hid (show Blk w16 gn #[(.int .i64 0), (.int .i64 0), .slice none 0 0] from by rw [e16, hgn]; exact (Calm.Blk.new _ _ _).alloc _)
  have bx_16 := Lib.hid (show Blk w16 (gn + 1) #[(.int .i64 0), (.int .i64 0), .slice none 0 0] from by rw [e16, hgn]; exact Calm.Blk.at_ (by simp))
  have tybn_16 := Lib.hid (show IsTy w16 gn 26 from by rw [e16, hgn]; exact IsTy.new.old)
  have tybx_16 := Lib.hid (show IsTy w16 (gn + 1) 26 from by rw [e16, hgn]; exact ⟨_, heap_new (by simp)⟩)
  have hzb : w9.heap.size ≤ gn := by rw [hgn]; exact HB15.out.size
  clear e16 h16
  rw [← hgn]
  clear hgn
  obtain ⟨fbg_0, fbg_1, fbg_2, fbg_3, fbg_4, fbg_l, -⟩ := (bg_rw9.out.below HB16.out).o5
  obtain ⟨fbs_0, fbs_1, fbs_2, fbs_l, -⟩ := (bs_rw9.out.below HB16.out).o3
  refine Rel.region3 6 (by kernel_rfl) (by kernel_rfl) (by kernel_rfl) ?_
  simp only [List.take_succ_cons, List.take_zero, List.drop_succ_cons, List.drop_zero, List.filterMap_cons, List.filterMap_nil]
  iterate 2 (refine Rel.opz (hn := ?_); (try simp only [List.nil_append, List.cons_append]))
  refine Rel.callK 33 (KSI n TL) ((KSI.ik _ _).st) (Rel.gno rfl) ?_ ?_
  · intro a W hb hd hbase
    have q1 : a.eval (.tmp 97) = _ := (Rel.dep_at hd 0 rfl rfl)
    have q2 : a.eval (.tmp 98) = _ := (Rel.dep_at hd 1 rfl rfl)
    refine ⟨#[a.eval (.tmp 97), a.eval (.tmp 98)], ?_, by rw [q1, q2]; exact HRT.out _ (KG.st _ _ _ _ _ _ _ _ _ _ ug_rw9.out (HB16.out.trans (hb.mono HB16.out.size))) (KT.st _ _ _ _ _ _ _ us_rw9.out (HB16.out.trans (hb.mono HB16.out.size)))⟩
    clear hd hbase hb
    go_simp
    (first | done | rfl | (refine ⟨?_, ?_⟩ <;> rfl))
  (try simp only [List.nil_append, List.cons_append])
  iterate 2 (refine Rel.opz (hn := ?_); (try simp only [List.nil_append, List.cons_append]))
  refine Rel.callK 34 (KV (.bool false)) (KV.st _) (Rel.gno rfl) ?_ ?_
  · intro a W hb hd hbase
    have q1 : a.eval (.tmp 100) = _ := (Rel.dep_at hd 3 rfl rfl)
    have q2 : a.eval (.tmp 101) = _ := (Rel.dep_at hd 4 rfl rfl)
    refine ⟨#[a.eval (.tmp 100), a.eval (.tmp 101)], ?_, by rw [q1, q2]; exact HRF.out _ (KG.st _ _ _ _ _ _ _ _ _ _ ug_rw9.out (HB16.out.trans (hb.mono HB16.out.size))) (KT.st _ _ _ _ _ _ _ us_rw9.out (HB16.out.trans (hb.mono HB16.out.size)))⟩
    clear hd hbase hb
    go_simp
    (first | done | rfl | (refine ⟨?_, ?_⟩ <;> rfl))
  (try simp only [List.nil_append, List.cons_append])
  refine Rel.done3 ?_
  intro x w17 h17 hx
  simp only [Rel.facts, Nat.zero_add, Nat.reduceAdd] at hx
  clear fbg_0 fbg_1 fbg_2 fbg_3 fbg_4 fbg_l
  clear fbs_0 fbs_1 fbs_2 fbs_l
  obtain ⟨e0, e1, ⟨RB, RC, e2, hRc, hRi⟩, e3, e4, e5, _⟩ := hx
  have e5 : x 5 = _ := e5
  simp only [Rel.fill, Nat.zero_add, Nat.reduceAdd, e0, e1, e2, e3, e4, e5]
  simp only [Act.put, List.setIfInBounds_toArray, List.set_cons_zero, List.set_cons_succ]
  clear e0 e1 e2 e3 e4 e5
  have bn_17 := Lib.hid (bn_16.out.below h17)
  have bx_17 := Lib.hid (bx_16.out.below h17)
  have tybn_17 := Lib.hid (tybn_16.out.below h17)
  have tybx_17 := Lib.hid (tybx_16.out.below h17)
  have HB17 := Lib.hid (HB16.out.trans (h17.mono HB16.out.size))
  have r_17 := Lib.hid (show KSI n TL (.slice RB n RC) w17 from ⟨_, _, rfl, hRc, hRi⟩)
  clear hRc hRi h17
  obtain ⟨fbg_0, fbg_1, fbg_2, fbg_3, fbg_4, fbg_l, -⟩ := (bg_rw9.out.below HB17.out).o5
  obtain ⟨fbs_0, fbs_1, fbs_2, fbs_l, -⟩ := (bs_rw9.out.below HB17.out).o3
  go_wp2_with (go_at_call 36; refine name_calls ?_; intro w18 e18; refine Hid.out ?_)
  unfold Hid
  have h18 : Below w17.heap.size w17 w18 := by rw [e18]; exact bel
  have r_18 := Lib.hid ((KSI.ik n TL).st _ _ _ r_17.out h18)
  have bn_18 := Lib.hid (bn_17.out.below h18)
  have bx_18 := Lib.hid (bx_17.out.below h18)
  have tybn_18 := Lib.hid (tybn_17.out.below h18)
  have tybx_18 := Lib.hid (tybx_17.out.below h18)
  have HB18 := Lib.hid (HB17.out.trans (h18.mono HB17.out.size))
  clear e18 h18
  refine (HRB.out _ (KG.st _ _ _ _ _ _ _ _ _ _ ug_rw9.out HB18.out) (KT.st _ _ _ _ _ _ _ us_rw9.out HB18.out)).mono ?_
  rintro r w19 ⟨v19, rfl, k19, h19⟩
  have r_19 := Lib.hid ((KSI.ik n TL).st _ _ _ r_18.out h19)
  have bn_19 := Lib.hid (bn_18.out.below h19)
  have bx_19 := Lib.hid (bx_18.out.below h19)
  have tybn_19 := Lib.hid (tybn_18.out.below h19)
  have tybx_19 := Lib.hid (tybx_18.out.below h19)
  have HB19 := Lib.hid (HB18.out.trans (h19.mono HB18.out.size))
  obtain ⟨_, _, rfl, ⟨NB, ND, rfl, hNc, hNi⟩, rfl⟩ := k19
  have z_19 := Lib.hid (show KTI BH lv n BP (.agg #[(.int .i64 BH), (.int .i64 lv), .slice NB n ND]) w19 from ⟨_, _, rfl, hNc, hNi⟩)
  clear hNc hNi h19
  clear fbg_0 fbg_1 fbg_2 fbg_3 fbg_4 fbg_l
  clear fbs_0 fbs_1 fbs_2 fbs_l
  have d3 := HD3.out
  obtain ⟨fbn_0, fbn_1, fbn_2, fbn_l, fbn_f⟩ := bn_19.out.o3
  obtain ⟨fbg_0, fbg_1, fbg_2, fbg_3, fbg_4, fbg_l, -⟩ := (bg_rw9.out.below HB19.out).o5
  obtain ⟨fbs_0, fbs_1, fbs_2, fbs_l, -⟩ := (bs_rw9.out.below HB19.out).o3
  have hsz := bx_19.out.lt
  have hlg : w.heap.size < gn := Nat.lt_of_lt_of_le bg_rw9.out.lt hzb
  have hls : w.heap.size + 1 < gn := Nat.lt_of_lt_of_le bs_rw9.out.lt hzb
  go_wp2
  refine name_world ?_
  intro w20 e20
  have hg20 : w9.heap.size ≤ gn := by omega
  have k20 : IntKeep w19 w20 := by rw [e20]; exact (((((((IntKeep.refl w19).put tybn_19.out (by decide) 0 ((.int .i64 BH))).put (tybn_19.out.put 0 ((.int .i64 BH))) (by decide) 1 ((.int .i64 lv))).put ((tybn_19.out.put 0 ((.int .i64 BH))).put 1 ((.int .i64 lv))) (by decide) 2 (.slice NB n ND)).put (((tybn_19.out.put 0 ((.int .i64 BH))).put 1 ((.int .i64 lv))).put 2 (.slice NB n ND)) (by decide) 0 ((.int .i64 0))).put ((((tybn_19.out.put 0 ((.int .i64 BH))).put 1 ((.int .i64 lv))).put 2 (.slice NB n ND)).put 0 ((.int .i64 0))) (by decide) 1 ((.int .i64 0))).put (((((tybn_19.out.put 0 ((.int .i64 BH))).put 1 ((.int .i64 lv))).put 2 (.slice NB n ND)).put 0 ((.int .i64 0))).put 1 ((.int .i64 0))) (by decide) 2 (.slice none 0 0))
  have HB20 := Lib.hid (show Below w9.heap.size w9 w20 by rw [e20]; exact ((((((HB19.out.setCell (p := ⟨gn, 0, none⟩) hg20 ((.int .i64 BH))).setCell (p := ⟨gn, 1, none⟩) hg20 ((.int .i64 lv))).setCell (p := ⟨gn, 2, none⟩) hg20 (.slice NB n ND)).setCell (p := ⟨gn, 0, none⟩) hg20 ((.int .i64 0))).setCell (p := ⟨gn, 1, none⟩) hg20 ((.int .i64 0))).setCell (p := ⟨gn, 2, none⟩) hg20 (.slice none 0 0)))
  have tybn_20 := Lib.hid (show IsTy w20 (gn) 26 by rw [e20]; exact ((((((tybn_19.out.put 0 ((.int .i64 BH))).put 1 ((.int .i64 lv))).put 2 (.slice NB n ND)).put 0 ((.int .i64 0))).put 1 ((.int .i64 0))).put 2 (.slice none 0 0)))
  have bx_20 := Lib.hid (show Blk w20 _ _ by rw [e20]; exact ((((((bx_19.out.far (p := ⟨gn, 0, none⟩) (by show gn ≠ _; omega) ((.int .i64 BH))).far (p := ⟨gn, 1, none⟩) (by show gn ≠ _; omega) ((.int .i64 lv))).far (p := ⟨gn, 2, none⟩) (by show gn ≠ _; omega) (.slice NB n ND)).far (p := ⟨gn, 0, none⟩) (by show gn ≠ _; omega) ((.int .i64 0))).far (p := ⟨gn, 1, none⟩) (by show gn ≠ _; omega) ((.int .i64 0))).far (p := ⟨gn, 2, none⟩) (by show gn ≠ _; omega) (.slice none 0 0)))
  have r_20 := Lib.hid (KSI.ik n TL _ _ _ r_19.out k20)
  have z_20 := Lib.hid (KTI.ik BH lv n BP _ _ _ z_19.out k20)
  have tybx_20 := Lib.hid (show IsTy w20 _ _ by rw [e20]; exact ((((((tybx_19.out.far (p := ⟨gn, 0, none⟩) (by show gn ≠ _; omega) ((.int .i64 BH))).far (p := ⟨gn, 1, none⟩) (by show gn ≠ _; omega) ((.int .i64 lv))).far (p := ⟨gn, 2, none⟩) (by show gn ≠ _; omega) (.slice NB n ND)).far (p := ⟨gn, 0, none⟩) (by show gn ≠ _; omega) ((.int .i64 0))).far (p := ⟨gn, 1, none⟩) (by show gn ≠ _; omega) ((.int .i64 0))).far (p := ⟨gn, 2, none⟩) (by show gn ≠ _; omega) (.slice none 0 0)))
  have bn_20 := Lib.hid (show Blk w20 (gn) #[(.int .i64 0), (.int .i64 0), .slice none 0 0] by rw [e20]; exact ((((((bn_19.out.set (i := 0) (by simp) ((.int .i64 BH))).set (i := 1) (by simp) ((.int .i64 lv))).set (i := 2) (by simp) (.slice NB n ND)).set (i := 0) (by simp) ((.int .i64 0))).set (i := 1) (by simp) ((.int .i64 0))).set (i := 2) (by simp) (.slice none 0 0)))
  clear e20 k20 hg20
  clear fbn_0 fbn_1 fbn_2 fbn_l fbn_f
  clear fbg_0 fbg_1 fbg_2 fbg_3 fbg_4 fbg_l
  clear fbs_0 fbs_1 fbs_2 fbs_l
  clear hsz hlg hls
  obtain ⟨fbb_0, fbb_1, fbb_2, fbb_l, -⟩ := (bb_9.out.below HB20.out).o3
  obtain ⟨fbc_0, fbc_1, fbc_2, fbc_l, -⟩ := (bc_9.out.below HB20.out).o3
  obtain ⟨fbn_0, fbn_1, fbn_2, fbn_l, -⟩ := bn_20.out.o3
  obtain ⟨fbx_0, fbx_1, fbx_2, fbx_l, -⟩ := bx_20.out.o3
  refine Rel.region3 62 (by kernel_rfl) (by kernel_rfl) (by kernel_rfl) ?_
  simp only [List.take_succ_cons, List.take_zero, List.drop_succ_cons, List.drop_zero, List.filterMap_cons, List.filterMap_nil]
  iterate 2 (refine Rel.opz (hn := ?_); (try simp only [List.nil_append, List.cons_append]))
  refine Rel.callK 38 (KV (.bool true)) (KV.st _) (Rel.gno rfl) ?_ ?_
  · intro a W hb hd hbase
    have q1 : a.eval (.tmp 128) = _ := (Rel.dep_at hd 0 rfl rfl)
    have q2 : a.eval (.tmp 129) = _ := (Rel.dep_at hd 1 rfl rfl)
    refine ⟨#[a.eval (.tmp 128), a.eval (.tmp 129)], ?_, by rw [q1, q2]; exact HSI.out _ (KS.st _ _ _ _ _ t_9.out (HB20.out.trans (hb.mono HB20.out.size))) ((KSI.ik n TL).st _ _ _ r_20.out hb).ks⟩
    clear hd hbase hb
    go_simp
    (first | done | rfl | (refine ⟨?_, ?_⟩ <;> rfl))
  (try simp only [List.nil_append, List.cons_append])
  iterate 17 (refine Rel.opz (hn := ?_); (try simp only [List.nil_append, List.cons_append]))
  refine Rel.callK 25 (KT 0 0 0 []) (KT.st _ _ _ _) (Rel.gyes 18 true _ rfl rfl rfl) ?_ ?_
  · intro a W hb hd hbase
    have q1 : a.eval (.tmp 147) = _ := (Rel.dep_at hd 19 rfl rfl)
    refine ⟨#[a.eval (.tmp 147)], ?_, by rw [q1]; exact told_K ((KTI.ik 0 0 0 []).st _ _ _ b_9.out (HB20.out.trans (hb.mono HB20.out.size))).kt⟩
    clear hd hbase hb
    go_simp
    (first | done | rfl | (refine ⟨?_, ?_⟩ <;> rfl))
  (try simp only [List.nil_append, List.cons_append])
  (refine Rel.opz (hn := ?_); (try simp only [List.nil_append, List.cons_append]))
  refine Rel.callK 24 (KV (.bool true)) (KV.st _) (Rel.gyes 18 true _ rfl rfl rfl) ?_ ?_
  · intro a W hb hd hbase
    have q2 : a.eval (.tmp 149) = _ := (Rel.dep_at hd 21 rfl rfl)
    refine ⟨#[a.eval (.tmp 148), a.eval (.tmp 149)], ?_, by rw [q2]; exact HSB.out _ (Rel.dep_at hd 20 rfl rfl) (KTI.zero _).kt⟩
    clear hd hbase hb
    go_simp
    (first | done | rfl | (refine ⟨?_, ?_⟩ <;> rfl))
  (try simp only [List.nil_append, List.cons_append])
  iterate 18 (refine Rel.opz (hn := ?_); (try simp only [List.nil_append, List.cons_append]))
  refine Rel.callK 25 (KT 0 0 0 []) (KT.st _ _ _ _) (Rel.gyes 39 true _ rfl rfl rfl) ?_ ?_
  · intro a W hb hd hbase
    have q1 : a.eval (.tmp 168) = _ := (Rel.dep_at hd 40 rfl rfl)
    refine ⟨#[a.eval (.tmp 168)], ?_, by rw [q1]; exact told_K ((KTI.ik 0 0 0 []).st _ _ _ c_9.out (HB20.out.trans (hb.mono HB20.out.size))).kt⟩
    clear hd hbase hb
    go_simp
    (first | done | rfl | (refine ⟨?_, ?_⟩ <;> rfl))
  (try simp only [List.nil_append, List.cons_append])
  (refine Rel.opz (hn := ?_); (try simp only [List.nil_append, List.cons_append]))
  refine Rel.callK 24 (KV (.bool true)) (KV.st _) (Rel.gyes 39 true _ rfl rfl rfl) ?_ ?_
  · intro a W hb hd hbase
    have q2 : a.eval (.tmp 170) = _ := (Rel.dep_at hd 42 rfl rfl)
    refine ⟨#[a.eval (.tmp 169), a.eval (.tmp 170)], ?_, by rw [q2]; exact HSC.out _ (Rel.dep_at hd 41 rfl rfl) (KTI.zero _).kt⟩
    clear hd hbase hb
    go_simp
    (first | done | rfl | (refine ⟨?_, ?_⟩ <;> rfl))
  (try simp only [List.nil_append, List.cons_append])
  iterate 17 (refine Rel.opz (hn := ?_); (try simp only [List.nil_append, List.cons_append]))
  refine Rel.callK 15 (KV (.bool true)) (KV.st _) (Rel.gyes 60 true _ rfl rfl rfl) ?_ ?_
  · intro a W hb hd hbase
    refine ⟨#[], ?_, awake_K _ (HTabw9.out.below (HB20.out.trans (hb.mono HB20.out.size)))⟩
    clear hd hbase hb
    go_simp
    (first | done | rfl | (refine ⟨?_, ?_⟩ <;> rfl))
  (try simp only [List.nil_append, List.cons_append])
  refine Rel.done3 ?_
  intro x w21 h21 hx
  simp only [Rel.facts, Nat.zero_add, Nat.reduceAdd] at hx
  clear fbb_0 fbb_1 fbb_2 fbb_l
  clear fbc_0 fbc_1 fbc_2 fbc_l
  clear fbn_0 fbn_1 fbn_2 fbn_l
  clear fbx_0 fbx_1 fbx_2 fbx_l
  obtain ⟨e0, e1, e2, e3, e4, e5, e6, e7, e8, e9, e10, e11, e12, e13, e14, e15, e16, e17, e18, e19, _, e21, e22, e23, e24, e25, e26, e27, e28, e29, e30, e31, e32, e33, e34, e35, e36, e37, e38, e39, e40, _, e42, e43, e44, e45, e46, e47, e48, e49, e50, e51, e52, e53, e54, e55, e56, e57, e58, e59, e60, e61, _⟩ := hx
  have e2 : x 2 = _ := e2
  have e22 : x 22 = _ := e22
  have e43 : x 43 = _ := e43
  have e61 : x 61 = _ := e61
  simp only [Rel.fill, Nat.zero_add, Nat.reduceAdd, e0, e1, e2, e3, e4, e5, e6, e7, e8, e9, e10, e11, e12, e13, e14, e15, e16, e17, e18, e19, e21, e22, e23, e24, e25, e26, e27, e28, e29, e30, e31, e32, e33, e34, e35, e36, e37, e38, e39, e40, e42, e43, e44, e45, e46, e47, e48, e49, e50, e51, e52, e53, e54, e55, e56, e57, e58, e59, e60, e61]
  simp only [Act.put, List.setIfInBounds_toArray, List.set_cons_zero, List.set_cons_succ]
  clear e0 e1 e2 e3 e4 e5 e6 e7 e8 e9 e10 e11 e12 e13 e14 e15 e16 e17 e18 e19 e21 e22 e23 e24 e25 e26 e27 e28 e29 e30 e31 e32 e33 e34 e35 e36 e37 e38 e39 e40 e42 e43 e44 e45 e46 e47 e48 e49 e50 e51 e52 e53 e54 e55 e56 e57 e58 e59 e60 e61
  have HB21 := Lib.hid (HB20.out.trans (h21.mono HB20.out.size))
  clear h21
  go_wp2
  go_ret
  exact ⟨by first | rfl | (simp; done), HOw9.out.trans (HB21.out.mono HOw9.out.size)⟩
end Go.Proofs.YtdeapbihbhoefaaDoor
