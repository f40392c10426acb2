/- Part 23 of the texts of the claim: LTx_as, LTx_al, LTx_bs, LTx_bl, LTxAll, RtRow. -/
import Derived.Test.YtdeapbihbhoefaaGreatDoorMt22
import Derived.Test.YtdeapbihbhoefaaGreatDoorMt19

/- ProtectTexts, case as. -/
namespace Go.Proofs.YtdeapbihbhoefaaGreatDoor
open Go.RowKit
open Calm (bcell Blk)
set_option maxRecDepth 100000 in
set_option maxHeartbeats 8000000 in
theorem texts_as (lk ht rc : Int) (M L : Nat) (ts gs : List Int) (s : ByteArray) (u : Value) (w : World) (hTab : RTab w) (hM : M = ts.length) (hL : L = gs.length) (b0 : M ≤ 9 ∧ L ≤ 9) (b1 : s.size ≤ 300) (c0 : guardErr lk ht rc ts gs = 0) (hu : KG lk ht rc M ts L gs u w) :
    Calls Tryz.prog 3 #[u, .string s] w fun r w' => r = .returned (.bool true) ∧ Below w.heap.size w w' := by
  obtain ⟨A1, c1, A2, c2, rfl, hT, hG⟩ := hu
  have HU := Lib.hid (show KG lk ht rc M ts L gs (.agg #[(.int .i64 lk), (.int .i64 ht), .slice A1 M c1, (.int .i64 rc), .slice A2 L c2]) w from ⟨_, _, _, _, rfl, hT, hG⟩)
  have HSH : Hid (∀ W, KG lk ht rc M ts L gs (.agg #[(.int .i64 lk), (.int .i64 ht), .slice A1 M c1, (.int .i64 rc), .slice A2 L c2]) W → Calls Tryz.prog 5 #[.agg #[(.int .i64 lk), (.int .i64 ht), .slice A1 M c1, (.int .i64 rc), .slice A2 L c2]] W (KP (KV (.bool true)) W)) := Lib.hid (fun W q => by have := Short_K q; rwa [decide_eq_true b0] at this)
  have hd3 : decide ((300 : Int) < (s.size : Int)) = false := decide_eq_false (by omega)
  obtain ⟨b3, b4⟩ := b0
  obtain ⟨E, hE⟩ : ∃ E, E = guardErr lk ht rc ts gs := ⟨_, rfl⟩
  rw [← hE] at c0
  obtain ⟨tg, htg⟩ : ∃ tg : ByteArray, tg = ⟨(textG lk ht rc ts gs).toArray⟩ := ⟨_, rfl⟩
  have HGU : Hid (∀ {x : Value} (W : World), KG lk ht rc M ts L gs x W → Calls Tryz.prog 8 #[x] W (KP (KGI lk ht rc M ts L gs) W)) := Lib.hid (fun W q => guard_K hM hL (by omega) (by omega) q)
  have HPG : Hid (∀ {a : Value} (W : World), RTab W → KG lk ht rc M ts L gs a W → Calls Tryz.prog 7 #[a] W (KP (K2 (KV (.string tg)) (KV (.int .i64 0))) W)) := Lib.hid (fun W q0 q => by
    have := cPrint hM hL (by omega) (by omega) q0.tab q
    rw [textR_ok (hE ▸ c0), ← hE, c0] at this
    rw [htg]
    exact this)
  have HCG : Hid (∀ {a : Value} (W : World), KG lk ht rc M ts L gs a W → Calls Tryz.prog 10 #[a] W (KP (KV (.int .i64 0)) W)) := Lib.hid (fun W q => by
    obtain ⟨B1, d1, B2, d2, rfl, qT, qG⟩ := q
    have := pGuard_any lk ht rc ts gs B1 B2 d1 d2 W qT qG (by omega) (by omega)
    rw [← hM, ← hL, ← hE, c0] at this
    exact this.mono fun e W' ⟨k1, k2⟩ => ⟨_, k1, rfl, k2⟩)
  have hPT : ∀ W : World, RTab W → Calls Tryz.prog 9 #[.string s] W (KP (KPG (parF s.data.toList)) W) := fun W q => parse_P s W q
  have hPR : ∀ W : World, Calls Tryz.prog 12 #[.string s] W (KP (KPG (parF s.data.toList)) W) := fun W => rParse_P s W
  have hpl := parF_len s.data.toList
  obtain ⟨PQ, hPQ⟩ : ∃ PQ, PQ = parF s.data.toList := ⟨_, rfl⟩
  rw [← hPQ] at hPT hPR hpl
  obtain ⟨pl, ph, pr, pt, pg, PE⟩ := PQ
  obtain ⟨PM, hPM⟩ : ∃ PM, PM = pt.length := ⟨_, rfl⟩
  obtain ⟨PL, hPL⟩ : ∃ PL, PL = pg.length := ⟨_, rfl⟩
  have HPT : Hid (∀ W : World, RTab W → Calls Tryz.prog 9 #[.string s] W (KP (K2 (KG pl ph pr PM pt PL pg) (KV (.int .i64 PE))) W)) := Lib.hid (fun W q => by rw [hPM, hPL]; exact hPT W q)
  have HPR : Hid (∀ W : World, Calls Tryz.prog 12 #[.string s] W (KP (K2 (KG pl ph pr PM pt PL pg) (KV (.int .i64 PE))) W)) := Lib.hid (fun W => by rw [hPM, hPL]; exact hPR W)
  have HSG : Hid (∀ {a y : Value} (W : World), KG pl ph pr PM pt PL pg a W → KG pl ph pr PM pt PL pg y W → Calls Tryz.prog 13 #[a, y] W (KP (KV (.bool true)) W)) := Lib.hid (fun W q q2 => sameGuard_T hPM hPL (by rw [hPM]; exact hpl.1) (by rw [hPL]; exact hpl.2) q q2)
  have HAW : Hid (∀ W : World, PTab W → Calls Tryz.prog 6 #[] W (KP (KV (.bool true)) W)) := Lib.hid (fun W q => (awake_any W q).mono fun e W' ⟨k1, k2⟩ => ⟨_, k1, rfl, k2⟩)
  have HRP : Hid (∀ {a : Value} (W : World), KG lk ht rc M ts L gs a W → Calls Tryz.prog 11 #[a] W (KP (KV (.string tg)) W)) := Lib.hid (fun W q => by rw [htg]; exact rPrint_K lk ht rc M L ts gs _ W hM hL (hE ▸ c0) q)
  have HTab := Lib.hid hTab
  clear hTab hM hL hT hG b1 b3 b4 hPT hPR hpl hPQ hPM hPL htg c0 hE
  go_enter Tryz.func3, Tryz.ntmps3
  have HB0 := Lib.hid (Below.refl w.heap.size w)
  go_wp2_with (go_at_call 5; refine name_calls ?_; intro w1 e1; refine Hid.out ?_)
  unfold Hid
  have h1 : Below w.heap.size w w1 := by rw [e1]; exact bel
  have HB1 := Lib.hid (HB0.out.trans (h1.mono HB0.out.size))
  have bg_1 := Lib.hid (show Blk w1 w.heap.size #[(.int .i64 lk), (.int .i64 ht), .slice A1 M c1, (.int .i64 rc), .slice A2 L c2] from by rw [e1]; (repeat (first | ((with_reducible refine Blk.at_ ?_); focus (first | rfl | (simp; done) | (simp; omega))) | (with_reducible refine Blk.alloc ?_ _) | (with_reducible refine Blk.below ?_ (by with_reducible assumption)) | (with_reducible refine Blk.drew ?_))))
  clear e1 h1
  refine (HSH.out _ (KG.st _ _ _ _ _ _ _ _ _ _ HU.out HB1.out)).mono ?_
  rintro r w2 ⟨v2, rfl, k2, h2⟩
  have bg_2 := Lib.hid (bg_1.out.below h2)
  have HB2 := Lib.hid (HB1.out.trans (h2.mono HB1.out.size))
  obtain rfl := k2
  clear h2
  have ug_rw2 := Lib.hid (KG.st _ _ _ _ _ _ _ _ _ _ HU.out HB2.out)
  have HTabw2 := Lib.hid (HTab.out.below HB2.out)
  have HZw2 := Lib.hid (Below.refl w2.heap.size w2)
  clear HU HTab
  obtain ⟨fbg_0, fbg_1, fbg_2, fbg_3, fbg_4, fbg_l, -⟩ := (bg_2.out.below HZw2.out).o5
  go_wp2_with (go_at_call 8; refine name_calls ?_; intro w3 e3; refine Hid.out ?_)
  unfold Hid
  have h3 : Below w2.heap.size w2 w3 := by rw [e3]; exact bel
  have HB3 := Lib.hid (HZw2.out.trans (h3.mono HZw2.out.size))
  clear e3 h3
  refine (HGU.out _ (KG.st _ _ _ _ _ _ _ _ _ _ ug_rw2.out HB3.out)).mono ?_
  rintro r w4 ⟨v4, rfl, k4, h4⟩
  have HB4 := Lib.hid (HB3.out.trans (h4.mono HB3.out.size))
  have g_4 := Lib.hid k4.kg
  clear k4 h4
  clear fbg_0 fbg_1 fbg_2 fbg_3 fbg_4 fbg_l
  go_wp2_with (go_at_call 7; refine name_calls ?_; intro w5 e5; refine Hid.out ?_)
  unfold Hid
  have h5 : Below w4.heap.size w4 w5 := by rw [e5]; exact bel
  have g_5 := Lib.hid (KG.st _ _ _ _ _ _ _ _ _ _ g_4.out h5)
  have HB5 := Lib.hid (HB4.out.trans (h5.mono HB4.out.size))
  clear e5 h5
  refine (HPG.out _ (HTabw2.out.below HB5.out) g_5.out).mono ?_
  rintro r w6 ⟨v6, rfl, k6, h6⟩
  have g_6 := Lib.hid (KG.st _ _ _ _ _ _ _ _ _ _ g_5.out h6)
  have HB6 := Lib.hid (HB5.out.trans (h6.mono HB5.out.size))
  obtain ⟨_, _, rfl, rfl, rfl⟩ := k6
  clear h6
  go_wp2_with (go_at_call 9; refine name_calls ?_; intro w7 e7; refine Hid.out ?_)
  unfold Hid
  have h7 : Below w6.heap.size w6 w7 := by rw [e7]; exact bel
  have HB7 := Lib.hid (HB6.out.trans (h7.mono HB6.out.size))
  clear e7 h7
  refine (HPT.out _ (HTabw2.out.below HB7.out)).mono ?_
  rintro r w8 ⟨v8, rfl, k8, h8⟩
  have HB8 := Lib.hid (HB7.out.trans (h8.mono HB7.out.size))
  obtain ⟨_, _, rfl, ⟨XA, Xa, XB, Xb, rfl, hpa, hpb⟩, rfl⟩ := k8
  have pX_8 := Lib.hid (show KG pl ph pr PM pt PL pg (.agg #[(.int .i64 pl), (.int .i64 ph), .slice XA PM Xa, (.int .i64 pr), .slice XB PL Xb]) w8 from ⟨_, _, _, _, rfl, hpa, hpb⟩)
  clear hpa hpb h8
  obtain ⟨fbg_0, fbg_1, fbg_2, fbg_3, fbg_4, fbg_l, -⟩ := (bg_2.out.below HB8.out).o5
  go_wp2_with (go_at_call 10; refine name_calls ?_; intro w9 e9; refine Hid.out ?_)
  unfold Hid
  have h9 : Below w8.heap.size w8 w9 := by rw [e9]; exact bel
  have pX_9 := Lib.hid (KG.st _ _ _ _ _ _ _ _ _ _ pX_8.out h9)
  have HB9 := Lib.hid (HB8.out.trans (h9.mono HB8.out.size))
  have bX_9 := Lib.hid (show Blk w9 w8.heap.size #[(.int .i64 pl), (.int .i64 ph), .slice XA PM Xa, (.int .i64 pr), .slice XB PL Xb] from by rw [e9]; exact Calm.Blk.new _ _ _)
  clear e9 h9
  refine (HCG.out _ (KG.st _ _ _ _ _ _ _ _ _ _ ug_rw2.out HB9.out)).mono ?_
  rintro r w10 ⟨v10, rfl, k10, h10⟩
  have pX_10 := Lib.hid (KG.st _ _ _ _ _ _ _ _ _ _ pX_9.out h10)
  have bX_10 := Lib.hid (bX_9.out.below h10)
  have HB10 := Lib.hid (HB9.out.trans (h10.mono HB9.out.size))
  obtain rfl := k10
  clear h10
  clear fbg_0 fbg_1 fbg_2 fbg_3 fbg_4 fbg_l
  obtain ⟨fbg_0, fbg_1, fbg_2, fbg_3, fbg_4, fbg_l, -⟩ := (bg_2.out.below HB10.out).o5
  go_wp2_with (go_at_call 11; refine name_calls ?_; intro w11 e11; refine Hid.out ?_)
  unfold Hid
  have h11 : Below w10.heap.size w10 w11 := by rw [e11]; exact bel
  have pX_11 := Lib.hid (KG.st _ _ _ _ _ _ _ _ _ _ pX_10.out h11)
  have bX_11 := Lib.hid (bX_10.out.below h11)
  have HB11 := Lib.hid (HB10.out.trans (h11.mono HB10.out.size))
  clear e11 h11
  refine (HRP.out _ (KG.st _ _ _ _ _ _ _ _ _ _ ug_rw2.out HB11.out)).mono ?_
  rintro r w12 ⟨v12, rfl, k12, h12⟩
  have pX_12 := Lib.hid (KG.st _ _ _ _ _ _ _ _ _ _ pX_11.out h12)
  have bX_12 := Lib.hid (bX_11.out.below h12)
  have HB12 := Lib.hid (HB11.out.trans (h12.mono HB11.out.size))
  obtain rfl := k12
  clear h12
  clear fbg_0 fbg_1 fbg_2 fbg_3 fbg_4 fbg_l
  go_wp2_with (go_at_call 12; refine name_calls ?_; intro w13 e13; refine Hid.out ?_)
  unfold Hid
  have h13 : Below w12.heap.size w12 w13 := by rw [e13]; exact bel
  have pX_13 := Lib.hid (KG.st _ _ _ _ _ _ _ _ _ _ pX_12.out h13)
  have bX_13 := Lib.hid (bX_12.out.below h13)
  have HB13 := Lib.hid (HB12.out.trans (h13.mono HB12.out.size))
  clear e13 h13
  refine (HPR.out _).mono ?_
  rintro r w14 ⟨v14, rfl, k14, h14⟩
  have pX_14 := Lib.hid (KG.st _ _ _ _ _ _ _ _ _ _ pX_13.out h14)
  have bX_14 := Lib.hid (bX_13.out.below h14)
  have HB14 := Lib.hid (HB13.out.trans (h14.mono HB13.out.size))
  obtain ⟨_, _, rfl, ⟨YA, Ya, YB, Yb, rfl, hpa, hpb⟩, rfl⟩ := k14
  have pY_14 := Lib.hid (show KG pl ph pr PM pt PL pg (.agg #[(.int .i64 pl), (.int .i64 ph), .slice YA PM Ya, (.int .i64 pr), .slice YB PL Yb]) w14 from ⟨_, _, _, _, rfl, hpa, hpb⟩)
  clear hpa hpb h14
  go_wp2
  refine name_world ?_
  intro w15 e15
  have h15 : Below w14.heap.size w14 w15 := by rw [e15]; exact bel
  have pX_15 := Lib.hid (KG.st _ _ _ _ _ _ _ _ _ _ pX_14.out h15)
  have pY_15 := Lib.hid (KG.st _ _ _ _ _ _ _ _ _ _ pY_14.out h15)
  have bX_15 := Lib.hid (bX_14.out.below h15)
  have HB15 := Lib.hid (HB14.out.trans (h15.mono HB14.out.size))
  have bY_15 := Lib.hid (show Blk w15 w14.heap.size #[(.int .i64 pl), (.int .i64 ph), .slice YA PM Ya, (.int .i64 pr), .slice YB PL Yb] from by rw [e15]; exact Calm.Blk.new _ _ _)
  clear e15 h15
  obtain ⟨fbX_0, fbX_1, fbX_2, fbX_3, fbX_4, fbX_l, -⟩ := bX_15.out.o5
  obtain ⟨fbY_0, fbY_1, fbY_2, fbY_3, fbY_4, fbY_l, -⟩ := bY_15.out.o5
  refine Rel.region3 22 (by kernel_rfl) (by kernel_rfl) (by kernel_rfl) ?_
  simp only [List.take_succ_cons, List.take_zero, List.drop_succ_cons, List.drop_zero, List.filterMap_cons, List.filterMap_nil]
  iterate 10 (refine Rel.opz (hn := ?_); (try simp only [List.nil_append, List.cons_append]))
  refine Rel.callK 14 (KG pl ph pr PM pt PL pg) (KG.st _ _ _ _ _ _ _) (Rel.gyes 8 true _ rfl rfl rfl) ?_ ?_
  · intro a W hb hd hbase
    have q1 : a.eval (.tmp 58) = _ := (Rel.dep_at hd 9 rfl rfl)
    refine ⟨#[a.eval (.tmp 58)], ?_, by rw [q1]; exact own_K (KG.st _ _ _ _ _ _ _ _ _ _ pX_15.out hb)⟩
    clear hd hbase hb
    go_simp
    (first | done | rfl | (refine ⟨?_, ?_⟩ <;> rfl))
  (try simp only [List.nil_append, List.cons_append])
  (refine Rel.opz (hn := ?_); (try simp only [List.nil_append, List.cons_append]))
  refine Rel.callK 13 (KV (.bool true)) (KV.st _) (Rel.gyes 8 true _ rfl rfl rfl) ?_ ?_
  · intro a W hb hd hbase
    have q2 : a.eval (.tmp 60) = _ := (Rel.dep_at hd 11 rfl rfl)
    refine ⟨#[a.eval (.tmp 59), a.eval (.tmp 60)], ?_, by rw [q2]; exact HSG.out _ (Rel.dep_at hd 10 rfl rfl) (KG.st _ _ _ _ _ _ _ _ _ _ pY_15.out hb)⟩
    clear hd hbase hb
    go_simp
    (first | done | rfl | (refine ⟨?_, ?_⟩ <;> rfl))
  (try simp only [List.nil_append, List.cons_append])
  iterate 7 (refine Rel.opz (hn := ?_); (try simp only [List.nil_append, List.cons_append]))
  refine Rel.callK 6 (KV (.bool true)) (KV.st _) (Rel.gyes 19 true _ rfl rfl rfl) ?_ ?_
  · intro a W hb hd hbase
    refine ⟨#[], ?_, HAW.out _ (HTabw2.out.below (HB15.out.trans (hb.mono HB15.out.size))).tab⟩
    clear hd hbase hb
    go_simp
    (first | done | rfl | (refine ⟨?_, ?_⟩ <;> rfl))
  (try simp only [List.nil_append, List.cons_append])
  (refine Rel.opz (hn := ?_); (try simp only [List.nil_append, List.cons_append]))
  refine Rel.done3 ?_
  intro x w16 h16 hx
  simp only [Rel.facts, Nat.zero_add, Nat.reduceAdd] at hx
  clear fbX_0 fbX_1 fbX_2 fbX_3 fbX_4 fbX_l
  clear fbY_0 fbY_1 fbY_2 fbY_3 fbY_4 fbY_l
  obtain ⟨e0, e1, e2, e3, e4, e5, e6, e7, e8, e9, _, e11, e12, e13, e14, e15, e16, e17, e18, e19, e20, e21, _⟩ := hx
  have e12 : x 12 = _ := e12
  have e20 : x 20 = _ := e20
  simp only [Rel.fill, Nat.zero_add, Nat.reduceAdd, e0, e1, e2, e3, e4, e5, e6, e7, e8, e9, e11, e12, e13, e14, e15, e16, e17, e18, e19, e20, e21]
  simp only [Act.put, List.setIfInBounds_toArray, List.set_cons_zero, List.set_cons_succ]
  clear e0 e1 e2 e3 e4 e5 e6 e7 e8 e9 e11 e12 e13 e14 e15 e16 e17 e18 e19 e20 e21
  have pX_16 := Lib.hid (KG.st _ _ _ _ _ _ _ _ _ _ pX_15.out h16)
  have pY_16 := Lib.hid (KG.st _ _ _ _ _ _ _ _ _ _ pY_15.out h16)
  have bX_16 := Lib.hid (bX_15.out.below h16)
  have bY_16 := Lib.hid (bY_15.out.below h16)
  have HB16 := Lib.hid (HB15.out.trans (h16.mono HB15.out.size))
  clear h16
  go_wp2
  go_ret
  exact ⟨by first | rfl | (simp; done), HB2.out.trans (HB16.out.mono HB2.out.size)⟩
end Go.Proofs.YtdeapbihbhoefaaGreatDoor

/- ProtectTexts, case al. -/
namespace Go.Proofs.YtdeapbihbhoefaaGreatDoor
open Go.RowKit
open Calm (bcell Blk)
set_option maxRecDepth 100000 in
set_option maxHeartbeats 8000000 in
theorem texts_al (lk ht rc : Int) (M L : Nat) (ts gs : List Int) (s : ByteArray) (u : Value) (w : World) (hTab : RTab w) (hM : M = ts.length) (hL : L = gs.length) (b0 : M ≤ 9 ∧ L ≤ 9) (b1 : s.size = 4097) (c0 : guardErr lk ht rc ts gs = 0) (hu : KG lk ht rc M ts L gs u w) :
    Calls Tryz.prog 3 #[u, .string s] w fun r w' => r = .returned (.bool true) ∧ Below w.heap.size w w' := by
  obtain ⟨A1, c1, A2, c2, rfl, hT, hG⟩ := hu
  have HU := Lib.hid (show KG lk ht rc M ts L gs (.agg #[(.int .i64 lk), (.int .i64 ht), .slice A1 M c1, (.int .i64 rc), .slice A2 L c2]) w from ⟨_, _, _, _, rfl, hT, hG⟩)
  have HSH : Hid (∀ W, KG lk ht rc M ts L gs (.agg #[(.int .i64 lk), (.int .i64 ht), .slice A1 M c1, (.int .i64 rc), .slice A2 L c2]) W → Calls Tryz.prog 5 #[.agg #[(.int .i64 lk), (.int .i64 ht), .slice A1 M c1, (.int .i64 rc), .slice A2 L c2]] W (KP (KV (.bool true)) W)) := Lib.hid (fun W q => by have := Short_K q; rwa [decide_eq_true b0] at this)
  have hl3 : (300 : Int) < (s.size : Int) := by omega
  have hd3 : decide ((300 : Int) < (s.size : Int)) = true := decide_eq_true hl3
  have hn3 : ((s.size : Int) != 4097) = false := by simp; omega
  obtain ⟨b3, b4⟩ := b0
  obtain ⟨E, hE⟩ : ∃ E, E = guardErr lk ht rc ts gs := ⟨_, rfl⟩
  rw [← hE] at c0
  obtain ⟨tg, htg⟩ : ∃ tg : ByteArray, tg = ⟨(textG lk ht rc ts gs).toArray⟩ := ⟨_, rfl⟩
  have HGU : Hid (∀ {x : Value} (W : World), KG lk ht rc M ts L gs x W → Calls Tryz.prog 8 #[x] W (KP (KGI lk ht rc M ts L gs) W)) := Lib.hid (fun W q => guard_K hM hL (by omega) (by omega) q)
  have HPG : Hid (∀ {a : Value} (W : World), RTab W → KG lk ht rc M ts L gs a W → Calls Tryz.prog 7 #[a] W (KP (K2 (KV (.string tg)) (KV (.int .i64 0))) W)) := Lib.hid (fun W q0 q => by
    have := cPrint hM hL (by omega) (by omega) q0.tab q
    rw [textR_ok (hE ▸ c0), ← hE, c0] at this
    rw [htg]
    exact this)
  have HCG : Hid (∀ {a : Value} (W : World), KG lk ht rc M ts L gs a W → Calls Tryz.prog 10 #[a] W (KP (KV (.int .i64 0)) W)) := Lib.hid (fun W q => by
    obtain ⟨B1, d1, B2, d2, rfl, qT, qG⟩ := q
    have := pGuard_any lk ht rc ts gs B1 B2 d1 d2 W qT qG (by omega) (by omega)
    rw [← hM, ← hL, ← hE, c0] at this
    exact this.mono fun e W' ⟨k1, k2⟩ => ⟨_, k1, rfl, k2⟩)
  have hPT : ∀ W : World, RTab W → Calls Tryz.prog 9 #[.string s] W (KP (KPG (parF s.data.toList)) W) := fun W q => parse_P s W q
  have hPR : ∀ W : World, Calls Tryz.prog 12 #[.string s] W (KP (KPG (parF s.data.toList)) W) := fun W => rParse_P s W
  have hpl := parF_len s.data.toList
  obtain ⟨PQ, hPQ⟩ : ∃ PQ, PQ = parF s.data.toList := ⟨_, rfl⟩
  rw [← hPQ] at hPT hPR hpl
  obtain ⟨pl, ph, pr, pt, pg, PE⟩ := PQ
  obtain ⟨PM, hPM⟩ : ∃ PM, PM = pt.length := ⟨_, rfl⟩
  obtain ⟨PL, hPL⟩ : ∃ PL, PL = pg.length := ⟨_, rfl⟩
  have HPT : Hid (∀ W : World, RTab W → Calls Tryz.prog 9 #[.string s] W (KP (K2 (KG pl ph pr PM pt PL pg) (KV (.int .i64 PE))) W)) := Lib.hid (fun W q => by rw [hPM, hPL]; exact hPT W q)
  have HPR : Hid (∀ W : World, Calls Tryz.prog 12 #[.string s] W (KP (K2 (KG pl ph pr PM pt PL pg) (KV (.int .i64 PE))) W)) := Lib.hid (fun W => by rw [hPM, hPL]; exact hPR W)
  have HSG : Hid (∀ {a y : Value} (W : World), KG pl ph pr PM pt PL pg a W → KG pl ph pr PM pt PL pg y W → Calls Tryz.prog 13 #[a, y] W (KP (KV (.bool true)) W)) := Lib.hid (fun W q q2 => sameGuard_T hPM hPL (by rw [hPM]; exact hpl.1) (by rw [hPL]; exact hpl.2) q q2)
  have HAW : Hid (∀ W : World, PTab W → Calls Tryz.prog 6 #[] W (KP (KV (.bool true)) W)) := Lib.hid (fun W q => (awake_any W q).mono fun e W' ⟨k1, k2⟩ => ⟨_, k1, rfl, k2⟩)
  have HRP : Hid (∀ {a : Value} (W : World), KG lk ht rc M ts L gs a W → Calls Tryz.prog 11 #[a] W (KP (KV (.string tg)) W)) := Lib.hid (fun W q => by rw [htg]; exact rPrint_K lk ht rc M L ts gs _ W hM hL (hE ▸ c0) q)
  have HTab := Lib.hid hTab
  clear hTab hM hL hT hG b1 b3 b4 hPT hPR hpl hPQ hPM hPL htg c0 hE
  go_enter Tryz.func3, Tryz.ntmps3
  have HB0 := Lib.hid (Below.refl w.heap.size w)
  go_wp2_with (go_at_call 5; refine name_calls ?_; intro w1 e1; refine Hid.out ?_)
  unfold Hid
  have h1 : Below w.heap.size w w1 := by rw [e1]; exact bel
  have HB1 := Lib.hid (HB0.out.trans (h1.mono HB0.out.size))
  have bg_1 := Lib.hid (show Blk w1 w.heap.size #[(.int .i64 lk), (.int .i64 ht), .slice A1 M c1, (.int .i64 rc), .slice A2 L c2] from by rw [e1]; (repeat (first | ((with_reducible refine Blk.at_ ?_); focus (first | rfl | (simp; done) | (simp; omega))) | (with_reducible refine Blk.alloc ?_ _) | (with_reducible refine Blk.below ?_ (by with_reducible assumption)) | (with_reducible refine Blk.drew ?_))))
  clear e1 h1
  refine (HSH.out _ (KG.st _ _ _ _ _ _ _ _ _ _ HU.out HB1.out)).mono ?_
  rintro r w2 ⟨v2, rfl, k2, h2⟩
  have bg_2 := Lib.hid (bg_1.out.below h2)
  have HB2 := Lib.hid (HB1.out.trans (h2.mono HB1.out.size))
  obtain rfl := k2
  clear h2
  have ug_rw2 := Lib.hid (KG.st _ _ _ _ _ _ _ _ _ _ HU.out HB2.out)
  have HTabw2 := Lib.hid (HTab.out.below HB2.out)
  have HZw2 := Lib.hid (Below.refl w2.heap.size w2)
  clear HU HTab
  obtain ⟨fbg_0, fbg_1, fbg_2, fbg_3, fbg_4, fbg_l, -⟩ := (bg_2.out.below HZw2.out).o5
  go_wp2_with (go_at_call 8; refine name_calls ?_; intro w3 e3; refine Hid.out ?_)
  unfold Hid
  have h3 : Below w2.heap.size w2 w3 := by rw [e3]; exact bel
  have HB3 := Lib.hid (HZw2.out.trans (h3.mono HZw2.out.size))
  clear e3 h3
  refine (HGU.out _ (KG.st _ _ _ _ _ _ _ _ _ _ ug_rw2.out HB3.out)).mono ?_
  rintro r w4 ⟨v4, rfl, k4, h4⟩
  have HB4 := Lib.hid (HB3.out.trans (h4.mono HB3.out.size))
  have g_4 := Lib.hid k4.kg
  clear k4 h4
  clear fbg_0 fbg_1 fbg_2 fbg_3 fbg_4 fbg_l
  go_wp2_with (go_at_call 7; refine name_calls ?_; intro w5 e5; refine Hid.out ?_)
  unfold Hid
  have h5 : Below w4.heap.size w4 w5 := by rw [e5]; exact bel
  have g_5 := Lib.hid (KG.st _ _ _ _ _ _ _ _ _ _ g_4.out h5)
  have HB5 := Lib.hid (HB4.out.trans (h5.mono HB4.out.size))
  clear e5 h5
  refine (HPG.out _ (HTabw2.out.below HB5.out) g_5.out).mono ?_
  rintro r w6 ⟨v6, rfl, k6, h6⟩
  have g_6 := Lib.hid (KG.st _ _ _ _ _ _ _ _ _ _ g_5.out h6)
  have HB6 := Lib.hid (HB5.out.trans (h6.mono HB5.out.size))
  obtain ⟨_, _, rfl, rfl, rfl⟩ := k6
  clear h6
  go_wp2_with (go_at_call 9; refine name_calls ?_; intro w7 e7; refine Hid.out ?_)
  unfold Hid
  have h7 : Below w6.heap.size w6 w7 := by rw [e7]; exact bel
  have HB7 := Lib.hid (HB6.out.trans (h7.mono HB6.out.size))
  clear e7 h7
  refine (HPT.out _ (HTabw2.out.below HB7.out)).mono ?_
  rintro r w8 ⟨v8, rfl, k8, h8⟩
  have HB8 := Lib.hid (HB7.out.trans (h8.mono HB7.out.size))
  obtain ⟨_, _, rfl, ⟨XA, Xa, XB, Xb, rfl, hpa, hpb⟩, rfl⟩ := k8
  have pX_8 := Lib.hid (show KG pl ph pr PM pt PL pg (.agg #[(.int .i64 pl), (.int .i64 ph), .slice XA PM Xa, (.int .i64 pr), .slice XB PL Xb]) w8 from ⟨_, _, _, _, rfl, hpa, hpb⟩)
  clear hpa hpb h8
  obtain ⟨fbg_0, fbg_1, fbg_2, fbg_3, fbg_4, fbg_l, -⟩ := (bg_2.out.below HB8.out).o5
  go_wp2_with (go_at_call 10; refine name_calls ?_; intro w9 e9; refine Hid.out ?_)
  unfold Hid
  have h9 : Below w8.heap.size w8 w9 := by rw [e9]; exact bel
  have pX_9 := Lib.hid (KG.st _ _ _ _ _ _ _ _ _ _ pX_8.out h9)
  have HB9 := Lib.hid (HB8.out.trans (h9.mono HB8.out.size))
  have bX_9 := Lib.hid (show Blk w9 w8.heap.size #[(.int .i64 pl), (.int .i64 ph), .slice XA PM Xa, (.int .i64 pr), .slice XB PL Xb] from by rw [e9]; exact Calm.Blk.new _ _ _)
  clear e9 h9
  refine (HCG.out _ (KG.st _ _ _ _ _ _ _ _ _ _ ug_rw2.out HB9.out)).mono ?_
  rintro r w10 ⟨v10, rfl, k10, h10⟩
  have pX_10 := Lib.hid (KG.st _ _ _ _ _ _ _ _ _ _ pX_9.out h10)
  have bX_10 := Lib.hid (bX_9.out.below h10)
  have HB10 := Lib.hid (HB9.out.trans (h10.mono HB9.out.size))
  obtain rfl := k10
  clear h10
  clear fbg_0 fbg_1 fbg_2 fbg_3 fbg_4 fbg_l
  obtain ⟨fbg_0, fbg_1, fbg_2, fbg_3, fbg_4, fbg_l, -⟩ := (bg_2.out.below HB10.out).o5
  go_wp2_with (go_at_call 11; refine name_calls ?_; intro w11 e11; refine Hid.out ?_)
  unfold Hid
  have h11 : Below w10.heap.size w10 w11 := by rw [e11]; exact bel
  have pX_11 := Lib.hid (KG.st _ _ _ _ _ _ _ _ _ _ pX_10.out h11)
  have bX_11 := Lib.hid (bX_10.out.below h11)
  have HB11 := Lib.hid (HB10.out.trans (h11.mono HB10.out.size))
  clear e11 h11
  refine (HRP.out _ (KG.st _ _ _ _ _ _ _ _ _ _ ug_rw2.out HB11.out)).mono ?_
  rintro r w12 ⟨v12, rfl, k12, h12⟩
  have pX_12 := Lib.hid (KG.st _ _ _ _ _ _ _ _ _ _ pX_11.out h12)
  have bX_12 := Lib.hid (bX_11.out.below h12)
  have HB12 := Lib.hid (HB11.out.trans (h12.mono HB11.out.size))
  obtain rfl := k12
  clear h12
  clear fbg_0 fbg_1 fbg_2 fbg_3 fbg_4 fbg_l
  go_wp2_with (go_at_call 12; refine name_calls ?_; intro w13 e13; refine Hid.out ?_)
  unfold Hid
  have h13 : Below w12.heap.size w12 w13 := by rw [e13]; exact bel
  have pX_13 := Lib.hid (KG.st _ _ _ _ _ _ _ _ _ _ pX_12.out h13)
  have bX_13 := Lib.hid (bX_12.out.below h13)
  have HB13 := Lib.hid (HB12.out.trans (h13.mono HB12.out.size))
  clear e13 h13
  refine (HPR.out _).mono ?_
  rintro r w14 ⟨v14, rfl, k14, h14⟩
  have pX_14 := Lib.hid (KG.st _ _ _ _ _ _ _ _ _ _ pX_13.out h14)
  have bX_14 := Lib.hid (bX_13.out.below h14)
  have HB14 := Lib.hid (HB13.out.trans (h14.mono HB13.out.size))
  obtain ⟨_, _, rfl, ⟨YA, Ya, YB, Yb, rfl, hpa, hpb⟩, rfl⟩ := k14
  have pY_14 := Lib.hid (show KG pl ph pr PM pt PL pg (.agg #[(.int .i64 pl), (.int .i64 ph), .slice YA PM Ya, (.int .i64 pr), .slice YB PL Yb]) w14 from ⟨_, _, _, _, rfl, hpa, hpb⟩)
  clear hpa hpb h14
  go_wp2
  refine name_world ?_
  intro w15 e15
  have h15 : Below w14.heap.size w14 w15 := by rw [e15]; exact bel
  have pX_15 := Lib.hid (KG.st _ _ _ _ _ _ _ _ _ _ pX_14.out h15)
  have pY_15 := Lib.hid (KG.st _ _ _ _ _ _ _ _ _ _ pY_14.out h15)
  have bX_15 := Lib.hid (bX_14.out.below h15)
  have HB15 := Lib.hid (HB14.out.trans (h15.mono HB14.out.size))
  have bY_15 := Lib.hid (show Blk w15 w14.heap.size #[(.int .i64 pl), (.int .i64 ph), .slice YA PM Ya, (.int .i64 pr), .slice YB PL Yb] from by rw [e15]; exact Calm.Blk.new _ _ _)
  clear e15 h15
  obtain ⟨fbX_0, fbX_1, fbX_2, fbX_3, fbX_4, fbX_l, -⟩ := bX_15.out.o5
  obtain ⟨fbY_0, fbY_1, fbY_2, fbY_3, fbY_4, fbY_l, -⟩ := bY_15.out.o5
  refine Rel.region3 22 (by kernel_rfl) (by kernel_rfl) (by kernel_rfl) ?_
  simp only [List.take_succ_cons, List.take_zero, List.drop_succ_cons, List.drop_zero, List.filterMap_cons, List.filterMap_nil]
  iterate 10 (refine Rel.opz (hn := ?_); (try simp only [List.nil_append, List.cons_append]))
  refine Rel.callK 14 (KG pl ph pr PM pt PL pg) (KG.st _ _ _ _ _ _ _) (Rel.gyes 8 true _ rfl rfl rfl) ?_ ?_
  · intro a W hb hd hbase
    have q1 : a.eval (.tmp 58) = _ := (Rel.dep_at hd 9 rfl rfl)
    refine ⟨#[a.eval (.tmp 58)], ?_, by rw [q1]; exact own_K (KG.st _ _ _ _ _ _ _ _ _ _ pX_15.out hb)⟩
    clear hd hbase hb
    go_simp
    (first | done | rfl | (refine ⟨?_, ?_⟩ <;> rfl))
  (try simp only [List.nil_append, List.cons_append])
  (refine Rel.opz (hn := ?_); (try simp only [List.nil_append, List.cons_append]))
  refine Rel.callK 13 (KV (.bool true)) (KV.st _) (Rel.gyes 8 true _ rfl rfl rfl) ?_ ?_
  · intro a W hb hd hbase
    have q2 : a.eval (.tmp 60) = _ := (Rel.dep_at hd 11 rfl rfl)
    refine ⟨#[a.eval (.tmp 59), a.eval (.tmp 60)], ?_, by rw [q2]; exact HSG.out _ (Rel.dep_at hd 10 rfl rfl) (KG.st _ _ _ _ _ _ _ _ _ _ pY_15.out hb)⟩
    clear hd hbase hb
    go_simp
    (first | done | rfl | (refine ⟨?_, ?_⟩ <;> rfl))
  (try simp only [List.nil_append, List.cons_append])
  iterate 7 (refine Rel.opz (hn := ?_); (try simp only [List.nil_append, List.cons_append]))
  refine Rel.callK 6 (KV (.bool true)) (KV.st _) (Rel.gyes 19 true _ rfl rfl rfl) ?_ ?_
  · intro a W hb hd hbase
    refine ⟨#[], ?_, HAW.out _ (HTabw2.out.below (HB15.out.trans (hb.mono HB15.out.size))).tab⟩
    clear hd hbase hb
    go_simp
    (first | done | rfl | (refine ⟨?_, ?_⟩ <;> rfl))
  (try simp only [List.nil_append, List.cons_append])
  (refine Rel.opz (hn := ?_); (try simp only [List.nil_append, List.cons_append]))
  refine Rel.done3 ?_
  intro x w16 h16 hx
  simp only [Rel.facts, Nat.zero_add, Nat.reduceAdd] at hx
  clear fbX_0 fbX_1 fbX_2 fbX_3 fbX_4 fbX_l
  clear fbY_0 fbY_1 fbY_2 fbY_3 fbY_4 fbY_l
  obtain ⟨e0, e1, e2, e3, e4, e5, e6, e7, e8, e9, _, e11, e12, e13, e14, e15, e16, e17, e18, e19, e20, e21, _⟩ := hx
  have e12 : x 12 = _ := e12
  have e20 : x 20 = _ := e20
  simp only [Rel.fill, Nat.zero_add, Nat.reduceAdd, e0, e1, e2, e3, e4, e5, e6, e7, e8, e9, e11, e12, e13, e14, e15, e16, e17, e18, e19, e20, e21]
  simp only [Act.put, List.setIfInBounds_toArray, List.set_cons_zero, List.set_cons_succ]
  clear e0 e1 e2 e3 e4 e5 e6 e7 e8 e9 e11 e12 e13 e14 e15 e16 e17 e18 e19 e20 e21
  have pX_16 := Lib.hid (KG.st _ _ _ _ _ _ _ _ _ _ pX_15.out h16)
  have pY_16 := Lib.hid (KG.st _ _ _ _ _ _ _ _ _ _ pY_15.out h16)
  have bX_16 := Lib.hid (bX_15.out.below h16)
  have bY_16 := Lib.hid (bY_15.out.below h16)
  have HB16 := Lib.hid (HB15.out.trans (h16.mono HB15.out.size))
  clear h16
  go_wp2
  go_ret
  exact ⟨by first | rfl | (simp; done), HB2.out.trans (HB16.out.mono HB2.out.size)⟩
end Go.Proofs.YtdeapbihbhoefaaGreatDoor

/- ProtectTexts, case bs. -/
namespace Go.Proofs.YtdeapbihbhoefaaGreatDoor
open Go.RowKit
open Calm (bcell Blk)
set_option maxRecDepth 100000 in
set_option maxHeartbeats 8000000 in
theorem texts_bs (lk ht rc : Int) (M L : Nat) (ts gs : List Int) (s : ByteArray) (u : Value) (w : World) (hTab : RTab w) (hM : M = ts.length) (hL : L = gs.length) (b0 : M ≤ 9 ∧ L ≤ 9) (b1 : s.size ≤ 300) (c0 : ¬ guardErr lk ht rc ts gs = 0) (hu : KG lk ht rc M ts L gs u w) :
    Calls Tryz.prog 3 #[u, .string s] w fun r w' => r = .returned (.bool true) ∧ Below w.heap.size w w' := by
  obtain ⟨A1, c1, A2, c2, rfl, hT, hG⟩ := hu
  have HU := Lib.hid (show KG lk ht rc M ts L gs (.agg #[(.int .i64 lk), (.int .i64 ht), .slice A1 M c1, (.int .i64 rc), .slice A2 L c2]) w from ⟨_, _, _, _, rfl, hT, hG⟩)
  have HSH : Hid (∀ W, KG lk ht rc M ts L gs (.agg #[(.int .i64 lk), (.int .i64 ht), .slice A1 M c1, (.int .i64 rc), .slice A2 L c2]) W → Calls Tryz.prog 5 #[.agg #[(.int .i64 lk), (.int .i64 ht), .slice A1 M c1, (.int .i64 rc), .slice A2 L c2]] W (KP (KV (.bool true)) W)) := Lib.hid (fun W q => by have := Short_K q; rwa [decide_eq_true b0] at this)
  have hd3 : decide ((300 : Int) < (s.size : Int)) = false := decide_eq_false (by omega)
  obtain ⟨b3, b4⟩ := b0
  obtain ⟨E, hE⟩ : ∃ E, E = guardErr lk ht rc ts gs := ⟨_, rfl⟩
  rw [← hE] at c0
  obtain ⟨tg, htg⟩ : ∃ tg : ByteArray, tg = ⟨(([] : List UInt8)).toArray⟩ := ⟨_, rfl⟩
  have HGU : Hid (∀ {x : Value} (W : World), KG lk ht rc M ts L gs x W → Calls Tryz.prog 8 #[x] W (KP (KGI lk ht rc M ts L gs) W)) := Lib.hid (fun W q => guard_K hM hL (by omega) (by omega) q)
  have HPG : Hid (∀ {a : Value} (W : World), RTab W → KG lk ht rc M ts L gs a W → Calls Tryz.prog 7 #[a] W (KP (K2 (KV (.string tg)) (KV (.int .i64 E))) W)) := Lib.hid (fun W q0 q => by
    have := cPrint hM hL (by omega) (by omega) q0.tab q
    rw [show textR lk ht rc ts gs = [] from if_neg (hE ▸ c0), ← hE] at this
    rw [htg]
    exact this)
  have HCG : Hid (∀ {a : Value} (W : World), KG lk ht rc M ts L gs a W → Calls Tryz.prog 10 #[a] W (KP (KV (.int .i64 E)) W)) := Lib.hid (fun W q => by
    obtain ⟨B1, d1, B2, d2, rfl, qT, qG⟩ := q
    have := pGuard_any lk ht rc ts gs B1 B2 d1 d2 W qT qG (by omega) (by omega)
    rw [← hM, ← hL, ← hE] at this
    exact this.mono fun e W' ⟨k1, k2⟩ => ⟨_, k1, rfl, k2⟩)
  have hPT : ∀ W : World, RTab W → Calls Tryz.prog 9 #[.string s] W (KP (KPG (parF s.data.toList)) W) := fun W q => parse_P s W q
  have hPR : ∀ W : World, Calls Tryz.prog 12 #[.string s] W (KP (KPG (parF s.data.toList)) W) := fun W => rParse_P s W
  have hpl := parF_len s.data.toList
  obtain ⟨PQ, hPQ⟩ : ∃ PQ, PQ = parF s.data.toList := ⟨_, rfl⟩
  rw [← hPQ] at hPT hPR hpl
  obtain ⟨pl, ph, pr, pt, pg, PE⟩ := PQ
  obtain ⟨PM, hPM⟩ : ∃ PM, PM = pt.length := ⟨_, rfl⟩
  obtain ⟨PL, hPL⟩ : ∃ PL, PL = pg.length := ⟨_, rfl⟩
  have HPT : Hid (∀ W : World, RTab W → Calls Tryz.prog 9 #[.string s] W (KP (K2 (KG pl ph pr PM pt PL pg) (KV (.int .i64 PE))) W)) := Lib.hid (fun W q => by rw [hPM, hPL]; exact hPT W q)
  have HPR : Hid (∀ W : World, Calls Tryz.prog 12 #[.string s] W (KP (K2 (KG pl ph pr PM pt PL pg) (KV (.int .i64 PE))) W)) := Lib.hid (fun W => by rw [hPM, hPL]; exact hPR W)
  have HSG : Hid (∀ {a y : Value} (W : World), KG pl ph pr PM pt PL pg a W → KG pl ph pr PM pt PL pg y W → Calls Tryz.prog 13 #[a, y] W (KP (KV (.bool true)) W)) := Lib.hid (fun W q q2 => sameGuard_T hPM hPL (by rw [hPM]; exact hpl.1) (by rw [hPL]; exact hpl.2) q q2)
  have HAW : Hid (∀ W : World, PTab W → Calls Tryz.prog 6 #[] W (KP (KV (.bool true)) W)) := Lib.hid (fun W q => (awake_any W q).mono fun e W' ⟨k1, k2⟩ => ⟨_, k1, rfl, k2⟩)
  obtain rfl : tg = ⟨#[]⟩ := htg
  have hE0 : (E == 0) = false := by simpa using c0
  have HTab := Lib.hid hTab
  clear hTab hM hL hT hG b1 b3 b4 hPT hPR hpl hPQ hPM hPL hE
  go_enter Tryz.func3, Tryz.ntmps3
  have HB0 := Lib.hid (Below.refl w.heap.size w)
  go_wp2_with (go_at_call 5; refine name_calls ?_; intro w1 e1; refine Hid.out ?_)
  unfold Hid
  have h1 : Below w.heap.size w w1 := by rw [e1]; exact bel
  have HB1 := Lib.hid (HB0.out.trans (h1.mono HB0.out.size))
  have bg_1 := Lib.hid (show Blk w1 w.heap.size #[(.int .i64 lk), (.int .i64 ht), .slice A1 M c1, (.int .i64 rc), .slice A2 L c2] from by rw [e1]; (repeat (first | ((with_reducible refine Blk.at_ ?_); focus (first | rfl | (simp; done) | (simp; omega))) | (with_reducible refine Blk.alloc ?_ _) | (with_reducible refine Blk.below ?_ (by with_reducible assumption)) | (with_reducible refine Blk.drew ?_))))
  clear e1 h1
  refine (HSH.out _ (KG.st _ _ _ _ _ _ _ _ _ _ HU.out HB1.out)).mono ?_
  rintro r w2 ⟨v2, rfl, k2, h2⟩
  have bg_2 := Lib.hid (bg_1.out.below h2)
  have HB2 := Lib.hid (HB1.out.trans (h2.mono HB1.out.size))
  obtain rfl := k2
  clear h2
  have ug_rw2 := Lib.hid (KG.st _ _ _ _ _ _ _ _ _ _ HU.out HB2.out)
  have HTabw2 := Lib.hid (HTab.out.below HB2.out)
  have HZw2 := Lib.hid (Below.refl w2.heap.size w2)
  clear HU HTab
  obtain ⟨fbg_0, fbg_1, fbg_2, fbg_3, fbg_4, fbg_l, -⟩ := (bg_2.out.below HZw2.out).o5
  go_wp2_with (go_at_call 8; refine name_calls ?_; intro w3 e3; refine Hid.out ?_)
  unfold Hid
  have h3 : Below w2.heap.size w2 w3 := by rw [e3]; exact bel
  have HB3 := Lib.hid (HZw2.out.trans (h3.mono HZw2.out.size))
  clear e3 h3
  refine (HGU.out _ (KG.st _ _ _ _ _ _ _ _ _ _ ug_rw2.out HB3.out)).mono ?_
  rintro r w4 ⟨v4, rfl, k4, h4⟩
  have HB4 := Lib.hid (HB3.out.trans (h4.mono HB3.out.size))
  have g_4 := Lib.hid k4.kg
  clear k4 h4
  clear fbg_0 fbg_1 fbg_2 fbg_3 fbg_4 fbg_l
  go_wp2_with (go_at_call 7; refine name_calls ?_; intro w5 e5; refine Hid.out ?_)
  unfold Hid
  have h5 : Below w4.heap.size w4 w5 := by rw [e5]; exact bel
  have g_5 := Lib.hid (KG.st _ _ _ _ _ _ _ _ _ _ g_4.out h5)
  have HB5 := Lib.hid (HB4.out.trans (h5.mono HB4.out.size))
  clear e5 h5
  refine (HPG.out _ (HTabw2.out.below HB5.out) g_5.out).mono ?_
  rintro r w6 ⟨v6, rfl, k6, h6⟩
  have g_6 := Lib.hid (KG.st _ _ _ _ _ _ _ _ _ _ g_5.out h6)
  have HB6 := Lib.hid (HB5.out.trans (h6.mono HB5.out.size))
  obtain ⟨_, _, rfl, rfl, rfl⟩ := k6
  clear h6
  go_wp2_with (go_at_call 9; refine name_calls ?_; intro w7 e7; refine Hid.out ?_)
  unfold Hid
  have h7 : Below w6.heap.size w6 w7 := by rw [e7]; exact bel
  have HB7 := Lib.hid (HB6.out.trans (h7.mono HB6.out.size))
  clear e7 h7
  refine (HPT.out _ (HTabw2.out.below HB7.out)).mono ?_
  rintro r w8 ⟨v8, rfl, k8, h8⟩
  have HB8 := Lib.hid (HB7.out.trans (h8.mono HB7.out.size))
  obtain ⟨_, _, rfl, ⟨XA, Xa, XB, Xb, rfl, hpa, hpb⟩, rfl⟩ := k8
  have pX_8 := Lib.hid (show KG pl ph pr PM pt PL pg (.agg #[(.int .i64 pl), (.int .i64 ph), .slice XA PM Xa, (.int .i64 pr), .slice XB PL Xb]) w8 from ⟨_, _, _, _, rfl, hpa, hpb⟩)
  clear hpa hpb h8
  obtain ⟨fbg_0, fbg_1, fbg_2, fbg_3, fbg_4, fbg_l, -⟩ := (bg_2.out.below HB8.out).o5
  go_wp2_with (go_at_call 10; refine name_calls ?_; intro w9 e9; refine Hid.out ?_)
  unfold Hid
  have h9 : Below w8.heap.size w8 w9 := by rw [e9]; exact bel
  have pX_9 := Lib.hid (KG.st _ _ _ _ _ _ _ _ _ _ pX_8.out h9)
  have HB9 := Lib.hid (HB8.out.trans (h9.mono HB8.out.size))
  have bX_9 := Lib.hid (show Blk w9 w8.heap.size #[(.int .i64 pl), (.int .i64 ph), .slice XA PM Xa, (.int .i64 pr), .slice XB PL Xb] from by rw [e9]; exact Calm.Blk.new _ _ _)
  clear e9 h9
  refine (HCG.out _ (KG.st _ _ _ _ _ _ _ _ _ _ ug_rw2.out HB9.out)).mono ?_
  rintro r w10 ⟨v10, rfl, k10, h10⟩
  have pX_10 := Lib.hid (KG.st _ _ _ _ _ _ _ _ _ _ pX_9.out h10)
  have bX_10 := Lib.hid (bX_9.out.below h10)
  have HB10 := Lib.hid (HB9.out.trans (h10.mono HB9.out.size))
  obtain rfl := k10
  clear h10
  clear fbg_0 fbg_1 fbg_2 fbg_3 fbg_4 fbg_l
  go_wp2_with (go_at_call 12; refine name_calls ?_; intro w11 e11; refine Hid.out ?_)
  unfold Hid
  have h11 : Below w10.heap.size w10 w11 := by rw [e11]; exact bel
  have pX_11 := Lib.hid (KG.st _ _ _ _ _ _ _ _ _ _ pX_10.out h11)
  have bX_11 := Lib.hid (bX_10.out.below h11)
  have HB11 := Lib.hid (HB10.out.trans (h11.mono HB10.out.size))
  clear e11 h11
  refine (HPR.out _).mono ?_
  rintro r w12 ⟨v12, rfl, k12, h12⟩
  have pX_12 := Lib.hid (KG.st _ _ _ _ _ _ _ _ _ _ pX_11.out h12)
  have bX_12 := Lib.hid (bX_11.out.below h12)
  have HB12 := Lib.hid (HB11.out.trans (h12.mono HB11.out.size))
  obtain ⟨_, _, rfl, ⟨YA, Ya, YB, Yb, rfl, hpa, hpb⟩, rfl⟩ := k12
  have pY_12 := Lib.hid (show KG pl ph pr PM pt PL pg (.agg #[(.int .i64 pl), (.int .i64 ph), .slice YA PM Ya, (.int .i64 pr), .slice YB PL Yb]) w12 from ⟨_, _, _, _, rfl, hpa, hpb⟩)
  clear hpa hpb h12
  go_wp2
  refine name_world ?_
  intro w13 e13
  have h13 : Below w12.heap.size w12 w13 := by rw [e13]; exact bel
  have pX_13 := Lib.hid (KG.st _ _ _ _ _ _ _ _ _ _ pX_12.out h13)
  have pY_13 := Lib.hid (KG.st _ _ _ _ _ _ _ _ _ _ pY_12.out h13)
  have bX_13 := Lib.hid (bX_12.out.below h13)
  have HB13 := Lib.hid (HB12.out.trans (h13.mono HB12.out.size))
  have bY_13 := Lib.hid (show Blk w13 w12.heap.size #[(.int .i64 pl), (.int .i64 ph), .slice YA PM Ya, (.int .i64 pr), .slice YB PL Yb] from by rw [e13]; exact Calm.Blk.new _ _ _)
  clear e13 h13
  obtain ⟨fbX_0, fbX_1, fbX_2, fbX_3, fbX_4, fbX_l, -⟩ := bX_13.out.o5
  obtain ⟨fbY_0, fbY_1, fbY_2, fbY_3, fbY_4, fbY_l, -⟩ := bY_13.out.o5
  refine Rel.region3 22 (by kernel_rfl) (by kernel_rfl) (by kernel_rfl) ?_
  simp only [List.take_succ_cons, List.take_zero, List.drop_succ_cons, List.drop_zero, List.filterMap_cons, List.filterMap_nil]
  iterate 10 (refine Rel.opz (hn := ?_); (try simp only [List.nil_append, List.cons_append]))
  refine Rel.callK 14 (KG pl ph pr PM pt PL pg) (KG.st _ _ _ _ _ _ _) (Rel.gyes 8 true _ rfl rfl rfl) ?_ ?_
  · intro a W hb hd hbase
    have q1 : a.eval (.tmp 58) = _ := (Rel.dep_at hd 9 rfl rfl)
    refine ⟨#[a.eval (.tmp 58)], ?_, by rw [q1]; exact own_K (KG.st _ _ _ _ _ _ _ _ _ _ pX_13.out hb)⟩
    clear hd hbase hb
    go_simp
    (first | done | rfl | (refine ⟨?_, ?_⟩ <;> rfl))
  (try simp only [List.nil_append, List.cons_append])
  (refine Rel.opz (hn := ?_); (try simp only [List.nil_append, List.cons_append]))
  refine Rel.callK 13 (KV (.bool true)) (KV.st _) (Rel.gyes 8 true _ rfl rfl rfl) ?_ ?_
  · intro a W hb hd hbase
    have q2 : a.eval (.tmp 60) = _ := (Rel.dep_at hd 11 rfl rfl)
    refine ⟨#[a.eval (.tmp 59), a.eval (.tmp 60)], ?_, by rw [q2]; exact HSG.out _ (Rel.dep_at hd 10 rfl rfl) (KG.st _ _ _ _ _ _ _ _ _ _ pY_13.out hb)⟩
    clear hd hbase hb
    go_simp
    (first | done | rfl | (refine ⟨?_, ?_⟩ <;> rfl))
  (try simp only [List.nil_append, List.cons_append])
  iterate 7 (refine Rel.opz (hn := ?_); (try simp only [List.nil_append, List.cons_append]))
  refine Rel.callK 6 (KV (.bool true)) (KV.st _) (Rel.gyes 19 true _ rfl rfl rfl) ?_ ?_
  · intro a W hb hd hbase
    refine ⟨#[], ?_, HAW.out _ (HTabw2.out.below (HB13.out.trans (hb.mono HB13.out.size))).tab⟩
    clear hd hbase hb
    go_simp
    (first | done | rfl | (refine ⟨?_, ?_⟩ <;> rfl))
  (try simp only [List.nil_append, List.cons_append])
  (refine Rel.opz (hn := ?_); (try simp only [List.nil_append, List.cons_append]))
  refine Rel.done3 ?_
  intro x w14 h14 hx
  simp only [Rel.facts, Nat.zero_add, Nat.reduceAdd] at hx
  clear fbX_0 fbX_1 fbX_2 fbX_3 fbX_4 fbX_l
  clear fbY_0 fbY_1 fbY_2 fbY_3 fbY_4 fbY_l
  obtain ⟨e0, e1, e2, e3, e4, e5, e6, e7, e8, e9, _, e11, e12, e13, e14, e15, e16, e17, e18, e19, e20, e21, _⟩ := hx
  have e12 : x 12 = _ := e12
  have e20 : x 20 = _ := e20
  simp only [Rel.fill, Nat.zero_add, Nat.reduceAdd, e0, e1, e2, e3, e4, e5, e6, e7, e8, e9, e11, e12, e13, e14, e15, e16, e17, e18, e19, e20, e21]
  simp only [Act.put, List.setIfInBounds_toArray, List.set_cons_zero, List.set_cons_succ]
  clear e0 e1 e2 e3 e4 e5 e6 e7 e8 e9 e11 e12 e13 e14 e15 e16 e17 e18 e19 e20 e21
  have pX_14 := Lib.hid (KG.st _ _ _ _ _ _ _ _ _ _ pX_13.out h14)
  have pY_14 := Lib.hid (KG.st _ _ _ _ _ _ _ _ _ _ pY_13.out h14)
  have bX_14 := Lib.hid (bX_13.out.below h14)
  have bY_14 := Lib.hid (bY_13.out.below h14)
  have HB14 := Lib.hid (HB13.out.trans (h14.mono HB13.out.size))
  clear h14
  go_wp2
  go_ret
  exact ⟨by first | rfl | (simp; done), HB2.out.trans (HB14.out.mono HB2.out.size)⟩
end Go.Proofs.YtdeapbihbhoefaaGreatDoor

/- ProtectTexts, case bl. -/
namespace Go.Proofs.YtdeapbihbhoefaaGreatDoor
open Go.RowKit
open Calm (bcell Blk)
set_option maxRecDepth 100000 in
set_option maxHeartbeats 8000000 in
theorem texts_bl (lk ht rc : Int) (M L : Nat) (ts gs : List Int) (s : ByteArray) (u : Value) (w : World) (hTab : RTab w) (hM : M = ts.length) (hL : L = gs.length) (b0 : M ≤ 9 ∧ L ≤ 9) (b1 : s.size = 4097) (c0 : ¬ guardErr lk ht rc ts gs = 0) (hu : KG lk ht rc M ts L gs u w) :
    Calls Tryz.prog 3 #[u, .string s] w fun r w' => r = .returned (.bool true) ∧ Below w.heap.size w w' := by
  obtain ⟨A1, c1, A2, c2, rfl, hT, hG⟩ := hu
  have HU := Lib.hid (show KG lk ht rc M ts L gs (.agg #[(.int .i64 lk), (.int .i64 ht), .slice A1 M c1, (.int .i64 rc), .slice A2 L c2]) w from ⟨_, _, _, _, rfl, hT, hG⟩)
  have HSH : Hid (∀ W, KG lk ht rc M ts L gs (.agg #[(.int .i64 lk), (.int .i64 ht), .slice A1 M c1, (.int .i64 rc), .slice A2 L c2]) W → Calls Tryz.prog 5 #[.agg #[(.int .i64 lk), (.int .i64 ht), .slice A1 M c1, (.int .i64 rc), .slice A2 L c2]] W (KP (KV (.bool true)) W)) := Lib.hid (fun W q => by have := Short_K q; rwa [decide_eq_true b0] at this)
  have hl3 : (300 : Int) < (s.size : Int) := by omega
  have hd3 : decide ((300 : Int) < (s.size : Int)) = true := decide_eq_true hl3
  have hn3 : ((s.size : Int) != 4097) = false := by simp; omega
  obtain ⟨b3, b4⟩ := b0
  obtain ⟨E, hE⟩ : ∃ E, E = guardErr lk ht rc ts gs := ⟨_, rfl⟩
  rw [← hE] at c0
  obtain ⟨tg, htg⟩ : ∃ tg : ByteArray, tg = ⟨(([] : List UInt8)).toArray⟩ := ⟨_, rfl⟩
  have HGU : Hid (∀ {x : Value} (W : World), KG lk ht rc M ts L gs x W → Calls Tryz.prog 8 #[x] W (KP (KGI lk ht rc M ts L gs) W)) := Lib.hid (fun W q => guard_K hM hL (by omega) (by omega) q)
  have HPG : Hid (∀ {a : Value} (W : World), RTab W → KG lk ht rc M ts L gs a W → Calls Tryz.prog 7 #[a] W (KP (K2 (KV (.string tg)) (KV (.int .i64 E))) W)) := Lib.hid (fun W q0 q => by
    have := cPrint hM hL (by omega) (by omega) q0.tab q
    rw [show textR lk ht rc ts gs = [] from if_neg (hE ▸ c0), ← hE] at this
    rw [htg]
    exact this)
  have HCG : Hid (∀ {a : Value} (W : World), KG lk ht rc M ts L gs a W → Calls Tryz.prog 10 #[a] W (KP (KV (.int .i64 E)) W)) := Lib.hid (fun W q => by
    obtain ⟨B1, d1, B2, d2, rfl, qT, qG⟩ := q
    have := pGuard_any lk ht rc ts gs B1 B2 d1 d2 W qT qG (by omega) (by omega)
    rw [← hM, ← hL, ← hE] at this
    exact this.mono fun e W' ⟨k1, k2⟩ => ⟨_, k1, rfl, k2⟩)
  have hPT : ∀ W : World, RTab W → Calls Tryz.prog 9 #[.string s] W (KP (KPG (parF s.data.toList)) W) := fun W q => parse_P s W q
  have hPR : ∀ W : World, Calls Tryz.prog 12 #[.string s] W (KP (KPG (parF s.data.toList)) W) := fun W => rParse_P s W
  have hpl := parF_len s.data.toList
  obtain ⟨PQ, hPQ⟩ : ∃ PQ, PQ = parF s.data.toList := ⟨_, rfl⟩
  rw [← hPQ] at hPT hPR hpl
  obtain ⟨pl, ph, pr, pt, pg, PE⟩ := PQ
  obtain ⟨PM, hPM⟩ : ∃ PM, PM = pt.length := ⟨_, rfl⟩
  obtain ⟨PL, hPL⟩ : ∃ PL, PL = pg.length := ⟨_, rfl⟩
  have HPT : Hid (∀ W : World, RTab W → Calls Tryz.prog 9 #[.string s] W (KP (K2 (KG pl ph pr PM pt PL pg) (KV (.int .i64 PE))) W)) := Lib.hid (fun W q => by rw [hPM, hPL]; exact hPT W q)
  have HPR : Hid (∀ W : World, Calls Tryz.prog 12 #[.string s] W (KP (K2 (KG pl ph pr PM pt PL pg) (KV (.int .i64 PE))) W)) := Lib.hid (fun W => by rw [hPM, hPL]; exact hPR W)
  have HSG : Hid (∀ {a y : Value} (W : World), KG pl ph pr PM pt PL pg a W → KG pl ph pr PM pt PL pg y W → Calls Tryz.prog 13 #[a, y] W (KP (KV (.bool true)) W)) := Lib.hid (fun W q q2 => sameGuard_T hPM hPL (by rw [hPM]; exact hpl.1) (by rw [hPL]; exact hpl.2) q q2)
  have HAW : Hid (∀ W : World, PTab W → Calls Tryz.prog 6 #[] W (KP (KV (.bool true)) W)) := Lib.hid (fun W q => (awake_any W q).mono fun e W' ⟨k1, k2⟩ => ⟨_, k1, rfl, k2⟩)
  obtain rfl : tg = ⟨#[]⟩ := htg
  have hE0 : (E == 0) = false := by simpa using c0
  have HTab := Lib.hid hTab
  clear hTab hM hL hT hG b1 b3 b4 hPT hPR hpl hPQ hPM hPL hE
  go_enter Tryz.func3, Tryz.ntmps3
  have HB0 := Lib.hid (Below.refl w.heap.size w)
  go_wp2_with (go_at_call 5; refine name_calls ?_; intro w1 e1; refine Hid.out ?_)
  unfold Hid
  have h1 : Below w.heap.size w w1 := by rw [e1]; exact bel
  have HB1 := Lib.hid (HB0.out.trans (h1.mono HB0.out.size))
  have bg_1 := Lib.hid (show Blk w1 w.heap.size #[(.int .i64 lk), (.int .i64 ht), .slice A1 M c1, (.int .i64 rc), .slice A2 L c2] from by rw [e1]; (repeat (first | ((with_reducible refine Blk.at_ ?_); focus (first | rfl | (simp; done) | (simp; omega))) | (with_reducible refine Blk.alloc ?_ _) | (with_reducible refine Blk.below ?_ (by with_reducible assumption)) | (with_reducible refine Blk.drew ?_))))
  clear e1 h1
  refine (HSH.out _ (KG.st _ _ _ _ _ _ _ _ _ _ HU.out HB1.out)).mono ?_
  rintro r w2 ⟨v2, rfl, k2, h2⟩
  have bg_2 := Lib.hid (bg_1.out.below h2)
  have HB2 := Lib.hid (HB1.out.trans (h2.mono HB1.out.size))
  obtain rfl := k2
  clear h2
  have ug_rw2 := Lib.hid (KG.st _ _ _ _ _ _ _ _ _ _ HU.out HB2.out)
  have HTabw2 := Lib.hid (HTab.out.below HB2.out)
  have HZw2 := Lib.hid (Below.refl w2.heap.size w2)
  clear HU HTab
  obtain ⟨fbg_0, fbg_1, fbg_2, fbg_3, fbg_4, fbg_l, -⟩ := (bg_2.out.below HZw2.out).o5
  go_wp2_with (go_at_call 8; refine name_calls ?_; intro w3 e3; refine Hid.out ?_)
  unfold Hid
  have h3 : Below w2.heap.size w2 w3 := by rw [e3]; exact bel
  have HB3 := Lib.hid (HZw2.out.trans (h3.mono HZw2.out.size))
  clear e3 h3
  refine (HGU.out _ (KG.st _ _ _ _ _ _ _ _ _ _ ug_rw2.out HB3.out)).mono ?_
  rintro r w4 ⟨v4, rfl, k4, h4⟩
  have HB4 := Lib.hid (HB3.out.trans (h4.mono HB3.out.size))
  have g_4 := Lib.hid k4.kg
  clear k4 h4
  clear fbg_0 fbg_1 fbg_2 fbg_3 fbg_4 fbg_l
  go_wp2_with (go_at_call 7; refine name_calls ?_; intro w5 e5; refine Hid.out ?_)
  unfold Hid
  have h5 : Below w4.heap.size w4 w5 := by rw [e5]; exact bel
  have g_5 := Lib.hid (KG.st _ _ _ _ _ _ _ _ _ _ g_4.out h5)
  have HB5 := Lib.hid (HB4.out.trans (h5.mono HB4.out.size))
  clear e5 h5
  refine (HPG.out _ (HTabw2.out.below HB5.out) g_5.out).mono ?_
  rintro r w6 ⟨v6, rfl, k6, h6⟩
  have g_6 := Lib.hid (KG.st _ _ _ _ _ _ _ _ _ _ g_5.out h6)
  have HB6 := Lib.hid (HB5.out.trans (h6.mono HB5.out.size))
  obtain ⟨_, _, rfl, rfl, rfl⟩ := k6
  clear h6
  go_wp2_with (go_at_call 9; refine name_calls ?_; intro w7 e7; refine Hid.out ?_)
  unfold Hid
  have h7 : Below w6.heap.size w6 w7 := by rw [e7]; exact bel
  have HB7 := Lib.hid (HB6.out.trans (h7.mono HB6.out.size))
  clear e7 h7
  refine (HPT.out _ (HTabw2.out.below HB7.out)).mono ?_
  rintro r w8 ⟨v8, rfl, k8, h8⟩
  have HB8 := Lib.hid (HB7.out.trans (h8.mono HB7.out.size))
  obtain ⟨_, _, rfl, ⟨XA, Xa, XB, Xb, rfl, hpa, hpb⟩, rfl⟩ := k8
  have pX_8 := Lib.hid (show KG pl ph pr PM pt PL pg (.agg #[(.int .i64 pl), (.int .i64 ph), .slice XA PM Xa, (.int .i64 pr), .slice XB PL Xb]) w8 from ⟨_, _, _, _, rfl, hpa, hpb⟩)
  clear hpa hpb h8
  obtain ⟨fbg_0, fbg_1, fbg_2, fbg_3, fbg_4, fbg_l, -⟩ := (bg_2.out.below HB8.out).o5
  go_wp2_with (go_at_call 10; refine name_calls ?_; intro w9 e9; refine Hid.out ?_)
  unfold Hid
  have h9 : Below w8.heap.size w8 w9 := by rw [e9]; exact bel
  have pX_9 := Lib.hid (KG.st _ _ _ _ _ _ _ _ _ _ pX_8.out h9)
  have HB9 := Lib.hid (HB8.out.trans (h9.mono HB8.out.size))
  have bX_9 := Lib.hid (show Blk w9 w8.heap.size #[(.int .i64 pl), (.int .i64 ph), .slice XA PM Xa, (.int .i64 pr), .slice XB PL Xb] from by rw [e9]; exact Calm.Blk.new _ _ _)
  clear e9 h9
  refine (HCG.out _ (KG.st _ _ _ _ _ _ _ _ _ _ ug_rw2.out HB9.out)).mono ?_
  rintro r w10 ⟨v10, rfl, k10, h10⟩
  have pX_10 := Lib.hid (KG.st _ _ _ _ _ _ _ _ _ _ pX_9.out h10)
  have bX_10 := Lib.hid (bX_9.out.below h10)
  have HB10 := Lib.hid (HB9.out.trans (h10.mono HB9.out.size))
  obtain rfl := k10
  clear h10
  clear fbg_0 fbg_1 fbg_2 fbg_3 fbg_4 fbg_l
  go_wp2_with (go_at_call 12; refine name_calls ?_; intro w11 e11; refine Hid.out ?_)
  unfold Hid
  have h11 : Below w10.heap.size w10 w11 := by rw [e11]; exact bel
  have pX_11 := Lib.hid (KG.st _ _ _ _ _ _ _ _ _ _ pX_10.out h11)
  have bX_11 := Lib.hid (bX_10.out.below h11)
  have HB11 := Lib.hid (HB10.out.trans (h11.mono HB10.out.size))
  clear e11 h11
  refine (HPR.out _).mono ?_
  rintro r w12 ⟨v12, rfl, k12, h12⟩
  have pX_12 := Lib.hid (KG.st _ _ _ _ _ _ _ _ _ _ pX_11.out h12)
  have bX_12 := Lib.hid (bX_11.out.below h12)
  have HB12 := Lib.hid (HB11.out.trans (h12.mono HB11.out.size))
  obtain ⟨_, _, rfl, ⟨YA, Ya, YB, Yb, rfl, hpa, hpb⟩, rfl⟩ := k12
  have pY_12 := Lib.hid (show KG pl ph pr PM pt PL pg (.agg #[(.int .i64 pl), (.int .i64 ph), .slice YA PM Ya, (.int .i64 pr), .slice YB PL Yb]) w12 from ⟨_, _, _, _, rfl, hpa, hpb⟩)
  clear hpa hpb h12
  go_wp2
  refine name_world ?_
  intro w13 e13
  have h13 : Below w12.heap.size w12 w13 := by rw [e13]; exact bel
  have pX_13 := Lib.hid (KG.st _ _ _ _ _ _ _ _ _ _ pX_12.out h13)
  have pY_13 := Lib.hid (KG.st _ _ _ _ _ _ _ _ _ _ pY_12.out h13)
  have bX_13 := Lib.hid (bX_12.out.below h13)
  have HB13 := Lib.hid (HB12.out.trans (h13.mono HB12.out.size))
  have bY_13 := Lib.hid (show Blk w13 w12.heap.size #[(.int .i64 pl), (.int .i64 ph), .slice YA PM Ya, (.int .i64 pr), .slice YB PL Yb] from by rw [e13]; exact Calm.Blk.new _ _ _)
  clear e13 h13
  obtain ⟨fbX_0, fbX_1, fbX_2, fbX_3, fbX_4, fbX_l, -⟩ := bX_13.out.o5
  obtain ⟨fbY_0, fbY_1, fbY_2, fbY_3, fbY_4, fbY_l, -⟩ := bY_13.out.o5
  refine Rel.region3 22 (by kernel_rfl) (by kernel_rfl) (by kernel_rfl) ?_
  simp only [List.take_succ_cons, List.take_zero, List.drop_succ_cons, List.drop_zero, List.filterMap_cons, List.filterMap_nil]
  iterate 10 (refine Rel.opz (hn := ?_); (try simp only [List.nil_append, List.cons_append]))
  refine Rel.callK 14 (KG pl ph pr PM pt PL pg) (KG.st _ _ _ _ _ _ _) (Rel.gyes 8 true _ rfl rfl rfl) ?_ ?_
  · intro a W hb hd hbase
    have q1 : a.eval (.tmp 58) = _ := (Rel.dep_at hd 9 rfl rfl)
    refine ⟨#[a.eval (.tmp 58)], ?_, by rw [q1]; exact own_K (KG.st _ _ _ _ _ _ _ _ _ _ pX_13.out hb)⟩
    clear hd hbase hb
    go_simp
    (first | done | rfl | (refine ⟨?_, ?_⟩ <;> rfl))
  (try simp only [List.nil_append, List.cons_append])
  (refine Rel.opz (hn := ?_); (try simp only [List.nil_append, List.cons_append]))
  refine Rel.callK 13 (KV (.bool true)) (KV.st _) (Rel.gyes 8 true _ rfl rfl rfl) ?_ ?_
  · intro a W hb hd hbase
    have q2 : a.eval (.tmp 60) = _ := (Rel.dep_at hd 11 rfl rfl)
    refine ⟨#[a.eval (.tmp 59), a.eval (.tmp 60)], ?_, by rw [q2]; exact HSG.out _ (Rel.dep_at hd 10 rfl rfl) (KG.st _ _ _ _ _ _ _ _ _ _ pY_13.out hb)⟩
    clear hd hbase hb
    go_simp
    (first | done | rfl | (refine ⟨?_, ?_⟩ <;> rfl))
  (try simp only [List.nil_append, List.cons_append])
  iterate 7 (refine Rel.opz (hn := ?_); (try simp only [List.nil_append, List.cons_append]))
  refine Rel.callK 6 (KV (.bool true)) (KV.st _) (Rel.gyes 19 true _ rfl rfl rfl) ?_ ?_
  · intro a W hb hd hbase
    refine ⟨#[], ?_, HAW.out _ (HTabw2.out.below (HB13.out.trans (hb.mono HB13.out.size))).tab⟩
    clear hd hbase hb
    go_simp
    (first | done | rfl | (refine ⟨?_, ?_⟩ <;> rfl))
  (try simp only [List.nil_append, List.cons_append])
  (refine Rel.opz (hn := ?_); (try simp only [List.nil_append, List.cons_append]))
  refine Rel.done3 ?_
  intro x w14 h14 hx
  simp only [Rel.facts, Nat.zero_add, Nat.reduceAdd] at hx
  clear fbX_0 fbX_1 fbX_2 fbX_3 fbX_4 fbX_l
  clear fbY_0 fbY_1 fbY_2 fbY_3 fbY_4 fbY_l
  obtain ⟨e0, e1, e2, e3, e4, e5, e6, e7, e8, e9, _, e11, e12, e13, e14, e15, e16, e17, e18, e19, e20, e21, _⟩ := hx
  have e12 : x 12 = _ := e12
  have e20 : x 20 = _ := e20
  simp only [Rel.fill, Nat.zero_add, Nat.reduceAdd, e0, e1, e2, e3, e4, e5, e6, e7, e8, e9, e11, e12, e13, e14, e15, e16, e17, e18, e19, e20, e21]
  simp only [Act.put, List.setIfInBounds_toArray, List.set_cons_zero, List.set_cons_succ]
  clear e0 e1 e2 e3 e4 e5 e6 e7 e8 e9 e11 e12 e13 e14 e15 e16 e17 e18 e19 e20 e21
  have pX_14 := Lib.hid (KG.st _ _ _ _ _ _ _ _ _ _ pX_13.out h14)
  have pY_14 := Lib.hid (KG.st _ _ _ _ _ _ _ _ _ _ pY_13.out h14)
  have bX_14 := Lib.hid (bX_13.out.below h14)
  have bY_14 := Lib.hid (bY_13.out.below h14)
  have HB14 := Lib.hid (HB13.out.trans (h14.mono HB13.out.size))
  clear h14
  go_wp2
  go_ret
  exact ⟨by first | rfl | (simp; done), HB2.out.trans (HB14.out.mono HB2.out.size)⟩
end Go.Proofs.YtdeapbihbhoefaaGreatDoor

/- ProtectTexts answers yes, whatever its arguments. -/
namespace Go.Proofs.YtdeapbihbhoefaaGreatDoor
open Go.RowKit
open Calm (bcell Blk)
theorem ProtectTexts_any (lk ht rc : Int) (M L : Nat) (ts gs : List Int) (s : ByteArray) (u : Value) (w : World) (hTab : RTab w) (hM : M = ts.length) (hL : L = gs.length) (hu : KG lk ht rc M ts L gs u w) :
    Calls Tryz.prog 3 #[u, .string s] w fun r w' => r = .returned (.bool true) ∧ Below w.heap.size w w' := by
  by_cases b0 : M ≤ 9 ∧ L ≤ 9
  · by_cases b1 : s.size ≤ 300
    · by_cases c0 : guardErr lk ht rc ts gs = 0
      · exact texts_as lk ht rc M L ts gs s u w hTab hM hL b0 b1 c0 hu
      · exact texts_bs lk ht rc M L ts gs s u w hTab hM hL b0 b1 c0 hu
    · by_cases b2 : s.size = 4097
      · by_cases c0 : guardErr lk ht rc ts gs = 0
        · exact texts_al lk ht rc M L ts gs s u w hTab hM hL b0 b2 c0 hu
        · exact texts_bl lk ht rc M L ts gs s u w hTab hM hL b0 b2 c0 hu
      · exact texts_1 lk ht rc M L ts gs s u w hTab hM hL b0 b1 b2 hu
  · exact texts_0 lk ht rc M L ts gs s u w hTab hM hL b0 hu
end Go.Proofs.YtdeapbihbhoefaaGreatDoor

/- ProtectTexts: the row and its card. -/
namespace Go.Proofs.YtdeapbihbhoefaaGreatDoor.protectTexts
open Go.ChangeShapes Go.WideShapes Go.ChangeAt Go.RowKit Go.Flat
open Calm (bcell)

set_option maxRecDepth 100000 in
theorem contract (H : Type) (enc : TypeId × Value → H) (W : World) (base : Nat) (args : Array Value) (ds gs : List (DataW H)) (before : List MemPlace)
    (hval : ∀ (j : Nat) t v, Tryz.f3.params[j]? = some t → args[j]? = some v → Value.okWide Tryz.prog W .any base t v)
    (hW : DataW.Whole enc Tryz.prog Tryz.f3.params.toList Rows.protectTextsSpec.vars false W args.toList ds gs before) (hL : laidMetH Tryz.prog laidList W) (hsh : W.ShapedOpen Tryz.prog) :
    Calls Tryz.prog 3 args W fun e W' => ∃ v, e = .returned v ∧ Rows.protectTextsSpec.post enc Tryz.prog Tryz.f3 false true false false W args v W' := by
  have hW' := hW
  have hlt : ∀ p ∈ before, p.block < W.heap.size := fun p hp => hW.lt p hp
  obtain ⟨p, q, hA0, hV, rfl, hfz, hnd⟩ := hW
  have hA : DataW.TrodAll enc Tryz.prog W 0 (fun _ => true) true Tryz.f3.params.toList args.toList ds p := hA0
  rw [Tryz.params3] at hA hval
  obtain ⟨v0, v1, d0, d1, p0, p1, rfl, rfl, rfl, h0, h1⟩ := trodAll_two hA
  obtain ⟨rfl, rfl⟩ := trodVars_none hV
  obtain ⟨lk, ht, rc, A1, A2, c1, c2, ts, gs', rfl, k1, k2⟩ := open_guard (hval 0 _ _ rfl rfl) h0
  obtain ⟨s, rfl, rfl, rfl, _⟩ := Go.ChangeMaps.open_string Tryz.underlying9 (hval 1 _ _ rfl rfl) h1
  refine (ProtectTexts_any lk ht rc _ _ ts gs' s _ W (rtab_of_laid hL hsh) rfl rfl ⟨A1, c1, A2, c2, rfl, k1, k2⟩).mono fun e W' ⟨he, hb⟩ => ?_
  subst he
  refine ⟨_, rfl, post_of_below (pa := p0 ++ []) (pv := []) hW' (fun _ _ _ => trodAll_cons_mk (shut_bool Tryz.underlying4 _) trodAll_mk0) (fun sp hs => ?_) (fun _ _ => rfl) rfl hb (ok_one (by kernel_rfl) rfl (okWide_bool_mk Tryz.underlying4 _))⟩
  exact trodAll_below laidOut hb (by rw [Tryz.params3]; exact of_decide_eq_true (by kernel_rfl)) hA0 (fun x hx => hlt x (List.mem_append_left _ hx)) (fun x hx => hs x (List.mem_append_left _ hx))

/-- the witness: nothing. -/
noncomputable def wit : Array Value := #[.agg #[(.int .i64 0), (.int .i64 0), .slice none 0 0, (.int .i64 0), .slice none 0 0], .string ⟨#[]⟩]
theorem reads (os : Os) {H : Type} (enc : TypeId × Value → H) : ∃ ds places, DataW.whole enc Tryz.prog ((textDoor os).forCall (fun _ _ => 0) ⟨#[], wit, []⟩).memory Tryz.f3.params.toList Rows.protectTextsSpec.vars false wit.toList 8 = some (ds, [], places) :=
  ⟨[.agg [.lit (.int .i64 0), .lit (.int .i64 0), .nil, .lit (.int .i64 0), .nil], .lit (.string [])], [], by kernel_rfl⟩

set_option maxRecDepth 100000 in
theorem lifted (os : Os) (started : os.Started) (H : Type) (enc : TypeId × Value → H) (F : Stop.Interp) :
    ReturnsInHanded {} Tryz.checked os 3 .any ((OpenSpec.ofChange Rows.protectTextsSpec).preRow enc Tryz.prog Tryz.f3 Rows.protectTextsRow.domain false Rows.protectTextsRow.laid) (((OpenSpec.ofChange Rows.protectTextsSpec).at F).post enc Tryz.prog Tryz.f3 false true false false) := by
  obtain ⟨ds, places, hx⟩ := reads os enc
  refine returnsInHanded_of_row (C := Tryz.checked) (s := OpenSpec.ofChange Rows.protectTextsSpec) own started (by kernel_rfl) Tryz.func3
    (witness_row_at (enc := enc) (C := Tryz.checked) false (textDoor os) wit rfl (text_vars os _) (text_rest os _) (by kernel_rfl)
      (OpenSpec.preRow_of_cond 8 hx (by kernel_rfl) (fun k hk => by cases hk) (by kernel_rfl) (laid_met os _))) ?_
  intro W base args ds gs before hval hW _ _ _ hL hsh _
  exact contract H enc W base args ds gs before hval hW hL hsh

theorem said : Rows.ProtectTextsSaid :=
  OpenClaim.holds_of_cond 3 Tryz.f3 rfl rfl rfl rfl rfl rfl rfl ⟨rfl, rfl, rfl, rfl, rfl⟩ rfl rfl rfl rfl rfl (by kernel_rfl) Tryz.func3 (by kernel_rfl)
    (of_decide_eq_true (by kernel_rfl)) (by unfold Func.isWrapper; first | (rw [if_pos (by decide +kernel)]; kernel_rfl) | (rw [if_neg (by decide +kernel)]; exact ⟨rfl, rfl⟩))
    (fun os started H enc _ F => by rw [OpenClaim.pre_eq_preRow]; exact lifted os started H enc F)

theorem plain (f : FuncId) (fn : Func) (hf : Tryz.pinned.checked.prog.funcNamed "woofer/wooferlaw08.ProtectTexts" = some f) (hfn : Tryz.pinned.checked.prog.funcs[f]? = some fn) :
    false = Tryz.pinned.checked.prog.looks [] ∧ ∀ (j : Nat) t, fn.params[j]? = some t → Tryz.pinned.checked.prog.wantsStandIn t = false := by
  obtain rfl : f = 3 := Option.some.inj ((show Tryz.prog.funcNamed "woofer/wooferlaw08.ProtectTexts" = some 3 by kernel_rfl).symm.trans hf) |>.symm
  obtain rfl : fn = Tryz.f3 := (Option.some.inj (Tryz.func3.symm.trans hfn)).symm
  refine ⟨by kernel_rfl, fun j t ht => ?_⟩
  rw [Tryz.params3] at ht
  have hall : ∀ t ∈ (#[24, 9] : Array TypeId), Tryz.prog.wantsStandIn t = false := of_decide_eq_true (by kernel_rfl)
  exact hall t (Array.mem_of_getElem? ht)

theorem card : Rows.ProtectTextsCardSaid :=
  Claim7.holds_tied_plain_at .later [] _ _ _ _ said (fun _ h => by cases h) (by kernel_rfl) (fun _ h => by cases h) protectTexts_row_tie rfl ⟨rfl, rfl⟩ (by kernel_rfl) rfl plain (by kernel_rfl)
end Go.Proofs.YtdeapbihbhoefaaGreatDoor.protectTexts
