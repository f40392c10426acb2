/- Part 23 of the texts of the claim: LGu_2, LGu_3. -/
import Derived.Test.YtdeapbihbhoefaaDoorGu22

/- ProtectGuards, case 2. -/
namespace Go.Proofs.YtdeapbihbhoefaaDoor
open Go.RowKit
open Calm (bcell Blk)
set_option maxRecDepth 100000 in
set_option maxHeartbeats 8000000 in
theorem guards_2 (lk ht rc h lv : Int) (M L n : Nat) (ts gs l : List Int) (u v : Value) (w : World) (hTab : PTab w) (hM : M = ts.length) (hL : L = gs.length) (hn : n = l.length) (b0 : M ≤ 9 ∧ L ≤ 9) (b1 : n ≤ 9) (b2 : guardErr lk ht rc ts gs ≠ 0) (hu : KG lk ht rc M ts L gs u w) (hv : KT h lv n l v w) :
    Calls Tryd.prog 3 #[u, v] w fun r w' => r = .returned (.bool true) ∧ Below w.heap.size w w' := by
  obtain ⟨A1, c1, A2, c2, rfl, hT, hG⟩ := hu
  obtain ⟨A3, c3, rfl, hP⟩ := hv
  have HU := Lib.hid (show KG lk ht rc M ts L gs (.agg #[(.int .i64 (lk)), (.int .i64 (ht)), .slice A1 M c1, (.int .i64 (rc)), .slice A2 L c2]) w from ⟨_, _, _, _, rfl, hT, hG⟩)
  have HS := Lib.hid (show KT h lv n l (.agg #[(.int .i64 (h)), (.int .i64 (lv)), .slice A3 n c3]) w from ⟨_, _, rfl, hP⟩)
  have HSH : Hid (∀ W, KG lk ht rc M ts L gs (.agg #[(.int .i64 (lk)), (.int .i64 (ht)), .slice A1 M c1, (.int .i64 (rc)), .slice A2 L c2]) W → Calls Tryd.prog 13 #[.agg #[(.int .i64 (lk)), (.int .i64 (ht)), .slice A1 M c1, (.int .i64 (rc)), .slice A2 L c2]] W (KP (KV (.bool true)) W)) := Lib.hid (fun W q => by have := Short_K q; rwa [decide_eq_true b0] at this)
  have HSS : Hid (∀ W, KT h lv n l (.agg #[(.int .i64 (h)), (.int .i64 (lv)), .slice A3 n c3]) W → Calls Tryd.prog 14 #[.agg #[(.int .i64 (h)), (.int .i64 (lv)), .slice A3 n c3]] W (KP (KV (.bool true)) W)) := Lib.hid (fun W q => by have := ShortState_K q; rwa [decide_eq_true b1] at this)
  obtain ⟨b3, b4⟩ := b0
  have HGU : Hid (∀ {x : Value} (W : World), KG lk ht rc M ts L gs x W → Calls Tryd.prog 17 #[x] W (KP (KGI lk ht rc M ts L gs) W)) := Lib.hid (fun W q => guard_K hM hL (by omega) (by omega) q)
  have HSU : Hid (∀ {x : Value} (W : World), KT h lv n l x W → Calls Tryd.prog 22 #[x] W (KP (KTI h lv n l) W)) := Lib.hid (fun W q => state_K hn (by omega) q)
  obtain ⟨E, hE⟩ : ∃ E, E = guardErr lk ht rc ts gs := ⟨_, rfl⟩
  obtain ⟨ST, hST⟩ : ∃ ST, ST = stErr lk ht rc ts gs h lv l := ⟨_, rfl⟩
  have HPG : Hid (∀ {x : Value} (W : World), KG lk ht rc M ts L gs x W → Calls Tryd.prog 20 #[x] W (KP (KV (.int .i64 (E))) W)) := Lib.hid (fun W q => by rw [hE]; exact cCheckGuard hM hL (by omega) (by omega) q)
  have HCG : Hid (∀ {x : Value} (W : World), KG lk ht rc M ts L gs x W → Calls Tryd.prog 18 #[x] W (KP (KV (.int .i64 (E))) W)) := Lib.hid (fun W q => by rw [hE]; exact rGuard_K hM hL (by omega) (by omega) q)
  have HPS : Hid (∀ {x y : Value} (W : World), KG lk ht rc M ts L gs x W → KT h lv n l y W → Calls Tryd.prog 21 #[x, y] W (KP (KV (.int .i64 (ST))) W)) := Lib.hid (fun W q q2 => by rw [hST]; exact cCheckState hM hL hn (by omega) (by omega) (by omega) q q2)
  have HRS : Hid (∀ {x y : Value} (W : World), KG lk ht rc M ts L gs x W → KT h lv n l y W → Calls Tryd.prog 23 #[x, y] W (KP (KV (.int .i64 (ST))) W)) := Lib.hid (fun W q q2 => by rw [hST]; exact rCheckState_K hM hL hn (by omega) (by omega) (by omega) q q2)
  obtain ⟨BL, hBL⟩ : ∃ BL, BL = begLv E L := ⟨_, rfl⟩
  obtain ⟨BP, hBP⟩ : ∃ BP, BP = begPs E M := ⟨_, rfl⟩
  obtain ⟨NB, hNB⟩ : ∃ NB, NB = BP.length := ⟨_, rfl⟩
  have HBE : Hid (∀ {x : Value} (W : World), KG lk ht rc M ts L gs x W → Calls Tryd.prog 16 #[x] W (KP (K2 (KTI 0 BL NB BP) (KV (.int .i64 (E)))) W)) := Lib.hid (fun W q => by
    rw [hBL, hBP, hE]
    exact cBegin hM hL (by omega) (by omega) q (by rw [hNB, hBP, hE]))
  have hNB2 : NB ≤ 1000 := by
    rw [hNB, hBP]
    unfold begPs
    split
    · simp; omega
    · simp
  have HSM : Hid (∀ {x y : Value} (W : World), KT 0 BL NB BP x W → KT 0 BL NB BP y W → Calls Tryd.prog 24 #[x, y] W (KP (KV (.bool true)) W)) := Lib.hid (fun W q q2 => sameState_T hNB hNB2 q q2)
  have hz : BL = 0 ∧ NB = 0 ∧ BP = [] := by
    have he : E ≠ 0 := by rw [hE]; exact b2
    have h1 : BP = [] := by rw [hBP]; unfold begPs; rw [if_neg he]
    exact ⟨by rw [hBL]; unfold begLv; rw [if_neg he], by rw [hNB, h1]; rfl, h1⟩
  have HZZ : Hid (∀ W : World, KT 0 BL NB BP (.agg #[(.int .i64 (0)), (.int .i64 (0)), .slice none 0 0]) W) := Lib.hid (fun W => by rw [hz.1, hz.2.1, hz.2.2]; exact (KTI.zero W).kt)
  have hEn : ¬ E = 0 := by rw [hE]; exact b2
  clear hz
  have HTab := Lib.hid hTab
  clear hTab hM hL hn hT hG hP b2 hBL hBP hNB hNB2 hST hE
  skip
  go_enter Tryd.func3, Tryd.ntmps3
  have HB0 := Lib.hid (Below.refl w.heap.size w)
  go_wp2_with (go_at_call 13; refine name_calls ?_; intro w1 e1; refine Hid.out ?_)
  unfold Hid
  have h1 : Below w.heap.size w w1 := by rw [e1]; (repeat (first | (with_reducible exact Below.refl _ _) | ((with_reducible refine Below.setCell ?_ ?_ _); rotate_left 1; (focus (first | (simp; done) | (simp; omega) | (simp at *; omega)))) | ((with_reducible refine Below.alloc ?_ ?_ _); rotate_left 1; (focus (first | (simp; done) | (simp; omega) | (simp at *; omega))))))
  have HB1 := Lib.hid (HB0.out.trans (h1.mono HB0.out.size))
  have bg_1 := Lib.hid (show Blk w1 w.heap.size #[(.int .i64 (lk)), (.int .i64 (ht)), .slice A1 M c1, (.int .i64 (rc)), .slice A2 L c2] from by rw [e1]; (repeat (first | ((with_reducible refine Blk.at_ ?_); focus (first | rfl | (simp; done) | (simp; omega))) | (with_reducible refine Blk.alloc ?_ _) | (with_reducible refine Blk.below ?_ (by with_reducible assumption)) | (with_reducible refine Blk.drew ?_))))
  have bs_1 := Lib.hid (show Blk w1 (w.heap.size + 1) #[(.int .i64 (h)), (.int .i64 (lv)), .slice A3 n c3] from by rw [e1]; (repeat (first | ((with_reducible refine Blk.at_ ?_); focus (first | rfl | (simp; done) | (simp; omega))) | (with_reducible refine Blk.alloc ?_ _) | (with_reducible refine Blk.below ?_ (by with_reducible assumption)) | (with_reducible refine Blk.drew ?_))))
  clear e1 h1
  refine (HSH.out _ (KG.st _ _ _ _ _ _ _ _ _ _ HU.out HB1.out)).mono ?_
  rintro r w2 ⟨v2, rfl, k2, h2⟩
  have bg_2 := Lib.hid (bg_1.out.below h2)
  have bs_2 := Lib.hid (bs_1.out.below h2)
  have HB2 := Lib.hid (HB1.out.trans (h2.mono HB1.out.size))
  obtain rfl := k2
  clear h2
  obtain ⟨fbs_0, fbs_1, fbs_2, fbs_l, -⟩ := bs_2.out.o3
  go_wp2_with (go_at_call 14; refine name_calls ?_; intro w3 e3; refine Hid.out ?_)
  unfold Hid
  have h3 : Below w2.heap.size w2 w3 := by rw [e3]; (repeat (first | (with_reducible exact Below.refl _ _) | ((with_reducible refine Below.setCell ?_ ?_ _); rotate_left 1; (focus (first | (simp; done) | (simp; omega) | (simp at *; omega)))) | ((with_reducible refine Below.alloc ?_ ?_ _); rotate_left 1; (focus (first | (simp; done) | (simp; omega) | (simp at *; omega))))))
  have bg_3 := Lib.hid (bg_2.out.below h3)
  have bs_3 := Lib.hid (bs_2.out.below h3)
  have HB3 := Lib.hid (HB2.out.trans (h3.mono HB2.out.size))
  clear e3 h3
  refine (HSS.out _ (KT.st _ _ _ _ _ _ _ HS.out HB3.out)).mono ?_
  rintro r w4 ⟨v4, rfl, k4, h4⟩
  have bg_4 := Lib.hid (bg_3.out.below h4)
  have bs_4 := Lib.hid (bs_3.out.below h4)
  have HB4 := Lib.hid (HB3.out.trans (h4.mono HB3.out.size))
  obtain rfl := k4
  clear h4
  clear fbs_0 fbs_1 fbs_2 fbs_l
  obtain ⟨fbg_0, fbg_1, fbg_2, fbg_3, fbg_4, fbg_l, -⟩ := bg_4.out.o5
  go_wp2_with (go_at_call 17; refine name_calls ?_; intro w5 e5; refine Hid.out ?_)
  unfold Hid
  have h5 : Below w4.heap.size w4 w5 := by rw [e5]; (repeat (first | (with_reducible exact Below.refl _ _) | ((with_reducible refine Below.setCell ?_ ?_ _); rotate_left 1; (focus (first | (simp; done) | (simp; omega) | (simp at *; omega)))) | ((with_reducible refine Below.alloc ?_ ?_ _); rotate_left 1; (focus (first | (simp; done) | (simp; omega) | (simp at *; omega))))))
  have bg_5 := Lib.hid (bg_4.out.below h5)
  have bs_5 := Lib.hid (bs_4.out.below h5)
  have HB5 := Lib.hid (HB4.out.trans (h5.mono HB4.out.size))
  clear e5 h5
  refine (HGU.out _ (KG.st _ _ _ _ _ _ _ _ _ _ HU.out HB5.out)).mono ?_
  rintro r w6 ⟨v6, rfl, k6, h6⟩
  have bg_6 := Lib.hid (bg_5.out.below h6)
  have bs_6 := Lib.hid (bs_5.out.below h6)
  have HB6 := Lib.hid (HB5.out.trans (h6.mono HB5.out.size))
  have g_6 := Lib.hid k6
  clear k6 h6
  clear fbg_0 fbg_1 fbg_2 fbg_3 fbg_4 fbg_l
  obtain ⟨fbg_0, fbg_1, fbg_2, fbg_3, fbg_4, fbg_l, -⟩ := bg_6.out.o5
  go_wp2_with (go_at_call 16; refine name_calls ?_; intro w7 e7; refine Hid.out ?_)
  unfold Hid
  have h7 : Below w6.heap.size w6 w7 := by rw [e7]; (repeat (first | (with_reducible exact Below.refl _ _) | ((with_reducible refine Below.setCell ?_ ?_ _); rotate_left 1; (focus (first | (simp; done) | (simp; omega) | (simp at *; omega)))) | ((with_reducible refine Below.alloc ?_ ?_ _); rotate_left 1; (focus (first | (simp; done) | (simp; omega) | (simp at *; omega))))))
  have g_7 := Lib.hid ((KGI.ik _ _ _ _ _ _ _).st _ _ _ g_6.out h7)
  have bg_7 := Lib.hid (bg_6.out.below h7)
  have bs_7 := Lib.hid (bs_6.out.below h7)
  have HB7 := Lib.hid (HB6.out.trans (h7.mono HB6.out.size))
  clear e7 h7
  refine (HBE.out _ g_7.out.kg).mono ?_
  rintro r w8 ⟨v8, rfl, k8, h8⟩
  have g_8 := Lib.hid ((KGI.ik _ _ _ _ _ _ _).st _ _ _ g_7.out h8)
  have bg_8 := Lib.hid (bg_7.out.below h8)
  have bs_8 := Lib.hid (bs_7.out.below h8)
  have HB8 := Lib.hid (HB7.out.trans (h8.mono HB7.out.size))
  obtain ⟨_, _, rfl, ⟨B8, d8, rfl, hc8, hi8⟩, rfl⟩ := k8
  have b_8 := Lib.hid (show KTI 0 BL NB BP (.agg #[(.int .i64 (0)), (.int .i64 (BL)), .slice B8 NB d8]) w8 from ⟨_, _, rfl, hc8, hi8⟩)
  clear hc8 hi8 h8
  clear fbg_0 fbg_1 fbg_2 fbg_3 fbg_4 fbg_l
  obtain ⟨fbg_0, fbg_1, fbg_2, fbg_3, fbg_4, fbg_l, -⟩ := bg_8.out.o5
  go_wp2_with (go_at_call 18; refine name_calls ?_; intro w9 e9; refine Hid.out ?_)
  unfold Hid
  have h9 : Below w8.heap.size w8 w9 := by rw [e9]; (repeat (first | (with_reducible exact Below.refl _ _) | ((with_reducible refine Below.setCell ?_ ?_ _); rotate_left 1; (focus (first | (simp; done) | (simp; omega) | (simp at *; omega)))) | ((with_reducible refine Below.alloc ?_ ?_ _); rotate_left 1; (focus (first | (simp; done) | (simp; omega) | (simp at *; omega))))))
  have b_9 := Lib.hid ((KTI.ik _ _ _ _).st _ _ _ b_8.out h9)
  have bg_9 := Lib.hid (bg_8.out.below h9)
  have bs_9 := Lib.hid (bs_8.out.below h9)
  have HB9 := Lib.hid (HB8.out.trans (h9.mono HB8.out.size))
  have bb_9 := Lib.hid (show Blk w9 w8.heap.size #[(.int .i64 (0)), (.int .i64 (BL)), .slice B8 NB d8] from by rw [e9]; exact Calm.Blk.new _ _ _)
  clear e9 h9
  refine (HCG.out _ (KG.st _ _ _ _ _ _ _ _ _ _ HU.out HB9.out)).mono ?_
  rintro r w10 ⟨v10, rfl, k10, h10⟩
  have b_10 := Lib.hid ((KTI.ik _ _ _ _).st _ _ _ b_9.out h10)
  have bg_10 := Lib.hid (bg_9.out.below h10)
  have bs_10 := Lib.hid (bs_9.out.below h10)
  have bb_10 := Lib.hid (bb_9.out.below h10)
  have HB10 := Lib.hid (HB9.out.trans (h10.mono HB9.out.size))
  obtain rfl := k10
  clear h10
  clear fbg_0 fbg_1 fbg_2 fbg_3 fbg_4 fbg_l
  go_wp2
  refine name_world ?_
  intro w11 e11
  have h11 : Below w10.heap.size w10 w11 := by rw [e11]; (repeat (first | (with_reducible exact Below.refl _ _) | ((with_reducible refine Below.setCell ?_ ?_ _); rotate_left 1; (focus (first | (simp; done) | (simp; omega) | (simp at *; omega)))) | ((with_reducible refine Below.alloc ?_ ?_ _); rotate_left 1; (focus (first | (simp; done) | (simp; omega) | (simp at *; omega))))))
  have b_11 := Lib.hid ((KTI.ik _ _ _ _).st _ _ _ b_10.out h11)
  have bg_11 := Lib.hid (bg_10.out.below h11)
  have bs_11 := Lib.hid (bs_10.out.below h11)
  have bb_11 := Lib.hid (bb_10.out.below h11)
  have HB11 := Lib.hid (HB10.out.trans (h11.mono HB10.out.size))
  have bz_11 := Lib.hid (show Blk w11 w10.heap.size #[(.int .i64 (0)), (.int .i64 (0)), .slice none 0 0] from by rw [e11]; exact Calm.Blk.new _ _ _)
  clear e11 h11
  obtain ⟨fbg_0, fbg_1, fbg_2, fbg_3, fbg_4, fbg_l, -⟩ := bg_11.out.o5
  obtain ⟨fbs_0, fbs_1, fbs_2, fbs_l, -⟩ := bs_11.out.o3
  obtain ⟨fbb_0, fbb_1, fbb_2, fbb_l, -⟩ := bb_11.out.o3
  obtain ⟨fbz_0, fbz_1, fbz_2, fbz_l, -⟩ := bz_11.out.o3
  refine Rel.region3 29 (by kernel_rfl) (by kernel_rfl) (by kernel_rfl) ?_
  simp only [List.take_succ_cons, List.take_zero, List.drop_succ_cons, List.drop_zero, List.filterMap_cons, List.filterMap_nil]
  (apply Rel.op3; (focus (first | exact Rel.gno rfl | exact Rel.gyes _ true _ rfl rfl rfl | exact Rel.gyes _ false _ rfl rfl rfl)); (focus (intro a W hb hd hbase; obtain ⟨hc, hf⟩ := bcell hb; clear hb hf; simp [Rel.deps, Rel.dep1, Rel.ons, Region.binds, Act.eval, KV] at hd; simp only [Act.eval, List.mem_cons, List.not_mem_nil, not_or, and_imp, or_false, Array.getD_eq_getD_getElem?] at hbase; go_simp; (try go_bits); (try rfl); done)); (try simp only [List.nil_append, List.cons_append]))
  refine Rel.callK 17 (KGI lk ht rc M ts L gs) ((KGI.ik _ _ _ _ _ _ _).st) (Rel.gno rfl) ?_ ?_
  · intro a W hb hd hbase
    have q1 : a.eval (.tmp 30) = _ := (Rel.dep_at hd 0 rfl rfl)
    refine ⟨#[a.eval (.tmp 30)], ?_, by rw [q1]; exact HGU.out _ (KG.st _ _ _ _ _ _ _ _ _ _ HU.out (HB11.out.trans (hb.mono HB11.out.size)))⟩
    clear hd hbase hb
    go_simp
    (first | done | rfl | (refine ⟨?_, ?_⟩ <;> rfl))
  (try simp only [List.nil_append, List.cons_append])
  refine Rel.callK 20 (KV (.int .i64 (E))) (KV.st _) (Rel.gno rfl) ?_ ?_
  · intro a W hb hd hbase
    refine ⟨#[a.eval (.tmp 31)], ?_, HPG.out _ (Rel.dep_at hd 1 rfl rfl).kg⟩
    clear hd hbase hb
    go_simp
    (first | done | rfl | (refine ⟨?_, ?_⟩ <;> rfl))
  (try simp only [List.nil_append, List.cons_append])
  (apply Rel.op3; (focus (first | exact Rel.gno rfl | exact Rel.gyes _ true _ rfl rfl rfl | exact Rel.gyes _ false _ rfl rfl rfl)); (focus (intro a W hb hd hbase; obtain ⟨hc, hf⟩ := bcell hb; clear hb hf; simp [Rel.deps, Rel.dep1, Rel.ons, Region.binds, Act.eval, KV] at hd; simp only [Act.eval, List.mem_cons, List.not_mem_nil, not_or, and_imp, or_false, Array.getD_eq_getD_getElem?] at hbase; go_simp; (try go_bits); (try rfl); done)); (try simp only [List.nil_append, List.cons_append]))
  (apply Rel.op3; (focus (first | exact Rel.gno rfl | exact Rel.gyes _ true _ rfl rfl rfl | exact Rel.gyes _ false _ rfl rfl rfl)); (focus (intro a W hb hd hbase; obtain ⟨hc, hf⟩ := bcell hb; clear hb hf; simp [Rel.deps, Rel.dep1, Rel.ons, Region.binds, Act.eval, KV] at hd; simp only [Act.eval, List.mem_cons, List.not_mem_nil, not_or, and_imp, or_false, Array.getD_eq_getD_getElem?] at hbase; go_simp; (try go_bits); (try rfl); done)); (try simp only [List.nil_append, List.cons_append]))
  (apply Rel.op3; (focus (first | exact Rel.gno rfl | exact Rel.gyes _ true _ rfl rfl rfl | exact Rel.gyes _ false _ rfl rfl rfl)); (focus (intro a W hb hd hbase; obtain ⟨hc, hf⟩ := bcell hb; clear hb hf; simp [Rel.deps, Rel.dep1, Rel.ons, Region.binds, Act.eval, KV] at hd; simp only [Act.eval, List.mem_cons, List.not_mem_nil, not_or, and_imp, or_false, Array.getD_eq_getD_getElem?] at hbase; go_simp; (try go_bits); (try rfl); done)); (try simp only [List.nil_append, List.cons_append]))
  (apply Rel.op3; (focus (first | exact Rel.gno rfl | exact Rel.gyes _ true _ rfl rfl rfl | exact Rel.gyes _ false _ rfl rfl rfl)); (focus (intro a W hb hd hbase; obtain ⟨hc, hf⟩ := bcell hb; clear hb hf; simp [Rel.deps, Rel.dep1, Rel.ons, Region.binds, Act.eval, KV] at hd; simp only [Act.eval, List.mem_cons, List.not_mem_nil, not_or, and_imp, or_false, Array.getD_eq_getD_getElem?] at hbase; go_simp; (try go_bits); (try rfl); done)); (try simp only [List.nil_append, List.cons_append]))
  refine Rel.callK 17 (KGI lk ht rc M ts L gs) ((KGI.ik _ _ _ _ _ _ _).st) (Rel.gyes 5 true _ rfl rfl rfl) ?_ ?_
  · intro a W hb hd hbase
    have q1 : a.eval (.tmp 36) = _ := (Rel.dep_at hd 6 rfl rfl)
    refine ⟨#[a.eval (.tmp 36)], ?_, by rw [q1]; exact HGU.out _ (KG.st _ _ _ _ _ _ _ _ _ _ HU.out (HB11.out.trans (hb.mono HB11.out.size)))⟩
    clear hd hbase hb
    go_simp
    (first | done | rfl | (refine ⟨?_, ?_⟩ <;> rfl))
  (try simp only [List.nil_append, List.cons_append])
  (apply Rel.op3; (focus (first | exact Rel.gno rfl | exact Rel.gyes _ true _ rfl rfl rfl | exact Rel.gyes _ false _ rfl rfl rfl)); (focus (intro a W hb hd hbase; obtain ⟨hc, hf⟩ := bcell hb; clear hb hf; simp [Rel.deps, Rel.dep1, Rel.ons, Region.binds, Act.eval, KV] at hd; simp only [Act.eval, List.mem_cons, List.not_mem_nil, not_or, and_imp, or_false, Array.getD_eq_getD_getElem?] at hbase; go_simp; (try go_bits); (try rfl); done)); (try simp only [List.nil_append, List.cons_append]))
  refine Rel.callK 22 (KTI h lv n l) ((KTI.ik _ _ _ _).st) (Rel.gyes 5 true _ rfl rfl rfl) ?_ ?_
  · intro a W hb hd hbase
    have q1 : a.eval (.tmp 38) = _ := (Rel.dep_at hd 8 rfl rfl)
    refine ⟨#[a.eval (.tmp 38)], ?_, by rw [q1]; exact HSU.out _ (KT.st _ _ _ _ _ _ _ HS.out (HB11.out.trans (hb.mono HB11.out.size)))⟩
    clear hd hbase hb
    go_simp
    (first | done | rfl | (refine ⟨?_, ?_⟩ <;> rfl))
  (try simp only [List.nil_append, List.cons_append])
  refine Rel.callK 21 (KV (.int .i64 (ST))) (KV.st _) (Rel.gyes 5 true _ rfl rfl rfl) ?_ ?_
  · intro a W hb hd hbase
    refine ⟨#[a.eval (.tmp 37), a.eval (.tmp 39)], ?_, HPS.out _ (Rel.dep_at hd 7 rfl rfl).kg (Rel.dep_at hd 9 rfl rfl).kt⟩
    clear hd hbase hb
    go_simp
    (first | done | rfl | (refine ⟨?_, ?_⟩ <;> rfl))
  (try simp only [List.nil_append, List.cons_append])
  (apply Rel.op3; (focus (first | exact Rel.gno rfl | exact Rel.gyes _ true _ rfl rfl rfl | exact Rel.gyes _ false _ rfl rfl rfl)); (focus (intro a W hb hd hbase; obtain ⟨hc, hf⟩ := bcell hb; clear hb hf; simp [Rel.deps, Rel.dep1, Rel.ons, Region.binds, Act.eval, KV] at hd; simp only [Act.eval, List.mem_cons, List.not_mem_nil, not_or, and_imp, or_false, Array.getD_eq_getD_getElem?] at hbase; go_simp; (try go_bits); (try rfl); done)); (try simp only [List.nil_append, List.cons_append]))
  (apply Rel.op3; (focus (first | exact Rel.gno rfl | exact Rel.gyes _ true _ rfl rfl rfl | exact Rel.gyes _ false _ rfl rfl rfl)); (focus (intro a W hb hd hbase; obtain ⟨hc, hf⟩ := bcell hb; clear hb hf; simp [Rel.deps, Rel.dep1, Rel.ons, Region.binds, Act.eval, KV] at hd; simp only [Act.eval, List.mem_cons, List.not_mem_nil, not_or, and_imp, or_false, Array.getD_eq_getD_getElem?] at hbase; go_simp; (try go_bits); (try rfl); done)); (try simp only [List.nil_append, List.cons_append]))
  refine Rel.callK 23 (KV (.int .i64 (ST))) (KV.st _) (Rel.gyes 5 true _ rfl rfl rfl) ?_ ?_
  · intro a W hb hd hbase
    have q1 : a.eval (.tmp 41) = _ := (Rel.dep_at hd 11 rfl rfl)
    have q2 : a.eval (.tmp 42) = _ := (Rel.dep_at hd 12 rfl rfl)
    refine ⟨#[a.eval (.tmp 41), a.eval (.tmp 42)], ?_, by rw [q1, q2]; exact HRS.out _ (KG.st _ _ _ _ _ _ _ _ _ _ HU.out (HB11.out.trans (hb.mono HB11.out.size))) (KT.st _ _ _ _ _ _ _ HS.out (HB11.out.trans (hb.mono HB11.out.size)))⟩
    clear hd hbase hb
    go_simp
    (first | done | rfl | (refine ⟨?_, ?_⟩ <;> rfl))
  (try simp only [List.nil_append, List.cons_append])
  (apply Rel.op3; (focus (first | exact Rel.gno rfl | exact Rel.gyes _ true _ rfl rfl rfl | exact Rel.gyes _ false _ rfl rfl rfl)); (focus (intro a W hb hd hbase; obtain ⟨hc, hf⟩ := bcell hb; clear hb hf; simp [Rel.deps, Rel.dep1, Rel.ons, Region.binds, Act.eval, KV] at hd; simp only [Act.eval, List.mem_cons, List.not_mem_nil, not_or, and_imp, or_false, Array.getD_eq_getD_getElem?] at hbase; go_simp; (try go_bits); (try rfl); done)); (try simp only [List.nil_append, List.cons_append]))
  (apply Rel.op3; (focus (first | exact Rel.gno rfl | exact Rel.gyes _ true _ rfl rfl rfl | exact Rel.gyes _ false _ rfl rfl rfl)); (focus (intro a W hb hd hbase; obtain ⟨hc, hf⟩ := bcell hb; clear hb hf; simp [Rel.deps, Rel.dep1, Rel.ons, Region.binds, Act.eval, KV] at hd; simp only [Act.eval, List.mem_cons, List.not_mem_nil, not_or, and_imp, or_false, Array.getD_eq_getD_getElem?] at hbase; go_simp; (try go_bits); (try rfl); done)); (try simp only [List.nil_append, List.cons_append]))
  (apply Rel.op3; (focus (first | exact Rel.gno rfl | exact Rel.gyes _ true _ rfl rfl rfl | exact Rel.gyes _ false _ rfl rfl rfl)); (focus (intro a W hb hd hbase; obtain ⟨hc, hf⟩ := bcell hb; clear hb hf; simp [Rel.deps, Rel.dep1, Rel.ons, Region.binds, Act.eval, KV] at hd; simp only [Act.eval, List.mem_cons, List.not_mem_nil, not_or, and_imp, or_false, Array.getD_eq_getD_getElem?] at hbase; go_simp; (try go_bits); (try rfl); done)); (try simp only [List.nil_append, List.cons_append]))
  (apply Rel.op3; (focus (first | exact Rel.gno rfl | exact Rel.gyes _ true _ rfl rfl rfl | exact Rel.gyes _ false _ rfl rfl rfl)); (focus (intro a W hb hd hbase; obtain ⟨hc, hf⟩ := bcell hb; clear hb hf; simp [Rel.deps, Rel.dep1, Rel.ons, Region.binds, Act.eval, KV] at hd; simp only [Act.eval, List.mem_cons, List.not_mem_nil, not_or, and_imp, or_false, Array.getD_eq_getD_getElem?] at hbase; go_simp; (try go_bits); (try rfl); done)); (try simp only [List.nil_append, List.cons_append]))
  refine Rel.callK 25 (KT 0 BL NB BP) (KT.st _ _ _ _) (Rel.gyes 16 true _ rfl rfl rfl) ?_ ?_
  · intro a W hb hd hbase
    have q1 : a.eval (.tmp 47) = _ := (Rel.dep_at hd 17 rfl rfl)
    refine ⟨#[a.eval (.tmp 47)], ?_, by rw [q1]; exact told_K ((KTI.ik _ _ _ _).st _ _ _ b_11.out hb).kt⟩
    clear hd hbase hb
    go_simp
    (first | done | rfl | (refine ⟨?_, ?_⟩ <;> rfl))
  (try simp only [List.nil_append, List.cons_append])
  (apply Rel.op3; (focus (first | exact Rel.gno rfl | exact Rel.gyes _ true _ rfl rfl rfl | exact Rel.gyes _ false _ rfl rfl rfl)); (focus (intro a W hb hd hbase; obtain ⟨hc, hf⟩ := bcell hb; clear hb hf; simp [Rel.deps, Rel.dep1, Rel.ons, Region.binds, Act.eval, KV] at hd; simp only [Act.eval, List.mem_cons, List.not_mem_nil, not_or, and_imp, or_false, Array.getD_eq_getD_getElem?] at hbase; go_simp; (try go_bits); (try rfl); done)); (try simp only [List.nil_append, List.cons_append]))
  refine Rel.callK 24 (KV (.bool true)) (KV.st _) (Rel.gyes 16 true _ rfl rfl rfl) ?_ ?_
  · intro a W hb hd hbase
    have q2 : a.eval (.tmp 49) = _ := (Rel.dep_at hd 19 rfl rfl)
    refine ⟨#[a.eval (.tmp 48), a.eval (.tmp 49)], ?_, by rw [q2]; exact HSM.out _ (Rel.dep_at hd 18 rfl rfl) (HZZ.out _)⟩
    clear hd hbase hb
    go_simp
    (first | done | rfl | (refine ⟨?_, ?_⟩ <;> rfl))
  (try simp only [List.nil_append, List.cons_append])
  (apply Rel.op3; (focus (first | exact Rel.gno rfl | exact Rel.gyes _ true _ rfl rfl rfl | exact Rel.gyes _ false _ rfl rfl rfl)); (focus (intro a W hb hd hbase; obtain ⟨hc, hf⟩ := bcell hb; clear hb hf; simp [Rel.deps, Rel.dep1, Rel.ons, Region.binds, Act.eval, KV] at hd; simp only [Act.eval, List.mem_cons, List.not_mem_nil, not_or, and_imp, or_false, Array.getD_eq_getD_getElem?] at hbase; go_simp; (try go_bits); (try rfl); done)); (try simp only [List.nil_append, List.cons_append]))
  (apply Rel.op3; (focus (first | exact Rel.gno rfl | exact Rel.gyes _ true _ rfl rfl rfl | exact Rel.gyes _ false _ rfl rfl rfl)); (focus (intro a W hb hd hbase; obtain ⟨hc, hf⟩ := bcell hb; clear hb hf; simp [Rel.deps, Rel.dep1, Rel.ons, Region.binds, Act.eval, KV] at hd; simp only [Act.eval, List.mem_cons, List.not_mem_nil, not_or, and_imp, or_false, Array.getD_eq_getD_getElem?] at hbase; go_simp; (try go_bits); (try rfl); done)); (try simp only [List.nil_append, List.cons_append]))
  (apply Rel.op3; (focus (first | exact Rel.gno rfl | exact Rel.gyes _ true _ rfl rfl rfl | exact Rel.gyes _ false _ rfl rfl rfl)); (focus (intro a W hb hd hbase; obtain ⟨hc, hf⟩ := bcell hb; clear hb hf; simp [Rel.deps, Rel.dep1, Rel.ons, Region.binds, Act.eval, KV] at hd; simp only [Act.eval, List.mem_cons, List.not_mem_nil, not_or, and_imp, or_false, Array.getD_eq_getD_getElem?] at hbase; go_simp; (try go_bits); (try rfl); done)); (try simp only [List.nil_append, List.cons_append]))
  (apply Rel.op3; (focus (first | exact Rel.gno rfl | exact Rel.gyes _ true _ rfl rfl rfl | exact Rel.gyes _ false _ rfl rfl rfl)); (focus (intro a W hb hd hbase; obtain ⟨hc, hf⟩ := bcell hb; clear hb hf; simp [Rel.deps, Rel.dep1, Rel.ons, Region.binds, Act.eval, KV] at hd; simp only [Act.eval, List.mem_cons, List.not_mem_nil, not_or, and_imp, or_false, Array.getD_eq_getD_getElem?] at hbase; go_simp; (try go_bits); (try rfl); done)); (try simp only [List.nil_append, List.cons_append]))
  (apply Rel.op3; (focus (first | exact Rel.gno rfl | exact Rel.gyes _ true _ rfl rfl rfl | exact Rel.gyes _ false _ rfl rfl rfl)); (focus (intro a W hb hd hbase; obtain ⟨hc, hf⟩ := bcell hb; clear hb hf; simp [Rel.deps, Rel.dep1, Rel.ons, Region.binds, Act.eval, KV] at hd; simp only [Act.eval, List.mem_cons, List.not_mem_nil, not_or, and_imp, or_false, Array.getD_eq_getD_getElem?] at hbase; go_simp; (try go_bits); (try rfl); done)); (try simp only [List.nil_append, List.cons_append]))
  (apply Rel.op3; (focus (first | exact Rel.gno rfl | exact Rel.gyes _ true _ rfl rfl rfl | exact Rel.gyes _ false _ rfl rfl rfl)); (focus (intro a W hb hd hbase; obtain ⟨hc, hf⟩ := bcell hb; clear hb hf; simp [Rel.deps, Rel.dep1, Rel.ons, Region.binds, Act.eval, KV] at hd; simp only [Act.eval, List.mem_cons, List.not_mem_nil, not_or, and_imp, or_false, Array.getD_eq_getD_getElem?] at hbase; go_simp; (try go_bits); (try rfl); done)); (try simp only [List.nil_append, List.cons_append]))
  (apply Rel.op3; (focus (first | exact Rel.gno rfl | exact Rel.gyes _ true _ rfl rfl rfl | exact Rel.gyes _ false _ rfl rfl rfl)); (focus (intro a W hb hd hbase; obtain ⟨hc, hf⟩ := bcell hb; clear hb hf; simp [Rel.deps, Rel.dep1, Rel.ons, Region.binds, Act.eval, KV] at hd; simp only [Act.eval, List.mem_cons, List.not_mem_nil, not_or, and_imp, or_false, Array.getD_eq_getD_getElem?] at hbase; go_simp; (try go_bits); (try rfl); done)); (try simp only [List.nil_append, List.cons_append]))
  refine Rel.callK 15 (KV (.bool true)) (KV.st _) (Rel.gyes 27 true _ rfl rfl rfl) ?_ ?_
  · intro a W hb hd hbase
    refine ⟨#[], ?_, awake_K _ (HTab.out.below (HB11.out.trans (hb.mono HB11.out.size)))⟩
    clear hd hbase hb
    go_simp
    (first | done | rfl | (refine ⟨?_, ?_⟩ <;> rfl))
  (try simp only [List.nil_append, List.cons_append])
  refine Rel.done3 ?_
  intro x w12 h12 hx
  simp only [Rel.facts, Nat.zero_add, Nat.reduceAdd] at hx
  clear fbg_0 fbg_1 fbg_2 fbg_3 fbg_4 fbg_l
  clear fbs_0 fbs_1 fbs_2 fbs_l
  clear fbb_0 fbb_1 fbb_2 fbb_l
  clear fbz_0 fbz_1 fbz_2 fbz_l
  obtain ⟨e0, _, e2, e3, e4, e5, e6, _, e8, _, e10, e11, e12, e13, e14, e15, e16, e17, _, e19, e20, e21, e22, e23, e24, e25, e26, e27, e28, _⟩ := hx
  have e2 : x 2 = _ := e2
  have e10 : x 10 = _ := e10
  have e13 : x 13 = _ := e13
  have e20 : x 20 = _ := e20
  have e28 : x 28 = _ := e28
  simp only [Rel.fill, Nat.zero_add, Nat.reduceAdd, e0, e2, e3, e4, e5, e6, e8, e10, e11, e12, e13, e14, e15, e16, e17, e19, e20, e21, e22, e23, e24, e25, e26, e27, e28]
  simp only [Act.put, List.setIfInBounds_toArray, List.set_cons_zero, List.set_cons_succ]
  clear e0 e2 e3 e4 e5 e6 e8 e10 e11 e12 e13 e14 e15 e16 e17 e19 e20 e21 e22 e23 e24 e25 e26 e27 e28
  have b_12 := Lib.hid ((KTI.ik _ _ _ _).st _ _ _ b_11.out h12)
  have bg_12 := Lib.hid (bg_11.out.below h12)
  have bs_12 := Lib.hid (bs_11.out.below h12)
  have bb_12 := Lib.hid (bb_11.out.below h12)
  have bz_12 := Lib.hid (bz_11.out.below h12)
  have HB12 := Lib.hid (HB11.out.trans (h12.mono HB11.out.size))
  clear h12
  go_wp2
  go_ret
  exact ⟨by first | rfl | (simp; done), HB12.out⟩
end Go.Proofs.YtdeapbihbhoefaaDoor

/- ProtectGuards, case 3. -/
namespace Go.Proofs.YtdeapbihbhoefaaDoor
open Go.RowKit
open Calm (bcell Blk)
set_option maxRecDepth 100000 in
set_option maxHeartbeats 8000000 in
theorem guards_3 (lk ht rc h lv : Int) (M L n : Nat) (ts gs l : List Int) (u v : Value) (w : World) (hTab : PTab w) (hM : M = ts.length) (hL : L = gs.length) (hn : n = l.length) (b0 : M ≤ 9 ∧ L ≤ 9) (b1 : n ≤ 9) (b2 : guardErr lk ht rc ts gs = 0) (hu : KG lk ht rc M ts L gs u w) (hv : KT h lv n l v w) :
    Calls Tryd.prog 3 #[u, v] w fun r w' => r = .returned (.bool true) ∧ Below w.heap.size w w' := by
  obtain ⟨A1, c1, A2, c2, rfl, hT, hG⟩ := hu
  obtain ⟨A3, c3, rfl, hP⟩ := hv
  have HU := Lib.hid (show KG lk ht rc M ts L gs (.agg #[(.int .i64 (lk)), (.int .i64 (ht)), .slice A1 M c1, (.int .i64 (rc)), .slice A2 L c2]) w from ⟨_, _, _, _, rfl, hT, hG⟩)
  have HS := Lib.hid (show KT h lv n l (.agg #[(.int .i64 (h)), (.int .i64 (lv)), .slice A3 n c3]) w from ⟨_, _, rfl, hP⟩)
  have HSH : Hid (∀ W, KG lk ht rc M ts L gs (.agg #[(.int .i64 (lk)), (.int .i64 (ht)), .slice A1 M c1, (.int .i64 (rc)), .slice A2 L c2]) W → Calls Tryd.prog 13 #[.agg #[(.int .i64 (lk)), (.int .i64 (ht)), .slice A1 M c1, (.int .i64 (rc)), .slice A2 L c2]] W (KP (KV (.bool true)) W)) := Lib.hid (fun W q => by have := Short_K q; rwa [decide_eq_true b0] at this)
  have HSS : Hid (∀ W, KT h lv n l (.agg #[(.int .i64 (h)), (.int .i64 (lv)), .slice A3 n c3]) W → Calls Tryd.prog 14 #[.agg #[(.int .i64 (h)), (.int .i64 (lv)), .slice A3 n c3]] W (KP (KV (.bool true)) W)) := Lib.hid (fun W q => by have := ShortState_K q; rwa [decide_eq_true b1] at this)
  obtain ⟨b3, b4⟩ := b0
  have HGU : Hid (∀ {x : Value} (W : World), KG lk ht rc M ts L gs x W → Calls Tryd.prog 17 #[x] W (KP (KGI lk ht rc M ts L gs) W)) := Lib.hid (fun W q => guard_K hM hL (by omega) (by omega) q)
  have HSU : Hid (∀ {x : Value} (W : World), KT h lv n l x W → Calls Tryd.prog 22 #[x] W (KP (KTI h lv n l) W)) := Lib.hid (fun W q => state_K hn (by omega) q)
  obtain ⟨E, hE⟩ : ∃ E, E = guardErr lk ht rc ts gs := ⟨_, rfl⟩
  obtain ⟨ST, hST⟩ : ∃ ST, ST = stErr lk ht rc ts gs h lv l := ⟨_, rfl⟩
  have HPG : Hid (∀ {x : Value} (W : World), KG lk ht rc M ts L gs x W → Calls Tryd.prog 20 #[x] W (KP (KV (.int .i64 (E))) W)) := Lib.hid (fun W q => by rw [hE]; exact cCheckGuard hM hL (by omega) (by omega) q)
  have HCG : Hid (∀ {x : Value} (W : World), KG lk ht rc M ts L gs x W → Calls Tryd.prog 18 #[x] W (KP (KV (.int .i64 (E))) W)) := Lib.hid (fun W q => by rw [hE]; exact rGuard_K hM hL (by omega) (by omega) q)
  have HPS : Hid (∀ {x y : Value} (W : World), KG lk ht rc M ts L gs x W → KT h lv n l y W → Calls Tryd.prog 21 #[x, y] W (KP (KV (.int .i64 (ST))) W)) := Lib.hid (fun W q q2 => by rw [hST]; exact cCheckState hM hL hn (by omega) (by omega) (by omega) q q2)
  have HRS : Hid (∀ {x y : Value} (W : World), KG lk ht rc M ts L gs x W → KT h lv n l y W → Calls Tryd.prog 23 #[x, y] W (KP (KV (.int .i64 (ST))) W)) := Lib.hid (fun W q q2 => by rw [hST]; exact rCheckState_K hM hL hn (by omega) (by omega) (by omega) q q2)
  obtain ⟨BL, hBL⟩ : ∃ BL, BL = begLv E L := ⟨_, rfl⟩
  obtain ⟨BP, hBP⟩ : ∃ BP, BP = begPs E M := ⟨_, rfl⟩
  obtain ⟨NB, hNB⟩ : ∃ NB, NB = BP.length := ⟨_, rfl⟩
  have HBE : Hid (∀ {x : Value} (W : World), KG lk ht rc M ts L gs x W → Calls Tryd.prog 16 #[x] W (KP (K2 (KTI 0 BL NB BP) (KV (.int .i64 (E)))) W)) := Lib.hid (fun W q => by
    rw [hBL, hBP, hE]
    exact cBegin hM hL (by omega) (by omega) q (by rw [hNB, hBP, hE]))
  have hNB2 : NB ≤ 1000 := by
    rw [hNB, hBP]
    unfold begPs
    split
    · simp; omega
    · simp
  have HSM : Hid (∀ {x y : Value} (W : World), KT 0 BL NB BP x W → KT 0 BL NB BP y W → Calls Tryd.prog 24 #[x, y] W (KP (KV (.bool true)) W)) := Lib.hid (fun W q q2 => sameState_T hNB hNB2 q q2)
  have hv := guard_valid b2
  have hv1 := hv.tl
  have hv2 := hv.gl
  have HRB : Hid (∀ {x : Value} (W : World), KG lk ht rc M ts L gs x W → Calls Tryd.prog 19 #[x] W (KP (KTI 0 BL NB BP) W)) := Lib.hid (fun W q => by
    have he : E = 0 := by rw [hE]; exact b2
    have h1 : BP = List.replicate (M - 1) 0 := by rw [hBP]; unfold begPs; rw [if_pos he]
    have h2 : NB = M - 1 := by rw [hNB, h1]; simp
    have h3 : BL = ((L - 1 : Nat) : Int) := by rw [hBL]; unfold begLv; rw [if_pos he]
    rw [h1, h2, h3]
    exact rBegin_K (by omega) (by omega) q)
  rw [b2] at hE
  clear hv hv1 hv2
  have HTab := Lib.hid hTab
  clear hTab hM hL hn hT hG hP b2 hBL hBP hNB hNB2 hST
  subst hE
  go_enter Tryd.func3, Tryd.ntmps3
  have HB0 := Lib.hid (Below.refl w.heap.size w)
  go_wp2_with (go_at_call 13; refine name_calls ?_; intro w1 e1; refine Hid.out ?_)
  unfold Hid
  have h1 : Below w.heap.size w w1 := by rw [e1]; (repeat (first | (with_reducible exact Below.refl _ _) | ((with_reducible refine Below.setCell ?_ ?_ _); rotate_left 1; (focus (first | (simp; done) | (simp; omega) | (simp at *; omega)))) | ((with_reducible refine Below.alloc ?_ ?_ _); rotate_left 1; (focus (first | (simp; done) | (simp; omega) | (simp at *; omega))))))
  have HB1 := Lib.hid (HB0.out.trans (h1.mono HB0.out.size))
  have bg_1 := Lib.hid (show Blk w1 w.heap.size #[(.int .i64 (lk)), (.int .i64 (ht)), .slice A1 M c1, (.int .i64 (rc)), .slice A2 L c2] from by rw [e1]; (repeat (first | ((with_reducible refine Blk.at_ ?_); focus (first | rfl | (simp; done) | (simp; omega))) | (with_reducible refine Blk.alloc ?_ _) | (with_reducible refine Blk.below ?_ (by with_reducible assumption)) | (with_reducible refine Blk.drew ?_))))
  have bs_1 := Lib.hid (show Blk w1 (w.heap.size + 1) #[(.int .i64 (h)), (.int .i64 (lv)), .slice A3 n c3] from by rw [e1]; (repeat (first | ((with_reducible refine Blk.at_ ?_); focus (first | rfl | (simp; done) | (simp; omega))) | (with_reducible refine Blk.alloc ?_ _) | (with_reducible refine Blk.below ?_ (by with_reducible assumption)) | (with_reducible refine Blk.drew ?_))))
  clear e1 h1
  refine (HSH.out _ (KG.st _ _ _ _ _ _ _ _ _ _ HU.out HB1.out)).mono ?_
  rintro r w2 ⟨v2, rfl, k2, h2⟩
  have bg_2 := Lib.hid (bg_1.out.below h2)
  have bs_2 := Lib.hid (bs_1.out.below h2)
  have HB2 := Lib.hid (HB1.out.trans (h2.mono HB1.out.size))
  obtain rfl := k2
  clear h2
  obtain ⟨fbs_0, fbs_1, fbs_2, fbs_l, -⟩ := bs_2.out.o3
  go_wp2_with (go_at_call 14; refine name_calls ?_; intro w3 e3; refine Hid.out ?_)
  unfold Hid
  have h3 : Below w2.heap.size w2 w3 := by rw [e3]; (repeat (first | (with_reducible exact Below.refl _ _) | ((with_reducible refine Below.setCell ?_ ?_ _); rotate_left 1; (focus (first | (simp; done) | (simp; omega) | (simp at *; omega)))) | ((with_reducible refine Below.alloc ?_ ?_ _); rotate_left 1; (focus (first | (simp; done) | (simp; omega) | (simp at *; omega))))))
  have bg_3 := Lib.hid (bg_2.out.below h3)
  have bs_3 := Lib.hid (bs_2.out.below h3)
  have HB3 := Lib.hid (HB2.out.trans (h3.mono HB2.out.size))
  clear e3 h3
  refine (HSS.out _ (KT.st _ _ _ _ _ _ _ HS.out HB3.out)).mono ?_
  rintro r w4 ⟨v4, rfl, k4, h4⟩
  have bg_4 := Lib.hid (bg_3.out.below h4)
  have bs_4 := Lib.hid (bs_3.out.below h4)
  have HB4 := Lib.hid (HB3.out.trans (h4.mono HB3.out.size))
  obtain rfl := k4
  clear h4
  clear fbs_0 fbs_1 fbs_2 fbs_l
  obtain ⟨fbg_0, fbg_1, fbg_2, fbg_3, fbg_4, fbg_l, -⟩ := bg_4.out.o5
  go_wp2_with (go_at_call 17; refine name_calls ?_; intro w5 e5; refine Hid.out ?_)
  unfold Hid
  have h5 : Below w4.heap.size w4 w5 := by rw [e5]; (repeat (first | (with_reducible exact Below.refl _ _) | ((with_reducible refine Below.setCell ?_ ?_ _); rotate_left 1; (focus (first | (simp; done) | (simp; omega) | (simp at *; omega)))) | ((with_reducible refine Below.alloc ?_ ?_ _); rotate_left 1; (focus (first | (simp; done) | (simp; omega) | (simp at *; omega))))))
  have bg_5 := Lib.hid (bg_4.out.below h5)
  have bs_5 := Lib.hid (bs_4.out.below h5)
  have HB5 := Lib.hid (HB4.out.trans (h5.mono HB4.out.size))
  clear e5 h5
  refine (HGU.out _ (KG.st _ _ _ _ _ _ _ _ _ _ HU.out HB5.out)).mono ?_
  rintro r w6 ⟨v6, rfl, k6, h6⟩
  have bg_6 := Lib.hid (bg_5.out.below h6)
  have bs_6 := Lib.hid (bs_5.out.below h6)
  have HB6 := Lib.hid (HB5.out.trans (h6.mono HB5.out.size))
  have g_6 := Lib.hid k6
  clear k6 h6
  clear fbg_0 fbg_1 fbg_2 fbg_3 fbg_4 fbg_l
  obtain ⟨fbg_0, fbg_1, fbg_2, fbg_3, fbg_4, fbg_l, -⟩ := bg_6.out.o5
  go_wp2_with (go_at_call 16; refine name_calls ?_; intro w7 e7; refine Hid.out ?_)
  unfold Hid
  have h7 : Below w6.heap.size w6 w7 := by rw [e7]; (repeat (first | (with_reducible exact Below.refl _ _) | ((with_reducible refine Below.setCell ?_ ?_ _); rotate_left 1; (focus (first | (simp; done) | (simp; omega) | (simp at *; omega)))) | ((with_reducible refine Below.alloc ?_ ?_ _); rotate_left 1; (focus (first | (simp; done) | (simp; omega) | (simp at *; omega))))))
  have g_7 := Lib.hid ((KGI.ik _ _ _ _ _ _ _).st _ _ _ g_6.out h7)
  have bg_7 := Lib.hid (bg_6.out.below h7)
  have bs_7 := Lib.hid (bs_6.out.below h7)
  have HB7 := Lib.hid (HB6.out.trans (h7.mono HB6.out.size))
  clear e7 h7
  refine (HBE.out _ g_7.out.kg).mono ?_
  rintro r w8 ⟨v8, rfl, k8, h8⟩
  have g_8 := Lib.hid ((KGI.ik _ _ _ _ _ _ _).st _ _ _ g_7.out h8)
  have bg_8 := Lib.hid (bg_7.out.below h8)
  have bs_8 := Lib.hid (bs_7.out.below h8)
  have HB8 := Lib.hid (HB7.out.trans (h8.mono HB7.out.size))
  obtain ⟨_, _, rfl, ⟨B8, d8, rfl, hc8, hi8⟩, rfl⟩ := k8
  have b_8 := Lib.hid (show KTI 0 BL NB BP (.agg #[(.int .i64 (0)), (.int .i64 (BL)), .slice B8 NB d8]) w8 from ⟨_, _, rfl, hc8, hi8⟩)
  clear hc8 hi8 h8
  clear fbg_0 fbg_1 fbg_2 fbg_3 fbg_4 fbg_l
  obtain ⟨fbg_0, fbg_1, fbg_2, fbg_3, fbg_4, fbg_l, -⟩ := bg_8.out.o5
  go_wp2_with (go_at_call 18; refine name_calls ?_; intro w9 e9; refine Hid.out ?_)
  unfold Hid
  have h9 : Below w8.heap.size w8 w9 := by rw [e9]; (repeat (first | (with_reducible exact Below.refl _ _) | ((with_reducible refine Below.setCell ?_ ?_ _); rotate_left 1; (focus (first | (simp; done) | (simp; omega) | (simp at *; omega)))) | ((with_reducible refine Below.alloc ?_ ?_ _); rotate_left 1; (focus (first | (simp; done) | (simp; omega) | (simp at *; omega))))))
  have b_9 := Lib.hid ((KTI.ik _ _ _ _).st _ _ _ b_8.out h9)
  have bg_9 := Lib.hid (bg_8.out.below h9)
  have bs_9 := Lib.hid (bs_8.out.below h9)
  have HB9 := Lib.hid (HB8.out.trans (h9.mono HB8.out.size))
  have bb_9 := Lib.hid (show Blk w9 w8.heap.size #[(.int .i64 (0)), (.int .i64 (BL)), .slice B8 NB d8] from by rw [e9]; exact Calm.Blk.new _ _ _)
  clear e9 h9
  refine (HCG.out _ (KG.st _ _ _ _ _ _ _ _ _ _ HU.out HB9.out)).mono ?_
  rintro r w10 ⟨v10, rfl, k10, h10⟩
  have b_10 := Lib.hid ((KTI.ik _ _ _ _).st _ _ _ b_9.out h10)
  have bg_10 := Lib.hid (bg_9.out.below h10)
  have bs_10 := Lib.hid (bs_9.out.below h10)
  have bb_10 := Lib.hid (bb_9.out.below h10)
  have HB10 := Lib.hid (HB9.out.trans (h10.mono HB9.out.size))
  obtain rfl := k10
  clear h10
  clear fbg_0 fbg_1 fbg_2 fbg_3 fbg_4 fbg_l
  obtain ⟨fbg_0, fbg_1, fbg_2, fbg_3, fbg_4, fbg_l, -⟩ := bg_10.out.o5
  go_wp2_with (go_at_call 19; refine name_calls ?_; intro w11 e11; refine Hid.out ?_)
  unfold Hid
  have h11 : Below w10.heap.size w10 w11 := by rw [e11]; (repeat (first | (with_reducible exact Below.refl _ _) | ((with_reducible refine Below.setCell ?_ ?_ _); rotate_left 1; (focus (first | (simp; done) | (simp; omega) | (simp at *; omega)))) | ((with_reducible refine Below.alloc ?_ ?_ _); rotate_left 1; (focus (first | (simp; done) | (simp; omega) | (simp at *; omega))))))
  have b_11 := Lib.hid ((KTI.ik _ _ _ _).st _ _ _ b_10.out h11)
  have bg_11 := Lib.hid (bg_10.out.below h11)
  have bs_11 := Lib.hid (bs_10.out.below h11)
  have bb_11 := Lib.hid (bb_10.out.below h11)
  have HB11 := Lib.hid (HB10.out.trans (h11.mono HB10.out.size))
  have bz_11 := Lib.hid (show Blk w11 w10.heap.size #[(.int .i64 (0)), (.int .i64 (0)), .slice none 0 0] from by rw [e11]; exact Calm.Blk.new _ _ _)
  have tybz_11 := Lib.hid (show IsTy w11 w10.heap.size 26 from by rw [e11]; exact IsTy.new)
  clear e11 h11
  refine (HRB.out _ (KG.st _ _ _ _ _ _ _ _ _ _ HU.out HB11.out)).mono ?_
  rintro r w12 ⟨v12, rfl, k12, h12⟩
  have b_12 := Lib.hid ((KTI.ik _ _ _ _).st _ _ _ b_11.out h12)
  have bg_12 := Lib.hid (bg_11.out.below h12)
  have bs_12 := Lib.hid (bs_11.out.below h12)
  have bb_12 := Lib.hid (bb_11.out.below h12)
  have bz_12 := Lib.hid (bz_11.out.below h12)
  have tybz_12 := Lib.hid (tybz_11.out.below h12)
  have HB12 := Lib.hid (HB11.out.trans (h12.mono HB11.out.size))
  obtain ⟨B12, d12, rfl, hc12, hi12⟩ := k12
  have z_12 := Lib.hid (show KTI 0 BL NB BP (.agg #[(.int .i64 (0)), (.int .i64 (BL)), .slice B12 NB d12]) w12 from ⟨_, _, rfl, hc12, hi12⟩)
  clear hc12 hi12 h12
  clear fbg_0 fbg_1 fbg_2 fbg_3 fbg_4 fbg_l
  obtain ⟨fbz_0, fbz_1, fbz_2, fbz_l, fbz_f⟩ := bz_12.out.o3
  go_wp2
  have zs12 := HB10.out.size
  have zb := bb_10.out.lt
  have zg := bg_10.out.lt
  have zt := bs_10.out.lt
  refine name_world ?_
  intro w13 e13
  have hg13 : w.heap.size ≤ w10.heap.size := by omega
  have k13 : IntKeep w12 w13 := by rw [e13]; exact ((((IntKeep.refl w12).put tybz_12.out (by decide) 0 ((.int .i64 (0)))).put (tybz_12.out.put 0 ((.int .i64 (0)))) (by decide) 1 ((.int .i64 (BL)))).put ((tybz_12.out.put 0 ((.int .i64 (0)))).put 1 ((.int .i64 (BL)))) (by decide) 2 (.slice B12 NB d12))
  have HB13 := Lib.hid (show Below w.heap.size w w13 by rw [e13]; exact (((HB12.out.setCell (p := ⟨w10.heap.size, 0, none⟩) hg13 ((.int .i64 (0)))).setCell (p := ⟨w10.heap.size, 1, none⟩) hg13 ((.int .i64 (BL)))).setCell (p := ⟨w10.heap.size, 2, none⟩) hg13 (.slice B12 NB d12)))
  have tybz_13 := Lib.hid (show IsTy w13 (w10.heap.size) 26 by rw [e13]; exact (((tybz_12.out.put 0 ((.int .i64 (0)))).put 1 ((.int .i64 (BL)))).put 2 (.slice B12 NB d12)))
  have bg_13 := Lib.hid (show Blk w13 _ _ by rw [e13]; exact (((bg_12.out.far (p := ⟨w10.heap.size, 0, none⟩) (by show w10.heap.size ≠ _; omega) ((.int .i64 (0)))).far (p := ⟨w10.heap.size, 1, none⟩) (by show w10.heap.size ≠ _; omega) ((.int .i64 (BL)))).far (p := ⟨w10.heap.size, 2, none⟩) (by show w10.heap.size ≠ _; omega) (.slice B12 NB d12)))
  have bs_13 := Lib.hid (show Blk w13 _ _ by rw [e13]; exact (((bs_12.out.far (p := ⟨w10.heap.size, 0, none⟩) (by show w10.heap.size ≠ _; omega) ((.int .i64 (0)))).far (p := ⟨w10.heap.size, 1, none⟩) (by show w10.heap.size ≠ _; omega) ((.int .i64 (BL)))).far (p := ⟨w10.heap.size, 2, none⟩) (by show w10.heap.size ≠ _; omega) (.slice B12 NB d12)))
  have bb_13 := Lib.hid (show Blk w13 _ _ by rw [e13]; exact (((bb_12.out.far (p := ⟨w10.heap.size, 0, none⟩) (by show w10.heap.size ≠ _; omega) ((.int .i64 (0)))).far (p := ⟨w10.heap.size, 1, none⟩) (by show w10.heap.size ≠ _; omega) ((.int .i64 (BL)))).far (p := ⟨w10.heap.size, 2, none⟩) (by show w10.heap.size ≠ _; omega) (.slice B12 NB d12)))
  have b_13 := Lib.hid (KTI.ik _ _ _ _ _ _ _ b_12.out k13)
  have z_13 := Lib.hid (KTI.ik _ _ _ _ _ _ _ z_12.out k13)
  have bz_13 := Lib.hid (show Blk w13 w10.heap.size #[(.int .i64 (0)), (.int .i64 (BL)), .slice B12 NB d12] by rw [e13]; exact (((bz_12.out.set (i := 0) (by simp) ((.int .i64 (0)))).set (i := 1) (by simp) ((.int .i64 (BL)))).set (i := 2) (by simp) (.slice B12 NB d12)))
  clear fbz_0 fbz_1 fbz_2 fbz_l fbz_f
  clear e13 k13 hg13 zs12 zb zg zt
  obtain ⟨fbg_0, fbg_1, fbg_2, fbg_3, fbg_4, fbg_l, -⟩ := bg_13.out.o5
  obtain ⟨fbs_0, fbs_1, fbs_2, fbs_l, -⟩ := bs_13.out.o3
  obtain ⟨fbb_0, fbb_1, fbb_2, fbb_l, -⟩ := bb_13.out.o3
  obtain ⟨fbz_0, fbz_1, fbz_2, fbz_l, -⟩ := bz_13.out.o3
  refine Rel.region3 29 (by kernel_rfl) (by kernel_rfl) (by kernel_rfl) ?_
  simp only [List.take_succ_cons, List.take_zero, List.drop_succ_cons, List.drop_zero, List.filterMap_cons, List.filterMap_nil]
  (apply Rel.op3; (focus (first | exact Rel.gno rfl | exact Rel.gyes _ true _ rfl rfl rfl | exact Rel.gyes _ false _ rfl rfl rfl)); (focus (intro a W hb hd hbase; obtain ⟨hc, hf⟩ := bcell hb; clear hb hf; simp [Rel.deps, Rel.dep1, Rel.ons, Region.binds, Act.eval, KV] at hd; simp only [Act.eval, List.mem_cons, List.not_mem_nil, not_or, and_imp, or_false, Array.getD_eq_getD_getElem?] at hbase; go_simp; (try go_bits); (try rfl); done)); (try simp only [List.nil_append, List.cons_append]))
  refine Rel.callK 17 (KGI lk ht rc M ts L gs) ((KGI.ik _ _ _ _ _ _ _).st) (Rel.gno rfl) ?_ ?_
  · intro a W hb hd hbase
    have q1 : a.eval (.tmp 30) = _ := (Rel.dep_at hd 0 rfl rfl)
    refine ⟨#[a.eval (.tmp 30)], ?_, by rw [q1]; exact HGU.out _ (KG.st _ _ _ _ _ _ _ _ _ _ HU.out (HB13.out.trans (hb.mono HB13.out.size)))⟩
    clear hd hbase hb
    go_simp
    (first | done | rfl | (refine ⟨?_, ?_⟩ <;> rfl))
  (try simp only [List.nil_append, List.cons_append])
  refine Rel.callK 20 (KV (.int .i64 (0))) (KV.st _) (Rel.gno rfl) ?_ ?_
  · intro a W hb hd hbase
    refine ⟨#[a.eval (.tmp 31)], ?_, HPG.out _ (Rel.dep_at hd 1 rfl rfl).kg⟩
    clear hd hbase hb
    go_simp
    (first | done | rfl | (refine ⟨?_, ?_⟩ <;> rfl))
  (try simp only [List.nil_append, List.cons_append])
  (apply Rel.op3; (focus (first | exact Rel.gno rfl | exact Rel.gyes _ true _ rfl rfl rfl | exact Rel.gyes _ false _ rfl rfl rfl)); (focus (intro a W hb hd hbase; obtain ⟨hc, hf⟩ := bcell hb; clear hb hf; simp [Rel.deps, Rel.dep1, Rel.ons, Region.binds, Act.eval, KV] at hd; simp only [Act.eval, List.mem_cons, List.not_mem_nil, not_or, and_imp, or_false, Array.getD_eq_getD_getElem?] at hbase; go_simp; (try go_bits); (try rfl); done)); (try simp only [List.nil_append, List.cons_append]))
  (apply Rel.op3; (focus (first | exact Rel.gno rfl | exact Rel.gyes _ true _ rfl rfl rfl | exact Rel.gyes _ false _ rfl rfl rfl)); (focus (intro a W hb hd hbase; obtain ⟨hc, hf⟩ := bcell hb; clear hb hf; simp [Rel.deps, Rel.dep1, Rel.ons, Region.binds, Act.eval, KV] at hd; simp only [Act.eval, List.mem_cons, List.not_mem_nil, not_or, and_imp, or_false, Array.getD_eq_getD_getElem?] at hbase; go_simp; (try go_bits); (try rfl); done)); (try simp only [List.nil_append, List.cons_append]))
  (apply Rel.op3; (focus (first | exact Rel.gno rfl | exact Rel.gyes _ true _ rfl rfl rfl | exact Rel.gyes _ false _ rfl rfl rfl)); (focus (intro a W hb hd hbase; obtain ⟨hc, hf⟩ := bcell hb; clear hb hf; simp [Rel.deps, Rel.dep1, Rel.ons, Region.binds, Act.eval, KV] at hd; simp only [Act.eval, List.mem_cons, List.not_mem_nil, not_or, and_imp, or_false, Array.getD_eq_getD_getElem?] at hbase; go_simp; (try go_bits); (try rfl); done)); (try simp only [List.nil_append, List.cons_append]))
  (apply Rel.op3; (focus (first | exact Rel.gno rfl | exact Rel.gyes _ true _ rfl rfl rfl | exact Rel.gyes _ false _ rfl rfl rfl)); (focus (intro a W hb hd hbase; obtain ⟨hc, hf⟩ := bcell hb; clear hb hf; simp [Rel.deps, Rel.dep1, Rel.ons, Region.binds, Act.eval, KV] at hd; simp only [Act.eval, List.mem_cons, List.not_mem_nil, not_or, and_imp, or_false, Array.getD_eq_getD_getElem?] at hbase; go_simp; (try go_bits); (try rfl); done)); (try simp only [List.nil_append, List.cons_append]))
  refine Rel.callK 17 (KGI lk ht rc M ts L gs) ((KGI.ik _ _ _ _ _ _ _).st) (Rel.gyes 5 true _ rfl rfl rfl) ?_ ?_
  · intro a W hb hd hbase
    have q1 : a.eval (.tmp 36) = _ := (Rel.dep_at hd 6 rfl rfl)
    refine ⟨#[a.eval (.tmp 36)], ?_, by rw [q1]; exact HGU.out _ (KG.st _ _ _ _ _ _ _ _ _ _ HU.out (HB13.out.trans (hb.mono HB13.out.size)))⟩
    clear hd hbase hb
    go_simp
    (first | done | rfl | (refine ⟨?_, ?_⟩ <;> rfl))
  (try simp only [List.nil_append, List.cons_append])
  (apply Rel.op3; (focus (first | exact Rel.gno rfl | exact Rel.gyes _ true _ rfl rfl rfl | exact Rel.gyes _ false _ rfl rfl rfl)); (focus (intro a W hb hd hbase; obtain ⟨hc, hf⟩ := bcell hb; clear hb hf; simp [Rel.deps, Rel.dep1, Rel.ons, Region.binds, Act.eval, KV] at hd; simp only [Act.eval, List.mem_cons, List.not_mem_nil, not_or, and_imp, or_false, Array.getD_eq_getD_getElem?] at hbase; go_simp; (try go_bits); (try rfl); done)); (try simp only [List.nil_append, List.cons_append]))
  refine Rel.callK 22 (KTI h lv n l) ((KTI.ik _ _ _ _).st) (Rel.gyes 5 true _ rfl rfl rfl) ?_ ?_
  · intro a W hb hd hbase
    have q1 : a.eval (.tmp 38) = _ := (Rel.dep_at hd 8 rfl rfl)
    refine ⟨#[a.eval (.tmp 38)], ?_, by rw [q1]; exact HSU.out _ (KT.st _ _ _ _ _ _ _ HS.out (HB13.out.trans (hb.mono HB13.out.size)))⟩
    clear hd hbase hb
    go_simp
    (first | done | rfl | (refine ⟨?_, ?_⟩ <;> rfl))
  (try simp only [List.nil_append, List.cons_append])
  refine Rel.callK 21 (KV (.int .i64 (ST))) (KV.st _) (Rel.gyes 5 true _ rfl rfl rfl) ?_ ?_
  · intro a W hb hd hbase
    refine ⟨#[a.eval (.tmp 37), a.eval (.tmp 39)], ?_, HPS.out _ (Rel.dep_at hd 7 rfl rfl).kg (Rel.dep_at hd 9 rfl rfl).kt⟩
    clear hd hbase hb
    go_simp
    (first | done | rfl | (refine ⟨?_, ?_⟩ <;> rfl))
  (try simp only [List.nil_append, List.cons_append])
  (apply Rel.op3; (focus (first | exact Rel.gno rfl | exact Rel.gyes _ true _ rfl rfl rfl | exact Rel.gyes _ false _ rfl rfl rfl)); (focus (intro a W hb hd hbase; obtain ⟨hc, hf⟩ := bcell hb; clear hb hf; simp [Rel.deps, Rel.dep1, Rel.ons, Region.binds, Act.eval, KV] at hd; simp only [Act.eval, List.mem_cons, List.not_mem_nil, not_or, and_imp, or_false, Array.getD_eq_getD_getElem?] at hbase; go_simp; (try go_bits); (try rfl); done)); (try simp only [List.nil_append, List.cons_append]))
  (apply Rel.op3; (focus (first | exact Rel.gno rfl | exact Rel.gyes _ true _ rfl rfl rfl | exact Rel.gyes _ false _ rfl rfl rfl)); (focus (intro a W hb hd hbase; obtain ⟨hc, hf⟩ := bcell hb; clear hb hf; simp [Rel.deps, Rel.dep1, Rel.ons, Region.binds, Act.eval, KV] at hd; simp only [Act.eval, List.mem_cons, List.not_mem_nil, not_or, and_imp, or_false, Array.getD_eq_getD_getElem?] at hbase; go_simp; (try go_bits); (try rfl); done)); (try simp only [List.nil_append, List.cons_append]))
  refine Rel.callK 23 (KV (.int .i64 (ST))) (KV.st _) (Rel.gyes 5 true _ rfl rfl rfl) ?_ ?_
  · intro a W hb hd hbase
    have q1 : a.eval (.tmp 41) = _ := (Rel.dep_at hd 11 rfl rfl)
    have q2 : a.eval (.tmp 42) = _ := (Rel.dep_at hd 12 rfl rfl)
    refine ⟨#[a.eval (.tmp 41), a.eval (.tmp 42)], ?_, by rw [q1, q2]; exact HRS.out _ (KG.st _ _ _ _ _ _ _ _ _ _ HU.out (HB13.out.trans (hb.mono HB13.out.size))) (KT.st _ _ _ _ _ _ _ HS.out (HB13.out.trans (hb.mono HB13.out.size)))⟩
    clear hd hbase hb
    go_simp
    (first | done | rfl | (refine ⟨?_, ?_⟩ <;> rfl))
  (try simp only [List.nil_append, List.cons_append])
  (apply Rel.op3; (focus (first | exact Rel.gno rfl | exact Rel.gyes _ true _ rfl rfl rfl | exact Rel.gyes _ false _ rfl rfl rfl)); (focus (intro a W hb hd hbase; obtain ⟨hc, hf⟩ := bcell hb; clear hb hf; simp [Rel.deps, Rel.dep1, Rel.ons, Region.binds, Act.eval, KV] at hd; simp only [Act.eval, List.mem_cons, List.not_mem_nil, not_or, and_imp, or_false, Array.getD_eq_getD_getElem?] at hbase; go_simp; (try go_bits); (try rfl); done)); (try simp only [List.nil_append, List.cons_append]))
  (apply Rel.op3; (focus (first | exact Rel.gno rfl | exact Rel.gyes _ true _ rfl rfl rfl | exact Rel.gyes _ false _ rfl rfl rfl)); (focus (intro a W hb hd hbase; obtain ⟨hc, hf⟩ := bcell hb; clear hb hf; simp [Rel.deps, Rel.dep1, Rel.ons, Region.binds, Act.eval, KV] at hd; simp only [Act.eval, List.mem_cons, List.not_mem_nil, not_or, and_imp, or_false, Array.getD_eq_getD_getElem?] at hbase; go_simp; (try go_bits); (try rfl); done)); (try simp only [List.nil_append, List.cons_append]))
  (apply Rel.op3; (focus (first | exact Rel.gno rfl | exact Rel.gyes _ true _ rfl rfl rfl | exact Rel.gyes _ false _ rfl rfl rfl)); (focus (intro a W hb hd hbase; obtain ⟨hc, hf⟩ := bcell hb; clear hb hf; simp [Rel.deps, Rel.dep1, Rel.ons, Region.binds, Act.eval, KV] at hd; simp only [Act.eval, List.mem_cons, List.not_mem_nil, not_or, and_imp, or_false, Array.getD_eq_getD_getElem?] at hbase; go_simp; (try go_bits); (try rfl); done)); (try simp only [List.nil_append, List.cons_append]))
  (apply Rel.op3; (focus (first | exact Rel.gno rfl | exact Rel.gyes _ true _ rfl rfl rfl | exact Rel.gyes _ false _ rfl rfl rfl)); (focus (intro a W hb hd hbase; obtain ⟨hc, hf⟩ := bcell hb; clear hb hf; simp [Rel.deps, Rel.dep1, Rel.ons, Region.binds, Act.eval, KV] at hd; simp only [Act.eval, List.mem_cons, List.not_mem_nil, not_or, and_imp, or_false, Array.getD_eq_getD_getElem?] at hbase; go_simp; (try go_bits); (try rfl); done)); (try simp only [List.nil_append, List.cons_append]))
  refine Rel.callK 25 (KT 0 BL NB BP) (KT.st _ _ _ _) (Rel.gyes 16 true _ rfl rfl rfl) ?_ ?_
  · intro a W hb hd hbase
    have q1 : a.eval (.tmp 47) = _ := (Rel.dep_at hd 17 rfl rfl)
    refine ⟨#[a.eval (.tmp 47)], ?_, by rw [q1]; exact told_K ((KTI.ik _ _ _ _).st _ _ _ b_13.out hb).kt⟩
    clear hd hbase hb
    go_simp
    (first | done | rfl | (refine ⟨?_, ?_⟩ <;> rfl))
  (try simp only [List.nil_append, List.cons_append])
  (apply Rel.op3; (focus (first | exact Rel.gno rfl | exact Rel.gyes _ true _ rfl rfl rfl | exact Rel.gyes _ false _ rfl rfl rfl)); (focus (intro a W hb hd hbase; obtain ⟨hc, hf⟩ := bcell hb; clear hb hf; simp [Rel.deps, Rel.dep1, Rel.ons, Region.binds, Act.eval, KV] at hd; simp only [Act.eval, List.mem_cons, List.not_mem_nil, not_or, and_imp, or_false, Array.getD_eq_getD_getElem?] at hbase; go_simp; (try go_bits); (try rfl); done)); (try simp only [List.nil_append, List.cons_append]))
  refine Rel.callK 24 (KV (.bool true)) (KV.st _) (Rel.gyes 16 true _ rfl rfl rfl) ?_ ?_
  · intro a W hb hd hbase
    have q2 : a.eval (.tmp 49) = _ := (Rel.dep_at hd 19 rfl rfl)
    refine ⟨#[a.eval (.tmp 48), a.eval (.tmp 49)], ?_, by rw [q2]; exact HSM.out _ (Rel.dep_at hd 18 rfl rfl) ((KTI.ik _ _ _ _).st _ _ _ z_13.out hb).kt⟩
    clear hd hbase hb
    go_simp
    (first | done | rfl | (refine ⟨?_, ?_⟩ <;> rfl))
  (try simp only [List.nil_append, List.cons_append])
  (apply Rel.op3; (focus (first | exact Rel.gno rfl | exact Rel.gyes _ true _ rfl rfl rfl | exact Rel.gyes _ false _ rfl rfl rfl)); (focus (intro a W hb hd hbase; obtain ⟨hc, hf⟩ := bcell hb; clear hb hf; simp [Rel.deps, Rel.dep1, Rel.ons, Region.binds, Act.eval, KV] at hd; simp only [Act.eval, List.mem_cons, List.not_mem_nil, not_or, and_imp, or_false, Array.getD_eq_getD_getElem?] at hbase; go_simp; (try go_bits); (try rfl); done)); (try simp only [List.nil_append, List.cons_append]))
  (apply Rel.op3; (focus (first | exact Rel.gno rfl | exact Rel.gyes _ true _ rfl rfl rfl | exact Rel.gyes _ false _ rfl rfl rfl)); (focus (intro a W hb hd hbase; obtain ⟨hc, hf⟩ := bcell hb; clear hb hf; simp [Rel.deps, Rel.dep1, Rel.ons, Region.binds, Act.eval, KV] at hd; simp only [Act.eval, List.mem_cons, List.not_mem_nil, not_or, and_imp, or_false, Array.getD_eq_getD_getElem?] at hbase; go_simp; (try go_bits); (try rfl); done)); (try simp only [List.nil_append, List.cons_append]))
  (apply Rel.op3; (focus (first | exact Rel.gno rfl | exact Rel.gyes _ true _ rfl rfl rfl | exact Rel.gyes _ false _ rfl rfl rfl)); (focus (intro a W hb hd hbase; obtain ⟨hc, hf⟩ := bcell hb; clear hb hf; simp [Rel.deps, Rel.dep1, Rel.ons, Region.binds, Act.eval, KV] at hd; simp only [Act.eval, List.mem_cons, List.not_mem_nil, not_or, and_imp, or_false, Array.getD_eq_getD_getElem?] at hbase; go_simp; (try go_bits); (try rfl); done)); (try simp only [List.nil_append, List.cons_append]))
  (apply Rel.op3; (focus (first | exact Rel.gno rfl | exact Rel.gyes _ true _ rfl rfl rfl | exact Rel.gyes _ false _ rfl rfl rfl)); (focus (intro a W hb hd hbase; obtain ⟨hc, hf⟩ := bcell hb; clear hb hf; simp [Rel.deps, Rel.dep1, Rel.ons, Region.binds, Act.eval, KV] at hd; simp only [Act.eval, List.mem_cons, List.not_mem_nil, not_or, and_imp, or_false, Array.getD_eq_getD_getElem?] at hbase; go_simp; (try go_bits); (try rfl); done)); (try simp only [List.nil_append, List.cons_append]))
  (apply Rel.op3; (focus (first | exact Rel.gno rfl | exact Rel.gyes _ true _ rfl rfl rfl | exact Rel.gyes _ false _ rfl rfl rfl)); (focus (intro a W hb hd hbase; obtain ⟨hc, hf⟩ := bcell hb; clear hb hf; simp [Rel.deps, Rel.dep1, Rel.ons, Region.binds, Act.eval, KV] at hd; simp only [Act.eval, List.mem_cons, List.not_mem_nil, not_or, and_imp, or_false, Array.getD_eq_getD_getElem?] at hbase; go_simp; (try go_bits); (try rfl); done)); (try simp only [List.nil_append, List.cons_append]))
  (apply Rel.op3; (focus (first | exact Rel.gno rfl | exact Rel.gyes _ true _ rfl rfl rfl | exact Rel.gyes _ false _ rfl rfl rfl)); (focus (intro a W hb hd hbase; obtain ⟨hc, hf⟩ := bcell hb; clear hb hf; simp [Rel.deps, Rel.dep1, Rel.ons, Region.binds, Act.eval, KV] at hd; simp only [Act.eval, List.mem_cons, List.not_mem_nil, not_or, and_imp, or_false, Array.getD_eq_getD_getElem?] at hbase; go_simp; (try go_bits); (try rfl); done)); (try simp only [List.nil_append, List.cons_append]))
  (apply Rel.op3; (focus (first | exact Rel.gno rfl | exact Rel.gyes _ true _ rfl rfl rfl | exact Rel.gyes _ false _ rfl rfl rfl)); (focus (intro a W hb hd hbase; obtain ⟨hc, hf⟩ := bcell hb; clear hb hf; simp [Rel.deps, Rel.dep1, Rel.ons, Region.binds, Act.eval, KV] at hd; simp only [Act.eval, List.mem_cons, List.not_mem_nil, not_or, and_imp, or_false, Array.getD_eq_getD_getElem?] at hbase; go_simp; (try go_bits); (try rfl); done)); (try simp only [List.nil_append, List.cons_append]))
  refine Rel.callK 15 (KV (.bool true)) (KV.st _) (Rel.gyes 27 true _ rfl rfl rfl) ?_ ?_
  · intro a W hb hd hbase
    refine ⟨#[], ?_, awake_K _ (HTab.out.below (HB13.out.trans (hb.mono HB13.out.size)))⟩
    clear hd hbase hb
    go_simp
    (first | done | rfl | (refine ⟨?_, ?_⟩ <;> rfl))
  (try simp only [List.nil_append, List.cons_append])
  refine Rel.done3 ?_
  intro x w14 h14 hx
  simp only [Rel.facts, Nat.zero_add, Nat.reduceAdd] at hx
  clear fbg_0 fbg_1 fbg_2 fbg_3 fbg_4 fbg_l
  clear fbs_0 fbs_1 fbs_2 fbs_l
  clear fbb_0 fbb_1 fbb_2 fbb_l
  clear fbz_0 fbz_1 fbz_2 fbz_l
  obtain ⟨e0, _, e2, e3, e4, e5, e6, _, e8, _, e10, e11, e12, e13, e14, e15, e16, e17, _, e19, e20, e21, e22, e23, e24, e25, e26, e27, e28, _⟩ := hx
  have e2 : x 2 = _ := e2
  have e10 : x 10 = _ := e10
  have e13 : x 13 = _ := e13
  have e20 : x 20 = _ := e20
  have e28 : x 28 = _ := e28
  simp only [Rel.fill, Nat.zero_add, Nat.reduceAdd, e0, e2, e3, e4, e5, e6, e8, e10, e11, e12, e13, e14, e15, e16, e17, e19, e20, e21, e22, e23, e24, e25, e26, e27, e28]
  simp only [Act.put, List.setIfInBounds_toArray, List.set_cons_zero, List.set_cons_succ]
  clear e0 e2 e3 e4 e5 e6 e8 e10 e11 e12 e13 e14 e15 e16 e17 e19 e20 e21 e22 e23 e24 e25 e26 e27 e28
  have b_14 := Lib.hid ((KTI.ik _ _ _ _).st _ _ _ b_13.out h14)
  have z_14 := Lib.hid ((KTI.ik _ _ _ _).st _ _ _ z_13.out h14)
  have bg_14 := Lib.hid (bg_13.out.below h14)
  have bs_14 := Lib.hid (bs_13.out.below h14)
  have bb_14 := Lib.hid (bb_13.out.below h14)
  have bz_14 := Lib.hid (bz_13.out.below h14)
  have tybz_14 := Lib.hid (tybz_13.out.below h14)
  have HB14 := Lib.hid (HB13.out.trans (h14.mono HB13.out.size))
  clear h14
  go_wp2
  go_ret
  exact ⟨by first | rfl | (simp; done), HB14.out⟩
end Go.Proofs.YtdeapbihbhoefaaDoor
