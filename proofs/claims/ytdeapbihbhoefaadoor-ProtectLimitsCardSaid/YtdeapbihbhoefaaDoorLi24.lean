/- Part 24 of the texts of the claim: LLi_3, LLiAll, LiRow. -/
import Derived.Test.YtdeapbihbhoefaaDoorLi22
import Derived.Test.YtdeapbihbhoefaaDoorLi23
import Derived.Test.YtdeapbihbhoefaaDoorLi16
import Derived.Test.YtdeapbihbhoefaaDoorLi17

/- ProtectLimits, case 3. -/
namespace Go.Proofs.YtdeapbihbhoefaaDoor
open Go.RowKit
open Calm (bcell Blk)
set_option maxRecDepth 100000 in
set_option maxHeartbeats 8000000 in
theorem limits_3 (lk ht rc na nb : Int) (M L : Nat) (ts gs : List Int) (u : Value) (w : World) (hTab : PTab w) (hM : M = ts.length) (hL : L = gs.length) (b0 : M ≤ 9 ∧ L ≤ 9) (b1 : guardErr lk ht rc ts gs = 0) (b2 : coolErr lk ht rc ts gs na nb = 0) (hu : KG lk ht rc M ts L gs u w) :
    Calls Tryd.prog 6 #[u, .agg #[(.int .i64 (na)), (.int .i64 (nb))]] w fun r w' => r = .returned (.bool true) ∧ Below w.heap.size w w' := by
  obtain ⟨A1, c1, A2, c2, rfl, hT, hG⟩ := hu
  have HU := Lib.hid (show KG lk ht rc M ts L gs (.agg #[(.int .i64 (lk)), (.int .i64 (ht)), .slice A1 M c1, (.int .i64 (rc)), .slice A2 L c2]) w from ⟨_, _, _, _, rfl, hT, hG⟩)
  have HSH : Hid (∀ W, KG lk ht rc M ts L gs (.agg #[(.int .i64 (lk)), (.int .i64 (ht)), .slice A1 M c1, (.int .i64 (rc)), .slice A2 L c2]) W → Calls Tryd.prog 13 #[.agg #[(.int .i64 (lk)), (.int .i64 (ht)), .slice A1 M c1, (.int .i64 (rc)), .slice A2 L c2]] W (KP (KV (.bool true)) W)) := Lib.hid (fun W q => by have := Short_K q; rwa [decide_eq_true b0] at this)
  obtain ⟨b3, b4⟩ := b0
  have HGU : Hid (∀ {x : Value} (W : World), KG lk ht rc M ts L gs x W → Calls Tryd.prog 17 #[x] W (KP (KGI lk ht rc M ts L gs) W)) := Lib.hid (fun W q => guard_K hM hL (by omega) (by omega) q)
  obtain ⟨E, hE⟩ : ∃ E, E = guardErr lk ht rc ts gs := ⟨_, rfl⟩
  obtain ⟨F, hF⟩ : ∃ F, F = coolErr lk ht rc ts gs na nb := ⟨_, rfl⟩
  obtain ⟨ra, hra⟩ : ∃ ra, ra = rangeErr na 0 536870912 := ⟨_, rfl⟩
  obtain ⟨rb, hrb⟩ : ∃ rb, rb = rangeErr nb 0 536870912 := ⟨_, rfl⟩
  obtain ⟨S, hS⟩ : ∃ S, S = stdR lk ht rc ts gs := ⟨_, rfl⟩
  obtain ⟨Q, hQ⟩ : ∃ Q, Q = quiR lk ht rc ts gs := ⟨_, rfl⟩
  obtain ⟨C1, hC1⟩ : ∃ C1, C1 = (coolE lk ht rc ts gs na nb).1 := ⟨_, rfl⟩
  obtain ⟨C2, hC2⟩ : ∃ C2, C2 = (coolE lk ht rc ts gs na nb).2 := ⟨_, rfl⟩
  have HSD : Hid (∀ {x : Value} (W : World), KG lk ht rc M ts L gs x W → Calls Tryd.prog 48 #[x] W (KP (K2 (KV (.int .i64 (S))) (KV (.int .i64 (E)))) W)) := Lib.hid (fun W q => by rw [hS, hE]; exact cSteady hM hL (by omega) (by omega) q)
  have HQU : Hid (∀ {x : Value} (W : World), KG lk ht rc M ts L gs x W → Calls Tryd.prog 49 #[x] W (KP (K2 (KV (.int .i64 (Q))) (KV (.int .i64 (E)))) W)) := Lib.hid (fun W q => by rw [hQ, hE]; exact cQuiet hM hL (by omega) (by omega) q)
  have HCL : Hid (∀ {x : Value} (W : World), KG lk ht rc M ts L gs x W → Calls Tryd.prog 50 #[x, (.int .i64 (na)), (.int .i64 (nb))] W (KP (K2 (KV (.int .i64 (C1))) (KV (.int .i64 (C2)))) W)) := Lib.hid (fun W q => by rw [hC1, hC2]; exact cCool hM hL (by omega) (by omega) q)
  have HCG : Hid (∀ {x : Value} (W : World), KG lk ht rc M ts L gs x W → Calls Tryd.prog 18 #[x] W (KP (KV (.int .i64 (E))) W)) := Lib.hid (fun W q => by rw [hE]; exact rGuard_K hM hL (by omega) (by omega) q)
  have HHA : Hid (∀ W : World, Calls Tryd.prog 51 #[(.int .i64 (na))] W (KP (KV (.int .i64 (ra))) W)) := Lib.hid (fun W => by rw [hra]; exact (rHeat_any na W).mono fun e W' ⟨k1, k2⟩ => ⟨_, k1, rfl, k2 ▸ Below.refl _ _⟩)
  have HHB : Hid (∀ W : World, Calls Tryd.prog 51 #[(.int .i64 (nb))] W (KP (KV (.int .i64 (rb))) W)) := Lib.hid (fun W => by rw [hrb]; exact (rHeat_any nb W).mono fun e W' ⟨k1, k2⟩ => ⟨_, k1, rfl, k2 ▸ Below.refl _ _⟩)
  have HFI : Hid (∀ (g : Nat) (W : World), W.heap[g]? = some (.cells #[(.int .i64 (E)), (.int .i64 (ra)), (.int .i64 (rb))] 3 (0, 0)) → Calls Tryd.prog 31 #[.slice (some ⟨g, 0, none⟩) 3 3] W (KP (KV (.int .i64 (F))) W)) := Lib.hid (fun g W h => by
    rw [hF, show coolErr lk ht rc ts gs na nb = firstOf [E, ra, rb] by rw [hE, hra, hrb]; rfl]
    exact (qFirst_any [E, ra, rb] _ 3 W (by simp) (Cells.row h)).mono fun e W' ⟨k1, k2⟩ => ⟨_, k1, rfl, k2 ▸ Below.refl _ _⟩)
  have hV := guard_valid b1
  have HRS : Hid (∀ {x : Value} (W : World), KG lk ht rc M ts L gs x W → Calls Tryd.prog 52 #[x] W (KP (KV (.int .i64 (S))) W)) := Lib.hid (fun W q => by rw [hS, show stdR lk ht rc ts gs = (stdF lk ht : Int) from if_pos b1]; exact rSteady_K hV.lk hV.ht q)
  have HRQ : Hid (∀ {x : Value} (W : World), KG lk ht rc M ts L gs x W → Calls Tryd.prog 53 #[x] W (KP (KV (.int .i64 (Q))) W)) := Lib.hid (fun W q => by rw [hQ, show quiR lk ht rc ts gs = quietF lk ht rc ts from if_pos b1]; exact rQuiet_K hM hV q)
  have hc := coolErr_zero b2
  have HRC : Hid (∀ {x : Value} (W : World), KG lk ht rc M ts L gs x W → Calls Tryd.prog 54 #[x, (.int .i64 (na)), (.int .i64 (nb))] W (KP (K2 (KV (.int .i64 (C1))) (KV (.int .i64 (C2)))) W)) := Lib.hid (fun W q => by rw [hC1, hC2, show coolE lk ht rc ts gs na nb = coolR lk na nb from if_pos b2]; exact rCool_K hV.lk hc.2.1 hc.2.2 q)
  have s6 : F = 0 := by rw [hF]; exact b2
  have s5 : E = 0 := by rw [hE]; exact b1
  have s7 : ra = 0 := by rw [hra]; exact rangeErr_in hc.2.1.1 hc.2.1.2
  have s8 : rb = 0 := by rw [hrb]; exact rangeErr_in hc.2.2.1 hc.2.2.2
  clear hS hQ hC1 hC2 hE hF hra hrb b1 b2 hV hc
  subst s5 s6 s7 s8
  have HTab := Lib.hid hTab
  clear hTab hM hL hT hG
  go_enter Tryd.func6, Tryd.ntmps6
  have HB0 := Lib.hid (Below.refl w.heap.size w)
  go_wp2_with (go_at_call 13; refine name_calls ?_; intro w1 e1; refine Hid.out ?_)
  unfold Hid
  have h1 : Below w.heap.size w w1 := by rw [e1]; (repeat (first | (with_reducible exact Below.refl _ _) | ((with_reducible refine Below.setCell ?_ ?_ _); rotate_left 1; (focus (first | (simp; done) | (simp; omega) | (simp at *; omega)))) | ((with_reducible refine Below.alloc ?_ ?_ _); rotate_left 1; (focus (first | (simp; done) | (simp; omega) | (simp at *; omega))))))
  have HB1 := Lib.hid (HB0.out.trans (h1.mono HB0.out.size))
  have bg_1 := Lib.hid (show Blk w1 w.heap.size #[(.int .i64 (lk)), (.int .i64 (ht)), .slice A1 M c1, (.int .i64 (rc)), .slice A2 L c2] from by rw [e1]; (repeat (first | ((with_reducible refine Blk.at_ ?_); focus (first | rfl | (simp; done) | (simp; omega))) | (with_reducible refine Blk.alloc ?_ _) | (with_reducible refine Blk.below ?_ (by with_reducible assumption)) | (with_reducible refine Blk.drew ?_))))
  have bn_1 := Lib.hid (show Blk w1 (w.heap.size + 1) #[(.int .i64 (na)), (.int .i64 (nb))] from by rw [e1]; (repeat (first | ((with_reducible refine Blk.at_ ?_); focus (first | rfl | (simp; done) | (simp; omega))) | (with_reducible refine Blk.alloc ?_ _) | (with_reducible refine Blk.below ?_ (by with_reducible assumption)) | (with_reducible refine Blk.drew ?_))))
  clear e1 h1
  refine (HSH.out _ (KG.st _ _ _ _ _ _ _ _ _ _ HU.out HB1.out)).mono ?_
  rintro r w2 ⟨v2, rfl, k2, h2⟩
  have bg_2 := Lib.hid (bg_1.out.below h2)
  have bn_2 := Lib.hid (bn_1.out.below h2)
  have HB2 := Lib.hid (HB1.out.trans (h2.mono HB1.out.size))
  obtain rfl := k2
  clear h2
  obtain ⟨fbg_0, fbg_1, fbg_2, fbg_3, fbg_4, fbg_l, -⟩ := bg_2.out.o5
  go_wp2_with (go_at_call 17; refine name_calls ?_; intro w3 e3; refine Hid.out ?_)
  unfold Hid
  have h3 : Below w2.heap.size w2 w3 := by rw [e3]; (repeat (first | (with_reducible exact Below.refl _ _) | ((with_reducible refine Below.setCell ?_ ?_ _); rotate_left 1; (focus (first | (simp; done) | (simp; omega) | (simp at *; omega)))) | ((with_reducible refine Below.alloc ?_ ?_ _); rotate_left 1; (focus (first | (simp; done) | (simp; omega) | (simp at *; omega))))))
  have bg_3 := Lib.hid (bg_2.out.below h3)
  have bn_3 := Lib.hid (bn_2.out.below h3)
  have HB3 := Lib.hid (HB2.out.trans (h3.mono HB2.out.size))
  clear e3 h3
  refine (HGU.out _ (KG.st _ _ _ _ _ _ _ _ _ _ HU.out HB3.out)).mono ?_
  rintro r w4 ⟨v4, rfl, k4, h4⟩
  have bg_4 := Lib.hid (bg_3.out.below h4)
  have bn_4 := Lib.hid (bn_3.out.below h4)
  have HB4 := Lib.hid (HB3.out.trans (h4.mono HB3.out.size))
  have g_4 := Lib.hid k4
  clear k4 h4
  clear fbg_0 fbg_1 fbg_2 fbg_3 fbg_4 fbg_l
  go_wp2_with (go_at_call 48; refine name_calls ?_; intro w5 e5; refine Hid.out ?_)
  unfold Hid
  have h5 : Below w4.heap.size w4 w5 := by rw [e5]; (repeat (first | (with_reducible exact Below.refl _ _) | ((with_reducible refine Below.setCell ?_ ?_ _); rotate_left 1; (focus (first | (simp; done) | (simp; omega) | (simp at *; omega)))) | ((with_reducible refine Below.alloc ?_ ?_ _); rotate_left 1; (focus (first | (simp; done) | (simp; omega) | (simp at *; omega))))))
  have g_5 := Lib.hid ((KGI.ik _ _ _ _ _ _ _).st _ _ _ g_4.out h5)
  have bg_5 := Lib.hid (bg_4.out.below h5)
  have bn_5 := Lib.hid (bn_4.out.below h5)
  have HB5 := Lib.hid (HB4.out.trans (h5.mono HB4.out.size))
  clear e5 h5
  refine (HSD.out _ g_5.out.kg).mono ?_
  rintro r w6 ⟨v6, rfl, k6, h6⟩
  have g_6 := Lib.hid ((KGI.ik _ _ _ _ _ _ _).st _ _ _ g_5.out h6)
  have bg_6 := Lib.hid (bg_5.out.below h6)
  have bn_6 := Lib.hid (bn_5.out.below h6)
  have HB6 := Lib.hid (HB5.out.trans (h6.mono HB5.out.size))
  obtain ⟨_, _, rfl, rfl, rfl⟩ := k6
  clear h6
  obtain ⟨fbg_0, fbg_1, fbg_2, fbg_3, fbg_4, fbg_l, -⟩ := bg_6.out.o5
  go_wp2_with (go_at_call 17; refine name_calls ?_; intro w7 e7; refine Hid.out ?_)
  unfold Hid
  have h7 : Below w6.heap.size w6 w7 := by rw [e7]; (repeat (first | (with_reducible exact Below.refl _ _) | ((with_reducible refine Below.setCell ?_ ?_ _); rotate_left 1; (focus (first | (simp; done) | (simp; omega) | (simp at *; omega)))) | ((with_reducible refine Below.alloc ?_ ?_ _); rotate_left 1; (focus (first | (simp; done) | (simp; omega) | (simp at *; omega))))))
  have bg_7 := Lib.hid (bg_6.out.below h7)
  have bn_7 := Lib.hid (bn_6.out.below h7)
  have HB7 := Lib.hid (HB6.out.trans (h7.mono HB6.out.size))
  clear e7 h7
  refine (HGU.out _ (KG.st _ _ _ _ _ _ _ _ _ _ HU.out HB7.out)).mono ?_
  rintro r w8 ⟨v8, rfl, k8, h8⟩
  have bg_8 := Lib.hid (bg_7.out.below h8)
  have bn_8 := Lib.hid (bn_7.out.below h8)
  have HB8 := Lib.hid (HB7.out.trans (h8.mono HB7.out.size))
  have g_8 := Lib.hid k8
  clear k8 h8
  clear fbg_0 fbg_1 fbg_2 fbg_3 fbg_4 fbg_l
  go_wp2_with (go_at_call 49; refine name_calls ?_; intro w9 e9; refine Hid.out ?_)
  unfold Hid
  have h9 : Below w8.heap.size w8 w9 := by rw [e9]; (repeat (first | (with_reducible exact Below.refl _ _) | ((with_reducible refine Below.setCell ?_ ?_ _); rotate_left 1; (focus (first | (simp; done) | (simp; omega) | (simp at *; omega)))) | ((with_reducible refine Below.alloc ?_ ?_ _); rotate_left 1; (focus (first | (simp; done) | (simp; omega) | (simp at *; omega))))))
  have g_9 := Lib.hid ((KGI.ik _ _ _ _ _ _ _).st _ _ _ g_8.out h9)
  have bg_9 := Lib.hid (bg_8.out.below h9)
  have bn_9 := Lib.hid (bn_8.out.below h9)
  have HB9 := Lib.hid (HB8.out.trans (h9.mono HB8.out.size))
  clear e9 h9
  refine (HQU.out _ g_9.out.kg).mono ?_
  rintro r w10 ⟨v10, rfl, k10, h10⟩
  have g_10 := Lib.hid ((KGI.ik _ _ _ _ _ _ _).st _ _ _ g_9.out h10)
  have bg_10 := Lib.hid (bg_9.out.below h10)
  have bn_10 := Lib.hid (bn_9.out.below h10)
  have HB10 := Lib.hid (HB9.out.trans (h10.mono HB9.out.size))
  obtain ⟨_, _, rfl, rfl, rfl⟩ := k10
  clear h10
  obtain ⟨fbg_0, fbg_1, fbg_2, fbg_3, fbg_4, fbg_l, -⟩ := bg_10.out.o5
  obtain ⟨fbn_0, fbn_1, fbn_l, -⟩ := bn_10.out.o2
  go_wp2
  refine Rel.region3 11 (by kernel_rfl) (by kernel_rfl) (by kernel_rfl) ?_
  simp only [List.take_succ_cons, List.take_zero, List.drop_succ_cons, List.drop_zero, List.filterMap_cons, List.filterMap_nil]
  (apply Rel.op3; (focus (first | exact Rel.gno rfl | exact Rel.gyes _ true _ rfl rfl rfl | exact Rel.gyes _ false _ rfl rfl rfl)); (focus (intro a W hb hd hbase; obtain ⟨hc, hf⟩ := bcell hb; clear hb hf; simp [Rel.deps, Rel.dep1, Rel.ons, Region.binds, Act.eval, KV] at hd; simp only [Act.eval, List.mem_cons, List.not_mem_nil, not_or, and_imp, or_false, Array.getD_eq_getD_getElem?] at hbase; go_simp; (try go_bits); (try rfl); done)); (try simp only [List.nil_append, List.cons_append]))
  refine Rel.callK 17 (KGI lk ht rc M ts L gs) ((KGI.ik _ _ _ _ _ _ _).st) (Rel.gno rfl) ?_ ?_
  · intro a W hb hd hbase
    have q1 : a.eval (.tmp 33) = _ := (Rel.dep_at hd 0 rfl rfl)
    refine ⟨#[a.eval (.tmp 33)], ?_, by rw [q1]; exact HGU.out _ (KG.st _ _ _ _ _ _ _ _ _ _ HU.out (HB10.out.trans (hb.mono HB10.out.size)))⟩
    clear hd hbase hb
    go_simp
    (first | done | rfl | (refine ⟨?_, ?_⟩ <;> rfl))
  (try simp only [List.nil_append, List.cons_append])
  (apply Rel.op3; (focus (first | exact Rel.gno rfl | exact Rel.gyes _ true _ rfl rfl rfl | exact Rel.gyes _ false _ rfl rfl rfl)); (focus (intro a W hb hd hbase; obtain ⟨hc, hf⟩ := bcell hb; clear hb hf; simp [Rel.deps, Rel.dep1, Rel.ons, Region.binds, Act.eval, KV] at hd; simp only [Act.eval, List.mem_cons, List.not_mem_nil, not_or, and_imp, or_false, Array.getD_eq_getD_getElem?] at hbase; go_simp; (try go_bits); (try rfl); done)); (try simp only [List.nil_append, List.cons_append]))
  (apply Rel.op3; (focus (first | exact Rel.gno rfl | exact Rel.gyes _ true _ rfl rfl rfl | exact Rel.gyes _ false _ rfl rfl rfl)); (focus (intro a W hb hd hbase; obtain ⟨hc, hf⟩ := bcell hb; clear hb hf; simp [Rel.deps, Rel.dep1, Rel.ons, Region.binds, Act.eval, KV] at hd; simp only [Act.eval, List.mem_cons, List.not_mem_nil, not_or, and_imp, or_false, Array.getD_eq_getD_getElem?] at hbase; go_simp; (try go_bits); (try rfl); done)); (try simp only [List.nil_append, List.cons_append]))
  (apply Rel.op3; (focus (first | exact Rel.gno rfl | exact Rel.gyes _ true _ rfl rfl rfl | exact Rel.gyes _ false _ rfl rfl rfl)); (focus (intro a W hb hd hbase; obtain ⟨hc, hf⟩ := bcell hb; clear hb hf; simp [Rel.deps, Rel.dep1, Rel.ons, Region.binds, Act.eval, KV] at hd; simp only [Act.eval, List.mem_cons, List.not_mem_nil, not_or, and_imp, or_false, Array.getD_eq_getD_getElem?] at hbase; go_simp; (try go_bits); (try rfl); done)); (try simp only [List.nil_append, List.cons_append]))
  (apply Rel.op3; (focus (first | exact Rel.gno rfl | exact Rel.gyes _ true _ rfl rfl rfl | exact Rel.gyes _ false _ rfl rfl rfl)); (focus (intro a W hb hd hbase; obtain ⟨hc, hf⟩ := bcell hb; clear hb hf; simp [Rel.deps, Rel.dep1, Rel.ons, Region.binds, Act.eval, KV] at hd; simp only [Act.eval, List.mem_cons, List.not_mem_nil, not_or, and_imp, or_false, Array.getD_eq_getD_getElem?] at hbase; go_simp; (try go_bits); (try rfl); done)); (try simp only [List.nil_append, List.cons_append]))
  refine Rel.callK 50 (K2 (KV (.int .i64 (C1))) (KV (.int .i64 (C2)))) ((K2.st (KV.st _) (KV.st _))) (Rel.gno rfl) ?_ ?_
  · intro a W hb hd hbase
    have q1 : a.eval (.tmp 36) = _ := (Rel.dep_at hd 3 rfl rfl)
    have q2 : a.eval (.tmp 38) = _ := (Rel.dep_at hd 5 rfl rfl)
    refine ⟨#[a.eval (.tmp 34), a.eval (.tmp 36), a.eval (.tmp 38)], ?_, by rw [q1, q2]; exact HCL.out _ (Rel.dep_at hd 1 rfl rfl).kg⟩
    clear hd hbase hb
    go_simp
    (first | done | rfl | (refine ⟨?_, ?_⟩ <;> rfl))
  (try simp only [List.nil_append, List.cons_append])
  refine Rel.mvK 39 6 rfl rfl rfl ((K2.st (KV.st _) (KV.st _))) (Rel.gno rfl) ?_
  (try simp only [List.nil_append, List.cons_append])
  refine Rel.ext20 32 7 rfl rfl rfl (KV.st _) (Rel.gno rfl) ?_
  (try simp only [List.nil_append, List.cons_append])
  refine Rel.ext21 32 7 rfl rfl rfl (KV.st _) (Rel.gno rfl) ?_
  (try simp only [List.nil_append, List.cons_append])
  (apply Rel.op3; (focus (first | exact Rel.gno rfl | exact Rel.gyes _ true _ rfl rfl rfl | exact Rel.gyes _ false _ rfl rfl rfl)); (focus (intro a W hb hd hbase; obtain ⟨hc, hf⟩ := bcell hb; clear hb hf; simp [Rel.deps, Rel.dep1, Rel.ons, Region.binds, Act.eval, KV] at hd; simp only [Act.eval, List.mem_cons, List.not_mem_nil, not_or, and_imp, or_false, Array.getD_eq_getD_getElem?] at hbase; go_simp; (try go_bits); (try rfl); done)); (try simp only [List.nil_append, List.cons_append]))
  refine Rel.done3 ?_
  intro x w11 h11 hx
  simp only [Rel.facts, Nat.zero_add, Nat.reduceAdd] at hx
  clear fbg_0 fbg_1 fbg_2 fbg_3 fbg_4 fbg_l
  clear fbn_0 fbn_1 fbn_l
  obtain ⟨e0, _, e2, e3, e4, e5, _, _, e8, e9, e10, _⟩ := hx
  have e8 : x 8 = _ := e8
  have e9 : x 9 = _ := e9
  simp only [Rel.fill, Nat.zero_add, Nat.reduceAdd, e0, e2, e3, e4, e5, e8, e9, e10]
  simp only [Act.put, List.setIfInBounds_toArray, List.set_cons_zero, List.set_cons_succ]
  clear e0 e2 e3 e4 e5 e8 e9 e10
  have bg_11 := Lib.hid (bg_10.out.below h11)
  have bn_11 := Lib.hid (bn_10.out.below h11)
  have HB11 := Lib.hid (HB10.out.trans (h11.mono HB10.out.size))
  clear h11
  obtain ⟨fbg_0, fbg_1, fbg_2, fbg_3, fbg_4, fbg_l, -⟩ := bg_11.out.o5
  go_wp2_with (go_at_call 18; refine name_calls ?_; intro w12 e12; refine Hid.out ?_)
  unfold Hid
  have h12 : Below w11.heap.size w11 w12 := by rw [e12]; (repeat (first | (with_reducible exact Below.refl _ _) | ((with_reducible refine Below.setCell ?_ ?_ _); rotate_left 1; (focus (first | (simp; done) | (simp; omega) | (simp at *; omega)))) | ((with_reducible refine Below.alloc ?_ ?_ _); rotate_left 1; (focus (first | (simp; done) | (simp; omega) | (simp at *; omega))))))
  have bg_12 := Lib.hid (bg_11.out.below h12)
  have bn_12 := Lib.hid (bn_11.out.below h12)
  have HB12 := Lib.hid (HB11.out.trans (h12.mono HB11.out.size))
  clear e12 h12
  refine (HCG.out _ (KG.st _ _ _ _ _ _ _ _ _ _ HU.out HB12.out)).mono ?_
  rintro r w13 ⟨v13, rfl, k13, h13⟩
  have bg_13 := Lib.hid (bg_12.out.below h13)
  have bn_13 := Lib.hid (bn_12.out.below h13)
  have HB13 := Lib.hid (HB12.out.trans (h13.mono HB12.out.size))
  obtain rfl := k13
  clear h13
  clear fbg_0 fbg_1 fbg_2 fbg_3 fbg_4 fbg_l
  obtain ⟨fbn_0, fbn_1, fbn_l, -⟩ := bn_13.out.o2
  go_wp2
  refine Rel.region3 9 (by kernel_rfl) (by kernel_rfl) (by kernel_rfl) ?_
  simp only [List.take_succ_cons, List.take_zero, List.drop_succ_cons, List.drop_zero, List.filterMap_cons, List.filterMap_nil]
  (apply Rel.op3; (focus (first | exact Rel.gno rfl | exact Rel.gyes _ true _ rfl rfl rfl | exact Rel.gyes _ false _ rfl rfl rfl)); (focus (intro a W hb hd hbase; obtain ⟨hc, hf⟩ := bcell hb; clear hb hf; simp [Rel.deps, Rel.dep1, Rel.ons, Region.binds, Act.eval, KV] at hd; simp only [Act.eval, List.mem_cons, List.not_mem_nil, not_or, and_imp, or_false, Array.getD_eq_getD_getElem?] at hbase; go_simp; (try go_bits); (try rfl); done)); (try simp only [List.nil_append, List.cons_append]))
  (apply Rel.op3; (focus (first | exact Rel.gno rfl | exact Rel.gyes _ true _ rfl rfl rfl | exact Rel.gyes _ false _ rfl rfl rfl)); (focus (intro a W hb hd hbase; obtain ⟨hc, hf⟩ := bcell hb; clear hb hf; simp [Rel.deps, Rel.dep1, Rel.ons, Region.binds, Act.eval, KV] at hd; simp only [Act.eval, List.mem_cons, List.not_mem_nil, not_or, and_imp, or_false, Array.getD_eq_getD_getElem?] at hbase; go_simp; (try go_bits); (try rfl); done)); (try simp only [List.nil_append, List.cons_append]))
  (apply Rel.op3; (focus (first | exact Rel.gno rfl | exact Rel.gyes _ true _ rfl rfl rfl | exact Rel.gyes _ false _ rfl rfl rfl)); (focus (intro a W hb hd hbase; obtain ⟨hc, hf⟩ := bcell hb; clear hb hf; simp [Rel.deps, Rel.dep1, Rel.ons, Region.binds, Act.eval, KV] at hd; simp only [Act.eval, List.mem_cons, List.not_mem_nil, not_or, and_imp, or_false, Array.getD_eq_getD_getElem?] at hbase; go_simp; (try go_bits); (try rfl); done)); (try simp only [List.nil_append, List.cons_append]))
  refine Rel.callK 51 (KV (.int .i64 (0))) (KV.st _) (Rel.gno rfl) ?_ ?_
  · intro a W hb hd hbase
    have q1 : a.eval (.tmp 46) = _ := (Rel.dep_at hd 2 rfl rfl)
    refine ⟨#[a.eval (.tmp 46)], ?_, by rw [q1]; exact HHA.out _⟩
    clear hd hbase hb
    go_simp
    (first | done | rfl | (refine ⟨?_, ?_⟩ <;> rfl))
  (try simp only [List.nil_append, List.cons_append])
  (apply Rel.op3; (focus (first | exact Rel.gno rfl | exact Rel.gyes _ true _ rfl rfl rfl | exact Rel.gyes _ false _ rfl rfl rfl)); (focus (intro a W hb hd hbase; obtain ⟨hc, hf⟩ := bcell hb; clear hb hf; simp [Rel.deps, Rel.dep1, Rel.ons, Region.binds, Act.eval, KV] at hd; simp only [Act.eval, List.mem_cons, List.not_mem_nil, not_or, and_imp, or_false, Array.getD_eq_getD_getElem?] at hbase; go_simp; (try go_bits); (try rfl); done)); (try simp only [List.nil_append, List.cons_append]))
  (apply Rel.op3; (focus (first | exact Rel.gno rfl | exact Rel.gyes _ true _ rfl rfl rfl | exact Rel.gyes _ false _ rfl rfl rfl)); (focus (intro a W hb hd hbase; obtain ⟨hc, hf⟩ := bcell hb; clear hb hf; simp [Rel.deps, Rel.dep1, Rel.ons, Region.binds, Act.eval, KV] at hd; simp only [Act.eval, List.mem_cons, List.not_mem_nil, not_or, and_imp, or_false, Array.getD_eq_getD_getElem?] at hbase; go_simp; (try go_bits); (try rfl); done)); (try simp only [List.nil_append, List.cons_append]))
  refine Rel.callK 51 (KV (.int .i64 (0))) (KV.st _) (Rel.gno rfl) ?_ ?_
  · intro a W hb hd hbase
    have q1 : a.eval (.tmp 49) = _ := (Rel.dep_at hd 5 rfl rfl)
    refine ⟨#[a.eval (.tmp 49)], ?_, by rw [q1]; exact HHB.out _⟩
    clear hd hbase hb
    go_simp
    (first | done | rfl | (refine ⟨?_, ?_⟩ <;> rfl))
  (try simp only [List.nil_append, List.cons_append])
  (apply Rel.buildT3 3 3 3 #[(.int .i64 (0)), (.int .i64 (0)), (.int .i64 (0))]; (focus (first | exact Rel.gno rfl | exact Rel.gyes _ true _ rfl rfl rfl | exact Rel.gyes _ false _ rfl rfl rfl)); (focus (intro a W hb hd hbase; obtain ⟨hc, hf⟩ := bcell hb; clear hb hf; simp [Rel.deps, Rel.dep1, Rel.ons, Region.binds, Act.eval, KV] at hd; simp only [Act.eval, List.mem_cons, List.not_mem_nil, not_or, and_imp, or_false, Array.getD_eq_getD_getElem?] at hbase; go_simp; (first | done | rfl | (refine ⟨?_, ?_⟩; rfl; rfl)))); (try simp only [List.nil_append, List.cons_append]))
  refine Rel.callK 31 (KV (.int .i64 (0))) (KV.st _) (Rel.gno rfl) ?_ ?_
  · intro a W hb hd hbase
    obtain ⟨g, q1, _, q2⟩ := (Rel.dep_at hd 7 rfl rfl)
    refine ⟨#[a.eval (.tmp 51)], ?_, by rw [q1]; exact HFI.out g _ q2⟩
    clear hd hbase hb
    go_simp
    (first | done | rfl | (refine ⟨?_, ?_⟩ <;> rfl))
  (try simp only [List.nil_append, List.cons_append])
  refine Rel.done3 ?_
  intro x w14 h14 hx
  simp only [Rel.facts, Nat.zero_add, Nat.reduceAdd] at hx
  clear fbn_0 fbn_1 fbn_l
  obtain ⟨e0, e1, e2, e3, e4, e5, e6, _, e8, _⟩ := hx
  have e3 : x 3 = _ := e3
  have e6 : x 6 = _ := e6
  have e8 : x 8 = _ := e8
  simp only [Rel.fill, Nat.zero_add, Nat.reduceAdd, e0, e1, e2, e3, e4, e5, e6, e8]
  simp only [Act.put, List.setIfInBounds_toArray, List.set_cons_zero, List.set_cons_succ]
  clear e0 e1 e2 e3 e4 e5 e6 e8
  have bg_14 := Lib.hid (bg_13.out.below h14)
  have bn_14 := Lib.hid (bn_13.out.below h14)
  have HB14 := Lib.hid (HB13.out.trans (h14.mono HB13.out.size))
  clear h14
  obtain ⟨fbg_0, fbg_1, fbg_2, fbg_3, fbg_4, fbg_l, -⟩ := bg_14.out.o5
  go_wp2
  refine Rel.region3 4 (by kernel_rfl) (by kernel_rfl) (by kernel_rfl) ?_
  simp only [List.take_succ_cons, List.take_zero, List.drop_succ_cons, List.drop_zero, List.filterMap_cons, List.filterMap_nil]
  (apply Rel.op3; (focus (first | exact Rel.gno rfl | exact Rel.gyes _ true _ rfl rfl rfl | exact Rel.gyes _ false _ rfl rfl rfl)); (focus (intro a W hb hd hbase; obtain ⟨hc, hf⟩ := bcell hb; clear hb hf; simp [Rel.deps, Rel.dep1, Rel.ons, Region.binds, Act.eval, KV] at hd; simp only [Act.eval, List.mem_cons, List.not_mem_nil, not_or, and_imp, or_false, Array.getD_eq_getD_getElem?] at hbase; go_simp; (try go_bits); (try rfl); done)); (try simp only [List.nil_append, List.cons_append]))
  refine Rel.callK 52 (KV (.int .i64 (S))) (KV.st _) (Rel.gno rfl) ?_ ?_
  · intro a W hb hd hbase
    have q1 : a.eval (.tmp 55) = _ := (Rel.dep_at hd 0 rfl rfl)
    refine ⟨#[a.eval (.tmp 55)], ?_, by rw [q1]; exact HRS.out _ (KG.st _ _ _ _ _ _ _ _ _ _ HU.out (HB14.out.trans (hb.mono HB14.out.size)))⟩
    clear hd hbase hb
    go_simp
    (first | done | rfl | (refine ⟨?_, ?_⟩ <;> rfl))
  (try simp only [List.nil_append, List.cons_append])
  (apply Rel.op3; (focus (first | exact Rel.gno rfl | exact Rel.gyes _ true _ rfl rfl rfl | exact Rel.gyes _ false _ rfl rfl rfl)); (focus (intro a W hb hd hbase; obtain ⟨hc, hf⟩ := bcell hb; clear hb hf; simp [Rel.deps, Rel.dep1, Rel.ons, Region.binds, Act.eval, KV] at hd; simp only [Act.eval, List.mem_cons, List.not_mem_nil, not_or, and_imp, or_false, Array.getD_eq_getD_getElem?] at hbase; go_simp; (try go_bits); (try rfl); done)); (try simp only [List.nil_append, List.cons_append]))
  refine Rel.callK 53 (KV (.int .i64 (Q))) (KV.st _) (Rel.gno rfl) ?_ ?_
  · intro a W hb hd hbase
    have q1 : a.eval (.tmp 57) = _ := (Rel.dep_at hd 2 rfl rfl)
    refine ⟨#[a.eval (.tmp 57)], ?_, by rw [q1]; exact HRQ.out _ (KG.st _ _ _ _ _ _ _ _ _ _ HU.out (HB14.out.trans (hb.mono HB14.out.size)))⟩
    clear hd hbase hb
    go_simp
    (first | done | rfl | (refine ⟨?_, ?_⟩ <;> rfl))
  (try simp only [List.nil_append, List.cons_append])
  refine Rel.done3 ?_
  intro x w15 h15 hx
  simp only [Rel.facts, Nat.zero_add, Nat.reduceAdd] at hx
  clear fbg_0 fbg_1 fbg_2 fbg_3 fbg_4 fbg_l
  obtain ⟨e0, e1, e2, e3, _⟩ := hx
  have e1 : x 1 = _ := e1
  have e3 : x 3 = _ := e3
  simp only [Rel.fill, Nat.zero_add, Nat.reduceAdd, e0, e1, e2, e3]
  simp only [Act.put, List.setIfInBounds_toArray, List.set_cons_zero, List.set_cons_succ]
  clear e0 e1 e2 e3
  have bg_15 := Lib.hid (bg_14.out.below h15)
  have bn_15 := Lib.hid (bn_14.out.below h15)
  have HB15 := Lib.hid (HB14.out.trans (h15.mono HB14.out.size))
  clear h15
  obtain ⟨fbg_0, fbg_1, fbg_2, fbg_3, fbg_4, fbg_l, -⟩ := bg_15.out.o5
  obtain ⟨fbn_0, fbn_1, fbn_l, -⟩ := bn_15.out.o2
  go_wp2_with (go_at_call 54; refine name_calls ?_; intro w16 e16; refine Hid.out ?_)
  unfold Hid
  have h16 : Below w15.heap.size w15 w16 := by rw [e16]; (repeat (first | (with_reducible exact Below.refl _ _) | ((with_reducible refine Below.setCell ?_ ?_ _); rotate_left 1; (focus (first | (simp; done) | (simp; omega) | (simp at *; omega)))) | ((with_reducible refine Below.alloc ?_ ?_ _); rotate_left 1; (focus (first | (simp; done) | (simp; omega) | (simp at *; omega))))))
  have bg_16 := Lib.hid (bg_15.out.below h16)
  have bn_16 := Lib.hid (bn_15.out.below h16)
  have HB16 := Lib.hid (HB15.out.trans (h16.mono HB15.out.size))
  clear e16 h16
  refine (HRC.out _ (KG.st _ _ _ _ _ _ _ _ _ _ HU.out HB16.out)).mono ?_
  rintro r w17 ⟨v17, rfl, k17, h17⟩
  have bg_17 := Lib.hid (bg_16.out.below h17)
  have bn_17 := Lib.hid (bn_16.out.below h17)
  have HB17 := Lib.hid (HB16.out.trans (h17.mono HB16.out.size))
  obtain ⟨_, _, rfl, rfl, rfl⟩ := k17
  clear h17
  clear fbg_0 fbg_1 fbg_2 fbg_3 fbg_4 fbg_l
  clear fbn_0 fbn_1 fbn_l
  go_wp2_with (go_at_call 15; refine name_calls ?_; intro w18 e18; refine Hid.out ?_)
  unfold Hid
  have h18 : Below w17.heap.size w17 w18 := by rw [e18]; (repeat (first | (with_reducible exact Below.refl _ _) | ((with_reducible refine Below.setCell ?_ ?_ _); rotate_left 1; (focus (first | (simp; done) | (simp; omega) | (simp at *; omega)))) | ((with_reducible refine Below.alloc ?_ ?_ _); rotate_left 1; (focus (first | (simp; done) | (simp; omega) | (simp at *; omega))))))
  have HB18 := Lib.hid (HB17.out.trans (h18.mono HB17.out.size))
  clear e18 h18
  refine (awake_any _ (HTab.out.below HB18.out)).mono ?_
  rintro r w19 ⟨rfl, h19⟩
  have HB19 := Lib.hid (HB18.out.trans (h19.mono HB18.out.size))
  clear h19
  go_wp2
  go_ret
  exact ⟨by first | rfl | (simp; done), HB19.out⟩
end Go.Proofs.YtdeapbihbhoefaaDoor

/- ProtectLimits answers yes, whatever its arguments. -/
namespace Go.Proofs.YtdeapbihbhoefaaDoor
open Go.RowKit Go.ChangeShapes Go.WideShapes
open Calm (bcell Blk)
theorem ProtectLimits_any (lk ht rc na nb : Int) (M L : Nat) (ts gs : List Int) (u : Value) (w : World) (hTab : PTab w) (hM : M = ts.length) (hL : L = gs.length) (hu : KG lk ht rc M ts L gs u w) :
    Calls Tryd.prog 6 #[u, .agg #[(.int .i64 (na)), (.int .i64 (nb))]] w fun r w' => r = .returned (.bool true) ∧ Below w.heap.size w w' := by
  by_cases b0 : M ≤ 9 ∧ L ≤ 9
  · by_cases b1 : guardErr lk ht rc ts gs = 0
    · by_cases b2 : coolErr lk ht rc ts gs na nb = 0
      · exact limits_3 lk ht rc na nb M L ts gs u w hTab hM hL b0 b1 b2 hu
      · exact limits_2 lk ht rc na nb M L ts gs u w hTab hM hL b0 b1 b2 hu
    · exact limits_1 lk ht rc na nb M L ts gs u w hTab hM hL b0 b1 hu
  · exact limits_0 lk ht rc na nb M L ts gs u w hTab hM hL b0 hu
theorem okWide_array {P : Program} {w : World} {r : Reach} {base : Nat} {t e : TypeId} {n : Nat} {v : Value} (ht : P.underlying t = some (.array n e)) (h : Value.okWide P w r base t v) : ∃ cs, v = .agg cs ∧ cs.size = P.cellsOf t := by
  simp only [Value.okWide, ht] at h
  obtain ⟨cs, h1, h2, _⟩ := h
  exact ⟨cs, h1, h2⟩
set_option maxRecDepth 100000 in
/-- an array of two integers, opened. -/
theorem open_two {H : Type} {enc : TypeId × Value → H} {w : World} {base : Nat} {r : Reach} {b0 : Nat} {sp : Nat → Bool} {held : Bool} {v : Value} {d : DataW H} {p : List MemPlace}
    (hv : Value.okWide Tryd.prog w r b0 75 v) (hd : DataW.Trod enc Tryd.prog w base sp held 75 v d p) :
    ∃ i0 i1 : Int, v = .agg #[(.int .i64 (i0)), (.int .i64 (i1))] := by
  obtain ⟨cs, rfl, hsz⟩ := okWide_array Tryd.underlying75 hv
  obtain ⟨fuel, hf⟩ := hd
  obtain ⟨h1, h2⟩ := Flat.cells_of_ints 3 (show Flat.intsB Tryd.prog 3 75 = true by kernel_rfl) hf
  rw [show Tryd.prog.cellsOf 75 = 2 by kernel_rfl] at hsz
  have hcs : cs.toList = (Flat.flat 3 d).map (Value.int .i64) := h1
  have hl : (Flat.flat 3 d).length = 2 := by
    have := congrArg List.length hcs
    simp at this
    omega
  match hz : Flat.flat 3 d, hl with
  | [i0, i1], _ =>
    rw [hz] at hcs
    refine ⟨i0, i1, ?_⟩
    have e : cs = #[(.int .i64 (i0)), (.int .i64 (i1))] := Array.toList_inj.1 hcs
    rw [e]
end Go.Proofs.YtdeapbihbhoefaaDoor

/- ProtectLimits: the row and its card. -/
namespace Go.Proofs.YtdeapbihbhoefaaDoor.protectLimits
open Go.ChangeShapes Go.WideShapes Go.ChangeAt Go.RowKit Go.Flat
open Calm (bcell)

set_option maxRecDepth 100000 in
theorem contract (H : Type) (enc : TypeId × Value → H) (W : World) (base : Nat) (args : Array Value) (ds gs : List (DataW H)) (before : List MemPlace)
    (hval : ∀ (j : Nat) t v, Tryd.f6.params[j]? = some t → args[j]? = some v → Value.okWide Tryd.prog W .any base t v)
    (hW : DataW.Whole enc Tryd.prog Tryd.f6.params.toList Rows.protectLimitsSpec.vars false W args.toList ds gs before) (hL : laidMetH Tryd.prog laidList W) :
    Calls Tryd.prog 6 args W fun e W' => ∃ v, e = .returned v ∧ Rows.protectLimitsSpec.post enc Tryd.prog Tryd.f6 false true false false W args v W' := by
  have hW' := hW
  have hlt : ∀ p ∈ before, p.block < W.heap.size := fun p hp => hW.lt p hp
  obtain ⟨p, q, hA0, hV, rfl, hfz, hnd⟩ := hW
  have hA : DataW.TrodAll enc Tryd.prog W 0 (fun _ => true) true Tryd.f6.params.toList args.toList ds p := hA0
  rw [Tryd.params6] at hA hval
  obtain ⟨v0, v1, d0, d1, p0, p1, rfl, rfl, rfl, h0, h1⟩ := trodAll_two hA
  obtain ⟨rfl, rfl⟩ := trodVars_none hV
  obtain ⟨lk, ht, rc, A1, A2, c1, c2, ts, gs', rfl, k1, k2⟩ := open_guard (hval 0 _ _ rfl rfl) h0
  obtain ⟨na, nb, rfl⟩ := open_two (hval 1 _ _ rfl rfl) h1
  refine (ProtectLimits_any lk ht rc na nb _ _ ts gs' _ W (tab_of_laid hL) rfl rfl ⟨A1, c1, A2, c2, rfl, k1, k2⟩).mono fun e W' ⟨he, hb⟩ => ?_
  subst he
  refine ⟨_, rfl, post_of_below (pa := p0 ++ p1) (pv := []) hW' (fun _ _ _ => trodAll_cons_mk (shut_bool Tryd.underlying4 _) trodAll_mk0) (fun sp hs => ?_) (fun _ _ => rfl) rfl hb (ok_one (by kernel_rfl) rfl (okWide_bool_mk Tryd.underlying4 _))⟩
  exact trodAll_below laidOut hb (by rw [Tryd.params6]; exact of_decide_eq_true (by kernel_rfl)) hA0 (fun x hx => hlt x (List.mem_append_left _ hx)) (fun x hx => hs x (List.mem_append_left _ hx))

/-- the witness: nothing. -/
noncomputable def wit : Array Value := #[.agg #[(.int .i64 (0)), (.int .i64 (0)), .slice none 0 0, (.int .i64 (0)), .slice none 0 0], .agg #[(.int .i64 (0)), (.int .i64 (0))]]
theorem reads (os : Os) {H : Type} (enc : TypeId × Value → H) : ∃ ds places, DataW.whole enc Tryd.prog ((World.doorLaid Tryd.prog 35 os).forCall (fun _ _ => 0) ⟨#[], wit, []⟩).memory Tryd.f6.params.toList Rows.protectLimitsSpec.vars false wit.toList 8 = some (ds, [], places) :=
  ⟨[.agg [.lit (.int .i64 0), .lit (.int .i64 0), .nil, .lit (.int .i64 0), .nil], .agg [.lit (.int .i64 0), .lit (.int .i64 0)]], [], by kernel_rfl⟩

set_option maxRecDepth 100000 in
theorem lifted (os : Os) (started : os.Started) (H : Type) (enc : TypeId × Value → H) (F : Stop.Interp) :
    ReturnsInHanded {} Tryd.checked os 6 .any ((OpenSpec.ofChange Rows.protectLimitsSpec).preRow enc Tryd.prog Tryd.f6 Rows.protectLimitsRow.domain false Rows.protectLimitsRow.laid) (((OpenSpec.ofChange Rows.protectLimitsSpec).at F).post enc Tryd.prog Tryd.f6 false true false false) := by
  obtain ⟨ds, places, hx⟩ := reads os enc
  refine returnsInHanded_of_row (C := Tryd.checked) (s := OpenSpec.ofChange Rows.protectLimitsSpec) own started (by kernel_rfl) Tryd.func6
    (witness_row_at (enc := enc) (C := Tryd.checked) false (World.doorLaid Tryd.prog 35 os) wit rfl (door_vars os _) (door_rest os _) (by kernel_rfl)
      (OpenSpec.preRow_of_cond 8 hx (by kernel_rfl) (fun k hk => by cases hk) (by kernel_rfl) (laid_met os _))) ?_
  intro W base args ds gs before hval hW _ _ _ hL _ _
  exact contract H enc W base args ds gs before hval hW hL

theorem said : Rows.ProtectLimitsSaid :=
  OpenClaim.holds_of_cond 6 Tryd.f6 rfl rfl rfl rfl rfl rfl rfl ⟨rfl, rfl, rfl, rfl, rfl⟩ rfl rfl rfl rfl rfl (by kernel_rfl) Tryd.func6 (by kernel_rfl)
    (of_decide_eq_true (by kernel_rfl)) (by unfold Func.isWrapper; first | (rw [if_pos (by decide +kernel)]; kernel_rfl) | (rw [if_neg (by decide +kernel)]; exact ⟨rfl, rfl⟩))
    (fun os started H enc _ F => by rw [OpenClaim.pre_eq_preRow]; exact lifted os started H enc F)

theorem plain (f : FuncId) (fn : Func) (hf : Tryd.pinned.checked.prog.funcNamed "woofer/wooferlaw08.ProtectLimits" = some f) (hfn : Tryd.pinned.checked.prog.funcs[f]? = some fn) :
    false = Tryd.pinned.checked.prog.looks [] ∧ ∀ (j : Nat) t, fn.params[j]? = some t → Tryd.pinned.checked.prog.wantsStandIn t = false := by
  obtain rfl : f = 6 := Option.some.inj ((show Tryd.prog.funcNamed "woofer/wooferlaw08.ProtectLimits" = some 6 by kernel_rfl).symm.trans hf) |>.symm
  obtain rfl : fn = Tryd.f6 := (Option.some.inj (Tryd.func6.symm.trans hfn)).symm
  refine ⟨by kernel_rfl, fun j t ht => ?_⟩
  rw [Tryd.params6] at ht
  have hall : ∀ t ∈ (#[24, 75] : Array TypeId), Tryd.prog.wantsStandIn t = false := of_decide_eq_true (by kernel_rfl)
  exact hall t (Array.mem_of_getElem? ht)

theorem card : Rows.ProtectLimitsCardSaid :=
  Claim7.holds_tied_plain_at .later [] _ _ _ _ said (fun _ h => by cases h) (by kernel_rfl) (fun _ h => by cases h) protectLimits_row_tie rfl ⟨rfl, rfl⟩ (by kernel_rfl) rfl plain (by kernel_rfl)
end Go.Proofs.YtdeapbihbhoefaaDoor.protectLimits
