/- Part 21 of the texts of the claim: Lh, N1, N2, RQ2, N3, N4, N5, N6, N7, N8, N9, LStP, LRd_0, LRd_1, LRd_2. -/
import Derived.Test.YtdeapbihbhoefaaGreatDoorMr20
import Derived.Test.YtdeapbihbhoefaaGreatDoorMr15
import Derived.Test.YtdeapbihbhoefaaGreatDoorMr18
import Derived.Test.YtdeapbihbhoefaaGreatDoorMr17
import Derived.Test.YtdeapbihbhoefaaGreatDoorMr14
import Derived.Test.YtdeapbihbhoefaaGreatDoorMr13

/- Helpers of the laws: copies of numbers, guards, states. -/
namespace Go.Proofs.YtdeapbihbhoefaaGreatDoor
open Go.RowKit
open Calm (bcell Blk)

theorem own_ksi {W : World} {base n : Nat} {v : Value} {xs : List Int} (hn : n = xs.length) (h : W.ownsRow base 3 1 v n (xs.map (Value.int .i64))) : KSI n xs v W := by
  obtain ⟨A, c, rfl, _, hC⟩ := own_ints h hn
  refine ⟨A, c, rfl, hC, fun p hp => ?_⟩
  subst hp
  rcases h.2 with ⟨e, _⟩ | ⟨g, cap, cur, e, _, hg, _⟩
  · cases e
  · cases e
    exact ⟨cur, hg⟩
set_option maxHeartbeats 1000000 in
theorem ints_K {n : Nat} {xs : List Int} {u : Value} {W : World} (hn : n = xs.length) (h5 : n ≤ 100000) (hu : KS n xs u W) : Calls Tryz.prog 39 #[u] W (KP (KSI n xs) W) := by
  obtain ⟨A, c, rfl, hC⟩ := hu
  have HC := Lib.hid hC
  have HN := Lib.hid hn
  clear hC hn
  go_enter Tryz.func39, Tryz.ntmps39
  go_wp2_with (at_builtin; refine wpList_appC rfl _ _ rfl W.heap.size n c A xs HN.out rfl rfl ⟨by simp, .inr ⟨_, 0, #[], rfl, Nat.le_refl _, by show (W.heap.push _)[W.heap.size]? = _; simp, Nat.le_refl _, Nat.zero_le _, by simp, by simp⟩⟩ h5 (HC.out.below ((Below.refl _ _).alloc (Nat.le_refl _) _)) ?_; intro B d w1 hb1 hown; have HB1 := Lib.hid (((Below.refl W.heap.size W).alloc (Nat.le_refl _) (.cells #[] 3)).trans (hb1.mono (by simp))); have HK := Lib.hid (own_ksi HN.out hown); clear hb1 hown)
  go_ret
  exact ⟨_, rfl, HK.out, HB1.out⟩
theorem Short_K {lk ht rc : Int} {M L : Nat} {ts gs : List Int} {u : Value} {W : World} (hu : KG lk ht rc M ts L gs u W) : Calls Tryz.prog 5 #[u] W (KP (KV (.bool (decide (M ≤ 9 ∧ L ≤ 9)))) W) := by
  obtain ⟨A1, c1, A2, c2, rfl, _, _⟩ := hu
  exact (pShort_any lk ht rc A1 A2 M L c1 c2 W).mono fun e W' ⟨h, hb⟩ => ⟨_, h, rfl, hb⟩
theorem ShortState_K {h lv : Int} {n : Nat} {l : List Int} {u : Value} {W : World} (hu : KT h lv n l u W) : Calls Tryz.prog 15 #[u] W (KP (KV (.bool (decide (n ≤ 9)))) W) := by
  obtain ⟨B, c, rfl, _⟩ := hu
  by_cases h1 : n ≤ 9
  · have h1i : (n : Int) ≤ 9 := by omega
    rw [decide_eq_true h1]
    go_enter Tryz.func15, Tryz.ntmps15
    go_wp2
    go_ret
    exact ⟨_, by first | rfl | (simp; done), rfl, by (repeat (first | (with_reducible exact Below.refl _ _) | ((with_reducible refine Below.setCell ?_ ?_ _); rotate_left 1; focus (first | (simp; done) | (simp; omega) | (simp at *; omega))) | ((with_reducible refine Below.alloc ?_ ?_ _); rotate_left 1; focus (first | (simp; done) | (simp; omega) | (simp at *; omega))) | (with_reducible refine Below.drew ?_) | ((with_reducible refine Calm.step (by assumption) ?_ ?_); rotate_left 1; focus (first | (simp; done) | (simp; omega) | (simp at *; omega)))))⟩
  · have h1i : ¬ (n : Int) ≤ 9 := by omega
    rw [decide_eq_false h1]
    go_enter Tryz.func15, Tryz.ntmps15
    go_wp2
    go_ret
    exact ⟨_, by first | rfl | (simp; done), rfl, by (repeat (first | (with_reducible exact Below.refl _ _) | ((with_reducible refine Below.setCell ?_ ?_ _); rotate_left 1; focus (first | (simp; done) | (simp; omega) | (simp at *; omega))) | ((with_reducible refine Below.alloc ?_ ?_ _); rotate_left 1; focus (first | (simp; done) | (simp; omega) | (simp at *; omega))) | (with_reducible refine Below.drew ?_) | ((with_reducible refine Calm.step (by assumption) ?_ ?_); rotate_left 1; focus (first | (simp; done) | (simp; omega) | (simp at *; omega)))))⟩
theorem told_K {h lv : Int} {n : Nat} {l : List Int} {u : Value} {W : World} (hu : KT h lv n l u W) : Calls Tryz.prog 21 #[u] W (KP (KT h lv n l) W) := by
  obtain ⟨B, c, rfl, hC⟩ := hu
  have HC := Lib.hid hC
  clear hC
  go_enter Tryz.func21, Tryz.ntmps21
  go_wp2
  refine bodyPost_ret (v := .agg #[(.int .i64 h), (.int .i64 lv), .slice B n c]) (by simp [results, Tryz.results21, go_sem]) rfl ⟨_, rfl, ⟨_, _, rfl, HC.out.below (by (repeat (first | (with_reducible exact Below.refl _ _) | ((with_reducible refine Below.setCell ?_ ?_ _); rotate_left 1; focus (first | (simp; done) | (simp; omega) | (simp at *; omega))) | ((with_reducible refine Below.alloc ?_ ?_ _); rotate_left 1; focus (first | (simp; done) | (simp; omega) | (simp at *; omega))) | (with_reducible refine Below.drew ?_) | ((with_reducible refine Calm.step (by assumption) ?_ ?_); rotate_left 1; focus (first | (simp; done) | (simp; omega) | (simp at *; omega))))))⟩, by (repeat (first | (with_reducible exact Below.refl _ _) | ((with_reducible refine Below.setCell ?_ ?_ _); rotate_left 1; focus (first | (simp; done) | (simp; omega) | (simp at *; omega))) | ((with_reducible refine Below.alloc ?_ ?_ _); rotate_left 1; focus (first | (simp; done) | (simp; omega) | (simp at *; omega))) | (with_reducible refine Below.drew ?_) | ((with_reducible refine Calm.step (by assumption) ?_ ?_); rotate_left 1; focus (first | (simp; done) | (simp; omega) | (simp at *; omega)))))⟩
theorem kgo (u : Value) (W : World) {lk ht rc : Int} {M : Nat} {ts : List Int} {L : Nat} {gs : List Int} (h : KG lk ht rc M ts L gs u W) : ∃ A1 c1 A2 c2, u = .agg #[(.int .i64 lk), (.int .i64 ht), .slice A1 M c1, (.int .i64 rc), .slice A2 L c2] ∧ KS M ts (.slice A1 M c1) W ∧ KS L gs (.slice A2 L c2) W := by
  obtain ⟨A1, c1, A2, c2, e, h1, h2⟩ := h
  exact ⟨A1, c1, A2, c2, e, ⟨_, _, rfl, h1⟩, ⟨_, _, rfl, h2⟩⟩

set_option maxRecDepth 100000 in
set_option maxHeartbeats 2000000 in
theorem guard_K {lk ht rc : Int} {M L : Nat} {ts gs : List Int} {u : Value} {w : World} (hM : M = ts.length) (hL : L = gs.length) (h1 : M ≤ 1000) (h2 : L ≤ 1000) (hu : KG lk ht rc M ts L gs u w) : Calls Tryz.prog 8 #[u] w (KP (KGI lk ht rc M ts L gs) w) := by
  obtain ⟨A1, c1, A2, c2, rfl, hT, hG⟩ := kgo _ _ hu
  have HT := Lib.hid hT
  have HG := Lib.hid hG
  have HM := Lib.hid hM
  have HL := Lib.hid hL
  clear hT hG hM hL hu
  go_enter Tryz.func8, Tryz.ntmps8
  have HB0 := Lib.hid (Below.refl w.heap.size w)
  go_wp2
  refine name_world ?_
  intro w1 e1
  have h1 : Below w.heap.size w w1 := by rw [e1]; (repeat (first | (with_reducible exact Below.refl _ _) | ((with_reducible refine Below.setCell ?_ ?_ _); rotate_left 1; (focus (first | (simp; done) | (simp; omega) | (simp at *; omega)))) | ((with_reducible refine Below.alloc ?_ ?_ _); rotate_left 1; (focus (first | (simp; done) | (simp; omega) | (simp at *; omega))))))
  have fHT_1 := Lib.hid (KS.st _ _ _ _ _ HT.out h1)
  have fHG_1 := Lib.hid (KS.st _ _ _ _ _ HG.out h1)
  have HB1 := Lib.hid (HB0.out.trans (h1.mono HB0.out.size))
  have bg_1 := Lib.hid (show Blk w1 w.heap.size #[(.int .i64 lk), (.int .i64 ht), .slice A1 M c1, (.int .i64 rc), .slice A2 L c2] from by rw [e1]; (repeat (first | ((with_reducible refine Blk.at_ ?_); focus (first | rfl | (simp; done) | (simp; omega))) | (with_reducible refine Blk.alloc ?_ _) | (with_reducible refine Blk.below ?_ (by with_reducible assumption)) | (with_reducible refine Blk.drew ?_))))
  have bz_1 := Lib.hid (show Blk w1 (w.heap.size + 1) #[(.int .i64 0), (.int .i64 0), .slice none 0 0, (.int .i64 0), .slice none 0 0] from by rw [e1]; (repeat (first | ((with_reducible refine Blk.at_ ?_); focus (first | rfl | (simp; done) | (simp; omega))) | (with_reducible refine Blk.alloc ?_ _) | (with_reducible refine Blk.below ?_ (by with_reducible assumption)) | (with_reducible refine Blk.drew ?_))))
  have ty_1 := Lib.hid (show IsTy w1 (w.heap.size + 1) 30 from by rw [e1]; exact ⟨_, heap_new (by simp)⟩)
  clear e1 h1
  obtain ⟨f0, f1, f2, f3, f4, fl, -⟩ := bg_1.out.o5
  refine Rel.region3 12 (by kernel_rfl) (by kernel_rfl) (by kernel_rfl) ?_
  simp only [List.take_succ_cons, List.take_zero, List.drop_succ_cons, List.drop_zero, List.filterMap_cons, List.filterMap_nil]
  iterate 6 (apply Rel.op3; (focus (first | exact Rel.gno rfl | exact Rel.gyes _ true _ rfl rfl rfl | exact Rel.gyes _ false _ rfl rfl rfl)); (focus (intro a W hb hd hbase; obtain ⟨hc, hf⟩ := bcell hb; clear hb hf; simp [Rel.deps, Rel.dep1, Rel.ons, Region.binds, Act.eval, KV] at hd; simp only [Act.eval, List.mem_cons, List.not_mem_nil, not_or, and_imp, or_false, Array.getD_eq_getD_getElem?] at hbase; go_simp; (try go_bits); (try rfl); done)); (try simp only [List.nil_append, List.cons_append]))
  refine Rel.callK 39 (KSI M ts) ((KSI.ik _ _).st) (Rel.gno rfl) ?_ ?_
  · intro a W hb hd hbase
    have q1 : a.eval (.tmp 8) = _ := (Rel.dep_at hd 5 rfl rfl)
    refine ⟨#[a.eval (.tmp 8)], ?_, by rw [q1]; exact ints_K HM.out (by omega) (KS.st _ _ _ _ _ fHT_1.out hb)⟩
    clear hd hbase hb
    go_simp
    (first | done | rfl | (refine ⟨?_, ?_⟩ <;> rfl))
  (try simp only [List.nil_append, List.cons_append])
  iterate 4 (apply Rel.op3; (focus (first | exact Rel.gno rfl | exact Rel.gyes _ true _ rfl rfl rfl | exact Rel.gyes _ false _ rfl rfl rfl)); (focus (intro a W hb hd hbase; obtain ⟨hc, hf⟩ := bcell hb; clear hb hf; simp [Rel.deps, Rel.dep1, Rel.ons, Region.binds, Act.eval, KV] at hd; simp only [Act.eval, List.mem_cons, List.not_mem_nil, not_or, and_imp, or_false, Array.getD_eq_getD_getElem?] at hbase; go_simp; (try go_bits); (try rfl); done)); (try simp only [List.nil_append, List.cons_append]))
  refine Rel.callK 39 (KSI L gs) ((KSI.ik _ _).st) (Rel.gno rfl) ?_ ?_
  · intro a W hb hd hbase
    have q1 : a.eval (.tmp 13) = _ := (Rel.dep_at hd 10 rfl rfl)
    refine ⟨#[a.eval (.tmp 13)], ?_, by rw [q1]; exact ints_K HL.out (by omega) (KS.st _ _ _ _ _ fHG_1.out hb)⟩
    clear hd hbase hb
    go_simp
    (first | done | rfl | (refine ⟨?_, ?_⟩ <;> rfl))
  (try simp only [List.nil_append, List.cons_append])
  refine Rel.done3 ?_
  intro x w2 h2 hx
  simp only [Rel.facts, Nat.zero_add, Nat.reduceAdd] at hx
  obtain ⟨e0, e1, e2, e3, e4, e5, ⟨B0, d0, e6, hc0, hi0⟩, e7, e8, e9, e10, ⟨B1, d1, e11, hc1, hi1⟩, _⟩ := hx
  simp only [Rel.fill, Nat.zero_add, Nat.reduceAdd, e0, e1, e2, e3, e4, e5, e6, e7, e8, e9, e10, e11]
  simp only [Act.put, List.setIfInBounds_toArray, List.set_cons_zero, List.set_cons_succ]
  clear e0 e1 e2 e3 e4 e5 e6 e7 e8 e9 e10 e11
  have fHT_2 := Lib.hid (KS.st _ _ _ _ _ fHT_1.out h2)
  have fHG_2 := Lib.hid (KS.st _ _ _ _ _ fHG_1.out h2)
  have bg_2 := Lib.hid (bg_1.out.below h2)
  have bz_2 := Lib.hid (bz_1.out.below h2)
  have ty_2 := Lib.hid (ty_1.out.below h2)
  have HB2 := Lib.hid (HB1.out.trans (h2.mono HB1.out.size))
  have r0 := Lib.hid (show KSI M ts (.slice B0 M d0) w2 from ⟨_, _, rfl, hc0, hi0⟩)
  clear hc0 hi0
  have r1 := Lib.hid (show KSI L gs (.slice B1 L d1) w2 from ⟨_, _, rfl, hc1, hi1⟩)
  clear hc1 hi1
  clear h2 f0 f1 f2 f3 f4 fl
  obtain ⟨z0, z1, z2, z3, z4, zl, zf⟩ := bz_2.out.o5
  go_wp2
  clear z0 z1 z2 z3 z4 zl zf
  have KR := (((((bz_2.out.set (i := 0) (by simp) ((.int .i64 lk))).set (i := 1) (by simp) ((.int .i64 ht))).set (i := 2) (by simp) (.slice B0 M d0)).set (i := 3) (by simp) ((.int .i64 rc))).set (i := 4) (by simp) (.slice B1 L d1))
  obtain ⟨k0, k1, k2, k3, k4, -, -⟩ := KR.o5
  obtain ⟨_, _, ee0, x0, y0⟩ := (((((r0.out.put ty_2.out (by decide) 0 ((.int .i64 lk))).put (ty_2.out.put 0 ((.int .i64 lk))) (by decide) 1 ((.int .i64 ht))).put ((ty_2.out.put 0 ((.int .i64 lk))).put 1 ((.int .i64 ht))) (by decide) 2 (.slice B0 M d0)).put (((ty_2.out.put 0 ((.int .i64 lk))).put 1 ((.int .i64 ht))).put 2 (.slice B0 M d0)) (by decide) 3 ((.int .i64 rc))).put ((((ty_2.out.put 0 ((.int .i64 lk))).put 1 ((.int .i64 ht))).put 2 (.slice B0 M d0)).put 3 ((.int .i64 rc))) (by decide) 4 (.slice B1 L d1))
  cases ee0
  obtain ⟨_, _, ee1, x1, y1⟩ := (((((r1.out.put ty_2.out (by decide) 0 ((.int .i64 lk))).put (ty_2.out.put 0 ((.int .i64 lk))) (by decide) 1 ((.int .i64 ht))).put ((ty_2.out.put 0 ((.int .i64 lk))).put 1 ((.int .i64 ht))) (by decide) 2 (.slice B0 M d0)).put (((ty_2.out.put 0 ((.int .i64 lk))).put 1 ((.int .i64 ht))).put 2 (.slice B0 M d0)) (by decide) 3 ((.int .i64 rc))).put ((((ty_2.out.put 0 ((.int .i64 lk))).put 1 ((.int .i64 ht))).put 2 (.slice B0 M d0)).put 3 ((.int .i64 rc))) (by decide) 4 (.slice B1 L d1))
  cases ee1
  refine bodyPost_ret (v := .agg #[(.int .i64 lk), (.int .i64 ht), .slice B0 M d0, (.int .i64 rc), .slice B1 L d1]) ?_ rfl ⟨_, rfl, ⟨B0, d0, B1, d1, rfl, x0, x1, y0, y1⟩, (((((HB2.out.setCell (p := ⟨w.heap.size + 1, 0, none⟩) (by simp) ((.int .i64 lk))).setCell (p := ⟨w.heap.size + 1, 1, none⟩) (by simp) ((.int .i64 ht))).setCell (p := ⟨w.heap.size + 1, 2, none⟩) (by simp) (.slice B0 M d0)).setCell (p := ⟨w.heap.size + 1, 3, none⟩) (by simp) ((.int .i64 rc))).setCell (p := ⟨w.heap.size + 1, 4, none⟩) (by simp) (.slice B1 L d1))⟩
  simp [results, Tryz.results8, go_sem, k0, k1, k2, k3, k4]
set_option maxRecDepth 100000 in
set_option maxHeartbeats 2000000 in
theorem state_K {h lv : Int} {n : Nat} {l : List Int} {u : Value} {w : World} (hn : n = l.length) (h1 : n ≤ 1000) (hu : KT h lv n l u w) : Calls Tryz.prog 17 #[u] w (KP (KTI h lv n l) w) := by
  obtain ⟨A1, c1, rfl, hT⟩ := hu
  have HT := Lib.hid (show KS n l (.slice A1 n c1) w from ⟨_, _, rfl, hT⟩)
  have HN := Lib.hid hn
  clear hT hn
  go_enter Tryz.func17, Tryz.ntmps17
  have HB0 := Lib.hid (Below.refl w.heap.size w)
  go_wp2
  refine name_world ?_
  intro w1 e1
  have h1 : Below w.heap.size w w1 := by rw [e1]; (repeat (first | (with_reducible exact Below.refl _ _) | ((with_reducible refine Below.setCell ?_ ?_ _); rotate_left 1; (focus (first | (simp; done) | (simp; omega) | (simp at *; omega)))) | ((with_reducible refine Below.alloc ?_ ?_ _); rotate_left 1; (focus (first | (simp; done) | (simp; omega) | (simp at *; omega))))))
  have fHT_1 := Lib.hid (KS.st _ _ _ _ _ HT.out h1)
  have HB1 := Lib.hid (HB0.out.trans (h1.mono HB0.out.size))
  have bg_1 := Lib.hid (show Blk w1 w.heap.size #[(.int .i64 h), (.int .i64 lv), .slice A1 n c1] from by rw [e1]; (repeat (first | ((with_reducible refine Blk.at_ ?_); focus (first | rfl | (simp; done) | (simp; omega))) | (with_reducible refine Blk.alloc ?_ _) | (with_reducible refine Blk.below ?_ (by with_reducible assumption)) | (with_reducible refine Blk.drew ?_))))
  have bz_1 := Lib.hid (show Blk w1 (w.heap.size + 1) #[(.int .i64 0), (.int .i64 0), .slice none 0 0] from by rw [e1]; (repeat (first | ((with_reducible refine Blk.at_ ?_); focus (first | rfl | (simp; done) | (simp; omega))) | (with_reducible refine Blk.alloc ?_ _) | (with_reducible refine Blk.below ?_ (by with_reducible assumption)) | (with_reducible refine Blk.drew ?_))))
  have ty_1 := Lib.hid (show IsTy w1 (w.heap.size + 1) 45 from by rw [e1]; exact ⟨_, heap_new (by simp)⟩)
  clear e1 h1
  obtain ⟨f0, f1, f2, fl, -⟩ := bg_1.out.o3
  refine Rel.region3 7 (by kernel_rfl) (by kernel_rfl) (by kernel_rfl) ?_
  simp only [List.take_succ_cons, List.take_zero, List.drop_succ_cons, List.drop_zero, List.filterMap_cons, List.filterMap_nil]
  iterate 6 (apply Rel.op3; (focus (first | exact Rel.gno rfl | exact Rel.gyes _ true _ rfl rfl rfl | exact Rel.gyes _ false _ rfl rfl rfl)); (focus (intro a W hb hd hbase; obtain ⟨hc, hf⟩ := bcell hb; clear hb hf; simp [Rel.deps, Rel.dep1, Rel.ons, Region.binds, Act.eval, KV] at hd; simp only [Act.eval, List.mem_cons, List.not_mem_nil, not_or, and_imp, or_false, Array.getD_eq_getD_getElem?] at hbase; go_simp; (try go_bits); (try rfl); done)); (try simp only [List.nil_append, List.cons_append]))
  refine Rel.callK 39 (KSI n l) ((KSI.ik _ _).st) (Rel.gno rfl) ?_ ?_
  · intro a W hb hd hbase
    have q1 : a.eval (.tmp 8) = _ := (Rel.dep_at hd 5 rfl rfl)
    refine ⟨#[a.eval (.tmp 8)], ?_, by rw [q1]; exact ints_K HN.out (by omega) (KS.st _ _ _ _ _ fHT_1.out hb)⟩
    clear hd hbase hb
    go_simp
    (first | done | rfl | (refine ⟨?_, ?_⟩ <;> rfl))
  (try simp only [List.nil_append, List.cons_append])
  refine Rel.done3 ?_
  intro x w2 h2 hx
  simp only [Rel.facts, Nat.zero_add, Nat.reduceAdd] at hx
  obtain ⟨e0, e1, e2, e3, e4, e5, ⟨B0, d0, e6, hc0, hi0⟩, _⟩ := hx
  simp only [Rel.fill, Nat.zero_add, Nat.reduceAdd, e0, e1, e2, e3, e4, e5, e6]
  simp only [Act.put, List.setIfInBounds_toArray, List.set_cons_zero, List.set_cons_succ]
  clear e0 e1 e2 e3 e4 e5 e6
  have fHT_2 := Lib.hid (KS.st _ _ _ _ _ fHT_1.out h2)
  have bg_2 := Lib.hid (bg_1.out.below h2)
  have bz_2 := Lib.hid (bz_1.out.below h2)
  have ty_2 := Lib.hid (ty_1.out.below h2)
  have HB2 := Lib.hid (HB1.out.trans (h2.mono HB1.out.size))
  have r0 := Lib.hid (show KSI n l (.slice B0 n d0) w2 from ⟨_, _, rfl, hc0, hi0⟩)
  clear hc0 hi0
  clear h2 f0 f1 f2 fl
  obtain ⟨z0, z1, z2, zl, zf⟩ := bz_2.out.o3
  go_wp2
  clear z0 z1 z2 zl zf
  have KR := (((bz_2.out.set (i := 0) (by simp) ((.int .i64 h))).set (i := 1) (by simp) ((.int .i64 lv))).set (i := 2) (by simp) (.slice B0 n d0))
  obtain ⟨k0, k1, k2, -, -⟩ := KR.o3
  obtain ⟨_, _, ee0, x0, y0⟩ := (((r0.out.put ty_2.out (by decide) 0 ((.int .i64 h))).put (ty_2.out.put 0 ((.int .i64 h))) (by decide) 1 ((.int .i64 lv))).put ((ty_2.out.put 0 ((.int .i64 h))).put 1 ((.int .i64 lv))) (by decide) 2 (.slice B0 n d0))
  cases ee0
  refine bodyPost_ret (v := .agg #[(.int .i64 h), (.int .i64 lv), .slice B0 n d0]) ?_ rfl ⟨_, rfl, ⟨B0, d0, rfl, x0, y0⟩, (((HB2.out.setCell (p := ⟨w.heap.size + 1, 0, none⟩) (by simp) ((.int .i64 h))).setCell (p := ⟨w.heap.size + 1, 1, none⟩) (by simp) ((.int .i64 lv))).setCell (p := ⟨w.heap.size + 1, 2, none⟩) (by simp) (.slice B0 n d0))⟩
  simp [results, Tryz.results17, go_sem, k0, k1, k2]
end Go.Proofs.YtdeapbihbhoefaaGreatDoor

/- The reference's small functions: power, cooled, abs, By, CheckHeat. -/
namespace Go.Proofs.YtdeapbihbhoefaaGreatDoor
open Go.RowKit
open Calm (bcell Blk)

end Go.Proofs.YtdeapbihbhoefaaGreatDoor

/- The reference's Begin, CheckState, SameState. -/
namespace Go.Proofs.YtdeapbihbhoefaaGreatDoor
open Go.RowKit
open Calm (bcell Blk)

theorem rGuard_K {lk ht rc : Int} {M L : Nat} {ts gs : List Int} {u : Value} {W : World} (hM : M = ts.length) (hL : L = gs.length) (h1 : M ≤ 1000) (h2 : L ≤ 1000) (hu : KG lk ht rc M ts L gs u W) : Calls Tryz.prog 10 #[u] W (KP (KV (.int .i64 (guardErr lk ht rc ts gs))) W) := by
  obtain ⟨A1, c1, A2, c2, rfl, hT, hG⟩ := hu
  subst hM hL
  exact (pGuard_any lk ht rc ts gs A1 A2 c1 c2 W hT hG (by omega) (by omega)).mono fun e W' ⟨h, hb⟩ => ⟨_, h, rfl, hb⟩
theorem stErr_three {lk ht rc h lv : Int} {ts gs ps : List Int} (e : firstOf [guardErr lk ht rc ts gs, rangeErr h 0 536870912, rangeErr lv 0 ((gs.length : Int) - 1)] ≠ 0) : stErr lk ht rc ts gs h lv ps = firstOf [guardErr lk ht rc ts gs, rangeErr h 0 536870912, rangeErr lv 0 ((gs.length : Int) - 1)] := by
  unfold stErr
  by_cases h0 : guardErr lk ht rc ts gs = 0
  · rw [if_pos h0, h0, fo_cons0]
    unfold stErr2
    by_cases h1 : rangeErr h 0 536870912 = 0
    · rw [h1, fo_cons0, fo_cons0]
      by_cases h2 : rangeErr lv 0 ((gs.length : Int) - 1) = 0
      · exact absurd (by rw [h0, h1, h2]; rfl) e
      · rw [fo_consN h2, fo_consN h2]
    · rw [fo_consN h1, fo_consN h1]
  · rw [if_neg h0, fo_consN h0]
theorem stErr_rest {lk ht rc h lv : Int} {ts gs ps : List Int} (e : firstOf [guardErr lk ht rc ts gs, rangeErr h 0 536870912, rangeErr lv 0 ((gs.length : Int) - 1)] = 0) : stErr lk ht rc ts gs h lv ps = if ps.length + 1 = ts.length then eachErr ps (-2048) 2048 else 2 := by
  have h0 := firstOf_eq_zero.1 e
  have a1 := h0 (guardErr lk ht rc ts gs) (by simp)
  have a2 := h0 (rangeErr h 0 536870912) (by simp)
  have a3 := h0 (rangeErr lv 0 ((gs.length : Int) - 1)) (by simp)
  unfold stErr stErr2
  rw [if_pos a1, a2, a3, fo_cons0, fo_cons0]
  by_cases hs : ps.length + 1 = ts.length
  · rw [if_pos hs, if_pos hs, fo_cons0]
    by_cases he : eachErr ps (-2048) 2048 = 0
    · rw [he]; rfl
    · rw [fo_consN he]
  · rw [if_neg hs, if_neg hs]
    rfl

set_option maxRecDepth 100000 in
set_option maxHeartbeats 4000000 in
theorem rCheckState_K {lk ht rc h lv : Int} {M L n : Nat} {ts gs l : List Int} {u v : Value} {w : World} (hM : M = ts.length) (hL : L = gs.length) (hn : n = l.length) (h1 : M ≤ 1000) (h2 : L ≤ 1000) (h3 : n ≤ 1000) (hu : KG lk ht rc M ts L gs u w) (hv : KT h lv n l v w) : Calls Tryz.prog 16 #[u, v] w (KP (KV (.int .i64 (stErr lk ht rc ts gs h lv l))) w) := by
  obtain ⟨E, hE⟩ : ∃ E, E = guardErr lk ht rc ts gs := ⟨_, rfl⟩
  obtain ⟨RH, hRH⟩ : ∃ RH, RH = rangeErr h 0 536870912 := ⟨_, rfl⟩
  obtain ⟨RL, hRL⟩ : ∃ RL, RL = rangeErr lv 0 ((L : Int) - 1) := ⟨_, rfl⟩
  obtain ⟨F, hF⟩ : ∃ F, F = firstOf [E, RH, RL] := ⟨_, rfl⟩
  obtain ⟨S, hS⟩ : ∃ S, S = stErr lk ht rc ts gs h lv l := ⟨_, rfl⟩
  have HST0 : Hid (F = 0 → S = if n + 1 = M then eachErr l (-2048) 2048 else 2) := Lib.hid (fun e => by
    rw [hS, hn, hM]
    refine stErr_rest ?_
    rw [← hL, ← hE, ← hRH, ← hRL, ← hF]
    exact e)
  have HST1 : Hid (F ≠ 0 → S = F) := Lib.hid (fun e => by
    rw [hS, hF, hE, hRH, hRL, hL]
    refine stErr_three ?_
    rw [← hL, ← hE, ← hRH, ← hRL, ← hF]
    exact e)
  have HCG : Hid (∀ {x : Value} (W : World), KG lk ht rc M ts L gs x W → Calls Tryz.prog 10 #[x] W (KP (KV (.int .i64 E)) W)) := Lib.hid (fun W q => by rw [hE]; exact rGuard_K hM hL h1 h2 q)
  have HRH : Hid (∀ W, Calls Tryz.prog 44 #[(.int .i64 h), (.int .i64 0), (.int .i64 536870912)] W (KP (KV (.int .i64 RH)) W)) := Lib.hid (fun W => (qRange_any h 0 536870912 W).mono fun e W' ⟨p, q⟩ => ⟨_, p, by rw [hRH]; rfl, by subst q; exact Below.refl _ _⟩)
  have HRL : Hid (∀ W, Calls Tryz.prog 44 #[(.int .i64 lv), (.int .i64 0), (.int .i64 ((L : Int) - 1))] W (KP (KV (.int .i64 RL)) W)) := Lib.hid (fun W => (qRange_any lv 0 ((L : Int) - 1) W).mono fun e W' ⟨p, q⟩ => ⟨_, p, by rw [hRL]; rfl, by subst q; exact Below.refl _ _⟩)
  have HF : Hid (∀ W : World, Calls Tryz.prog 43 #[.slice (some ⟨W.heap.size, 0, none⟩) 3 3] (W.alloc (.cells #[(.int .i64 E), (.int .i64 RH), (.int .i64 RL)] 3)) fun r w' => r = .returned (.int .i64 F) ∧ (W.alloc (.cells #[(.int .i64 E), (.int .i64 RH), (.int .i64 RL)] 3)) = w') := Lib.hid (fun W => by
    rw [hF]
    exact qFirst_any [E, RH, RL] _ 3 _ (by simp) (Cells.row (heap_new rfl)))
  obtain ⟨A1, c1, A2, c2, rfl, hT, hG⟩ := hu
  obtain ⟨A3, c3, rfl, hP⟩ := hv
  have HU := Lib.hid (show KG lk ht rc M ts L gs (.agg #[(.int .i64 lk), (.int .i64 ht), .slice A1 M c1, (.int .i64 rc), .slice A2 L c2]) w from ⟨_, _, _, _, rfl, hT, hG⟩)
  have HP := Lib.hid (show KS n l (.slice A3 n c3) w from ⟨_, _, rfl, hP⟩)
  have HN := Lib.hid hn
  rw [← hS]
  clear hM hL hn hT hG hP hE hRH hRL hF hS
  go_enter Tryz.func16, Tryz.ntmps16
  have HB0 := Lib.hid (Below.refl w.heap.size w)
  go_wp2
  refine name_world ?_
  intro w1 e1
  have h1 : Below w.heap.size w w1 := by rw [e1]; (repeat (first | (with_reducible exact Below.refl _ _) | ((with_reducible refine Below.setCell ?_ ?_ _); rotate_left 1; (focus (first | (simp; done) | (simp; omega) | (simp at *; omega)))) | ((with_reducible refine Below.alloc ?_ ?_ _); rotate_left 1; (focus (first | (simp; done) | (simp; omega) | (simp at *; omega))))))
  have ug_1 := Lib.hid (KG.st _ _ _ _ _ _ _ _ _ _ HU.out h1)
  have up_1 := Lib.hid (KS.st _ _ _ _ _ HP.out h1)
  have HB1 := Lib.hid (HB0.out.trans (h1.mono HB0.out.size))
  have bg_1 := Lib.hid (show Blk w1 w.heap.size #[(.int .i64 lk), (.int .i64 ht), .slice A1 M c1, (.int .i64 rc), .slice A2 L c2] from by rw [e1]; (repeat (first | ((with_reducible refine Blk.at_ ?_); focus (first | rfl | (simp; done) | (simp; omega))) | (with_reducible refine Blk.alloc ?_ _) | (with_reducible refine Blk.below ?_ (by with_reducible assumption)) | (with_reducible refine Blk.drew ?_))))
  have bs_1 := Lib.hid (show Blk w1 (w.heap.size + 1) #[(.int .i64 h), (.int .i64 lv), .slice A3 n c3] from by rw [e1]; (repeat (first | ((with_reducible refine Blk.at_ ?_); focus (first | rfl | (simp; done) | (simp; omega))) | (with_reducible refine Blk.alloc ?_ _) | (with_reducible refine Blk.below ?_ (by with_reducible assumption)) | (with_reducible refine Blk.drew ?_))))
  clear e1 h1
  obtain ⟨g0, g1, g2, g3, g4, gl, -⟩ := bg_1.out.o5
  obtain ⟨s0, s1, s2, sl, -⟩ := bs_1.out.o3
  refine Rel.region3 11 (by kernel_rfl) (by kernel_rfl) (by kernel_rfl) ?_
  simp only [List.take_succ_cons, List.take_zero, List.drop_succ_cons, List.drop_zero, List.filterMap_cons, List.filterMap_nil]
  (apply Rel.op3; (focus (first | exact Rel.gno rfl | exact Rel.gyes _ true _ rfl rfl rfl | exact Rel.gyes _ false _ rfl rfl rfl)); (focus (intro a W hb hd hbase; obtain ⟨hc, hf⟩ := bcell hb; clear hb hf; simp [Rel.deps, Rel.dep1, Rel.ons, Region.binds, Act.eval, KV] at hd; simp only [Act.eval, List.mem_cons, List.not_mem_nil, not_or, and_imp, or_false, Array.getD_eq_getD_getElem?] at hbase; go_simp; (try go_bits); (try rfl); done)); (try simp only [List.nil_append, List.cons_append]))
  refine Rel.callK 10 (KV (.int .i64 E)) (KV.st _) (Rel.gno rfl) ?_ ?_
  · intro a W hb hd hbase
    have q1 : a.eval (.tmp 7) = _ := (Rel.dep_at hd 0 rfl rfl)
    refine ⟨#[a.eval (.tmp 7)], ?_, by rw [q1]; exact HCG.out _ (KG.st _ _ _ _ _ _ _ _ _ _ ug_1.out hb)⟩
    clear hd hbase hb
    go_simp
    (first | done | rfl | (refine ⟨?_, ?_⟩ <;> rfl))
  (try simp only [List.nil_append, List.cons_append])
  iterate 2 (apply Rel.op3; (focus (first | exact Rel.gno rfl | exact Rel.gyes _ true _ rfl rfl rfl | exact Rel.gyes _ false _ rfl rfl rfl)); (focus (intro a W hb hd hbase; obtain ⟨hc, hf⟩ := bcell hb; clear hb hf; simp [Rel.deps, Rel.dep1, Rel.ons, Region.binds, Act.eval, KV] at hd; simp only [Act.eval, List.mem_cons, List.not_mem_nil, not_or, and_imp, or_false, Array.getD_eq_getD_getElem?] at hbase; go_simp; (try go_bits); (try rfl); done)); (try simp only [List.nil_append, List.cons_append]))
  refine Rel.callK 44 (KV (.int .i64 RH)) (KV.st _) (Rel.gno rfl) ?_ ?_
  · intro a W hb hd hbase
    have q1 : a.eval (.tmp 10) = _ := (Rel.dep_at hd 3 rfl rfl)
    refine ⟨#[a.eval (.tmp 10), (.int .i64 0), (.int .i64 536870912)], ?_, by rw [q1]; exact HRH.out _⟩
    clear hd hbase hb
    go_simp
    (first | done | rfl | (refine ⟨?_, ?_⟩ <;> rfl))
  (try simp only [List.nil_append, List.cons_append])
  iterate 6 (apply Rel.op3; (focus (first | exact Rel.gno rfl | exact Rel.gyes _ true _ rfl rfl rfl | exact Rel.gyes _ false _ rfl rfl rfl)); (focus (intro a W hb hd hbase; obtain ⟨hc, hf⟩ := bcell hb; clear hb hf; simp [Rel.deps, Rel.dep1, Rel.ons, Region.binds, Act.eval, KV] at hd; simp only [Act.eval, List.mem_cons, List.not_mem_nil, not_or, and_imp, or_false, Array.getD_eq_getD_getElem?] at hbase; go_simp; (try go_bits); (try rfl); done)); (try simp only [List.nil_append, List.cons_append]))
  refine Rel.done3 ?_
  intro x w2 h2 hx
  simp only [Rel.facts, Nat.zero_add, Nat.reduceAdd] at hx
  clear g0 g1 g2 g3 g4 gl s0 s1 s2 sl
  obtain ⟨e0, e1, e2, e3, e4, e5, e6, e7, e8, e9, e10, _⟩ := hx
  have e1 : x 1 = _ := e1
  have e4 : x 4 = _ := e4
  simp only [Rel.fill, Nat.zero_add, Nat.reduceAdd, e0, e1, e2, e3, e4, e5, e6, e7, e8, e9, e10]
  simp only [Act.put, List.setIfInBounds_toArray, List.set_cons_zero, List.set_cons_succ]
  clear e0 e1 e2 e3 e4 e5 e6 e7 e8 e9 e10
  have ug_2 := Lib.hid (KG.st _ _ _ _ _ _ _ _ _ _ ug_1.out h2)
  have up_2 := Lib.hid (KS.st _ _ _ _ _ up_1.out h2)
  have bg_2 := Lib.hid (bg_1.out.below h2)
  have bs_2 := Lib.hid (bs_1.out.below h2)
  have HB2 := Lib.hid (HB1.out.trans (h2.mono HB1.out.size))
  clear h2
  obtain ⟨g0, g1, g2, g3, g4, gl, -⟩ := bg_2.out.o5
  obtain ⟨s0, s1, s2, sl, -⟩ := bs_2.out.o3
  go_wp2_with (go_at_call 44; refine (HRL.out _).mono ?_; rintro r w3 ⟨v3, rfl, k3, hb3⟩; obtain rfl := k3; refine Hid.out ?_)
  unfold Hid
  have HB3 := Lib.hid (HB2.out.trans (hb3.mono HB2.out.size))
  have bg_3 := Lib.hid (bg_2.out.below hb3)
  have bs_3 := Lib.hid (bs_2.out.below hb3)
  have up_3 := Lib.hid (KS.st _ _ _ _ _ up_2.out hb3)
  clear hb3 g0 g1 g2 g3 g4 gl s0 s1 s2 sl
  go_wp2_with (go_at_call 43; refine (HF.out _).mono ?_; rintro r w4 ⟨rfl, rfl⟩; refine Hid.out ?_)
  unfold Hid
  have bg_4 := Lib.hid (bg_3.out.alloc (.cells #[(.int .i64 E), (.int .i64 RH), (.int .i64 RL)] 3))
  have bs_4 := Lib.hid (bs_3.out.alloc (.cells #[(.int .i64 E), (.int .i64 RH), (.int .i64 RL)] 3))
  have HB4 := Lib.hid (HB3.out.alloc HB3.out.size (.cells #[(.int .i64 E), (.int .i64 RH), (.int .i64 RL)] 3))
  have up_4 := Lib.hid (KS.st _ _ _ _ _ up_3.out ((Below.refl _ _).alloc (Nat.le_refl _) (.cells #[(.int .i64 E), (.int .i64 RH), (.int .i64 RL)] 3)))
  clear bg_3 bs_3 HB3 up_3
  obtain ⟨g0, g1, g2, g3, g4, gl, -⟩ := bg_4.out.o5
  obtain ⟨s0, s1, s2, sl, -⟩ := bs_4.out.o3
  by_cases hF : F = 0
  · subst hF
    have hst := HST0.out rfl
    by_cases hS : n + 1 = M
    · have hS2 : (n : Int) = (M : Int) - 1 := by omega
      rw [if_pos hS] at hst
      have HST := Lib.hid hst
      clear hst
      go_wp2
      go_loop [5, 6] (fun e i => ∃ k : Nat, k ≤ n ∧ i = (.int .i64 ((k : Int))) ∧ (∃ y : Int, e = (.int .i64 y)) ∧ ∀ j, j < k → rangeErr (l.getD j 0) (-2048) 2048 = 0) (fun _ i => n - (intOf i).toNat)
      case atStart => exact ⟨0, Nat.zero_le _, rfl, ⟨_, rfl⟩, fun j hj => by omega⟩
      case round =>
        obtain ⟨k, hk, rfl, ⟨y, rfl⟩, hz⟩ := hrel
        have HZ := Lib.hid hz
        clear hz
        by_cases hlt : k < n
        · obtain ⟨B, c, e, hC⟩ := up_4.out
          cases e
          obtain ⟨b, off, rfl, hbl, hc⟩ := hC (by rw [← HN.out]; omega)
          have hck := hc k (by rw [← HN.out]; exact hlt)
          obtain ⟨z, hzz⟩ : ∃ z, z = l.getD k 0 := ⟨_, rfl⟩
          rw [← hzz] at hck
          have HZZ := Lib.hid hzz
          clear hc hC hzz
          by_cases h0 : rangeErr z (-2048) 2048 = 0
          · have HCV := Lib.hid (fun W => pValue_any z W)
            rw [h0] at HCV
            have H0 := Lib.hid h0
            clear h0
            go_wp2_with (go_at_call 48; refine (HCV.out _).mono ?_; rintro r w5 ⟨rfl, rfl⟩)
            go_round
            case rel => exact ⟨k + 1, by omega, by go_num, ⟨_, rfl⟩, fun j hj => by
              rcases Nat.lt_or_ge j k with hjk | hjk
              · exact HZ.out j hjk
              · obtain rfl : j = k := by omega
                rw [← HZZ.out]; exact H0.out⟩
            case measure => simp [intOf]; omega
          · have HCV := Lib.hid (fun W => pValue_any z W)
            obtain ⟨V, hV⟩ : ∃ V, V = rangeErr z (-2048) 2048 := ⟨_, rfl⟩
            rw [← hV] at HCV h0
            have HV := Lib.hid hV
            clear hV
            go_wp2_with (go_at_call 48; refine (HCV.out _).mono ?_; rintro r w5 ⟨rfl, rfl⟩)
            go_ret
            refine ⟨_, rfl, ?_, HB4.out⟩
            rw [HST.out]
            unfold eachErr
            have hkl : k < (l.map fun n => rangeErr n (-2048) 2048).length := by rw [List.length_map, ← HN.out]; exact hlt
            have hg : ∀ j, j < l.length → (l.map fun n => rangeErr n (-2048) 2048).getD j 0 = rangeErr (l.getD j 0) (-2048) 2048 := fun j hj => by simp [List.getD_eq_getElem?_getD, hj]
            have hkn : k < l.length := by rw [← HN.out]; exact hlt
            rw [firstOf_take (k := k) (fun j hj => by rw [hg j (by omega)]; exact HZ.out j hj) hkl (by rw [hg k hkn, ← HZZ.out, ← HV.out]; exact h0), hg k hkn, ← HZZ.out, ← HV.out]
            rfl
        · obtain rfl : k = n := by omega
          go_wp2
          go_ret
          refine ⟨_, rfl, ?_, HB4.out⟩
          rw [HST.out]
          have : eachErr l (-2048) 2048 = 0 := by
            rw [eachErr_zero]
            intro x hx
            obtain ⟨j, hj, rfl⟩ := List.mem_iff_getElem.1 hx
            have := HZ.out j (by rw [HN.out]; exact hj)
            rw [List.getD_eq_getElem?_getD, List.getElem?_eq_getElem hj] at this
            exact rangeErr_zero.1 this
          rw [this]
          rfl
    · have hS2 : ¬ (n : Int) = (M : Int) - 1 := by omega
      rw [if_neg hS] at hst
      have HST := Lib.hid hst
      clear hst
      go_wp2
      go_ret
      exact ⟨_, rfl, by rw [HST.out]; rfl, HB4.out⟩
  · have HST := Lib.hid (HST1.out hF)
    go_wp2
    go_ret
    exact ⟨_, rfl, by rw [HST.out]; rfl, HB4.out⟩
end Go.Proofs.YtdeapbihbhoefaaGreatDoor

/- The law's own and the reference's SameGuard; the program's functions as the laws over texts want them. -/
namespace Go.Proofs.YtdeapbihbhoefaaGreatDoor
open Go.RowKit
open Calm (bcell Blk)
set_option maxHeartbeats 1000000 in
set_option maxRecDepth 100000 in
theorem own_K {lk ht rc : Int} {M L : Nat} {ts gs : List Int} {u : Value} {W : World} (hu : KG lk ht rc M ts L gs u W) : Calls Tryz.prog 14 #[u] W (KP (KG lk ht rc M ts L gs) W) := by
  obtain ⟨A1, c1, A2, c2, rfl, hT, hG⟩ := hu
  have HT := Lib.hid hT
  have HG := Lib.hid hG
  clear hT hG
  go_enter Tryz.func14, Tryz.ntmps14
  go_wp2
  refine bodyPost_ret (v := .agg #[(.int .i64 lk), (.int .i64 ht), .slice A1 M c1, (.int .i64 rc), .slice A2 L c2]) (by simp [results, Tryz.results14, go_sem]) rfl ⟨_, rfl, ⟨_, _, _, _, rfl, HT.out.below bel, HG.out.below bel⟩, bel⟩
set_option maxHeartbeats 2000000 in
set_option maxRecDepth 100000 in
theorem sameGuard_T {lk ht rc : Int} {M L : Nat} {ts gs : List Int} {u v : Value} {W : World} (hM : M = ts.length) (hL : L = gs.length) (h1 : M ≤ 1000) (h2 : L ≤ 1000) (hu : KG lk ht rc M ts L gs u W) (hv : KG lk ht rc M ts L gs v W) : Calls Tryz.prog 13 #[u, v] W (KP (KV (.bool true)) W) := by
  obtain ⟨A1, c1, A2, c2, rfl, hT, hG⟩ := hu
  obtain ⟨A3, c3, A4, c4, rfl, hT2, hG2⟩ := hv
  have HT := Lib.hid (show KS M ts (.slice A1 M c1) W from ⟨_, _, rfl, hT⟩)
  have HG := Lib.hid (show KS L gs (.slice A2 L c2) W from ⟨_, _, rfl, hG⟩)
  have HT2 := Lib.hid (show KS M ts (.slice A3 M c3) W from ⟨_, _, rfl, hT2⟩)
  have HG2 := Lib.hid (show KS L gs (.slice A4 L c4) W from ⟨_, _, rfl, hG2⟩)
  have HS1 : Hid (∀ {x y : Value} (W : World), KS M ts x W → KS M ts y W → Calls Tryz.prog 28 #[x, y] W (KP (KV (.bool true)) W)) := Lib.hid (fun W q q2 => same_T rfl hM hM (by omega) q q2)
  have HS2 : Hid (∀ {x y : Value} (W : World), KS L gs x W → KS L gs y W → Calls Tryz.prog 28 #[x, y] W (KP (KV (.bool true)) W)) := Lib.hid (fun W q q2 => same_T rfl hL hL (by omega) q q2)
  clear hM hL h1 h2 hT hG hT2 hG2
  go_enter Tryz.func13, Tryz.ntmps13
  go_wp2_with (go_at_call 28; refine name_calls ?_; intro w1 e1; refine Hid.out ?_)
  unfold Hid
  have hb1 : Below W.heap.size W w1 := by rw [e1]; exact bel
  have ba := Lib.hid (show Blk w1 W.heap.size #[(.int .i64 lk), (.int .i64 ht), .slice A1 M c1, (.int .i64 rc), .slice A2 L c2] by rw [e1]; (repeat (first | ((with_reducible refine Blk.at_ ?_); focus (first | rfl | (simp; done) | (simp; omega))) | (with_reducible refine Blk.alloc ?_ _) | (with_reducible refine Blk.below ?_ (by with_reducible assumption)) | (with_reducible refine Blk.drew ?_))))
  have bb := Lib.hid (show Blk w1 (W.heap.size + 1) #[(.int .i64 lk), (.int .i64 ht), .slice A3 M c3, (.int .i64 rc), .slice A4 L c4] by rw [e1]; (repeat (first | ((with_reducible refine Blk.at_ ?_); focus (first | rfl | (simp; done) | (simp; omega))) | (with_reducible refine Blk.alloc ?_ _) | (with_reducible refine Blk.below ?_ (by with_reducible assumption)) | (with_reducible refine Blk.drew ?_))))
  have HB1 := Lib.hid hb1
  clear e1 hb1
  refine (HS1.out _ (KS.st _ _ _ _ _ HT.out HB1.out) (KS.st _ _ _ _ _ HT2.out HB1.out)).mono ?_
  rintro r w2 ⟨v2, rfl, hk, hb2⟩
  obtain rfl := hk
  have HB2 := Lib.hid (HB1.out.trans (hb2.mono HB1.out.size))
  obtain ⟨a0, a1, a2, a3, a4, al, -⟩ := (ba.out.below hb2).o5
  obtain ⟨b0, b1, b2, b3, b4, bl, -⟩ := (bb.out.below hb2).o5
  clear hb2 HS1
  go_wp2_with (go_at_call 28; refine name_calls ?_; intro w3 e3; refine Hid.out ?_)
  unfold Hid
  have hb3 : Below w2.heap.size w2 w3 := by rw [e3]; exact bel
  have HB3 := Lib.hid (HB2.out.trans (hb3.mono HB2.out.size))
  clear e3 hb3 a0 a1 a2 a3 a4 al b0 b1 b2 b3 b4 bl
  refine (HS2.out _ (KS.st _ _ _ _ _ HG.out HB3.out) (KS.st _ _ _ _ _ HG2.out HB3.out)).mono ?_
  rintro r w4 ⟨v4, rfl, hk, hb4⟩
  obtain rfl := hk
  have HB4 := Lib.hid (HB3.out.trans (hb4.mono HB3.out.size))
  clear hb4
  go_wp2
  go_ret
  exact ⟨_, by first | rfl | (simp; done), rfl, HB4.out⟩
theorem textR_ok {lk ht rc : Int} {ts gs : List Int} (h : guardErr lk ht rc ts gs = 0) : textR lk ht rc ts gs = textG lk ht rc ts gs := if_pos h
end Go.Proofs.YtdeapbihbhoefaaGreatDoor

/- The reference's Steady, Quiet, Cool. -/
namespace Go.Proofs.YtdeapbihbhoefaaGreatDoor
open Go.RowKit
open Calm (bcell Blk)

end Go.Proofs.YtdeapbihbhoefaaGreatDoor

/- The reference's Behind. -/
namespace Go.Proofs.YtdeapbihbhoefaaGreatDoor
open Go.RowKit
open Calm (bcell Blk)

namespace RelH
open Rel (ons Know)
variable {DS : List Tmp} {w0 : World} {a0 : Act} {T : Ctx → Prop} {Γ : Ctx} {o : Oper} {rest : List Oper}
end RelH

end Go.Proofs.YtdeapbihbhoefaaGreatDoor

/- The reference's Tails. -/
namespace Go.Proofs.YtdeapbihbhoefaaGreatDoor
open Go.RowKit
open Calm (bcell Blk)
end Go.Proofs.YtdeapbihbhoefaaGreatDoor

/- The reference's Safe. -/
namespace Go.Proofs.YtdeapbihbhoefaaGreatDoor
open Go.RowKit
open Calm (bcell Blk)
end Go.Proofs.YtdeapbihbhoefaaGreatDoor

/- The reference's Permitted. -/
namespace Go.Proofs.YtdeapbihbhoefaaGreatDoor
open Go.RowKit
open Calm (bcell Blk)
namespace RelH
open Rel (ons Know)
variable {P : Program} {DS : List Tmp} {w0 : World} {a0 : Act} {T : Ctx → Prop} {Γ : Ctx} {o : Oper} {rest : List Oper}
end RelH
end Go.Proofs.YtdeapbihbhoefaaGreatDoor

/- The reference's Step. -/
namespace Go.Proofs.YtdeapbihbhoefaaGreatDoor
open Go.RowKit
open Calm (bcell Blk)
end Go.Proofs.YtdeapbihbhoefaaGreatDoor

/- The reference's Release. -/
namespace Go.Proofs.YtdeapbihbhoefaaGreatDoor
open Go.RowKit
open Calm (bcell Blk)

end Go.Proofs.YtdeapbihbhoefaaGreatDoor

/- Contracts of the program and of the reference as the cases of ProtectStates want them. -/
namespace Go.Proofs.YtdeapbihbhoefaaGreatDoor
open Go.RowKit
open Calm (bcell Blk)
section
variable {lk ht rc h lv x : Int} {ts gs l : List Int} {M L n : Nat} {a y : Value} {W : World} (hM : M = ts.length) (hL : L = gs.length) (hn : n = l.length) (h1 : M ≤ 1000) (h2 : L ≤ 1000) (h3 : n ≤ 1000) (hLim : Lim W) (hu : KG lk ht rc M ts L gs a W) (hv : KT h lv n l y W)
include hM hL hn h1 h2 h3 hLim hu hv
theorem xTails_ok (d0 : stErr lk ht rc ts gs h lv l = 0) : Calls Tryz.prog 20 #[a, y] W (KP (K2 (KS n (tailsF ts l)) (KV (.int .i64 0))) W) := by
  have e : tailR lk ht rc ts gs h lv l = tailsF ts l := if_pos d0
  have := cTails (N2 := n) hM hL hn h1 h2 h3 hLim hu hv (by rw [e, hn]; exact (tailsL_len _ _ _).symm)
  rwa [e, d0] at this
theorem xSafe_ok (d0 : stErr lk ht rc ts gs h lv l = 0) : Calls Tryz.prog 19 #[a, y] W (KP (K2 (KV (.bool (fineF ht rc h 0 ts l))) (KV (.int .i64 0))) W) := by
  have := cSafe hM hL hn h1 h2 h3 hLim hu hv
  rwa [show safeR lk ht rc ts gs h lv l = fineF ht rc h 0 ts l from if_pos d0, d0] at this
theorem xBehind_ok (d1 : bothErr lk ht rc ts gs h lv l x = 0) (d3 : ¬ 536870912 < coolF lk h + x * x) : Calls Tryz.prog 18 #[a, y, (.int .i64 x)] W (KP (K3 (KTI (coolF lk h + x * x) lv n (pushL l x)) (KV (.int .i64 (exF ts l x))) (KV (.int .i64 0))) W) := by
  have e : behR lk ht rc ts gs h lv l x = ⟨coolF lk h + x * x, lv, pushL l x, exF ts l x, 0⟩ := by unfold behR; rw [if_pos d1, if_neg d3]
  have := cBehind (y := x) (N2 := n) hM hL hn h1 h2 h3 hLim hu hv (by rw [e, hn]; exact (pushL_len _ _).symm)
  rwa [e] at this
end
end Go.Proofs.YtdeapbihbhoefaaGreatDoor

/- ProtectReads, case 0. -/
namespace Go.Proofs.YtdeapbihbhoefaaGreatDoor
open Go.RowKit
open Calm (bcell Blk)
set_option maxRecDepth 100000 in
set_option maxHeartbeats 8000000 in
theorem reads_0 (lk ht rc h lv : Int) (M L n : Nat) (ts gs l : List Int) (s : ByteArray) (u v : Value) (w : World) (hTab : RTab w) (hM : M = ts.length) (hL : L = gs.length) (hn : n = l.length) (b0 : ¬ (M ≤ 9 ∧ L ≤ 9)) (hu : KG lk ht rc M ts L gs u w) (hv : KT h lv n l v w) :
    Calls Tryz.prog 4 #[u, v, .string s] w fun r w' => r = .returned (.bool true) ∧ Below w.heap.size w w' := by
  obtain ⟨A1, c1, A2, c2, rfl, hT, hG⟩ := hu
  obtain ⟨A3, c3, rfl, hP⟩ := hv
  have HU := Lib.hid (show KG lk ht rc M ts L gs (.agg #[(.int .i64 lk), (.int .i64 ht), .slice A1 M c1, (.int .i64 rc), .slice A2 L c2]) w from ⟨_, _, _, _, rfl, hT, hG⟩)
  have HS := Lib.hid (show KT h lv n l (.agg #[(.int .i64 h), (.int .i64 lv), .slice A3 n c3]) w from ⟨_, _, rfl, hP⟩)
  have HSH : Hid (∀ W, KG lk ht rc M ts L gs (.agg #[(.int .i64 lk), (.int .i64 ht), .slice A1 M c1, (.int .i64 rc), .slice A2 L c2]) W → Calls Tryz.prog 5 #[.agg #[(.int .i64 lk), (.int .i64 ht), .slice A1 M c1, (.int .i64 rc), .slice A2 L c2]] W (KP (KV (.bool false)) W)) := Lib.hid (fun W q => by have := Short_K q; rwa [decide_eq_false b0] at this)
  have HTab := Lib.hid hTab
  clear hTab hM hL hn hT hG hP b0
  go_enter Tryz.func4, Tryz.ntmps4
  have HB0 := Lib.hid (Below.refl w.heap.size w)
  go_wp2_with (go_at_call 5; refine name_calls ?_; intro w1 e1; refine Hid.out ?_)
  unfold Hid
  have h1 : Below w.heap.size w w1 := by rw [e1]; exact bel
  have HB1 := Lib.hid (HB0.out.trans (h1.mono HB0.out.size))
  have bg_1 := Lib.hid (show Blk w1 w.heap.size #[(.int .i64 lk), (.int .i64 ht), .slice A1 M c1, (.int .i64 rc), .slice A2 L c2] from by rw [e1]; (repeat (first | ((with_reducible refine Blk.at_ ?_); focus (first | rfl | (simp; done) | (simp; omega))) | (with_reducible refine Blk.alloc ?_ _) | (with_reducible refine Blk.below ?_ (by with_reducible assumption)) | (with_reducible refine Blk.drew ?_))))
  have bs_1 := Lib.hid (show Blk w1 (w.heap.size + 1) #[(.int .i64 h), (.int .i64 lv), .slice A3 n c3] from by rw [e1]; (repeat (first | ((with_reducible refine Blk.at_ ?_); focus (first | rfl | (simp; done) | (simp; omega))) | (with_reducible refine Blk.alloc ?_ _) | (with_reducible refine Blk.below ?_ (by with_reducible assumption)) | (with_reducible refine Blk.drew ?_))))
  clear e1 h1
  refine (HSH.out _ (KG.st _ _ _ _ _ _ _ _ _ _ HU.out HB1.out)).mono ?_
  rintro r w2 ⟨v2, rfl, k2, h2⟩
  have bg_2 := Lib.hid (bg_1.out.below h2)
  have bs_2 := Lib.hid (bs_1.out.below h2)
  have HB2 := Lib.hid (HB1.out.trans (h2.mono HB1.out.size))
  obtain rfl := k2
  clear h2
  go_wp2_with (go_at_call 6; refine name_calls ?_; intro w3 e3; refine Hid.out ?_)
  unfold Hid
  have h3 : Below w2.heap.size w2 w3 := by rw [e3]; exact bel
  have bg_3 := Lib.hid (bg_2.out.below h3)
  have bs_3 := Lib.hid (bs_2.out.below h3)
  have HB3 := Lib.hid (HB2.out.trans (h3.mono HB2.out.size))
  clear e3 h3
  refine (awake_any _ (HTab.out.below HB3.out).tab).mono ?_
  rintro r w4 ⟨rfl, h4⟩
  have HB4 := Lib.hid (HB3.out.trans (h4.mono HB3.out.size))
  clear h4
  go_wp2
  go_ret
  exact ⟨by first | rfl | (simp; done), HB4.out⟩
end Go.Proofs.YtdeapbihbhoefaaGreatDoor

/- ProtectReads, case 1. -/
namespace Go.Proofs.YtdeapbihbhoefaaGreatDoor
open Go.RowKit
open Calm (bcell Blk)
set_option maxRecDepth 100000 in
set_option maxHeartbeats 8000000 in
theorem reads_1 (lk ht rc h lv : Int) (M L n : Nat) (ts gs l : List Int) (s : ByteArray) (u v : Value) (w : World) (hTab : RTab w) (hM : M = ts.length) (hL : L = gs.length) (hn : n = l.length) (b0 : M ≤ 9 ∧ L ≤ 9) (b1 : ¬ n ≤ 9) (hu : KG lk ht rc M ts L gs u w) (hv : KT h lv n l v w) :
    Calls Tryz.prog 4 #[u, v, .string s] w fun r w' => r = .returned (.bool true) ∧ Below w.heap.size w w' := by
  obtain ⟨A1, c1, A2, c2, rfl, hT, hG⟩ := hu
  obtain ⟨A3, c3, rfl, hP⟩ := hv
  have HU := Lib.hid (show KG lk ht rc M ts L gs (.agg #[(.int .i64 lk), (.int .i64 ht), .slice A1 M c1, (.int .i64 rc), .slice A2 L c2]) w from ⟨_, _, _, _, rfl, hT, hG⟩)
  have HS := Lib.hid (show KT h lv n l (.agg #[(.int .i64 h), (.int .i64 lv), .slice A3 n c3]) w from ⟨_, _, rfl, hP⟩)
  have HSH : Hid (∀ W, KG lk ht rc M ts L gs (.agg #[(.int .i64 lk), (.int .i64 ht), .slice A1 M c1, (.int .i64 rc), .slice A2 L c2]) W → Calls Tryz.prog 5 #[.agg #[(.int .i64 lk), (.int .i64 ht), .slice A1 M c1, (.int .i64 rc), .slice A2 L c2]] W (KP (KV (.bool true)) W)) := Lib.hid (fun W q => by have := Short_K q; rwa [decide_eq_true b0] at this)
  have HSS : Hid (∀ W, KT h lv n l (.agg #[(.int .i64 h), (.int .i64 lv), .slice A3 n c3]) W → Calls Tryz.prog 15 #[.agg #[(.int .i64 h), (.int .i64 lv), .slice A3 n c3]] W (KP (KV (.bool false)) W)) := Lib.hid (fun W q => by have := ShortState_K q; rwa [decide_eq_false b1] at this)
  have HTab := Lib.hid hTab
  clear hTab hM hL hn hT hG hP b1
  go_enter Tryz.func4, Tryz.ntmps4
  have HB0 := Lib.hid (Below.refl w.heap.size w)
  go_wp2_with (go_at_call 5; refine name_calls ?_; intro w1 e1; refine Hid.out ?_)
  unfold Hid
  have h1 : Below w.heap.size w w1 := by rw [e1]; exact bel
  have HB1 := Lib.hid (HB0.out.trans (h1.mono HB0.out.size))
  have bg_1 := Lib.hid (show Blk w1 w.heap.size #[(.int .i64 lk), (.int .i64 ht), .slice A1 M c1, (.int .i64 rc), .slice A2 L c2] from by rw [e1]; (repeat (first | ((with_reducible refine Blk.at_ ?_); focus (first | rfl | (simp; done) | (simp; omega))) | (with_reducible refine Blk.alloc ?_ _) | (with_reducible refine Blk.below ?_ (by with_reducible assumption)) | (with_reducible refine Blk.drew ?_))))
  have bs_1 := Lib.hid (show Blk w1 (w.heap.size + 1) #[(.int .i64 h), (.int .i64 lv), .slice A3 n c3] from by rw [e1]; (repeat (first | ((with_reducible refine Blk.at_ ?_); focus (first | rfl | (simp; done) | (simp; omega))) | (with_reducible refine Blk.alloc ?_ _) | (with_reducible refine Blk.below ?_ (by with_reducible assumption)) | (with_reducible refine Blk.drew ?_))))
  clear e1 h1
  refine (HSH.out _ (KG.st _ _ _ _ _ _ _ _ _ _ HU.out HB1.out)).mono ?_
  rintro r w2 ⟨v2, rfl, k2, h2⟩
  have bg_2 := Lib.hid (bg_1.out.below h2)
  have bs_2 := Lib.hid (bs_1.out.below h2)
  have HB2 := Lib.hid (HB1.out.trans (h2.mono HB1.out.size))
  obtain rfl := k2
  clear h2
  obtain ⟨fbs_0, fbs_1, fbs_2, fbs_l, -⟩ := bs_2.out.o3
  go_wp2_with (go_at_call 15; refine name_calls ?_; intro w3 e3; refine Hid.out ?_)
  unfold Hid
  have h3 : Below w2.heap.size w2 w3 := by rw [e3]; exact bel
  have bg_3 := Lib.hid (bg_2.out.below h3)
  have bs_3 := Lib.hid (bs_2.out.below h3)
  have HB3 := Lib.hid (HB2.out.trans (h3.mono HB2.out.size))
  clear e3 h3
  refine (HSS.out _ (KT.st _ _ _ _ _ _ _ HS.out HB3.out)).mono ?_
  rintro r w4 ⟨v4, rfl, k4, h4⟩
  have bg_4 := Lib.hid (bg_3.out.below h4)
  have bs_4 := Lib.hid (bs_3.out.below h4)
  have HB4 := Lib.hid (HB3.out.trans (h4.mono HB3.out.size))
  obtain rfl := k4
  clear h4
  clear fbs_0 fbs_1 fbs_2 fbs_l
  go_wp2_with (go_at_call 6; refine name_calls ?_; intro w5 e5; refine Hid.out ?_)
  unfold Hid
  have h5 : Below w4.heap.size w4 w5 := by rw [e5]; exact bel
  have bg_5 := Lib.hid (bg_4.out.below h5)
  have bs_5 := Lib.hid (bs_4.out.below h5)
  have HB5 := Lib.hid (HB4.out.trans (h5.mono HB4.out.size))
  clear e5 h5
  refine (awake_any _ (HTab.out.below HB5.out).tab).mono ?_
  rintro r w6 ⟨rfl, h6⟩
  have HB6 := Lib.hid (HB5.out.trans (h6.mono HB5.out.size))
  clear h6
  go_wp2
  go_ret
  exact ⟨by first | rfl | (simp; done), HB6.out⟩
end Go.Proofs.YtdeapbihbhoefaaGreatDoor

/- ProtectReads, case 2. -/
namespace Go.Proofs.YtdeapbihbhoefaaGreatDoor
open Go.RowKit
open Calm (bcell Blk)
set_option maxRecDepth 100000 in
set_option maxHeartbeats 8000000 in
theorem reads_2 (lk ht rc h lv : Int) (M L n : Nat) (ts gs l : List Int) (s : ByteArray) (u v : Value) (w : World) (hTab : RTab w) (hM : M = ts.length) (hL : L = gs.length) (hn : n = l.length) (b0 : M ≤ 9 ∧ L ≤ 9) (b1 : n ≤ 9) (b2 : ¬ s.size ≤ 300) (hu : KG lk ht rc M ts L gs u w) (hv : KT h lv n l v w) :
    Calls Tryz.prog 4 #[u, v, .string s] w fun r w' => r = .returned (.bool true) ∧ Below w.heap.size w w' := by
  obtain ⟨A1, c1, A2, c2, rfl, hT, hG⟩ := hu
  obtain ⟨A3, c3, rfl, hP⟩ := hv
  have HU := Lib.hid (show KG lk ht rc M ts L gs (.agg #[(.int .i64 lk), (.int .i64 ht), .slice A1 M c1, (.int .i64 rc), .slice A2 L c2]) w from ⟨_, _, _, _, rfl, hT, hG⟩)
  have HS := Lib.hid (show KT h lv n l (.agg #[(.int .i64 h), (.int .i64 lv), .slice A3 n c3]) w from ⟨_, _, rfl, hP⟩)
  have HSH : Hid (∀ W, KG lk ht rc M ts L gs (.agg #[(.int .i64 lk), (.int .i64 ht), .slice A1 M c1, (.int .i64 rc), .slice A2 L c2]) W → Calls Tryz.prog 5 #[.agg #[(.int .i64 lk), (.int .i64 ht), .slice A1 M c1, (.int .i64 rc), .slice A2 L c2]] W (KP (KV (.bool true)) W)) := Lib.hid (fun W q => by have := Short_K q; rwa [decide_eq_true b0] at this)
  have HSS : Hid (∀ W, KT h lv n l (.agg #[(.int .i64 h), (.int .i64 lv), .slice A3 n c3]) W → Calls Tryz.prog 15 #[.agg #[(.int .i64 h), (.int .i64 lv), .slice A3 n c3]] W (KP (KV (.bool true)) W)) := Lib.hid (fun W q => by have := ShortState_K q; rwa [decide_eq_true b1] at this)
  have hl3 : (300 : Int) < (s.size : Int) := by omega
  have hd3 : decide ((300 : Int) < (s.size : Int)) = true := decide_eq_true hl3
  have HTab := Lib.hid hTab
  clear hTab hM hL hn hT hG hP b1 b2
  go_enter Tryz.func4, Tryz.ntmps4
  have HB0 := Lib.hid (Below.refl w.heap.size w)
  go_wp2_with (go_at_call 5; refine name_calls ?_; intro w1 e1; refine Hid.out ?_)
  unfold Hid
  have h1 : Below w.heap.size w w1 := by rw [e1]; exact bel
  have HB1 := Lib.hid (HB0.out.trans (h1.mono HB0.out.size))
  have bg_1 := Lib.hid (show Blk w1 w.heap.size #[(.int .i64 lk), (.int .i64 ht), .slice A1 M c1, (.int .i64 rc), .slice A2 L c2] from by rw [e1]; (repeat (first | ((with_reducible refine Blk.at_ ?_); focus (first | rfl | (simp; done) | (simp; omega))) | (with_reducible refine Blk.alloc ?_ _) | (with_reducible refine Blk.below ?_ (by with_reducible assumption)) | (with_reducible refine Blk.drew ?_))))
  have bs_1 := Lib.hid (show Blk w1 (w.heap.size + 1) #[(.int .i64 h), (.int .i64 lv), .slice A3 n c3] from by rw [e1]; (repeat (first | ((with_reducible refine Blk.at_ ?_); focus (first | rfl | (simp; done) | (simp; omega))) | (with_reducible refine Blk.alloc ?_ _) | (with_reducible refine Blk.below ?_ (by with_reducible assumption)) | (with_reducible refine Blk.drew ?_))))
  clear e1 h1
  refine (HSH.out _ (KG.st _ _ _ _ _ _ _ _ _ _ HU.out HB1.out)).mono ?_
  rintro r w2 ⟨v2, rfl, k2, h2⟩
  have bg_2 := Lib.hid (bg_1.out.below h2)
  have bs_2 := Lib.hid (bs_1.out.below h2)
  have HB2 := Lib.hid (HB1.out.trans (h2.mono HB1.out.size))
  obtain rfl := k2
  clear h2
  obtain ⟨fbs_0, fbs_1, fbs_2, fbs_l, -⟩ := bs_2.out.o3
  go_wp2_with (go_at_call 15; refine name_calls ?_; intro w3 e3; refine Hid.out ?_)
  unfold Hid
  have h3 : Below w2.heap.size w2 w3 := by rw [e3]; exact bel
  have bg_3 := Lib.hid (bg_2.out.below h3)
  have bs_3 := Lib.hid (bs_2.out.below h3)
  have HB3 := Lib.hid (HB2.out.trans (h3.mono HB2.out.size))
  clear e3 h3
  refine (HSS.out _ (KT.st _ _ _ _ _ _ _ HS.out HB3.out)).mono ?_
  rintro r w4 ⟨v4, rfl, k4, h4⟩
  have bg_4 := Lib.hid (bg_3.out.below h4)
  have bs_4 := Lib.hid (bs_3.out.below h4)
  have HB4 := Lib.hid (HB3.out.trans (h4.mono HB3.out.size))
  obtain rfl := k4
  clear h4
  clear fbs_0 fbs_1 fbs_2 fbs_l
  go_wp2_with (go_at_call 6; refine name_calls ?_; intro w5 e5; refine Hid.out ?_)
  unfold Hid
  have h5 : Below w4.heap.size w4 w5 := by rw [e5]; exact bel
  have bg_5 := Lib.hid (bg_4.out.below h5)
  have bs_5 := Lib.hid (bs_4.out.below h5)
  have HB5 := Lib.hid (HB4.out.trans (h5.mono HB4.out.size))
  clear e5 h5
  refine (awake_any _ (HTab.out.below HB5.out).tab).mono ?_
  rintro r w6 ⟨rfl, h6⟩
  have HB6 := Lib.hid (HB5.out.trans (h6.mono HB5.out.size))
  clear h6
  go_wp2
  go_ret
  exact ⟨by first | rfl | (simp; done), HB6.out⟩
end Go.Proofs.YtdeapbihbhoefaaGreatDoor
