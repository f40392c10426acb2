/- Part 20 of the texts of the claim: AwP. -/
import Derived.Test.YtdeapbihbhoefaaGreatDoorMr19

/- awake() answers yes. -/
namespace Go.Proofs.YtdeapbihbhoefaaGreatDoor
open Go.RowKit
open Calm (bcell Blk)
set_option maxRecDepth 100000 in
set_option maxHeartbeats 16000000 in
theorem awake_any (w : World) (hTab : PTab w) : Calls Tryz.prog 6 #[] w fun r w' => r = .returned (.bool true) ∧ Below w.heap.size w w' := by
  have HTab := Lib.hid hTab
  clear hTab
  go_enter Tryz.func6, Tryz.ntmps6
  have HB0 := Lib.hid (Below.refl w.heap.size w)
  go_wp2_with (go_at_call 23; refine name_calls ?_; intro w1 e1; refine Hid.out ?_)
  unfold Hid
  have h1 : Below w.heap.size w w1 := by rw [e1]; (repeat (first | (with_reducible exact Below.refl _ _) | ((with_reducible refine Below.setCell ?_ ?_ _); rotate_left 1; (focus (first | (simp; done) | (simp; omega) | (simp at *; omega)))) | ((with_reducible refine Below.alloc ?_ ?_ _); rotate_left 1; (focus (first | (simp; done) | (simp; omega) | (simp at *; omega))))))
  have HB1 := Lib.hid (HB0.out.trans (h1.mono HB0.out.size))
  clear e1 h1
  refine (usual_K _).mono ?_
  rintro r w2 ⟨v2, rfl, k2, h2⟩
  have HB2 := Lib.hid (HB1.out.trans (h2.mono HB1.out.size))
  have g_2 := Lib.hid k2
  clear k2 h2
  go_wp2_with (go_at_call 22; refine name_calls ?_; intro w3 e3; refine Hid.out ?_)
  unfold Hid
  have h3 : Below w2.heap.size w2 w3 := by rw [e3]; (repeat (first | (with_reducible exact Below.refl _ _) | ((with_reducible refine Below.setCell ?_ ?_ _); rotate_left 1; (focus (first | (simp; done) | (simp; omega) | (simp at *; omega)))) | ((with_reducible refine Below.alloc ?_ ?_ _); rotate_left 1; (focus (first | (simp; done) | (simp; omega) | (simp at *; omega))))))
  have g_3 := Lib.hid ((KGI.ik _ _ _ _ _ _ _).st _ _ _ g_2.out h3)
  have HB3 := Lib.hid (HB2.out.trans (h3.mono HB2.out.size))
  clear e3 h3
  refine (aw_begin g_3.out.kg).mono ?_
  rintro r w4 ⟨v4, rfl, k4, h4⟩
  have g_4 := Lib.hid ((KGI.ik _ _ _ _ _ _ _).st _ _ _ g_3.out h4)
  have HB4 := Lib.hid (HB3.out.trans (h4.mono HB3.out.size))
  obtain ⟨_, _, rfl, ⟨B4, c4, rfl, hc4, hi4⟩, rfl⟩ := k4
  have s_4 := Lib.hid (show KTI 0 2 1 [0] (.agg #[(.int .i64 0), (.int .i64 2), .slice B4 1 c4]) w4 from ⟨_, _, rfl, hc4, hi4⟩)
  have hIs := Lib.hid hi4
  clear hc4 hi4 h4
  go_wp2
  refine name_world ?_
  intro w5 e5
  have h5 : Below w4.heap.size w4 w5 := by rw [e5]; (repeat (first | (with_reducible exact Below.refl _ _) | ((with_reducible refine Below.setCell ?_ ?_ _); rotate_left 1; (focus (first | (simp; done) | (simp; omega) | (simp at *; omega)))) | ((with_reducible refine Below.alloc ?_ ?_ _); rotate_left 1; (focus (first | (simp; done) | (simp; omega) | (simp at *; omega))))))
  have s_5 := Lib.hid (KTI.st _ _ _ _ _ _ _ s_4.out h5)
  have HB5 := Lib.hid (HB4.out.trans (h5.mono HB4.out.size))
  have bs_5 := Lib.hid (show Blk w5 w4.heap.size #[(.int .i64 0), (.int .i64 2), .slice B4 1 c4] from by rw [e5]; exact Calm.Blk.new _ _ _)
  clear e5 h5
  obtain ⟨fbs_0, fbs_1, fbs_2, fbs_l, -⟩ := bs_5.out.o3
  refine RelH.region3 (S := Sty 45 (KTI 36 2 1 [6]) w5.heap.size) (Sty.trans (KTI.ik _ _ _ _)) (Sty.drawn (by decide)) 10 (by kernel_rfl) (by kernel_rfl) (by kernel_rfl) ?_
  simp only [List.take_succ_cons, List.take_zero, List.drop_succ_cons, List.drop_zero, List.filterMap_cons, List.filterMap_nil]
  refine RelH.callH (fun _ _ h => h.keep) (fun _ _ h => Sty.of (by decide) h) 23 (KGI 1 100 20 2 [1, 2] 3 [0, 8, 16]) (KGI.ik _ _ _ _ _ _ _) (RelH.gno rfl) ?_ ?_
  · intro a W x hS hd hbase
    have hb := hS.below (Nat.le_refl _)
    refine ⟨#[], ?_, usual_K _⟩
    clear hd hbase hb hS
    go_simp
    (first | done | rfl | (refine ⟨?_, ?_⟩ <;> rfl))
  (try simp only [List.nil_append, List.cons_append])
  (apply RelH.op3 (Sty.refl (by decide)); (focus (first | exact RelH.gno rfl | exact RelH.gyes _ true _ rfl rfl rfl | exact RelH.gyes _ false _ rfl rfl rfl)); (focus (intro a W x hS hd hbase; have hb := hS.below (Nat.le_refl _); clear hS; obtain ⟨hc, hf⟩ := bcell hb; clear hb hf; simp [RelH.deps, RelH.dep1, Rel.ons, Region.binds, Act.eval, KV] at hd; simp only [Act.eval, List.mem_cons, List.not_mem_nil, not_or, and_imp, or_false, Array.getD_eq_getD_getElem?] at hbase; go_simp; (try go_bits); (try rfl); done)); (try simp only [List.nil_append, List.cons_append]))
  refine RelH.callH (fun _ _ h => h.keep) (fun _ _ h => Sty.of (by decide) h) 18 (K3 (KTI 36 2 1 [6]) (KV (.int .i64 6)) (KV (.int .i64 0))) (K3.ik (KTI.ik _ _ _ _) (KV.ik _) (KV.ik _)) (RelH.gno rfl) ?_ ?_
  · intro a W x hS hd hbase
    have hb := hS.below (Nat.le_refl _)
    have q0 := (RelH.dep_k hd 0 rfl rfl)
    have q1 : a.eval (.tmp 45) = _ := (RelH.dep_k hd 1 rfl rfl)
    refine ⟨#[a.eval (.tmp 44), a.eval (.tmp 45), (.int .i64 6)], ?_, by rw [q1]; exact aw_behind (HTab.out.lim.below (HB5.out.trans (hb.mono HB5.out.size))) q0.kg (KTI.st _ _ _ _ _ _ _ s_5.out hb).kt⟩
    clear hd hbase hb hS
    go_simp
    (first | done | rfl | (refine ⟨?_, ?_⟩ <;> rfl))
  (try simp only [List.nil_append, List.cons_append])
  refine RelH.mvH (Sty.refl (by decide)) (fun _ _ h => h.keep) 46 2 rfl rfl rfl (K3.ik (KTI.ik _ _ _ _) (KV.ik _) (KV.ik _)) (RelH.gno rfl) ?_
  (try simp only [List.nil_append, List.cons_append])
  refine RelH.ext30H (Sty.refl (by decide)) (fun _ _ h => h.keep) 43 3 rfl rfl rfl (KTI.ik _ _ _ _) (RelH.gno rfl) ?_
  (try simp only [List.nil_append, List.cons_append])
  refine RelH.ext31H (Sty.refl (by decide)) (fun _ _ h => h.keep) 43 3 rfl rfl rfl (KV.ik _) (RelH.gno rfl) ?_
  (try simp only [List.nil_append, List.cons_append])
  refine RelH.ext32H (Sty.refl (by decide)) (fun _ _ h => h.keep) 43 3 rfl rfl rfl (KV.ik _) (RelH.gno rfl) ?_
  (try simp only [List.nil_append, List.cons_append])
  (refine RelH.allocH (by decide) (n := 3) (fun cs W h => by obtain ⟨_, _, e, _⟩ := h; cases e; rfl) #[(.int .i64 0), (.int .i64 0), .slice none 0 0] rfl (RelH.gno rfl) (by intro a W; go_simp) ?_; (try simp only [List.nil_append, List.cons_append]))
  refine RelH.storeH 3 47 7 4 rfl rfl rfl rfl rfl (RelH.gno rfl) ?_
  (try simp only [List.nil_append, List.cons_append])
  (apply RelH.op3 (Sty.refl (by decide)); (focus (first | exact RelH.gno rfl | exact RelH.gyes _ true _ rfl rfl rfl | exact RelH.gyes _ false _ rfl rfl rfl)); (focus (intro a W x hS hd hbase; have hb := hS.below (Nat.le_refl _); clear hS; obtain ⟨hc, hf⟩ := bcell hb; clear hb hf; simp [RelH.deps, RelH.dep1, Rel.ons, Region.binds, Act.eval, KV] at hd; simp only [Act.eval, List.mem_cons, List.not_mem_nil, not_or, and_imp, or_false, Array.getD_eq_getD_getElem?] at hbase; go_simp; (try go_bits); (try rfl); done)); (try simp only [List.nil_append, List.cons_append]))
  refine RelH.done3 ?_
  intro x w6 hS6 hx
  have h6 := hS6.below (Nat.le_refl _)
  clear hS6
  simp only [RelH.facts, Nat.zero_add, Nat.reduceAdd] at hx
  obtain ⟨_, e1, _, _, _, e5, e6, _, ⟨gb6, e7, hg6, cs6, hG6, B6, c6, ec6, hc6, hi6⟩, e9, _⟩ := hx
  have e5 : x 5 = _ := e5
  have e6 : x 6 = _ := e6
  cases ec6
  simp only [RelH.fill, Nat.zero_add, Nat.reduceAdd, e1, e5, e6, e7, e9]
  simp only [Act.put, List.setIfInBounds_toArray, List.set_cons_zero, List.set_cons_succ]
  clear e1 e5 e6 e7 e9
  have s_6 := Lib.hid (KTI.st _ _ _ _ _ _ _ s_5.out h6)
  have bs_6 := Lib.hid (bs_5.out.below h6)
  have HB6 := Lib.hid (HB5.out.trans (h6.mono HB5.out.size))
  have ba_6 := Lib.hid (show Blk w6 gb6 #[(.int .i64 36), (.int .i64 2), .slice B6 1 c6] from Calm.Blk.row hG6)
  have a_6 := Lib.hid (show KTI 36 2 1 [6] (.agg #[(.int .i64 36), (.int .i64 2), .slice B6 1 c6]) w6 from ⟨_, _, rfl, hc6, hi6⟩)
  clear hc6 hi6 hG6 hg6 h6
  clear fbs_0 fbs_1 fbs_2 fbs_l
  go_wp2
  obtain ⟨fbs_0, fbs_1, fbs_2, fbs_l, -⟩ := bs_6.out.o3
  refine RelH.region3 (S := Sty 45 (KTI 121 2 1 [11]) w6.heap.size) (Sty.trans (KTI.ik _ _ _ _)) (Sty.drawn (by decide)) 10 (by kernel_rfl) (by kernel_rfl) (by kernel_rfl) ?_
  simp only [List.take_succ_cons, List.take_zero, List.drop_succ_cons, List.drop_zero, List.filterMap_cons, List.filterMap_nil]
  refine RelH.callH (fun _ _ h => h.keep) (fun _ _ h => Sty.of (by decide) h) 23 (KGI 1 100 20 2 [1, 2] 3 [0, 8, 16]) (KGI.ik _ _ _ _ _ _ _) (RelH.gno rfl) ?_ ?_
  · intro a W x hS hd hbase
    have hb := hS.below (Nat.le_refl _)
    refine ⟨#[], ?_, usual_K _⟩
    clear hd hbase hb hS
    go_simp
    (first | done | rfl | (refine ⟨?_, ?_⟩ <;> rfl))
  (try simp only [List.nil_append, List.cons_append])
  (apply RelH.op3 (Sty.refl (by decide)); (focus (first | exact RelH.gno rfl | exact RelH.gyes _ true _ rfl rfl rfl | exact RelH.gyes _ false _ rfl rfl rfl)); (focus (intro a W x hS hd hbase; have hb := hS.below (Nat.le_refl _); clear hS; obtain ⟨hc, hf⟩ := bcell hb; clear hb hf; simp [RelH.deps, RelH.dep1, Rel.ons, Region.binds, Act.eval, KV] at hd; simp only [Act.eval, List.mem_cons, List.not_mem_nil, not_or, and_imp, or_false, Array.getD_eq_getD_getElem?] at hbase; go_simp; (try go_bits); (try rfl); done)); (try simp only [List.nil_append, List.cons_append]))
  refine RelH.callH (fun _ _ h => h.keep) (fun _ _ h => Sty.of (by decide) h) 18 (K3 (KTI 121 2 1 [11]) (KV (.int .i64 11)) (KV (.int .i64 0))) (K3.ik (KTI.ik _ _ _ _) (KV.ik _) (KV.ik _)) (RelH.gno rfl) ?_ ?_
  · intro a W x hS hd hbase
    have hb := hS.below (Nat.le_refl _)
    have q0 := (RelH.dep_k hd 0 rfl rfl)
    have q1 : a.eval (.tmp 52) = _ := (RelH.dep_k hd 1 rfl rfl)
    refine ⟨#[a.eval (.tmp 51), a.eval (.tmp 52), (.int .i64 11)], ?_, by rw [q1]; exact aw_behind2 (HTab.out.lim.below (HB6.out.trans (hb.mono HB6.out.size))) q0.kg (KTI.st _ _ _ _ _ _ _ s_6.out hb).kt⟩
    clear hd hbase hb hS
    go_simp
    (first | done | rfl | (refine ⟨?_, ?_⟩ <;> rfl))
  (try simp only [List.nil_append, List.cons_append])
  refine RelH.mvH (Sty.refl (by decide)) (fun _ _ h => h.keep) 53 2 rfl rfl rfl (K3.ik (KTI.ik _ _ _ _) (KV.ik _) (KV.ik _)) (RelH.gno rfl) ?_
  (try simp only [List.nil_append, List.cons_append])
  refine RelH.ext30H (Sty.refl (by decide)) (fun _ _ h => h.keep) 50 3 rfl rfl rfl (KTI.ik _ _ _ _) (RelH.gno rfl) ?_
  (try simp only [List.nil_append, List.cons_append])
  refine RelH.ext31H (Sty.refl (by decide)) (fun _ _ h => h.keep) 50 3 rfl rfl rfl (KV.ik _) (RelH.gno rfl) ?_
  (try simp only [List.nil_append, List.cons_append])
  refine RelH.ext32H (Sty.refl (by decide)) (fun _ _ h => h.keep) 50 3 rfl rfl rfl (KV.ik _) (RelH.gno rfl) ?_
  (try simp only [List.nil_append, List.cons_append])
  (refine RelH.allocH (by decide) (n := 3) (fun cs W h => by obtain ⟨_, _, e, _⟩ := h; cases e; rfl) #[(.int .i64 0), (.int .i64 0), .slice none 0 0] rfl (RelH.gno rfl) (by intro a W; go_simp) ?_; (try simp only [List.nil_append, List.cons_append]))
  refine RelH.storeH 6 54 7 4 rfl rfl rfl rfl rfl (RelH.gno rfl) ?_
  (try simp only [List.nil_append, List.cons_append])
  (apply RelH.op3 (Sty.refl (by decide)); (focus (first | exact RelH.gno rfl | exact RelH.gyes _ true _ rfl rfl rfl | exact RelH.gyes _ false _ rfl rfl rfl)); (focus (intro a W x hS hd hbase; have hb := hS.below (Nat.le_refl _); clear hS; obtain ⟨hc, hf⟩ := bcell hb; clear hb hf; simp [RelH.deps, RelH.dep1, Rel.ons, Region.binds, Act.eval, KV] at hd; simp only [Act.eval, List.mem_cons, List.not_mem_nil, not_or, and_imp, or_false, Array.getD_eq_getD_getElem?] at hbase; go_simp; (try go_bits); (try rfl); done)); (try simp only [List.nil_append, List.cons_append]))
  refine RelH.done3 ?_
  intro x w7 hS7 hx
  have h7 := hS7.below (Nat.le_refl _)
  clear hS7
  simp only [RelH.facts, Nat.zero_add, Nat.reduceAdd] at hx
  obtain ⟨_, e1, _, _, _, e5, e6, _, ⟨gb7, e7, hg7, cs7, hG7, B7, c7, ec7, hc7, hi7⟩, e9, _⟩ := hx
  have e5 : x 5 = _ := e5
  have e6 : x 6 = _ := e6
  cases ec7
  simp only [RelH.fill, Nat.zero_add, Nat.reduceAdd, e1, e5, e6, e7, e9]
  simp only [Act.put, List.setIfInBounds_toArray, List.set_cons_zero, List.set_cons_succ]
  clear e1 e5 e6 e7 e9
  have s_7 := Lib.hid (KTI.st _ _ _ _ _ _ _ s_6.out h7)
  have a_7 := Lib.hid (KTI.st _ _ _ _ _ _ _ a_6.out h7)
  have bs_7 := Lib.hid (bs_6.out.below h7)
  have ba_7 := Lib.hid (ba_6.out.below h7)
  have HB7 := Lib.hid (HB6.out.trans (h7.mono HB6.out.size))
  have bb_7 := Lib.hid (show Blk w7 gb7 #[(.int .i64 121), (.int .i64 2), .slice B7 1 c7] from Calm.Blk.row hG7)
  have b_7 := Lib.hid (show KTI 121 2 1 [11] (.agg #[(.int .i64 121), (.int .i64 2), .slice B7 1 c7]) w7 from ⟨_, _, rfl, hc7, hi7⟩)
  clear hc7 hi7 hG7 hg7 h7
  clear fbs_0 fbs_1 fbs_2 fbs_l
  go_wp2
  obtain ⟨fba_0, fba_1, fba_2, fba_l, -⟩ := ba_7.out.o3
  refine Rel.region3 7 (by kernel_rfl) (by kernel_rfl) (by kernel_rfl) ?_
  simp only [List.take_succ_cons, List.take_zero, List.drop_succ_cons, List.drop_zero, List.filterMap_cons, List.filterMap_nil]
  refine Rel.callK 23 (KGI 1 100 20 2 [1, 2] 3 [0, 8, 16]) ((KGI.ik _ _ _ _ _ _ _).st) (Rel.gno rfl) ?_ ?_
  · intro a W hb hd hbase
    refine ⟨#[], ?_, usual_K _⟩
    clear hd hbase hb
    go_simp
    (first | done | rfl | (refine ⟨?_, ?_⟩ <;> rfl))
  (try simp only [List.nil_append, List.cons_append])
  (apply Rel.op3; (focus (first | exact Rel.gno rfl | exact Rel.gyes _ true _ rfl rfl rfl | exact Rel.gyes _ false _ rfl rfl rfl)); (focus (intro a W hb hd hbase; obtain ⟨hc, hf⟩ := bcell hb; clear hb hf; simp [Rel.deps, Rel.dep1, Rel.ons, Region.binds, Act.eval, KV] at hd; simp only [Act.eval, List.mem_cons, List.not_mem_nil, not_or, and_imp, or_false, Array.getD_eq_getD_getElem?] at hbase; go_simp; (try go_bits); (try rfl); done)); (try simp only [List.nil_append, List.cons_append]))
  refine Rel.callK 20 (K2 (KS 1 [12]) (KV (.int .i64 0))) (K2.st (KS.st _ _) (KV.st _)) (Rel.gno rfl) ?_ ?_
  · intro a W hb hd hbase
    have q0 := (Rel.dep_at hd 0 rfl rfl)
    have q1 : a.eval (.tmp 59) = _ := (Rel.dep_at hd 1 rfl rfl)
    refine ⟨#[a.eval (.tmp 58), a.eval (.tmp 59)], ?_, by rw [q1]; exact aw_tails (HTab.out.lim.below (HB7.out.trans (hb.mono HB7.out.size))) q0.kg (KTI.st _ _ _ _ _ _ _ a_7.out hb).kt⟩
    clear hd hbase hb
    go_simp
    (first | done | rfl | (refine ⟨?_, ?_⟩ <;> rfl))
  (try simp only [List.nil_append, List.cons_append])
  refine Rel.mvK 60 2 rfl rfl rfl (K2.st (KS.st _ _) (KV.st _)) (Rel.gno rfl) ?_
  (try simp only [List.nil_append, List.cons_append])
  refine Rel.ext20 57 3 rfl rfl rfl (KS.st _ _) (Rel.gno rfl) ?_
  (try simp only [List.nil_append, List.cons_append])
  refine Rel.ext21 57 3 rfl rfl rfl (KV.st _) (Rel.gno rfl) ?_
  (try simp only [List.nil_append, List.cons_append])
  refine Rel.asgK 61 4 rfl rfl rfl (KS.st _ _) (Rel.gno rfl) ?_
  (try simp only [List.nil_append, List.cons_append])
  refine Rel.done3 ?_
  intro x w8 h8 hx
  simp only [Rel.facts, Nat.zero_add, Nat.reduceAdd] at hx
  obtain ⟨_, e1, _, _, _, e5, ⟨B8, c8, e6, hc8⟩, _⟩ := hx
  have e5 : x 5 = _ := e5
  simp only [Rel.fill, Nat.zero_add, Nat.reduceAdd, e1, e5, e6]
  simp only [Act.put, List.setIfInBounds_toArray, List.set_cons_zero, List.set_cons_succ]
  clear e1 e5 e6
  have s_8 := Lib.hid (KTI.st _ _ _ _ _ _ _ s_7.out h8)
  have a_8 := Lib.hid (KTI.st _ _ _ _ _ _ _ a_7.out h8)
  have b_8 := Lib.hid (KTI.st _ _ _ _ _ _ _ b_7.out h8)
  have bs_8 := Lib.hid (bs_7.out.below h8)
  have ba_8 := Lib.hid (ba_7.out.below h8)
  have bb_8 := Lib.hid (bb_7.out.below h8)
  have HB8 := Lib.hid (HB7.out.trans (h8.mono HB7.out.size))
  have t_8 := Lib.hid (show KS 1 [12] (.slice B8 1 c8) w8 from ⟨_, _, rfl, hc8⟩)
  clear hc8 h8
  clear fba_0 fba_1 fba_2 fba_l
  go_wp2
  obtain ⟨fbb_0, fbb_1, fbb_2, fbb_l, -⟩ := bb_8.out.o3
  refine Rel.region3 7 (by kernel_rfl) (by kernel_rfl) (by kernel_rfl) ?_
  simp only [List.take_succ_cons, List.take_zero, List.drop_succ_cons, List.drop_zero, List.filterMap_cons, List.filterMap_nil]
  refine Rel.callK 23 (KGI 1 100 20 2 [1, 2] 3 [0, 8, 16]) ((KGI.ik _ _ _ _ _ _ _).st) (Rel.gno rfl) ?_ ?_
  · intro a W hb hd hbase
    refine ⟨#[], ?_, usual_K _⟩
    clear hd hbase hb
    go_simp
    (first | done | rfl | (refine ⟨?_, ?_⟩ <;> rfl))
  (try simp only [List.nil_append, List.cons_append])
  (apply Rel.op3; (focus (first | exact Rel.gno rfl | exact Rel.gyes _ true _ rfl rfl rfl | exact Rel.gyes _ false _ rfl rfl rfl)); (focus (intro a W hb hd hbase; obtain ⟨hc, hf⟩ := bcell hb; clear hb hf; simp [Rel.deps, Rel.dep1, Rel.ons, Region.binds, Act.eval, KV] at hd; simp only [Act.eval, List.mem_cons, List.not_mem_nil, not_or, and_imp, or_false, Array.getD_eq_getD_getElem?] at hbase; go_simp; (try go_bits); (try rfl); done)); (try simp only [List.nil_append, List.cons_append]))
  refine Rel.callK 19 (K2 (KV (.bool false)) (KV (.int .i64 0))) (K2.st (KV.st _) (KV.st _)) (Rel.gno rfl) ?_ ?_
  · intro a W hb hd hbase
    have q0 := (Rel.dep_at hd 0 rfl rfl)
    have q1 : a.eval (.tmp 65) = _ := (Rel.dep_at hd 1 rfl rfl)
    refine ⟨#[a.eval (.tmp 64), a.eval (.tmp 65)], ?_, by rw [q1]; exact aw_safe (HTab.out.lim.below (HB8.out.trans (hb.mono HB8.out.size))) q0.kg (KTI.st _ _ _ _ _ _ _ b_8.out hb).kt⟩
    clear hd hbase hb
    go_simp
    (first | done | rfl | (refine ⟨?_, ?_⟩ <;> rfl))
  (try simp only [List.nil_append, List.cons_append])
  refine Rel.mvK 66 2 rfl rfl rfl (K2.st (KV.st _) (KV.st _)) (Rel.gno rfl) ?_
  (try simp only [List.nil_append, List.cons_append])
  refine Rel.ext20 63 3 rfl rfl rfl (KV.st _) (Rel.gno rfl) ?_
  (try simp only [List.nil_append, List.cons_append])
  refine Rel.ext21 63 3 rfl rfl rfl (KV.st _) (Rel.gno rfl) ?_
  (try simp only [List.nil_append, List.cons_append])
  (apply Rel.op3; (focus (first | exact Rel.gno rfl | exact Rel.gyes _ true _ rfl rfl rfl | exact Rel.gyes _ false _ rfl rfl rfl)); (focus (intro a W hb hd hbase; obtain ⟨hc, hf⟩ := bcell hb; clear hb hf; simp [Rel.deps, Rel.dep1, Rel.ons, Region.binds, Act.eval, KV] at hd; simp only [Act.eval, List.mem_cons, List.not_mem_nil, not_or, and_imp, or_false, Array.getD_eq_getD_getElem?] at hbase; go_simp; (try go_bits); (try rfl); done)); (try simp only [List.nil_append, List.cons_append]))
  refine Rel.done3 ?_
  intro x w9 h9 hx
  simp only [Rel.facts, Nat.zero_add, Nat.reduceAdd] at hx
  obtain ⟨_, e1, _, _, e4, e5, e6, _⟩ := hx
  have e4 : x 4 = _ := e4
  have e5 : x 5 = _ := e5
  simp only [Rel.fill, Nat.zero_add, Nat.reduceAdd, e1, e4, e5, e6]
  simp only [Act.put, List.setIfInBounds_toArray, List.set_cons_zero, List.set_cons_succ]
  clear e1 e4 e5 e6
  have s_9 := Lib.hid (KTI.st _ _ _ _ _ _ _ s_8.out h9)
  have b_9 := Lib.hid (KTI.st _ _ _ _ _ _ _ b_8.out h9)
  have t_9 := Lib.hid (KS.st _ _ _ _ _ t_8.out h9)
  have bs_9 := Lib.hid (bs_8.out.below h9)
  have ba_9 := Lib.hid (ba_8.out.below h9)
  have bb_9 := Lib.hid (bb_8.out.below h9)
  have HB9 := Lib.hid (HB8.out.trans (h9.mono HB8.out.size))
  clear h9
  clear fbb_0 fbb_1 fbb_2 fbb_l
  go_wp2
  obtain ⟨fbs_0, fbs_1, fbs_2, fbs_l, -⟩ := bs_9.out.o3
  refine RelH.region3 (S := Sty 45 (KTI 36 1 1 [6]) w9.heap.size) (Sty.trans (KTI.ik _ _ _ _)) (Sty.drawn (by decide)) 10 (by kernel_rfl) (by kernel_rfl) (by kernel_rfl) ?_
  simp only [List.take_succ_cons, List.take_zero, List.drop_succ_cons, List.drop_zero, List.filterMap_cons, List.filterMap_nil]
  refine RelH.callH (fun _ _ h => h.keep) (fun _ _ h => Sty.of (by decide) h) 23 (KGI 1 100 20 2 [1, 2] 3 [0, 8, 16]) (KGI.ik _ _ _ _ _ _ _) (RelH.gno rfl) ?_ ?_
  · intro a W x hS hd hbase
    have hb := hS.below (Nat.le_refl _)
    refine ⟨#[], ?_, usual_K _⟩
    clear hd hbase hb hS
    go_simp
    (first | done | rfl | (refine ⟨?_, ?_⟩ <;> rfl))
  (try simp only [List.nil_append, List.cons_append])
  (apply RelH.op3 (Sty.refl (by decide)); (focus (first | exact RelH.gno rfl | exact RelH.gyes _ true _ rfl rfl rfl | exact RelH.gyes _ false _ rfl rfl rfl)); (focus (intro a W x hS hd hbase; have hb := hS.below (Nat.le_refl _); clear hS; obtain ⟨hc, hf⟩ := bcell hb; clear hb hf; simp [RelH.deps, RelH.dep1, Rel.ons, Region.binds, Act.eval, KV] at hd; simp only [Act.eval, List.mem_cons, List.not_mem_nil, not_or, and_imp, or_false, Array.getD_eq_getD_getElem?] at hbase; go_simp; (try go_bits); (try rfl); done)); (try simp only [List.nil_append, List.cons_append]))
  refine RelH.callH (fun _ _ h => h.keep) (fun _ _ h => Sty.of (by decide) h) 24 (K3 (KV (.int .i64 6)) (KTI 36 1 1 [6]) (KV (.int .i64 0))) (K3.ik (KV.ik _) (KTI.ik _ _ _ _) (KV.ik _)) (RelH.gno rfl) ?_ ?_
  · intro a W x hS hd hbase
    have hb := hS.below (Nat.le_refl _)
    have q0 := (RelH.dep_k hd 0 rfl rfl)
    have q1 : a.eval (.tmp 71) = _ := (RelH.dep_k hd 1 rfl rfl)
    refine ⟨#[a.eval (.tmp 70), a.eval (.tmp 71), (.int .i64 12)], ?_, by rw [q1]; exact aw_step (HTab.out.lim.below (HB9.out.trans (hb.mono HB9.out.size))) q0.kg (KTI.st _ _ _ _ _ _ _ s_9.out hb).kt⟩
    clear hd hbase hb hS
    go_simp
    (first | done | rfl | (refine ⟨?_, ?_⟩ <;> rfl))
  (try simp only [List.nil_append, List.cons_append])
  refine RelH.mvH (Sty.refl (by decide)) (fun _ _ h => h.keep) 72 2 rfl rfl rfl (K3.ik (KV.ik _) (KTI.ik _ _ _ _) (KV.ik _)) (RelH.gno rfl) ?_
  (try simp only [List.nil_append, List.cons_append])
  refine RelH.ext30H (Sty.refl (by decide)) (fun _ _ h => h.keep) 69 3 rfl rfl rfl (KV.ik _) (RelH.gno rfl) ?_
  (try simp only [List.nil_append, List.cons_append])
  refine RelH.ext31H (Sty.refl (by decide)) (fun _ _ h => h.keep) 69 3 rfl rfl rfl (KTI.ik _ _ _ _) (RelH.gno rfl) ?_
  (try simp only [List.nil_append, List.cons_append])
  refine RelH.ext32H (Sty.refl (by decide)) (fun _ _ h => h.keep) 69 3 rfl rfl rfl (KV.ik _) (RelH.gno rfl) ?_
  (try simp only [List.nil_append, List.cons_append])
  (refine RelH.allocH (by decide) (n := 3) (fun cs W h => by obtain ⟨_, _, e, _⟩ := h; cases e; rfl) #[(.int .i64 0), (.int .i64 0), .slice none 0 0] rfl (RelH.gno rfl) (by intro a W; go_simp) ?_; (try simp only [List.nil_append, List.cons_append]))
  (apply RelH.op3 (Sty.refl (by decide)); (focus (first | exact RelH.gno rfl | exact RelH.gyes _ true _ rfl rfl rfl | exact RelH.gyes _ false _ rfl rfl rfl)); (focus (intro a W x hS hd hbase; have hb := hS.below (Nat.le_refl _); clear hS; obtain ⟨hc, hf⟩ := bcell hb; clear hb hf; simp [RelH.deps, RelH.dep1, Rel.ons, Region.binds, Act.eval, KV] at hd; simp only [Act.eval, List.mem_cons, List.not_mem_nil, not_or, and_imp, or_false, Array.getD_eq_getD_getElem?] at hbase; go_simp; (try go_bits); (try rfl); done)); (try simp only [List.nil_append, List.cons_append]))
  refine RelH.storeH 14 74 7 5 rfl rfl rfl rfl rfl (RelH.gno rfl) ?_
  (try simp only [List.nil_append, List.cons_append])
  refine RelH.done3 ?_
  intro x w10 hS10 hx
  have h10 := hS10.below (Nat.le_refl _)
  clear hS10
  simp only [RelH.facts, Nat.zero_add, Nat.reduceAdd] at hx
  obtain ⟨_, e1, _, _, e4, _, e6, _, e8, ⟨gb10, e7, hg10, cs10, hG10, B10, c10, ec10, hc10, hi10⟩, _⟩ := hx
  have e4 : x 4 = _ := e4
  have e6 : x 6 = _ := e6
  cases ec10
  simp only [RelH.fill, Nat.zero_add, Nat.reduceAdd, e1, e4, e6, e8, e7]
  simp only [Act.put, List.setIfInBounds_toArray, List.set_cons_zero, List.set_cons_succ]
  clear e1 e4 e6 e8 e7
  have s_10 := Lib.hid (KTI.st _ _ _ _ _ _ _ s_9.out h10)
  have t_10 := Lib.hid (KS.st _ _ _ _ _ t_9.out h10)
  have bs_10 := Lib.hid (bs_9.out.below h10)
  have ba_10 := Lib.hid (ba_9.out.below h10)
  have bb_10 := Lib.hid (bb_9.out.below h10)
  have HB10 := Lib.hid (HB9.out.trans (h10.mono HB9.out.size))
  have bc_10 := Lib.hid (show Blk w10 gb10 #[(.int .i64 36), (.int .i64 1), .slice B10 1 c10] from Calm.Blk.row hG10)
  have c_10 := Lib.hid (show KTI 36 1 1 [6] (.agg #[(.int .i64 36), (.int .i64 1), .slice B10 1 c10]) w10 from ⟨_, _, rfl, hc10, hi10⟩)
  clear hc10 hi10 hG10 hg10 h10
  clear fbs_0 fbs_1 fbs_2 fbs_l
  go_wp2_with (go_at_call 23; refine name_calls ?_; intro w11 e11; refine Hid.out ?_)
  unfold Hid
  have h11 : Below w10.heap.size w10 w11 := by rw [e11]; (repeat (first | (with_reducible exact Below.refl _ _) | ((with_reducible refine Below.setCell ?_ ?_ _); rotate_left 1; (focus (first | (simp; done) | (simp; omega) | (simp at *; omega)))) | ((with_reducible refine Below.alloc ?_ ?_ _); rotate_left 1; (focus (first | (simp; done) | (simp; omega) | (simp at *; omega))))))
  have s_11 := Lib.hid (KTI.st _ _ _ _ _ _ _ s_10.out h11)
  have t_11 := Lib.hid (KS.st _ _ _ _ _ t_10.out h11)
  have bs_11 := Lib.hid (bs_10.out.below h11)
  have ba_11 := Lib.hid (ba_10.out.below h11)
  have bb_11 := Lib.hid (bb_10.out.below h11)
  have bc_11 := Lib.hid (bc_10.out.below h11)
  have HB11 := Lib.hid (HB10.out.trans (h11.mono HB10.out.size))
  clear e11 h11
  refine (usual_K _).mono ?_
  rintro r w12 ⟨v12, rfl, k12, h12⟩
  have s_12 := Lib.hid (KTI.st _ _ _ _ _ _ _ s_11.out h12)
  have t_12 := Lib.hid (KS.st _ _ _ _ _ t_11.out h12)
  have bs_12 := Lib.hid (bs_11.out.below h12)
  have ba_12 := Lib.hid (ba_11.out.below h12)
  have bb_12 := Lib.hid (bb_11.out.below h12)
  have bc_12 := Lib.hid (bc_11.out.below h12)
  have HB12 := Lib.hid (HB11.out.trans (h12.mono HB11.out.size))
  have g_12 := Lib.hid k12
  clear k12 h12
  go_wp2_with (go_at_call 25; refine name_calls ?_; intro w13 e13; refine Hid.out ?_)
  unfold Hid
  have h13 : Below w12.heap.size w12 w13 := by rw [e13]; (repeat (first | (with_reducible exact Below.refl _ _) | ((with_reducible refine Below.setCell ?_ ?_ _); rotate_left 1; (focus (first | (simp; done) | (simp; omega) | (simp at *; omega)))) | ((with_reducible refine Below.alloc ?_ ?_ _); rotate_left 1; (focus (first | (simp; done) | (simp; omega) | (simp at *; omega))))))
  have s_13 := Lib.hid (KTI.st _ _ _ _ _ _ _ s_12.out h13)
  have t_13 := Lib.hid (KS.st _ _ _ _ _ t_12.out h13)
  have g_13 := Lib.hid ((KGI.ik _ _ _ _ _ _ _).st _ _ _ g_12.out h13)
  have bs_13 := Lib.hid (bs_12.out.below h13)
  have ba_13 := Lib.hid (ba_12.out.below h13)
  have bb_13 := Lib.hid (bb_12.out.below h13)
  have bc_13 := Lib.hid (bc_12.out.below h13)
  have HB13 := Lib.hid (HB12.out.trans (h13.mono HB12.out.size))
  have xs_13 := Lib.hid (show KS 3 [6, 6, 6] (.slice (some ⟨w12.heap.size, 0, none⟩) 3 3) w13 from ⟨_, _, rfl, blkc (zs := [6, 6, 6]) (show Blk w13 w12.heap.size #[(.int .i64 6), (.int .i64 6), (.int .i64 6)] from by rw [e13]; exact Calm.Blk.new _ _ _)⟩)
  clear e13 h13
  refine (aw_run (HTab.out.lim.below HB13.out) g_13.out.kg xs_13.out).mono ?_
  rintro r w14 ⟨v14, rfl, k14, h14⟩
  have s_14 := Lib.hid (KTI.st _ _ _ _ _ _ _ s_13.out h14)
  have t_14 := Lib.hid (KS.st _ _ _ _ _ t_13.out h14)
  have g_14 := Lib.hid ((KGI.ik _ _ _ _ _ _ _).st _ _ _ g_13.out h14)
  have xs_14 := Lib.hid (KS.st _ _ _ _ _ xs_13.out h14)
  have bs_14 := Lib.hid (bs_13.out.below h14)
  have ba_14 := Lib.hid (ba_13.out.below h14)
  have bb_14 := Lib.hid (bb_13.out.below h14)
  have bc_14 := Lib.hid (bc_13.out.below h14)
  have HB14 := Lib.hid (HB13.out.trans (h14.mono HB13.out.size))
  obtain ⟨_, _, rfl, ⟨B14, c14, rfl, hc14⟩, rfl⟩ := k14
  have l_14 := Lib.hid (show KS 3 [6, 6, 6] (.slice B14 3 c14) w14 from ⟨_, _, rfl, hc14⟩)
  clear hc14 h14
  go_wp2_with (go_at_call 23; refine name_calls ?_; intro w15 e15; refine Hid.out ?_)
  unfold Hid
  have h15 : Below w14.heap.size w14 w15 := by rw [e15]; (repeat (first | (with_reducible exact Below.refl _ _) | ((with_reducible refine Below.setCell ?_ ?_ _); rotate_left 1; (focus (first | (simp; done) | (simp; omega) | (simp at *; omega)))) | ((with_reducible refine Below.alloc ?_ ?_ _); rotate_left 1; (focus (first | (simp; done) | (simp; omega) | (simp at *; omega))))))
  have s_15 := Lib.hid (KTI.st _ _ _ _ _ _ _ s_14.out h15)
  have t_15 := Lib.hid (KS.st _ _ _ _ _ t_14.out h15)
  have l_15 := Lib.hid (KS.st _ _ _ _ _ l_14.out h15)
  have bs_15 := Lib.hid (bs_14.out.below h15)
  have ba_15 := Lib.hid (ba_14.out.below h15)
  have bb_15 := Lib.hid (bb_14.out.below h15)
  have bc_15 := Lib.hid (bc_14.out.below h15)
  have HB15 := Lib.hid (HB14.out.trans (h15.mono HB14.out.size))
  clear e15 h15
  refine (usual_K _).mono ?_
  rintro r w16 ⟨v16, rfl, k16, h16⟩
  have s_16 := Lib.hid (KTI.st _ _ _ _ _ _ _ s_15.out h16)
  have t_16 := Lib.hid (KS.st _ _ _ _ _ t_15.out h16)
  have l_16 := Lib.hid (KS.st _ _ _ _ _ l_15.out h16)
  have bs_16 := Lib.hid (bs_15.out.below h16)
  have ba_16 := Lib.hid (ba_15.out.below h16)
  have bb_16 := Lib.hid (bb_15.out.below h16)
  have bc_16 := Lib.hid (bc_15.out.below h16)
  have HB16 := Lib.hid (HB15.out.trans (h16.mono HB15.out.size))
  have g_16 := Lib.hid k16
  clear k16 h16
  go_wp2_with (go_at_call 26; refine name_calls ?_; intro w17 e17; refine Hid.out ?_)
  unfold Hid
  have h17 : Below w16.heap.size w16 w17 := by rw [e17]; (repeat (first | (with_reducible exact Below.refl _ _) | ((with_reducible refine Below.setCell ?_ ?_ _); rotate_left 1; (focus (first | (simp; done) | (simp; omega) | (simp at *; omega)))) | ((with_reducible refine Below.alloc ?_ ?_ _); rotate_left 1; (focus (first | (simp; done) | (simp; omega) | (simp at *; omega))))))
  have s_17 := Lib.hid (KTI.st _ _ _ _ _ _ _ s_16.out h17)
  have t_17 := Lib.hid (KS.st _ _ _ _ _ t_16.out h17)
  have l_17 := Lib.hid (KS.st _ _ _ _ _ l_16.out h17)
  have g_17 := Lib.hid ((KGI.ik _ _ _ _ _ _ _).st _ _ _ g_16.out h17)
  have bs_17 := Lib.hid (bs_16.out.below h17)
  have ba_17 := Lib.hid (ba_16.out.below h17)
  have bb_17 := Lib.hid (bb_16.out.below h17)
  have bc_17 := Lib.hid (bc_16.out.below h17)
  have HB17 := Lib.hid (HB16.out.trans (h17.mono HB16.out.size))
  have xs_17 := Lib.hid (show KS 3 [6, 6, 6] (.slice (some ⟨w16.heap.size, 0, none⟩) 3 3) w17 from ⟨_, _, rfl, blkc (zs := [6, 6, 6]) (show Blk w17 w16.heap.size #[(.int .i64 6), (.int .i64 6), (.int .i64 6)] from by rw [e17]; exact Calm.Blk.new _ _ _)⟩)
  clear e17 h17
  refine (aw_peaks g_17.out.kg xs_17.out).mono ?_
  rintro r w18 ⟨v18, rfl, k18, h18⟩
  have s_18 := Lib.hid (KTI.st _ _ _ _ _ _ _ s_17.out h18)
  have t_18 := Lib.hid (KS.st _ _ _ _ _ t_17.out h18)
  have l_18 := Lib.hid (KS.st _ _ _ _ _ l_17.out h18)
  have g_18 := Lib.hid ((KGI.ik _ _ _ _ _ _ _).st _ _ _ g_17.out h18)
  have xs_18 := Lib.hid (KS.st _ _ _ _ _ xs_17.out h18)
  have bs_18 := Lib.hid (bs_17.out.below h18)
  have ba_18 := Lib.hid (ba_17.out.below h18)
  have bb_18 := Lib.hid (bb_17.out.below h18)
  have bc_18 := Lib.hid (bc_17.out.below h18)
  have HB18 := Lib.hid (HB17.out.trans (h18.mono HB17.out.size))
  obtain ⟨_, _, rfl, rfl, rfl⟩ := k18
  clear h18
  go_wp2_with (go_at_call 23; refine name_calls ?_; intro w19 e19; refine Hid.out ?_)
  unfold Hid
  have h19 : Below w18.heap.size w18 w19 := by rw [e19]; (repeat (first | (with_reducible exact Below.refl _ _) | ((with_reducible refine Below.setCell ?_ ?_ _); rotate_left 1; (focus (first | (simp; done) | (simp; omega) | (simp at *; omega)))) | ((with_reducible refine Below.alloc ?_ ?_ _); rotate_left 1; (focus (first | (simp; done) | (simp; omega) | (simp at *; omega))))))
  have s_19 := Lib.hid (KTI.st _ _ _ _ _ _ _ s_18.out h19)
  have t_19 := Lib.hid (KS.st _ _ _ _ _ t_18.out h19)
  have l_19 := Lib.hid (KS.st _ _ _ _ _ l_18.out h19)
  have bs_19 := Lib.hid (bs_18.out.below h19)
  have ba_19 := Lib.hid (ba_18.out.below h19)
  have bb_19 := Lib.hid (bb_18.out.below h19)
  have bc_19 := Lib.hid (bc_18.out.below h19)
  have HB19 := Lib.hid (HB18.out.trans (h19.mono HB18.out.size))
  have bp_19 := Lib.hid (show Blk w19 w18.heap.size #[(.int .i64 63), (.int .i64 18)] from by rw [e19]; exact Calm.Blk.new _ _ _)
  clear e19 h19
  refine (usual_K _).mono ?_
  rintro r w20 ⟨v20, rfl, k20, h20⟩
  have s_20 := Lib.hid (KTI.st _ _ _ _ _ _ _ s_19.out h20)
  have t_20 := Lib.hid (KS.st _ _ _ _ _ t_19.out h20)
  have l_20 := Lib.hid (KS.st _ _ _ _ _ l_19.out h20)
  have bs_20 := Lib.hid (bs_19.out.below h20)
  have ba_20 := Lib.hid (ba_19.out.below h20)
  have bb_20 := Lib.hid (bb_19.out.below h20)
  have bc_20 := Lib.hid (bc_19.out.below h20)
  have bp_20 := Lib.hid (bp_19.out.below h20)
  have HB20 := Lib.hid (HB19.out.trans (h20.mono HB19.out.size))
  have g_20 := Lib.hid k20
  clear k20 h20
  go_wp2_with (go_at_call 27; refine name_calls ?_; intro w21 e21; refine Hid.out ?_)
  unfold Hid
  have h21 : Below w20.heap.size w20 w21 := by rw [e21]; (repeat (first | (with_reducible exact Below.refl _ _) | ((with_reducible refine Below.setCell ?_ ?_ _); rotate_left 1; (focus (first | (simp; done) | (simp; omega) | (simp at *; omega)))) | ((with_reducible refine Below.alloc ?_ ?_ _); rotate_left 1; (focus (first | (simp; done) | (simp; omega) | (simp at *; omega))))))
  have s_21 := Lib.hid (KTI.st _ _ _ _ _ _ _ s_20.out h21)
  have t_21 := Lib.hid (KS.st _ _ _ _ _ t_20.out h21)
  have l_21 := Lib.hid (KS.st _ _ _ _ _ l_20.out h21)
  have g_21 := Lib.hid ((KGI.ik _ _ _ _ _ _ _).st _ _ _ g_20.out h21)
  have bs_21 := Lib.hid (bs_20.out.below h21)
  have ba_21 := Lib.hid (ba_20.out.below h21)
  have bb_21 := Lib.hid (bb_20.out.below h21)
  have bc_21 := Lib.hid (bc_20.out.below h21)
  have bp_21 := Lib.hid (bp_20.out.below h21)
  have HB21 := Lib.hid (HB20.out.trans (h21.mono HB20.out.size))
  have xs_21 := Lib.hid (show KS 2 [12, 12] (.slice (some ⟨w20.heap.size, 0, none⟩) 2 2) w21 from ⟨_, _, rfl, blkc (zs := [12, 12]) (show Blk w21 w20.heap.size #[(.int .i64 12), (.int .i64 12)] from by rw [e21]; exact Calm.Blk.new _ _ _)⟩)
  clear e21 h21
  refine (aw_levels (HTab.out.lim.below HB21.out) g_21.out.kg xs_21.out).mono ?_
  rintro r w22 ⟨v22, rfl, k22, h22⟩
  have s_22 := Lib.hid (KTI.st _ _ _ _ _ _ _ s_21.out h22)
  have t_22 := Lib.hid (KS.st _ _ _ _ _ t_21.out h22)
  have l_22 := Lib.hid (KS.st _ _ _ _ _ l_21.out h22)
  have g_22 := Lib.hid ((KGI.ik _ _ _ _ _ _ _).st _ _ _ g_21.out h22)
  have xs_22 := Lib.hid (KS.st _ _ _ _ _ xs_21.out h22)
  have bs_22 := Lib.hid (bs_21.out.below h22)
  have ba_22 := Lib.hid (ba_21.out.below h22)
  have bb_22 := Lib.hid (bb_21.out.below h22)
  have bc_22 := Lib.hid (bc_21.out.below h22)
  have bp_22 := Lib.hid (bp_21.out.below h22)
  have HB22 := Lib.hid (HB21.out.trans (h22.mono HB21.out.size))
  obtain ⟨_, _, rfl, ⟨B22, c22, rfl, hc22⟩, rfl⟩ := k22
  have v_22 := Lib.hid (show KS 2 [1, 1] (.slice B22 2 c22) w22 from ⟨_, _, rfl, hc22⟩)
  clear hc22 h22
  have hpk := aw_pk
  obtain ⟨fbs_0, fbs_1, fbs_2, fbs_l, -⟩ := bs_22.out.o3
  obtain ⟨fba_0, fba_1, fba_2, fba_l, -⟩ := ba_22.out.o3
  obtain ⟨fbb_0, fbb_1, fbb_2, fbb_l, -⟩ := bb_22.out.o3
  obtain ⟨fbc_0, fbc_1, fbc_2, fbc_l, -⟩ := bc_22.out.o3
  obtain ⟨fbp_0, fbp_1, fbp_l, -⟩ := bp_22.out.o2
  go_wp2_with (go_at_call 28; refine name_calls ?_; intro w23 e23; refine Hid.out ?_)
  unfold Hid
  have h23 : Below w22.heap.size w22 w23 := by rw [e23]; (repeat (first | (with_reducible exact Below.refl _ _) | ((with_reducible refine Below.setCell ?_ ?_ _); rotate_left 1; (focus (first | (simp; done) | (simp; omega) | (simp at *; omega)))) | ((with_reducible refine Below.alloc ?_ ?_ _); rotate_left 1; (focus (first | (simp; done) | (simp; omega) | (simp at *; omega))))))
  have s_23 := Lib.hid (KTI.st _ _ _ _ _ _ _ s_22.out h23)
  have t_23 := Lib.hid (KS.st _ _ _ _ _ t_22.out h23)
  have l_23 := Lib.hid (KS.st _ _ _ _ _ l_22.out h23)
  have v_23 := Lib.hid (KS.st _ _ _ _ _ v_22.out h23)
  have bs_23 := Lib.hid (bs_22.out.below h23)
  have ba_23 := Lib.hid (ba_22.out.below h23)
  have bb_23 := Lib.hid (bb_22.out.below h23)
  have bc_23 := Lib.hid (bc_22.out.below h23)
  have bp_23 := Lib.hid (bp_22.out.below h23)
  have HB23 := Lib.hid (HB22.out.trans (h23.mono HB22.out.size))
  have xs_23 := Lib.hid (show KS 1 [12] (.slice (some ⟨w22.heap.size, 0, none⟩) 1 1) w23 from ⟨_, _, rfl, blkc (zs := [12]) (show Blk w23 w22.heap.size #[(.int .i64 12)] from by rw [e23]; exact Calm.Blk.new _ _ _)⟩)
  clear e23 h23
  refine (same_T (a := [12]) (b := [12]) rfl rfl rfl (by decide) t_23.out xs_23.out).mono ?_
  rintro r w24 ⟨v24, rfl, k24, h24⟩
  have s_24 := Lib.hid (KTI.st _ _ _ _ _ _ _ s_23.out h24)
  have t_24 := Lib.hid (KS.st _ _ _ _ _ t_23.out h24)
  have l_24 := Lib.hid (KS.st _ _ _ _ _ l_23.out h24)
  have v_24 := Lib.hid (KS.st _ _ _ _ _ v_23.out h24)
  have xs_24 := Lib.hid (KS.st _ _ _ _ _ xs_23.out h24)
  have bs_24 := Lib.hid (bs_23.out.below h24)
  have ba_24 := Lib.hid (ba_23.out.below h24)
  have bb_24 := Lib.hid (bb_23.out.below h24)
  have bc_24 := Lib.hid (bc_23.out.below h24)
  have bp_24 := Lib.hid (bp_23.out.below h24)
  have HB24 := Lib.hid (HB23.out.trans (h24.mono HB23.out.size))
  obtain rfl := k24
  clear h24
  clear fbb_0 fbb_1 fbb_2 fbb_l
  obtain ⟨fbb_0, fbb_1, fbb_2, fbb_l, -⟩ := bb_24.out.o3
  clear fbc_0 fbc_1 fbc_2 fbc_l
  obtain ⟨fbc_0, fbc_1, fbc_2, fbc_l, -⟩ := bc_24.out.o3
  clear fbp_0 fbp_1 fbp_l
  obtain ⟨fbp_0, fbp_1, fbp_l, -⟩ := bp_24.out.o2
  go_wp2_with (go_at_call 28; refine name_calls ?_; intro w25 e25; refine Hid.out ?_)
  unfold Hid
  have h25 : Below w24.heap.size w24 w25 := by rw [e25]; (repeat (first | (with_reducible exact Below.refl _ _) | ((with_reducible refine Below.setCell ?_ ?_ _); rotate_left 1; (focus (first | (simp; done) | (simp; omega) | (simp at *; omega)))) | ((with_reducible refine Below.alloc ?_ ?_ _); rotate_left 1; (focus (first | (simp; done) | (simp; omega) | (simp at *; omega))))))
  have s_25 := Lib.hid (KTI.st _ _ _ _ _ _ _ s_24.out h25)
  have l_25 := Lib.hid (KS.st _ _ _ _ _ l_24.out h25)
  have v_25 := Lib.hid (KS.st _ _ _ _ _ v_24.out h25)
  have bs_25 := Lib.hid (bs_24.out.below h25)
  have ba_25 := Lib.hid (ba_24.out.below h25)
  have bb_25 := Lib.hid (bb_24.out.below h25)
  have bc_25 := Lib.hid (bc_24.out.below h25)
  have bp_25 := Lib.hid (bp_24.out.below h25)
  have HB25 := Lib.hid (HB24.out.trans (h25.mono HB24.out.size))
  have xs_25 := Lib.hid (show KS 3 [6, 6, 6] (.slice (some ⟨w24.heap.size, 0, none⟩) 3 3) w25 from ⟨_, _, rfl, blkc (zs := [6, 6, 6]) (show Blk w25 w24.heap.size #[(.int .i64 6), (.int .i64 6), (.int .i64 6)] from by rw [e25]; exact Calm.Blk.new _ _ _)⟩)
  clear e25 h25
  refine (same_T (a := [6, 6, 6]) (b := [6, 6, 6]) rfl rfl rfl (by decide) l_25.out xs_25.out).mono ?_
  rintro r w26 ⟨v26, rfl, k26, h26⟩
  have s_26 := Lib.hid (KTI.st _ _ _ _ _ _ _ s_25.out h26)
  have l_26 := Lib.hid (KS.st _ _ _ _ _ l_25.out h26)
  have v_26 := Lib.hid (KS.st _ _ _ _ _ v_25.out h26)
  have xs_26 := Lib.hid (KS.st _ _ _ _ _ xs_25.out h26)
  have bs_26 := Lib.hid (bs_25.out.below h26)
  have ba_26 := Lib.hid (ba_25.out.below h26)
  have bb_26 := Lib.hid (bb_25.out.below h26)
  have bc_26 := Lib.hid (bc_25.out.below h26)
  have bp_26 := Lib.hid (bp_25.out.below h26)
  have HB26 := Lib.hid (HB25.out.trans (h26.mono HB25.out.size))
  obtain rfl := k26
  clear h26
  clear fbp_0 fbp_1 fbp_l
  obtain ⟨fbp_0, fbp_1, fbp_l, -⟩ := bp_26.out.o2
  go_wp2_with (go_at_call 28; refine name_calls ?_; intro w27 e27; refine Hid.out ?_)
  unfold Hid
  have h27 : Below w26.heap.size w26 w27 := by rw [e27]; (repeat (first | (with_reducible exact Below.refl _ _) | ((with_reducible refine Below.setCell ?_ ?_ _); rotate_left 1; (focus (first | (simp; done) | (simp; omega) | (simp at *; omega)))) | ((with_reducible refine Below.alloc ?_ ?_ _); rotate_left 1; (focus (first | (simp; done) | (simp; omega) | (simp at *; omega))))))
  have s_27 := Lib.hid (KTI.st _ _ _ _ _ _ _ s_26.out h27)
  have v_27 := Lib.hid (KS.st _ _ _ _ _ v_26.out h27)
  have bs_27 := Lib.hid (bs_26.out.below h27)
  have ba_27 := Lib.hid (ba_26.out.below h27)
  have bb_27 := Lib.hid (bb_26.out.below h27)
  have bc_27 := Lib.hid (bc_26.out.below h27)
  have bp_27 := Lib.hid (bp_26.out.below h27)
  have HB27 := Lib.hid (HB26.out.trans (h27.mono HB26.out.size))
  have xs_27 := Lib.hid (show KS 2 [1, 1] (.slice (some ⟨w26.heap.size, 0, none⟩) 2 2) w27 from ⟨_, _, rfl, blkc (zs := [1, 1]) (show Blk w27 w26.heap.size #[(.int .i64 1), (.int .i64 1)] from by rw [e27]; exact Calm.Blk.new _ _ _)⟩)
  clear e27 h27
  refine (same_T (a := [1, 1]) (b := [1, 1]) rfl rfl rfl (by decide) v_27.out xs_27.out).mono ?_
  rintro r w28 ⟨v28, rfl, k28, h28⟩
  have s_28 := Lib.hid (KTI.st _ _ _ _ _ _ _ s_27.out h28)
  have v_28 := Lib.hid (KS.st _ _ _ _ _ v_27.out h28)
  have xs_28 := Lib.hid (KS.st _ _ _ _ _ xs_27.out h28)
  have bs_28 := Lib.hid (bs_27.out.below h28)
  have ba_28 := Lib.hid (ba_27.out.below h28)
  have bb_28 := Lib.hid (bb_27.out.below h28)
  have bc_28 := Lib.hid (bc_27.out.below h28)
  have bp_28 := Lib.hid (bp_27.out.below h28)
  have HB28 := Lib.hid (HB27.out.trans (h28.mono HB27.out.size))
  obtain rfl := k28
  clear h28
  clear fbs_0 fbs_1 fbs_2 fbs_l
  clear fba_0 fba_1 fba_2 fba_l
  clear fbb_0 fbb_1 fbb_2 fbb_l
  clear fbc_0 fbc_1 fbc_2 fbc_l
  clear fbp_0 fbp_1 fbp_l
  clear hpk
  go_wp2_with (go_at_call 23; refine name_calls ?_; intro w29 e29; refine Hid.out ?_)
  unfold Hid
  have h29 : Below w28.heap.size w28 w29 := by rw [e29]; (repeat (first | (with_reducible exact Below.refl _ _) | ((with_reducible refine Below.setCell ?_ ?_ _); rotate_left 1; (focus (first | (simp; done) | (simp; omega) | (simp at *; omega)))) | ((with_reducible refine Below.alloc ?_ ?_ _); rotate_left 1; (focus (first | (simp; done) | (simp; omega) | (simp at *; omega))))))
  have s_29 := Lib.hid (KTI.st _ _ _ _ _ _ _ s_28.out h29)
  have bs_29 := Lib.hid (bs_28.out.below h29)
  have HB29 := Lib.hid (HB28.out.trans (h29.mono HB28.out.size))
  clear e29 h29
  refine (usual_K _).mono ?_
  rintro r w30 ⟨v30, rfl, k30, h30⟩
  have s_30 := Lib.hid (KTI.st _ _ _ _ _ _ _ s_29.out h30)
  have bs_30 := Lib.hid (bs_29.out.below h30)
  have HB30 := Lib.hid (HB29.out.trans (h30.mono HB29.out.size))
  have g_30 := Lib.hid k30
  clear k30 h30
  go_wp2_with (go_at_call 29; refine name_calls ?_; intro w31 e31; refine Hid.out ?_)
  unfold Hid
  have h31 : Below w30.heap.size w30 w31 := by rw [e31]; (repeat (first | (with_reducible exact Below.refl _ _) | ((with_reducible refine Below.setCell ?_ ?_ _); rotate_left 1; (focus (first | (simp; done) | (simp; omega) | (simp at *; omega)))) | ((with_reducible refine Below.alloc ?_ ?_ _); rotate_left 1; (focus (first | (simp; done) | (simp; omega) | (simp at *; omega))))))
  have s_31 := Lib.hid (KTI.st _ _ _ _ _ _ _ s_30.out h31)
  have g_31 := Lib.hid ((KGI.ik _ _ _ _ _ _ _).st _ _ _ g_30.out h31)
  have bs_31 := Lib.hid (bs_30.out.below h31)
  have HB31 := Lib.hid (HB30.out.trans (h31.mono HB30.out.size))
  clear e31 h31
  refine (aw_steady g_31.out.kg).mono ?_
  rintro r w32 ⟨v32, rfl, k32, h32⟩
  have s_32 := Lib.hid (KTI.st _ _ _ _ _ _ _ s_31.out h32)
  have g_32 := Lib.hid ((KGI.ik _ _ _ _ _ _ _).st _ _ _ g_31.out h32)
  have bs_32 := Lib.hid (bs_31.out.below h32)
  have HB32 := Lib.hid (HB31.out.trans (h32.mono HB31.out.size))
  obtain ⟨_, _, rfl, rfl, rfl⟩ := k32
  clear h32
  go_wp2_with (go_at_call 23; refine name_calls ?_; intro w33 e33; refine Hid.out ?_)
  unfold Hid
  have h33 : Below w32.heap.size w32 w33 := by rw [e33]; (repeat (first | (with_reducible exact Below.refl _ _) | ((with_reducible refine Below.setCell ?_ ?_ _); rotate_left 1; (focus (first | (simp; done) | (simp; omega) | (simp at *; omega)))) | ((with_reducible refine Below.alloc ?_ ?_ _); rotate_left 1; (focus (first | (simp; done) | (simp; omega) | (simp at *; omega))))))
  have s_33 := Lib.hid (KTI.st _ _ _ _ _ _ _ s_32.out h33)
  have bs_33 := Lib.hid (bs_32.out.below h33)
  have HB33 := Lib.hid (HB32.out.trans (h33.mono HB32.out.size))
  clear e33 h33
  refine (usual_K _).mono ?_
  rintro r w34 ⟨v34, rfl, k34, h34⟩
  have s_34 := Lib.hid (KTI.st _ _ _ _ _ _ _ s_33.out h34)
  have bs_34 := Lib.hid (bs_33.out.below h34)
  have HB34 := Lib.hid (HB33.out.trans (h34.mono HB33.out.size))
  have g_34 := Lib.hid k34
  clear k34 h34
  go_wp2_with (go_at_call 30; refine name_calls ?_; intro w35 e35; refine Hid.out ?_)
  unfold Hid
  have h35 : Below w34.heap.size w34 w35 := by rw [e35]; (repeat (first | (with_reducible exact Below.refl _ _) | ((with_reducible refine Below.setCell ?_ ?_ _); rotate_left 1; (focus (first | (simp; done) | (simp; omega) | (simp at *; omega)))) | ((with_reducible refine Below.alloc ?_ ?_ _); rotate_left 1; (focus (first | (simp; done) | (simp; omega) | (simp at *; omega))))))
  have s_35 := Lib.hid (KTI.st _ _ _ _ _ _ _ s_34.out h35)
  have g_35 := Lib.hid ((KGI.ik _ _ _ _ _ _ _).st _ _ _ g_34.out h35)
  have bs_35 := Lib.hid (bs_34.out.below h35)
  have HB35 := Lib.hid (HB34.out.trans (h35.mono HB34.out.size))
  clear e35 h35
  refine (aw_quiet g_35.out.kg).mono ?_
  rintro r w36 ⟨v36, rfl, k36, h36⟩
  have s_36 := Lib.hid (KTI.st _ _ _ _ _ _ _ s_35.out h36)
  have g_36 := Lib.hid ((KGI.ik _ _ _ _ _ _ _).st _ _ _ g_35.out h36)
  have bs_36 := Lib.hid (bs_35.out.below h36)
  have HB36 := Lib.hid (HB35.out.trans (h36.mono HB35.out.size))
  obtain ⟨_, _, rfl, rfl, rfl⟩ := k36
  clear h36
  go_wp2_with (go_at_call 23; refine name_calls ?_; intro w37 e37; refine Hid.out ?_)
  unfold Hid
  have h37 : Below w36.heap.size w36 w37 := by rw [e37]; (repeat (first | (with_reducible exact Below.refl _ _) | ((with_reducible refine Below.setCell ?_ ?_ _); rotate_left 1; (focus (first | (simp; done) | (simp; omega) | (simp at *; omega)))) | ((with_reducible refine Below.alloc ?_ ?_ _); rotate_left 1; (focus (first | (simp; done) | (simp; omega) | (simp at *; omega))))))
  have s_37 := Lib.hid (KTI.st _ _ _ _ _ _ _ s_36.out h37)
  have bs_37 := Lib.hid (bs_36.out.below h37)
  have HB37 := Lib.hid (HB36.out.trans (h37.mono HB36.out.size))
  clear e37 h37
  refine (usual_K _).mono ?_
  rintro r w38 ⟨v38, rfl, k38, h38⟩
  have s_38 := Lib.hid (KTI.st _ _ _ _ _ _ _ s_37.out h38)
  have bs_38 := Lib.hid (bs_37.out.below h38)
  have HB38 := Lib.hid (HB37.out.trans (h38.mono HB37.out.size))
  have g_38 := Lib.hid k38
  clear k38 h38
  go_wp2_with (go_at_call 31; refine name_calls ?_; intro w39 e39; refine Hid.out ?_)
  unfold Hid
  have h39 : Below w38.heap.size w38 w39 := by rw [e39]; (repeat (first | (with_reducible exact Below.refl _ _) | ((with_reducible refine Below.setCell ?_ ?_ _); rotate_left 1; (focus (first | (simp; done) | (simp; omega) | (simp at *; omega)))) | ((with_reducible refine Below.alloc ?_ ?_ _); rotate_left 1; (focus (first | (simp; done) | (simp; omega) | (simp at *; omega))))))
  have s_39 := Lib.hid (KTI.st _ _ _ _ _ _ _ s_38.out h39)
  have g_39 := Lib.hid ((KGI.ik _ _ _ _ _ _ _).st _ _ _ g_38.out h39)
  have bs_39 := Lib.hid (bs_38.out.below h39)
  have HB39 := Lib.hid (HB38.out.trans (h39.mono HB38.out.size))
  clear e39 h39
  refine (aw_cool g_39.out.kg).mono ?_
  rintro r w40 ⟨v40, rfl, k40, h40⟩
  have s_40 := Lib.hid (KTI.st _ _ _ _ _ _ _ s_39.out h40)
  have g_40 := Lib.hid ((KGI.ik _ _ _ _ _ _ _).st _ _ _ g_39.out h40)
  have bs_40 := Lib.hid (bs_39.out.below h40)
  have HB40 := Lib.hid (HB39.out.trans (h40.mono HB39.out.size))
  obtain ⟨_, _, rfl, rfl, rfl⟩ := k40
  clear h40
  go_wp2_with (go_at_call 23; refine name_calls ?_; intro w41 e41; refine Hid.out ?_)
  unfold Hid
  have h41 : Below w40.heap.size w40 w41 := by rw [e41]; (repeat (first | (with_reducible exact Below.refl _ _) | ((with_reducible refine Below.setCell ?_ ?_ _); rotate_left 1; (focus (first | (simp; done) | (simp; omega) | (simp at *; omega)))) | ((with_reducible refine Below.alloc ?_ ?_ _); rotate_left 1; (focus (first | (simp; done) | (simp; omega) | (simp at *; omega))))))
  have s_41 := Lib.hid (KTI.st _ _ _ _ _ _ _ s_40.out h41)
  have bs_41 := Lib.hid (bs_40.out.below h41)
  have HB41 := Lib.hid (HB40.out.trans (h41.mono HB40.out.size))
  clear e41 h41
  refine (usual_K _).mono ?_
  rintro r w42 ⟨v42, rfl, k42, h42⟩
  have s_42 := Lib.hid (KTI.st _ _ _ _ _ _ _ s_41.out h42)
  have bs_42 := Lib.hid (bs_41.out.below h42)
  have HB42 := Lib.hid (HB41.out.trans (h42.mono HB41.out.size))
  have g_42 := Lib.hid k42
  clear k42 h42
  go_wp2_with (go_at_call 31; refine name_calls ?_; intro w43 e43; refine Hid.out ?_)
  unfold Hid
  have h43 : Below w42.heap.size w42 w43 := by rw [e43]; (repeat (first | (with_reducible exact Below.refl _ _) | ((with_reducible refine Below.setCell ?_ ?_ _); rotate_left 1; (focus (first | (simp; done) | (simp; omega) | (simp at *; omega)))) | ((with_reducible refine Below.alloc ?_ ?_ _); rotate_left 1; (focus (first | (simp; done) | (simp; omega) | (simp at *; omega))))))
  have s_43 := Lib.hid (KTI.st _ _ _ _ _ _ _ s_42.out h43)
  have g_43 := Lib.hid ((KGI.ik _ _ _ _ _ _ _).st _ _ _ g_42.out h43)
  have bs_43 := Lib.hid (bs_42.out.below h43)
  have HB43 := Lib.hid (HB42.out.trans (h43.mono HB42.out.size))
  clear e43 h43
  refine (aw_cool2 g_43.out.kg).mono ?_
  rintro r w44 ⟨v44, rfl, k44, h44⟩
  have s_44 := Lib.hid (KTI.st _ _ _ _ _ _ _ s_43.out h44)
  have g_44 := Lib.hid ((KGI.ik _ _ _ _ _ _ _).st _ _ _ g_43.out h44)
  have bs_44 := Lib.hid (bs_43.out.below h44)
  have HB44 := Lib.hid (HB43.out.trans (h44.mono HB43.out.size))
  obtain ⟨_, _, rfl, rfl, rfl⟩ := k44
  clear h44
  obtain ⟨fbs_0, fbs_1, fbs_2, fbs_l, fbs_f⟩ := bs_44.out.o3
  go_wp2
  refine name_world ?_
  intro w45 e45
  have zs : w.heap.size ≤ w4.heap.size := HB4.out.size
  have HB45 := Lib.hid (show Below w.heap.size w w45 by rw [e45]; exact HB44.out.setCell zs _)
  have bs_45 := Lib.hid (show Blk w45 w4.heap.size #[(.int .i64 0), (.int .i64 0), .slice B4 1 c4] by rw [e45]; exact bs_44.out.set (i := 1) (by simp) (.int .i64 0))
  have hne : 0 < ([0] : List Int).length → ∀ p, B4 = some p → p.block ≠ w4.heap.size := fun _ p hp e => by obtain ⟨_, h⟩ := hIs.out p hp; have := (Array.getElem?_eq_some_iff.1 h).1; omega
  have s_45 := Lib.hid (show KT 0 0 1 [0] (.agg #[(.int .i64 0), (.int .i64 0), .slice B4 1 c4]) w45 by obtain ⟨B, c, h1, h2, _⟩ := s_44.out; cases h1; exact ⟨_, _, rfl, by rw [e45]; exact h2.sets hne 1 _⟩)
  clear e45 hne zs
  clear fbs_0 fbs_1 fbs_2 fbs_l fbs_f
  obtain ⟨fbs_0, fbs_1, fbs_2, fbs_l, -⟩ := bs_45.out.o3
  refine Rel.region3 7 (by kernel_rfl) (by kernel_rfl) (by kernel_rfl) ?_
  simp only [List.take_succ_cons, List.take_zero, List.drop_succ_cons, List.drop_zero, List.filterMap_cons, List.filterMap_nil]
  refine Rel.callK 23 (KGI 1 100 20 2 [1, 2] 3 [0, 8, 16]) ((KGI.ik _ _ _ _ _ _ _).st) (Rel.gno rfl) ?_ ?_
  · intro a W hb hd hbase
    refine ⟨#[], ?_, usual_K _⟩
    clear hd hbase hb
    go_simp
    (first | done | rfl | (refine ⟨?_, ?_⟩ <;> rfl))
  (try simp only [List.nil_append, List.cons_append])
  (apply Rel.op3; (focus (first | exact Rel.gno rfl | exact Rel.gyes _ true _ rfl rfl rfl | exact Rel.gyes _ false _ rfl rfl rfl)); (focus (intro a W hb hd hbase; obtain ⟨hc, hf⟩ := bcell hb; clear hb hf; simp [Rel.deps, Rel.dep1, Rel.ons, Region.binds, Act.eval, KV] at hd; simp only [Act.eval, List.mem_cons, List.not_mem_nil, not_or, and_imp, or_false, Array.getD_eq_getD_getElem?] at hbase; go_simp; (try go_bits); (try rfl); done)); (try simp only [List.nil_append, List.cons_append]))
  refine Rel.callK 32 (K2 (KV (.int .i64 2)) (KV (.int .i64 0))) (K2.st (KV.st _) (KV.st _)) (Rel.gno rfl) ?_ ?_
  · intro a W hb hd hbase
    have q0 := (Rel.dep_at hd 0 rfl rfl)
    have q1 : a.eval (.tmp 194) = _ := (Rel.dep_at hd 1 rfl rfl)
    refine ⟨#[a.eval (.tmp 193), a.eval (.tmp 194)], ?_, by rw [q1]; exact aw_release (HTab.out.lim.below (HB45.out.trans (hb.mono HB45.out.size))) q0.kg (KT.st _ _ _ _ _ _ _ s_45.out hb)⟩
    clear hd hbase hb
    go_simp
    (first | done | rfl | (refine ⟨?_, ?_⟩ <;> rfl))
  (try simp only [List.nil_append, List.cons_append])
  refine Rel.mvK 195 2 rfl rfl rfl (K2.st (KV.st _) (KV.st _)) (Rel.gno rfl) ?_
  (try simp only [List.nil_append, List.cons_append])
  refine Rel.ext20 192 3 rfl rfl rfl (KV.st _) (Rel.gno rfl) ?_
  (try simp only [List.nil_append, List.cons_append])
  refine Rel.ext21 192 3 rfl rfl rfl (KV.st _) (Rel.gno rfl) ?_
  (try simp only [List.nil_append, List.cons_append])
  (apply Rel.op3; (focus (first | exact Rel.gno rfl | exact Rel.gyes _ true _ rfl rfl rfl | exact Rel.gyes _ false _ rfl rfl rfl)); (focus (intro a W hb hd hbase; obtain ⟨hc, hf⟩ := bcell hb; clear hb hf; simp [Rel.deps, Rel.dep1, Rel.ons, Region.binds, Act.eval, KV] at hd; simp only [Act.eval, List.mem_cons, List.not_mem_nil, not_or, and_imp, or_false, Array.getD_eq_getD_getElem?] at hbase; go_simp; (try go_bits); (try rfl); done)); (try simp only [List.nil_append, List.cons_append]))
  refine Rel.done3 ?_
  intro x w46 h46 hx
  simp only [Rel.facts, Nat.zero_add, Nat.reduceAdd] at hx
  obtain ⟨_, e1, _, _, e4, e5, e6, _⟩ := hx
  have e4 : x 4 = _ := e4
  have e5 : x 5 = _ := e5
  simp only [Rel.fill, Nat.zero_add, Nat.reduceAdd, e1, e4, e5, e6]
  simp only [Act.put, List.setIfInBounds_toArray, List.set_cons_zero, List.set_cons_succ]
  clear e1 e4 e5 e6
  have s_46 := Lib.hid (KT.st _ _ _ _ _ _ _ s_45.out h46)
  have bs_46 := Lib.hid (bs_45.out.below h46)
  have HB46 := Lib.hid (HB45.out.trans (h46.mono HB45.out.size))
  clear h46
  clear fbs_0 fbs_1 fbs_2 fbs_l
  go_wp2_with (go_at_call 23; refine name_calls ?_; intro w47 e47; refine Hid.out ?_)
  unfold Hid
  have h47 : Below w46.heap.size w46 w47 := by rw [e47]; (repeat (first | (with_reducible exact Below.refl _ _) | ((with_reducible refine Below.setCell ?_ ?_ _); rotate_left 1; (focus (first | (simp; done) | (simp; omega) | (simp at *; omega)))) | ((with_reducible refine Below.alloc ?_ ?_ _); rotate_left 1; (focus (first | (simp; done) | (simp; omega) | (simp at *; omega))))))
  have HB47 := Lib.hid (HB46.out.trans (h47.mono HB46.out.size))
  clear e47 h47
  refine (usual_K _).mono ?_
  rintro r w48 ⟨v48, rfl, k48, h48⟩
  have HB48 := Lib.hid (HB47.out.trans (h48.mono HB47.out.size))
  have g_48 := Lib.hid k48
  clear k48 h48
  go_wp2_with (go_at_call 33; refine name_calls ?_; intro w49 e49; refine Hid.out ?_)
  unfold Hid
  have h49 : Below w48.heap.size w48 w49 := by rw [e49]; (repeat (first | (with_reducible exact Below.refl _ _) | ((with_reducible refine Below.setCell ?_ ?_ _); rotate_left 1; (focus (first | (simp; done) | (simp; omega) | (simp at *; omega)))) | ((with_reducible refine Below.alloc ?_ ?_ _); rotate_left 1; (focus (first | (simp; done) | (simp; omega) | (simp at *; omega))))))
  have g_49 := Lib.hid ((KGI.ik _ _ _ _ _ _ _).st _ _ _ g_48.out h49)
  have HB49 := Lib.hid (HB48.out.trans (h49.mono HB48.out.size))
  have xs_49 := Lib.hid (show KS 3 [-10, 3, 9] (.slice (some ⟨w48.heap.size, 0, none⟩) 3 3) w49 from ⟨_, _, rfl, blkc (zs := [-10, 3, 9]) (show Blk w49 w48.heap.size #[(.int .i64 (-10)), (.int .i64 3), (.int .i64 9)] from by rw [e49]; exact Calm.Blk.new _ _ _)⟩)
  clear e49 h49
  refine (aw_loudest (HTab.out.lim.below HB49.out) g_49.out.kg xs_49.out).mono ?_
  rintro r w50 ⟨v50, rfl, k50, h50⟩
  have g_50 := Lib.hid ((KGI.ik _ _ _ _ _ _ _).st _ _ _ g_49.out h50)
  have xs_50 := Lib.hid (KS.st _ _ _ _ _ xs_49.out h50)
  have HB50 := Lib.hid (HB49.out.trans (h50.mono HB49.out.size))
  obtain ⟨_, _, rfl, ⟨B50, c50, rfl, hc50⟩, rfl⟩ := k50
  have o_50 := Lib.hid (show KS 2 [-10, 3] (.slice B50 2 c50) w50 from ⟨_, _, rfl, hc50⟩)
  clear hc50 h50
  go_wp2_with (go_at_call 34; refine name_calls ?_; intro w51 e51; refine Hid.out ?_)
  unfold Hid
  have h51 : Below w50.heap.size w50 w51 := by rw [e51]; (repeat (first | (with_reducible exact Below.refl _ _) | ((with_reducible refine Below.setCell ?_ ?_ _); rotate_left 1; (focus (first | (simp; done) | (simp; omega) | (simp at *; omega)))) | ((with_reducible refine Below.alloc ?_ ?_ _); rotate_left 1; (focus (first | (simp; done) | (simp; omega) | (simp at *; omega))))))
  have o_51 := Lib.hid (KS.st _ _ _ _ _ o_50.out h51)
  have HB51 := Lib.hid (HB50.out.trans (h51.mono HB50.out.size))
  have xs_51 := Lib.hid (show KS 2 [-10, 3] (.slice (some ⟨w50.heap.size, 0, none⟩) 2 2) w51 from ⟨_, _, rfl, blkc (zs := [-10, 3]) (show Blk w51 w50.heap.size #[(.int .i64 (-10)), (.int .i64 3)] from by rw [e51]; exact Calm.Blk.new _ _ _)⟩)
  clear e51 h51
  refine (aw_energy xs_51.out).mono ?_
  rintro r w52 ⟨v52, rfl, k52, h52⟩
  have o_52 := Lib.hid (KS.st _ _ _ _ _ o_51.out h52)
  have xs_52 := Lib.hid (KS.st _ _ _ _ _ xs_51.out h52)
  have HB52 := Lib.hid (HB51.out.trans (h52.mono HB51.out.size))
  obtain ⟨_, _, rfl, rfl, rfl⟩ := k52
  clear h52
  go_wp2_with (go_at_call 23; refine name_calls ?_; intro w53 e53; refine Hid.out ?_)
  unfold Hid
  have h53 : Below w52.heap.size w52 w53 := by rw [e53]; (repeat (first | (with_reducible exact Below.refl _ _) | ((with_reducible refine Below.setCell ?_ ?_ _); rotate_left 1; (focus (first | (simp; done) | (simp; omega) | (simp at *; omega)))) | ((with_reducible refine Below.alloc ?_ ?_ _); rotate_left 1; (focus (first | (simp; done) | (simp; omega) | (simp at *; omega))))))
  have o_53 := Lib.hid (KS.st _ _ _ _ _ o_52.out h53)
  have HB53 := Lib.hid (HB52.out.trans (h53.mono HB52.out.size))
  clear e53 h53
  refine (usual_K _).mono ?_
  rintro r w54 ⟨v54, rfl, k54, h54⟩
  have o_54 := Lib.hid (KS.st _ _ _ _ _ o_53.out h54)
  have HB54 := Lib.hid (HB53.out.trans (h54.mono HB53.out.size))
  have g_54 := Lib.hid k54
  clear k54 h54
  go_wp2_with (go_at_call 7; refine name_calls ?_; intro w55 e55; refine Hid.out ?_)
  unfold Hid
  have h55 : Below w54.heap.size w54 w55 := by rw [e55]; (repeat (first | (with_reducible exact Below.refl _ _) | ((with_reducible refine Below.setCell ?_ ?_ _); rotate_left 1; (focus (first | (simp; done) | (simp; omega) | (simp at *; omega)))) | ((with_reducible refine Below.alloc ?_ ?_ _); rotate_left 1; (focus (first | (simp; done) | (simp; omega) | (simp at *; omega))))))
  have o_55 := Lib.hid (KS.st _ _ _ _ _ o_54.out h55)
  have g_55 := Lib.hid ((KGI.ik _ _ _ _ _ _ _).st _ _ _ g_54.out h55)
  have HB55 := Lib.hid (HB54.out.trans (h55.mono HB54.out.size))
  clear e55 h55
  refine (aw_print (HTab.out.below HB55.out) g_55.out.kg).mono ?_
  rintro r w56 ⟨v56, rfl, k56, h56⟩
  have o_56 := Lib.hid (KS.st _ _ _ _ _ o_55.out h56)
  have g_56 := Lib.hid ((KGI.ik _ _ _ _ _ _ _).st _ _ _ g_55.out h56)
  have HB56 := Lib.hid (HB55.out.trans (h56.mono HB55.out.size))
  obtain ⟨_, _, rfl, rfl, rfl⟩ := k56
  clear h56
  go_wp2_with (go_at_call 28; refine name_calls ?_; intro w57 e57; refine Hid.out ?_)
  unfold Hid
  have h57 : Below w56.heap.size w56 w57 := by rw [e57]; (repeat (first | (with_reducible exact Below.refl _ _) | ((with_reducible refine Below.setCell ?_ ?_ _); rotate_left 1; (focus (first | (simp; done) | (simp; omega) | (simp at *; omega)))) | ((with_reducible refine Below.alloc ?_ ?_ _); rotate_left 1; (focus (first | (simp; done) | (simp; omega) | (simp at *; omega))))))
  have o_57 := Lib.hid (KS.st _ _ _ _ _ o_56.out h57)
  have HB57 := Lib.hid (HB56.out.trans (h57.mono HB56.out.size))
  have xs_57 := Lib.hid (show KS 2 [-10, 3] (.slice (some ⟨w56.heap.size, 0, none⟩) 2 2) w57 from ⟨_, _, rfl, blkc (zs := [-10, 3]) (show Blk w57 w56.heap.size #[(.int .i64 (-10)), (.int .i64 3)] from by rw [e57]; exact Calm.Blk.new _ _ _)⟩)
  clear e57 h57
  refine (same_T (a := [-10, 3]) (b := [-10, 3]) rfl rfl rfl (by decide) o_57.out xs_57.out).mono ?_
  rintro r w58 ⟨v58, rfl, k58, h58⟩
  have o_58 := Lib.hid (KS.st _ _ _ _ _ o_57.out h58)
  have xs_58 := Lib.hid (KS.st _ _ _ _ _ xs_57.out h58)
  have HB58 := Lib.hid (HB57.out.trans (h58.mono HB57.out.size))
  obtain rfl := k58
  clear h58
  go_wp2
  go_ret
  exact ⟨by first | rfl | (simp; done), HB58.out⟩
end Go.Proofs.YtdeapbihbhoefaaGreatDoor
