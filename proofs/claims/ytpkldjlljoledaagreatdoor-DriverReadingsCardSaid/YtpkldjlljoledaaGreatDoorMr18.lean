/- Part 18 of the texts of the claim: RdB, RdAll, RdRow. -/
import Derived.Test.YtpkldjlljoledaaGreatDoorMr17
import Derived.Test.YtpkldjlljoledaaGreatDoorMr2
import Derived.Test.YtpkldjlljoledaaGreatDoorMr8

/- DriverReadings answers yes at 33 frequencies. -/
namespace Go.Proofs.YtpkldjlljoledaaGreatDoor
open Go.RowKit
open Calm (bcell Blk)
set_option maxRecDepth 100000 in
set_option maxHeartbeats 16000000 in
theorem reads_33 (re le bl ma st lo p DE RE SE one two : Int) (EB : Bool) (zs S : List (Int × Int × Int)) (ws : List Int) (n ns c c2 : Nat) (A A2 : Option Addr) (w : World) (hL : Lim w) (HM : Hid (33 = ws.length)) (HC : Hid (RCells w A zs)) (HW : Hid (Cells w A2 ws))
    (HSh : Hid (∀ W : World, Calls Tryz.prog 9 #[.slice A n c, (.int .i64 (8))] W fun r w' => r = .returned (.bool true) ∧ W = w'))
    (HCD : Hid (∀ W : World, Calls Tryz.prog 26 #[.agg #[(.int .i64 (re)), (.int .i64 (le)), (.int .i64 (bl)), (.int .i64 (ma)), (.int .i64 (st)), (.int .i64 (lo))]] W fun r w' => r = .returned ((.int .i64 (DE))) ∧ Below W.heap.size W w'))
    (HRd : Hid (∀ W : World, RCells W A zs → Calls Tryz.prog 13 #[.slice A n c] W fun r w' => ∃ B e, r = .returned (.slice B n e) ∧ (∀ p, B = some p → W.heap.size ≤ p.block) ∧ RCells w' B zs ∧ Below W.heap.size W w'))
    (HEx : Hid (∀ (W : World) (B : Option Addr) (e : Nat), Lim W → RCells W B zs → Calls Tryz.prog 24 #[.agg #[(.int .i64 (re)), (.int .i64 (le)), (.int .i64 (bl)), (.int .i64 (ma)), (.int .i64 (st)), (.int .i64 (lo))], .slice B n e] W fun r w' => r = .returned (.tuple #[.bool EB, (.int .i64 (one))]) ∧ Below W.heap.size W w'))
    (HSw : Hid (∀ (W : World) (B : Option Addr) (e : Nat), Lim W → Cells W B ws → Calls Tryz.prog 25 #[.agg #[(.int .i64 (re)), (.int .i64 (le)), (.int .i64 (bl)), (.int .i64 (ma)), (.int .i64 (st)), (.int .i64 (lo))], .slice B 33 e, (.int .i64 (p))] W fun r w' => ∃ B' e', r = .returned (.tuple #[.slice B' ns e', (.int .i64 (two))]) ∧ RCells w' B' S ∧ Below W.heap.size W w'))
    (HRR : Hid (∀ W : World, RCells W A zs → Calls Tryz.prog 16 #[.slice A n c] W fun r w' => r = .returned (.int .i64 (RE)) ∧ Below W.heap.size W w'))
    (HPR : Hid (∀ (W : World) (B : Option Addr) (e : Nat), RCells W B zs → Calls Tryz.prog 31 #[.slice B n e] W fun r w' => r = .returned (.int .i64 (RE)) ∧ Below W.heap.size W w'))
    (HTo : Hid (∀ (W : World) (B : Option Addr) (e : Nat), RCells W B S → Calls Tryz.prog 33 #[.slice B ns e] W fun r w' => ∃ B' e', r = .returned (.slice B' ns e') ∧ RCells w' B' S ∧ Below W.heap.size W w'))
    (HSa : Hid (∀ (W : World) (B B' : Option Addr) (e e' : Nat), RCells W B S → RCells W B' S → Calls Tryz.prog 32 #[.slice B ns e, .slice B' ns e'] W fun r w' => r = .returned (.bool true) ∧ Below W.heap.size W w'))
    (HRS : Hid (∀ W : World, Cells W A2 ws → Calls Tryz.prog 27 #[.slice A2 33 c2] W fun r w' => r = .returned (.int .i64 (SE)) ∧ Below W.heap.size W w'))
    (e1 : firstOf [DE, RE] = one)
    (e2 : firstOf [DE, SE, rangeErr p 0 50] = two)
    (hc1 : one = 0 ∧ Hid (∀ W : World, RCells W A zs → Calls Tryz.prog 29 #[.agg #[(.int .i64 (re)), (.int .i64 (le)), (.int .i64 (bl)), (.int .i64 (ma)), (.int .i64 (st)), (.int .i64 (lo))], .slice A n c] W fun r w' => r = .returned (.bool EB) ∧ Below W.heap.size W w') ∨ ¬ one = 0 ∧ EB = false)
    (hc2 : two = 0 ∧ Hid (∀ W : World, Cells W A2 ws → Calls Tryz.prog 30 #[.agg #[(.int .i64 (re)), (.int .i64 (le)), (.int .i64 (bl)), (.int .i64 (ma)), (.int .i64 (st)), (.int .i64 (lo))], .slice A2 33 c2, (.int .i64 (p))] W fun r w' => ∃ B e, r = .returned (.slice B ns e) ∧ RCells w' B S ∧ Below W.heap.size W w') ∨ ¬ two = 0 ∧ ns = 0 ∧ S = [])
    : Calls Tryz.prog 5 #[.agg #[(.int .i64 (re)), (.int .i64 (le)), (.int .i64 (bl)), (.int .i64 (ma)), (.int .i64 (st)), (.int .i64 (lo))], .slice A n c, .agg #[.slice A2 33 c2, (.int .i64 (p))]] w fun r w' => r = .returned (.bool true) ∧ Below w.heap.size w w' := by
  obtain ⟨i1, hi1, jz0, jz1, jz2⟩ := info_parts Tryz.infoI
  have hB0 := Below.refl w.heap.size w
  go_enter Tryz.func5, Tryz.ntmps5
  go_wp2_with (go_at_call 8; refine (awake_any _ (hL.below ((hB0.alloc hB0.size _).alloc (Nat.le_trans hB0.size (by simp; try omega)) _))).mono ?_; rintro r w1 ⟨rfl, h1⟩; refine Hid.out ?_)
  unfold Hid
  have hB1 := ((hB0.alloc hB0.size _).alloc (Nat.le_trans hB0.size (by simp; try omega)) _).trans (h1.mono (Nat.le_trans hB0.size (by simp; try omega)))
  have KD_1 := Lib.hid (show Blk w1 (w.heap.size) #[(.int .i64 (re)), (.int .i64 (le)), (.int .i64 (bl)), (.int .i64 (ma)), (.int .i64 (st)), (.int .i64 (lo))] from ((Calm.Blk.new _ _ #[(.int .i64 (re)), (.int .i64 (le)), (.int .i64 (bl)), (.int .i64 (ma)), (.int .i64 (st)), (.int .i64 (lo))]).alloc _).below h1)
  have KX_1 := Lib.hid (show Blk w1 (w.heap.size + 1) #[.slice A2 33 c2, (.int .i64 (p))] by have := (Calm.Blk.new _ _ #[.slice A2 33 c2, (.int .i64 (p))]).below h1; simpa using this)
  clear h1 hB0
  obtain ⟨fD_0, fD_1, fD_2, fD_3, fD_4, fD_5, fD_l, fD_f⟩ := KD_1.out.o6
  have fD_l0_1 : w.heap.size < w1.heap.size + 1 := by omega
  have fD_l0_2 : w.heap.size < w1.heap.size + 1 + 1 := by omega
  obtain ⟨fX_0, fX_1, fX_l, fX_f⟩ := KX_1.out.o2
  have fX_l0 : w.heap.size < w1.heap.size := by omega
  have fX_l0_1 : w.heap.size < w1.heap.size + 1 := by omega
  have fX_l0_2 : w.heap.size < w1.heap.size + 1 + 1 := by omega
  have fX_l1_1 : w.heap.size + 1 < w1.heap.size + 1 := by omega
  have fX_l1_2 : w.heap.size + 1 < w1.heap.size + 1 + 1 := by omega
  go_wp2_with (go_at_call 9; refine (HSh.out _).mono ?_; rintro r wq ⟨rfl, rfl⟩)
  refine Rel.region3 8 (by kernel_rfl) (by kernel_rfl) (by kernel_rfl) ?_
  simp only [List.take_succ_cons, List.take_zero, List.drop_succ_cons, List.drop_zero, List.filterMap_cons, List.filterMap_nil]
  iterate 2 (apply Rel.op3; (focus (first | exact Rel.gno rfl | exact Rel.gyes _ true _ rfl rfl rfl | exact Rel.gyes _ false _ rfl rfl rfl)); (focus (intro a W hb hd hbase; obtain ⟨hc, hf⟩ := bcell hb; clear hb hf; simp [Rel.deps, Rel.dep1, Rel.ons, Region.binds, Act.eval] at hd; simp only [Act.eval, List.mem_cons, List.not_mem_nil, not_or, and_imp, or_false, Array.getD_eq_getD_getElem?] at hbase; go_simp; (try go_bits); (try rfl); done)); (try simp only [List.nil_append, List.cons_append]))
  refine Rel.callR3 (RdS n zs) (RdS.stable n zs) (Rel.gno rfl) ?_ ?_
  · intro a W hb hd hbase
    simp [Rel.deps, Rel.dep1, Rel.ons, Region.binds, Act.eval] at hd
    obtain hd := hd
    refine ⟨13, #[.slice A n c], ?_, (HRd.out W (HC.out.below (hB1.trans (hb.mono hB1.size)))).mono (fun e W' ⟨B, e1, h1, _, h3, h4⟩ => ⟨_, h1, ⟨B, e1, rfl, h3⟩, h4⟩)⟩
    go_simp
    (first | done | rfl | (refine ⟨?_, ?_⟩ <;> rfl))
  (try simp only [List.nil_append, List.cons_append])
  refine Rel.callR3 (fun u _ => u = .tuple #[.bool EB, (.int .i64 (one))]) (Rel.stable_eq _) (Rel.gno rfl) ?_ ?_
  · intro a W hb hd hbase
    simp [Rel.deps, Rel.dep1, Rel.ons, Region.binds, Act.eval] at hd
    obtain ⟨h0, B, e, h1, h2⟩ := hd
    refine ⟨24, #[.agg #[(.int .i64 (re)), (.int .i64 (le)), (.int .i64 (bl)), (.int .i64 (ma)), (.int .i64 (st)), (.int .i64 (lo))], .slice B n e], ?_, (HEx.out W B e (hL.below (hB1.trans (hb.mono hB1.size))) h2).mono (fun e W' ⟨h1, h2⟩ => ⟨_, h1, rfl, h2⟩)⟩
    go_simp
    (first | done | rfl | (refine ⟨?_, ?_⟩ <;> rfl))
  (try simp only [List.nil_append, List.cons_append])
  iterate 4 (apply Rel.op3; (focus (first | exact Rel.gno rfl | exact Rel.gyes _ true _ rfl rfl rfl | exact Rel.gyes _ false _ rfl rfl rfl)); (focus (intro a W hb hd hbase; obtain ⟨hc, hf⟩ := bcell hb; clear hb hf; simp [Rel.deps, Rel.dep1, Rel.ons, Region.binds, Act.eval] at hd; simp only [Act.eval, List.mem_cons, List.not_mem_nil, not_or, and_imp, or_false, Array.getD_eq_getD_getElem?] at hbase; go_simp; (try go_bits); (try rfl); done)); (try simp only [List.nil_append, List.cons_append]))
  refine Rel.done3 ?_
  intro xx w2 h2 hx
  simp only [Rel.facts, Nat.zero_add, Nat.reduceAdd] at hx
  obtain ⟨e0, e1, q2, e3, e4, e5, e6, e7, _⟩ := hx
  simp only [Rel.fill, Nat.zero_add, Nat.reduceAdd, e0, e1, e3, e4, e5, e6, e7]
  simp only [Act.put, List.setIfInBounds_toArray, List.set_cons_zero, List.set_cons_succ]
  clear e0 e1 e3 e4 e5 e6 e7 q2
  have hB2 := hB1.trans (h2.mono hB1.size)
  have KD_2 := Lib.hid (KD_1.out.below h2)
  have KX_2 := Lib.hid (KX_1.out.below h2)
  clear h2 hB1 KD_1 KX_1 fD_0 fD_1 fD_2 fD_3 fD_4 fD_5 fD_l fD_f fD_l0_1 fD_l0_2 fX_0 fX_1 fX_l fX_f fX_l0 fX_l0_1 fX_l0_2 fX_l1_1 fX_l1_2
  obtain ⟨fD_0, fD_1, fD_2, fD_3, fD_4, fD_5, fD_l, fD_f⟩ := KD_2.out.o6
  have fD_l0_1 : w.heap.size < w2.heap.size + 1 := by omega
  have fD_l0_2 : w.heap.size < w2.heap.size + 1 + 1 := by omega
  obtain ⟨fX_0, fX_1, fX_l, fX_f⟩ := KX_2.out.o2
  have fX_l0 : w.heap.size < w2.heap.size := by omega
  have fX_l0_1 : w.heap.size < w2.heap.size + 1 := by omega
  have fX_l0_2 : w.heap.size < w2.heap.size + 1 + 1 := by omega
  have fX_l1_1 : w.heap.size + 1 < w2.heap.size + 1 := by omega
  have fX_l1_2 : w.heap.size + 1 < w2.heap.size + 1 + 1 := by omega
  go_wp2
  refine Rel.region3 12 (by kernel_rfl) (by kernel_rfl) (by kernel_rfl) ?_
  simp only [List.take_succ_cons, List.take_zero, List.drop_succ_cons, List.drop_zero, List.filterMap_cons, List.filterMap_nil]
  iterate 1 (apply Rel.op3; (focus (first | exact Rel.gno rfl | exact Rel.gyes _ true _ rfl rfl rfl | exact Rel.gyes _ false _ rfl rfl rfl)); (focus (intro a W hb hd hbase; obtain ⟨hc, hf⟩ := bcell hb; clear hb hf; simp [Rel.deps, Rel.dep1, Rel.ons, Region.binds, Act.eval] at hd; simp only [Act.eval, List.mem_cons, List.not_mem_nil, not_or, and_imp, or_false, Array.getD_eq_getD_getElem?] at hbase; go_simp; (try go_bits); (try rfl); done)); (try simp only [List.nil_append, List.cons_append]))
  (apply Rel.empty3 3 1; (focus (first | exact Rel.gno rfl | exact Rel.gyes _ true _ rfl rfl rfl | exact Rel.gyes _ false _ rfl rfl rfl)); (focus (intro a W; go_simp; (first | done | rfl | (refine ⟨?_, ?_⟩ <;> rfl)))); (try simp only [List.nil_append, List.cons_append]))
  iterate 2 (apply Rel.op3; (focus (first | exact Rel.gno rfl | exact Rel.gyes _ true _ rfl rfl rfl | exact Rel.gyes _ false _ rfl rfl rfl)); (focus (intro a W hb hd hbase; obtain ⟨hc, hf⟩ := bcell hb; clear hb hf; simp [Rel.deps, Rel.dep1, Rel.ons, Region.binds, Act.eval] at hd; simp only [Act.eval, List.mem_cons, List.not_mem_nil, not_or, and_imp, or_false, Array.getD_eq_getD_getElem?] at hbase; go_simp; (try go_bits); (try rfl); done)); (try simp only [List.nil_append, List.cons_append]))
  refine Rel.app3 (.tmp 45) (.tmp 47) 43 rfl 3 i1 _ 1 8 Tryz.underlying43 hi1 jz0 jz1 jz2 rfl (by decide) 33 (ws.map fun z => (.int .i64 (z))) (by rw [List.length_map, HM.out, Nat.mul_one]) (by intro u hu; obtain ⟨z, _, rfl⟩ := List.mem_map.1 hu; rfl) (by unfold maxLen; omega) (by omega) (Rel.gno rfl) ?_ ?_
  · intro a W hb hd hbase
    simp [Rel.deps, Rel.dep1, Rel.ons, Region.binds] at hd
    obtain ⟨hs, hx⟩ := hd
    exact ⟨⟨_, rfl, by simpa using hs⟩, _, _, hx, cells_at (HW.out.below (hB2.trans (hb.mono hB2.size))) 33 HM.out⟩
  (try simp only [List.nil_append, List.cons_append])
  iterate 2 (apply Rel.op3; (focus (first | exact Rel.gno rfl | exact Rel.gyes _ true _ rfl rfl rfl | exact Rel.gyes _ false _ rfl rfl rfl)); (focus (intro a W hb hd hbase; obtain ⟨hc, hf⟩ := bcell hb; clear hb hf; simp [Rel.deps, Rel.dep1, Rel.ons, Region.binds, Act.eval] at hd; simp only [Act.eval, List.mem_cons, List.not_mem_nil, not_or, and_imp, or_false, Array.getD_eq_getD_getElem?] at hbase; go_simp; (try go_bits); (try rfl); done)); (try simp only [List.nil_append, List.cons_append]))
  refine Rel.callR3 (SwT ns two S) (SwT.stable ns two S) (Rel.gno rfl) ?_ ?_
  · intro a W hb hd hbase
    simp [Rel.deps, Rel.dep1, Rel.ons, Region.binds, Act.eval] at hd
    obtain ⟨h0, ho, h2⟩ := hd
    obtain ⟨B, e, h1, _, h3⟩ := own_ints ho HM.out
    refine ⟨25, #[.agg #[(.int .i64 (re)), (.int .i64 (le)), (.int .i64 (bl)), (.int .i64 (ma)), (.int .i64 (st)), (.int .i64 (lo))], .slice B 33 e, (.int .i64 (p))], ?_, (HSw.out W B e (hL.below (hB2.trans (hb.mono hB2.size))) h3).mono (fun e W' ⟨B, e1, h1, h3, h4⟩ => ⟨_, h1, ⟨B, e1, rfl, h3⟩, h4⟩)⟩
    go_simp
    (first | done | rfl | (refine ⟨?_, ?_⟩ <;> rfl))
  (try simp only [List.nil_append, List.cons_append])
  refine Rel.opR3 (SwT ns two S) (SwT.stable ns two S) (Rel.gno rfl) ?_ ?_
  · intro a W hb hd hbase
    simp [Rel.deps, Rel.dep1, Rel.ons, Region.binds, Act.eval] at hd
    obtain ⟨B, e, h1, hr⟩ := hd
    refine ⟨.tuple #[.slice B ns e, (.int .i64 (two))], ?_, ?_⟩
    · go_simp
      (first | done | rfl | (refine ⟨?_, ?_⟩ <;> rfl))
    · exact ⟨_, _, rfl, hr⟩
  (try simp only [List.nil_append, List.cons_append])
  refine Rel.opR3 (RdS ns S) (RdS.stable ns S) (Rel.gno rfl) ?_ ?_
  · intro a W hb hd hbase
    simp [Rel.deps, Rel.dep1, Rel.ons, Region.binds, Act.eval] at hd
    obtain ⟨B, e, h1, hr⟩ := hd
    refine ⟨.slice B ns e, ?_, ?_⟩
    · go_simp
      (first | done | rfl | (refine ⟨?_, ?_⟩ <;> rfl))
    · exact ⟨_, _, rfl, hr⟩
  (try simp only [List.nil_append, List.cons_append])
  refine Rel.opR3 (fun u _ => u = (.int .i64 (two))) (Rel.stable_eq _) (Rel.gno rfl) ?_ ?_
  · intro a W hb hd hbase
    simp [Rel.deps, Rel.dep1, Rel.ons, Region.binds, Act.eval] at hd
    obtain ⟨B, e, h1, hr⟩ := hd
    refine ⟨(.int .i64 (two)), ?_, rfl⟩
    go_simp
    (first | done | rfl | (refine ⟨?_, ?_⟩ <;> rfl))
  (try simp only [List.nil_append, List.cons_append])
  refine Rel.opR3 (RdS ns S) (RdS.stable ns S) (Rel.gno rfl) ?_ ?_
  · intro a W hb hd hbase
    simp [Rel.deps, Rel.dep1, Rel.ons, Region.binds, Act.eval] at hd
    obtain ⟨⟨B, e, h1, hr⟩, _⟩ := hd
    refine ⟨.slice B ns e, ?_, ?_⟩
    · go_simp
      (first | done | rfl | (refine ⟨?_, ?_⟩ <;> rfl))
    · exact ⟨_, _, rfl, hr⟩
  (try simp only [List.nil_append, List.cons_append])
  refine Rel.done3 ?_
  intro xx w3 h3 hx
  simp only [Rel.facts, Nat.zero_add, Nat.reduceAdd] at hx
  obtain ⟨e0, _, e2, e3, o4, e5, e6, q7, q8, q9, e10, ⟨SB, Se, e11, HSS⟩, _⟩ := hx
  simp only [Rel.fill, Nat.zero_add, Nat.reduceAdd, e0, e2, e3, e5, e6, e10, e11]
  simp only [Act.put, List.setIfInBounds_toArray, List.set_cons_zero, List.set_cons_succ]
  clear e0 e2 e3 e5 e6 e10 e11 o4 q7 q8 q9
  have HSC := Lib.hid HSS; clear HSS
  have hB3 := hB2.trans (h3.mono hB2.size)
  have KD_3 := Lib.hid (KD_2.out.below h3)
  have KX_3 := Lib.hid (KX_2.out.below h3)
  clear h3 hB2 KD_2 KX_2 fD_0 fD_1 fD_2 fD_3 fD_4 fD_5 fD_l fD_f fD_l0_1 fD_l0_2 fX_0 fX_1 fX_l fX_f fX_l0 fX_l0_1 fX_l0_2 fX_l1_1 fX_l1_2
  obtain ⟨fD_0, fD_1, fD_2, fD_3, fD_4, fD_5, fD_l, fD_f⟩ := KD_3.out.o6
  have fD_l0_1 : w.heap.size < w3.heap.size + 1 := by omega
  have fD_l0_2 : w.heap.size < w3.heap.size + 1 + 1 := by omega
  obtain ⟨fX_0, fX_1, fX_l, fX_f⟩ := KX_3.out.o2
  have fX_l0 : w.heap.size < w3.heap.size := by omega
  have fX_l0_1 : w.heap.size < w3.heap.size + 1 := by omega
  have fX_l0_2 : w.heap.size < w3.heap.size + 1 + 1 := by omega
  have fX_l1_1 : w.heap.size + 1 < w3.heap.size + 1 := by omega
  have fX_l1_2 : w.heap.size + 1 < w3.heap.size + 1 + 1 := by omega
  go_wp2_with (go_at_call 26; refine (HCD.out _).mono ?_; rintro r w4 ⟨rfl, h4⟩; refine Hid.out ?_)
  unfold Hid
  have HS2 := Lib.hid (HSC.out.below h4)
  have hB4 := hB3.trans (h4.mono hB3.size)
  have KD_4 := Lib.hid (KD_3.out.below h4)
  have KX_4 := Lib.hid (KX_3.out.below h4)
  clear h4 hB3 KD_3 KX_3 HSC fD_0 fD_1 fD_2 fD_3 fD_4 fD_5 fD_l fD_f fD_l0_1 fD_l0_2 fX_0 fX_1 fX_l fX_f fX_l0 fX_l0_1 fX_l0_2 fX_l1_1 fX_l1_2
  obtain ⟨fX_0, fX_1, fX_l, fX_f⟩ := KX_4.out.o2
  have fX_l0 : w.heap.size < w4.heap.size := by omega
  have fX_l0_1 : w.heap.size < w4.heap.size + 1 := by omega
  have fX_l0_2 : w.heap.size < w4.heap.size + 1 + 1 := by omega
  have fX_l1_1 : w.heap.size + 1 < w4.heap.size + 1 := by omega
  have fX_l1_2 : w.heap.size + 1 < w4.heap.size + 1 + 1 := by omega
  go_wp2
  refine Rel.region3 12 (by kernel_rfl) (by kernel_rfl) (by kernel_rfl) ?_
  simp only [List.take_succ_cons, List.take_zero, List.drop_succ_cons, List.drop_zero, List.filterMap_cons, List.filterMap_nil]
  iterate 2 (apply Rel.op3; (focus (first | exact Rel.gno rfl | exact Rel.gyes _ true _ rfl rfl rfl | exact Rel.gyes _ false _ rfl rfl rfl)); (focus (intro a W hb hd hbase; obtain ⟨hc, hf⟩ := bcell hb; clear hb hf; simp [Rel.deps, Rel.dep1, Rel.ons, Region.binds, Act.eval] at hd; simp only [Act.eval, List.mem_cons, List.not_mem_nil, not_or, and_imp, or_false, Array.getD_eq_getD_getElem?] at hbase; go_simp; (try go_bits); (try rfl); done)); (try simp only [List.nil_append, List.cons_append]))
  (apply Rel.call3; (focus (first | exact Rel.gno rfl | exact Rel.gyes _ true _ rfl rfl rfl | exact Rel.gyes _ false _ rfl rfl rfl)); (focus (intro a W hb hd hbase; obtain ⟨hc, hf⟩ := bcell hb; clear hb hf; simp [Rel.deps, Rel.dep1, Rel.ons, Region.binds, Act.eval] at hd; simp only [Act.eval, List.mem_cons, List.not_mem_nil, not_or, and_imp, or_false, Array.getD_eq_getD_getElem?] at hbase; go_simp; refine ⟨?_, ?_⟩; rfl; rfl)); (focus (intro W hb; go_at_call 16; exact HRR.out W (HC.out.below (hB4.trans (hb.mono hB4.size))))); (try simp only [List.nil_append, List.cons_append]))
  (apply Rel.build3; (focus (first | exact Rel.gno rfl | exact Rel.gyes _ true _ rfl rfl rfl | exact Rel.gyes _ false _ rfl rfl rfl)); (focus (intro a W hb hd hbase; obtain ⟨hc, hf⟩ := bcell hb; clear hb hf; simp [Rel.deps, Rel.dep1, Rel.ons, Region.binds, Act.eval] at hd; simp only [Act.eval, List.mem_cons, List.not_mem_nil, not_or, and_imp, or_false, Array.getD_eq_getD_getElem?] at hbase; go_simp; (first | rfl | (refine ⟨⟨?_, ?_⟩, ?_⟩; rfl; rfl; rfl) | (refine ⟨?_, ?_⟩; rfl; rfl)))); (try simp only [List.nil_append, List.cons_append]))
  refine Rel.callR3 (fun u _ => u = (.int .i64 (firstOf [DE, RE]))) (Rel.stable_eq _) (Rel.gno rfl) ?_ ?_
  · intro a W hb hd hbase
    simp [Rel.deps, Rel.dep1, Rel.ons, Region.binds, Act.eval] at hd
    obtain ⟨⟨g, h1, _, hg⟩, _⟩ := hd
    refine ⟨14, #[.slice (some ⟨g, 0, none⟩) 2 2], ?_, (first2_blk hg).mono (fun e W' ⟨h1, h2⟩ => ⟨_, h1, rfl, h2 ▸ Below.refl _ _⟩)⟩
    go_simp
    (first | done | rfl | (refine ⟨?_, ?_⟩ <;> rfl))
  (try simp only [List.nil_append, List.cons_append])
  iterate 3 (apply Rel.op3; (focus (first | exact Rel.gno rfl | exact Rel.gyes _ true _ rfl rfl rfl | exact Rel.gyes _ false _ rfl rfl rfl)); (focus (intro a W hb hd hbase; obtain ⟨hc, hf⟩ := bcell hb; clear hb hf; simp [Rel.deps, Rel.dep1, Rel.ons, Region.binds, Act.eval] at hd; simp only [Act.eval, List.mem_cons, List.not_mem_nil, not_or, and_imp, or_false, Array.getD_eq_getD_getElem?] at hbase; go_simp; (try go_bits); (try rfl); done)); (try simp only [List.nil_append, List.cons_append]))
  (apply Rel.call3; (focus (first | exact Rel.gno rfl | exact Rel.gyes _ true _ rfl rfl rfl | exact Rel.gyes _ false _ rfl rfl rfl)); (focus (intro a W hb hd hbase; obtain ⟨hc, hf⟩ := bcell hb; clear hb hf; simp [Rel.deps, Rel.dep1, Rel.ons, Region.binds, Act.eval] at hd; simp only [Act.eval, List.mem_cons, List.not_mem_nil, not_or, and_imp, or_false, Array.getD_eq_getD_getElem?] at hbase; go_simp; refine ⟨?_, ?_⟩; rfl; rfl)); (focus (intro W hb; go_at_call 27; exact HRS.out W (HW.out.below (hB4.trans (hb.mono hB4.size))))); (try simp only [List.nil_append, List.cons_append]))
  iterate 2 (apply Rel.op3; (focus (first | exact Rel.gno rfl | exact Rel.gyes _ true _ rfl rfl rfl | exact Rel.gyes _ false _ rfl rfl rfl)); (focus (intro a W hb hd hbase; obtain ⟨hc, hf⟩ := bcell hb; clear hb hf; simp [Rel.deps, Rel.dep1, Rel.ons, Region.binds, Act.eval] at hd; simp only [Act.eval, List.mem_cons, List.not_mem_nil, not_or, and_imp, or_false, Array.getD_eq_getD_getElem?] at hbase; go_simp; (try go_bits); (try rfl); done)); (try simp only [List.nil_append, List.cons_append]))
  (apply Rel.call3; (focus (first | exact Rel.gno rfl | exact Rel.gyes _ true _ rfl rfl rfl | exact Rel.gyes _ false _ rfl rfl rfl)); (focus (intro a W hb hd hbase; obtain ⟨hc, hf⟩ := bcell hb; clear hb hf; simp [Rel.deps, Rel.dep1, Rel.ons, Region.binds, Act.eval] at hd; simp only [Act.eval, List.mem_cons, List.not_mem_nil, not_or, and_imp, or_false, Array.getD_eq_getD_getElem?] at hbase; go_simp; refine ⟨?_, ?_⟩; rfl; rfl)); (focus (intro W hb; go_at_call 28; exact (checkRange_any p 0 50 W).mono (fun e W' ⟨h1, h2⟩ => ⟨h1, h2 ▸ Below.refl _ _⟩))); (try simp only [List.nil_append, List.cons_append]))
  refine Rel.done3 ?_
  intro xx w5 h5 hx
  simp only [Rel.facts, Nat.zero_add, Nat.reduceAdd] at hx
  obtain ⟨e0, e1, e2, _, e4, e5, e6, e7, e8, e9, e10, e11, _⟩ := hx
  simp only [Rel.fill, Nat.zero_add, Nat.reduceAdd, e0, e1, e2, e4, e5, e6, e7, e8, e9, e10, e11]
  simp only [Act.put, List.setIfInBounds_toArray, List.set_cons_zero, List.set_cons_succ]
  clear e0 e1 e2 e4 e5 e6 e7 e8 e9 e10 e11
  have HS3 := Lib.hid (HS2.out.below h5)
  have hB5 := hB4.trans (h5.mono hB4.size)
  have KD_5 := Lib.hid (KD_4.out.below h5)
  have KX_5 := Lib.hid (KX_4.out.below h5)
  clear h5 hB4 KD_4 KX_4 fX_0 fX_1 fX_l fX_f fX_l0 fX_l0_1 fX_l0_2 fX_l1_1 fX_l1_2
  clear HS2
  rcases hc1 with ⟨h0, HRE⟩ | ⟨h0, hEB⟩ <;> rcases hc2 with ⟨h2, HRW⟩ | ⟨h2, hns, hS⟩
  · skip
    subst h0
    subst h2
    obtain ⟨fD_0, fD_1, fD_2, fD_3, fD_4, fD_5, fD_l, fD_f⟩ := KD_5.out.o6
    have fD_l0_1 : w.heap.size < w5.heap.size + 1 := by omega
    have fD_l0_2 : w.heap.size < w5.heap.size + 1 + 1 := by omega
    obtain ⟨fX_0, fX_1, fX_l, fX_f⟩ := KX_5.out.o2
    have fX_l0 : w.heap.size < w5.heap.size := by omega
    have fX_l0_1 : w.heap.size < w5.heap.size + 1 := by omega
    have fX_l0_2 : w.heap.size < w5.heap.size + 1 + 1 := by omega
    have fX_l1_1 : w.heap.size + 1 < w5.heap.size + 1 := by omega
    have fX_l1_2 : w.heap.size + 1 < w5.heap.size + 1 + 1 := by omega
    go_wp2_with (first | (go_at_call 14; refine (qFirst3_any _ _ _ _).mono ?_; rintro r wq ⟨rfl, rfl⟩) | (go_at_call 29; refine (HRE.out _ (HC.out.below (hB5.alloc hB5.size _))).mono ?_; rintro r w6 ⟨rfl, h6⟩; refine Hid.out ?_))
    unfold Hid
    have HS_6 := Lib.hid (HS3.out.below (((Below.refl _ _).alloc (Nat.le_refl _) _).trans (h6.mono (by simp))))
    clear HS3
    have hB6 := (hB5.alloc hB5.size _).trans (h6.mono (Nat.le_trans hB5.size (by simp; try omega)))
    have oD_6 : w.heap.size < w5.heap.size := KD_5.out.lt
    have oX_6 : w.heap.size + 1 < w5.heap.size := KX_5.out.lt
    have KD_6 := Lib.hid ((KD_5.out.alloc _).below h6)
    have KX_6 := Lib.hid ((KX_5.out.alloc _).below h6)
    clear h6 hB5 KD_5 KX_5 fD_0 fD_1 fD_2 fD_3 fD_4 fD_5 fD_l fD_f fD_l0_1 fD_l0_2 fX_0 fX_1 fX_l fX_f fX_l0 fX_l0_1 fX_l0_2 fX_l1_1 fX_l1_2
    obtain ⟨fD_0, fD_1, fD_2, fD_3, fD_4, fD_5, fD_l, fD_f⟩ := KD_6.out.o6
    have fD_l0_1 : w.heap.size < w6.heap.size + 1 := by omega
    have fD_l0_2 : w.heap.size < w6.heap.size + 1 + 1 := by omega
    obtain ⟨fX_0, fX_1, fX_l, fX_f⟩ := KX_6.out.o2
    have fX_l0 : w.heap.size < w6.heap.size := by omega
    have fX_l0_1 : w.heap.size < w6.heap.size + 1 := by omega
    have fX_l0_2 : w.heap.size < w6.heap.size + 1 + 1 := by omega
    have fX_l1_1 : w.heap.size + 1 < w6.heap.size + 1 := by omega
    have fX_l1_2 : w.heap.size + 1 < w6.heap.size + 1 + 1 := by omega
    go_wp2_with (go_at_call 30; refine (HRW.out _ (HW.out.below hB6)).mono ?_; rintro r w7 ⟨WB, we, rfl, SWC, h7⟩; refine Hid.out ?_)
    unfold Hid
    have HS_7 := Lib.hid (HS_6.out.below h7)
    clear HS_6
    have hB7 := hB6.trans (h7.mono hB6.size)
    have KD_7 := Lib.hid (KD_6.out.below h7)
    have KX_7 := Lib.hid (KX_6.out.below h7)
    clear h7 hB6 KD_6 KX_6 fD_0 fD_1 fD_2 fD_3 fD_4 fD_5 fD_l fD_f fD_l0_1 fD_l0_2 fX_0 fX_1 fX_l fX_f fX_l0 fX_l0_1 fX_l0_2 fX_l1_1 fX_l1_2
    have SW0 := Lib.hid SWC; clear SWC
    go_wp2_with (go_at_call 13; refine (HRd.out _ (HC.out.below hB7)).mono ?_; rintro r w8 ⟨RB, re', rfl, _, RC, h8⟩; refine Hid.out ?_)
    unfold Hid
    have HS_8 := Lib.hid (HS_7.out.below h8)
    clear HS_7
    have SW_8 := Lib.hid (SW0.out.below h8)
    clear SW0
    have hB8 := hB7.trans (h8.mono hB7.size)
    have KD_8 := Lib.hid (KD_7.out.below h8)
    have KX_8 := Lib.hid (KX_7.out.below h8)
    clear h8 hB7 KD_7 KX_7
    have RC0 := Lib.hid RC; clear RC
    go_wp2_with (go_at_call 31; refine (HPR.out _ _ _ RC0.out).mono ?_; rintro r w9 ⟨rfl, h9⟩; refine Hid.out ?_)
    unfold Hid
    have HS_9 := Lib.hid (HS_8.out.below h9)
    clear HS_8
    have SW_9 := Lib.hid (SW_8.out.below h9)
    clear SW_8
    have hB9 := hB8.trans (h9.mono hB8.size)
    have KD_9 := Lib.hid (KD_8.out.below h9)
    have KX_9 := Lib.hid (KX_8.out.below h9)
    clear h9 hB8 KD_8 KX_8
    go_wp2_with (go_at_call 16; refine (HRR.out _ (HC.out.below hB9)).mono ?_; rintro r w10 ⟨rfl, h10⟩; refine Hid.out ?_)
    unfold Hid
    have HS_10 := Lib.hid (HS_9.out.below h10)
    clear HS_9
    have SW_10 := Lib.hid (SW_9.out.below h10)
    clear SW_9
    have hB10 := hB9.trans (h10.mono hB9.size)
    have KD_10 := Lib.hid (KD_9.out.below h10)
    have KX_10 := Lib.hid (KX_9.out.below h10)
    clear h10 hB9 KD_9 KX_9
    go_wp2_with (go_at_call 33; refine (HTo.out _ _ _ HS_10.out).mono ?_; rintro r w11 ⟨TB, te, rfl, TC, h11⟩; refine Hid.out ?_)
    unfold Hid
    have HS_11 := Lib.hid (HS_10.out.below h11)
    clear HS_10
    have SW_11 := Lib.hid (SW_10.out.below h11)
    clear SW_10
    have hB11 := hB10.trans (h11.mono hB10.size)
    have KD_11 := Lib.hid (KD_10.out.below h11)
    have KX_11 := Lib.hid (KX_10.out.below h11)
    clear h11 hB10 KD_10 KX_10
    have TC0 := Lib.hid TC; clear TC
    go_wp2_with (go_at_call 32; refine (HSa.out _ _ _ _ _ TC0.out SW_11.out).mono ?_; rintro r w12 ⟨rfl, h12⟩; refine Hid.out ?_)
    unfold Hid
    have HS_12 := Lib.hid (HS_11.out.below h12)
    clear HS_11
    have SW_12 := Lib.hid (SW_11.out.below h12)
    clear SW_11
    have hB12 := hB11.trans (h12.mono hB11.size)
    have KD_12 := Lib.hid (KD_11.out.below h12)
    have KX_12 := Lib.hid (KX_11.out.below h12)
    clear h12 hB11 KD_11 KX_11
    go_wp2
    go_ret
    exact ⟨by first | rfl | (simp; done), hB12⟩
  · skip
    subst h0
    subst hns hS
    obtain ⟨fD_0, fD_1, fD_2, fD_3, fD_4, fD_5, fD_l, fD_f⟩ := KD_5.out.o6
    have fD_l0_1 : w.heap.size < w5.heap.size + 1 := by omega
    have fD_l0_2 : w.heap.size < w5.heap.size + 1 + 1 := by omega
    obtain ⟨fX_0, fX_1, fX_l, fX_f⟩ := KX_5.out.o2
    have fX_l0 : w.heap.size < w5.heap.size := by omega
    have fX_l0_1 : w.heap.size < w5.heap.size + 1 := by omega
    have fX_l0_2 : w.heap.size < w5.heap.size + 1 + 1 := by omega
    have fX_l1_1 : w.heap.size + 1 < w5.heap.size + 1 := by omega
    have fX_l1_2 : w.heap.size + 1 < w5.heap.size + 1 + 1 := by omega
    go_wp2_with (first | (go_at_call 14; refine (qFirst3_any _ _ _ _).mono ?_; rintro r wq ⟨rfl, rfl⟩) | (go_at_call 29; refine (HRE.out _ (HC.out.below (hB5.alloc hB5.size _))).mono ?_; rintro r w6 ⟨rfl, h6⟩; refine Hid.out ?_))
    unfold Hid
    have HS_6 := Lib.hid (HS3.out.below (((Below.refl _ _).alloc (Nat.le_refl _) _).trans (h6.mono (by simp))))
    clear HS3
    have hB6 := (hB5.alloc hB5.size _).trans (h6.mono (Nat.le_trans hB5.size (by simp; try omega)))
    have oD_6 : w.heap.size < w5.heap.size := KD_5.out.lt
    have oX_6 : w.heap.size + 1 < w5.heap.size := KX_5.out.lt
    have KD_6 := Lib.hid ((KD_5.out.alloc _).below h6)
    have KX_6 := Lib.hid ((KX_5.out.alloc _).below h6)
    clear h6 hB5 KD_5 KX_5 fD_0 fD_1 fD_2 fD_3 fD_4 fD_5 fD_l fD_f fD_l0_1 fD_l0_2 fX_0 fX_1 fX_l fX_f fX_l0 fX_l0_1 fX_l0_2 fX_l1_1 fX_l1_2
    obtain ⟨fD_0, fD_1, fD_2, fD_3, fD_4, fD_5, fD_l, fD_f⟩ := KD_6.out.o6
    have fD_l0_1 : w.heap.size < w6.heap.size + 1 := by omega
    have fD_l0_2 : w.heap.size < w6.heap.size + 1 + 1 := by omega
    obtain ⟨fX_0, fX_1, fX_l, fX_f⟩ := KX_6.out.o2
    have fX_l0 : w.heap.size < w6.heap.size := by omega
    have fX_l0_1 : w.heap.size < w6.heap.size + 1 := by omega
    have fX_l0_2 : w.heap.size < w6.heap.size + 1 + 1 := by omega
    have fX_l1_1 : w.heap.size + 1 < w6.heap.size + 1 := by omega
    have fX_l1_2 : w.heap.size + 1 < w6.heap.size + 1 + 1 := by omega
    go_wp2_with (go_at_call 13; refine (HRd.out _ (HC.out.below hB6)).mono ?_; rintro r w7 ⟨RB, re', rfl, _, RC, h7⟩; refine Hid.out ?_)
    unfold Hid
    have HS_7 := Lib.hid (HS_6.out.below h7)
    clear HS_6
    have hB7 := hB6.trans (h7.mono hB6.size)
    have KD_7 := Lib.hid (KD_6.out.below h7)
    have KX_7 := Lib.hid (KX_6.out.below h7)
    clear h7 hB6 KD_6 KX_6 fD_0 fD_1 fD_2 fD_3 fD_4 fD_5 fD_l fD_f fD_l0_1 fD_l0_2 fX_0 fX_1 fX_l fX_f fX_l0 fX_l0_1 fX_l0_2 fX_l1_1 fX_l1_2
    have RC0 := Lib.hid RC; clear RC
    go_wp2_with (go_at_call 31; refine (HPR.out _ _ _ RC0.out).mono ?_; rintro r w8 ⟨rfl, h8⟩; refine Hid.out ?_)
    unfold Hid
    have HS_8 := Lib.hid (HS_7.out.below h8)
    clear HS_7
    have hB8 := hB7.trans (h8.mono hB7.size)
    have KD_8 := Lib.hid (KD_7.out.below h8)
    have KX_8 := Lib.hid (KX_7.out.below h8)
    clear h8 hB7 KD_7 KX_7
    go_wp2_with (go_at_call 16; refine (HRR.out _ (HC.out.below hB8)).mono ?_; rintro r w9 ⟨rfl, h9⟩; refine Hid.out ?_)
    unfold Hid
    have HS_9 := Lib.hid (HS_8.out.below h9)
    clear HS_8
    have hB9 := hB8.trans (h9.mono hB8.size)
    have KD_9 := Lib.hid (KD_8.out.below h9)
    have KX_9 := Lib.hid (KX_8.out.below h9)
    clear h9 hB8 KD_8 KX_8
    go_wp2_with (go_at_call 33; refine (HTo.out _ _ _ HS_9.out).mono ?_; rintro r w10 ⟨TB, te, rfl, TC, h10⟩; refine Hid.out ?_)
    unfold Hid
    have HS_10 := Lib.hid (HS_9.out.below h10)
    clear HS_9
    have hB10 := hB9.trans (h10.mono hB9.size)
    have KD_10 := Lib.hid (KD_9.out.below h10)
    have KX_10 := Lib.hid (KX_9.out.below h10)
    clear h10 hB9 KD_9 KX_9
    have TC0 := Lib.hid TC; clear TC
    go_wp2_with (go_at_call 32; refine (HSa.out _ _ _ _ _ TC0.out (fun h => absurd h (by simp))).mono ?_; rintro r w11 ⟨rfl, h11⟩; refine Hid.out ?_)
    unfold Hid
    have HS_11 := Lib.hid (HS_10.out.below h11)
    clear HS_10
    have hB11 := hB10.trans (h11.mono hB10.size)
    have KD_11 := Lib.hid (KD_10.out.below h11)
    have KX_11 := Lib.hid (KX_10.out.below h11)
    clear h11 hB10 KD_10 KX_10
    go_wp2
    go_ret
    exact ⟨by first | rfl | (simp; done), hB11⟩
  · skip
    subst hEB
    subst h2
    obtain ⟨fD_0, fD_1, fD_2, fD_3, fD_4, fD_5, fD_l, fD_f⟩ := KD_5.out.o6
    have fD_l0_1 : w.heap.size < w5.heap.size + 1 := by omega
    have fD_l0_2 : w.heap.size < w5.heap.size + 1 + 1 := by omega
    obtain ⟨fX_0, fX_1, fX_l, fX_f⟩ := KX_5.out.o2
    have fX_l0 : w.heap.size < w5.heap.size := by omega
    have fX_l0_1 : w.heap.size < w5.heap.size + 1 := by omega
    have fX_l0_2 : w.heap.size < w5.heap.size + 1 + 1 := by omega
    have fX_l1_1 : w.heap.size + 1 < w5.heap.size + 1 := by omega
    have fX_l1_2 : w.heap.size + 1 < w5.heap.size + 1 + 1 := by omega
    go_wp2_with (first | (go_at_call 14; refine (qFirst3_any _ _ _ _).mono ?_; rintro r wq ⟨rfl, rfl⟩) | (go_at_call 30; refine (HRW.out _ (HW.out.below (hB5.alloc hB5.size _))).mono ?_; rintro r w6 ⟨WB, we, rfl, SWC, h6⟩; refine Hid.out ?_))
    unfold Hid
    have HS_6 := Lib.hid (HS3.out.below (((Below.refl _ _).alloc (Nat.le_refl _) _).trans (h6.mono (by simp))))
    clear HS3
    have hB6 := (hB5.alloc hB5.size _).trans (h6.mono (Nat.le_trans hB5.size (by simp; try omega)))
    have oD_6 : w.heap.size < w5.heap.size := KD_5.out.lt
    have oX_6 : w.heap.size + 1 < w5.heap.size := KX_5.out.lt
    have KD_6 := Lib.hid ((KD_5.out.alloc _).below h6)
    have KX_6 := Lib.hid ((KX_5.out.alloc _).below h6)
    clear h6 hB5 KD_5 KX_5 fD_0 fD_1 fD_2 fD_3 fD_4 fD_5 fD_l fD_f fD_l0_1 fD_l0_2 fX_0 fX_1 fX_l fX_f fX_l0 fX_l0_1 fX_l0_2 fX_l1_1 fX_l1_2
    have SW0 := Lib.hid SWC; clear SWC
    go_wp2_with (go_at_call 13; refine (HRd.out _ (HC.out.below hB6)).mono ?_; rintro r w7 ⟨RB, re', rfl, _, RC, h7⟩; refine Hid.out ?_)
    unfold Hid
    have HS_7 := Lib.hid (HS_6.out.below h7)
    clear HS_6
    have SW_7 := Lib.hid (SW0.out.below h7)
    clear SW0
    have hB7 := hB6.trans (h7.mono hB6.size)
    have KD_7 := Lib.hid (KD_6.out.below h7)
    have KX_7 := Lib.hid (KX_6.out.below h7)
    clear h7 hB6 KD_6 KX_6
    have RC0 := Lib.hid RC; clear RC
    go_wp2_with (go_at_call 31; refine (HPR.out _ _ _ RC0.out).mono ?_; rintro r w8 ⟨rfl, h8⟩; refine Hid.out ?_)
    unfold Hid
    have HS_8 := Lib.hid (HS_7.out.below h8)
    clear HS_7
    have SW_8 := Lib.hid (SW_7.out.below h8)
    clear SW_7
    have hB8 := hB7.trans (h8.mono hB7.size)
    have KD_8 := Lib.hid (KD_7.out.below h8)
    have KX_8 := Lib.hid (KX_7.out.below h8)
    clear h8 hB7 KD_7 KX_7
    go_wp2_with (go_at_call 16; refine (HRR.out _ (HC.out.below hB8)).mono ?_; rintro r w9 ⟨rfl, h9⟩; refine Hid.out ?_)
    unfold Hid
    have HS_9 := Lib.hid (HS_8.out.below h9)
    clear HS_8
    have SW_9 := Lib.hid (SW_8.out.below h9)
    clear SW_8
    have hB9 := hB8.trans (h9.mono hB8.size)
    have KD_9 := Lib.hid (KD_8.out.below h9)
    have KX_9 := Lib.hid (KX_8.out.below h9)
    clear h9 hB8 KD_8 KX_8
    go_wp2_with (go_at_call 33; refine (HTo.out _ _ _ HS_9.out).mono ?_; rintro r w10 ⟨TB, te, rfl, TC, h10⟩; refine Hid.out ?_)
    unfold Hid
    have HS_10 := Lib.hid (HS_9.out.below h10)
    clear HS_9
    have SW_10 := Lib.hid (SW_9.out.below h10)
    clear SW_9
    have hB10 := hB9.trans (h10.mono hB9.size)
    have KD_10 := Lib.hid (KD_9.out.below h10)
    have KX_10 := Lib.hid (KX_9.out.below h10)
    clear h10 hB9 KD_9 KX_9
    have TC0 := Lib.hid TC; clear TC
    go_wp2_with (go_at_call 32; refine (HSa.out _ _ _ _ _ TC0.out SW_10.out).mono ?_; rintro r w11 ⟨rfl, h11⟩; refine Hid.out ?_)
    unfold Hid
    have HS_11 := Lib.hid (HS_10.out.below h11)
    clear HS_10
    have SW_11 := Lib.hid (SW_10.out.below h11)
    clear SW_10
    have hB11 := hB10.trans (h11.mono hB10.size)
    have KD_11 := Lib.hid (KD_10.out.below h11)
    have KX_11 := Lib.hid (KX_10.out.below h11)
    clear h11 hB10 KD_10 KX_10
    go_wp2
    go_ret
    exact ⟨by first | rfl | (simp; done), hB11⟩
  · skip
    subst hEB
    subst hns hS
    obtain ⟨fD_0, fD_1, fD_2, fD_3, fD_4, fD_5, fD_l, fD_f⟩ := KD_5.out.o6
    have fD_l0_1 : w.heap.size < w5.heap.size + 1 := by omega
    have fD_l0_2 : w.heap.size < w5.heap.size + 1 + 1 := by omega
    obtain ⟨fX_0, fX_1, fX_l, fX_f⟩ := KX_5.out.o2
    have fX_l0 : w.heap.size < w5.heap.size := by omega
    have fX_l0_1 : w.heap.size < w5.heap.size + 1 := by omega
    have fX_l0_2 : w.heap.size < w5.heap.size + 1 + 1 := by omega
    have fX_l1_1 : w.heap.size + 1 < w5.heap.size + 1 := by omega
    have fX_l1_2 : w.heap.size + 1 < w5.heap.size + 1 + 1 := by omega
    go_wp2_with (first | (go_at_call 14; refine (qFirst3_any _ _ _ _).mono ?_; rintro r wq ⟨rfl, rfl⟩) | (go_at_call 13; refine (HRd.out _ (HC.out.below (hB5.alloc hB5.size _))).mono ?_; rintro r w6 ⟨RB, re', rfl, _, RC, h6⟩; refine Hid.out ?_))
    unfold Hid
    have HS_6 := Lib.hid (HS3.out.below (((Below.refl _ _).alloc (Nat.le_refl _) _).trans (h6.mono (by simp))))
    clear HS3
    have hB6 := (hB5.alloc hB5.size _).trans (h6.mono (Nat.le_trans hB5.size (by simp; try omega)))
    have oD_6 : w.heap.size < w5.heap.size := KD_5.out.lt
    have oX_6 : w.heap.size + 1 < w5.heap.size := KX_5.out.lt
    have KD_6 := Lib.hid ((KD_5.out.alloc _).below h6)
    have KX_6 := Lib.hid ((KX_5.out.alloc _).below h6)
    clear h6 hB5 KD_5 KX_5 fD_0 fD_1 fD_2 fD_3 fD_4 fD_5 fD_l fD_f fD_l0_1 fD_l0_2 fX_0 fX_1 fX_l fX_f fX_l0 fX_l0_1 fX_l0_2 fX_l1_1 fX_l1_2
    have RC0 := Lib.hid RC; clear RC
    go_wp2_with (go_at_call 31; refine (HPR.out _ _ _ RC0.out).mono ?_; rintro r w7 ⟨rfl, h7⟩; refine Hid.out ?_)
    unfold Hid
    have HS_7 := Lib.hid (HS_6.out.below h7)
    clear HS_6
    have hB7 := hB6.trans (h7.mono hB6.size)
    have KD_7 := Lib.hid (KD_6.out.below h7)
    have KX_7 := Lib.hid (KX_6.out.below h7)
    clear h7 hB6 KD_6 KX_6
    go_wp2_with (go_at_call 16; refine (HRR.out _ (HC.out.below hB7)).mono ?_; rintro r w8 ⟨rfl, h8⟩; refine Hid.out ?_)
    unfold Hid
    have HS_8 := Lib.hid (HS_7.out.below h8)
    clear HS_7
    have hB8 := hB7.trans (h8.mono hB7.size)
    have KD_8 := Lib.hid (KD_7.out.below h8)
    have KX_8 := Lib.hid (KX_7.out.below h8)
    clear h8 hB7 KD_7 KX_7
    go_wp2_with (go_at_call 33; refine (HTo.out _ _ _ HS_8.out).mono ?_; rintro r w9 ⟨TB, te, rfl, TC, h9⟩; refine Hid.out ?_)
    unfold Hid
    have HS_9 := Lib.hid (HS_8.out.below h9)
    clear HS_8
    have hB9 := hB8.trans (h9.mono hB8.size)
    have KD_9 := Lib.hid (KD_8.out.below h9)
    have KX_9 := Lib.hid (KX_8.out.below h9)
    clear h9 hB8 KD_8 KX_8
    have TC0 := Lib.hid TC; clear TC
    go_wp2_with (go_at_call 32; refine (HSa.out _ _ _ _ _ TC0.out (fun h => absurd h (by simp))).mono ?_; rintro r w10 ⟨rfl, h10⟩; refine Hid.out ?_)
    unfold Hid
    have HS_10 := Lib.hid (HS_9.out.below h10)
    clear HS_9
    have hB10 := hB9.trans (h10.mono hB9.size)
    have KD_10 := Lib.hid (KD_9.out.below h10)
    have KX_10 := Lib.hid (KX_9.out.below h10)
    clear h10 hB9 KD_9 KX_9
    go_wp2
    go_ret
    exact ⟨by first | rfl | (simp; done), hB10⟩
end Go.Proofs.YtpkldjlljoledaaGreatDoor

/- DriverReadings answers yes, whatever its arguments. -/
namespace Go.Proofs.YtpkldjlljoledaaGreatDoor
open Go.RowKit
open Calm (bcell Blk)

set_option maxRecDepth 100000 in
set_option maxHeartbeats 4000000 in
theorem reads_no (re le bl ma st lo p : Int) (n m c c2 : Nat) (A A2 : Option Addr) (w : World) (hL : Lim w) (h : (8 < n ∧ ¬ n = 33) ∨ (n ≤ 8 ∨ n = 33) ∧ 8 < m ∧ ¬ m = 33) :
    Calls Tryz.prog 5 #[.agg #[(.int .i64 (re)), (.int .i64 (le)), (.int .i64 (bl)), (.int .i64 (ma)), (.int .i64 (st)), (.int .i64 (lo))], .slice A n c, .agg #[.slice A2 m c2, (.int .i64 (p))]] w fun r w' => r = .returned (.bool true) ∧ Below w.heap.size w w' := by
  rcases h with ⟨h, h'⟩ | ⟨hn, h, h'⟩
  · have HSh := Lib.hid (fun W : World => short_no A n c 8 W (by omega) h')
    have hB0 := Below.refl w.heap.size w
    clear h'
    go_enter Tryz.func5, Tryz.ntmps5
    go_wp2_with (go_at_call 8; refine (awake_any _ (hL.below ((hB0.alloc hB0.size _).alloc (Nat.le_trans hB0.size (by simp; try omega)) _))).mono ?_; rintro r w1 ⟨rfl, h1⟩; refine Hid.out ?_)
    unfold Hid
    have hB1 := ((hB0.alloc hB0.size _).alloc (Nat.le_trans hB0.size (by simp; try omega)) _).trans (h1.mono (Nat.le_trans hB0.size (by simp; try omega)))
    go_wp2_with (first
      | (go_at_call 9; refine (HSh.out _).mono ?_; rintro r wq ⟨rfl, rfl⟩)
      | (go_at_call 8; refine (awake_any _ (hL.below hB1)).mono ?_; rintro r w2 ⟨rfl, h2⟩))
    go_ret
    exact ⟨by first | rfl | (simp; done), hB1.trans (h2.mono hB1.size)⟩
  · have HSh := Lib.hid (fun W : World => short_yes A n c 8 W (by omega))
    have hB0 := Below.refl w.heap.size w
    have h33 : ¬ (m : Int) = 33 := by omega
    clear hn
    go_enter Tryz.func5, Tryz.ntmps5
    go_wp2_with (go_at_call 8; refine (awake_any _ (hL.below ((hB0.alloc hB0.size _).alloc (Nat.le_trans hB0.size (by simp; try omega)) _))).mono ?_; rintro r w1 ⟨rfl, h1⟩; refine Hid.out ?_)
    unfold Hid
    have hB1 := ((hB0.alloc hB0.size _).alloc (Nat.le_trans hB0.size (by simp; try omega)) _).trans (h1.mono (Nat.le_trans hB0.size (by simp; try omega)))
    have KX_1 := Lib.hid (show Blk w1 (w.heap.size + 1) #[.slice A2 m c2, (.int .i64 (p))] by have := (Calm.Blk.new _ _ #[.slice A2 m c2, (.int .i64 (p))]).below h1; simpa using this)
    obtain ⟨f_0, f_1, f_l, f_f⟩ := KX_1.out.o2
    go_wp2_with (first
      | (go_at_call 9; refine (HSh.out _).mono ?_; rintro r wq ⟨rfl, rfl⟩)
      | (go_at_call 8; refine (awake_any _ (hL.below hB1)).mono ?_; rintro r w2 ⟨rfl, h2⟩))
    go_ret
    exact ⟨by first | rfl | (simp; done), hB1.trans (h2.mono hB1.size)⟩

theorem swp_zero {re le bl ma st lo p : Int} {ws : List Int} (h : swpErr re le bl ma st lo ws p = 0) : drvErr re le bl ma st lo = 0 ∧ ws.length ≤ 32 ∧ (∀ x ∈ ws, 1 ≤ x ∧ x ≤ 8) ∧ 0 ≤ p ∧ p ≤ 50 := by
  unfold swpErr at h
  have h1 := firstOf_eq_zero.1 h
  simp only [List.mem_cons, List.not_mem_nil, or_false, forall_eq_or_imp, forall_eq, rangeErr_zero] at h1
  obtain ⟨h1, h2, h3⟩ := h1
  unfold swErr at h2
  by_cases hl : 32 < ws.length
  · rw [if_pos hl] at h2; omega
  · rw [if_neg hl] at h2
    refine ⟨h1, by omega, fun x hx => ?_, h3⟩
    exact rangeErr_zero.1 (firstOf_eq_zero.1 h2 _ (List.mem_map.2 ⟨x, hx, rfl⟩))
theorem expl_zero {re le bl ma st lo : Int} {zs : List (Int × Int × Int)} (h : explErr re le bl ma st lo zs = 0) : drvErr re le bl ma st lo = 0 ∧ ∀ k, k < zs.length → readErr (zs.getD k (0, 0, 0)).1 (zs.getD k (0, 0, 0)).2.1 (zs.getD k (0, 0, 0)).2.2 = 0 := by
  unfold explErr at h
  have h1 := firstOf_eq_zero.1 h
  simp only [List.mem_cons, List.not_mem_nil, or_false, forall_eq_or_imp, forall_eq] at h1
  obtain ⟨h1, h2⟩ := h1
  refine ⟨h1, readErrs_all ?_⟩
  unfold readsErr at h2
  by_cases hl : 32 < zs.length
  · rw [if_pos hl] at h2; omega
  · rwa [if_neg hl] at h2

theorem DriverReadings_any (re le bl ma st lo p : Int) (zs : List (Int × Int × Int)) (ws : List Int) (c c2 : Nat) (A A2 : Option Addr) (w : World) (hL : Lim w) (hC : RCells w A zs) (hW : Cells w A2 ws) :
    Calls Tryz.prog 5 #[.agg #[(.int .i64 (re)), (.int .i64 (le)), (.int .i64 (bl)), (.int .i64 (ma)), (.int .i64 (st)), (.int .i64 (lo))], .slice A zs.length c, .agg #[.slice A2 ws.length c2, (.int .i64 (p))]] w fun r w' => r = .returned (.bool true) ∧ Below w.heap.size w w' := by
  by_cases hg : (8 < zs.length ∧ ¬ zs.length = 33) ∨ (zs.length ≤ 8 ∨ zs.length = 33) ∧ 8 < ws.length ∧ ¬ ws.length = 33
  · exact reads_no re le bl ma st lo p _ _ c c2 A A2 w hL hg
  have hn : zs.length ≤ 8 ∨ zs.length = 33 := by omega
  have hm : ws.length ≤ 8 ∨ ws.length = 33 := by omega
  clear hg
  obtain ⟨EB, hEB⟩ : ∃ EB, EB = if explErr re le bl ma st lo zs = 0 then explB re le bl ma st lo zs else false := ⟨_, rfl⟩
  obtain ⟨S, hS⟩ : ∃ S, S = if swpErr re le bl ma st lo ws p = 0 then sweepL re le bl ma st lo p ws else [] := ⟨_, rfl⟩
  have HSh : Hid (∀ W : World, Calls Tryz.prog 9 #[.slice A zs.length c, (.int .i64 (8))] W fun r w' => r = .returned (.bool true) ∧ W = w') := Lib.hid (fun W => short_yes A _ c 8 W (by omega))
  have HCD : Hid (∀ W : World, Calls Tryz.prog 26 #[.agg #[(.int .i64 (re)), (.int .i64 (le)), (.int .i64 (bl)), (.int .i64 (ma)), (.int .i64 (st)), (.int .i64 (lo))]] W fun r w' => r = .returned ((.int .i64 (drvErr re le bl ma st lo))) ∧ Below W.heap.size W w') := Lib.hid (fun W => refCheckDriver_any _ _ _ _ _ _ W)
  have HRd : Hid (∀ W : World, RCells W A zs → Calls Tryz.prog 13 #[.slice A zs.length c] W fun r w' => ∃ B e, r = .returned (.slice B zs.length e) ∧ (∀ p, B = some p → W.heap.size ≤ p.block) ∧ RCells w' B zs ∧ Below W.heap.size W w') := Lib.hid (fun W k => readings_any A zs c W k (by omega))
  have HEx : Hid (∀ (W : World) (B : Option Addr) (e : Nat), Lim W → RCells W B zs → Calls Tryz.prog 24 #[.agg #[(.int .i64 (re)), (.int .i64 (le)), (.int .i64 (bl)), (.int .i64 (ma)), (.int .i64 (st)), (.int .i64 (lo))], .slice B zs.length e] W fun r w' => r = .returned (.tuple #[.bool EB, (.int .i64 (explErr re le bl ma st lo zs))]) ∧ Below W.heap.size W w') := Lib.hid (fun W B e hL k => by
    by_cases h : explErr re le bl ma st lo zs = 0
    · rw [hEB, if_pos h, h]
      exact Explains_ok re le bl ma st lo B zs e W hL k (by omega) h
    · rw [hEB, if_neg h]
      exact Explains_bad re le bl ma st lo B zs e W hL k (by omega) h)
  have HSw : Hid (∀ (W : World) (B : Option Addr) (e : Nat), Lim W → Cells W B ws → Calls Tryz.prog 25 #[.agg #[(.int .i64 (re)), (.int .i64 (le)), (.int .i64 (bl)), (.int .i64 (ma)), (.int .i64 (st)), (.int .i64 (lo))], .slice B ws.length e, (.int .i64 (p))] W fun r w' => ∃ B' e', r = .returned (.tuple #[.slice B' S.length e', (.int .i64 (swpErr re le bl ma st lo ws p))]) ∧ RCells w' B' S ∧ Below W.heap.size W w') := Lib.hid (fun W B e hL k => by
    by_cases h : swpErr re le bl ma st lo ws p = 0
    · rw [hS, if_pos h, h, sweepL_len]
      obtain ⟨z1, z2, z3, z4⟩ := swp_zero h
      refine (Sweep_ok re le bl ma st lo p B ws e W hL k z1 z2 z3 z4).mono ?_
      rintro r w' ⟨v, rfl, ho, hb⟩
      obtain ⟨B', e', rfl, _, hr⟩ := own_reads ho (by rw [sweepL_len])
      exact ⟨B', e', rfl, hr, hb⟩
    · rw [hS, if_neg h]
      refine (Sweep_bad re le bl ma st lo p B ws e W hL k (by omega) h).mono ?_
      rintro r w' ⟨rfl, hb⟩
      exact ⟨_, _, rfl, fun h0 => absurd h0 (by simp), hb⟩)
  have HRR : Hid (∀ W : World, RCells W A zs → Calls Tryz.prog 16 #[.slice A zs.length c] W fun r w' => r = .returned (.int .i64 (readsErr zs)) ∧ Below W.heap.size W w') := Lib.hid (fun W k => refCheckReadings_any A zs c W k)
  have HPR : Hid (∀ (W : World) (B : Option Addr) (e : Nat), RCells W B zs → Calls Tryz.prog 31 #[.slice B zs.length e] W fun r w' => r = .returned (.int .i64 (readsErr zs)) ∧ Below W.heap.size W w') := Lib.hid (fun W B e k => checkReadings_any B zs e W k (by omega))
  have hSl : S.length ≤ 1000 := by
    rw [hS]
    split
    · rw [sweepL_len]; omega
    · simp
  have HTo : Hid (∀ (W : World) (B : Option Addr) (e : Nat), RCells W B S → Calls Tryz.prog 33 #[.slice B S.length e] W fun r w' => ∃ B' e', r = .returned (.slice B' S.length e') ∧ RCells w' B' S ∧ Below W.heap.size W w') := Lib.hid (fun W B e k => (told_any B S e W k (by omega)).mono (by
    rintro r w' ⟨B', e', h1, _, h3, h4⟩
    exact ⟨B', e', h1, h3, h4⟩))
  have HSa : Hid (∀ (W : World) (B B' : Option Addr) (e e' : Nat), RCells W B S → RCells W B' S → Calls Tryz.prog 32 #[.slice B S.length e, .slice B' S.length e'] W fun r w' => r = .returned (.bool true) ∧ Below W.heap.size W w') := Lib.hid (fun W B B' e e' k1 k2 => sameReadings_eq B B' S e e' W (by omega) k1 k2)
  have HRS : Hid (∀ W : World, Cells W A2 ws → Calls Tryz.prog 27 #[.slice A2 ws.length c2] W fun r w' => r = .returned (.int .i64 (swErr ws)) ∧ Below W.heap.size W w') := Lib.hid (fun W k => refCheckSweep_any A2 ws c2 W k)
  have hc1 : explErr re le bl ma st lo zs = 0 ∧ Hid (∀ W : World, RCells W A zs → Calls Tryz.prog 29 #[.agg #[(.int .i64 (re)), (.int .i64 (le)), (.int .i64 (bl)), (.int .i64 (ma)), (.int .i64 (st)), (.int .i64 (lo))], .slice A zs.length c] W fun r w' => r = .returned (.bool EB) ∧ Below W.heap.size W w') ∨ ¬ explErr re le bl ma st lo zs = 0 ∧ EB = false := by
    by_cases h : explErr re le bl ma st lo zs = 0
    · refine .inl ⟨h, Lib.hid (fun W k => ?_)⟩
      obtain ⟨z1, z2⟩ := expl_zero h
      rw [hEB, if_pos h]
      exact refExplains_any re le bl ma st lo A zs c W z1 k (by omega) z2
    · exact .inr ⟨h, by rw [hEB, if_neg h]⟩
  have hc2 : swpErr re le bl ma st lo ws p = 0 ∧ Hid (∀ W : World, Cells W A2 ws → Calls Tryz.prog 30 #[.agg #[(.int .i64 (re)), (.int .i64 (le)), (.int .i64 (bl)), (.int .i64 (ma)), (.int .i64 (st)), (.int .i64 (lo))], .slice A2 ws.length c2, (.int .i64 (p))] W fun r w' => ∃ B e, r = .returned (.slice B S.length e) ∧ RCells w' B S ∧ Below W.heap.size W w') ∨ ¬ swpErr re le bl ma st lo ws p = 0 ∧ S.length = 0 ∧ S = [] := by
    by_cases h : swpErr re le bl ma st lo ws p = 0
    · refine .inl ⟨h, Lib.hid (fun W k => ?_)⟩
      obtain ⟨z1, z2, z3, z4⟩ := swp_zero h
      rw [hS, if_pos h, sweepL_len]
      exact refSweep_any re le bl ma st lo p A2 ws c2 W k z1 z2 z3 z4
    · have : S = [] := by rw [hS, if_neg h]
      exact .inr ⟨h, by rw [this]; rfl, this⟩
  clear hEB hS
  generalize hNs : S.length = ns at *
  rcases hm with hm | hm
  · exact reads_ok re le bl ma st lo p _ _ _ _ _ EB zs S ws _ _ ns c c2 A A2 w hL hm (Lib.hid rfl) (Lib.hid hC) (Lib.hid hW) HSh HCD HRd HEx HSw HRR HPR HTo HSa HRS rfl rfl hc1 hc2
  · rw [hm] at HSw HRS hc2 ⊢
    exact reads_33 re le bl ma st lo p _ _ _ _ _ EB zs S ws _ ns c c2 A A2 w hL (Lib.hid hm.symm) (Lib.hid hC) (Lib.hid hW) HSh HCD HRd HEx HSw HRR HPR HTo HSa HRS rfl rfl hc1 hc2
end Go.Proofs.YtpkldjlljoledaaGreatDoor

/- DriverReadings: the row and its card. -/
namespace Go.Proofs.YtpkldjlljoledaaGreatDoor.driverReadings
open Go.ChangeShapes Go.WideShapes Go.ChangeAt Go.RowKit Go.Flat
open Calm (bcell)

set_option maxRecDepth 100000 in
/-- readings, opened: a slice of structs of three integers. -/
theorem open_rslice {H : Type} {enc : TypeId × Value → H} {w : World} {base : Nat} {r : Reach} {b0 : Nat} {sp : Nat → Bool} {held : Bool} {v : Value} {d : DataW H} {p : List MemPlace}
    (hv : Value.okWide Tryz.prog w r b0 26 v) (hd : DataW.Trod enc Tryz.prog w base sp held 26 v d p) :
    ∃ (A : Option Addr) (c : Nat) (zs : List (Int × Int × Int)), v = .slice A zs.length c ∧ RCells w A zs := by
  obtain ⟨a, len, cap, rfl⟩ := okWide_slice Tryz.underlying26 hv
  obtain ⟨fuel, hf⟩ := hd
  have hf' : DataW.trod enc Tryz.prog w base sp held fuel 26 [.slice a len cap] = some (d, p) := hf
  obtain ⟨A, c, zs, e, _, _, k⟩ := open_rcells 3 Tryz.underlying26 (by kernel_rfl) (by kernel_rfl) hf'
  exact ⟨A, c, zs, by simpa using e, k⟩

set_option maxRecDepth 100000 in
/-- frequencies and a percentage, opened. -/
theorem open_swept {H : Type} {enc : TypeId × Value → H} {w : World} {base : Nat} {r : Reach} {b0 : Nat} {sp : Nat → Bool} {held : Bool} {v : Value} {d : DataW H} {p : List MemPlace}
    (hv : Value.okWide Tryz.prog w r b0 57 v) (hd : DataW.Trod enc Tryz.prog w base sp held 57 v d p) :
    ∃ (A : Option Addr) (c : Nat) (ws : List Int) (q : Int), v = .agg #[.slice A ws.length c, (.int .i64 (q))] ∧ Cells w A ws := by
  obtain ⟨cs, rfl, hsz⟩ := okWide_struct Tryz.underlying57 hv
  obtain ⟨fuel, hf⟩ := hd
  obtain ⟨y0, y1, n, _, hl, h0, h1⟩ := trod_struct2 Tryz.underlying57 hf
  rw [show Tryz.prog.cellsOf 57 = 2 by kernel_rfl] at hsz
  obtain ⟨l⟩ := cs
  match l, hsz with
  | [u0, u1], _ =>
  have hi : Flat.intsB Tryz.prog 3 3 = true := by kernel_rfl
  have h0' : DataW.trod enc Tryz.prog w base sp held n 43 [u0] = some y0 := h0
  have h1' : DataW.trod enc Tryz.prog w base sp held n 3 [u1] = some y1 := h1
  obtain ⟨A1, c1, xs, e1, _, _, k1⟩ := open_cells 3 Tryz.underlying43 hi (by kernel_rfl) h0'
  obtain ⟨q, e2, _, _⟩ := DataW.trod_int Tryz.underlying3 h1'
  obtain rfl : u0 = _ := by simpa using e1
  obtain rfl : u1 = _ := by simpa using e2
  exact ⟨A1, c1, xs, q, rfl, k1⟩

set_option maxRecDepth 100000 in
theorem contract (H : Type) (enc : TypeId × Value → H) (W : World) (base : Nat) (args : Array Value) (ds gs : List (DataW H)) (before : List MemPlace)
    (hval : ∀ (j : Nat) t v, Tryz.f5.params[j]? = some t → args[j]? = some v → Value.okWide Tryz.prog W .any base t v)
    (hW : DataW.Whole enc Tryz.prog Tryz.f5.params.toList Rows.driverReadingsSpec.vars false W args.toList ds gs before) (hL : laidMetH Tryz.prog laidList W) :
    Calls Tryz.prog 5 args W fun e W' => ∃ v, e = .returned v ∧ Rows.driverReadingsSpec.post enc Tryz.prog Tryz.f5 false true false false W args v W' := by
  have hW' := hW
  have hlt : ∀ p ∈ before, p.block < W.heap.size := fun p hp => hW.lt p hp
  obtain ⟨p, q, hA0, hV, rfl, hfz, hnd⟩ := hW
  have hA : DataW.TrodAll enc Tryz.prog W 0 (fun _ => true) true Tryz.f5.params.toList args.toList ds p := hA0
  rw [Tryz.params5] at hA hval
  obtain ⟨v0, v1, v2, d0, d1, d2, p0, p1, p2, rfl, rfl, rfl, h0, h1, h2⟩ := trodAll_three hA
  obtain ⟨rfl, rfl⟩ := trodVars_none hV
  obtain ⟨z0, hz0, rfl, rfl⟩ := open_ints 3 Tryz.underlying23 (by kernel_rfl) (hval 0 _ _ rfl rfl) h0
  rw [show Tryz.prog.cellsOf 23 = 6 by kernel_rfl] at hz0
  obtain ⟨A1, c1, zs, rfl, k1⟩ := open_rslice (hval 1 _ _ rfl rfl) h1
  obtain ⟨A2, c2, ws, q, rfl, k2⟩ := open_swept (hval 2 _ _ rfl rfl) h2
  match z0, hz0 with
  | [d1, d2, d3, d4, d5, d6], _ =>
  refine (DriverReadings_any d1 d2 d3 d4 d5 d6 q zs ws c1 c2 A1 A2 W (lim_of_laid hL) k1 k2).mono fun e W' ⟨he, hb⟩ => ?_
  subst he
  refine ⟨_, rfl, post_of_below (pa := [] ++ p1 ++ p2) (pv := []) hW' (fun _ _ _ => trodAll_cons_mk (shut_bool Tryz.underlying4 _) trodAll_mk0) (fun sp hs => ?_) (fun _ _ => rfl) rfl hb (ok_one (by kernel_rfl) rfl (okWide_bool_mk Tryz.underlying4 _))⟩
  exact trodAll_below laidOut hb (by rw [Tryz.params5]; exact of_decide_eq_true (by kernel_rfl)) hA0 (fun x hx => hlt x (List.mem_append_left _ hx)) (fun x hx => hs x (List.mem_append_left _ hx))

/-- the witness: nothing. -/
noncomputable def wit : Array Value := #[.agg #[(.int .i64 (0)), (.int .i64 (0)), (.int .i64 (0)), (.int .i64 (0)), (.int .i64 (0)), (.int .i64 (0))], .slice none 0 0, .agg #[.slice none 0 0, (.int .i64 (0))]]
theorem reads (os : Os) {H : Type} (enc : TypeId × Value → H) : ∃ ds places, DataW.whole enc Tryz.prog ((World.doorLaid Tryz.prog 150 os).forCall (fun _ _ => 0) ⟨#[], wit, []⟩).memory Tryz.f5.params.toList Rows.driverReadingsSpec.vars false wit.toList 8 = some (ds, [], places) :=
  ⟨[.agg (List.replicate 6 (.lit (.int .i64 0))), .nil, .agg [.nil, .lit (.int .i64 0)]], [], by kernel_rfl⟩

set_option maxRecDepth 100000 in
theorem lifted (os : Os) (started : os.Started) (H : Type) (enc : TypeId × Value → H) (F : Stop.Interp) :
    ReturnsInHanded {} Tryz.checked os 5 .any ((OpenSpec.ofChange Rows.driverReadingsSpec).preRow enc Tryz.prog Tryz.f5 Rows.driverReadingsRow.domain false Rows.driverReadingsRow.laid) (((OpenSpec.ofChange Rows.driverReadingsSpec).at F).post enc Tryz.prog Tryz.f5 false true false false) := by
  obtain ⟨ds, places, hx⟩ := reads os enc
  refine returnsInHanded_of_row (C := Tryz.checked) (s := OpenSpec.ofChange Rows.driverReadingsSpec) own started (by kernel_rfl) Tryz.func5
    (witness_row_at (enc := enc) (C := Tryz.checked) false (World.doorLaid Tryz.prog 150 os) wit rfl (door_vars os _) (door_rest os _) (by kernel_rfl)
      (OpenSpec.preRow_of_cond 8 hx (by kernel_rfl) (fun k hk => by cases hk) (by kernel_rfl) (laid_met os _))) ?_
  intro W base args ds gs before hval hW _ _ _ hL _ _
  exact contract H enc W base args ds gs before hval hW hL

theorem said : Rows.DriverReadingsSaid :=
  OpenClaim.holds_of_cond 5 Tryz.f5 rfl rfl rfl rfl rfl rfl rfl ⟨rfl, rfl, rfl, rfl, rfl⟩ rfl rfl rfl rfl rfl (by kernel_rfl) Tryz.func5 (by kernel_rfl)
    (of_decide_eq_true (by kernel_rfl)) (by unfold Func.isWrapper; first | (rw [if_pos (by decide +kernel)]; kernel_rfl) | (rw [if_neg (by decide +kernel)]; exact ⟨rfl, rfl⟩))
    (fun os started H enc _ F => by rw [OpenClaim.pre_eq_preRow]; exact lifted os started H enc F)

theorem plain (f : FuncId) (fn : Func) (hf : Tryz.pinned.checked.prog.funcNamed "woofer/wooferlaw03.DriverReadings" = some f) (hfn : Tryz.pinned.checked.prog.funcs[f]? = some fn) :
    true = Tryz.pinned.checked.prog.looks [] ∧ ∀ (j : Nat) t, fn.params[j]? = some t → Tryz.pinned.checked.prog.wantsStandIn t = false := by
  obtain rfl : f = 5 := Option.some.inj ((show Tryz.prog.funcNamed "woofer/wooferlaw03.DriverReadings" = some 5 by kernel_rfl).symm.trans hf) |>.symm
  obtain rfl : fn = Tryz.f5 := (Option.some.inj (Tryz.func5.symm.trans hfn)).symm
  refine ⟨by kernel_rfl, fun j t ht => ?_⟩
  rw [Tryz.params5] at ht
  have hall : ∀ t ∈ (#[23, 26, 57] : Array TypeId), Tryz.prog.wantsStandIn t = false := of_decide_eq_true (by kernel_rfl)
  exact hall t (Array.mem_of_getElem? ht)

theorem card : Rows.DriverReadingsCardSaid :=
  Claim7.holds_tied_plain_at .later [] _ _ _ _ said (fun _ h => by cases h) (by kernel_rfl) (fun _ h => by cases h) driverReadings_row_tie rfl ⟨rfl, rfl⟩ (by kernel_rfl) rfl plain (by kernel_rfl)
end Go.Proofs.YtpkldjlljoledaaGreatDoor.driverReadings
