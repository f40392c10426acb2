/- Part 20 of the texts of the claim: RdA, F2. -/
import Derived.Test.YtpkldjlljoledaaGreatDoorMc17
import Derived.Test.YtpkldjlljoledaaGreatDoorMc19
import Derived.Test.YtpkldjlljoledaaGreatDoorMc16

/- DriverReadings answers yes at lists that are short enough. -/
namespace Go.Proofs.YtpkldjlljoledaaGreatDoor
open Go.RowKit
open Calm (bcell Blk)
/-- a slice that holds these readings. -/
def RdS (n : Nat) (zs : List (Int × Int × Int)) (u : Value) (W : World) : Prop := ∃ B e, u = .slice B n e ∧ RCells W B zs
theorem RdS.stable (n : Nat) (zs : List (Int × Int × Int)) : Rel.Stable (RdS n zs) := fun u W W' ⟨B, e, h1, h2⟩ hb => ⟨B, e, h1, h2.below hb⟩
def SwT (n : Nat) (t : Int) (zs : List (Int × Int × Int)) (u : Value) (W : World) : Prop := ∃ B e, u = .tuple #[.slice B n e, (.int .i64 (t))] ∧ RCells W B zs
theorem SwT.stable (n : Nat) (t : Int) (zs : List (Int × Int × Int)) : Rel.Stable (SwT n t zs) := fun u W W' ⟨B, e, h1, h2⟩ hb => ⟨B, e, h1, h2.below hb⟩
theorem first2_blk {W : World} {g : Nat} {a b : Int} (h : Blk W g #[(.int .i64 (a)), (.int .i64 (b))]) : Calls Tryz.prog 14 #[.slice (some ⟨g, 0, none⟩) 2 2] W fun r w' => r = .returned (.int .i64 (firstOf [a, b])) ∧ W = w' := by
  refine qFirst_any [a, b] g 0 2 W (by simp) (fun k hk => ?_)
  match k, hk with
  | 0, _ => exact h.cell 0 _ rfl
  | 1, _ => exact h.cell 1 _ rfl

set_option maxRecDepth 100000 in
set_option maxHeartbeats 16000000 in
theorem reads_ok (re le bl ma st lo p DE RE SE one two : Int) (EB : Bool) (zs S : List (Int × Int × Int)) (ws : List Int) (n m ns c c2 : Nat) (A A2 : Option Addr) (w : World) (hL : Lim w) (hm : m ≤ 8) (HM : Hid (m = ws.length)) (HC : Hid (RCells w A zs)) (HW : Hid (Cells w A2 ws))
    (HSh : Hid (∀ W : World, Calls Tryz.prog 9 #[.slice A n c, (.int .i64 (8))] W fun r w' => r = .returned (.bool true) ∧ W = w'))
    (HCD : Hid (∀ W : World, Calls Tryz.prog 26 #[.agg #[(.int .i64 (re)), (.int .i64 (le)), (.int .i64 (bl)), (.int .i64 (ma)), (.int .i64 (st)), (.int .i64 (lo))]] W fun r w' => r = .returned ((.int .i64 (DE))) ∧ Below W.heap.size W w'))
    (HRd : Hid (∀ W : World, RCells W A zs → Calls Tryz.prog 13 #[.slice A n c] W fun r w' => ∃ B e, r = .returned (.slice B n e) ∧ (∀ p, B = some p → W.heap.size ≤ p.block) ∧ RCells w' B zs ∧ Below W.heap.size W w'))
    (HEx : Hid (∀ (W : World) (B : Option Addr) (e : Nat), Lim W → RCells W B zs → Calls Tryz.prog 24 #[.agg #[(.int .i64 (re)), (.int .i64 (le)), (.int .i64 (bl)), (.int .i64 (ma)), (.int .i64 (st)), (.int .i64 (lo))], .slice B n e] W fun r w' => r = .returned (.tuple #[.bool EB, (.int .i64 (one))]) ∧ Below W.heap.size W w'))
    (HSw : Hid (∀ (W : World) (B : Option Addr) (e : Nat), Lim W → Cells W B ws → Calls Tryz.prog 25 #[.agg #[(.int .i64 (re)), (.int .i64 (le)), (.int .i64 (bl)), (.int .i64 (ma)), (.int .i64 (st)), (.int .i64 (lo))], .slice B m e, (.int .i64 (p))] W fun r w' => ∃ B' e', r = .returned (.tuple #[.slice B' ns e', (.int .i64 (two))]) ∧ RCells w' B' S ∧ Below W.heap.size W w'))
    (HRR : Hid (∀ W : World, RCells W A zs → Calls Tryz.prog 16 #[.slice A n c] W fun r w' => r = .returned (.int .i64 (RE)) ∧ Below W.heap.size W w'))
    (HPR : Hid (∀ (W : World) (B : Option Addr) (e : Nat), RCells W B zs → Calls Tryz.prog 31 #[.slice B n e] W fun r w' => r = .returned (.int .i64 (RE)) ∧ Below W.heap.size W w'))
    (HTo : Hid (∀ (W : World) (B : Option Addr) (e : Nat), RCells W B S → Calls Tryz.prog 33 #[.slice B ns e] W fun r w' => ∃ B' e', r = .returned (.slice B' ns e') ∧ RCells w' B' S ∧ Below W.heap.size W w'))
    (HSa : Hid (∀ (W : World) (B B' : Option Addr) (e e' : Nat), RCells W B S → RCells W B' S → Calls Tryz.prog 32 #[.slice B ns e, .slice B' ns e'] W fun r w' => r = .returned (.bool true) ∧ Below W.heap.size W w'))
    (HRS : Hid (∀ W : World, Cells W A2 ws → Calls Tryz.prog 27 #[.slice A2 m c2] W fun r w' => r = .returned (.int .i64 (SE)) ∧ Below W.heap.size W w'))
    (e1 : firstOf [DE, RE] = one)
    (e2 : firstOf [DE, SE, rangeErr p 0 50] = two)
    (hc1 : one = 0 ∧ Hid (∀ W : World, RCells W A zs → Calls Tryz.prog 29 #[.agg #[(.int .i64 (re)), (.int .i64 (le)), (.int .i64 (bl)), (.int .i64 (ma)), (.int .i64 (st)), (.int .i64 (lo))], .slice A n c] W fun r w' => r = .returned (.bool EB) ∧ Below W.heap.size W w') ∨ ¬ one = 0 ∧ EB = false)
    (hc2 : two = 0 ∧ Hid (∀ W : World, Cells W A2 ws → Calls Tryz.prog 30 #[.agg #[(.int .i64 (re)), (.int .i64 (le)), (.int .i64 (bl)), (.int .i64 (ma)), (.int .i64 (st)), (.int .i64 (lo))], .slice A2 m c2, (.int .i64 (p))] W fun r w' => ∃ B e, r = .returned (.slice B ns e) ∧ RCells w' B S ∧ Below W.heap.size W w') ∨ ¬ two = 0 ∧ ns = 0 ∧ S = [])
    : Calls Tryz.prog 5 #[.agg #[(.int .i64 (re)), (.int .i64 (le)), (.int .i64 (bl)), (.int .i64 (ma)), (.int .i64 (st)), (.int .i64 (lo))], .slice A n c, .agg #[.slice A2 m c2, (.int .i64 (p))]] w fun r w' => r = .returned (.bool true) ∧ Below w.heap.size w w' := by
  obtain ⟨i1, hi1, jz0, jz1, jz2⟩ := info_parts Tryz.infoI
  have hB0 := Below.refl w.heap.size w
  go_enter Tryz.func5, Tryz.ntmps5
  go_wp2_with (go_at_call 8; refine (awake_any _ (hL.below ((hB0.alloc hB0.size _).alloc (Nat.le_trans hB0.size (by simp; try omega)) _))).mono ?_; rintro r w1 ⟨rfl, h1⟩; refine Hid.out ?_)
  unfold Hid
  have hB1 := ((hB0.alloc hB0.size _).alloc (Nat.le_trans hB0.size (by simp; try omega)) _).trans (h1.mono (Nat.le_trans hB0.size (by simp; try omega)))
  have KD_1 := Lib.hid (show Blk w1 (w.heap.size) #[(.int .i64 (re)), (.int .i64 (le)), (.int .i64 (bl)), (.int .i64 (ma)), (.int .i64 (st)), (.int .i64 (lo))] from ((Calm.Blk.new _ _ #[(.int .i64 (re)), (.int .i64 (le)), (.int .i64 (bl)), (.int .i64 (ma)), (.int .i64 (st)), (.int .i64 (lo))]).alloc _).below h1)
  have KX_1 := Lib.hid (show Blk w1 (w.heap.size + 1) #[.slice A2 m c2, (.int .i64 (p))] by have := (Calm.Blk.new _ _ #[.slice A2 m c2, (.int .i64 (p))]).below h1; simpa using this)
  clear h1 hB0
  obtain ⟨fD_0, fD_1, fD_2, fD_3, fD_4, fD_5, fD_l, fD_f⟩ := KD_1.out.o6
  have fD_l0_1 : w.heap.size < w1.heap.size + 1 := by omega
  have fD_l0_2 : w.heap.size < w1.heap.size + 1 + 1 := by omega
  obtain ⟨fX_0, fX_1, fX_l, fX_f⟩ := KX_1.out.o2
  have fX_l0 : w.heap.size < w1.heap.size := by omega
  have fX_l0_1 : w.heap.size < w1.heap.size + 1 := by omega
  have fX_l0_2 : w.heap.size < w1.heap.size + 1 + 1 := by omega
  have fX_l1_1 : w.heap.size + 1 < w1.heap.size + 1 := by omega
  have fX_l1_2 : w.heap.size + 1 < w1.heap.size + 1 + 1 := by omega
  go_wp2_with (go_at_call 9; refine (HSh.out _).mono ?_; rintro r wq ⟨rfl, rfl⟩)
  refine Rel.region3 8 (by kernel_rfl) (by kernel_rfl) (by kernel_rfl) ?_
  simp only [List.take_succ_cons, List.take_zero, List.drop_succ_cons, List.drop_zero, List.filterMap_cons, List.filterMap_nil]
  iterate 2 (apply Rel.op3; (focus (first | exact Rel.gno rfl | exact Rel.gyes _ true _ rfl rfl rfl | exact Rel.gyes _ false _ rfl rfl rfl)); (focus (intro a W hb hd hbase; obtain ⟨hc, hf⟩ := bcell hb; clear hb hf; simp [Rel.deps, Rel.dep1, Rel.ons, Region.binds, Act.eval] at hd; simp only [Act.eval, List.mem_cons, List.not_mem_nil, not_or, and_imp, or_false, Array.getD_eq_getD_getElem?] at hbase; go_simp; (try go_bits); (try rfl); done)); (try simp only [List.nil_append, List.cons_append]))
  refine Rel.callR3 (RdS n zs) (RdS.stable n zs) (Rel.gno rfl) ?_ ?_
  · intro a W hb hd hbase
    simp [Rel.deps, Rel.dep1, Rel.ons, Region.binds, Act.eval] at hd
    obtain hd := hd
    refine ⟨13, #[.slice A n c], ?_, (HRd.out W (HC.out.below (hB1.trans (hb.mono hB1.size)))).mono (fun e W' ⟨B, e1, h1, _, h3, h4⟩ => ⟨_, h1, ⟨B, e1, rfl, h3⟩, h4⟩)⟩
    go_simp
    (first | done | rfl | (refine ⟨?_, ?_⟩ <;> rfl))
  (try simp only [List.nil_append, List.cons_append])
  refine Rel.callR3 (fun u _ => u = .tuple #[.bool EB, (.int .i64 (one))]) (Rel.stable_eq _) (Rel.gno rfl) ?_ ?_
  · intro a W hb hd hbase
    simp [Rel.deps, Rel.dep1, Rel.ons, Region.binds, Act.eval] at hd
    obtain ⟨h0, B, e, h1, h2⟩ := hd
    refine ⟨24, #[.agg #[(.int .i64 (re)), (.int .i64 (le)), (.int .i64 (bl)), (.int .i64 (ma)), (.int .i64 (st)), (.int .i64 (lo))], .slice B n e], ?_, (HEx.out W B e (hL.below (hB1.trans (hb.mono hB1.size))) h2).mono (fun e W' ⟨h1, h2⟩ => ⟨_, h1, rfl, h2⟩)⟩
    go_simp
    (first | done | rfl | (refine ⟨?_, ?_⟩ <;> rfl))
  (try simp only [List.nil_append, List.cons_append])
  iterate 4 (apply Rel.op3; (focus (first | exact Rel.gno rfl | exact Rel.gyes _ true _ rfl rfl rfl | exact Rel.gyes _ false _ rfl rfl rfl)); (focus (intro a W hb hd hbase; obtain ⟨hc, hf⟩ := bcell hb; clear hb hf; simp [Rel.deps, Rel.dep1, Rel.ons, Region.binds, Act.eval] at hd; simp only [Act.eval, List.mem_cons, List.not_mem_nil, not_or, and_imp, or_false, Array.getD_eq_getD_getElem?] at hbase; go_simp; (try go_bits); (try rfl); done)); (try simp only [List.nil_append, List.cons_append]))
  refine Rel.done3 ?_
  intro xx w2 h2 hx
  simp only [Rel.facts, Nat.zero_add, Nat.reduceAdd] at hx
  obtain ⟨e0, e1, q2, e3, e4, e5, e6, e7, _⟩ := hx
  simp only [Rel.fill, Nat.zero_add, Nat.reduceAdd, e0, e1, e3, e4, e5, e6, e7]
  simp only [Act.put, List.setIfInBounds_toArray, List.set_cons_zero, List.set_cons_succ]
  clear e0 e1 e3 e4 e5 e6 e7 q2
  have hB2 := hB1.trans (h2.mono hB1.size)
  have KD_2 := Lib.hid (KD_1.out.below h2)
  have KX_2 := Lib.hid (KX_1.out.below h2)
  clear h2 hB1 KD_1 KX_1 fD_0 fD_1 fD_2 fD_3 fD_4 fD_5 fD_l fD_f fD_l0_1 fD_l0_2 fX_0 fX_1 fX_l fX_f fX_l0 fX_l0_1 fX_l0_2 fX_l1_1 fX_l1_2
  obtain ⟨fD_0, fD_1, fD_2, fD_3, fD_4, fD_5, fD_l, fD_f⟩ := KD_2.out.o6
  have fD_l0_1 : w.heap.size < w2.heap.size + 1 := by omega
  have fD_l0_2 : w.heap.size < w2.heap.size + 1 + 1 := by omega
  obtain ⟨fX_0, fX_1, fX_l, fX_f⟩ := KX_2.out.o2
  have fX_l0 : w.heap.size < w2.heap.size := by omega
  have fX_l0_1 : w.heap.size < w2.heap.size + 1 := by omega
  have fX_l0_2 : w.heap.size < w2.heap.size + 1 + 1 := by omega
  have fX_l1_1 : w.heap.size + 1 < w2.heap.size + 1 := by omega
  have fX_l1_2 : w.heap.size + 1 < w2.heap.size + 1 + 1 := by omega
  go_wp2
  refine Rel.region3 12 (by kernel_rfl) (by kernel_rfl) (by kernel_rfl) ?_
  simp only [List.take_succ_cons, List.take_zero, List.drop_succ_cons, List.drop_zero, List.filterMap_cons, List.filterMap_nil]
  iterate 1 (apply Rel.op3; (focus (first | exact Rel.gno rfl | exact Rel.gyes _ true _ rfl rfl rfl | exact Rel.gyes _ false _ rfl rfl rfl)); (focus (intro a W hb hd hbase; obtain ⟨hc, hf⟩ := bcell hb; clear hb hf; simp [Rel.deps, Rel.dep1, Rel.ons, Region.binds, Act.eval] at hd; simp only [Act.eval, List.mem_cons, List.not_mem_nil, not_or, and_imp, or_false, Array.getD_eq_getD_getElem?] at hbase; go_simp; (try go_bits); (try rfl); done)); (try simp only [List.nil_append, List.cons_append]))
  (apply Rel.empty3 3 1; (focus (first | exact Rel.gno rfl | exact Rel.gyes _ true _ rfl rfl rfl | exact Rel.gyes _ false _ rfl rfl rfl)); (focus (intro a W; go_simp; (first | done | rfl | (refine ⟨?_, ?_⟩ <;> rfl)))); (try simp only [List.nil_append, List.cons_append]))
  iterate 2 (apply Rel.op3; (focus (first | exact Rel.gno rfl | exact Rel.gyes _ true _ rfl rfl rfl | exact Rel.gyes _ false _ rfl rfl rfl)); (focus (intro a W hb hd hbase; obtain ⟨hc, hf⟩ := bcell hb; clear hb hf; simp [Rel.deps, Rel.dep1, Rel.ons, Region.binds, Act.eval] at hd; simp only [Act.eval, List.mem_cons, List.not_mem_nil, not_or, and_imp, or_false, Array.getD_eq_getD_getElem?] at hbase; go_simp; (try go_bits); (try rfl); done)); (try simp only [List.nil_append, List.cons_append]))
  refine Rel.app3 (.tmp 45) (.tmp 47) 43 rfl 3 i1 _ 1 8 Tryz.underlying43 hi1 jz0 jz1 jz2 rfl (by decide) m (ws.map fun z => (.int .i64 (z))) (by rw [List.length_map, HM.out, Nat.mul_one]) (by intro u hu; obtain ⟨z, _, rfl⟩ := List.mem_map.1 hu; rfl) (by unfold maxLen; omega) (by omega) (Rel.gno rfl) ?_ ?_
  · intro a W hb hd hbase
    simp [Rel.deps, Rel.dep1, Rel.ons, Region.binds] at hd
    obtain ⟨hs, hx⟩ := hd
    exact ⟨⟨_, rfl, by simpa using hs⟩, _, _, hx, cells_at (HW.out.below (hB2.trans (hb.mono hB2.size))) m HM.out⟩
  (try simp only [List.nil_append, List.cons_append])
  iterate 2 (apply Rel.op3; (focus (first | exact Rel.gno rfl | exact Rel.gyes _ true _ rfl rfl rfl | exact Rel.gyes _ false _ rfl rfl rfl)); (focus (intro a W hb hd hbase; obtain ⟨hc, hf⟩ := bcell hb; clear hb hf; simp [Rel.deps, Rel.dep1, Rel.ons, Region.binds, Act.eval] at hd; simp only [Act.eval, List.mem_cons, List.not_mem_nil, not_or, and_imp, or_false, Array.getD_eq_getD_getElem?] at hbase; go_simp; (try go_bits); (try rfl); done)); (try simp only [List.nil_append, List.cons_append]))
  refine Rel.callR3 (SwT ns two S) (SwT.stable ns two S) (Rel.gno rfl) ?_ ?_
  · intro a W hb hd hbase
    simp [Rel.deps, Rel.dep1, Rel.ons, Region.binds, Act.eval] at hd
    obtain ⟨h0, ho, h2⟩ := hd
    obtain ⟨B, e, h1, _, h3⟩ := own_ints ho HM.out
    refine ⟨25, #[.agg #[(.int .i64 (re)), (.int .i64 (le)), (.int .i64 (bl)), (.int .i64 (ma)), (.int .i64 (st)), (.int .i64 (lo))], .slice B m e, (.int .i64 (p))], ?_, (HSw.out W B e (hL.below (hB2.trans (hb.mono hB2.size))) h3).mono (fun e W' ⟨B, e1, h1, h3, h4⟩ => ⟨_, h1, ⟨B, e1, rfl, h3⟩, h4⟩)⟩
    go_simp
    (first | done | rfl | (refine ⟨?_, ?_⟩ <;> rfl))
  (try simp only [List.nil_append, List.cons_append])
  refine Rel.opR3 (SwT ns two S) (SwT.stable ns two S) (Rel.gno rfl) ?_ ?_
  · intro a W hb hd hbase
    simp [Rel.deps, Rel.dep1, Rel.ons, Region.binds, Act.eval] at hd
    obtain ⟨B, e, h1, hr⟩ := hd
    refine ⟨.tuple #[.slice B ns e, (.int .i64 (two))], ?_, ?_⟩
    · go_simp
      (first | done | rfl | (refine ⟨?_, ?_⟩ <;> rfl))
    · exact ⟨_, _, rfl, hr⟩
  (try simp only [List.nil_append, List.cons_append])
  refine Rel.opR3 (RdS ns S) (RdS.stable ns S) (Rel.gno rfl) ?_ ?_
  · intro a W hb hd hbase
    simp [Rel.deps, Rel.dep1, Rel.ons, Region.binds, Act.eval] at hd
    obtain ⟨B, e, h1, hr⟩ := hd
    refine ⟨.slice B ns e, ?_, ?_⟩
    · go_simp
      (first | done | rfl | (refine ⟨?_, ?_⟩ <;> rfl))
    · exact ⟨_, _, rfl, hr⟩
  (try simp only [List.nil_append, List.cons_append])
  refine Rel.opR3 (fun u _ => u = (.int .i64 (two))) (Rel.stable_eq _) (Rel.gno rfl) ?_ ?_
  · intro a W hb hd hbase
    simp [Rel.deps, Rel.dep1, Rel.ons, Region.binds, Act.eval] at hd
    obtain ⟨B, e, h1, hr⟩ := hd
    refine ⟨(.int .i64 (two)), ?_, rfl⟩
    go_simp
    (first | done | rfl | (refine ⟨?_, ?_⟩ <;> rfl))
  (try simp only [List.nil_append, List.cons_append])
  refine Rel.opR3 (RdS ns S) (RdS.stable ns S) (Rel.gno rfl) ?_ ?_
  · intro a W hb hd hbase
    simp [Rel.deps, Rel.dep1, Rel.ons, Region.binds, Act.eval] at hd
    obtain ⟨⟨B, e, h1, hr⟩, _⟩ := hd
    refine ⟨.slice B ns e, ?_, ?_⟩
    · go_simp
      (first | done | rfl | (refine ⟨?_, ?_⟩ <;> rfl))
    · exact ⟨_, _, rfl, hr⟩
  (try simp only [List.nil_append, List.cons_append])
  refine Rel.done3 ?_
  intro xx w3 h3 hx
  simp only [Rel.facts, Nat.zero_add, Nat.reduceAdd] at hx
  obtain ⟨e0, _, e2, e3, o4, e5, e6, q7, q8, q9, e10, ⟨SB, Se, e11, HSS⟩, _⟩ := hx
  simp only [Rel.fill, Nat.zero_add, Nat.reduceAdd, e0, e2, e3, e5, e6, e10, e11]
  simp only [Act.put, List.setIfInBounds_toArray, List.set_cons_zero, List.set_cons_succ]
  clear e0 e2 e3 e5 e6 e10 e11 o4 q7 q8 q9
  have HSC := Lib.hid HSS; clear HSS
  have hB3 := hB2.trans (h3.mono hB2.size)
  have KD_3 := Lib.hid (KD_2.out.below h3)
  have KX_3 := Lib.hid (KX_2.out.below h3)
  clear h3 hB2 KD_2 KX_2 fD_0 fD_1 fD_2 fD_3 fD_4 fD_5 fD_l fD_f fD_l0_1 fD_l0_2 fX_0 fX_1 fX_l fX_f fX_l0 fX_l0_1 fX_l0_2 fX_l1_1 fX_l1_2
  obtain ⟨fD_0, fD_1, fD_2, fD_3, fD_4, fD_5, fD_l, fD_f⟩ := KD_3.out.o6
  have fD_l0_1 : w.heap.size < w3.heap.size + 1 := by omega
  have fD_l0_2 : w.heap.size < w3.heap.size + 1 + 1 := by omega
  obtain ⟨fX_0, fX_1, fX_l, fX_f⟩ := KX_3.out.o2
  have fX_l0 : w.heap.size < w3.heap.size := by omega
  have fX_l0_1 : w.heap.size < w3.heap.size + 1 := by omega
  have fX_l0_2 : w.heap.size < w3.heap.size + 1 + 1 := by omega
  have fX_l1_1 : w.heap.size + 1 < w3.heap.size + 1 := by omega
  have fX_l1_2 : w.heap.size + 1 < w3.heap.size + 1 + 1 := by omega
  go_wp2_with (go_at_call 26; refine (HCD.out _).mono ?_; rintro r w4 ⟨rfl, h4⟩; refine Hid.out ?_)
  unfold Hid
  have HS2 := Lib.hid (HSC.out.below h4)
  have hB4 := hB3.trans (h4.mono hB3.size)
  have KD_4 := Lib.hid (KD_3.out.below h4)
  have KX_4 := Lib.hid (KX_3.out.below h4)
  clear h4 hB3 KD_3 KX_3 HSC fD_0 fD_1 fD_2 fD_3 fD_4 fD_5 fD_l fD_f fD_l0_1 fD_l0_2 fX_0 fX_1 fX_l fX_f fX_l0 fX_l0_1 fX_l0_2 fX_l1_1 fX_l1_2
  obtain ⟨fX_0, fX_1, fX_l, fX_f⟩ := KX_4.out.o2
  have fX_l0 : w.heap.size < w4.heap.size := by omega
  have fX_l0_1 : w.heap.size < w4.heap.size + 1 := by omega
  have fX_l0_2 : w.heap.size < w4.heap.size + 1 + 1 := by omega
  have fX_l1_1 : w.heap.size + 1 < w4.heap.size + 1 := by omega
  have fX_l1_2 : w.heap.size + 1 < w4.heap.size + 1 + 1 := by omega
  go_wp2
  refine Rel.region3 12 (by kernel_rfl) (by kernel_rfl) (by kernel_rfl) ?_
  simp only [List.take_succ_cons, List.take_zero, List.drop_succ_cons, List.drop_zero, List.filterMap_cons, List.filterMap_nil]
  iterate 2 (apply Rel.op3; (focus (first | exact Rel.gno rfl | exact Rel.gyes _ true _ rfl rfl rfl | exact Rel.gyes _ false _ rfl rfl rfl)); (focus (intro a W hb hd hbase; obtain ⟨hc, hf⟩ := bcell hb; clear hb hf; simp [Rel.deps, Rel.dep1, Rel.ons, Region.binds, Act.eval] at hd; simp only [Act.eval, List.mem_cons, List.not_mem_nil, not_or, and_imp, or_false, Array.getD_eq_getD_getElem?] at hbase; go_simp; (try go_bits); (try rfl); done)); (try simp only [List.nil_append, List.cons_append]))
  (apply Rel.call3; (focus (first | exact Rel.gno rfl | exact Rel.gyes _ true _ rfl rfl rfl | exact Rel.gyes _ false _ rfl rfl rfl)); (focus (intro a W hb hd hbase; obtain ⟨hc, hf⟩ := bcell hb; clear hb hf; simp [Rel.deps, Rel.dep1, Rel.ons, Region.binds, Act.eval] at hd; simp only [Act.eval, List.mem_cons, List.not_mem_nil, not_or, and_imp, or_false, Array.getD_eq_getD_getElem?] at hbase; go_simp; refine ⟨?_, ?_⟩; rfl; rfl)); (focus (intro W hb; go_at_call 16; exact HRR.out W (HC.out.below (hB4.trans (hb.mono hB4.size))))); (try simp only [List.nil_append, List.cons_append]))
  (apply Rel.build3; (focus (first | exact Rel.gno rfl | exact Rel.gyes _ true _ rfl rfl rfl | exact Rel.gyes _ false _ rfl rfl rfl)); (focus (intro a W hb hd hbase; obtain ⟨hc, hf⟩ := bcell hb; clear hb hf; simp [Rel.deps, Rel.dep1, Rel.ons, Region.binds, Act.eval] at hd; simp only [Act.eval, List.mem_cons, List.not_mem_nil, not_or, and_imp, or_false, Array.getD_eq_getD_getElem?] at hbase; go_simp; (first | rfl | (refine ⟨⟨?_, ?_⟩, ?_⟩; rfl; rfl; rfl) | (refine ⟨?_, ?_⟩; rfl; rfl)))); (try simp only [List.nil_append, List.cons_append]))
  refine Rel.callR3 (fun u _ => u = (.int .i64 (firstOf [DE, RE]))) (Rel.stable_eq _) (Rel.gno rfl) ?_ ?_
  · intro a W hb hd hbase
    simp [Rel.deps, Rel.dep1, Rel.ons, Region.binds, Act.eval] at hd
    obtain ⟨⟨g, h1, _, hg⟩, _⟩ := hd
    refine ⟨14, #[.slice (some ⟨g, 0, none⟩) 2 2], ?_, (first2_blk hg).mono (fun e W' ⟨h1, h2⟩ => ⟨_, h1, rfl, h2 ▸ Below.refl _ _⟩)⟩
    go_simp
    (first | done | rfl | (refine ⟨?_, ?_⟩ <;> rfl))
  (try simp only [List.nil_append, List.cons_append])
  iterate 3 (apply Rel.op3; (focus (first | exact Rel.gno rfl | exact Rel.gyes _ true _ rfl rfl rfl | exact Rel.gyes _ false _ rfl rfl rfl)); (focus (intro a W hb hd hbase; obtain ⟨hc, hf⟩ := bcell hb; clear hb hf; simp [Rel.deps, Rel.dep1, Rel.ons, Region.binds, Act.eval] at hd; simp only [Act.eval, List.mem_cons, List.not_mem_nil, not_or, and_imp, or_false, Array.getD_eq_getD_getElem?] at hbase; go_simp; (try go_bits); (try rfl); done)); (try simp only [List.nil_append, List.cons_append]))
  (apply Rel.call3; (focus (first | exact Rel.gno rfl | exact Rel.gyes _ true _ rfl rfl rfl | exact Rel.gyes _ false _ rfl rfl rfl)); (focus (intro a W hb hd hbase; obtain ⟨hc, hf⟩ := bcell hb; clear hb hf; simp [Rel.deps, Rel.dep1, Rel.ons, Region.binds, Act.eval] at hd; simp only [Act.eval, List.mem_cons, List.not_mem_nil, not_or, and_imp, or_false, Array.getD_eq_getD_getElem?] at hbase; go_simp; refine ⟨?_, ?_⟩; rfl; rfl)); (focus (intro W hb; go_at_call 27; exact HRS.out W (HW.out.below (hB4.trans (hb.mono hB4.size))))); (try simp only [List.nil_append, List.cons_append]))
  iterate 2 (apply Rel.op3; (focus (first | exact Rel.gno rfl | exact Rel.gyes _ true _ rfl rfl rfl | exact Rel.gyes _ false _ rfl rfl rfl)); (focus (intro a W hb hd hbase; obtain ⟨hc, hf⟩ := bcell hb; clear hb hf; simp [Rel.deps, Rel.dep1, Rel.ons, Region.binds, Act.eval] at hd; simp only [Act.eval, List.mem_cons, List.not_mem_nil, not_or, and_imp, or_false, Array.getD_eq_getD_getElem?] at hbase; go_simp; (try go_bits); (try rfl); done)); (try simp only [List.nil_append, List.cons_append]))
  (apply Rel.call3; (focus (first | exact Rel.gno rfl | exact Rel.gyes _ true _ rfl rfl rfl | exact Rel.gyes _ false _ rfl rfl rfl)); (focus (intro a W hb hd hbase; obtain ⟨hc, hf⟩ := bcell hb; clear hb hf; simp [Rel.deps, Rel.dep1, Rel.ons, Region.binds, Act.eval] at hd; simp only [Act.eval, List.mem_cons, List.not_mem_nil, not_or, and_imp, or_false, Array.getD_eq_getD_getElem?] at hbase; go_simp; refine ⟨?_, ?_⟩; rfl; rfl)); (focus (intro W hb; go_at_call 28; exact (checkRange_any p 0 50 W).mono (fun e W' ⟨h1, h2⟩ => ⟨h1, h2 ▸ Below.refl _ _⟩))); (try simp only [List.nil_append, List.cons_append]))
  refine Rel.done3 ?_
  intro xx w5 h5 hx
  simp only [Rel.facts, Nat.zero_add, Nat.reduceAdd] at hx
  obtain ⟨e0, e1, e2, _, e4, e5, e6, e7, e8, e9, e10, e11, _⟩ := hx
  simp only [Rel.fill, Nat.zero_add, Nat.reduceAdd, e0, e1, e2, e4, e5, e6, e7, e8, e9, e10, e11]
  simp only [Act.put, List.setIfInBounds_toArray, List.set_cons_zero, List.set_cons_succ]
  clear e0 e1 e2 e4 e5 e6 e7 e8 e9 e10 e11
  have HS3 := Lib.hid (HS2.out.below h5)
  have hB5 := hB4.trans (h5.mono hB4.size)
  have KD_5 := Lib.hid (KD_4.out.below h5)
  have KX_5 := Lib.hid (KX_4.out.below h5)
  clear h5 hB4 KD_4 KX_4 fX_0 fX_1 fX_l fX_f fX_l0 fX_l0_1 fX_l0_2 fX_l1_1 fX_l1_2
  clear HS2
  rcases hc1 with ⟨h0, HRE⟩ | ⟨h0, hEB⟩ <;> rcases hc2 with ⟨h2, HRW⟩ | ⟨h2, hns, hS⟩
  · skip
    subst h0
    subst h2
    obtain ⟨fD_0, fD_1, fD_2, fD_3, fD_4, fD_5, fD_l, fD_f⟩ := KD_5.out.o6
    have fD_l0_1 : w.heap.size < w5.heap.size + 1 := by omega
    have fD_l0_2 : w.heap.size < w5.heap.size + 1 + 1 := by omega
    obtain ⟨fX_0, fX_1, fX_l, fX_f⟩ := KX_5.out.o2
    have fX_l0 : w.heap.size < w5.heap.size := by omega
    have fX_l0_1 : w.heap.size < w5.heap.size + 1 := by omega
    have fX_l0_2 : w.heap.size < w5.heap.size + 1 + 1 := by omega
    have fX_l1_1 : w.heap.size + 1 < w5.heap.size + 1 := by omega
    have fX_l1_2 : w.heap.size + 1 < w5.heap.size + 1 + 1 := by omega
    go_wp2_with (first | (go_at_call 14; refine (qFirst3_any _ _ _ _).mono ?_; rintro r wq ⟨rfl, rfl⟩) | (go_at_call 29; refine (HRE.out _ (HC.out.below (hB5.alloc hB5.size _))).mono ?_; rintro r w6 ⟨rfl, h6⟩; refine Hid.out ?_))
    unfold Hid
    have HS_6 := Lib.hid (HS3.out.below (((Below.refl _ _).alloc (Nat.le_refl _) _).trans (h6.mono (by simp))))
    clear HS3
    have hB6 := (hB5.alloc hB5.size _).trans (h6.mono (Nat.le_trans hB5.size (by simp; try omega)))
    have oD_6 : w.heap.size < w5.heap.size := KD_5.out.lt
    have oX_6 : w.heap.size + 1 < w5.heap.size := KX_5.out.lt
    have KD_6 := Lib.hid ((KD_5.out.alloc _).below h6)
    have KX_6 := Lib.hid ((KX_5.out.alloc _).below h6)
    clear h6 hB5 KD_5 KX_5 fD_0 fD_1 fD_2 fD_3 fD_4 fD_5 fD_l fD_f fD_l0_1 fD_l0_2 fX_0 fX_1 fX_l fX_f fX_l0 fX_l0_1 fX_l0_2 fX_l1_1 fX_l1_2
    obtain ⟨fD_0, fD_1, fD_2, fD_3, fD_4, fD_5, fD_l, fD_f⟩ := KD_6.out.o6
    have fD_l0_1 : w.heap.size < w6.heap.size + 1 := by omega
    have fD_l0_2 : w.heap.size < w6.heap.size + 1 + 1 := by omega
    obtain ⟨fX_0, fX_1, fX_l, fX_f⟩ := KX_6.out.o2
    have fX_l0 : w.heap.size < w6.heap.size := by omega
    have fX_l0_1 : w.heap.size < w6.heap.size + 1 := by omega
    have fX_l0_2 : w.heap.size < w6.heap.size + 1 + 1 := by omega
    have fX_l1_1 : w.heap.size + 1 < w6.heap.size + 1 := by omega
    have fX_l1_2 : w.heap.size + 1 < w6.heap.size + 1 + 1 := by omega
    go_wp2_with (go_at_call 30; refine (HRW.out _ (HW.out.below hB6)).mono ?_; rintro r w7 ⟨WB, we, rfl, SWC, h7⟩; refine Hid.out ?_)
    unfold Hid
    have HS_7 := Lib.hid (HS_6.out.below h7)
    clear HS_6
    have hB7 := hB6.trans (h7.mono hB6.size)
    have KD_7 := Lib.hid (KD_6.out.below h7)
    have KX_7 := Lib.hid (KX_6.out.below h7)
    clear h7 hB6 KD_6 KX_6 fD_0 fD_1 fD_2 fD_3 fD_4 fD_5 fD_l fD_f fD_l0_1 fD_l0_2 fX_0 fX_1 fX_l fX_f fX_l0 fX_l0_1 fX_l0_2 fX_l1_1 fX_l1_2
    have SW0 := Lib.hid SWC; clear SWC
    go_wp2_with (go_at_call 13; refine (HRd.out _ (HC.out.below hB7)).mono ?_; rintro r w8 ⟨RB, re', rfl, _, RC, h8⟩; refine Hid.out ?_)
    unfold Hid
    have HS_8 := Lib.hid (HS_7.out.below h8)
    clear HS_7
    have SW_8 := Lib.hid (SW0.out.below h8)
    clear SW0
    have hB8 := hB7.trans (h8.mono hB7.size)
    have KD_8 := Lib.hid (KD_7.out.below h8)
    have KX_8 := Lib.hid (KX_7.out.below h8)
    clear h8 hB7 KD_7 KX_7
    have RC0 := Lib.hid RC; clear RC
    go_wp2_with (go_at_call 31; refine (HPR.out _ _ _ RC0.out).mono ?_; rintro r w9 ⟨rfl, h9⟩; refine Hid.out ?_)
    unfold Hid
    have HS_9 := Lib.hid (HS_8.out.below h9)
    clear HS_8
    have SW_9 := Lib.hid (SW_8.out.below h9)
    clear SW_8
    have hB9 := hB8.trans (h9.mono hB8.size)
    have KD_9 := Lib.hid (KD_8.out.below h9)
    have KX_9 := Lib.hid (KX_8.out.below h9)
    clear h9 hB8 KD_8 KX_8
    go_wp2_with (go_at_call 16; refine (HRR.out _ (HC.out.below hB9)).mono ?_; rintro r w10 ⟨rfl, h10⟩; refine Hid.out ?_)
    unfold Hid
    have HS_10 := Lib.hid (HS_9.out.below h10)
    clear HS_9
    have SW_10 := Lib.hid (SW_9.out.below h10)
    clear SW_9
    have hB10 := hB9.trans (h10.mono hB9.size)
    have KD_10 := Lib.hid (KD_9.out.below h10)
    have KX_10 := Lib.hid (KX_9.out.below h10)
    clear h10 hB9 KD_9 KX_9
    go_wp2_with (go_at_call 33; refine (HTo.out _ _ _ HS_10.out).mono ?_; rintro r w11 ⟨TB, te, rfl, TC, h11⟩; refine Hid.out ?_)
    unfold Hid
    have HS_11 := Lib.hid (HS_10.out.below h11)
    clear HS_10
    have SW_11 := Lib.hid (SW_10.out.below h11)
    clear SW_10
    have hB11 := hB10.trans (h11.mono hB10.size)
    have KD_11 := Lib.hid (KD_10.out.below h11)
    have KX_11 := Lib.hid (KX_10.out.below h11)
    clear h11 hB10 KD_10 KX_10
    have TC0 := Lib.hid TC; clear TC
    go_wp2_with (go_at_call 32; refine (HSa.out _ _ _ _ _ TC0.out SW_11.out).mono ?_; rintro r w12 ⟨rfl, h12⟩; refine Hid.out ?_)
    unfold Hid
    have HS_12 := Lib.hid (HS_11.out.below h12)
    clear HS_11
    have SW_12 := Lib.hid (SW_11.out.below h12)
    clear SW_11
    have hB12 := hB11.trans (h12.mono hB11.size)
    have KD_12 := Lib.hid (KD_11.out.below h12)
    have KX_12 := Lib.hid (KX_11.out.below h12)
    clear h12 hB11 KD_11 KX_11
    go_wp2
    go_ret
    exact ⟨by first | rfl | (simp; done), hB12⟩
  · skip
    subst h0
    subst hns hS
    obtain ⟨fD_0, fD_1, fD_2, fD_3, fD_4, fD_5, fD_l, fD_f⟩ := KD_5.out.o6
    have fD_l0_1 : w.heap.size < w5.heap.size + 1 := by omega
    have fD_l0_2 : w.heap.size < w5.heap.size + 1 + 1 := by omega
    obtain ⟨fX_0, fX_1, fX_l, fX_f⟩ := KX_5.out.o2
    have fX_l0 : w.heap.size < w5.heap.size := by omega
    have fX_l0_1 : w.heap.size < w5.heap.size + 1 := by omega
    have fX_l0_2 : w.heap.size < w5.heap.size + 1 + 1 := by omega
    have fX_l1_1 : w.heap.size + 1 < w5.heap.size + 1 := by omega
    have fX_l1_2 : w.heap.size + 1 < w5.heap.size + 1 + 1 := by omega
    go_wp2_with (first | (go_at_call 14; refine (qFirst3_any _ _ _ _).mono ?_; rintro r wq ⟨rfl, rfl⟩) | (go_at_call 29; refine (HRE.out _ (HC.out.below (hB5.alloc hB5.size _))).mono ?_; rintro r w6 ⟨rfl, h6⟩; refine Hid.out ?_))
    unfold Hid
    have HS_6 := Lib.hid (HS3.out.below (((Below.refl _ _).alloc (Nat.le_refl _) _).trans (h6.mono (by simp))))
    clear HS3
    have hB6 := (hB5.alloc hB5.size _).trans (h6.mono (Nat.le_trans hB5.size (by simp; try omega)))
    have oD_6 : w.heap.size < w5.heap.size := KD_5.out.lt
    have oX_6 : w.heap.size + 1 < w5.heap.size := KX_5.out.lt
    have KD_6 := Lib.hid ((KD_5.out.alloc _).below h6)
    have KX_6 := Lib.hid ((KX_5.out.alloc _).below h6)
    clear h6 hB5 KD_5 KX_5 fD_0 fD_1 fD_2 fD_3 fD_4 fD_5 fD_l fD_f fD_l0_1 fD_l0_2 fX_0 fX_1 fX_l fX_f fX_l0 fX_l0_1 fX_l0_2 fX_l1_1 fX_l1_2
    obtain ⟨fD_0, fD_1, fD_2, fD_3, fD_4, fD_5, fD_l, fD_f⟩ := KD_6.out.o6
    have fD_l0_1 : w.heap.size < w6.heap.size + 1 := by omega
    have fD_l0_2 : w.heap.size < w6.heap.size + 1 + 1 := by omega
    obtain ⟨fX_0, fX_1, fX_l, fX_f⟩ := KX_6.out.o2
    have fX_l0 : w.heap.size < w6.heap.size := by omega
    have fX_l0_1 : w.heap.size < w6.heap.size + 1 := by omega
    have fX_l0_2 : w.heap.size < w6.heap.size + 1 + 1 := by omega
    have fX_l1_1 : w.heap.size + 1 < w6.heap.size + 1 := by omega
    have fX_l1_2 : w.heap.size + 1 < w6.heap.size + 1 + 1 := by omega
    go_wp2_with (go_at_call 13; refine (HRd.out _ (HC.out.below hB6)).mono ?_; rintro r w7 ⟨RB, re', rfl, _, RC, h7⟩; refine Hid.out ?_)
    unfold Hid
    have HS_7 := Lib.hid (HS_6.out.below h7)
    clear HS_6
    have hB7 := hB6.trans (h7.mono hB6.size)
    have KD_7 := Lib.hid (KD_6.out.below h7)
    have KX_7 := Lib.hid (KX_6.out.below h7)
    clear h7 hB6 KD_6 KX_6 fD_0 fD_1 fD_2 fD_3 fD_4 fD_5 fD_l fD_f fD_l0_1 fD_l0_2 fX_0 fX_1 fX_l fX_f fX_l0 fX_l0_1 fX_l0_2 fX_l1_1 fX_l1_2
    have RC0 := Lib.hid RC; clear RC
    go_wp2_with (go_at_call 31; refine (HPR.out _ _ _ RC0.out).mono ?_; rintro r w8 ⟨rfl, h8⟩; refine Hid.out ?_)
    unfold Hid
    have HS_8 := Lib.hid (HS_7.out.below h8)
    clear HS_7
    have hB8 := hB7.trans (h8.mono hB7.size)
    have KD_8 := Lib.hid (KD_7.out.below h8)
    have KX_8 := Lib.hid (KX_7.out.below h8)
    clear h8 hB7 KD_7 KX_7
    go_wp2_with (go_at_call 16; refine (HRR.out _ (HC.out.below hB8)).mono ?_; rintro r w9 ⟨rfl, h9⟩; refine Hid.out ?_)
    unfold Hid
    have HS_9 := Lib.hid (HS_8.out.below h9)
    clear HS_8
    have hB9 := hB8.trans (h9.mono hB8.size)
    have KD_9 := Lib.hid (KD_8.out.below h9)
    have KX_9 := Lib.hid (KX_8.out.below h9)
    clear h9 hB8 KD_8 KX_8
    go_wp2_with (go_at_call 33; refine (HTo.out _ _ _ HS_9.out).mono ?_; rintro r w10 ⟨TB, te, rfl, TC, h10⟩; refine Hid.out ?_)
    unfold Hid
    have HS_10 := Lib.hid (HS_9.out.below h10)
    clear HS_9
    have hB10 := hB9.trans (h10.mono hB9.size)
    have KD_10 := Lib.hid (KD_9.out.below h10)
    have KX_10 := Lib.hid (KX_9.out.below h10)
    clear h10 hB9 KD_9 KX_9
    have TC0 := Lib.hid TC; clear TC
    go_wp2_with (go_at_call 32; refine (HSa.out _ _ _ _ _ TC0.out (fun h => absurd h (by simp))).mono ?_; rintro r w11 ⟨rfl, h11⟩; refine Hid.out ?_)
    unfold Hid
    have HS_11 := Lib.hid (HS_10.out.below h11)
    clear HS_10
    have hB11 := hB10.trans (h11.mono hB10.size)
    have KD_11 := Lib.hid (KD_10.out.below h11)
    have KX_11 := Lib.hid (KX_10.out.below h11)
    clear h11 hB10 KD_10 KX_10
    go_wp2
    go_ret
    exact ⟨by first | rfl | (simp; done), hB11⟩
  · skip
    subst hEB
    subst h2
    obtain ⟨fD_0, fD_1, fD_2, fD_3, fD_4, fD_5, fD_l, fD_f⟩ := KD_5.out.o6
    have fD_l0_1 : w.heap.size < w5.heap.size + 1 := by omega
    have fD_l0_2 : w.heap.size < w5.heap.size + 1 + 1 := by omega
    obtain ⟨fX_0, fX_1, fX_l, fX_f⟩ := KX_5.out.o2
    have fX_l0 : w.heap.size < w5.heap.size := by omega
    have fX_l0_1 : w.heap.size < w5.heap.size + 1 := by omega
    have fX_l0_2 : w.heap.size < w5.heap.size + 1 + 1 := by omega
    have fX_l1_1 : w.heap.size + 1 < w5.heap.size + 1 := by omega
    have fX_l1_2 : w.heap.size + 1 < w5.heap.size + 1 + 1 := by omega
    go_wp2_with (first | (go_at_call 14; refine (qFirst3_any _ _ _ _).mono ?_; rintro r wq ⟨rfl, rfl⟩) | (go_at_call 30; refine (HRW.out _ (HW.out.below (hB5.alloc hB5.size _))).mono ?_; rintro r w6 ⟨WB, we, rfl, SWC, h6⟩; refine Hid.out ?_))
    unfold Hid
    have HS_6 := Lib.hid (HS3.out.below (((Below.refl _ _).alloc (Nat.le_refl _) _).trans (h6.mono (by simp))))
    clear HS3
    have hB6 := (hB5.alloc hB5.size _).trans (h6.mono (Nat.le_trans hB5.size (by simp; try omega)))
    have oD_6 : w.heap.size < w5.heap.size := KD_5.out.lt
    have oX_6 : w.heap.size + 1 < w5.heap.size := KX_5.out.lt
    have KD_6 := Lib.hid ((KD_5.out.alloc _).below h6)
    have KX_6 := Lib.hid ((KX_5.out.alloc _).below h6)
    clear h6 hB5 KD_5 KX_5 fD_0 fD_1 fD_2 fD_3 fD_4 fD_5 fD_l fD_f fD_l0_1 fD_l0_2 fX_0 fX_1 fX_l fX_f fX_l0 fX_l0_1 fX_l0_2 fX_l1_1 fX_l1_2
    have SW0 := Lib.hid SWC; clear SWC
    go_wp2_with (go_at_call 13; refine (HRd.out _ (HC.out.below hB6)).mono ?_; rintro r w7 ⟨RB, re', rfl, _, RC, h7⟩; refine Hid.out ?_)
    unfold Hid
    have HS_7 := Lib.hid (HS_6.out.below h7)
    clear HS_6
    have SW_7 := Lib.hid (SW0.out.below h7)
    clear SW0
    have hB7 := hB6.trans (h7.mono hB6.size)
    have KD_7 := Lib.hid (KD_6.out.below h7)
    have KX_7 := Lib.hid (KX_6.out.below h7)
    clear h7 hB6 KD_6 KX_6
    have RC0 := Lib.hid RC; clear RC
    go_wp2_with (go_at_call 31; refine (HPR.out _ _ _ RC0.out).mono ?_; rintro r w8 ⟨rfl, h8⟩; refine Hid.out ?_)
    unfold Hid
    have HS_8 := Lib.hid (HS_7.out.below h8)
    clear HS_7
    have SW_8 := Lib.hid (SW_7.out.below h8)
    clear SW_7
    have hB8 := hB7.trans (h8.mono hB7.size)
    have KD_8 := Lib.hid (KD_7.out.below h8)
    have KX_8 := Lib.hid (KX_7.out.below h8)
    clear h8 hB7 KD_7 KX_7
    go_wp2_with (go_at_call 16; refine (HRR.out _ (HC.out.below hB8)).mono ?_; rintro r w9 ⟨rfl, h9⟩; refine Hid.out ?_)
    unfold Hid
    have HS_9 := Lib.hid (HS_8.out.below h9)
    clear HS_8
    have SW_9 := Lib.hid (SW_8.out.below h9)
    clear SW_8
    have hB9 := hB8.trans (h9.mono hB8.size)
    have KD_9 := Lib.hid (KD_8.out.below h9)
    have KX_9 := Lib.hid (KX_8.out.below h9)
    clear h9 hB8 KD_8 KX_8
    go_wp2_with (go_at_call 33; refine (HTo.out _ _ _ HS_9.out).mono ?_; rintro r w10 ⟨TB, te, rfl, TC, h10⟩; refine Hid.out ?_)
    unfold Hid
    have HS_10 := Lib.hid (HS_9.out.below h10)
    clear HS_9
    have SW_10 := Lib.hid (SW_9.out.below h10)
    clear SW_9
    have hB10 := hB9.trans (h10.mono hB9.size)
    have KD_10 := Lib.hid (KD_9.out.below h10)
    have KX_10 := Lib.hid (KX_9.out.below h10)
    clear h10 hB9 KD_9 KX_9
    have TC0 := Lib.hid TC; clear TC
    go_wp2_with (go_at_call 32; refine (HSa.out _ _ _ _ _ TC0.out SW_10.out).mono ?_; rintro r w11 ⟨rfl, h11⟩; refine Hid.out ?_)
    unfold Hid
    have HS_11 := Lib.hid (HS_10.out.below h11)
    clear HS_10
    have SW_11 := Lib.hid (SW_10.out.below h11)
    clear SW_10
    have hB11 := hB10.trans (h11.mono hB10.size)
    have KD_11 := Lib.hid (KD_10.out.below h11)
    have KX_11 := Lib.hid (KX_10.out.below h11)
    clear h11 hB10 KD_10 KX_10
    go_wp2
    go_ret
    exact ⟨by first | rfl | (simp; done), hB11⟩
  · skip
    subst hEB
    subst hns hS
    obtain ⟨fD_0, fD_1, fD_2, fD_3, fD_4, fD_5, fD_l, fD_f⟩ := KD_5.out.o6
    have fD_l0_1 : w.heap.size < w5.heap.size + 1 := by omega
    have fD_l0_2 : w.heap.size < w5.heap.size + 1 + 1 := by omega
    obtain ⟨fX_0, fX_1, fX_l, fX_f⟩ := KX_5.out.o2
    have fX_l0 : w.heap.size < w5.heap.size := by omega
    have fX_l0_1 : w.heap.size < w5.heap.size + 1 := by omega
    have fX_l0_2 : w.heap.size < w5.heap.size + 1 + 1 := by omega
    have fX_l1_1 : w.heap.size + 1 < w5.heap.size + 1 := by omega
    have fX_l1_2 : w.heap.size + 1 < w5.heap.size + 1 + 1 := by omega
    go_wp2_with (first | (go_at_call 14; refine (qFirst3_any _ _ _ _).mono ?_; rintro r wq ⟨rfl, rfl⟩) | (go_at_call 13; refine (HRd.out _ (HC.out.below (hB5.alloc hB5.size _))).mono ?_; rintro r w6 ⟨RB, re', rfl, _, RC, h6⟩; refine Hid.out ?_))
    unfold Hid
    have HS_6 := Lib.hid (HS3.out.below (((Below.refl _ _).alloc (Nat.le_refl _) _).trans (h6.mono (by simp))))
    clear HS3
    have hB6 := (hB5.alloc hB5.size _).trans (h6.mono (Nat.le_trans hB5.size (by simp; try omega)))
    have oD_6 : w.heap.size < w5.heap.size := KD_5.out.lt
    have oX_6 : w.heap.size + 1 < w5.heap.size := KX_5.out.lt
    have KD_6 := Lib.hid ((KD_5.out.alloc _).below h6)
    have KX_6 := Lib.hid ((KX_5.out.alloc _).below h6)
    clear h6 hB5 KD_5 KX_5 fD_0 fD_1 fD_2 fD_3 fD_4 fD_5 fD_l fD_f fD_l0_1 fD_l0_2 fX_0 fX_1 fX_l fX_f fX_l0 fX_l0_1 fX_l0_2 fX_l1_1 fX_l1_2
    have RC0 := Lib.hid RC; clear RC
    go_wp2_with (go_at_call 31; refine (HPR.out _ _ _ RC0.out).mono ?_; rintro r w7 ⟨rfl, h7⟩; refine Hid.out ?_)
    unfold Hid
    have HS_7 := Lib.hid (HS_6.out.below h7)
    clear HS_6
    have hB7 := hB6.trans (h7.mono hB6.size)
    have KD_7 := Lib.hid (KD_6.out.below h7)
    have KX_7 := Lib.hid (KX_6.out.below h7)
    clear h7 hB6 KD_6 KX_6
    go_wp2_with (go_at_call 16; refine (HRR.out _ (HC.out.below hB7)).mono ?_; rintro r w8 ⟨rfl, h8⟩; refine Hid.out ?_)
    unfold Hid
    have HS_8 := Lib.hid (HS_7.out.below h8)
    clear HS_7
    have hB8 := hB7.trans (h8.mono hB7.size)
    have KD_8 := Lib.hid (KD_7.out.below h8)
    have KX_8 := Lib.hid (KX_7.out.below h8)
    clear h8 hB7 KD_7 KX_7
    go_wp2_with (go_at_call 33; refine (HTo.out _ _ _ HS_8.out).mono ?_; rintro r w9 ⟨TB, te, rfl, TC, h9⟩; refine Hid.out ?_)
    unfold Hid
    have HS_9 := Lib.hid (HS_8.out.below h9)
    clear HS_8
    have hB9 := hB8.trans (h9.mono hB8.size)
    have KD_9 := Lib.hid (KD_8.out.below h9)
    have KX_9 := Lib.hid (KX_8.out.below h9)
    clear h9 hB8 KD_8 KX_8
    have TC0 := Lib.hid TC; clear TC
    go_wp2_with (go_at_call 32; refine (HSa.out _ _ _ _ _ TC0.out (fun h => absurd h (by simp))).mono ?_; rintro r w10 ⟨rfl, h10⟩; refine Hid.out ?_)
    unfold Hid
    have HS_10 := Lib.hid (HS_9.out.below h10)
    clear HS_9
    have hB10 := hB9.trans (h10.mono hB9.size)
    have KD_10 := Lib.hid (KD_9.out.below h10)
    have KX_10 := Lib.hid (KX_9.out.below h10)
    clear h10 hB9 KD_9 KX_9
    go_wp2
    go_ret
    exact ⟨by first | rfl | (simp; done), hB10⟩
end Go.Proofs.YtpkldjlljoledaaGreatDoor

/- Contract of the reference's chosen. -/
namespace Go.Proofs.YtpkldjlljoledaaGreatDoor
open Go.RowKit
open Calm (bcell Blk)

theorem name_world3 {C : Code} {P : Program} {Q : Exit → Act → World → Prop} {a : Act} {W : World} (h : ∀ W', W' = W → C.wp P Q a W') : C.wp P Q a W := h W rfl
/-- does no driver of the class explain the readings with these indices. -/
def noB (re le bl ma st lo m k r : Int) (zs : List (Int × Int × Int)) (l : List Nat) : Bool := decide ((regD re le bl ma st lo m k r (someL zs l)).length = 0)
def ChoE (P : List Nat → Bool) (n k : Nat) (taken : List Nat) (f : Nat) (W0 : World) : Ending → World → Prop := fun r w' =>
  ∃ v, r = .returned (.tuple #[v, .bool (chosenF P n k taken f).isSome]) ∧ (∀ l, chosenF P n k taken f = some l → w'.ownsRow 0 3 1 v l.length (ints l)) ∧ Below W0.heap.size W0 w'
def LenS (n : Nat) (u : Value) (_ : World) : Prop := ∃ B e, u = .slice B n e
theorem LenS.stable (n : Nat) : Rel.Stable (LenS n) := fun _ _ _ h _ => h
theorem own_any {W : World} {base e n : Nat} {A : Option Addr} {c : Nat} {l : List Nat} (h : W.ownsRow base e 1 (.slice A n c) l.length (ints l)) : Cells W A (toI l) := (own_cells h).2
theorem someL_ok {zs : List (Int × Int × Int)} {l : List Nat} (hz : ∀ k, k < zs.length → readErr (zs.getD k (0, 0, 0)).1 (zs.getD k (0, 0, 0)).2.1 (zs.getD k (0, 0, 0)).2.2 = 0) (hb : ∀ i ∈ l, i < zs.length) :
    ∀ k, k < (someL zs l).length → readErr ((someL zs l).getD k (0, 0, 0)).1 ((someL zs l).getD k (0, 0, 0)).2.1 ((someL zs l).getD k (0, 0, 0)).2.2 = 0 := by
  intro k hk
  have hk' : k < l.length := by simpa [someL] using hk
  have e : (someL zs l).getD k (0, 0, 0) = zs.getD l[k] (0, 0, 0) := by
    simp [someL, List.getD_eq_getElem?_getD, List.getElem?_map, List.getElem?_eq_getElem hk']
  rw [e]
  exact hz _ (hb _ (List.getElem_mem hk'))
set_option maxRecDepth 100000 in
set_option maxHeartbeats 8000000 in
theorem chosen_zero (re le bl ma st lo m k r : Int) (zs : List (Int × Int × Int)) (h : classErr re le bl ma st lo m k r = 0) (hz : ∀ k, k < zs.length → readErr (zs.getD k (0, 0, 0)).1 (zs.getD k (0, 0, 0)).2.1 (zs.getD k (0, 0, 0)).2.2 = 0) (hn : zs.length ≤ 8)
    (taken : List Nat) (f : Nat) (A T : Option Addr) (c ct : Nat) (w : World) (hC : RCells w A zs) (hT : w.ownsRow 0 3 1 (.slice T taken.length ct) taken.length (ints taken)) (ht : taken.length ≤ 8) (hb : ∀ i ∈ taken, i < zs.length) :
    Calls Tryz.prog 66 #[.agg #[(.int .i64 (re)), (.int .i64 (le)), (.int .i64 (bl)), (.int .i64 (ma)), (.int .i64 (st)), (.int .i64 (lo)), (.int .i64 (m)), (.int .i64 (k)), (.int .i64 (r))], .slice A zs.length c, .slice T taken.length ct, (.int .i64 (f)), (.int .i64 (0))] w (ChoE (noB re le bl ma st lo m k r zs) zs.length 0 taken f w) := by
  have hSome : ∀ W, RCells W A zs → Cells W T (toI taken) → Calls Tryz.prog 102 #[.slice A zs.length c, .slice T taken.length ct] W fun r w' => ∃ B e, r = .returned (.slice B taken.length e) ∧ RCells w' B (someL zs taken) ∧ Below W.heap.size W w' := fun W k1 k2 => some_any A T zs taken c ct W k1 k2 (by omega) (by omega) hb
  have hsl : (someL zs taken).length = taken.length := by simp [someL]
  have hExp : ∀ W B e, RCells W B (someL zs taken) → Calls Tryz.prog 59 #[.agg #[(.int .i64 (re)), (.int .i64 (le)), (.int .i64 (bl)), (.int .i64 (ma)), (.int .i64 (st)), (.int .i64 (lo)), (.int .i64 (m)), (.int .i64 (k)), (.int .i64 (r))], .slice B taken.length e] W fun x w' => ∃ B e, x = .returned (.slice B (regD re le bl ma st lo m k r (someL zs taken)).length e) ∧ DCells w' B re le bl (regD re le bl ma st lo m k r (someL zs taken)) ∧ Below W.heap.size W w' := fun W B e kk => by
    have := refExplaining_any re le bl ma st lo m k r B (someL zs taken) e W h kk (by rw [hsl]; omega) (someL_ok hz hb)
    rwa [hsl] at this
  have hcho : chosenF (noB re le bl ma st lo m k r zs) zs.length 0 taken f = if (regD re le bl ma st lo m k r (someL zs taken)).length = 0 then some taken else none := by
    unfold chosenF noB
    by_cases hh : (regD re le bl ma st lo m k r (someL zs taken)).length = 0 <;> simp [hh]
  unfold ChoE
  rw [hcho]
  generalize (regD re le bl ma st lo m k r (someL zs taken)) = G at hExp
  obtain ⟨gn, hgn⟩ : ∃ gn, gn = G.length := ⟨_, rfl⟩
  rw [← hgn] at hExp ⊢
  have hCT := own_any hT
  obtain ⟨N, hN⟩ : ∃ N, N = zs.length := ⟨_, rfl⟩
  obtain ⟨M, hM⟩ : ∃ M, M = taken.length := ⟨_, rfl⟩
  rw [← hN] at hSome ⊢
  rw [← hM] at hSome hExp hT ⊢
  have HSome := Lib.hid hSome
  have HExp := Lib.hid hExp
  have HC := Lib.hid hC
  have HT := Lib.hid hT
  have HCT := Lib.hid hCT
  have hM8 : M ≤ 8 := by omega
  have HM := Lib.hid hM
  clear h hz hn hC hT ht hb hSome hsl hExp hcho hgn hCT hN hM
  have hB0 := Below.refl w.heap.size w
  have hB1 := hB0.alloc hB0.size (.cells #[(.int .i64 (re)), (.int .i64 (le)), (.int .i64 (bl)), (.int .i64 (ma)), (.int .i64 (st)), (.int .i64 (lo)), (.int .i64 (m)), (.int .i64 (k)), (.int .i64 (r))] 25)
  have K1 := Blk.new w 25 #[(.int .i64 (re)), (.int .i64 (le)), (.int .i64 (bl)), (.int .i64 (ma)), (.int .i64 (st)), (.int .i64 (lo)), (.int .i64 (m)), (.int .i64 (k)), (.int .i64 (r))]
  have HB1 := Lib.hid hB1
  have HK1 := Lib.hid K1
  clear hB0 hB1 K1
  by_cases hg : gn = 0
  · skip
    rw [if_pos hg]
    subst hg
    go_enter Tryz.func66, Tryz.ntmps66
    go_wp2
    refine name_world3 ?_
    intro w1 e1
    have hB := e1.symm ▸ HB1.out
    have K := e1.symm ▸ HK1.out
    clear e1 HB1 HK1
    obtain ⟨c0, c1, c2, c3, c4, c5, c6, c7, c8, cl, -⟩ := K.o9
    have HBw := Lib.hid hB
    clear K hB
    refine Rel.region3 9 (by kernel_rfl) (by kernel_rfl) (by kernel_rfl) ?_
    simp only [List.take_succ_cons, List.take_zero, List.drop_succ_cons, List.drop_zero, List.filterMap_cons, List.filterMap_nil]
    iterate 4 (apply Rel.op3; (focus (first | exact Rel.gno rfl | exact Rel.gyes _ true _ rfl rfl rfl | exact Rel.gyes _ false _ rfl rfl rfl)); (focus (intro a W hb hd hbase; obtain ⟨hc, hf⟩ := bcell hb; clear hb hf; simp [Rel.deps, Rel.dep1, Rel.ons, Region.binds, Act.eval] at hd; simp only [Act.eval, List.mem_cons, List.not_mem_nil, not_or, and_imp, or_false, Array.getD_eq_getD_getElem?] at hbase; go_simp; (try go_bits); (try rfl); done)); (try simp only [List.nil_append, List.cons_append]))
    refine Rel.callR3 (RdS M (someL zs taken)) (RdS.stable _ _) (Rel.gno rfl) ?_ ?_
    · intro a W hb hd hbase
      simp [Rel.deps, Rel.dep1, Rel.ons, Region.binds, Act.eval] at hd
      obtain ⟨h1, h2⟩ := hd
      refine ⟨102, #[.slice A N c, .slice T M ct], ?_, (HSome.out W (HC.out.below (HBw.out.trans (hb.mono HBw.out.size))) (HCT.out.below (HBw.out.trans (hb.mono HBw.out.size)))).mono (fun e W' ⟨B, e1, h1, h3, h4⟩ => ⟨_, h1, ⟨B, e1, rfl, h3⟩, h4⟩)⟩
      go_simp
      (first | done | rfl | (refine ⟨?_, ?_⟩ <;> rfl))
    (try simp only [List.nil_append, List.cons_append])
    refine Rel.callR3 (LenS 0) (LenS.stable _) (Rel.gno rfl) ?_ ?_
    · intro a W hb hd hbase
      simp [Rel.deps, Rel.dep1, Rel.ons, Region.binds, Act.eval] at hd
      obtain ⟨h1, B, e, h2, h3⟩ := hd
      refine ⟨59, #[.agg #[(.int .i64 (re)), (.int .i64 (le)), (.int .i64 (bl)), (.int .i64 (ma)), (.int .i64 (st)), (.int .i64 (lo)), (.int .i64 (m)), (.int .i64 (k)), (.int .i64 (r))], .slice B M e], ?_, (HExp.out W B e h3).mono (fun e W' ⟨B, e1, h1, h3, h4⟩ => ⟨_, h1, ⟨B, e1, rfl⟩, h4⟩)⟩
      go_simp
      (first | done | rfl | (refine ⟨?_, ?_⟩ <;> rfl))
    (try simp only [List.nil_append, List.cons_append])
    refine Rel.opR3 (fun u _ => u = (.int .i64 (0))) (Rel.stable_eq _) (Rel.gno rfl) ?_ ?_
    · intro a W hb hd hbase
      simp [Rel.deps, Rel.dep1, Rel.ons, Region.binds, Act.eval] at hd
      obtain ⟨B, e, h2⟩ := hd
      refine ⟨(.int .i64 (0)), ?_, rfl⟩
      go_simp
      (first | done | rfl | (refine ⟨?_, ?_⟩ <;> rfl))
    (try simp only [List.nil_append, List.cons_append])
    iterate 2 (apply Rel.op3; (focus (first | exact Rel.gno rfl | exact Rel.gyes _ true _ rfl rfl rfl | exact Rel.gyes _ false _ rfl rfl rfl)); (focus (intro a W hb hd hbase; obtain ⟨hc, hf⟩ := bcell hb; clear hb hf; simp [Rel.deps, Rel.dep1, Rel.ons, Region.binds, Act.eval] at hd; simp only [Act.eval, List.mem_cons, List.not_mem_nil, not_or, and_imp, or_false, Array.getD_eq_getD_getElem?] at hbase; go_simp; (try go_bits); (try rfl); done)); (try simp only [List.nil_append, List.cons_append]))
    refine Rel.done3 ?_
    intro xx w2 h2 hx
    simp only [Rel.facts, Nat.zero_add, Nat.reduceAdd] at hx
    obtain ⟨e0, e1, e2, e3, _, _, e6, e7, e8, _⟩ := hx
    simp only [Rel.fill, Nat.zero_add, Nat.reduceAdd, e0, e1, e2, e3, e6, e7, e8]
    simp only [Act.put, List.setIfInBounds_toArray, List.set_cons_zero, List.set_cons_succ]
    clear e0 e1 e2 e3 e6 e7 e8
    have HB2 := Lib.hid (HBw.out.trans (h2.mono HBw.out.size))
    go_wp2
    go_ret2
    exact ⟨_, rfl, fun l hl => by cases hl; rw [← HM.out]; exact ownsRow_below HT.out HB2.out, HB2.out⟩
  · skip
    rw [if_neg hg]
    have hgi : ¬ (gn : Int) = 0 := by omega
    go_enter Tryz.func66, Tryz.ntmps66
    go_wp2
    refine name_world3 ?_
    intro w1 e1
    have hB := e1.symm ▸ HB1.out
    have K := e1.symm ▸ HK1.out
    clear e1 HB1 HK1
    obtain ⟨c0, c1, c2, c3, c4, c5, c6, c7, c8, cl, -⟩ := K.o9
    have HBw := Lib.hid hB
    clear K hB
    refine Rel.region3 9 (by kernel_rfl) (by kernel_rfl) (by kernel_rfl) ?_
    simp only [List.take_succ_cons, List.take_zero, List.drop_succ_cons, List.drop_zero, List.filterMap_cons, List.filterMap_nil]
    iterate 4 (apply Rel.op3; (focus (first | exact Rel.gno rfl | exact Rel.gyes _ true _ rfl rfl rfl | exact Rel.gyes _ false _ rfl rfl rfl)); (focus (intro a W hb hd hbase; obtain ⟨hc, hf⟩ := bcell hb; clear hb hf; simp [Rel.deps, Rel.dep1, Rel.ons, Region.binds, Act.eval] at hd; simp only [Act.eval, List.mem_cons, List.not_mem_nil, not_or, and_imp, or_false, Array.getD_eq_getD_getElem?] at hbase; go_simp; (try go_bits); (try rfl); done)); (try simp only [List.nil_append, List.cons_append]))
    refine Rel.callR3 (RdS M (someL zs taken)) (RdS.stable _ _) (Rel.gno rfl) ?_ ?_
    · intro a W hb hd hbase
      simp [Rel.deps, Rel.dep1, Rel.ons, Region.binds, Act.eval] at hd
      obtain ⟨h1, h2⟩ := hd
      refine ⟨102, #[.slice A N c, .slice T M ct], ?_, (HSome.out W (HC.out.below (HBw.out.trans (hb.mono HBw.out.size))) (HCT.out.below (HBw.out.trans (hb.mono HBw.out.size)))).mono (fun e W' ⟨B, e1, h1, h3, h4⟩ => ⟨_, h1, ⟨B, e1, rfl, h3⟩, h4⟩)⟩
      go_simp
      (first | done | rfl | (refine ⟨?_, ?_⟩ <;> rfl))
    (try simp only [List.nil_append, List.cons_append])
    refine Rel.callR3 (LenS gn) (LenS.stable _) (Rel.gno rfl) ?_ ?_
    · intro a W hb hd hbase
      simp [Rel.deps, Rel.dep1, Rel.ons, Region.binds, Act.eval] at hd
      obtain ⟨h1, B, e, h2, h3⟩ := hd
      refine ⟨59, #[.agg #[(.int .i64 (re)), (.int .i64 (le)), (.int .i64 (bl)), (.int .i64 (ma)), (.int .i64 (st)), (.int .i64 (lo)), (.int .i64 (m)), (.int .i64 (k)), (.int .i64 (r))], .slice B M e], ?_, (HExp.out W B e h3).mono (fun e W' ⟨B, e1, h1, h3, h4⟩ => ⟨_, h1, ⟨B, e1, rfl⟩, h4⟩)⟩
      go_simp
      (first | done | rfl | (refine ⟨?_, ?_⟩ <;> rfl))
    (try simp only [List.nil_append, List.cons_append])
    refine Rel.opR3 (fun u _ => u = (.int .i64 (gn))) (Rel.stable_eq _) (Rel.gno rfl) ?_ ?_
    · intro a W hb hd hbase
      simp [Rel.deps, Rel.dep1, Rel.ons, Region.binds, Act.eval] at hd
      obtain ⟨B, e, h2⟩ := hd
      refine ⟨(.int .i64 (gn)), ?_, rfl⟩
      go_simp
      (first | done | rfl | (refine ⟨?_, ?_⟩ <;> rfl))
    (try simp only [List.nil_append, List.cons_append])
    (apply Rel.op3 (.bool false); (focus (first | exact Rel.gno rfl | exact Rel.gyes _ true _ rfl rfl rfl | exact Rel.gyes _ false _ rfl rfl rfl)); (focus (intro a W hb hd hbase; obtain ⟨hc, hf⟩ := bcell hb; clear hb hf; simp [Rel.deps, Rel.dep1, Rel.ons, Region.binds, Act.eval] at hd; simp only [Act.eval, List.mem_cons, List.not_mem_nil, not_or, and_imp, or_false, Array.getD_eq_getD_getElem?] at hbase; go_simp; (try go_bits); (try rfl); done)); (try simp only [List.nil_append, List.cons_append]))
    iterate 1 (apply Rel.op3; (focus (first | exact Rel.gno rfl | exact Rel.gyes _ true _ rfl rfl rfl | exact Rel.gyes _ false _ rfl rfl rfl)); (focus (intro a W hb hd hbase; obtain ⟨hc, hf⟩ := bcell hb; clear hb hf; simp [Rel.deps, Rel.dep1, Rel.ons, Region.binds, Act.eval] at hd; simp only [Act.eval, List.mem_cons, List.not_mem_nil, not_or, and_imp, or_false, Array.getD_eq_getD_getElem?] at hbase; go_simp; (try go_bits); (try rfl); done)); (try simp only [List.nil_append, List.cons_append]))
    refine Rel.done3 ?_
    intro xx w2 h2 hx
    simp only [Rel.facts, Nat.zero_add, Nat.reduceAdd] at hx
    obtain ⟨e0, e1, e2, e3, _, _, e6, e7, e8, _⟩ := hx
    simp only [Rel.fill, Nat.zero_add, Nat.reduceAdd, e0, e1, e2, e3, e6, e7, e8]
    simp only [Act.put, List.setIfInBounds_toArray, List.set_cons_zero, List.set_cons_succ]
    clear e0 e1 e2 e3 e6 e7 e8
    have HB2 := Lib.hid (HBw.out.trans (h2.mono HBw.out.size))
    go_wp2
    go_ret2
    exact ⟨_, rfl, (fun l hl => by cases hl), HB2.out⟩
end Go.Proofs.YtpkldjlljoledaaGreatDoor
