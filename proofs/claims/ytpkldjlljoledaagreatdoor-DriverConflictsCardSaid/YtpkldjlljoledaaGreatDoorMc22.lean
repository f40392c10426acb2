/- Part 22 of the texts of the claim: RgA, RgAll, CfA, CfB. -/
import Derived.Test.YtpkldjlljoledaaGreatDoorMc13
import Derived.Test.YtpkldjlljoledaaGreatDoorMc19
import Derived.Test.YtpkldjlljoledaaGreatDoorMc21

/- DriverRegions answers yes where its guards hold. -/
namespace Go.Proofs.YtpkldjlljoledaaGreatDoor
open Go.RowKit
open Calm (bcell Blk)
theorem name_world {C : Code} {P : Program} {Q : Exit → Act → World → Prop} {a : Act} {W : World} (h : ∀ W', W' = W → C.wp P Q a W') : C.wp P Q a W := h W rfl
/-- a slice that holds these drivers. -/
def DrS (n : Nat) (re le bl : Int) (zs : List (Int × Int × Int)) (u : Value) (W : World) : Prop := ∃ B e, u = .slice B n e ∧ DCells W B re le bl zs
theorem DrS.stable (n : Nat) (re le bl : Int) (zs : List (Int × Int × Int)) : Rel.Stable (DrS n re le bl zs) := fun u W W' ⟨B, e, h1, h2⟩ hb => ⟨B, e, h1, h2.below hb⟩

set_option maxRecDepth 100000 in
set_option maxHeartbeats 16000000 in
theorem regions_ok (re le bl ma st lo mm kk rr CE RE EE bad : Int) (zs F : List (Int × Int × Int)) (n fn c : Nat) (A : Option Addr) (w : World) (hL : Lim w) (HC : Hid (RCells w A zs))
    (HSh : Hid (∀ W : World, Calls Tryz.prog 9 #[.slice A n c, (.int .i64 (5))] W fun r w' => r = .returned (.bool true) ∧ W = w'))
    (HSm : Hid (∀ W : World, Calls Tryz.prog 10 #[.agg #[(.int .i64 (re)), (.int .i64 (le)), (.int .i64 (bl)), (.int .i64 (ma)), (.int .i64 (st)), (.int .i64 (lo)), (.int .i64 (mm)), (.int .i64 (kk)), (.int .i64 (rr))]] W fun r w' => r = .returned (.bool true) ∧ Below W.heap.size W w'))
    (HRd : Hid (∀ W : World, RCells W A zs → Calls Tryz.prog 13 #[.slice A n c] W fun r w' => ∃ B e, r = .returned (.slice B n e) ∧ (∀ p, B = some p → W.heap.size ≤ p.block) ∧ RCells w' B zs ∧ Below W.heap.size W w'))
    (HRg : Hid (∀ (W : World) (B : Option Addr) (e : Nat), Lim W → RCells W B zs → Calls Tryz.prog 11 #[.agg #[(.int .i64 (re)), (.int .i64 (le)), (.int .i64 (bl)), (.int .i64 (ma)), (.int .i64 (st)), (.int .i64 (lo)), (.int .i64 (mm)), (.int .i64 (kk)), (.int .i64 (rr))], .slice B n e] W fun r w' => ∃ B' e', r = .returned (.tuple #[.slice B' fn e', (.int .i64 (EE))]) ∧ DCells w' B' re le bl F ∧ Below W.heap.size W w'))
    (HCC : Hid (∀ W : World, Calls Tryz.prog 15 #[.agg #[(.int .i64 (re)), (.int .i64 (le)), (.int .i64 (bl)), (.int .i64 (ma)), (.int .i64 (st)), (.int .i64 (lo)), (.int .i64 (mm)), (.int .i64 (kk)), (.int .i64 (rr))]] W fun r w' => r = .returned ((.int .i64 (CE))) ∧ Below W.heap.size W w'))
    (HPC : Hid (∀ W : World, Lim W → Calls Tryz.prog 18 #[.agg #[(.int .i64 (re)), (.int .i64 (le)), (.int .i64 (bl)), (.int .i64 (ma)), (.int .i64 (st)), (.int .i64 (lo)), (.int .i64 (mm)), (.int .i64 (kk)), (.int .i64 (rr))]] W fun r w' => r = .returned ((.int .i64 (CE))) ∧ Below W.heap.size W w'))
    (HCR : Hid (∀ W : World, RCells W A zs → Calls Tryz.prog 16 #[.slice A n c] W fun r w' => r = .returned (.int .i64 (RE)) ∧ Below W.heap.size W w'))
    (HDr : Hid (∀ (W : World) (B : Option Addr) (e : Nat), DCells W B re le bl F → Calls Tryz.prog 20 #[.slice B fn e] W fun r w' => ∃ B' e', r = .returned (.slice B' fn e') ∧ DCells w' B' re le bl F ∧ Below W.heap.size W w'))
    (HSa : Hid (∀ (W : World) (B B' : Option Addr) (e e' : Nat), DCells W B re le bl F → DCells W B' re le bl F → Calls Tryz.prog 19 #[.slice B fn e, .slice B' fn e'] W fun r w' => r = .returned (.bool true) ∧ Below W.heap.size W w'))
    (e1 : firstOf [CE, RE] = bad)
    (hc : bad = 0 ∧ Hid (∀ W : World, RCells W A zs → Calls Tryz.prog 17 #[.agg #[(.int .i64 (re)), (.int .i64 (le)), (.int .i64 (bl)), (.int .i64 (ma)), (.int .i64 (st)), (.int .i64 (lo)), (.int .i64 (mm)), (.int .i64 (kk)), (.int .i64 (rr))], .slice A n c] W fun r w' => ∃ B' e', r = .returned (.tuple #[.slice B' fn e', (.int .i64 (EE))]) ∧ DCells w' B' re le bl F ∧ Below W.heap.size W w') ∨ ¬ bad = 0 ∧ EE = bad ∧ F = [] ∧ fn = 0)
    : Calls Tryz.prog 3 #[.agg #[(.int .i64 (re)), (.int .i64 (le)), (.int .i64 (bl)), (.int .i64 (ma)), (.int .i64 (st)), (.int .i64 (lo)), (.int .i64 (mm)), (.int .i64 (kk)), (.int .i64 (rr))], .slice A n c] w fun r w' => r = .returned (.bool true) ∧ Below w.heap.size w w' := by
  have hB0 := Below.refl w.heap.size w
  go_enter Tryz.func3, Tryz.ntmps3
  go_wp2_with (go_at_call 8; refine (awake_any _ (hL.below (hB0.alloc hB0.size _))).mono ?_; rintro r w1 ⟨rfl, h1⟩; refine Hid.out ?_)
  unfold Hid
  have hB1 := (hB0.alloc hB0.size _).trans (h1.mono (Nat.le_trans hB0.size (by simp; try omega)))
  have KC_1 := Lib.hid (show Blk w1 (w.heap.size) #[(.int .i64 (re)), (.int .i64 (le)), (.int .i64 (bl)), (.int .i64 (ma)), (.int .i64 (st)), (.int .i64 (lo)), (.int .i64 (mm)), (.int .i64 (kk)), (.int .i64 (rr))] from (Calm.Blk.new _ _ #[(.int .i64 (re)), (.int .i64 (le)), (.int .i64 (bl)), (.int .i64 (ma)), (.int .i64 (st)), (.int .i64 (lo)), (.int .i64 (mm)), (.int .i64 (kk)), (.int .i64 (rr))]).below h1)
  clear h1 hB0
  obtain ⟨fC_0, fC_1, fC_2, fC_3, fC_4, fC_5, fC_6, fC_7, fC_8, fC_l, fC_f⟩ := KC_1.out.o9
  have fC_l0_1 : w.heap.size < w1.heap.size + 1 := by omega
  have fC_l0_2 : w.heap.size < w1.heap.size + 1 + 1 := by omega
  go_wp2_with (first | (go_at_call 9; refine (HSh.out _).mono ?_; rintro r wq ⟨rfl, rfl⟩) | (go_at_call 10; refine (HSm.out _).mono ?_; rintro r w2 ⟨rfl, h2⟩; refine Hid.out ?_))
  unfold Hid
  have hB2 := hB1.trans (h2.mono hB1.size)
  have KC_2 := Lib.hid (KC_1.out.below h2)
  clear h2 hB1 KC_1 fC_0 fC_1 fC_2 fC_3 fC_4 fC_5 fC_6 fC_7 fC_8 fC_l fC_f fC_l0_1 fC_l0_2
  obtain ⟨fC_0, fC_1, fC_2, fC_3, fC_4, fC_5, fC_6, fC_7, fC_8, fC_l, fC_f⟩ := KC_2.out.o9
  have fC_l0_1 : w.heap.size < w2.heap.size + 1 := by omega
  have fC_l0_2 : w.heap.size < w2.heap.size + 1 + 1 := by omega
  go_wp2_with (go_at_call 12; refine (class_any _ _ _ _ _ _ _ _ _ _).mono ?_; rintro r w3 ⟨rfl, h3⟩; refine Hid.out ?_)
  unfold Hid
  have hB3 := hB2.trans (h3.mono hB2.size)
  have KC_3 := Lib.hid (KC_2.out.below h3)
  clear h3 hB2 KC_2 fC_0 fC_1 fC_2 fC_3 fC_4 fC_5 fC_6 fC_7 fC_8 fC_l fC_f fC_l0_1 fC_l0_2
  go_wp2_with (go_at_call 13; refine (HRd.out _ (HC.out.below hB3)).mono ?_; rintro r w4 ⟨RB, re', rfl, _, RC, h4⟩; refine Hid.out ?_)
  unfold Hid
  have RC0 := Lib.hid RC; clear RC
  have hB4 := hB3.trans (h4.mono hB3.size)
  have KC_4 := Lib.hid (KC_3.out.below h4)
  clear h4 hB3 KC_3
  go_wp2_with (go_at_call 11; refine (HRg.out _ _ _ (hL.below hB4) RC0.out).mono ?_; rintro r w5 ⟨GB, ge, rfl, GC, h5⟩; refine Hid.out ?_)
  unfold Hid
  have RC0_5 := Lib.hid (RC0.out.below (h5))
  clear RC0
  have GC0 := Lib.hid GC; clear GC
  have hB5 := hB4.trans (h5.mono hB4.size)
  have KC_5 := Lib.hid (KC_4.out.below h5)
  clear h5 hB4 KC_4
  clear RC0_5
  obtain ⟨fC_0, fC_1, fC_2, fC_3, fC_4, fC_5, fC_6, fC_7, fC_8, fC_l, fC_f⟩ := KC_5.out.o9
  have fC_l0_1 : w.heap.size < w5.heap.size + 1 := by omega
  have fC_l0_2 : w.heap.size < w5.heap.size + 1 + 1 := by omega
  go_wp2_with (go_at_call 15; refine (HCC.out _).mono ?_; rintro r w6 ⟨rfl, h6⟩; refine Hid.out ?_)
  unfold Hid
  have GC0_6 := Lib.hid (GC0.out.below (h6))
  clear GC0
  have hB6 := hB5.trans (h6.mono hB5.size)
  have KC_6 := Lib.hid (KC_5.out.below h6)
  clear h6 hB5 KC_5 fC_0 fC_1 fC_2 fC_3 fC_4 fC_5 fC_6 fC_7 fC_8 fC_l fC_f fC_l0_1 fC_l0_2
  go_wp2_with (go_at_call 16; refine (HCR.out _ (HC.out.below hB6)).mono ?_; rintro r w7 ⟨rfl, h7⟩; refine Hid.out ?_)
  unfold Hid
  have GC0_7 := Lib.hid (GC0_6.out.below (h7))
  clear GC0_6
  have hB7 := hB6.trans (h7.mono hB6.size)
  have KC_7 := Lib.hid (KC_6.out.below h7)
  clear h7 hB6 KC_6
  obtain ⟨fC_0, fC_1, fC_2, fC_3, fC_4, fC_5, fC_6, fC_7, fC_8, fC_l, fC_f⟩ := KC_7.out.o9
  have fC_l0_1 : w.heap.size < w7.heap.size + 1 := by omega
  have fC_l0_2 : w.heap.size < w7.heap.size + 1 + 1 := by omega
  rcases hc with ⟨h0, HRR⟩ | ⟨h0, hE, hF, hfn⟩
  · skip
    have f_x : w.heap.size < w7.heap.size + 1 := by have := fC_l; omega
    subst h0
    go_wp2_with (first | (go_at_call 14; refine (qFirst2_any _ _ _).mono ?_; rintro r wq ⟨rfl, rfl⟩) | (go_at_call 17; refine (HRR.out _ (HC.out.below (hB7.alloc hB7.size _))).mono ?_; rintro r w8 ⟨WB, we, rfl, WC, h8⟩; refine Hid.out ?_))
    unfold Hid
    have GC0_8 := Lib.hid (GC0_7.out.below (((Below.refl _ _).alloc (by simp; try omega) _).trans (h8.mono (by simp; try omega))))
    clear GC0_7
    have WC0 := Lib.hid WC; clear WC
    have hB8 := (hB7.alloc hB7.size _).trans (h8.mono (Nat.le_trans hB7.size (by simp; try omega)))
    have oC_8 : w.heap.size < w7.heap.size := KC_7.out.lt
    have KC_8 := Lib.hid ((KC_7.out.alloc _).below h8)
    clear h8 hB7 KC_7 fC_0 fC_1 fC_2 fC_3 fC_4 fC_5 fC_6 fC_7 fC_8 fC_l fC_f fC_l0_1 fC_l0_2
    obtain ⟨fC_0, fC_1, fC_2, fC_3, fC_4, fC_5, fC_6, fC_7, fC_8, fC_l, fC_f⟩ := KC_8.out.o9
    have fC_l0_1 : w.heap.size < w8.heap.size + 1 := by omega
    have fC_l0_2 : w.heap.size < w8.heap.size + 1 + 1 := by omega
    go_wp2
    refine Rel.region3 17 (by kernel_rfl) (by kernel_rfl) (by kernel_rfl) ?_
    simp only [List.take_succ_cons, List.take_zero, List.drop_succ_cons, List.drop_zero, List.filterMap_cons, List.filterMap_nil]
    iterate 1 (apply Rel.op3; (focus (first | exact Rel.gno rfl | exact Rel.gyes _ true _ rfl rfl rfl | exact Rel.gyes _ false _ rfl rfl rfl)); (focus (intro a W hb hd hbase; obtain ⟨hc, hf⟩ := bcell hb; clear hb hf; simp [Rel.deps, Rel.dep1, Rel.ons, Region.binds, Act.eval] at hd; simp only [Act.eval, List.mem_cons, List.not_mem_nil, not_or, and_imp, or_false, Array.getD_eq_getD_getElem?] at hbase; go_simp; (try go_bits); (try rfl); done)); (try simp only [List.nil_append, List.cons_append]))
    (apply Rel.call3; (focus (first | exact Rel.gno rfl | exact Rel.gyes _ true _ rfl rfl rfl | exact Rel.gyes _ false _ rfl rfl rfl)); (focus (intro a W hb hd hbase; obtain ⟨hc, hf⟩ := bcell hb; clear hb hf; simp [Rel.deps, Rel.dep1, Rel.ons, Region.binds, Act.eval] at hd; simp only [Act.eval, List.mem_cons, List.not_mem_nil, not_or, and_imp, or_false, Array.getD_eq_getD_getElem?] at hbase; go_simp; refine ⟨?_, ?_⟩; rfl; rfl)); (focus (intro W hb; go_at_call 12; exact class_any _ _ _ _ _ _ _ _ _ _)); (try simp only [List.nil_append, List.cons_append]))
    (apply Rel.call3; (focus (first | exact Rel.gno rfl | exact Rel.gyes _ true _ rfl rfl rfl | exact Rel.gyes _ false _ rfl rfl rfl)); (focus (intro a W hb hd hbase; obtain ⟨hc, hf⟩ := bcell hb; clear hb hf; simp [Rel.deps, Rel.dep1, Rel.ons, Region.binds, Act.eval] at hd; simp only [Act.eval, List.mem_cons, List.not_mem_nil, not_or, and_imp, or_false, Array.getD_eq_getD_getElem?] at hbase; go_simp; refine ⟨?_, ?_⟩; rfl; rfl)); (focus (intro W hb; go_at_call 18; exact HPC.out W (hL.below (hB8.trans (hb.mono hB8.size))))); (try simp only [List.nil_append, List.cons_append]))
    iterate 1 (apply Rel.op3; (focus (first | exact Rel.gno rfl | exact Rel.gyes _ true _ rfl rfl rfl | exact Rel.gyes _ false _ rfl rfl rfl)); (focus (intro a W hb hd hbase; obtain ⟨hc, hf⟩ := bcell hb; clear hb hf; simp [Rel.deps, Rel.dep1, Rel.ons, Region.binds, Act.eval] at hd; simp only [Act.eval, List.mem_cons, List.not_mem_nil, not_or, and_imp, or_false, Array.getD_eq_getD_getElem?] at hbase; go_simp; (try go_bits); (try rfl); done)); (try simp only [List.nil_append, List.cons_append]))
    (apply Rel.call3; (focus (first | exact Rel.gno rfl | exact Rel.gyes _ true _ rfl rfl rfl | exact Rel.gyes _ false _ rfl rfl rfl)); (focus (intro a W hb hd hbase; obtain ⟨hc, hf⟩ := bcell hb; clear hb hf; simp [Rel.deps, Rel.dep1, Rel.ons, Region.binds, Act.eval] at hd; simp only [Act.eval, List.mem_cons, List.not_mem_nil, not_or, and_imp, or_false, Array.getD_eq_getD_getElem?] at hbase; go_simp; refine ⟨?_, ?_⟩; rfl; rfl)); (focus (intro W hb; go_at_call 15; exact HCC.out W)); (try simp only [List.nil_append, List.cons_append]))
    (apply Rel.op3 (.bool true); (focus (first | exact Rel.gno rfl | exact Rel.gyes _ true _ rfl rfl rfl | exact Rel.gyes _ false _ rfl rfl rfl)); (focus (intro a W hb hd hbase; obtain ⟨hc, hf⟩ := bcell hb; clear hb hf; simp [Rel.deps, Rel.dep1, Rel.ons, Region.binds, Act.eval] at hd; simp only [Act.eval, List.mem_cons, List.not_mem_nil, not_or, and_imp, or_false, Array.getD_eq_getD_getElem?] at hbase; go_simp; (try go_bits); (try rfl); done)); (try simp only [List.nil_append, List.cons_append]))
    iterate 2 (apply Rel.op3; (focus (first | exact Rel.gno rfl | exact Rel.gyes _ true _ rfl rfl rfl | exact Rel.gyes _ false _ rfl rfl rfl)); (focus (intro a W hb hd hbase; obtain ⟨hc, hf⟩ := bcell hb; clear hb hf; simp [Rel.deps, Rel.dep1, Rel.ons, Region.binds, Act.eval] at hd; simp only [Act.eval, List.mem_cons, List.not_mem_nil, not_or, and_imp, or_false, Array.getD_eq_getD_getElem?] at hbase; go_simp; (try go_bits); (try rfl); done)); (try simp only [List.nil_append, List.cons_append]))
    refine Rel.callR3 (DrS fn re le bl F) (DrS.stable _ _ _ _ _) (by first | exact Rel.gno rfl | exact Rel.gyes _ true _ rfl rfl rfl) ?_ ?_
    · intro a W hb hd hbase
      simp [Rel.deps, Rel.dep1, Rel.ons, Region.binds, Act.eval] at hd
      obtain hd := hd
      refine ⟨20, #[.slice GB fn ge], ?_, (HDr.out W GB ge (GC0_8.out.below hb)).mono (fun e W' ⟨B, e1, h1, h3, h4⟩ => ⟨_, h1, ⟨B, e1, rfl, h3⟩, h4⟩)⟩
      go_simp
      (first | done | rfl | (refine ⟨?_, ?_⟩ <;> rfl))
    (try simp only [List.nil_append, List.cons_append])
    iterate 1 (apply Rel.op3; (focus (first | exact Rel.gno rfl | exact Rel.gyes _ true _ rfl rfl rfl | exact Rel.gyes _ false _ rfl rfl rfl)); (focus (intro a W hb hd hbase; obtain ⟨hc, hf⟩ := bcell hb; clear hb hf; simp [Rel.deps, Rel.dep1, Rel.ons, Region.binds, Act.eval] at hd; simp only [Act.eval, List.mem_cons, List.not_mem_nil, not_or, and_imp, or_false, Array.getD_eq_getD_getElem?] at hbase; go_simp; (try go_bits); (try rfl); done)); (try simp only [List.nil_append, List.cons_append]))
    refine Rel.callR3 (fun u _ => u = .bool true) (Rel.stable_eq _) (by first | exact Rel.gno rfl | exact Rel.gyes _ true _ rfl rfl rfl) ?_ ?_
    · intro a W hb hd hbase
      simp [Rel.deps, Rel.dep1, Rel.ons, Region.binds, Act.eval] at hd
      obtain ⟨⟨B, e, h1, h3⟩, _⟩ := hd
      refine ⟨19, #[.slice B fn e, .slice WB fn we], ?_, (HSa.out W B WB e we h3 (WC0.out.below hb)).mono (fun e W' ⟨h1, h2⟩ => ⟨_, h1, rfl, h2⟩)⟩
      go_simp
      (first | done | rfl | (refine ⟨?_, ?_⟩ <;> rfl))
    (try simp only [List.nil_append, List.cons_append])
    (apply Rel.op3 (.bool true); (focus (first | exact Rel.gno rfl | exact Rel.gyes _ true _ rfl rfl rfl | exact Rel.gyes _ false _ rfl rfl rfl)); (focus (intro a W hb hd hbase; obtain ⟨hc, hf⟩ := bcell hb; clear hb hf; simp [Rel.deps, Rel.dep1, Rel.ons, Region.binds, Act.eval] at hd; simp only [Act.eval, List.mem_cons, List.not_mem_nil, not_or, and_imp, or_false, Array.getD_eq_getD_getElem?] at hbase; go_simp; (try go_bits); (try rfl); done)); (try simp only [List.nil_append, List.cons_append]))
    iterate 3 (apply Rel.op3; (focus (first | exact Rel.gno rfl | exact Rel.gyes _ true _ rfl rfl rfl | exact Rel.gyes _ false _ rfl rfl rfl)); (focus (intro a W hb hd hbase; obtain ⟨hc, hf⟩ := bcell hb; clear hb hf; simp [Rel.deps, Rel.dep1, Rel.ons, Region.binds, Act.eval] at hd; simp only [Act.eval, List.mem_cons, List.not_mem_nil, not_or, and_imp, or_false, Array.getD_eq_getD_getElem?] at hbase; go_simp; (try go_bits); (try rfl); done)); (try simp only [List.nil_append, List.cons_append]))
    (apply Rel.op3 (.bool true); (focus (first | exact Rel.gno rfl | exact Rel.gyes _ true _ rfl rfl rfl | exact Rel.gyes _ false _ rfl rfl rfl)); (focus (intro a W hb hd hbase; obtain ⟨hc, hf⟩ := bcell hb; clear hb hf; simp [Rel.deps, Rel.dep1, Rel.ons, Region.binds, Act.eval] at hd; simp only [Act.eval, List.mem_cons, List.not_mem_nil, not_or, and_imp, or_false, Array.getD_eq_getD_getElem?] at hbase; go_simp; (try go_bits); (try rfl); done)); (try simp only [List.nil_append, List.cons_append]))
    (apply Rel.op3 (.bool true); (focus (first | exact Rel.gno rfl | exact Rel.gyes _ true _ rfl rfl rfl | exact Rel.gyes _ false _ rfl rfl rfl)); (focus (intro a W hb hd hbase; obtain ⟨hc, hf⟩ := bcell hb; clear hb hf; simp [Rel.deps, Rel.dep1, Rel.ons, Region.binds, Act.eval] at hd; simp only [Act.eval, List.mem_cons, List.not_mem_nil, not_or, and_imp, or_false, Array.getD_eq_getD_getElem?] at hbase; go_simp; (try go_bits); (try rfl); done)); (try simp only [List.nil_append, List.cons_append]))
    refine Rel.done3 ?_
    intro xx w9 h9 hx
    simp only [Rel.facts, Nat.zero_add, Nat.reduceAdd] at hx
    obtain ⟨e0, e1, e2, e3, e4, e5, e6, e7, _, e9, e10, e11, e12, e13, e14, e15, e16, _⟩ := hx
    simp only [Rel.fill, Nat.zero_add, Nat.reduceAdd, e0, e1, e2, e3, e4, e5, e6, e7, e9, e10, e11, e12, e13, e14, e15, e16]
    simp only [Act.put, List.setIfInBounds_toArray, List.set_cons_zero, List.set_cons_succ]
    clear e0 e1 e2 e3 e4 e5 e6 e7 e9 e10 e11 e12 e13 e14 e15 e16
    have hB9 := hB8.trans (h9.mono hB8.size)
    have KC_9 := Lib.hid (KC_8.out.below h9)
    clear h9 hB8 KC_8 fC_0 fC_1 fC_2 fC_3 fC_4 fC_5 fC_6 fC_7 fC_8 fC_l fC_f fC_l0_1 fC_l0_2
    go_wp2
    go_ret
    exact ⟨by first | rfl | (simp; done), hB9⟩
  · skip
    have f_x : w.heap.size < w7.heap.size + 1 := by have := fC_l; omega
    subst hE hF hfn
    go_wp2_with (go_at_call 14; refine (qFirst2_any _ _ _).mono ?_; rintro r wq ⟨rfl, rfl⟩)
    refine name_world ?_
    intro w8 e8
    have hB8 : Below w.heap.size w w8 := e8.symm ▸ (hB7.alloc hB7.size _)
    have oC_8 : w.heap.size < w7.heap.size := KC_7.out.lt
    have KC_8 := Lib.hid (show Blk w8 (w.heap.size) #[(.int .i64 (re)), (.int .i64 (le)), (.int .i64 (bl)), (.int .i64 (ma)), (.int .i64 (st)), (.int .i64 (lo)), (.int .i64 (mm)), (.int .i64 (kk)), (.int .i64 (rr))] from e8.symm ▸ (KC_7.out.alloc _))
    have z8 : w7.heap.size + 1 ≤ w8.heap.size := by rw [e8]; simp
    clear e8 hB7 KC_7 fC_0 fC_1 fC_2 fC_3 fC_4 fC_5 fC_6 fC_7 fC_8 fC_l fC_f fC_l0_1 fC_l0_2
    obtain ⟨fC_0, fC_1, fC_2, fC_3, fC_4, fC_5, fC_6, fC_7, fC_8, fC_l, fC_f⟩ := KC_8.out.o9
    have fC_l0_1 : w.heap.size < w8.heap.size + 1 := by omega
    have fC_l0_2 : w.heap.size < w8.heap.size + 1 + 1 := by omega
    refine Rel.region3 17 (by kernel_rfl) (by kernel_rfl) (by kernel_rfl) ?_
    simp only [List.take_succ_cons, List.take_zero, List.drop_succ_cons, List.drop_zero, List.filterMap_cons, List.filterMap_nil]
    iterate 1 (apply Rel.op3; (focus (first | exact Rel.gno rfl | exact Rel.gyes _ true _ rfl rfl rfl | exact Rel.gyes _ false _ rfl rfl rfl)); (focus (intro a W hb hd hbase; obtain ⟨hc, hf⟩ := bcell hb; clear hb hf; simp [Rel.deps, Rel.dep1, Rel.ons, Region.binds, Act.eval] at hd; simp only [Act.eval, List.mem_cons, List.not_mem_nil, not_or, and_imp, or_false, Array.getD_eq_getD_getElem?] at hbase; go_simp; (try go_bits); (try rfl); done)); (try simp only [List.nil_append, List.cons_append]))
    (apply Rel.call3; (focus (first | exact Rel.gno rfl | exact Rel.gyes _ true _ rfl rfl rfl | exact Rel.gyes _ false _ rfl rfl rfl)); (focus (intro a W hb hd hbase; obtain ⟨hc, hf⟩ := bcell hb; clear hb hf; simp [Rel.deps, Rel.dep1, Rel.ons, Region.binds, Act.eval] at hd; simp only [Act.eval, List.mem_cons, List.not_mem_nil, not_or, and_imp, or_false, Array.getD_eq_getD_getElem?] at hbase; go_simp; refine ⟨?_, ?_⟩; rfl; rfl)); (focus (intro W hb; go_at_call 12; exact class_any _ _ _ _ _ _ _ _ _ _)); (try simp only [List.nil_append, List.cons_append]))
    (apply Rel.call3; (focus (first | exact Rel.gno rfl | exact Rel.gyes _ true _ rfl rfl rfl | exact Rel.gyes _ false _ rfl rfl rfl)); (focus (intro a W hb hd hbase; obtain ⟨hc, hf⟩ := bcell hb; clear hb hf; simp [Rel.deps, Rel.dep1, Rel.ons, Region.binds, Act.eval] at hd; simp only [Act.eval, List.mem_cons, List.not_mem_nil, not_or, and_imp, or_false, Array.getD_eq_getD_getElem?] at hbase; go_simp; refine ⟨?_, ?_⟩; rfl; rfl)); (focus (intro W hb; go_at_call 18; exact HPC.out W (hL.below (hB8.trans (hb.mono hB8.size))))); (try simp only [List.nil_append, List.cons_append]))
    iterate 1 (apply Rel.op3; (focus (first | exact Rel.gno rfl | exact Rel.gyes _ true _ rfl rfl rfl | exact Rel.gyes _ false _ rfl rfl rfl)); (focus (intro a W hb hd hbase; obtain ⟨hc, hf⟩ := bcell hb; clear hb hf; simp [Rel.deps, Rel.dep1, Rel.ons, Region.binds, Act.eval] at hd; simp only [Act.eval, List.mem_cons, List.not_mem_nil, not_or, and_imp, or_false, Array.getD_eq_getD_getElem?] at hbase; go_simp; (try go_bits); (try rfl); done)); (try simp only [List.nil_append, List.cons_append]))
    (apply Rel.call3; (focus (first | exact Rel.gno rfl | exact Rel.gyes _ true _ rfl rfl rfl | exact Rel.gyes _ false _ rfl rfl rfl)); (focus (intro a W hb hd hbase; obtain ⟨hc, hf⟩ := bcell hb; clear hb hf; simp [Rel.deps, Rel.dep1, Rel.ons, Region.binds, Act.eval] at hd; simp only [Act.eval, List.mem_cons, List.not_mem_nil, not_or, and_imp, or_false, Array.getD_eq_getD_getElem?] at hbase; go_simp; refine ⟨?_, ?_⟩; rfl; rfl)); (focus (intro W hb; go_at_call 15; exact HCC.out W)); (try simp only [List.nil_append, List.cons_append]))
    (apply Rel.op3 (.bool true); (focus (first | exact Rel.gno rfl | exact Rel.gyes _ true _ rfl rfl rfl | exact Rel.gyes _ false _ rfl rfl rfl)); (focus (intro a W hb hd hbase; obtain ⟨hc, hf⟩ := bcell hb; clear hb hf; simp [Rel.deps, Rel.dep1, Rel.ons, Region.binds, Act.eval] at hd; simp only [Act.eval, List.mem_cons, List.not_mem_nil, not_or, and_imp, or_false, Array.getD_eq_getD_getElem?] at hbase; go_simp; (try go_bits); (try rfl); done)); (try simp only [List.nil_append, List.cons_append]))
    iterate 2 (apply Rel.op3; (focus (first | exact Rel.gno rfl | exact Rel.gyes _ true _ rfl rfl rfl | exact Rel.gyes _ false _ rfl rfl rfl)); (focus (intro a W hb hd hbase; obtain ⟨hc, hf⟩ := bcell hb; clear hb hf; simp [Rel.deps, Rel.dep1, Rel.ons, Region.binds, Act.eval] at hd; simp only [Act.eval, List.mem_cons, List.not_mem_nil, not_or, and_imp, or_false, Array.getD_eq_getD_getElem?] at hbase; go_simp; (try go_bits); (try rfl); done)); (try simp only [List.nil_append, List.cons_append]))
    refine Rel.callR3 (DrS 0 re le bl []) (DrS.stable _ _ _ _ _) (by first | exact Rel.gno rfl | exact Rel.gyes _ true _ rfl rfl rfl) ?_ ?_
    · intro a W hb hd hbase
      simp [Rel.deps, Rel.dep1, Rel.ons, Region.binds, Act.eval] at hd
      obtain hd := hd
      refine ⟨20, #[.slice GB 0 ge], ?_, (HDr.out W GB ge (fun h => absurd h (by simp))).mono (fun e W' ⟨B, e1, h1, h3, h4⟩ => ⟨_, h1, ⟨B, e1, rfl, h3⟩, h4⟩)⟩
      go_simp
      (first | done | rfl | (refine ⟨?_, ?_⟩ <;> rfl))
    (try simp only [List.nil_append, List.cons_append])
    iterate 1 (apply Rel.op3; (focus (first | exact Rel.gno rfl | exact Rel.gyes _ true _ rfl rfl rfl | exact Rel.gyes _ false _ rfl rfl rfl)); (focus (intro a W hb hd hbase; obtain ⟨hc, hf⟩ := bcell hb; clear hb hf; simp [Rel.deps, Rel.dep1, Rel.ons, Region.binds, Act.eval] at hd; simp only [Act.eval, List.mem_cons, List.not_mem_nil, not_or, and_imp, or_false, Array.getD_eq_getD_getElem?] at hbase; go_simp; (try go_bits); (try rfl); done)); (try simp only [List.nil_append, List.cons_append]))
    refine Rel.callR3 (fun u _ => u = .bool true) (Rel.stable_eq _) (by first | exact Rel.gno rfl | exact Rel.gyes _ true _ rfl rfl rfl) ?_ ?_
    · intro a W hb hd hbase
      simp [Rel.deps, Rel.dep1, Rel.ons, Region.binds, Act.eval] at hd
      obtain ⟨⟨B, e, h1, h3⟩, _⟩ := hd
      refine ⟨19, #[.slice B 0 e, .slice none 0 0], ?_, (HSa.out W B none e 0 h3 (fun h => absurd h (by simp))).mono (fun e W' ⟨h1, h2⟩ => ⟨_, h1, rfl, h2⟩)⟩
      go_simp
      (first | done | rfl | (refine ⟨?_, ?_⟩ <;> rfl))
    (try simp only [List.nil_append, List.cons_append])
    (apply Rel.op3 (.bool true); (focus (first | exact Rel.gno rfl | exact Rel.gyes _ true _ rfl rfl rfl | exact Rel.gyes _ false _ rfl rfl rfl)); (focus (intro a W hb hd hbase; obtain ⟨hc, hf⟩ := bcell hb; clear hb hf; simp [Rel.deps, Rel.dep1, Rel.ons, Region.binds, Act.eval] at hd; simp only [Act.eval, List.mem_cons, List.not_mem_nil, not_or, and_imp, or_false, Array.getD_eq_getD_getElem?] at hbase; go_simp; (try go_bits); (try rfl); done)); (try simp only [List.nil_append, List.cons_append]))
    iterate 3 (apply Rel.op3; (focus (first | exact Rel.gno rfl | exact Rel.gyes _ true _ rfl rfl rfl | exact Rel.gyes _ false _ rfl rfl rfl)); (focus (intro a W hb hd hbase; obtain ⟨hc, hf⟩ := bcell hb; clear hb hf; simp [Rel.deps, Rel.dep1, Rel.ons, Region.binds, Act.eval] at hd; simp only [Act.eval, List.mem_cons, List.not_mem_nil, not_or, and_imp, or_false, Array.getD_eq_getD_getElem?] at hbase; go_simp; (try go_bits); (try rfl); done)); (try simp only [List.nil_append, List.cons_append]))
    (apply Rel.op3 (.bool true); (focus (first | exact Rel.gno rfl | exact Rel.gyes _ true _ rfl rfl rfl | exact Rel.gyes _ false _ rfl rfl rfl)); (focus (intro a W hb hd hbase; obtain ⟨hc, hf⟩ := bcell hb; clear hb hf; simp [Rel.deps, Rel.dep1, Rel.ons, Region.binds, Act.eval] at hd; simp only [Act.eval, List.mem_cons, List.not_mem_nil, not_or, and_imp, or_false, Array.getD_eq_getD_getElem?] at hbase; go_simp; (try go_bits); (try rfl); done)); (try simp only [List.nil_append, List.cons_append]))
    (apply Rel.op3 (.bool true); (focus (first | exact Rel.gno rfl | exact Rel.gyes _ true _ rfl rfl rfl | exact Rel.gyes _ false _ rfl rfl rfl)); (focus (intro a W hb hd hbase; obtain ⟨hc, hf⟩ := bcell hb; clear hb hf; simp [Rel.deps, Rel.dep1, Rel.ons, Region.binds, Act.eval] at hd; simp only [Act.eval, List.mem_cons, List.not_mem_nil, not_or, and_imp, or_false, Array.getD_eq_getD_getElem?] at hbase; go_simp; (try go_bits); (try rfl); done)); (try simp only [List.nil_append, List.cons_append]))
    refine Rel.done3 ?_
    intro xx w9 h9 hx
    simp only [Rel.facts, Nat.zero_add, Nat.reduceAdd] at hx
    obtain ⟨e0, e1, e2, e3, e4, e5, e6, e7, _, e9, e10, e11, e12, e13, e14, e15, e16, _⟩ := hx
    simp only [Rel.fill, Nat.zero_add, Nat.reduceAdd, e0, e1, e2, e3, e4, e5, e6, e7, e9, e10, e11, e12, e13, e14, e15, e16]
    simp only [Act.put, List.setIfInBounds_toArray, List.set_cons_zero, List.set_cons_succ]
    clear e0 e1 e2 e3 e4 e5 e6 e7 e9 e10 e11 e12 e13 e14 e15 e16
    have hB9 := hB8.trans (h9.mono hB8.size)
    have KC_9 := Lib.hid (KC_8.out.below h9)
    clear h9 hB8 KC_8 fC_0 fC_1 fC_2 fC_3 fC_4 fC_5 fC_6 fC_7 fC_8 fC_l fC_f fC_l0_1 fC_l0_2
    go_wp2
    go_ret
    exact ⟨by first | rfl | (simp; done), hB9⟩
end Go.Proofs.YtpkldjlljoledaaGreatDoor

/- DriverRegions answers yes, whatever its arguments. -/
namespace Go.Proofs.YtpkldjlljoledaaGreatDoor
open Go.RowKit
open Calm (bcell Blk)

set_option maxRecDepth 100000 in
set_option maxHeartbeats 4000000 in
theorem regions_no (re le bl ma st lo mm kk rr : Int) (n c : Nat) (A : Option Addr) (w : World) (hL : Lim w)
    (h : Hid (∀ W : World, Calls Tryz.prog 9 #[.slice A n c, (.int .i64 (5))] W fun r w' => r = .returned (.bool false) ∧ W = w') ∨
      Hid (∀ W : World, Calls Tryz.prog 9 #[.slice A n c, (.int .i64 (5))] W fun r w' => r = .returned (.bool true) ∧ W = w') ∧ Hid (∀ W : World, Calls Tryz.prog 10 #[.agg #[(.int .i64 (re)), (.int .i64 (le)), (.int .i64 (bl)), (.int .i64 (ma)), (.int .i64 (st)), (.int .i64 (lo)), (.int .i64 (mm)), (.int .i64 (kk)), (.int .i64 (rr))]] W fun r w' => r = .returned (.bool false) ∧ Below W.heap.size W w')) :
    Calls Tryz.prog 3 #[.agg #[(.int .i64 (re)), (.int .i64 (le)), (.int .i64 (bl)), (.int .i64 (ma)), (.int .i64 (st)), (.int .i64 (lo)), (.int .i64 (mm)), (.int .i64 (kk)), (.int .i64 (rr))], .slice A n c] w fun r w' => r = .returned (.bool true) ∧ Below w.heap.size w w' := by
  rcases h with HSh | ⟨HSh, HSm⟩
  · have hB0 := Below.refl w.heap.size w
    go_enter Tryz.func3, Tryz.ntmps3
    go_wp2_with (go_at_call 8; refine (awake_any _ (hL.below (hB0.alloc hB0.size _))).mono ?_; rintro r w1 ⟨rfl, h1⟩; refine Hid.out ?_)
    unfold Hid
    have hB1 := (hB0.alloc hB0.size _).trans (h1.mono (by simp))
    go_wp2_with (first
      | (go_at_call 9; refine (HSh.out _).mono ?_; rintro r wq ⟨rfl, rfl⟩)
      | (go_at_call 8; refine (awake_any _ (hL.below hB1)).mono ?_; rintro r w2 ⟨rfl, h2⟩))
    go_ret
    exact ⟨by first | rfl | (simp; done), hB1.trans (h2.mono hB1.size)⟩
  · have hB0 := Below.refl w.heap.size w
    go_enter Tryz.func3, Tryz.ntmps3
    go_wp2_with (go_at_call 8; refine (awake_any _ (hL.below (hB0.alloc hB0.size _))).mono ?_; rintro r w1 ⟨rfl, h1⟩; refine Hid.out ?_)
    unfold Hid
    have hB1 := (hB0.alloc hB0.size _).trans (h1.mono (by simp))
    have K1 := Lib.hid ((Calm.Blk.new w _ #[(.int .i64 (re)), (.int .i64 (le)), (.int .i64 (bl)), (.int .i64 (ma)), (.int .i64 (st)), (.int .i64 (lo)), (.int .i64 (mm)), (.int .i64 (kk)), (.int .i64 (rr))]).below h1)
    obtain ⟨f0, f1, f2, f3, f4, f5, f6, f7, f8, fl, ff⟩ := K1.out.o9
    clear h1
    go_wp2_with (first
      | (go_at_call 9; refine (HSh.out _).mono ?_; rintro r wq ⟨rfl, rfl⟩)
      | (go_at_call 10; refine (HSm.out _).mono ?_; rintro r w2 ⟨rfl, h2⟩; refine Hid.out ?_))
    unfold Hid
    have hB2 := hB1.trans (h2.mono hB1.size)
    clear h2
    go_wp2_with (go_at_call 8; refine (awake_any _ (hL.below hB2)).mono ?_; rintro r w3 ⟨rfl, h3⟩)
    go_ret
    exact ⟨by first | rfl | (simp; done), hB2.trans (h3.mono hB2.size)⟩

theorem reg_zero {re le bl ma st lo m k r : Int} {zs : List (Int × Int × Int)} (h : regErr re le bl ma st lo m k r zs = 0) : classErr re le bl ma st lo m k r = 0 ∧ ∀ k, k < zs.length → readErr (zs.getD k (0, 0, 0)).1 (zs.getD k (0, 0, 0)).2.1 (zs.getD k (0, 0, 0)).2.2 = 0 := by
  unfold regErr at h
  have h1 := firstOf_eq_zero.1 h
  simp only [List.mem_cons, List.not_mem_nil, or_false, forall_eq_or_imp, forall_eq] at h1
  obtain ⟨h1, h2⟩ := h1
  refine ⟨h1, readErrs_all ?_⟩
  unfold readsErr at h2
  by_cases hl : 32 < zs.length
  · rw [if_pos hl] at h2; omega
  · rwa [if_neg hl] at h2
theorem regG_len {re le bl ma st lo m k r : Int} {zs : List (Int × Int × Int)} (h : classErr re le bl ma st lo m k r = 0) : (regG (regD re le bl ma st lo m k r zs)).length ≤ 4096 := by
  unfold regG
  split
  · simp
  · unfold regD
    exact Nat.le_trans (List.length_filter_le _ _) (drvs_bound h)
theorem pRegion_ok (re le bl ma st lo m k r : Int) (A : Option Addr) (zs : List (Int × Int × Int)) (c : Nat) (w : World) (hL : Lim w) (hC : RCells w A zs) (hn : zs.length ≤ 1000) (h : regErr re le bl ma st lo m k r zs = 0) :
    Calls Tryz.prog 11 #[.agg #[(.int .i64 (re)), (.int .i64 (le)), (.int .i64 (bl)), (.int .i64 (ma)), (.int .i64 (st)), (.int .i64 (lo)), (.int .i64 (m)), (.int .i64 (k)), (.int .i64 (r))], .slice A zs.length c] w fun x w' => ∃ B e, x = .returned (.tuple #[.slice B (regG (regD re le bl ma st lo m k r zs)).length e, (.int .i64 (regE (regD re le bl ma st lo m k r zs)))]) ∧ DCells w' B re le bl (regG (regD re le bl ma st lo m k r zs)) ∧ Below w.heap.size w w' := by
  refine (Region_ok re le bl ma st lo m k r A zs c w hL hC hn h).mono ?_
  rintro x w' ⟨h1, hb⟩
  generalize regD re le bl ma st lo m k r zs = G at h1 ⊢
  unfold regE regG
  by_cases hG : 256 < G.length
  · rw [if_pos hG] at h1
    rw [if_pos hG, if_pos hG]
    exact ⟨none, 0, h1, fun h0 => absurd h0 (by simp), hb⟩
  · rw [if_neg hG] at h1
    rw [if_neg hG, if_neg hG]
    obtain ⟨v, rfl, ho⟩ := h1
    obtain ⟨B, e, rfl, _, hr⟩ := own_drvs ho rfl
    exact ⟨B, e, rfl, hr, hb⟩

theorem DriverRegions_any (re le bl ma st lo mm kk rr : Int) (zs : List (Int × Int × Int)) (c : Nat) (A : Option Addr) (w : World) (hL : Lim w) (hC : RCells w A zs) :
    Calls Tryz.prog 3 #[.agg #[(.int .i64 (re)), (.int .i64 (le)), (.int .i64 (bl)), (.int .i64 (ma)), (.int .i64 (st)), (.int .i64 (lo)), (.int .i64 (mm)), (.int .i64 (kk)), (.int .i64 (rr))], .slice A zs.length c] w fun r w' => r = .returned (.bool true) ∧ Below w.heap.size w w' := by
  by_cases hn : (zs.length ≤ 5 ∨ zs.length = 33)
  · have HSh : Hid (∀ W : World, Calls Tryz.prog 9 #[.slice A zs.length c, (.int .i64 (5))] W fun r w' => r = .returned (.bool true) ∧ W = w') := Lib.hid (fun W => short_yes A _ c 5 W (by omega))
    by_cases hS : classErr re le bl ma st lo mm kk rr ≠ 0 ∨ classErr re le bl ma st lo mm kk rr = 0 ∧ classN ma st lo mm kk rr ≤ 300
    · have HSm : Hid (∀ W : World, Calls Tryz.prog 10 #[.agg #[(.int .i64 (re)), (.int .i64 (le)), (.int .i64 (bl)), (.int .i64 (ma)), (.int .i64 (st)), (.int .i64 (lo)), (.int .i64 (mm)), (.int .i64 (kk)), (.int .i64 (rr))]] W fun r w' => r = .returned (.bool true) ∧ Below W.heap.size W w') := Lib.hid (fun W => small_yes re le bl ma st lo mm kk rr W hS)
      have HRd : Hid (∀ W : World, RCells W A zs → Calls Tryz.prog 13 #[.slice A zs.length c] W fun r w' => ∃ B e, r = .returned (.slice B zs.length e) ∧ (∀ p, B = some p → W.heap.size ≤ p.block) ∧ RCells w' B zs ∧ Below W.heap.size W w') := Lib.hid (fun W k => readings_any A zs c W k (by omega))
      obtain ⟨F, hF⟩ : ∃ F, F = if regErr re le bl ma st lo mm kk rr zs = 0 then regG (regD re le bl ma st lo mm kk rr zs) else [] := ⟨_, rfl⟩
      obtain ⟨EE, hEE⟩ : ∃ EE, EE = if regErr re le bl ma st lo mm kk rr zs = 0 then regE (regD re le bl ma st lo mm kk rr zs) else regErr re le bl ma st lo mm kk rr zs := ⟨_, rfl⟩
      have hFl : F.length ≤ 4096 := by
        rw [hF]
        split
        · rename_i h; exact regG_len (reg_zero h).1
        · simp
      have HRg : Hid (∀ (W : World) (B : Option Addr) (e : Nat), Lim W → RCells W B zs → Calls Tryz.prog 11 #[.agg #[(.int .i64 (re)), (.int .i64 (le)), (.int .i64 (bl)), (.int .i64 (ma)), (.int .i64 (st)), (.int .i64 (lo)), (.int .i64 (mm)), (.int .i64 (kk)), (.int .i64 (rr))], .slice B zs.length e] W fun r w' => ∃ B' e', r = .returned (.tuple #[.slice B' F.length e', (.int .i64 (EE))]) ∧ DCells w' B' re le bl F ∧ Below W.heap.size W w') := Lib.hid (fun W B e hL k => by
        by_cases h : regErr re le bl ma st lo mm kk rr zs = 0
        · rw [hF, hEE, if_pos h, if_pos h]
          exact pRegion_ok re le bl ma st lo mm kk rr B zs e W hL k (by omega) h
        · rw [hF, hEE, if_neg h, if_neg h]
          refine (Region_bad re le bl ma st lo mm kk rr B zs e W hL k (by omega) h).mono ?_
          rintro r w' ⟨rfl, hb⟩
          exact ⟨none, 0, rfl, fun h0 => absurd h0 (by simp), hb⟩)
      have hc : regErr re le bl ma st lo mm kk rr zs = 0 ∧ Hid (∀ W : World, RCells W A zs → Calls Tryz.prog 17 #[.agg #[(.int .i64 (re)), (.int .i64 (le)), (.int .i64 (bl)), (.int .i64 (ma)), (.int .i64 (st)), (.int .i64 (lo)), (.int .i64 (mm)), (.int .i64 (kk)), (.int .i64 (rr))], .slice A zs.length c] W fun r w' => ∃ B' e', r = .returned (.tuple #[.slice B' F.length e', (.int .i64 (EE))]) ∧ DCells w' B' re le bl F ∧ Below W.heap.size W w') ∨ ¬ regErr re le bl ma st lo mm kk rr zs = 0 ∧ EE = regErr re le bl ma st lo mm kk rr zs ∧ F = [] ∧ F.length = 0 := by
        by_cases h : regErr re le bl ma st lo mm kk rr zs = 0
        · refine .inl ⟨h, Lib.hid (fun W k => ?_)⟩
          obtain ⟨z1, z2⟩ := reg_zero h
          rw [hF, hEE, if_pos h, if_pos h]
          exact refRegion_any re le bl ma st lo mm kk rr A zs c W z1 k (by omega) z2
        · have hf : F = [] := by rw [hF, if_neg h]
          exact .inr ⟨h, by rw [hEE, if_neg h], hf, by rw [hf]; rfl⟩
      have HDr : Hid (∀ (W : World) (B : Option Addr) (e : Nat), DCells W B re le bl F → Calls Tryz.prog 20 #[.slice B F.length e] W fun r w' => ∃ B' e', r = .returned (.slice B' F.length e') ∧ DCells w' B' re le bl F ∧ Below W.heap.size W w') := Lib.hid (fun W B e k => driversOf_any B re le bl F e W k (by omega))
      have HSa : Hid (∀ (W : World) (B B' : Option Addr) (e e' : Nat), DCells W B re le bl F → DCells W B' re le bl F → Calls Tryz.prog 19 #[.slice B F.length e, .slice B' F.length e'] W fun r w' => r = .returned (.bool true) ∧ Below W.heap.size W w') := Lib.hid (fun W B B' e e' k1 k2 => sameDrivers_eq B B' re le bl F e e' W (by omega) k1 k2)
      clear hF hEE hFl
      generalize hNf : F.length = fn at *
      exact regions_ok re le bl ma st lo mm kk rr (classErr re le bl ma st lo mm kk rr) (readsErr zs) EE _ zs F _ fn c A w hL (Lib.hid hC) HSh HSm HRd HRg (Lib.hid (fun W => refCheckClass_any _ _ _ _ _ _ _ _ _ W)) (Lib.hid (fun W hL => checkClass_any _ _ _ _ _ _ _ _ _ W hL)) (Lib.hid (fun W k => refCheckReadings_any A zs c W k)) HDr HSa rfl hc
    · exact regions_no re le bl ma st lo mm kk rr _ c A w hL (.inr ⟨HSh, Lib.hid (fun W => small_no re le bl ma st lo mm kk rr W (by
        by_cases h : classErr re le bl ma st lo mm kk rr = 0
        · exact h
        · exact absurd (.inl h) hS) (by
        by_cases h : classErr re le bl ma st lo mm kk rr = 0
        · by_cases h2 : classN ma st lo mm kk rr ≤ 300
          · exact absurd (.inr ⟨h, h2⟩) hS
          · omega
        · exact absurd (.inl h) hS))⟩)
  · exact regions_no re le bl ma st lo mm kk rr _ c A w hL (.inl (Lib.hid (fun W => short_no A _ c 5 W (by omega) (by omega))))
end Go.Proofs.YtpkldjlljoledaaGreatDoor

/- DriverConflicts answers yes where its guards hold. -/
namespace Go.Proofs.YtpkldjlljoledaaGreatDoor
open Go.RowKit
open Calm (bcell Blk)
set_option maxRecDepth 100000 in
set_option maxHeartbeats 16000000 in
theorem confl_ok (re le bl ma st lo mm kk rr CE RE EE bad : Int) (zs : List (Int × Int × Int)) (F : List Int) (n fn c : Nat) (A : Option Addr) (w : World) (hL : Lim w) (HC : Hid (RCells w A zs))
    (HSh : Hid (∀ W : World, Calls Tryz.prog 9 #[.slice A n c, (.int .i64 (4))] W fun r w' => r = .returned (.bool true) ∧ W = w'))
    (HSm : Hid (∀ W : World, Calls Tryz.prog 10 #[.agg #[(.int .i64 (re)), (.int .i64 (le)), (.int .i64 (bl)), (.int .i64 (ma)), (.int .i64 (st)), (.int .i64 (lo)), (.int .i64 (mm)), (.int .i64 (kk)), (.int .i64 (rr))]] W fun r w' => r = .returned (.bool true) ∧ Below W.heap.size W w'))
    (HRd : Hid (∀ W : World, RCells W A zs → Calls Tryz.prog 13 #[.slice A n c] W fun r w' => ∃ B e, r = .returned (.slice B n e) ∧ (∀ p, B = some p → W.heap.size ≤ p.block) ∧ RCells w' B zs ∧ Below W.heap.size W w'))
    (HRg : Hid (∀ (W : World) (B : Option Addr) (e : Nat), Lim W → RCells W B zs → Calls Tryz.prog 21 #[.agg #[(.int .i64 (re)), (.int .i64 (le)), (.int .i64 (bl)), (.int .i64 (ma)), (.int .i64 (st)), (.int .i64 (lo)), (.int .i64 (mm)), (.int .i64 (kk)), (.int .i64 (rr))], .slice B n e] W fun r w' => ∃ B' e', r = .returned (.tuple #[.slice B' fn e', (.int .i64 (EE))]) ∧ Cells w' B' F ∧ Below W.heap.size W w'))
    (HCC : Hid (∀ W : World, Calls Tryz.prog 15 #[.agg #[(.int .i64 (re)), (.int .i64 (le)), (.int .i64 (bl)), (.int .i64 (ma)), (.int .i64 (st)), (.int .i64 (lo)), (.int .i64 (mm)), (.int .i64 (kk)), (.int .i64 (rr))]] W fun r w' => r = .returned ((.int .i64 (CE))) ∧ Below W.heap.size W w'))
    (HCR : Hid (∀ W : World, RCells W A zs → Calls Tryz.prog 16 #[.slice A n c] W fun r w' => r = .returned (.int .i64 (RE)) ∧ Below W.heap.size W w'))
    (HSa : Hid (∀ (W : World) (B B' : Option Addr) (e e' : Nat), Cells W B F → Cells W B' F → Calls Tryz.prog 23 #[.slice B fn e, .slice B' fn e'] W fun r w' => r = .returned (.bool true) ∧ Below W.heap.size W w'))
    (e1 : firstOf [CE, RE] = bad)
    (hc : bad = 0 ∧ Hid (∀ W : World, RCells W A zs → Calls Tryz.prog 22 #[.agg #[(.int .i64 (re)), (.int .i64 (le)), (.int .i64 (bl)), (.int .i64 (ma)), (.int .i64 (st)), (.int .i64 (lo)), (.int .i64 (mm)), (.int .i64 (kk)), (.int .i64 (rr))], .slice A n c] W fun r w' => ∃ B' e', r = .returned (.tuple #[.slice B' fn e', (.int .i64 (EE))]) ∧ Cells w' B' F ∧ Below W.heap.size W w') ∨ ¬ bad = 0 ∧ EE = bad ∧ F = [] ∧ fn = 0)
    : Calls Tryz.prog 4 #[.agg #[(.int .i64 (re)), (.int .i64 (le)), (.int .i64 (bl)), (.int .i64 (ma)), (.int .i64 (st)), (.int .i64 (lo)), (.int .i64 (mm)), (.int .i64 (kk)), (.int .i64 (rr))], .slice A n c] w fun r w' => r = .returned (.bool true) ∧ Below w.heap.size w w' := by
  have hB0 := Below.refl w.heap.size w
  go_enter Tryz.func4, Tryz.ntmps4
  go_wp2_with (go_at_call 8; refine (awake_any _ (hL.below (hB0.alloc hB0.size _))).mono ?_; rintro r w1 ⟨rfl, h1⟩; refine Hid.out ?_)
  unfold Hid
  have hB1 := (hB0.alloc hB0.size _).trans (h1.mono (Nat.le_trans hB0.size (by simp; try omega)))
  have KC_1 := Lib.hid (show Blk w1 (w.heap.size) #[(.int .i64 (re)), (.int .i64 (le)), (.int .i64 (bl)), (.int .i64 (ma)), (.int .i64 (st)), (.int .i64 (lo)), (.int .i64 (mm)), (.int .i64 (kk)), (.int .i64 (rr))] from (Calm.Blk.new _ _ #[(.int .i64 (re)), (.int .i64 (le)), (.int .i64 (bl)), (.int .i64 (ma)), (.int .i64 (st)), (.int .i64 (lo)), (.int .i64 (mm)), (.int .i64 (kk)), (.int .i64 (rr))]).below h1)
  clear h1 hB0
  obtain ⟨fC_0, fC_1, fC_2, fC_3, fC_4, fC_5, fC_6, fC_7, fC_8, fC_l, fC_f⟩ := KC_1.out.o9
  have fC_l0_1 : w.heap.size < w1.heap.size + 1 := by omega
  have fC_l0_2 : w.heap.size < w1.heap.size + 1 + 1 := by omega
  go_wp2_with (first | (go_at_call 9; refine (HSh.out _).mono ?_; rintro r wq ⟨rfl, rfl⟩) | (go_at_call 10; refine (HSm.out _).mono ?_; rintro r w2 ⟨rfl, h2⟩; refine Hid.out ?_))
  unfold Hid
  have hB2 := hB1.trans (h2.mono hB1.size)
  have KC_2 := Lib.hid (KC_1.out.below h2)
  clear h2 hB1 KC_1 fC_0 fC_1 fC_2 fC_3 fC_4 fC_5 fC_6 fC_7 fC_8 fC_l fC_f fC_l0_1 fC_l0_2
  obtain ⟨fC_0, fC_1, fC_2, fC_3, fC_4, fC_5, fC_6, fC_7, fC_8, fC_l, fC_f⟩ := KC_2.out.o9
  have fC_l0_1 : w.heap.size < w2.heap.size + 1 := by omega
  have fC_l0_2 : w.heap.size < w2.heap.size + 1 + 1 := by omega
  go_wp2_with (go_at_call 12; refine (class_any _ _ _ _ _ _ _ _ _ _).mono ?_; rintro r w3 ⟨rfl, h3⟩; refine Hid.out ?_)
  unfold Hid
  have hB3 := hB2.trans (h3.mono hB2.size)
  have KC_3 := Lib.hid (KC_2.out.below h3)
  clear h3 hB2 KC_2 fC_0 fC_1 fC_2 fC_3 fC_4 fC_5 fC_6 fC_7 fC_8 fC_l fC_f fC_l0_1 fC_l0_2
  go_wp2_with (go_at_call 13; refine (HRd.out _ (HC.out.below hB3)).mono ?_; rintro r w4 ⟨RB, re', rfl, _, RC, h4⟩; refine Hid.out ?_)
  unfold Hid
  have RC0 := Lib.hid RC; clear RC
  have hB4 := hB3.trans (h4.mono hB3.size)
  have KC_4 := Lib.hid (KC_3.out.below h4)
  clear h4 hB3 KC_3
  go_wp2_with (go_at_call 21; refine (HRg.out _ _ _ (hL.below hB4) RC0.out).mono ?_; rintro r w5 ⟨GB, ge, rfl, GC, h5⟩; refine Hid.out ?_)
  unfold Hid
  have RC0_5 := Lib.hid (RC0.out.below (h5))
  clear RC0
  have GC0 := Lib.hid GC; clear GC
  have hB5 := hB4.trans (h5.mono hB4.size)
  have KC_5 := Lib.hid (KC_4.out.below h5)
  clear h5 hB4 KC_4
  clear RC0_5
  obtain ⟨fC_0, fC_1, fC_2, fC_3, fC_4, fC_5, fC_6, fC_7, fC_8, fC_l, fC_f⟩ := KC_5.out.o9
  have fC_l0_1 : w.heap.size < w5.heap.size + 1 := by omega
  have fC_l0_2 : w.heap.size < w5.heap.size + 1 + 1 := by omega
  go_wp2_with (go_at_call 15; refine (HCC.out _).mono ?_; rintro r w6 ⟨rfl, h6⟩; refine Hid.out ?_)
  unfold Hid
  have GC0_6 := Lib.hid (GC0.out.below (h6))
  clear GC0
  have hB6 := hB5.trans (h6.mono hB5.size)
  have KC_6 := Lib.hid (KC_5.out.below h6)
  clear h6 hB5 KC_5 fC_0 fC_1 fC_2 fC_3 fC_4 fC_5 fC_6 fC_7 fC_8 fC_l fC_f fC_l0_1 fC_l0_2
  go_wp2_with (go_at_call 16; refine (HCR.out _ (HC.out.below hB6)).mono ?_; rintro r w7 ⟨rfl, h7⟩; refine Hid.out ?_)
  unfold Hid
  have GC0_7 := Lib.hid (GC0_6.out.below (h7))
  clear GC0_6
  have hB7 := hB6.trans (h7.mono hB6.size)
  have KC_7 := Lib.hid (KC_6.out.below h7)
  clear h7 hB6 KC_6
  obtain ⟨fC_0, fC_1, fC_2, fC_3, fC_4, fC_5, fC_6, fC_7, fC_8, fC_l, fC_f⟩ := KC_7.out.o9
  have fC_l0_1 : w.heap.size < w7.heap.size + 1 := by omega
  have fC_l0_2 : w.heap.size < w7.heap.size + 1 + 1 := by omega
  rcases hc with ⟨h0, HRR⟩ | ⟨h0, hE, hF, hfn⟩
  · skip
    have f_x : w.heap.size < w7.heap.size + 1 := by have := fC_l; omega
    subst h0
    go_wp2_with (first | (go_at_call 14; refine (qFirst2_any _ _ _).mono ?_; rintro r wq ⟨rfl, rfl⟩) | (go_at_call 22; refine (HRR.out _ (HC.out.below (hB7.alloc hB7.size _))).mono ?_; rintro r w8 ⟨WB, we, rfl, WC, h8⟩; refine Hid.out ?_))
    unfold Hid
    have GC0_8 := Lib.hid (GC0_7.out.below (((Below.refl _ _).alloc (by simp; try omega) _).trans (h8.mono (by simp; try omega))))
    clear GC0_7
    have WC0 := Lib.hid WC; clear WC
    have hB8 := (hB7.alloc hB7.size _).trans (h8.mono (Nat.le_trans hB7.size (by simp; try omega)))
    have oC_8 : w.heap.size < w7.heap.size := KC_7.out.lt
    have KC_8 := Lib.hid ((KC_7.out.alloc _).below h8)
    clear h8 hB7 KC_7 fC_0 fC_1 fC_2 fC_3 fC_4 fC_5 fC_6 fC_7 fC_8 fC_l fC_f fC_l0_1 fC_l0_2
    go_wp2_with (go_at_call 23; refine (HSa.out _ _ _ _ _ GC0_8.out WC0.out).mono ?_; rintro r w9 ⟨rfl, h9⟩; refine Hid.out ?_)
    unfold Hid
    have GC0_9 := Lib.hid (GC0_8.out.below (h9))
    clear GC0_8
    have WC0_9 := Lib.hid (WC0.out.below (h9))
    clear WC0
    have hB9 := hB8.trans (h9.mono hB8.size)
    have KC_9 := Lib.hid (KC_8.out.below h9)
    clear h9 hB8 KC_8
    go_wp2
    go_ret
    exact ⟨by first | rfl | (simp; done), hB9⟩
  · skip
    have f_x : w.heap.size < w7.heap.size + 1 := by have := fC_l; omega
    subst hE hF hfn
    go_wp2_with (first | (go_at_call 14; refine (qFirst2_any _ _ _).mono ?_; rintro r wq ⟨rfl, rfl⟩) | (go_at_call 23; refine (HSa.out _ _ _ _ _ (fun h => absurd h (by simp)) (fun h => absurd h (by simp))).mono ?_; rintro r w8 ⟨rfl, h8⟩; refine Hid.out ?_))
    unfold Hid
    have GC0_8 := Lib.hid (GC0_7.out.below (((Below.refl _ _).alloc (by simp; try omega) _).trans (h8.mono (by simp; try omega))))
    clear GC0_7
    have hB8 := (hB7.alloc hB7.size _).trans (h8.mono (Nat.le_trans hB7.size (by simp; try omega)))
    have oC_8 : w.heap.size < w7.heap.size := KC_7.out.lt
    have KC_8 := Lib.hid ((KC_7.out.alloc _).below h8)
    clear h8 hB7 KC_7 fC_0 fC_1 fC_2 fC_3 fC_4 fC_5 fC_6 fC_7 fC_8 fC_l fC_f fC_l0_1 fC_l0_2
    go_wp2
    go_ret
    exact ⟨by first | rfl | (simp; done), hB8⟩
end Go.Proofs.YtpkldjlljoledaaGreatDoor

/- DriverConflicts answers yes where its guards hold, at nine readings. -/
namespace Go.Proofs.YtpkldjlljoledaaGreatDoor
open Go.RowKit
open Calm (bcell Blk)
set_option maxRecDepth 100000 in
set_option maxHeartbeats 16000000 in
theorem confl_nine (re le bl ma st lo mm kk rr CE RE EE bad : Int) (zs : List (Int × Int × Int)) (F : List Int) (fn c : Nat) (A : Option Addr) (w : World) (hL : Lim w) (HC : Hid (RCells w A zs))
    (HSh : Hid (∀ W : World, Calls Tryz.prog 9 #[.slice A 9 c, (.int .i64 (4))] W fun r w' => r = .returned (.bool false) ∧ W = w'))
    (HSm : Hid (∀ W : World, Calls Tryz.prog 10 #[.agg #[(.int .i64 (re)), (.int .i64 (le)), (.int .i64 (bl)), (.int .i64 (ma)), (.int .i64 (st)), (.int .i64 (lo)), (.int .i64 (mm)), (.int .i64 (kk)), (.int .i64 (rr))]] W fun r w' => r = .returned (.bool true) ∧ Below W.heap.size W w'))
    (HRd : Hid (∀ W : World, RCells W A zs → Calls Tryz.prog 13 #[.slice A 9 c] W fun r w' => ∃ B e, r = .returned (.slice B 9 e) ∧ (∀ p, B = some p → W.heap.size ≤ p.block) ∧ RCells w' B zs ∧ Below W.heap.size W w'))
    (HRg : Hid (∀ (W : World) (B : Option Addr) (e : Nat), Lim W → RCells W B zs → Calls Tryz.prog 21 #[.agg #[(.int .i64 (re)), (.int .i64 (le)), (.int .i64 (bl)), (.int .i64 (ma)), (.int .i64 (st)), (.int .i64 (lo)), (.int .i64 (mm)), (.int .i64 (kk)), (.int .i64 (rr))], .slice B 9 e] W fun r w' => ∃ B' e', r = .returned (.tuple #[.slice B' fn e', (.int .i64 (EE))]) ∧ Cells w' B' F ∧ Below W.heap.size W w'))
    (HCC : Hid (∀ W : World, Calls Tryz.prog 15 #[.agg #[(.int .i64 (re)), (.int .i64 (le)), (.int .i64 (bl)), (.int .i64 (ma)), (.int .i64 (st)), (.int .i64 (lo)), (.int .i64 (mm)), (.int .i64 (kk)), (.int .i64 (rr))]] W fun r w' => r = .returned ((.int .i64 (CE))) ∧ Below W.heap.size W w'))
    (HCR : Hid (∀ W : World, RCells W A zs → Calls Tryz.prog 16 #[.slice A 9 c] W fun r w' => r = .returned (.int .i64 (RE)) ∧ Below W.heap.size W w'))
    (HSa : Hid (∀ (W : World) (B B' : Option Addr) (e e' : Nat), Cells W B F → Cells W B' F → Calls Tryz.prog 23 #[.slice B fn e, .slice B' fn e'] W fun r w' => r = .returned (.bool true) ∧ Below W.heap.size W w'))
    (e1 : firstOf [CE, RE] = bad)
    (hc : bad = 0 ∧ Hid (∀ W : World, RCells W A zs → Calls Tryz.prog 22 #[.agg #[(.int .i64 (re)), (.int .i64 (le)), (.int .i64 (bl)), (.int .i64 (ma)), (.int .i64 (st)), (.int .i64 (lo)), (.int .i64 (mm)), (.int .i64 (kk)), (.int .i64 (rr))], .slice A 9 c] W fun r w' => ∃ B' e', r = .returned (.tuple #[.slice B' fn e', (.int .i64 (EE))]) ∧ Cells w' B' F ∧ Below W.heap.size W w') ∨ ¬ bad = 0 ∧ EE = bad ∧ F = [] ∧ fn = 0)
    : Calls Tryz.prog 4 #[.agg #[(.int .i64 (re)), (.int .i64 (le)), (.int .i64 (bl)), (.int .i64 (ma)), (.int .i64 (st)), (.int .i64 (lo)), (.int .i64 (mm)), (.int .i64 (kk)), (.int .i64 (rr))], .slice A 9 c] w fun r w' => r = .returned (.bool true) ∧ Below w.heap.size w w' := by
  have hB0 := Below.refl w.heap.size w
  go_enter Tryz.func4, Tryz.ntmps4
  go_wp2_with (go_at_call 8; refine (awake_any _ (hL.below (hB0.alloc hB0.size _))).mono ?_; rintro r w1 ⟨rfl, h1⟩; refine Hid.out ?_)
  unfold Hid
  have hB1 := (hB0.alloc hB0.size _).trans (h1.mono (Nat.le_trans hB0.size (by simp; try omega)))
  have KC_1 := Lib.hid (show Blk w1 (w.heap.size) #[(.int .i64 (re)), (.int .i64 (le)), (.int .i64 (bl)), (.int .i64 (ma)), (.int .i64 (st)), (.int .i64 (lo)), (.int .i64 (mm)), (.int .i64 (kk)), (.int .i64 (rr))] from (Calm.Blk.new _ _ #[(.int .i64 (re)), (.int .i64 (le)), (.int .i64 (bl)), (.int .i64 (ma)), (.int .i64 (st)), (.int .i64 (lo)), (.int .i64 (mm)), (.int .i64 (kk)), (.int .i64 (rr))]).below h1)
  clear h1 hB0
  obtain ⟨fC_0, fC_1, fC_2, fC_3, fC_4, fC_5, fC_6, fC_7, fC_8, fC_l, fC_f⟩ := KC_1.out.o9
  have fC_l0_1 : w.heap.size < w1.heap.size + 1 := by omega
  have fC_l0_2 : w.heap.size < w1.heap.size + 1 + 1 := by omega
  go_wp2_with (first | (go_at_call 9; refine (HSh.out _).mono ?_; rintro r wq ⟨rfl, rfl⟩) | (go_at_call 10; refine (HSm.out _).mono ?_; rintro r w2 ⟨rfl, h2⟩; refine Hid.out ?_))
  unfold Hid
  have hB2 := hB1.trans (h2.mono hB1.size)
  have KC_2 := Lib.hid (KC_1.out.below h2)
  clear h2 hB1 KC_1 fC_0 fC_1 fC_2 fC_3 fC_4 fC_5 fC_6 fC_7 fC_8 fC_l fC_f fC_l0_1 fC_l0_2
  obtain ⟨fC_0, fC_1, fC_2, fC_3, fC_4, fC_5, fC_6, fC_7, fC_8, fC_l, fC_f⟩ := KC_2.out.o9
  have fC_l0_1 : w.heap.size < w2.heap.size + 1 := by omega
  have fC_l0_2 : w.heap.size < w2.heap.size + 1 + 1 := by omega
  go_wp2_with (go_at_call 12; refine (class_any _ _ _ _ _ _ _ _ _ _).mono ?_; rintro r w3 ⟨rfl, h3⟩; refine Hid.out ?_)
  unfold Hid
  have hB3 := hB2.trans (h3.mono hB2.size)
  have KC_3 := Lib.hid (KC_2.out.below h3)
  clear h3 hB2 KC_2 fC_0 fC_1 fC_2 fC_3 fC_4 fC_5 fC_6 fC_7 fC_8 fC_l fC_f fC_l0_1 fC_l0_2
  go_wp2_with (go_at_call 13; refine (HRd.out _ (HC.out.below hB3)).mono ?_; rintro r w4 ⟨RB, re', rfl, _, RC, h4⟩; refine Hid.out ?_)
  unfold Hid
  have RC0 := Lib.hid RC; clear RC
  have hB4 := hB3.trans (h4.mono hB3.size)
  have KC_4 := Lib.hid (KC_3.out.below h4)
  clear h4 hB3 KC_3
  go_wp2_with (go_at_call 21; refine (HRg.out _ _ _ (hL.below hB4) RC0.out).mono ?_; rintro r w5 ⟨GB, ge, rfl, GC, h5⟩; refine Hid.out ?_)
  unfold Hid
  have RC0_5 := Lib.hid (RC0.out.below (h5))
  clear RC0
  have GC0 := Lib.hid GC; clear GC
  have hB5 := hB4.trans (h5.mono hB4.size)
  have KC_5 := Lib.hid (KC_4.out.below h5)
  clear h5 hB4 KC_4
  clear RC0_5
  obtain ⟨fC_0, fC_1, fC_2, fC_3, fC_4, fC_5, fC_6, fC_7, fC_8, fC_l, fC_f⟩ := KC_5.out.o9
  have fC_l0_1 : w.heap.size < w5.heap.size + 1 := by omega
  have fC_l0_2 : w.heap.size < w5.heap.size + 1 + 1 := by omega
  go_wp2_with (go_at_call 15; refine (HCC.out _).mono ?_; rintro r w6 ⟨rfl, h6⟩; refine Hid.out ?_)
  unfold Hid
  have GC0_6 := Lib.hid (GC0.out.below (h6))
  clear GC0
  have hB6 := hB5.trans (h6.mono hB5.size)
  have KC_6 := Lib.hid (KC_5.out.below h6)
  clear h6 hB5 KC_5 fC_0 fC_1 fC_2 fC_3 fC_4 fC_5 fC_6 fC_7 fC_8 fC_l fC_f fC_l0_1 fC_l0_2
  go_wp2_with (go_at_call 16; refine (HCR.out _ (HC.out.below hB6)).mono ?_; rintro r w7 ⟨rfl, h7⟩; refine Hid.out ?_)
  unfold Hid
  have GC0_7 := Lib.hid (GC0_6.out.below (h7))
  clear GC0_6
  have hB7 := hB6.trans (h7.mono hB6.size)
  have KC_7 := Lib.hid (KC_6.out.below h7)
  clear h7 hB6 KC_6
  obtain ⟨fC_0, fC_1, fC_2, fC_3, fC_4, fC_5, fC_6, fC_7, fC_8, fC_l, fC_f⟩ := KC_7.out.o9
  have fC_l0_1 : w.heap.size < w7.heap.size + 1 := by omega
  have fC_l0_2 : w.heap.size < w7.heap.size + 1 + 1 := by omega
  rcases hc with ⟨h0, HRR⟩ | ⟨h0, hE, hF, hfn⟩
  · skip
    have f_x : w.heap.size < w7.heap.size + 1 := by have := fC_l; omega
    subst h0
    go_wp2_with (first | (go_at_call 14; refine (qFirst2_any _ _ _).mono ?_; rintro r wq ⟨rfl, rfl⟩) | (go_at_call 22; refine (HRR.out _ (HC.out.below (hB7.alloc hB7.size _))).mono ?_; rintro r w8 ⟨WB, we, rfl, WC, h8⟩; refine Hid.out ?_))
    unfold Hid
    have GC0_8 := Lib.hid (GC0_7.out.below (((Below.refl _ _).alloc (by simp; try omega) _).trans (h8.mono (by simp; try omega))))
    clear GC0_7
    have WC0 := Lib.hid WC; clear WC
    have hB8 := (hB7.alloc hB7.size _).trans (h8.mono (Nat.le_trans hB7.size (by simp; try omega)))
    have oC_8 : w.heap.size < w7.heap.size := KC_7.out.lt
    have KC_8 := Lib.hid ((KC_7.out.alloc _).below h8)
    clear h8 hB7 KC_7 fC_0 fC_1 fC_2 fC_3 fC_4 fC_5 fC_6 fC_7 fC_8 fC_l fC_f fC_l0_1 fC_l0_2
    go_wp2_with (go_at_call 23; refine (HSa.out _ _ _ _ _ GC0_8.out WC0.out).mono ?_; rintro r w9 ⟨rfl, h9⟩; refine Hid.out ?_)
    unfold Hid
    have GC0_9 := Lib.hid (GC0_8.out.below (h9))
    clear GC0_8
    have WC0_9 := Lib.hid (WC0.out.below (h9))
    clear WC0
    have hB9 := hB8.trans (h9.mono hB8.size)
    have KC_9 := Lib.hid (KC_8.out.below h9)
    clear h9 hB8 KC_8
    go_wp2
    go_ret
    exact ⟨by first | rfl | (simp; done), hB9⟩
  · skip
    have f_x : w.heap.size < w7.heap.size + 1 := by have := fC_l; omega
    subst hE hF hfn
    go_wp2_with (first | (go_at_call 14; refine (qFirst2_any _ _ _).mono ?_; rintro r wq ⟨rfl, rfl⟩) | (go_at_call 23; refine (HSa.out _ _ _ _ _ (fun h => absurd h (by simp)) (fun h => absurd h (by simp))).mono ?_; rintro r w8 ⟨rfl, h8⟩; refine Hid.out ?_))
    unfold Hid
    have GC0_8 := Lib.hid (GC0_7.out.below (((Below.refl _ _).alloc (by simp; try omega) _).trans (h8.mono (by simp; try omega))))
    clear GC0_7
    have hB8 := (hB7.alloc hB7.size _).trans (h8.mono (Nat.le_trans hB7.size (by simp; try omega)))
    have oC_8 : w.heap.size < w7.heap.size := KC_7.out.lt
    have KC_8 := Lib.hid ((KC_7.out.alloc _).below h8)
    clear h8 hB7 KC_7 fC_0 fC_1 fC_2 fC_3 fC_4 fC_5 fC_6 fC_7 fC_8 fC_l fC_f fC_l0_1 fC_l0_2
    go_wp2
    go_ret
    exact ⟨by first | rfl | (simp; done), hB8⟩
end Go.Proofs.YtpkldjlljoledaaGreatDoor
