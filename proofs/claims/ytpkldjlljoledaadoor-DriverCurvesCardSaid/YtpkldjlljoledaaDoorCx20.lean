/- Part 20 of the texts of the claim: Cur, CurB, CurL, CurRow. -/
import Derived.Test.YtpkldjlljoledaaDoorCx12
import Derived.Test.YtpkldjlljoledaaDoorCx13
import Derived.Test.YtpkldjlljoledaaDoorCx19
import Derived.Test.YtpkldjlljoledaaDoorCx3
import Derived.Test.YtpkldjlljoledaaDoorCx10

/- DriverCurves answers yes, whatever its arguments. %still -/
namespace Go.Proofs.YtpkldjlljoledaaDoor
open Go.RowKit
open Calm (bcell Blk)

/-- what the statements' curve lays: both lists, copied. -/
def CurS (n m : Nat) (xs ys : List Int) (u : Value) (W : World) : Prop := ∃ D1 e1 D2 e2, u = .agg #[.slice D1 n e1, .slice D2 m e2] ∧ Cells W D1 xs ∧ Cells W D2 ys
theorem CurS.stable (n m : Nat) (xs ys : List Int) (u : Value) (W W' : World) (h : CurS n m xs ys u W) (hb : Below W.heap.size W W') : CurS n m xs ys u W' := by
  obtain ⟨D1, e1, D2, e2, h1, h2, h3⟩ := h
  exact ⟨D1, e1, D2, e2, h1, h2.below hb, h3.below hb⟩

set_option maxRecDepth 100000 in
set_option maxHeartbeats 4000000 in
theorem cur_ok (xs ys : List Int) (n m : Nat) (fo st ce v : Int) (A1 A2 : Option Addr) (c1 c2 : Nat) (w : World) (hL : Lim w) (hn : n ≤ 35) (hm : m ≤ 35) (HC1 : Hid (Cells w A1 xs)) (HC2 : Hid (Cells w A2 ys))
    (HCur : Hid (∀ (W : World) (A1 A2 : Option Addr) (c1 c2 : Nat), Cells W A1 xs → Cells W A2 ys → Calls Tryd.prog 47 #[.agg #[.slice A1 n c1, .slice A2 m c2]] W fun r w' => ∃ B1 e1 B2 e2, r = .returned (.agg #[.slice B1 n e1, .slice B2 m e2]) ∧ Cells w' B1 xs ∧ Cells w' B2 ys ∧ Below W.heap.size W w'))
    (HLin : Hid (∀ (W : World) (A1 A2 : Option Addr) (c1 c2 : Nat), Cells W A1 xs → Cells W A2 ys → Calls Tryd.prog 46 #[.agg #[.slice A1 n c1, .slice A2 m c2], (.int .i64 (fo)), (.int .i64 (st))] W fun r w' => r = .returned (.tuple #[(.int .i64 (v)), (.int .i64 (0))]) ∧ Below W.heap.size W w'))
    (HPC : Hid (∀ (W : World) (A1 A2 : Option Addr) (c1 c2 : Nat), Cells W A1 xs → Cells W A2 ys → Calls Tryd.prog 50 #[.agg #[.slice A1 n c1, .slice A2 m c2]] W fun r w' => r = .returned (.int .i64 (ce)) ∧ Below W.heap.size W w'))
    (HRC : Hid (∀ (W : World) (A1 A2 : Option Addr) (c1 c2 : Nat), Cells W A1 xs → Cells W A2 ys → Calls Tryd.prog 48 #[.agg #[.slice A1 n c1, .slice A2 m c2]] W fun r w' => r = .returned (.int .i64 (ce)) ∧ Below W.heap.size W w'))
    (HRL : Hid (∀ (W : World) (A1 A2 : Option Addr) (c1 c2 : Nat), Cells W A1 xs → Cells W A2 ys → Calls Tryd.prog 49 #[.agg #[.slice A1 n c1, .slice A2 m c2], (.int .i64 (fo)), (.int .i64 (st))] W fun r w' => r = .returned (.int .i64 (v)) ∧ Below W.heap.size W w'))
    (HF3 : Hid (∀ W : World, Calls Tryd.prog 16 #[.slice (some ⟨W.heap.size, 0, none⟩) 3 3] (W.alloc (.cells #[(.int .i64 (ce)), (.int .i64 (rangeErr fo 1 100)), (.int .i64 (rangeErr st 100 1000))] 3)) fun r w' => r = .returned (.int .i64 (0)) ∧ W.alloc (.cells #[(.int .i64 (ce)), (.int .i64 (rangeErr fo 1 100)), (.int .i64 (rangeErr st 100 1000))] 3) = w')) :
    Calls Tryd.prog 6 #[.agg #[.slice A1 n c1, .slice A2 m c2], (.int .i64 (fo)), (.int .i64 (st))] w fun r w' => r = .returned (.bool true) ∧ Below w.heap.size w w' := by
  go_enter Tryd.func6, Tryd.ntmps6
  go_wp2_with (go_at_call 11; refine (awake_any _ (hL.below (by (repeat (first | (with_reducible exact Below.refl _ _) | ((with_reducible refine Below.setCell ?_ ?_ _); rotate_left 1; focus (first | (simp; done) | (simp; omega) | (simp at *; omega))) | ((with_reducible refine Below.alloc ?_ ?_ _); rotate_left 1; focus (first | (simp; done) | (simp; omega) | (simp at *; omega))) | (with_reducible refine Below.drew ?_) | ((with_reducible refine Calm.step (by assumption) ?_ ?_); rotate_left 1; focus (first | (simp; done) | (simp; omega) | (simp at *; omega)))))))).mono ?_; rintro r w1 ⟨rfl, h1⟩; refine Hid.out ?_)
  unfold Hid
  have B1 : Below w.heap.size w w1 := ((Below.refl _ _).alloc (Nat.le_refl _) _).trans (h1.mono (by simp))
  have K1 := Lib.hid ((Calm.Blk.new w _ #[.slice A1 n c1, .slice A2 m c2]).below h1)
  clear h1
  have f0 := K1.out.cell 0 (.slice A1 n c1) rfl
  have f1 := K1.out.cell 1 (.slice A2 m c2) rfl
  have fl := K1.out.lt
  go_wp2_with (go_at_call 47; refine (HCur.out _ _ _ _ _ (HC1.out.below B1) (HC2.out.below B1)).mono ?_; rintro r w2 ⟨D1, e1, D2, e2, rfl, z1, z2, h2⟩; refine Hid.out ?_)
  unfold Hid
  have B2 := B1.trans (h2.mono B1.size)
  have K2 := Lib.hid (K1.out.below h2)
  have Z1 := Lib.hid z1
  have Z2 := Lib.hid z2
  clear h2 B1 K1 f0 f1 fl z1 z2
  go_wp2_with (go_at_call 46; refine (HLin.out _ _ _ _ _ Z1.out Z2.out).mono ?_; rintro r w3 ⟨rfl, h3⟩; refine Hid.out ?_)
  unfold Hid
  have B3 := B2.trans (h3.mono B2.size)
  have K3 := Lib.hid (K2.out.below h3)
  clear h3 B2 K2 Z1 Z2
  have f0 := K3.out.cell 0 (.slice A1 n c1) rfl
  have f1 := K3.out.cell 1 (.slice A2 m c2) rfl
  have fl := K3.out.lt
  go_wp2_with (go_at_call 48; refine (HRC.out _ _ _ _ _ (HC1.out.below B3) (HC2.out.below B3)).mono ?_; rintro r w4 ⟨rfl, h4⟩; refine Hid.out ?_)
  unfold Hid
  have B4 := B3.trans (h4.mono B3.size)
  have K4 := Lib.hid (K3.out.below h4)
  clear h4 B3 K3 f0 f1 fl
  have f0 := (K4.out.alloc (.cells #[(.int .i64 (ce)), (.int .i64 (rangeErr fo 1 100)), (.int .i64 (rangeErr st 100 1000))] 3)).cell 0 (.slice A1 n c1) rfl
  have f1 := (K4.out.alloc (.cells #[(.int .i64 (ce)), (.int .i64 (rangeErr fo 1 100)), (.int .i64 (rangeErr st 100 1000))] 3)).cell 1 (.slice A2 m c2) rfl
  have fl := (K4.out.alloc (.cells #[(.int .i64 (ce)), (.int .i64 (rangeErr fo 1 100)), (.int .i64 (rangeErr st 100 1000))] 3)).lt
  go_wp2_with (first
    | (go_at_call 40; refine (checkRange_any _ _ _ _).mono ?_; rintro r wq ⟨rfl, rfl⟩)
    | (go_at_call 16; refine (HF3.out _).mono ?_; rintro r wq ⟨rfl, rfl⟩)
    | (go_at_call 49; refine (HRL.out _ _ _ _ _ (HC1.out.below (B4.alloc B4.size _)) (HC2.out.below (B4.alloc B4.size _))).mono ?_; rintro r w5 ⟨rfl, h5⟩; refine Hid.out ?_))
  unfold Hid
  have B5 := (B4.alloc B4.size _).trans (h5.mono (Nat.le_trans B4.size (by simp)))
  have K5 := Lib.hid ((K4.out.alloc _).below h5)
  clear h5 B4 K4 f0 f1 fl
  have f0 := K5.out.cell 0 (.slice A1 n c1) rfl
  have f1 := K5.out.cell 1 (.slice A2 m c2) rfl
  have fl := K5.out.lt
  go_wp2
  refine Rel.region3 16 (by kernel_rfl) (by kernel_rfl) (by kernel_rfl) ?_
  simp only [List.take_succ_cons, List.take_zero, List.drop_succ_cons, List.drop_zero, List.filterMap_cons, List.filterMap_nil]
  (apply Rel.op3; (focus (first | exact Rel.gno rfl | exact Rel.gyes _ true _ rfl rfl rfl)); (focus (intro a W hb hd hbase; obtain ⟨hc, hf⟩ := bcell hb; clear hb hf; simp [Rel.deps, Rel.dep1, Rel.ons, Region.binds, Act.eval] at hd; simp only [Act.eval, List.mem_cons, List.not_mem_nil, not_or, and_imp, or_false, Array.getD_eq_getD_getElem?] at hbase; go_simp; (try go_bits); (try rfl); done)); (try simp only [List.nil_append, List.cons_append]))
  refine Rel.callR3 (CurS n m xs ys) (CurS.stable n m xs ys) (Rel.gno rfl) ?_ ?_
  · intro a W hb hd hbase
    simp [Rel.deps, Rel.dep1, Rel.ons, Region.binds] at hd
    refine ⟨47, #[.agg #[.slice A1 n c1, .slice A2 m c2]], ?_, (HCur.out W A1 A2 c1 c2 (HC1.out.below (B5.trans (hb.mono B5.size))) (HC2.out.below (B5.trans (hb.mono B5.size)))).mono (fun e W' ⟨D1, e1, D2, e2, h1, h2, h3, h4⟩ => ⟨_, h1, ⟨D1, e1, D2, e2, rfl, h2, h3⟩, h4⟩)⟩
    simp only [Act.eval, Array.getD_eq_getD_getElem?] at hd
    go_simp
    (first | done | rfl | (refine ⟨?_, ?_⟩ <;> rfl))
  (try simp only [List.nil_append, List.cons_append])
  refine Rel.callR3 (fun u _ => u = (.int .i64 (ce))) (Rel.stable_eq _) (Rel.gno rfl) ?_ ?_
  · intro a W hb hd hbase
    simp [Rel.deps, Rel.dep1, Rel.ons, Region.binds] at hd
    obtain ⟨D1, e1, D2, e2, h1, h2, h3⟩ := hd
    refine ⟨50, #[.agg #[.slice D1 n e1, .slice D2 m e2]], ?_, (HPC.out W D1 D2 e1 e2 h2 h3).mono (fun e W' ⟨h1, h2⟩ => ⟨_, h1, rfl, h2⟩)⟩
    simp only [Act.eval, Array.getD_eq_getD_getElem?] at h1
    go_simp
    (first | done | rfl | (refine ⟨?_, ?_⟩ <;> rfl))
  (try simp only [List.nil_append, List.cons_append])
  (apply Rel.op3; (focus (first | exact Rel.gno rfl | exact Rel.gyes _ true _ rfl rfl rfl)); (focus (intro a W hb hd hbase; obtain ⟨hc, hf⟩ := bcell hb; clear hb hf; simp [Rel.deps, Rel.dep1, Rel.ons, Region.binds, Act.eval] at hd; simp only [Act.eval, List.mem_cons, List.not_mem_nil, not_or, and_imp, or_false, Array.getD_eq_getD_getElem?] at hbase; go_simp; (try go_bits); (try rfl); done)); (try simp only [List.nil_append, List.cons_append]))
  refine Rel.callR3 (fun u _ => u = (.int .i64 (ce))) (Rel.stable_eq _) (Rel.gno rfl) ?_ ?_
  · intro a W hb hd hbase
    simp [Rel.deps, Rel.dep1, Rel.ons, Region.binds] at hd
    obtain ⟨hd, _⟩ := hd
    refine ⟨48, #[.agg #[.slice A1 n c1, .slice A2 m c2]], ?_, (HRC.out W A1 A2 c1 c2 (HC1.out.below (B5.trans (hb.mono B5.size))) (HC2.out.below (B5.trans (hb.mono B5.size)))).mono (fun e W' ⟨h1, h2⟩ => ⟨_, h1, rfl, h2⟩)⟩
    simp only [Act.eval, Array.getD_eq_getD_getElem?] at hd
    go_simp
    (first | done | rfl | (refine ⟨?_, ?_⟩ <;> rfl))
  (try simp only [List.nil_append, List.cons_append])
  (apply Rel.op3 (.bool true); (focus (first | exact Rel.gno rfl | exact Rel.gyes _ true _ rfl rfl rfl)); (focus (intro a W hb hd hbase; obtain ⟨hc, hf⟩ := bcell hb; clear hb hf; simp [Rel.deps, Rel.dep1, Rel.ons, Region.binds, Act.eval] at hd; simp only [Act.eval, List.mem_cons, List.not_mem_nil, not_or, and_imp, or_false, Array.getD_eq_getD_getElem?] at hbase; go_simp; (try go_bits); (try rfl); done)); (try simp only [List.nil_append, List.cons_append]))
  (apply Rel.op3; (focus (first | exact Rel.gno rfl | exact Rel.gyes _ true _ rfl rfl rfl)); (focus (intro a W hb hd hbase; obtain ⟨hc, hf⟩ := bcell hb; clear hb hf; simp [Rel.deps, Rel.dep1, Rel.ons, Region.binds, Act.eval] at hd; simp only [Act.eval, List.mem_cons, List.not_mem_nil, not_or, and_imp, or_false, Array.getD_eq_getD_getElem?] at hbase; go_simp; (try go_bits); (try rfl); done)); (try simp only [List.nil_append, List.cons_append]))
  (apply Rel.op3; (focus (first | exact Rel.gno rfl | exact Rel.gyes _ true _ rfl rfl rfl)); (focus (intro a W hb hd hbase; obtain ⟨hc, hf⟩ := bcell hb; clear hb hf; simp [Rel.deps, Rel.dep1, Rel.ons, Region.binds, Act.eval] at hd; simp only [Act.eval, List.mem_cons, List.not_mem_nil, not_or, and_imp, or_false, Array.getD_eq_getD_getElem?] at hbase; go_simp; (try go_bits); (try rfl); done)); (try simp only [List.nil_append, List.cons_append]))
  (apply Rel.op3; (focus (first | exact Rel.gno rfl | exact Rel.gyes _ true _ rfl rfl rfl)); (focus (intro a W hb hd hbase; obtain ⟨hc, hf⟩ := bcell hb; clear hb hf; simp [Rel.deps, Rel.dep1, Rel.ons, Region.binds, Act.eval] at hd; simp only [Act.eval, List.mem_cons, List.not_mem_nil, not_or, and_imp, or_false, Array.getD_eq_getD_getElem?] at hbase; go_simp; (try go_bits); (try rfl); done)); (try simp only [List.nil_append, List.cons_append]))
  (apply Rel.op3 (.bool true); (focus (first | exact Rel.gno rfl | exact Rel.gyes _ true _ rfl rfl rfl)); (focus (intro a W hb hd hbase; obtain ⟨hc, hf⟩ := bcell hb; clear hb hf; simp [Rel.deps, Rel.dep1, Rel.ons, Region.binds, Act.eval] at hd; simp only [Act.eval, List.mem_cons, List.not_mem_nil, not_or, and_imp, or_false, Array.getD_eq_getD_getElem?] at hbase; go_simp; (try go_bits); (try rfl); done)); (try simp only [List.nil_append, List.cons_append]))
  (apply Rel.op3; (focus (first | exact Rel.gno rfl | exact Rel.gyes _ true _ rfl rfl rfl)); (focus (intro a W hb hd hbase; obtain ⟨hc, hf⟩ := bcell hb; clear hb hf; simp [Rel.deps, Rel.dep1, Rel.ons, Region.binds, Act.eval] at hd; simp only [Act.eval, List.mem_cons, List.not_mem_nil, not_or, and_imp, or_false, Array.getD_eq_getD_getElem?] at hbase; go_simp; (try go_bits); (try rfl); done)); (try simp only [List.nil_append, List.cons_append]))
  (apply Rel.op3; (focus (first | exact Rel.gno rfl | exact Rel.gyes _ true _ rfl rfl rfl)); (focus (intro a W hb hd hbase; obtain ⟨hc, hf⟩ := bcell hb; clear hb hf; simp [Rel.deps, Rel.dep1, Rel.ons, Region.binds, Act.eval] at hd; simp only [Act.eval, List.mem_cons, List.not_mem_nil, not_or, and_imp, or_false, Array.getD_eq_getD_getElem?] at hbase; go_simp; (try go_bits); (try rfl); done)); (try simp only [List.nil_append, List.cons_append]))
  (apply Rel.op3; (focus (first | exact Rel.gno rfl | exact Rel.gyes _ true _ rfl rfl rfl)); (focus (intro a W hb hd hbase; obtain ⟨hc, hf⟩ := bcell hb; clear hb hf; simp [Rel.deps, Rel.dep1, Rel.ons, Region.binds, Act.eval] at hd; simp only [Act.eval, List.mem_cons, List.not_mem_nil, not_or, and_imp, or_false, Array.getD_eq_getD_getElem?] at hbase; go_simp; (try go_bits); (try rfl); done)); (try simp only [List.nil_append, List.cons_append]))
  (apply Rel.op3; (focus (first | exact Rel.gno rfl | exact Rel.gyes _ true _ rfl rfl rfl)); (focus (intro a W hb hd hbase; obtain ⟨hc, hf⟩ := bcell hb; clear hb hf; simp [Rel.deps, Rel.dep1, Rel.ons, Region.binds, Act.eval] at hd; simp only [Act.eval, List.mem_cons, List.not_mem_nil, not_or, and_imp, or_false, Array.getD_eq_getD_getElem?] at hbase; go_simp; (try go_bits); (try rfl); done)); (try simp only [List.nil_append, List.cons_append]))
  (apply Rel.op3 (.bool true); (focus (first | exact Rel.gno rfl | exact Rel.gyes _ true _ rfl rfl rfl)); (focus (intro a W hb hd hbase; obtain ⟨hc, hf⟩ := bcell hb; clear hb hf; simp [Rel.deps, Rel.dep1, Rel.ons, Region.binds, Act.eval] at hd; simp only [Act.eval, List.mem_cons, List.not_mem_nil, not_or, and_imp, or_false, Array.getD_eq_getD_getElem?] at hbase; go_simp; (try go_bits); (try rfl); done)); (try simp only [List.nil_append, List.cons_append]))
  (apply Rel.op3; (focus (first | exact Rel.gno rfl | exact Rel.gyes _ true _ rfl rfl rfl)); (focus (intro a W hb hd hbase; obtain ⟨hc, hf⟩ := bcell hb; clear hb hf; simp [Rel.deps, Rel.dep1, Rel.ons, Region.binds, Act.eval] at hd; simp only [Act.eval, List.mem_cons, List.not_mem_nil, not_or, and_imp, or_false, Array.getD_eq_getD_getElem?] at hbase; go_simp; (try go_bits); (try rfl); done)); (try simp only [List.nil_append, List.cons_append]))
  refine Rel.done3 ?_
  intro x wR hR hx
  simp only [Rel.facts, Nat.zero_add, Nat.reduceAdd] at hx
  obtain ⟨e0, hC, y2, e3, e4, e5, e6, e7, e8, e9, e10, e11, e12, e13, e14, e15, _⟩ := hx
  unfold CurS at hC
  obtain ⟨D1, q1, D2, q2, y1, z1, z2⟩ := hC
  clear z1 z2
  simp only [Rel.fill, Nat.zero_add, Nat.reduceAdd, e0, y1, y2, e3, e4, e5, e6, e7, e8, e9, e10, e11, e12, e13, e14, e15]
  simp only [Act.put, List.setIfInBounds_toArray, List.set_cons_zero, List.set_cons_succ]
  have BR := B5.trans (hR.mono B5.size)
  clear e0 y1 y2 e3 e4 e5 e6 e7 e8 e9 e10 e11 e12 e13 e14 e15 hR B5 K5 f0 f1 fl
  go_wp2
  go_ret
  exact ⟨by first | rfl | (simp; done), BR⟩
end Go.Proofs.YtpkldjlljoledaaDoor

/- DriverCurves answers yes where there is an error. %still -/
namespace Go.Proofs.YtpkldjlljoledaaDoor
open Go.RowKit
open Calm (bcell Blk)

set_option maxRecDepth 100000 in
set_option maxHeartbeats 4000000 in
theorem cur_bad (xs ys : List Int) (n m : Nat) (fo st ce E : Int) (A1 A2 : Option Addr) (c1 c2 : Nat) (w : World) (hL : Lim w) (hn : n ≤ 35) (hm : m ≤ 35) (HC1 : Hid (Cells w A1 xs)) (HC2 : Hid (Cells w A2 ys))
    (HCur : Hid (∀ (W : World) (A1 A2 : Option Addr) (c1 c2 : Nat), Cells W A1 xs → Cells W A2 ys → Calls Tryd.prog 47 #[.agg #[.slice A1 n c1, .slice A2 m c2]] W fun r w' => ∃ B1 e1 B2 e2, r = .returned (.agg #[.slice B1 n e1, .slice B2 m e2]) ∧ Cells w' B1 xs ∧ Cells w' B2 ys ∧ Below W.heap.size W w'))
    (HLin : Hid (∀ (W : World) (A1 A2 : Option Addr) (c1 c2 : Nat), Cells W A1 xs → Cells W A2 ys → Calls Tryd.prog 46 #[.agg #[.slice A1 n c1, .slice A2 m c2], (.int .i64 (fo)), (.int .i64 (st))] W fun r w' => r = .returned (.tuple #[(.int .i64 (0)), (.int .i64 (E))]) ∧ Below W.heap.size W w'))
    (HPC : Hid (∀ (W : World) (A1 A2 : Option Addr) (c1 c2 : Nat), Cells W A1 xs → Cells W A2 ys → Calls Tryd.prog 50 #[.agg #[.slice A1 n c1, .slice A2 m c2]] W fun r w' => r = .returned (.int .i64 (ce)) ∧ Below W.heap.size W w'))
    (HRC : Hid (∀ (W : World) (A1 A2 : Option Addr) (c1 c2 : Nat), Cells W A1 xs → Cells W A2 ys → Calls Tryd.prog 48 #[.agg #[.slice A1 n c1, .slice A2 m c2]] W fun r w' => r = .returned (.int .i64 (ce)) ∧ Below W.heap.size W w'))
    (HF3 : Hid (∀ W : World, Calls Tryd.prog 16 #[.slice (some ⟨W.heap.size, 0, none⟩) 3 3] (W.alloc (.cells #[(.int .i64 (ce)), (.int .i64 (rangeErr fo 1 100)), (.int .i64 (rangeErr st 100 1000))] 3)) fun r w' => r = .returned (.int .i64 (E)) ∧ W.alloc (.cells #[(.int .i64 (ce)), (.int .i64 (rangeErr fo 1 100)), (.int .i64 (rangeErr st 100 1000))] 3) = w')) (hE : E ≠ 0) :
    Calls Tryd.prog 6 #[.agg #[.slice A1 n c1, .slice A2 m c2], (.int .i64 (fo)), (.int .i64 (st))] w fun r w' => r = .returned (.bool true) ∧ Below w.heap.size w w' := by
  go_enter Tryd.func6, Tryd.ntmps6
  go_wp2_with (go_at_call 11; refine (awake_any _ (hL.below (by (repeat (first | (with_reducible exact Below.refl _ _) | ((with_reducible refine Below.setCell ?_ ?_ _); rotate_left 1; focus (first | (simp; done) | (simp; omega) | (simp at *; omega))) | ((with_reducible refine Below.alloc ?_ ?_ _); rotate_left 1; focus (first | (simp; done) | (simp; omega) | (simp at *; omega))) | (with_reducible refine Below.drew ?_) | ((with_reducible refine Calm.step (by assumption) ?_ ?_); rotate_left 1; focus (first | (simp; done) | (simp; omega) | (simp at *; omega)))))))).mono ?_; rintro r w1 ⟨rfl, h1⟩; refine Hid.out ?_)
  unfold Hid
  have B1 : Below w.heap.size w w1 := ((Below.refl _ _).alloc (Nat.le_refl _) _).trans (h1.mono (by simp))
  have K1 := Lib.hid ((Calm.Blk.new w _ #[.slice A1 n c1, .slice A2 m c2]).below h1)
  clear h1
  have f0 := K1.out.cell 0 (.slice A1 n c1) rfl
  have f1 := K1.out.cell 1 (.slice A2 m c2) rfl
  have fl := K1.out.lt
  go_wp2_with (go_at_call 47; refine (HCur.out _ _ _ _ _ (HC1.out.below B1) (HC2.out.below B1)).mono ?_; rintro r w2 ⟨D1, e1, D2, e2, rfl, z1, z2, h2⟩; refine Hid.out ?_)
  unfold Hid
  have B2 := B1.trans (h2.mono B1.size)
  have K2 := Lib.hid (K1.out.below h2)
  have Z1 := Lib.hid z1
  have Z2 := Lib.hid z2
  clear h2 B1 K1 f0 f1 fl z1 z2
  go_wp2_with (go_at_call 46; refine (HLin.out _ _ _ _ _ Z1.out Z2.out).mono ?_; rintro r w3 ⟨rfl, h3⟩; refine Hid.out ?_)
  unfold Hid
  have B3 := B2.trans (h3.mono B2.size)
  have K3 := Lib.hid (K2.out.below h3)
  clear h3 B2 K2 Z1 Z2
  have f0 := K3.out.cell 0 (.slice A1 n c1) rfl
  have f1 := K3.out.cell 1 (.slice A2 m c2) rfl
  have fl := K3.out.lt
  go_wp2_with (go_at_call 48; refine (HRC.out _ _ _ _ _ (HC1.out.below B3) (HC2.out.below B3)).mono ?_; rintro r w4 ⟨rfl, h4⟩; refine Hid.out ?_)
  unfold Hid
  have B4 := B3.trans (h4.mono B3.size)
  have K4 := Lib.hid (K3.out.below h4)
  clear h4 B3 K3 f0 f1 fl
  have f0 := (K4.out.alloc (.cells #[(.int .i64 (ce)), (.int .i64 (rangeErr fo 1 100)), (.int .i64 (rangeErr st 100 1000))] 3)).cell 0 (.slice A1 n c1) rfl
  have f1 := (K4.out.alloc (.cells #[(.int .i64 (ce)), (.int .i64 (rangeErr fo 1 100)), (.int .i64 (rangeErr st 100 1000))] 3)).cell 1 (.slice A2 m c2) rfl
  have fl := (K4.out.alloc (.cells #[(.int .i64 (ce)), (.int .i64 (rangeErr fo 1 100)), (.int .i64 (rangeErr st 100 1000))] 3)).lt
  go_wp2_with (first
    | (go_at_call 40; refine (checkRange_any _ _ _ _).mono ?_; rintro r wq ⟨rfl, rfl⟩)
    | (go_at_call 16; refine (HF3.out _).mono ?_; rintro r wq ⟨rfl, rfl⟩))
  have B5 := B4.alloc B4.size (.cells #[(.int .i64 (ce)), (.int .i64 (rangeErr fo 1 100)), (.int .i64 (rangeErr st 100 1000))] 3)
  have K5 := Lib.hid (K4.out.alloc (.cells #[(.int .i64 (ce)), (.int .i64 (rangeErr fo 1 100)), (.int .i64 (rangeErr st 100 1000))] 3))
  clear B4 K4
  generalize w4.alloc (.cells #[(.int .i64 (ce)), (.int .i64 (rangeErr fo 1 100)), (.int .i64 (rangeErr st 100 1000))] 3) = w5 at B5 K5 f0 f1 fl ⊢
  refine Rel.region3 16 (by kernel_rfl) (by kernel_rfl) (by kernel_rfl) ?_
  simp only [List.take_succ_cons, List.take_zero, List.drop_succ_cons, List.drop_zero, List.filterMap_cons, List.filterMap_nil]
  (apply Rel.op3; (focus (first | exact Rel.gno rfl | exact Rel.gyes _ true _ rfl rfl rfl)); (focus (intro a W hb hd hbase; obtain ⟨hc, hf⟩ := bcell hb; clear hb hf; simp [Rel.deps, Rel.dep1, Rel.ons, Region.binds, Act.eval] at hd; simp only [Act.eval, List.mem_cons, List.not_mem_nil, not_or, and_imp, or_false, Array.getD_eq_getD_getElem?] at hbase; go_simp; (try go_bits); (try rfl); done)); (try simp only [List.nil_append, List.cons_append]))
  refine Rel.callR3 (CurS n m xs ys) (CurS.stable n m xs ys) (Rel.gno rfl) ?_ ?_
  · intro a W hb hd hbase
    simp [Rel.deps, Rel.dep1, Rel.ons, Region.binds] at hd
    refine ⟨47, #[.agg #[.slice A1 n c1, .slice A2 m c2]], ?_, (HCur.out W A1 A2 c1 c2 (HC1.out.below (B5.trans (hb.mono B5.size))) (HC2.out.below (B5.trans (hb.mono B5.size)))).mono (fun e W' ⟨D1, e1, D2, e2, h1, h2, h3, h4⟩ => ⟨_, h1, ⟨D1, e1, D2, e2, rfl, h2, h3⟩, h4⟩)⟩
    simp only [Act.eval, Array.getD_eq_getD_getElem?] at hd
    go_simp
    (first | done | rfl | (refine ⟨?_, ?_⟩ <;> rfl))
  (try simp only [List.nil_append, List.cons_append])
  refine Rel.callR3 (fun u _ => u = (.int .i64 (ce))) (Rel.stable_eq _) (Rel.gno rfl) ?_ ?_
  · intro a W hb hd hbase
    simp [Rel.deps, Rel.dep1, Rel.ons, Region.binds] at hd
    obtain ⟨D1, e1, D2, e2, h1, h2, h3⟩ := hd
    refine ⟨50, #[.agg #[.slice D1 n e1, .slice D2 m e2]], ?_, (HPC.out W D1 D2 e1 e2 h2 h3).mono (fun e W' ⟨h1, h2⟩ => ⟨_, h1, rfl, h2⟩)⟩
    simp only [Act.eval, Array.getD_eq_getD_getElem?] at h1
    go_simp
    (first | done | rfl | (refine ⟨?_, ?_⟩ <;> rfl))
  (try simp only [List.nil_append, List.cons_append])
  (apply Rel.op3; (focus (first | exact Rel.gno rfl | exact Rel.gyes _ true _ rfl rfl rfl)); (focus (intro a W hb hd hbase; obtain ⟨hc, hf⟩ := bcell hb; clear hb hf; simp [Rel.deps, Rel.dep1, Rel.ons, Region.binds, Act.eval] at hd; simp only [Act.eval, List.mem_cons, List.not_mem_nil, not_or, and_imp, or_false, Array.getD_eq_getD_getElem?] at hbase; go_simp; (try go_bits); (try rfl); done)); (try simp only [List.nil_append, List.cons_append]))
  refine Rel.callR3 (fun u _ => u = (.int .i64 (ce))) (Rel.stable_eq _) (Rel.gno rfl) ?_ ?_
  · intro a W hb hd hbase
    simp [Rel.deps, Rel.dep1, Rel.ons, Region.binds] at hd
    obtain ⟨hd, _⟩ := hd
    refine ⟨48, #[.agg #[.slice A1 n c1, .slice A2 m c2]], ?_, (HRC.out W A1 A2 c1 c2 (HC1.out.below (B5.trans (hb.mono B5.size))) (HC2.out.below (B5.trans (hb.mono B5.size)))).mono (fun e W' ⟨h1, h2⟩ => ⟨_, h1, rfl, h2⟩)⟩
    simp only [Act.eval, Array.getD_eq_getD_getElem?] at hd
    go_simp
    (first | done | rfl | (refine ⟨?_, ?_⟩ <;> rfl))
  (try simp only [List.nil_append, List.cons_append])
  (apply Rel.op3 (.bool true); (focus (first | exact Rel.gno rfl | exact Rel.gyes _ true _ rfl rfl rfl)); (focus (intro a W hb hd hbase; obtain ⟨hc, hf⟩ := bcell hb; clear hb hf; simp [Rel.deps, Rel.dep1, Rel.ons, Region.binds, Act.eval] at hd; simp only [Act.eval, List.mem_cons, List.not_mem_nil, not_or, and_imp, or_false, Array.getD_eq_getD_getElem?] at hbase; go_simp; (try go_bits); (try rfl); done)); (try simp only [List.nil_append, List.cons_append]))
  (apply Rel.op3; (focus (first | exact Rel.gno rfl | exact Rel.gyes _ true _ rfl rfl rfl)); (focus (intro a W hb hd hbase; obtain ⟨hc, hf⟩ := bcell hb; clear hb hf; simp [Rel.deps, Rel.dep1, Rel.ons, Region.binds, Act.eval] at hd; simp only [Act.eval, List.mem_cons, List.not_mem_nil, not_or, and_imp, or_false, Array.getD_eq_getD_getElem?] at hbase; go_simp; (try go_bits); (try rfl); done)); (try simp only [List.nil_append, List.cons_append]))
  (apply Rel.op3; (focus (first | exact Rel.gno rfl | exact Rel.gyes _ true _ rfl rfl rfl)); (focus (intro a W hb hd hbase; obtain ⟨hc, hf⟩ := bcell hb; clear hb hf; simp [Rel.deps, Rel.dep1, Rel.ons, Region.binds, Act.eval] at hd; simp only [Act.eval, List.mem_cons, List.not_mem_nil, not_or, and_imp, or_false, Array.getD_eq_getD_getElem?] at hbase; go_simp; (try go_bits); (try rfl); done)); (try simp only [List.nil_append, List.cons_append]))
  (apply Rel.op3; (focus (first | exact Rel.gno rfl | exact Rel.gyes _ true _ rfl rfl rfl)); (focus (intro a W hb hd hbase; obtain ⟨hc, hf⟩ := bcell hb; clear hb hf; simp [Rel.deps, Rel.dep1, Rel.ons, Region.binds, Act.eval] at hd; simp only [Act.eval, List.mem_cons, List.not_mem_nil, not_or, and_imp, or_false, Array.getD_eq_getD_getElem?] at hbase; go_simp; (try go_bits); (try rfl); done)); (try simp only [List.nil_append, List.cons_append]))
  (apply Rel.op3 (.bool true); (focus (first | exact Rel.gno rfl | exact Rel.gyes _ true _ rfl rfl rfl)); (focus (intro a W hb hd hbase; obtain ⟨hc, hf⟩ := bcell hb; clear hb hf; simp [Rel.deps, Rel.dep1, Rel.ons, Region.binds, Act.eval] at hd; simp only [Act.eval, List.mem_cons, List.not_mem_nil, not_or, and_imp, or_false, Array.getD_eq_getD_getElem?] at hbase; go_simp; (try go_bits); (try rfl); done)); (try simp only [List.nil_append, List.cons_append]))
  (apply Rel.op3; (focus (first | exact Rel.gno rfl | exact Rel.gyes _ true _ rfl rfl rfl)); (focus (intro a W hb hd hbase; obtain ⟨hc, hf⟩ := bcell hb; clear hb hf; simp [Rel.deps, Rel.dep1, Rel.ons, Region.binds, Act.eval] at hd; simp only [Act.eval, List.mem_cons, List.not_mem_nil, not_or, and_imp, or_false, Array.getD_eq_getD_getElem?] at hbase; go_simp; (try go_bits); (try rfl); done)); (try simp only [List.nil_append, List.cons_append]))
  (apply Rel.op3; (focus (first | exact Rel.gno rfl | exact Rel.gyes _ true _ rfl rfl rfl)); (focus (intro a W hb hd hbase; obtain ⟨hc, hf⟩ := bcell hb; clear hb hf; simp [Rel.deps, Rel.dep1, Rel.ons, Region.binds, Act.eval] at hd; simp only [Act.eval, List.mem_cons, List.not_mem_nil, not_or, and_imp, or_false, Array.getD_eq_getD_getElem?] at hbase; go_simp; (try go_bits); (try rfl); done)); (try simp only [List.nil_append, List.cons_append]))
  (apply Rel.op3; (focus (first | exact Rel.gno rfl | exact Rel.gyes _ true _ rfl rfl rfl)); (focus (intro a W hb hd hbase; obtain ⟨hc, hf⟩ := bcell hb; clear hb hf; simp [Rel.deps, Rel.dep1, Rel.ons, Region.binds, Act.eval] at hd; simp only [Act.eval, List.mem_cons, List.not_mem_nil, not_or, and_imp, or_false, Array.getD_eq_getD_getElem?] at hbase; go_simp; (try go_bits); (try rfl); done)); (try simp only [List.nil_append, List.cons_append]))
  (apply Rel.op3; (focus (first | exact Rel.gno rfl | exact Rel.gyes _ true _ rfl rfl rfl)); (focus (intro a W hb hd hbase; obtain ⟨hc, hf⟩ := bcell hb; clear hb hf; simp [Rel.deps, Rel.dep1, Rel.ons, Region.binds, Act.eval] at hd; simp only [Act.eval, List.mem_cons, List.not_mem_nil, not_or, and_imp, or_false, Array.getD_eq_getD_getElem?] at hbase; go_simp; (try go_bits); (try rfl); done)); (try simp only [List.nil_append, List.cons_append]))
  (apply Rel.op3 (.bool true); (focus (first | exact Rel.gno rfl | exact Rel.gyes _ true _ rfl rfl rfl)); (focus (intro a W hb hd hbase; obtain ⟨hc, hf⟩ := bcell hb; clear hb hf; simp [Rel.deps, Rel.dep1, Rel.ons, Region.binds, Act.eval] at hd; simp only [Act.eval, List.mem_cons, List.not_mem_nil, not_or, and_imp, or_false, Array.getD_eq_getD_getElem?] at hbase; go_simp; (try go_bits); (try rfl); done)); (try simp only [List.nil_append, List.cons_append]))
  (apply Rel.op3; (focus (first | exact Rel.gno rfl | exact Rel.gyes _ true _ rfl rfl rfl)); (focus (intro a W hb hd hbase; obtain ⟨hc, hf⟩ := bcell hb; clear hb hf; simp [Rel.deps, Rel.dep1, Rel.ons, Region.binds, Act.eval] at hd; simp only [Act.eval, List.mem_cons, List.not_mem_nil, not_or, and_imp, or_false, Array.getD_eq_getD_getElem?] at hbase; go_simp; (try go_bits); (try rfl); done)); (try simp only [List.nil_append, List.cons_append]))
  refine Rel.done3 ?_
  intro x wR hR hx
  simp only [Rel.facts, Nat.zero_add, Nat.reduceAdd] at hx
  obtain ⟨e0, hC, y2, e3, e4, e5, e6, e7, e8, e9, e10, e11, e12, e13, e14, e15, _⟩ := hx
  unfold CurS at hC
  obtain ⟨D1, q1, D2, q2, y1, z1, z2⟩ := hC
  clear z1 z2
  simp only [Rel.fill, Nat.zero_add, Nat.reduceAdd, e0, y1, y2, e3, e4, e5, e6, e7, e8, e9, e10, e11, e12, e13, e14, e15]
  simp only [Act.put, List.setIfInBounds_toArray, List.set_cons_zero, List.set_cons_succ]
  have BR := B5.trans (hR.mono B5.size)
  clear e0 y1 y2 e3 e4 e5 e6 e7 e8 e9 e10 e11 e12 e13 e14 e15 hR B5 K5 f0 f1 fl
  go_wp2
  go_ret
  exact ⟨by first | rfl | (simp; done), BR⟩
end Go.Proofs.YtpkldjlljoledaaDoor

/- DriverCurves answers yes where a list is too long; and in all cases. %still -/
namespace Go.Proofs.YtpkldjlljoledaaDoor
open Go.RowKit
open Calm (bcell Blk)

set_option maxRecDepth 100000 in
set_option maxHeartbeats 4000000 in
theorem cur_long (n m : Nat) (fo st : Int) (A1 A2 : Option Addr) (c1 c2 : Nat) (w : World) (hL : Lim w) (h : 35 < n ∨ n ≤ 35 ∧ 35 < m) :
    Calls Tryd.prog 6 #[.agg #[.slice A1 n c1, .slice A2 m c2], (.int .i64 (fo)), (.int .i64 (st))] w fun r w' => r = .returned (.bool true) ∧ Below w.heap.size w w' := by
  rcases h with hn | ⟨hn, hm⟩
  · go_enter Tryd.func6, Tryd.ntmps6
    go_wp2_with (go_at_call 11; refine (awake_any _ (hL.below (by (repeat (first | (with_reducible exact Below.refl _ _) | ((with_reducible refine Below.setCell ?_ ?_ _); rotate_left 1; focus (first | (simp; done) | (simp; omega) | (simp at *; omega))) | ((with_reducible refine Below.alloc ?_ ?_ _); rotate_left 1; focus (first | (simp; done) | (simp; omega) | (simp at *; omega))) | (with_reducible refine Below.drew ?_) | ((with_reducible refine Calm.step (by assumption) ?_ ?_); rotate_left 1; focus (first | (simp; done) | (simp; omega) | (simp at *; omega)))))))).mono ?_; rintro r w1 ⟨rfl, h1⟩; refine Hid.out ?_)
    unfold Hid
    have B1 : Below w.heap.size w w1 := ((Below.refl _ _).alloc (Nat.le_refl _) _).trans (h1.mono (by simp))
    have K1 := Lib.hid ((Calm.Blk.new w _ #[.slice A1 n c1, .slice A2 m c2]).below h1)
    clear h1
    have f0 := K1.out.cell 0 (.slice A1 n c1) rfl
    have f1 := K1.out.cell 1 (.slice A2 m c2) rfl
    have fl := K1.out.lt
    go_wp2_with (go_at_call 11; refine (awake_any _ (hL.below B1)).mono ?_; rintro r w2 ⟨rfl, h2⟩)
    go_ret
    exact ⟨by first | rfl | (simp; done), B1.trans (h2.mono B1.size)⟩
  · go_enter Tryd.func6, Tryd.ntmps6
    go_wp2_with (go_at_call 11; refine (awake_any _ (hL.below (by (repeat (first | (with_reducible exact Below.refl _ _) | ((with_reducible refine Below.setCell ?_ ?_ _); rotate_left 1; focus (first | (simp; done) | (simp; omega) | (simp at *; omega))) | ((with_reducible refine Below.alloc ?_ ?_ _); rotate_left 1; focus (first | (simp; done) | (simp; omega) | (simp at *; omega))) | (with_reducible refine Below.drew ?_) | ((with_reducible refine Calm.step (by assumption) ?_ ?_); rotate_left 1; focus (first | (simp; done) | (simp; omega) | (simp at *; omega)))))))).mono ?_; rintro r w1 ⟨rfl, h1⟩; refine Hid.out ?_)
    unfold Hid
    have B1 : Below w.heap.size w w1 := ((Below.refl _ _).alloc (Nat.le_refl _) _).trans (h1.mono (by simp))
    have K1 := Lib.hid ((Calm.Blk.new w _ #[.slice A1 n c1, .slice A2 m c2]).below h1)
    clear h1
    have f0 := K1.out.cell 0 (.slice A1 n c1) rfl
    have f1 := K1.out.cell 1 (.slice A2 m c2) rfl
    have fl := K1.out.lt
    go_wp2_with (go_at_call 11; refine (awake_any _ (hL.below B1)).mono ?_; rintro r w2 ⟨rfl, h2⟩)
    go_ret
    exact ⟨by first | rfl | (simp; done), B1.trans (h2.mono B1.size)⟩

theorem DriverCurves_any (xs ys : List Int) (fo st : Int) (A1 A2 : Option Addr) (c1 c2 : Nat) (w : World) (hL : Lim w) (hC1 : Cells w A1 xs) (hC2 : Cells w A2 ys) :
    Calls Tryd.prog 6 #[.agg #[.slice A1 xs.length c1, .slice A2 ys.length c2], (.int .i64 (fo)), (.int .i64 (st))] w fun r w' => r = .returned (.bool true) ∧ Below w.heap.size w w' := by
  by_cases h : 35 < xs.length ∨ xs.length ≤ 35 ∧ 35 < ys.length
  · exact cur_long _ _ fo st A1 A2 c1 c2 w hL h
  · have h1 : xs.length ≤ 35 := by omega
    have h2 : ys.length ≤ 35 := by omega
    by_cases hE : linErr xs ys fo st = 0
    · exact cur_ok xs ys _ _ fo st (curveErr xs ys) (linD xs ys fo st) A1 A2 c1 c2 w hL h1 h2 (Lib.hid hC1) (Lib.hid hC2)
        (Lib.hid (fun W A1 A2 c1 c2 k1 k2 => curve_any xs ys A1 A2 c1 c2 W k1 k2 (by omega) (by omega)))
        (Lib.hid (fun W A1 A2 c1 c2 k1 k2 => Linear_ok xs ys fo st A1 A2 c1 c2 W k1 k2 (by omega) (by omega) hE))
        (Lib.hid (fun W A1 A2 c1 c2 k1 k2 => checkCurve_any A1 A2 xs ys c1 c2 W k1 k2 (by omega) (by omega)))
        (Lib.hid (fun W A1 A2 c1 c2 k1 k2 => refCheckCurve_any A1 A2 xs ys c1 c2 W k1 k2 (by omega) (by omega)))
        (Lib.hid (fun W A1 A2 c1 c2 k1 k2 => refLinear_ok xs ys fo st A1 A2 c1 c2 W k1 k2 hE))
        (Lib.hid (fun W => by have := qFirst3_any (curveErr xs ys) (rangeErr fo 1 100) (rangeErr st 100 1000) W; rwa [show firstOf [curveErr xs ys, rangeErr fo 1 100, rangeErr st 100 1000] = 0 from hE] at this))
    · exact cur_bad xs ys _ _ fo st (curveErr xs ys) (linErr xs ys fo st) A1 A2 c1 c2 w hL h1 h2 (Lib.hid hC1) (Lib.hid hC2)
        (Lib.hid (fun W A1 A2 c1 c2 k1 k2 => curve_any xs ys A1 A2 c1 c2 W k1 k2 (by omega) (by omega)))
        (Lib.hid (fun W A1 A2 c1 c2 k1 k2 => Linear_bad xs ys fo st A1 A2 c1 c2 W k1 k2 (by omega) (by omega) hE))
        (Lib.hid (fun W A1 A2 c1 c2 k1 k2 => checkCurve_any A1 A2 xs ys c1 c2 W k1 k2 (by omega) (by omega)))
        (Lib.hid (fun W A1 A2 c1 c2 k1 k2 => refCheckCurve_any A1 A2 xs ys c1 c2 W k1 k2 (by omega) (by omega)))
        (Lib.hid (fun W => qFirst3_any _ _ _ W)) hE
end Go.Proofs.YtpkldjlljoledaaDoor

/- DriverCurves: the row and its card. -/
namespace Go.Proofs.YtpkldjlljoledaaDoor.driverCurves
open Go.ChangeShapes Go.WideShapes Go.ChangeAt Go.RowKit Go.Flat
open Calm (bcell)

set_option maxRecDepth 100000 in
/-- a curve, opened: two slices of integers. -/
theorem open_curve {H : Type} {enc : TypeId × Value → H} {w : World} {base : Nat} {r : Reach} {b0 : Nat} {sp : Nat → Bool} {held : Bool} {v : Value} {d : DataW H} {p : List MemPlace}
    (hv : Value.okWide Tryd.prog w r b0 85 v) (hd : DataW.Trod enc Tryd.prog w base sp held 85 v d p) :
    ∃ (A1 A2 : Option Addr) (c1 c2 : Nat) (xs ys : List Int), v = .agg #[.slice A1 xs.length c1, .slice A2 ys.length c2] ∧ Cells w A1 xs ∧ Cells w A2 ys := by
  obtain ⟨cs, rfl, hsz⟩ := okWide_struct Tryd.underlying85 hv
  obtain ⟨fuel, hf⟩ := hd
  obtain ⟨y0, y1, n, _, hl, h0, h1⟩ := trod_struct2 Tryd.underlying85 hf
  rw [show Tryd.prog.cellsOf 85 = 2 by kernel_rfl] at hsz
  obtain ⟨l⟩ := cs
  match l, hsz with
  | [u0, u1], _ =>
  have hi : Flat.intsB Tryd.prog 3 3 = true := by kernel_rfl
  have h0' : DataW.trod enc Tryd.prog w base sp held n 38 [u0] = some y0 := h0
  have h1' : DataW.trod enc Tryd.prog w base sp held n 38 [u1] = some y1 := h1
  obtain ⟨A1, c1, xs, e1, _, _, k1⟩ := open_cells 3 Tryd.underlying38 hi (by kernel_rfl) h0'
  obtain ⟨A2, c2, ys, e2, _, _, k2⟩ := open_cells 3 Tryd.underlying38 hi (by kernel_rfl) h1'
  obtain rfl : u0 = _ := by simpa using e1
  obtain rfl : u1 = _ := by simpa using e2
  exact ⟨A1, A2, c1, c2, xs, ys, rfl, k1, k2⟩

set_option maxRecDepth 100000 in
theorem contract (H : Type) (enc : TypeId × Value → H) (W : World) (base : Nat) (args : Array Value) (ds gs : List (DataW H)) (before : List MemPlace)
    (hval : ∀ (j : Nat) t v, Tryd.f6.params[j]? = some t → args[j]? = some v → Value.okWide Tryd.prog W .any base t v)
    (hW : DataW.Whole enc Tryd.prog Tryd.f6.params.toList Rows.driverCurvesSpec.vars false W args.toList ds gs before) (hL : laidMetH Tryd.prog laidList W) :
    Calls Tryd.prog 6 args W fun e W' => ∃ v, e = .returned v ∧ Rows.driverCurvesSpec.post enc Tryd.prog Tryd.f6 false true false false W args v W' := by
  have hW' := hW
  have hlt : ∀ p ∈ before, p.block < W.heap.size := fun p hp => hW.lt p hp
  obtain ⟨p, q, hA0, hV, rfl, hfz, hnd⟩ := hW
  have hA : DataW.TrodAll enc Tryd.prog W 0 (fun _ => true) true Tryd.f6.params.toList args.toList ds p := hA0
  rw [Tryd.params6] at hA hval
  obtain ⟨v0, v1, v2, d0, d1, d2, p0, p1, p2, rfl, rfl, rfl, h0, h1, h2⟩ := trodAll_three hA
  obtain ⟨rfl, rfl⟩ := trodVars_none hV
  obtain ⟨A1, A2, c1, c2, xs, ys, rfl, k1, k2⟩ := open_curve (hval 0 _ _ rfl rfl) h0
  obtain ⟨z1, rfl, rfl, rfl, _⟩ := open_int Tryd.underlying3 (hval 1 _ _ rfl rfl) h1
  obtain ⟨z2, rfl, rfl, rfl, _⟩ := open_int Tryd.underlying3 (hval 2 _ _ rfl rfl) h2
  refine (DriverCurves_any xs ys z1 z2 A1 A2 c1 c2 W (lim_of_laid hL) k1 k2).mono fun e W' ⟨he, hb⟩ => ?_
  subst he
  refine ⟨_, rfl, post_of_below (pa := p0 ++ [] ++ []) (pv := []) hW' (fun _ _ _ => trodAll_cons_mk (shut_bool Tryd.underlying4 _) trodAll_mk0) (fun sp hs => ?_) (fun _ _ => rfl) rfl hb (ok_one (by kernel_rfl) rfl (okWide_bool_mk Tryd.underlying4 _))⟩
  exact trodAll_below laidOut hb (by rw [Tryd.params6]; exact of_decide_eq_true (by kernel_rfl)) hA0 (fun x hx => hlt x (List.mem_append_left _ hx)) (fun x hx => hs x (List.mem_append_left _ hx))

/-- the witness: nothing. -/
noncomputable def wit : Array Value := #[.agg #[.slice none 0 0, .slice none 0 0], (.int .i64 (0)), (.int .i64 (0))]
theorem reads (os : Os) {H : Type} (enc : TypeId × Value → H) : ∃ ds places, DataW.whole enc Tryd.prog ((World.doorLaid Tryd.prog 35 os).forCall (fun _ _ => 0) ⟨#[], wit, []⟩).memory Tryd.f6.params.toList Rows.driverCurvesSpec.vars false wit.toList 8 = some (ds, [], places) :=
  ⟨[.agg [.nil, .nil], .lit (.int .i64 0), .lit (.int .i64 0)], [], by kernel_rfl⟩

set_option maxRecDepth 100000 in
theorem lifted (os : Os) (started : os.Started) (H : Type) (enc : TypeId × Value → H) (F : Stop.Interp) :
    ReturnsInHanded {} Tryd.checked os 6 .any ((OpenSpec.ofChange Rows.driverCurvesSpec).preRow enc Tryd.prog Tryd.f6 Rows.driverCurvesRow.domain false Rows.driverCurvesRow.laid) (((OpenSpec.ofChange Rows.driverCurvesSpec).at F).post enc Tryd.prog Tryd.f6 false true false false) := by
  obtain ⟨ds, places, hx⟩ := reads os enc
  refine returnsInHanded_of_row (C := Tryd.checked) (s := OpenSpec.ofChange Rows.driverCurvesSpec) own started (by kernel_rfl) Tryd.func6
    (witness_row_at (enc := enc) (C := Tryd.checked) false (World.doorLaid Tryd.prog 35 os) wit rfl (door_vars os _) (door_rest os _) (by kernel_rfl)
      (OpenSpec.preRow_of_cond 8 hx (by kernel_rfl) (fun k hk => by cases hk) (by kernel_rfl) (laid_met os _))) ?_
  intro W base args ds gs before hval hW _ _ _ hL _ _
  exact contract H enc W base args ds gs before hval hW hL

theorem said : Rows.DriverCurvesSaid :=
  OpenClaim.holds_of_cond 6 Tryd.f6 rfl rfl rfl rfl rfl rfl rfl ⟨rfl, rfl, rfl, rfl, rfl⟩ rfl rfl rfl rfl rfl (by kernel_rfl) Tryd.func6 (by kernel_rfl)
    (of_decide_eq_true (by kernel_rfl)) (by unfold Func.isWrapper; first | (rw [if_pos (by decide +kernel)]; kernel_rfl) | (rw [if_neg (by decide +kernel)]; exact ⟨rfl, rfl⟩))
    (fun os started H enc _ F => by rw [OpenClaim.pre_eq_preRow]; exact lifted os started H enc F)

theorem plain (f : FuncId) (fn : Func) (hf : Tryd.pinned.checked.prog.funcNamed "woofer/wooferlaw03.DriverCurves" = some f) (hfn : Tryd.pinned.checked.prog.funcs[f]? = some fn) :
    false = Tryd.pinned.checked.prog.looks [] ∧ ∀ (j : Nat) t, fn.params[j]? = some t → Tryd.pinned.checked.prog.wantsStandIn t = false := by
  obtain rfl : f = 6 := Option.some.inj ((show Tryd.prog.funcNamed "woofer/wooferlaw03.DriverCurves" = some 6 by kernel_rfl).symm.trans hf) |>.symm
  obtain rfl : fn = Tryd.f6 := (Option.some.inj (Tryd.func6.symm.trans hfn)).symm
  refine ⟨by kernel_rfl, fun j t ht => ?_⟩
  rw [Tryd.params6] at ht
  have hall : ∀ t ∈ (#[85, 3, 3] : Array TypeId), Tryd.prog.wantsStandIn t = false := of_decide_eq_true (by kernel_rfl)
  exact hall t (Array.mem_of_getElem? ht)

theorem card : Rows.DriverCurvesCardSaid :=
  Claim7.holds_tied_plain_at .later [] _ _ _ _ said (fun _ h => by cases h) (by kernel_rfl) (fun _ h => by cases h) driverCurves_row_tie rfl ⟨rfl, rfl⟩ (by kernel_rfl) rfl plain (by kernel_rfl)
end Go.Proofs.YtpkldjlljoledaaDoor.driverCurves
