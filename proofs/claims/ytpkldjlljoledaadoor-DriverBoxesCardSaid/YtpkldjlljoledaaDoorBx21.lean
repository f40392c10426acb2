/- Part 21 of the texts of the claim: SideR, SideM, SideAll, BoxAll, BoxRow. -/
import Derived.Test.YtpkldjlljoledaaDoorBx15
import Derived.Test.YtpkldjlljoledaaDoorBx20
import Derived.Test.YtpkldjlljoledaaDoorBx16
import Derived.Test.YtpkldjlljoledaaDoorBx17
import Derived.Test.YtpkldjlljoledaaDoorBx18
import Derived.Test.YtpkldjlljoledaaDoorBx7
import Derived.Test.YtpkldjlljoledaaDoorBx14
import Derived.Test.YtpkldjlljoledaaDoorBx2

/- The walk of the reference's Radiated in a box, from what its sides give. -/
namespace Go.Proofs.YtpkldjlljoledaaDoor
open Go.RowKit
open Calm (bcell Blk)
set_option maxRecDepth 100000 in
set_option maxHeartbeats 16000000 in
theorem refRadiated_abs (re le bl ma st lo air bm bs bo w0 n1 n2 s1 s2 x1 x2 y1 y2 o1 o2 t1 t2 : Int) (w : World)
    (HSd : Hid (∀ W : World, Calls Tryd.prog 89 #[.agg #[(.int .i64 (re)), (.int .i64 (le)), (.int .i64 (bl)), (.int .i64 (ma)), (.int .i64 (st)), (.int .i64 (lo))], .agg #[(.int .i64 (air)), (.int .i64 (bm)), (.int .i64 (bs)), (.int .i64 (bo))], (.int .i64 (w0))] W fun r w' => r = .returned (.agg #[(.int .i64 (n1)), (.int .i64 (n2)), (.int .i64 (s1)), (.int .i64 (s2)), (.int .i64 (x1)), (.int .i64 (x2)), (.int .i64 (y1)), (.int .i64 (y2)), (.int .i64 (o1)), (.int .i64 (o2))]) ∧ Below W.heap.size W w'))
    (HT : Hid (∀ W : World, Calls Tryd.prog 52 #[.agg #[(.int .i64 (-(w0 * w0 * bl))), (.int .i64 (0))], .agg #[(.int .i64 (o1)), (.int .i64 (o2))]] W fun r w' => r = .returned (.agg #[(.int .i64 (t1)), (.int .i64 (t2))]) ∧ Below W.heap.size W w'))
    (c1 : -64 ≤ w0 * w0 ∧ w0 * w0 ≤ 64)
    (c2 : -1280 ≤ w0 * w0 * bl ∧ w0 * w0 * bl ≤ 1280)
    : Calls Tryd.prog 31 #[.agg #[(.int .i64 (re)), (.int .i64 (le)), (.int .i64 (bl)), (.int .i64 (ma)), (.int .i64 (st)), (.int .i64 (lo))], .agg #[(.int .i64 (air)), (.int .i64 (bm)), (.int .i64 (bs)), (.int .i64 (bo))], (.int .i64 (w0))] w fun r w' => r = .returned (.agg #[(.int .i64 (t1)), (.int .i64 (t2)), (.int .i64 (n1)), (.int .i64 (n2))]) ∧ Below w.heap.size w w' := by
  have hB0 := Below.refl w.heap.size w
  go_enter Tryd.func31, Tryd.ntmps31
  go_wp2_with (go_at_call 89; refine (HSd.out _).mono ?_; rintro r w1 ⟨rfl, h1⟩; refine Hid.out ?_)
  unfold Hid
  have hB1 := (((hB0.alloc hB0.size _).alloc (Nat.le_trans hB0.size (by simp; try omega)) _).alloc (Nat.le_trans hB0.size (by simp; try omega)) _).trans (h1.mono (Nat.le_trans hB0.size (by simp; try omega)))
  have KD_1 := Lib.hid (show Blk w1 (w.heap.size) #[(.int .i64 (re)), (.int .i64 (le)), (.int .i64 (bl)), (.int .i64 (ma)), (.int .i64 (st)), (.int .i64 (lo))] from (((Calm.Blk.new _ _ #[(.int .i64 (re)), (.int .i64 (le)), (.int .i64 (bl)), (.int .i64 (ma)), (.int .i64 (st)), (.int .i64 (lo))]).alloc _).alloc _).below h1)
  have KX_1 := Lib.hid (show Blk w1 (w.heap.size + 1) #[(.int .i64 (air)), (.int .i64 (bm)), (.int .i64 (bs)), (.int .i64 (bo))] by have := ((Calm.Blk.new _ _ #[(.int .i64 (air)), (.int .i64 (bm)), (.int .i64 (bs)), (.int .i64 (bo))]).alloc _).below h1; simpa using this)
  have KR_1 := Lib.hid (show Blk w1 (w.heap.size + 1 + 1) #[(.int .i64 (0)), (.int .i64 (0)), (.int .i64 (0)), (.int .i64 (0))] by have := (Calm.Blk.new _ _ #[(.int .i64 (0)), (.int .i64 (0)), (.int .i64 (0)), (.int .i64 (0))]).below h1; simpa using this)
  clear h1 hB0
  go_wp2
  refine name_world ?_
  intro w2 e2
  have hB2 : Below w.heap.size w w2 := e2.symm ▸ (hB1.alloc hB1.size _)
  have oD_2 : w.heap.size < w1.heap.size := KD_1.out.lt
  have oX_2 : w.heap.size + 1 < w1.heap.size := KX_1.out.lt
  have oR_2 : w.heap.size + 1 + 1 < w1.heap.size := KR_1.out.lt
  have KD_2 := Lib.hid (show Blk w2 (w.heap.size) #[(.int .i64 (re)), (.int .i64 (le)), (.int .i64 (bl)), (.int .i64 (ma)), (.int .i64 (st)), (.int .i64 (lo))] from e2.symm ▸ (KD_1.out.alloc _))
  have KX_2 := Lib.hid (show Blk w2 (w.heap.size + 1) #[(.int .i64 (air)), (.int .i64 (bm)), (.int .i64 (bs)), (.int .i64 (bo))] from e2.symm ▸ (KX_1.out.alloc _))
  have KR_2 := Lib.hid (show Blk w2 (w.heap.size + 1 + 1) #[(.int .i64 (0)), (.int .i64 (0)), (.int .i64 (0)), (.int .i64 (0))] from e2.symm ▸ (KR_1.out.alloc _))
  have Ks_2 := Lib.hid (show Blk w2 (w1.heap.size) #[(.int .i64 (n1)), (.int .i64 (n2)), (.int .i64 (s1)), (.int .i64 (s2)), (.int .i64 (x1)), (.int .i64 (x2)), (.int .i64 (y1)), (.int .i64 (y2)), (.int .i64 (o1)), (.int .i64 (o2))] from e2.symm ▸ (Calm.Blk.new _ _ #[(.int .i64 (n1)), (.int .i64 (n2)), (.int .i64 (s1)), (.int .i64 (s2)), (.int .i64 (x1)), (.int .i64 (x2)), (.int .i64 (y1)), (.int .i64 (y2)), (.int .i64 (o1)), (.int .i64 (o2))]))
  have z2 : w1.heap.size + 1 ≤ w2.heap.size := by rw [e2]; simp
  clear e2 hB1 KD_1 KX_1 KR_1
  have fD_0 := KD_2.out.cell 0 (.int .i64 (re)) rfl
  have fD_1 := KD_2.out.cell 1 (.int .i64 (le)) rfl
  have fD_2 := KD_2.out.cell 2 (.int .i64 (bl)) rfl
  have fD_3 := KD_2.out.cell 3 (.int .i64 (ma)) rfl
  have fD_4 := KD_2.out.cell 4 (.int .i64 (st)) rfl
  have fD_5 := KD_2.out.cell 5 (.int .i64 (lo)) rfl
  have fD_l := KD_2.out.lt
  have fs_0 := Ks_2.out.cell 0 (.int .i64 (n1)) rfl
  have fs_1 := Ks_2.out.cell 1 (.int .i64 (n2)) rfl
  have fs_2 := Ks_2.out.cell 2 (.int .i64 (s1)) rfl
  have fs_3 := Ks_2.out.cell 3 (.int .i64 (s2)) rfl
  have fs_4 := Ks_2.out.cell 4 (.int .i64 (x1)) rfl
  have fs_5 := Ks_2.out.cell 5 (.int .i64 (x2)) rfl
  have fs_6 := Ks_2.out.cell 6 (.int .i64 (y1)) rfl
  have fs_7 := Ks_2.out.cell 7 (.int .i64 (y2)) rfl
  have fs_8 := Ks_2.out.cell 8 (.int .i64 (o1)) rfl
  have fs_9 := Ks_2.out.cell 9 (.int .i64 (o2)) rfl
  have fs_l := Ks_2.out.lt
  refine Rel.region3 14 (by kernel_rfl) (by kernel_rfl) (by kernel_rfl) ?_
  simp only [List.take_succ_cons, List.take_zero, List.drop_succ_cons, List.drop_zero, List.filterMap_cons, List.filterMap_nil]
  (apply Rel.op3; (focus (first | exact Rel.gno rfl | exact Rel.gyes _ true _ rfl rfl rfl | exact Rel.gyes _ false _ rfl rfl rfl)); (focus (intro a W hb hd hbase; obtain ⟨hc, hf⟩ := bcell hb; clear hb hf; simp [Rel.deps, Rel.dep1, Rel.ons, Region.binds, Act.eval] at hd; simp only [Act.eval, List.mem_cons, List.not_mem_nil, not_or, and_imp, or_false, Array.getD_eq_getD_getElem?] at hbase; go_simp; (try go_bits); (try rfl); done)); (try simp only [List.nil_append, List.cons_append]))
  (apply Rel.op3; (focus (first | exact Rel.gno rfl | exact Rel.gyes _ true _ rfl rfl rfl | exact Rel.gyes _ false _ rfl rfl rfl)); (focus (intro a W hb hd hbase; obtain ⟨hc, hf⟩ := bcell hb; clear hb hf; simp [Rel.deps, Rel.dep1, Rel.ons, Region.binds, Act.eval] at hd; simp only [Act.eval, List.mem_cons, List.not_mem_nil, not_or, and_imp, or_false, Array.getD_eq_getD_getElem?] at hbase; go_simp; (try go_bits); (try rfl); done)); (try simp only [List.nil_append, List.cons_append]))
  (apply Rel.op3; (focus (first | exact Rel.gno rfl | exact Rel.gyes _ true _ rfl rfl rfl | exact Rel.gyes _ false _ rfl rfl rfl)); (focus (intro a W hb hd hbase; obtain ⟨hc, hf⟩ := bcell hb; clear hb hf; simp [Rel.deps, Rel.dep1, Rel.ons, Region.binds, Act.eval] at hd; simp only [Act.eval, List.mem_cons, List.not_mem_nil, not_or, and_imp, or_false, Array.getD_eq_getD_getElem?] at hbase; go_simp; (try go_bits); (try rfl); done)); (try simp only [List.nil_append, List.cons_append]))
  (apply Rel.op3; (focus (first | exact Rel.gno rfl | exact Rel.gyes _ true _ rfl rfl rfl | exact Rel.gyes _ false _ rfl rfl rfl)); (focus (intro a W hb hd hbase; obtain ⟨hc, hf⟩ := bcell hb; clear hb hf; simp [Rel.deps, Rel.dep1, Rel.ons, Region.binds, Act.eval] at hd; simp only [Act.eval, List.mem_cons, List.not_mem_nil, not_or, and_imp, or_false, Array.getD_eq_getD_getElem?] at hbase; go_simp; (try go_bits); (try rfl); done)); (try simp only [List.nil_append, List.cons_append]))
  (apply Rel.op3; (focus (first | exact Rel.gno rfl | exact Rel.gyes _ true _ rfl rfl rfl | exact Rel.gyes _ false _ rfl rfl rfl)); (focus (intro a W hb hd hbase; obtain ⟨hc, hf⟩ := bcell hb; clear hb hf; simp [Rel.deps, Rel.dep1, Rel.ons, Region.binds, Act.eval] at hd; simp only [Act.eval, List.mem_cons, List.not_mem_nil, not_or, and_imp, or_false, Array.getD_eq_getD_getElem?] at hbase; go_simp; (try go_bits); (try rfl); done)); (try simp only [List.nil_append, List.cons_append]))
  (apply Rel.op3; (focus (first | exact Rel.gno rfl | exact Rel.gyes _ true _ rfl rfl rfl | exact Rel.gyes _ false _ rfl rfl rfl)); (focus (intro a W hb hd hbase; obtain ⟨hc, hf⟩ := bcell hb; clear hb hf; simp [Rel.deps, Rel.dep1, Rel.ons, Region.binds, Act.eval] at hd; simp only [Act.eval, List.mem_cons, List.not_mem_nil, not_or, and_imp, or_false, Array.getD_eq_getD_getElem?] at hbase; go_simp; (try go_bits); (try rfl); done)); (try simp only [List.nil_append, List.cons_append]))
  (apply Rel.op3; (focus (first | exact Rel.gno rfl | exact Rel.gyes _ true _ rfl rfl rfl | exact Rel.gyes _ false _ rfl rfl rfl)); (focus (intro a W hb hd hbase; obtain ⟨hc, hf⟩ := bcell hb; clear hb hf; simp [Rel.deps, Rel.dep1, Rel.ons, Region.binds, Act.eval] at hd; simp only [Act.eval, List.mem_cons, List.not_mem_nil, not_or, and_imp, or_false, Array.getD_eq_getD_getElem?] at hbase; go_simp; (try go_bits); (try rfl); done)); (try simp only [List.nil_append, List.cons_append]))
  (apply Rel.call3; (focus (first | exact Rel.gno rfl | exact Rel.gyes _ true _ rfl rfl rfl | exact Rel.gyes _ false _ rfl rfl rfl)); (focus (intro a W hb hd hbase; obtain ⟨hc, hf⟩ := bcell hb; clear hb hf; simp [Rel.deps, Rel.dep1, Rel.ons, Region.binds, Act.eval] at hd; simp only [Act.eval, List.mem_cons, List.not_mem_nil, not_or, and_imp, or_false, Array.getD_eq_getD_getElem?] at hbase; go_simp; refine ⟨?_, ?_⟩; rfl; rfl)); (focus (intro W hb; go_at_call 90; exact whole_any _ _)); (try simp only [List.nil_append, List.cons_append]))
  (apply Rel.op3; (focus (first | exact Rel.gno rfl | exact Rel.gyes _ true _ rfl rfl rfl | exact Rel.gyes _ false _ rfl rfl rfl)); (focus (intro a W hb hd hbase; obtain ⟨hc, hf⟩ := bcell hb; clear hb hf; simp [Rel.deps, Rel.dep1, Rel.ons, Region.binds, Act.eval] at hd; simp only [Act.eval, List.mem_cons, List.not_mem_nil, not_or, and_imp, or_false, Array.getD_eq_getD_getElem?] at hbase; go_simp; (try go_bits); (try rfl); done)); (try simp only [List.nil_append, List.cons_append]))
  (apply Rel.op3; (focus (first | exact Rel.gno rfl | exact Rel.gyes _ true _ rfl rfl rfl | exact Rel.gyes _ false _ rfl rfl rfl)); (focus (intro a W hb hd hbase; obtain ⟨hc, hf⟩ := bcell hb; clear hb hf; simp [Rel.deps, Rel.dep1, Rel.ons, Region.binds, Act.eval] at hd; simp only [Act.eval, List.mem_cons, List.not_mem_nil, not_or, and_imp, or_false, Array.getD_eq_getD_getElem?] at hbase; go_simp; (try go_bits); (try rfl); done)); (try simp only [List.nil_append, List.cons_append]))
  (apply Rel.call3; (focus (first | exact Rel.gno rfl | exact Rel.gyes _ true _ rfl rfl rfl | exact Rel.gyes _ false _ rfl rfl rfl)); (focus (intro a W hb hd hbase; obtain ⟨hc, hf⟩ := bcell hb; clear hb hf; simp [Rel.deps, Rel.dep1, Rel.ons, Region.binds, Act.eval] at hd; simp only [Act.eval, List.mem_cons, List.not_mem_nil, not_or, and_imp, or_false, Array.getD_eq_getD_getElem?] at hbase; go_simp; refine ⟨?_, ?_⟩; rfl; rfl)); (focus (intro W hb; go_at_call 52; exact HT.out _)); (try simp only [List.nil_append, List.cons_append]))
  (apply Rel.op3; (focus (first | exact Rel.gno rfl | exact Rel.gyes _ true _ rfl rfl rfl | exact Rel.gyes _ false _ rfl rfl rfl)); (focus (intro a W hb hd hbase; obtain ⟨hc, hf⟩ := bcell hb; clear hb hf; simp [Rel.deps, Rel.dep1, Rel.ons, Region.binds, Act.eval] at hd; simp only [Act.eval, List.mem_cons, List.not_mem_nil, not_or, and_imp, or_false, Array.getD_eq_getD_getElem?] at hbase; go_simp; (try go_bits); (try rfl); done)); (try simp only [List.nil_append, List.cons_append]))
  (apply Rel.op3; (focus (first | exact Rel.gno rfl | exact Rel.gyes _ true _ rfl rfl rfl | exact Rel.gyes _ false _ rfl rfl rfl)); (focus (intro a W hb hd hbase; obtain ⟨hc, hf⟩ := bcell hb; clear hb hf; simp [Rel.deps, Rel.dep1, Rel.ons, Region.binds, Act.eval] at hd; simp only [Act.eval, List.mem_cons, List.not_mem_nil, not_or, and_imp, or_false, Array.getD_eq_getD_getElem?] at hbase; go_simp; (try go_bits); (try rfl); done)); (try simp only [List.nil_append, List.cons_append]))
  (apply Rel.op3; (focus (first | exact Rel.gno rfl | exact Rel.gyes _ true _ rfl rfl rfl | exact Rel.gyes _ false _ rfl rfl rfl)); (focus (intro a W hb hd hbase; obtain ⟨hc, hf⟩ := bcell hb; clear hb hf; simp [Rel.deps, Rel.dep1, Rel.ons, Region.binds, Act.eval] at hd; simp only [Act.eval, List.mem_cons, List.not_mem_nil, not_or, and_imp, or_false, Array.getD_eq_getD_getElem?] at hbase; go_simp; (try go_bits); (try rfl); done)); (try simp only [List.nil_append, List.cons_append]))
  refine Rel.done3 ?_
  intro x w3 h3 hx
  simp only [Rel.facts, Nat.zero_add, Nat.reduceAdd] at hx
  obtain ⟨e0, e1, e2, e3, e4, e5, e6, e7, e8, e9, e10, e11, e12, e13, _⟩ := hx
  simp only [Rel.fill, Nat.zero_add, Nat.reduceAdd, e0, e1, e2, e3, e4, e5, e6, e7, e8, e9, e10, e11, e12, e13]
  simp only [Act.put, List.setIfInBounds_toArray, List.set_cons_zero, List.set_cons_succ]
  clear e0 e1 e2 e3 e4 e5 e6 e7 e8 e9 e10 e11 e12 e13
  have hB3 := hB2.trans (h3.mono hB2.size)
  have KD_3 := Lib.hid (show Blk w3 (w.heap.size) #[(.int .i64 (re)), (.int .i64 (le)), (.int .i64 (bl)), (.int .i64 (ma)), (.int .i64 (st)), (.int .i64 (lo))] from KD_2.out.below h3)
  have KX_3 := Lib.hid (show Blk w3 (w.heap.size + 1) #[(.int .i64 (air)), (.int .i64 (bm)), (.int .i64 (bs)), (.int .i64 (bo))] from KX_2.out.below h3)
  have KR_3 := Lib.hid (show Blk w3 (w.heap.size + 1 + 1) #[(.int .i64 (0)), (.int .i64 (0)), (.int .i64 (0)), (.int .i64 (0))] from KR_2.out.below h3)
  have Ks_3 := Lib.hid (show Blk w3 (w1.heap.size) #[(.int .i64 (n1)), (.int .i64 (n2)), (.int .i64 (s1)), (.int .i64 (s2)), (.int .i64 (x1)), (.int .i64 (x2)), (.int .i64 (y1)), (.int .i64 (y2)), (.int .i64 (o1)), (.int .i64 (o2))] from Ks_2.out.below h3)
  clear h3 hB2 KD_2 KX_2 KR_2 Ks_2 fD_0 fD_1 fD_2 fD_3 fD_4 fD_5 fD_l fs_0 fs_1 fs_2 fs_3 fs_4 fs_5 fs_6 fs_7 fs_8 fs_9 fs_l
  have fR_0 := KR_3.out.cell 0 (.int .i64 (0)) rfl
  have fR_1 := KR_3.out.cell 1 (.int .i64 (0)) rfl
  have fR_2 := KR_3.out.cell 2 (.int .i64 (0)) rfl
  have fR_3 := KR_3.out.cell 3 (.int .i64 (0)) rfl
  have fR_l := KR_3.out.lt
  have fR_f := KR_3.out.f
  have fR_l0 : w.heap.size < w3.heap.size := by omega
  have fR_l1 : w.heap.size + 1 < w3.heap.size := by omega
  have fR_l0_1 : w.heap.size < w3.heap.size + 1 := by omega
  have fR_l0_2 : w.heap.size < w3.heap.size + 1 + 1 := by omega
  have fR_l1_1 : w.heap.size + 1 < w3.heap.size + 1 := by omega
  have fR_l1_2 : w.heap.size + 1 < w3.heap.size + 1 + 1 := by omega
  have fR_l2_1 : w.heap.size + 1 + 1 < w3.heap.size + 1 := by omega
  have fR_l2_2 : w.heap.size + 1 + 1 < w3.heap.size + 1 + 1 := by omega
  go_wp2
  refine bodyPost_ret (v := .agg #[(.int .i64 (t1)), (.int .i64 (t2)), (.int .i64 (n1)), (.int .i64 (n2))]) (by simp [results, Tryd.results31, go_sem, *]) rfl ⟨rfl, ?_⟩
  iterate 4 refine Below.setCell ?_ (show w.heap.size ≤ w.heap.size + 1 + 1 by omega) _
  exact hB3
end Go.Proofs.YtpkldjlljoledaaDoor

/- The walk of the reference's Moved in a box, from what its sides give. -/
namespace Go.Proofs.YtpkldjlljoledaaDoor
open Go.RowKit
open Calm (bcell Blk)
set_option maxRecDepth 100000 in
set_option maxHeartbeats 16000000 in
theorem refMoved_abs (re le bl ma st lo air bm bs bo w0 n1 n2 s1 s2 x1 x2 y1 y2 o1 o2 t1 t2 u1 u2 : Int) (w : World)
    (HSd : Hid (∀ W : World, Calls Tryd.prog 89 #[.agg #[(.int .i64 (re)), (.int .i64 (le)), (.int .i64 (bl)), (.int .i64 (ma)), (.int .i64 (st)), (.int .i64 (lo))], .agg #[(.int .i64 (air)), (.int .i64 (bm)), (.int .i64 (bs)), (.int .i64 (bo))], (.int .i64 (w0))] W fun r w' => r = .returned (.agg #[(.int .i64 (n1)), (.int .i64 (n2)), (.int .i64 (s1)), (.int .i64 (s2)), (.int .i64 (x1)), (.int .i64 (x2)), (.int .i64 (y1)), (.int .i64 (y2)), (.int .i64 (o1)), (.int .i64 (o2))]) ∧ Below W.heap.size W w'))
    (HT : Hid (∀ W : World, Calls Tryd.prog 52 #[.agg #[(.int .i64 (bl)), (.int .i64 (0))], .agg #[(.int .i64 (x1)), (.int .i64 (x2))]] W fun r w' => r = .returned (.agg #[(.int .i64 (t1)), (.int .i64 (t2))]) ∧ Below W.heap.size W w'))
    (HT2 : Hid (∀ W : World, Calls Tryd.prog 52 #[.agg #[(.int .i64 (bl)), (.int .i64 (0))], .agg #[(.int .i64 (y1)), (.int .i64 (y2))]] W fun r w' => r = .returned (.agg #[(.int .i64 (u1)), (.int .i64 (u2))]) ∧ Below W.heap.size W w'))
    (hbm : ¬ bm = 0)
    : Calls Tryd.prog 32 #[.agg #[(.int .i64 (re)), (.int .i64 (le)), (.int .i64 (bl)), (.int .i64 (ma)), (.int .i64 (st)), (.int .i64 (lo))], .agg #[(.int .i64 (air)), (.int .i64 (bm)), (.int .i64 (bs)), (.int .i64 (bo))], (.int .i64 (w0))] w fun r w' => r = .returned (.agg #[(.int .i64 (t1)), (.int .i64 (t2)), (.int .i64 (n1)), (.int .i64 (n2)), (.int .i64 (u1)), (.int .i64 (u2)), (.int .i64 (n1)), (.int .i64 (n2))]) ∧ Below w.heap.size w w' := by
  have hB0 := Below.refl w.heap.size w
  go_enter Tryd.func32, Tryd.ntmps32
  go_wp2_with (go_at_call 89; refine (HSd.out _).mono ?_; rintro r w1 ⟨rfl, h1⟩; refine Hid.out ?_)
  unfold Hid
  have hB1 := (((hB0.alloc hB0.size _).alloc (Nat.le_trans hB0.size (by simp; try omega)) _).alloc (Nat.le_trans hB0.size (by simp; try omega)) _).trans (h1.mono (Nat.le_trans hB0.size (by simp; try omega)))
  have KD_1 := Lib.hid (show Blk w1 (w.heap.size) #[(.int .i64 (re)), (.int .i64 (le)), (.int .i64 (bl)), (.int .i64 (ma)), (.int .i64 (st)), (.int .i64 (lo))] from (((Calm.Blk.new _ _ #[(.int .i64 (re)), (.int .i64 (le)), (.int .i64 (bl)), (.int .i64 (ma)), (.int .i64 (st)), (.int .i64 (lo))]).alloc _).alloc _).below h1)
  have KX_1 := Lib.hid (show Blk w1 (w.heap.size + 1) #[(.int .i64 (air)), (.int .i64 (bm)), (.int .i64 (bs)), (.int .i64 (bo))] by have := ((Calm.Blk.new _ _ #[(.int .i64 (air)), (.int .i64 (bm)), (.int .i64 (bs)), (.int .i64 (bo))]).alloc _).below h1; simpa using this)
  have KR_1 := Lib.hid (show Blk w1 (w.heap.size + 1 + 1) #[(.int .i64 (0)), (.int .i64 (0)), (.int .i64 (0)), (.int .i64 (0)), (.int .i64 (0)), (.int .i64 (0)), (.int .i64 (0)), (.int .i64 (0))] by have := (Calm.Blk.new _ _ #[(.int .i64 (0)), (.int .i64 (0)), (.int .i64 (0)), (.int .i64 (0)), (.int .i64 (0)), (.int .i64 (0)), (.int .i64 (0)), (.int .i64 (0))]).below h1; simpa using this)
  clear h1 hB0
  go_wp2
  refine name_world ?_
  intro w2 e2
  have hB2 : Below w.heap.size w w2 := e2.symm ▸ (hB1.alloc hB1.size _)
  have oD_2 : w.heap.size < w1.heap.size := KD_1.out.lt
  have oX_2 : w.heap.size + 1 < w1.heap.size := KX_1.out.lt
  have oR_2 : w.heap.size + 1 + 1 < w1.heap.size := KR_1.out.lt
  have KD_2 := Lib.hid (show Blk w2 (w.heap.size) #[(.int .i64 (re)), (.int .i64 (le)), (.int .i64 (bl)), (.int .i64 (ma)), (.int .i64 (st)), (.int .i64 (lo))] from e2.symm ▸ (KD_1.out.alloc _))
  have KX_2 := Lib.hid (show Blk w2 (w.heap.size + 1) #[(.int .i64 (air)), (.int .i64 (bm)), (.int .i64 (bs)), (.int .i64 (bo))] from e2.symm ▸ (KX_1.out.alloc _))
  have KR_2 := Lib.hid (show Blk w2 (w.heap.size + 1 + 1) #[(.int .i64 (0)), (.int .i64 (0)), (.int .i64 (0)), (.int .i64 (0)), (.int .i64 (0)), (.int .i64 (0)), (.int .i64 (0)), (.int .i64 (0))] from e2.symm ▸ (KR_1.out.alloc _))
  have Ks_2 := Lib.hid (show Blk w2 (w1.heap.size) #[(.int .i64 (n1)), (.int .i64 (n2)), (.int .i64 (s1)), (.int .i64 (s2)), (.int .i64 (x1)), (.int .i64 (x2)), (.int .i64 (y1)), (.int .i64 (y2)), (.int .i64 (o1)), (.int .i64 (o2))] from e2.symm ▸ (Calm.Blk.new _ _ #[(.int .i64 (n1)), (.int .i64 (n2)), (.int .i64 (s1)), (.int .i64 (s2)), (.int .i64 (x1)), (.int .i64 (x2)), (.int .i64 (y1)), (.int .i64 (y2)), (.int .i64 (o1)), (.int .i64 (o2))]))
  have z2 : w1.heap.size + 1 ≤ w2.heap.size := by rw [e2]; simp
  clear e2 hB1 KD_1 KX_1 KR_1
  have fD_0 := KD_2.out.cell 0 (.int .i64 (re)) rfl
  have fD_1 := KD_2.out.cell 1 (.int .i64 (le)) rfl
  have fD_2 := KD_2.out.cell 2 (.int .i64 (bl)) rfl
  have fD_3 := KD_2.out.cell 3 (.int .i64 (ma)) rfl
  have fD_4 := KD_2.out.cell 4 (.int .i64 (st)) rfl
  have fD_5 := KD_2.out.cell 5 (.int .i64 (lo)) rfl
  have fD_l := KD_2.out.lt
  have fs_0 := Ks_2.out.cell 0 (.int .i64 (n1)) rfl
  have fs_1 := Ks_2.out.cell 1 (.int .i64 (n2)) rfl
  have fs_2 := Ks_2.out.cell 2 (.int .i64 (s1)) rfl
  have fs_3 := Ks_2.out.cell 3 (.int .i64 (s2)) rfl
  have fs_4 := Ks_2.out.cell 4 (.int .i64 (x1)) rfl
  have fs_5 := Ks_2.out.cell 5 (.int .i64 (x2)) rfl
  have fs_6 := Ks_2.out.cell 6 (.int .i64 (y1)) rfl
  have fs_7 := Ks_2.out.cell 7 (.int .i64 (y2)) rfl
  have fs_8 := Ks_2.out.cell 8 (.int .i64 (o1)) rfl
  have fs_9 := Ks_2.out.cell 9 (.int .i64 (o2)) rfl
  have fs_l := Ks_2.out.lt
  refine Rel.region3 20 (by kernel_rfl) (by kernel_rfl) (by kernel_rfl) ?_
  simp only [List.take_succ_cons, List.take_zero, List.drop_succ_cons, List.drop_zero, List.filterMap_cons, List.filterMap_nil]
  (apply Rel.op3; (focus (first | exact Rel.gno rfl | exact Rel.gyes _ true _ rfl rfl rfl | exact Rel.gyes _ false _ rfl rfl rfl)); (focus (intro a W hb hd hbase; obtain ⟨hc, hf⟩ := bcell hb; clear hb hf; simp [Rel.deps, Rel.dep1, Rel.ons, Region.binds, Act.eval] at hd; simp only [Act.eval, List.mem_cons, List.not_mem_nil, not_or, and_imp, or_false, Array.getD_eq_getD_getElem?] at hbase; go_simp; (try go_bits); (try rfl); done)); (try simp only [List.nil_append, List.cons_append]))
  (apply Rel.op3; (focus (first | exact Rel.gno rfl | exact Rel.gyes _ true _ rfl rfl rfl | exact Rel.gyes _ false _ rfl rfl rfl)); (focus (intro a W hb hd hbase; obtain ⟨hc, hf⟩ := bcell hb; clear hb hf; simp [Rel.deps, Rel.dep1, Rel.ons, Region.binds, Act.eval] at hd; simp only [Act.eval, List.mem_cons, List.not_mem_nil, not_or, and_imp, or_false, Array.getD_eq_getD_getElem?] at hbase; go_simp; (try go_bits); (try rfl); done)); (try simp only [List.nil_append, List.cons_append]))
  (apply Rel.call3; (focus (first | exact Rel.gno rfl | exact Rel.gyes _ true _ rfl rfl rfl | exact Rel.gyes _ false _ rfl rfl rfl)); (focus (intro a W hb hd hbase; obtain ⟨hc, hf⟩ := bcell hb; clear hb hf; simp [Rel.deps, Rel.dep1, Rel.ons, Region.binds, Act.eval] at hd; simp only [Act.eval, List.mem_cons, List.not_mem_nil, not_or, and_imp, or_false, Array.getD_eq_getD_getElem?] at hbase; go_simp; refine ⟨?_, ?_⟩; rfl; rfl)); (focus (intro W hb; go_at_call 90; exact whole_any _ _)); (try simp only [List.nil_append, List.cons_append]))
  (apply Rel.op3; (focus (first | exact Rel.gno rfl | exact Rel.gyes _ true _ rfl rfl rfl | exact Rel.gyes _ false _ rfl rfl rfl)); (focus (intro a W hb hd hbase; obtain ⟨hc, hf⟩ := bcell hb; clear hb hf; simp [Rel.deps, Rel.dep1, Rel.ons, Region.binds, Act.eval] at hd; simp only [Act.eval, List.mem_cons, List.not_mem_nil, not_or, and_imp, or_false, Array.getD_eq_getD_getElem?] at hbase; go_simp; (try go_bits); (try rfl); done)); (try simp only [List.nil_append, List.cons_append]))
  (apply Rel.op3; (focus (first | exact Rel.gno rfl | exact Rel.gyes _ true _ rfl rfl rfl | exact Rel.gyes _ false _ rfl rfl rfl)); (focus (intro a W hb hd hbase; obtain ⟨hc, hf⟩ := bcell hb; clear hb hf; simp [Rel.deps, Rel.dep1, Rel.ons, Region.binds, Act.eval] at hd; simp only [Act.eval, List.mem_cons, List.not_mem_nil, not_or, and_imp, or_false, Array.getD_eq_getD_getElem?] at hbase; go_simp; (try go_bits); (try rfl); done)); (try simp only [List.nil_append, List.cons_append]))
  (apply Rel.call3; (focus (first | exact Rel.gno rfl | exact Rel.gyes _ true _ rfl rfl rfl | exact Rel.gyes _ false _ rfl rfl rfl)); (focus (intro a W hb hd hbase; obtain ⟨hc, hf⟩ := bcell hb; clear hb hf; simp [Rel.deps, Rel.dep1, Rel.ons, Region.binds, Act.eval] at hd; simp only [Act.eval, List.mem_cons, List.not_mem_nil, not_or, and_imp, or_false, Array.getD_eq_getD_getElem?] at hbase; go_simp; refine ⟨?_, ?_⟩; rfl; rfl)); (focus (intro W hb; go_at_call 52; exact HT.out _)); (try simp only [List.nil_append, List.cons_append]))
  (apply Rel.op3; (focus (first | exact Rel.gno rfl | exact Rel.gyes _ true _ rfl rfl rfl | exact Rel.gyes _ false _ rfl rfl rfl)); (focus (intro a W hb hd hbase; obtain ⟨hc, hf⟩ := bcell hb; clear hb hf; simp [Rel.deps, Rel.dep1, Rel.ons, Region.binds, Act.eval] at hd; simp only [Act.eval, List.mem_cons, List.not_mem_nil, not_or, and_imp, or_false, Array.getD_eq_getD_getElem?] at hbase; go_simp; (try go_bits); (try rfl); done)); (try simp only [List.nil_append, List.cons_append]))
  (apply Rel.op3; (focus (first | exact Rel.gno rfl | exact Rel.gyes _ true _ rfl rfl rfl | exact Rel.gyes _ false _ rfl rfl rfl)); (focus (intro a W hb hd hbase; obtain ⟨hc, hf⟩ := bcell hb; clear hb hf; simp [Rel.deps, Rel.dep1, Rel.ons, Region.binds, Act.eval] at hd; simp only [Act.eval, List.mem_cons, List.not_mem_nil, not_or, and_imp, or_false, Array.getD_eq_getD_getElem?] at hbase; go_simp; (try go_bits); (try rfl); done)); (try simp only [List.nil_append, List.cons_append]))
  (apply Rel.op3; (focus (first | exact Rel.gno rfl | exact Rel.gyes _ true _ rfl rfl rfl | exact Rel.gyes _ false _ rfl rfl rfl)); (focus (intro a W hb hd hbase; obtain ⟨hc, hf⟩ := bcell hb; clear hb hf; simp [Rel.deps, Rel.dep1, Rel.ons, Region.binds, Act.eval] at hd; simp only [Act.eval, List.mem_cons, List.not_mem_nil, not_or, and_imp, or_false, Array.getD_eq_getD_getElem?] at hbase; go_simp; (try go_bits); (try rfl); done)); (try simp only [List.nil_append, List.cons_append]))
  (apply Rel.op3; (focus (first | exact Rel.gno rfl | exact Rel.gyes _ true _ rfl rfl rfl | exact Rel.gyes _ false _ rfl rfl rfl)); (focus (intro a W hb hd hbase; obtain ⟨hc, hf⟩ := bcell hb; clear hb hf; simp [Rel.deps, Rel.dep1, Rel.ons, Region.binds, Act.eval] at hd; simp only [Act.eval, List.mem_cons, List.not_mem_nil, not_or, and_imp, or_false, Array.getD_eq_getD_getElem?] at hbase; go_simp; (try go_bits); (try rfl); done)); (try simp only [List.nil_append, List.cons_append]))
  (apply Rel.op3; (focus (first | exact Rel.gno rfl | exact Rel.gyes _ true _ rfl rfl rfl | exact Rel.gyes _ false _ rfl rfl rfl)); (focus (intro a W hb hd hbase; obtain ⟨hc, hf⟩ := bcell hb; clear hb hf; simp [Rel.deps, Rel.dep1, Rel.ons, Region.binds, Act.eval] at hd; simp only [Act.eval, List.mem_cons, List.not_mem_nil, not_or, and_imp, or_false, Array.getD_eq_getD_getElem?] at hbase; go_simp; (try go_bits); (try rfl); done)); (try simp only [List.nil_append, List.cons_append]))
  (apply Rel.call3; (focus (first | exact Rel.gno rfl | exact Rel.gyes _ true _ rfl rfl rfl | exact Rel.gyes _ false _ rfl rfl rfl)); (focus (intro a W hb hd hbase; obtain ⟨hc, hf⟩ := bcell hb; clear hb hf; simp [Rel.deps, Rel.dep1, Rel.ons, Region.binds, Act.eval] at hd; simp only [Act.eval, List.mem_cons, List.not_mem_nil, not_or, and_imp, or_false, Array.getD_eq_getD_getElem?] at hbase; go_simp; refine ⟨?_, ?_⟩; rfl; rfl)); (focus (intro W hb; go_at_call 90; exact whole_any _ _)); (try simp only [List.nil_append, List.cons_append]))
  (apply Rel.op3; (focus (first | exact Rel.gno rfl | exact Rel.gyes _ true _ rfl rfl rfl | exact Rel.gyes _ false _ rfl rfl rfl)); (focus (intro a W hb hd hbase; obtain ⟨hc, hf⟩ := bcell hb; clear hb hf; simp [Rel.deps, Rel.dep1, Rel.ons, Region.binds, Act.eval] at hd; simp only [Act.eval, List.mem_cons, List.not_mem_nil, not_or, and_imp, or_false, Array.getD_eq_getD_getElem?] at hbase; go_simp; (try go_bits); (try rfl); done)); (try simp only [List.nil_append, List.cons_append]))
  (apply Rel.op3; (focus (first | exact Rel.gno rfl | exact Rel.gyes _ true _ rfl rfl rfl | exact Rel.gyes _ false _ rfl rfl rfl)); (focus (intro a W hb hd hbase; obtain ⟨hc, hf⟩ := bcell hb; clear hb hf; simp [Rel.deps, Rel.dep1, Rel.ons, Region.binds, Act.eval] at hd; simp only [Act.eval, List.mem_cons, List.not_mem_nil, not_or, and_imp, or_false, Array.getD_eq_getD_getElem?] at hbase; go_simp; (try go_bits); (try rfl); done)); (try simp only [List.nil_append, List.cons_append]))
  (apply Rel.call3; (focus (first | exact Rel.gno rfl | exact Rel.gyes _ true _ rfl rfl rfl | exact Rel.gyes _ false _ rfl rfl rfl)); (focus (intro a W hb hd hbase; obtain ⟨hc, hf⟩ := bcell hb; clear hb hf; simp [Rel.deps, Rel.dep1, Rel.ons, Region.binds, Act.eval] at hd; simp only [Act.eval, List.mem_cons, List.not_mem_nil, not_or, and_imp, or_false, Array.getD_eq_getD_getElem?] at hbase; go_simp; refine ⟨?_, ?_⟩; rfl; rfl)); (focus (intro W hb; go_at_call 52; exact HT2.out _)); (try simp only [List.nil_append, List.cons_append]))
  (apply Rel.op3; (focus (first | exact Rel.gno rfl | exact Rel.gyes _ true _ rfl rfl rfl | exact Rel.gyes _ false _ rfl rfl rfl)); (focus (intro a W hb hd hbase; obtain ⟨hc, hf⟩ := bcell hb; clear hb hf; simp [Rel.deps, Rel.dep1, Rel.ons, Region.binds, Act.eval] at hd; simp only [Act.eval, List.mem_cons, List.not_mem_nil, not_or, and_imp, or_false, Array.getD_eq_getD_getElem?] at hbase; go_simp; (try go_bits); (try rfl); done)); (try simp only [List.nil_append, List.cons_append]))
  (apply Rel.op3; (focus (first | exact Rel.gno rfl | exact Rel.gyes _ true _ rfl rfl rfl | exact Rel.gyes _ false _ rfl rfl rfl)); (focus (intro a W hb hd hbase; obtain ⟨hc, hf⟩ := bcell hb; clear hb hf; simp [Rel.deps, Rel.dep1, Rel.ons, Region.binds, Act.eval] at hd; simp only [Act.eval, List.mem_cons, List.not_mem_nil, not_or, and_imp, or_false, Array.getD_eq_getD_getElem?] at hbase; go_simp; (try go_bits); (try rfl); done)); (try simp only [List.nil_append, List.cons_append]))
  (apply Rel.op3; (focus (first | exact Rel.gno rfl | exact Rel.gyes _ true _ rfl rfl rfl | exact Rel.gyes _ false _ rfl rfl rfl)); (focus (intro a W hb hd hbase; obtain ⟨hc, hf⟩ := bcell hb; clear hb hf; simp [Rel.deps, Rel.dep1, Rel.ons, Region.binds, Act.eval] at hd; simp only [Act.eval, List.mem_cons, List.not_mem_nil, not_or, and_imp, or_false, Array.getD_eq_getD_getElem?] at hbase; go_simp; (try go_bits); (try rfl); done)); (try simp only [List.nil_append, List.cons_append]))
  (apply Rel.op3; (focus (first | exact Rel.gno rfl | exact Rel.gyes _ true _ rfl rfl rfl | exact Rel.gyes _ false _ rfl rfl rfl)); (focus (intro a W hb hd hbase; obtain ⟨hc, hf⟩ := bcell hb; clear hb hf; simp [Rel.deps, Rel.dep1, Rel.ons, Region.binds, Act.eval] at hd; simp only [Act.eval, List.mem_cons, List.not_mem_nil, not_or, and_imp, or_false, Array.getD_eq_getD_getElem?] at hbase; go_simp; (try go_bits); (try rfl); done)); (try simp only [List.nil_append, List.cons_append]))
  (apply Rel.alloc3; (focus (exact Rel.gno rfl)); (focus (intro a W; go_simp; (first | done | rfl | (refine ⟨?_, ?_⟩ <;> rfl)))); (try simp only [List.nil_append, List.cons_append]))
  refine Rel.done3 ?_
  intro x w3 h3 hx
  simp only [Rel.facts, Nat.zero_add, Nat.reduceAdd] at hx
  obtain ⟨e0, e1, e2, e3, e4, e5, e6, e7, e8, e9, e10, e11, e12, e13, e14, e15, e16, e17, e18, ⟨gx, e19, gxB, gxk⟩, _⟩ := hx
  simp only [Rel.fill, Nat.zero_add, Nat.reduceAdd, e0, e1, e2, e3, e4, e5, e6, e7, e8, e9, e10, e11, e12, e13, e14, e15, e16, e17, e18, e19]
  simp only [Act.put, List.setIfInBounds_toArray, List.set_cons_zero, List.set_cons_succ]
  clear e0 e1 e2 e3 e4 e5 e6 e7 e8 e9 e10 e11 e12 e13 e14 e15 e16 e17 e18 e19 x
  have oD_3 : w.heap.size < w2.heap.size := KD_2.out.lt
  have oX_3 : w.heap.size + 1 < w2.heap.size := KX_2.out.lt
  have oR_3 : w.heap.size + 1 + 1 < w2.heap.size := KR_2.out.lt
  have os_3 : w1.heap.size < w2.heap.size := Ks_2.out.lt
  have hB3 := hB2.trans (h3.mono hB2.size)
  have KD_3 := Lib.hid (show Blk w3 (w.heap.size) #[(.int .i64 (re)), (.int .i64 (le)), (.int .i64 (bl)), (.int .i64 (ma)), (.int .i64 (st)), (.int .i64 (lo))] from KD_2.out.below h3)
  have KX_3 := Lib.hid (show Blk w3 (w.heap.size + 1) #[(.int .i64 (air)), (.int .i64 (bm)), (.int .i64 (bs)), (.int .i64 (bo))] from KX_2.out.below h3)
  have KR_3 := Lib.hid (show Blk w3 (w.heap.size + 1 + 1) #[(.int .i64 (0)), (.int .i64 (0)), (.int .i64 (0)), (.int .i64 (0)), (.int .i64 (0)), (.int .i64 (0)), (.int .i64 (0)), (.int .i64 (0))] from KR_2.out.below h3)
  have Ks_3 := Lib.hid (show Blk w3 (w1.heap.size) #[(.int .i64 (n1)), (.int .i64 (n2)), (.int .i64 (s1)), (.int .i64 (s2)), (.int .i64 (x1)), (.int .i64 (x2)), (.int .i64 (y1)), (.int .i64 (y2)), (.int .i64 (o1)), (.int .i64 (o2))] from Ks_2.out.below h3)
  clear h3 hB2 KD_2 KX_2 KR_2 Ks_2 fD_0 fD_1 fD_2 fD_3 fD_4 fD_5 fD_l fs_0 fs_1 fs_2 fs_3 fs_4 fs_5 fs_6 fs_7 fs_8 fs_9 fs_l
  have Kx_3 := Lib.hid gxk
  have ogx := gxB
  clear gxk gxB
  have fx_0 := Kx_3.out.cell 0 (.int .i64 (0)) rfl
  have fx_1 := Kx_3.out.cell 1 (.int .i64 (0)) rfl
  have fx_2 := Kx_3.out.cell 2 (.int .i64 (0)) rfl
  have fx_3 := Kx_3.out.cell 3 (.int .i64 (0)) rfl
  have fx_4 := Kx_3.out.cell 4 (.int .i64 (0)) rfl
  have fx_5 := Kx_3.out.cell 5 (.int .i64 (0)) rfl
  have fx_6 := Kx_3.out.cell 6 (.int .i64 (0)) rfl
  have fx_7 := Kx_3.out.cell 7 (.int .i64 (0)) rfl
  have fx_l := Kx_3.out.lt
  have fx_f := Kx_3.out.f
  have fx_l0_1 : gx < w3.heap.size + 1 := by omega
  have fx_l0_2 : gx < w3.heap.size + 1 + 1 := by omega
  have fX_0 := KX_3.out.cell 0 (.int .i64 (air)) rfl
  have fX_1 := KX_3.out.cell 1 (.int .i64 (bm)) rfl
  have fX_2 := KX_3.out.cell 2 (.int .i64 (bs)) rfl
  have fX_3 := KX_3.out.cell 3 (.int .i64 (bo)) rfl
  have fX_l := KX_3.out.lt
  have fX_f := KX_3.out.f
  have fX_l0 : w.heap.size < w3.heap.size := by omega
  have fX_l0_1 : w.heap.size < w3.heap.size + 1 := by omega
  have fX_l0_2 : w.heap.size < w3.heap.size + 1 + 1 := by omega
  have fX_l1_1 : w.heap.size + 1 < w3.heap.size + 1 := by omega
  have fX_l1_2 : w.heap.size + 1 < w3.heap.size + 1 + 1 := by omega
  have fR_0 := KR_3.out.cell 0 (.int .i64 (0)) rfl
  have fR_1 := KR_3.out.cell 1 (.int .i64 (0)) rfl
  have fR_2 := KR_3.out.cell 2 (.int .i64 (0)) rfl
  have fR_3 := KR_3.out.cell 3 (.int .i64 (0)) rfl
  have fR_4 := KR_3.out.cell 4 (.int .i64 (0)) rfl
  have fR_5 := KR_3.out.cell 5 (.int .i64 (0)) rfl
  have fR_6 := KR_3.out.cell 6 (.int .i64 (0)) rfl
  have fR_7 := KR_3.out.cell 7 (.int .i64 (0)) rfl
  have fR_l := KR_3.out.lt
  have fR_f := KR_3.out.f
  have fR_l0 : w.heap.size < w3.heap.size := by omega
  have fR_l1 : w.heap.size + 1 < w3.heap.size := by omega
  have fR_l0_1 : w.heap.size < w3.heap.size + 1 := by omega
  have fR_l0_2 : w.heap.size < w3.heap.size + 1 + 1 := by omega
  have fR_l1_1 : w.heap.size + 1 < w3.heap.size + 1 := by omega
  have fR_l1_2 : w.heap.size + 1 < w3.heap.size + 1 + 1 := by omega
  have fR_l2_1 : w.heap.size + 1 + 1 < w3.heap.size + 1 := by omega
  have fR_l2_2 : w.heap.size + 1 + 1 < w3.heap.size + 1 + 1 := by omega
  have nXx0 : ¬ gx = w.heap.size + 1 := by omega
  have mXx0 : ¬ w.heap.size + 1 = gx := by omega
  have nRx0 : ¬ gx = w.heap.size + 1 + 1 := by omega
  have mRx0 : ¬ w.heap.size + 1 + 1 = gx := by omega
  go_wp2
  refine bodyPost_ret (v := .agg #[(.int .i64 (t1)), (.int .i64 (t2)), (.int .i64 (n1)), (.int .i64 (n2)), (.int .i64 (u1)), (.int .i64 (u2)), (.int .i64 (n1)), (.int .i64 (n2))]) (by simp [results, Tryd.results32, go_sem, *]) rfl ⟨rfl, ?_⟩
  iterate 16 refine Below.setCell ?_ (by first | (show w.heap.size ≤ gx; omega) | (show w.heap.size ≤ w.heap.size + 1 + 1; omega)) _
  exact hB3
end Go.Proofs.YtpkldjlljoledaaDoor

/- The reference's sides, impedance, output and movements in a box with a port: in the program's numbers. -/
namespace Go.Proofs.YtpkldjlljoledaaDoor
open Go.RowKit
open Calm (bcell Blk)

set_option maxRecDepth 100000 in
set_option maxHeartbeats 4000000 in
theorem refBoxed_abs (re le bl ma st lo air bm bst blo w0 n1 n2 s1 s2 x1 x2 y1 y2 o1 o2 : Int) (w : World)
    (HSd : Hid (∀ W : World, Calls Tryd.prog 89 #[.agg #[(.int .i64 (re)), (.int .i64 (le)), (.int .i64 (bl)), (.int .i64 (ma)), (.int .i64 (st)), (.int .i64 (lo))], .agg #[(.int .i64 (air)), (.int .i64 (bm)), (.int .i64 (bst)), (.int .i64 (blo))], (.int .i64 (w0))] W fun r w' => r = .returned (.agg #[(.int .i64 (n1)), (.int .i64 (n2)), (.int .i64 (s1)), (.int .i64 (s2)), (.int .i64 (x1)), (.int .i64 (x2)), (.int .i64 (y1)), (.int .i64 (y2)), (.int .i64 (o1)), (.int .i64 (o2))]) ∧ Below W.heap.size W w')) :
    Calls Tryd.prog 30 #[.agg #[(.int .i64 (re)), (.int .i64 (le)), (.int .i64 (bl)), (.int .i64 (ma)), (.int .i64 (st)), (.int .i64 (lo))], .agg #[(.int .i64 (air)), (.int .i64 (bm)), (.int .i64 (bst)), (.int .i64 (blo))], (.int .i64 (w0))] w fun r w' => r = .returned (.agg #[(.int .i64 (n1)), (.int .i64 (n2)), (.int .i64 (s1)), (.int .i64 (s2))]) ∧ Below w.heap.size w w' := by
  go_enter Tryd.func30, Tryd.ntmps30
  go_wp2_with (first | (go_at_call 89; refine (HSd.out _).mono ?_; rintro r w1 ⟨rfl, hb⟩; obtain ⟨hc, hf⟩ := bcell hb; have hz := hb.size; (try simp at hz); (try have hz0 : w.heap.size < w1.heap.size := by omega); (try have hz1 : w.heap.size + 1 < w1.heap.size := by omega); (try have hz2 : w.heap.size + 1 + 1 < w1.heap.size := by omega); (try have hz3 : w.heap.size + 1 + 1 + 1 < w1.heap.size := by omega); (try have hz4 : w.heap.size + 1 + 1 + 1 + 1 < w1.heap.size := by omega); (try have hz5 : w.heap.size + 1 + 1 + 1 + 1 + 1 < w1.heap.size := by omega); (try have hz6 : w.heap.size + 1 + 1 + 1 + 1 + 1 + 1 < w1.heap.size := by omega)))
  refine bodyPost_ret (v := .agg #[(.int .i64 (n1)), (.int .i64 (n2)), (.int .i64 (s1)), (.int .i64 (s2))]) (by simp [results, Tryd.results30, go_sem, *]) rfl ⟨rfl, ?_⟩
  repeat (first | (with_reducible exact Below.refl _ _) | ((with_reducible refine Below.setCell ?_ ?_ _); rotate_left 1; focus (first | (simp; done) | (simp; omega) | (simp at *; omega))) | ((with_reducible refine Below.alloc ?_ ?_ _); rotate_left 1; focus (first | (simp; done) | (simp; omega) | (simp at *; omega))) | (with_reducible refine Below.drew ?_) | ((with_reducible refine Calm.step (by assumption) ?_ ?_); rotate_left 1; focus (first | (simp; done) | (simp; omega) | (simp at *; omega))))

theorem Bd.wk {A B a : Int} (h : Bd A a) (hab : A ≤ B) : Bd B a := ⟨by have := h.1; omega, by have := h.2; omega⟩

theorem sides_port (re le bl ma st lo air bm bs bo w0 : Int) (w : World) (hF : Fit re le bl ma st lo w0) (hB : FitB air bm bs bo) :
    Calls Tryd.prog 89 #[.agg #[(.int .i64 (re)), (.int .i64 (le)), (.int .i64 (bl)), (.int .i64 (ma)), (.int .i64 (st)), (.int .i64 (lo))], .agg #[(.int .i64 (air)), (.int .i64 (bm)), (.int .i64 (bs)), (.int .i64 (bo))], (.int .i64 (w0))] w fun r w' => r = .returned (.agg #[(.int .i64 (wRe re le bl ma st lo air bm bs bo w0)), (.int .i64 (wIm re le bl ma st lo air bm bs bo w0)), (.int .i64 (lRe ma st lo air bm bs bo w0)), (.int .i64 (lIm ma st lo air bm bs bo w0)), (.int .i64 (aRe air bm bs w0)), (.int .i64 (aIm bo w0)), (.int .i64 (air)), (.int .i64 (0)), (.int .i64 (mRe bs bm w0)), (.int .i64 (mIm bo w0))]) ∧ Below w.heap.size w w' := by
  obtain ⟨p1, p2, p3, p4, p5, p6, p7, p8, p9, p10⟩ := box_bds hF hB
  obtain ⟨m1, m2⟩ := hF.mech
  have g1 := hF.re
  have g2 := hF.le
  have g3 := hF.bl
  have g4 := hF.ma
  have g5 := hF.st
  have g6 := hF.lo
  have g7 := hF.w
  have b1 := hB.air
  have b2 := hB.ma
  have b3 := hB.st
  have b4 := hB.lo
  have q : Bd 8 w0 := ⟨by omega, by omega⟩
  have q2 : Bd 10 le := ⟨by omega, by omega⟩
  have q3 : Bd 20 bl := ⟨by omega, by omega⟩
  have v1 : Bd 80 (w0 * le) := q.mul q2 (by omega)
  have v2 : Bd 160 (w0 * bl) := q.mul q3 (by omega)
  have v3 : Bd 3200 (w0 * bl * bl) := (q.mul q3 (by omega)).mul q3 (by omega)
  have r0 : Bd 80 re := ⟨by omega, by omega⟩
  have z0 : Bd 3200 0 := ⟨by omega, by omega⟩
  have u1 := tRe_bd r0 v1 p9 p10 (by omega)
  have u2 := tIm_bd r0 v1 p9 p10 (by omega)
  have u3 := tRe_bd z0 v3 p3 p4 (by omega)
  have u4 := tIm_bd z0 v3 p3 p4 (by omega)
  exact sides_walk re le bl ma st lo air bm bs bo w0 _ _ _ _ _ _ _ _ _ _ _ _ _ _ _ _ _ _ w
    (Lib.hid fun W => refMech_any bs bm bo w0 W ⟨by omega, by omega⟩ ⟨by omega, by omega⟩ ⟨by omega, by omega⟩ q)
    (Lib.hid fun W => whole_any air W)
    (Lib.hid fun W => qPlus_any air 0 (mRe bs bm w0) (mIm bo w0) W ⟨by omega, by omega⟩ ⟨by omega, by omega⟩ (p1.wk (by omega)) (p2.wk (by omega)))
    (Lib.hid fun W => refMechanics_any re le bl ma st lo w0 W ⟨by omega, by omega⟩ ⟨by omega, by omega⟩ ⟨by omega, by omega⟩ q)
    (Lib.hid fun W => qTimes_any (mRe st ma w0) (mIm lo w0) (aRe air bm bs w0) (aIm bo w0) W (m1.wk (by omega)) (m2.wk (by omega)) (p3.wk (by omega)) (p4.wk (by omega)))
    (Lib.hid fun W => qTimes_any air 0 (mRe bs bm w0) (mIm bo w0) W ⟨by omega, by omega⟩ ⟨by omega, by omega⟩ (p1.wk (by omega)) (p2.wk (by omega)))
    (Lib.hid fun W => qPlus_any _ _ _ _ W (p5.wk (by omega)) (p6.wk (by omega)) (p7.wk (by omega)) (p8.wk (by omega)))
    (Lib.hid fun W => qTimes_any re (w0 * le) (lRe ma st lo air bm bs bo w0) (lIm ma st lo air bm bs bo w0) W ⟨by omega, by omega⟩ (v1.wk (by omega)) (p9.wk (by omega)) (p10.wk (by omega)))
    (Lib.hid fun W => qTimes_any 0 (w0 * bl * bl) (aRe air bm bs w0) (aIm bo w0) W ⟨by omega, by omega⟩ (v3.wk (by omega)) (p3.wk (by omega)) (p4.wk (by omega)))
    (Lib.hid fun W => qPlus_any _ _ _ _ W (u1.wk (by omega)) (u2.wk (by omega)) (u3.wk (by omega)) (u4.wk (by omega)))
    (by omega) v1 v2 v3

theorem refBoxed_port (re le bl ma st lo air bm bs bo w0 : Int) (w : World) (hF : Fit re le bl ma st lo w0) (hB : FitB air bm bs bo) :
    Calls Tryd.prog 30 #[.agg #[(.int .i64 (re)), (.int .i64 (le)), (.int .i64 (bl)), (.int .i64 (ma)), (.int .i64 (st)), (.int .i64 (lo))], .agg #[(.int .i64 (air)), (.int .i64 (bm)), (.int .i64 (bs)), (.int .i64 (bo))], (.int .i64 (w0))] w fun r w' => r = .returned (.agg #[(.int .i64 (wRe re le bl ma st lo air bm bs bo w0)), (.int .i64 (wIm re le bl ma st lo air bm bs bo w0)), (.int .i64 (lRe ma st lo air bm bs bo w0)), (.int .i64 (lIm ma st lo air bm bs bo w0))]) ∧ Below w.heap.size w w' :=
  refBoxed_abs re le bl ma st lo air bm bs bo w0 _ _ _ _ _ _ _ _ _ _ w (Lib.hid fun W => sides_port re le bl ma st lo air bm bs bo w0 W hF hB)

theorem rad_num (a p q : Int) : tRe (-(a)) 0 p q = -a * p ∧ tIm (-(a)) 0 p q = -a * q := by
  unfold tRe tIm
  constructor <;> simp
theorem mov_num (a p q : Int) : tRe a 0 p q = a * p ∧ tIm a 0 p q = a * q := by
  unfold tRe tIm
  constructor <;> simp

theorem refRadiated_port (re le bl ma st lo air bm bs bo w0 : Int) (w : World) (hF : Fit re le bl ma st lo w0) (hB : FitB air bm bs bo) :
    Calls Tryd.prog 31 #[.agg #[(.int .i64 (re)), (.int .i64 (le)), (.int .i64 (bl)), (.int .i64 (ma)), (.int .i64 (st)), (.int .i64 (lo))], .agg #[(.int .i64 (air)), (.int .i64 (bm)), (.int .i64 (bs)), (.int .i64 (bo))], (.int .i64 (w0))] w fun r w' => r = .returned (.agg #[(.int .i64 (-w0 * w0 * bl * mRe bs bm w0)), (.int .i64 (-w0 * w0 * bl * mIm bo w0)), (.int .i64 (wRe re le bl ma st lo air bm bs bo w0)), (.int .i64 (wIm re le bl ma st lo air bm bs bo w0))]) ∧ Below w.heap.size w w' := by
  obtain ⟨p1, p2, _⟩ := box_bds hF hB
  have g3 := hF.bl
  have g7 := hF.w
  have q : Bd 8 w0 := ⟨by omega, by omega⟩
  have q3 : Bd 20 bl := ⟨by omega, by omega⟩
  have v2 : Bd 64 (w0 * w0) := q.mul q (by omega)
  have v3 : Bd 1280 (w0 * w0 * bl) := (q.mul q (by omega)).mul q3 (by omega)
  have e : -w0 * w0 * bl = -(w0 * w0 * bl) := by rw [Int.neg_mul, Int.neg_mul]
  rw [e]
  refine refRadiated_abs re le bl ma st lo air bm bs bo w0 _ _ _ _ _ _ _ _ _ _ _ _ w (Lib.hid fun W => sides_port re le bl ma st lo air bm bs bo w0 W hF hB) (Lib.hid fun W => ?_) v2 v3
  have := qTimes_any (-(w0 * w0 * bl)) 0 (mRe bs bm w0) (mIm bo w0) W ⟨by have := v3.2; omega, by have := v3.1; omega⟩ ⟨by omega, by omega⟩ (p1.wk (by omega)) (p2.wk (by omega))
  rwa [(rad_num _ _ _).1, (rad_num _ _ _).2] at this

theorem refMoved_port (re le bl ma st lo air bm bs bo w0 : Int) (w : World) (hF : Fit re le bl ma st lo w0) (hB : FitB air bm bs bo) :
    Calls Tryd.prog 32 #[.agg #[(.int .i64 (re)), (.int .i64 (le)), (.int .i64 (bl)), (.int .i64 (ma)), (.int .i64 (st)), (.int .i64 (lo))], .agg #[(.int .i64 (air)), (.int .i64 (bm)), (.int .i64 (bs)), (.int .i64 (bo))], (.int .i64 (w0))] w fun r w' => r = .returned (.agg #[(.int .i64 (bl * aRe air bm bs w0)), (.int .i64 (bl * aIm bo w0)), (.int .i64 (wRe re le bl ma st lo air bm bs bo w0)), (.int .i64 (wIm re le bl ma st lo air bm bs bo w0)), (.int .i64 (bl * air)), (.int .i64 (0)), (.int .i64 (wRe re le bl ma st lo air bm bs bo w0)), (.int .i64 (wIm re le bl ma st lo air bm bs bo w0))]) ∧ Below w.heap.size w w' := by
  obtain ⟨_, _, p3, p4, _⟩ := box_bds hF hB
  have g3 := hF.bl
  have b1 := hB.air
  have b2 := hB.ma
  refine refMoved_abs re le bl ma st lo air bm bs bo w0 _ _ _ _ _ _ _ _ _ _ _ _ _ _ w (Lib.hid fun W => sides_port re le bl ma st lo air bm bs bo w0 W hF hB) (Lib.hid fun W => ?_) (Lib.hid fun W => ?_) (by omega)
  · have := qTimes_any bl 0 (aRe air bm bs w0) (aIm bo w0) W ⟨by omega, by omega⟩ ⟨by omega, by omega⟩ (p3.wk (by omega)) (p4.wk (by omega))
    rwa [(mov_num _ _ _).1, (mov_num _ _ _).2] at this
  · have := qTimes_any bl 0 air 0 W ⟨by omega, by omega⟩ ⟨by omega, by omega⟩ ⟨by omega, by omega⟩ ⟨by omega, by omega⟩
    rwa [(mov_num _ _ _).1, (mov_num _ _ _).2, Int.mul_zero] at this
end Go.Proofs.YtpkldjlljoledaaDoor

/- DriverBoxes answers yes, whatever its arguments. -/
namespace Go.Proofs.YtpkldjlljoledaaDoor
open Go.RowKit
open Calm (bcell Blk)

theorem tun_bad {air bm bs bo : Int} (h : ¬ boxErr air bm bs bo = 0) : tunErr air bm bs bo = boxErr air bm bs bo := by
  unfold tunErr firstOf
  simp [h]
/-- what Tuning gives of a box without an error: the program and the reference alike. -/
theorem tuning_same (air bm bs bo : Int) (h : boxErr air bm bs bo = 0) : ∃ t1 t2 e : Int, (e = 0 ∨ (t1 = 0 ∧ t2 = 0)) ∧
    (∀ W : World, Calls Tryd.prog 28 #[.agg #[(.int .i64 (air)), (.int .i64 (bm)), (.int .i64 (bs)), (.int .i64 (bo))]] W fun r w' => r = .returned (.tuple #[.agg #[(.int .i64 (t1)), (.int .i64 (t2))], (.int .i64 (e))]) ∧ Below W.heap.size W w') ∧
    (∀ W : World, Calls Tryd.prog 33 #[.agg #[(.int .i64 (air)), (.int .i64 (bm)), (.int .i64 (bs)), (.int .i64 (bo))]] W fun r w' => r = .returned (.tuple #[.agg #[(.int .i64 (t1)), (.int .i64 (t2))], (.int .i64 (e))]) ∧ Below W.heap.size W w') := by
  by_cases hm : bm = 0
  · subst hm
    refine ⟨0, 0, 7, .inr ⟨rfl, rfl⟩, fun W => ?_, fun W => refTuning_none air bs bo W⟩
    have := tuning_bad0 air bs bo W
    rwa [show tunErr air 0 bs bo = 7 by unfold tunErr firstOf; simp [h]] at this
  · exact ⟨_, _, 0, .inl rfl, fun W => tuning_ok air bm bs bo W hm h, fun W => refTuning_ok air bm bs bo W hm h⟩

theorem DriverBoxes_any (d1 d2 d3 d4 d5 d6 x1 x2 x3 x4 q0 : Int) (w : World) (hL : Lim w) :
    Calls Tryd.prog 4 #[.agg #[(.int .i64 (d1)), (.int .i64 (d2)), (.int .i64 (d3)), (.int .i64 (d4)), (.int .i64 (d5)), (.int .i64 (d6))], .agg #[(.int .i64 (x1)), (.int .i64 (x2)), (.int .i64 (x3)), (.int .i64 (x4))], (.int .i64 (q0))] w fun r w' => r = .returned (.bool true) ∧ Below w.heap.size w w' := by
  have HCD := fun W : World => refCheckDriver_any d1 d2 d3 d4 d5 d6 W
  have HCB := fun W : World => refCheckBox_any x1 x2 x3 x4 W
  have HPB := fun W : World => checkBox_any x1 x2 x3 x4 W
  have HW := fun W : World => refCheckW_any q0 W
  have HF : ∀ W : World, Calls Tryd.prog 16 #[.slice (some ⟨W.heap.size, 0, none⟩) 3 3] (W.alloc (.cells #[(.int .i64 (drvErr d1 d2 d3 d4 d5 d6)), (.int .i64 (boxErr x1 x2 x3 x4)), (.int .i64 (rangeErr q0 1 8))] 3)) fun r w' => r = .returned (.int .i64 (drvbErr d1 d2 d3 d4 d5 d6 x1 x2 x3 x4 q0)) ∧ W.alloc (.cells #[(.int .i64 (drvErr d1 d2 d3 d4 d5 d6)), (.int .i64 (boxErr x1 x2 x3 x4)), (.int .i64 (rangeErr q0 1 8))] 3) = w' := fun W => qFirst3_any _ _ _ W
  by_cases h : drvbErr d1 d2 d3 d4 d5 d6 x1 x2 x3 x4 q0 = 0
  · have hx := (drvb_zero h).2.1
    obtain ⟨t1, t2, e4, ht, HT1, HT2⟩ := tuning_same x1 x2 x3 x4 hx
    rw [h] at HF
    simp only [hx] at HCB HPB HF
    obtain ⟨hF, hFs, ha⟩ := drvb_fit h
    by_cases hm : x2 = 0
    · subst hm
      obtain ⟨rfl, rfl⟩ := drvb_shut h
      have hst : 0 ≤ d5 ∧ d5 ≤ 10000 := by have := hF.st; omega
      have hai : 0 ≤ x1 ∧ x1 ≤ 10000 := by omega
      have HR : ∀ W : World, Calls Tryd.prog 31 #[.agg #[(.int .i64 (d1)), (.int .i64 (d2)), (.int .i64 (d3)), (.int .i64 (d4)), (.int .i64 (d5)), (.int .i64 (d6))], .agg #[(.int .i64 (x1)), (.int .i64 (0)), (.int .i64 (0)), (.int .i64 (0))], (.int .i64 (q0))] W fun r w' => r = .returned (.agg #[(.int .i64 (oRe d3 q0)), (.int .i64 (0)), (.int .i64 (nRe d1 d2 d3 d4 (d5 + x1) d6 q0)), (.int .i64 (nIm d1 d2 d3 d4 (d5 + x1) d6 q0))]) ∧ Below W.heap.size W w' := fun W => by
        have := refRadiated_shut d1 d2 d3 d4 d5 d6 x1 0 0 q0 W hFs hst hai
        rwa [oRe_of, oIm_of] at this
      have HM : ∀ W : World, Calls Tryd.prog 32 #[.agg #[(.int .i64 (d1)), (.int .i64 (d2)), (.int .i64 (d3)), (.int .i64 (d4)), (.int .i64 (d5)), (.int .i64 (d6))], .agg #[(.int .i64 (x1)), (.int .i64 (0)), (.int .i64 (0)), (.int .i64 (0))], (.int .i64 (q0))] W fun r w' => r = .returned (.agg #[(.int .i64 (d3)), (.int .i64 (0)), (.int .i64 (nRe d1 d2 d3 d4 (d5 + x1) d6 q0)), (.int .i64 (nIm d1 d2 d3 d4 (d5 + x1) d6 q0)), (.int .i64 (0)), (.int .i64 (0)), (.int .i64 (1)), (.int .i64 (0))]) ∧ Below W.heap.size W w' := fun W => by
        have := refMoved_shut d1 d2 d3 d4 d5 d6 x1 0 0 q0 W hFs hst hai
        rwa [tRe_one, tIm_one] at this
      exact box_00 d1 d2 d3 d4 d5 d6 x1 0 0 0 q0 _ _ _ _ _ _ _ _ _ _ _ _ _ _ _ _ _ _ t1 t2 e4 w hL
        (Lib.hid fun W hW => Boxed_shut d1 d2 d3 d4 d5 d6 x1 q0 W hW h) (Lib.hid fun W hW => Radiated_shut d1 d2 d3 d4 d5 d6 x1 q0 W hW h) (Lib.hid fun W hW => Moved_shut d1 d2 d3 d4 d5 d6 x1 q0 W hW h) (Lib.hid HT1)
        (Lib.hid HCD) (Lib.hid HCB) (Lib.hid HPB) (Lib.hid HW) (Lib.hid HF) (Lib.hid fun W => refBoxed_shut d1 d2 d3 d4 d5 d6 x1 0 0 q0 W hFs hst hai) (Lib.hid HR) (Lib.hid HM) (Lib.hid HT2)
        (Lib.hid fun W => quotient_ok _ _ _ _ W) (Lib.hid fun W => quotient_ok _ _ _ _ W) (Lib.hid fun W => quotient_ok _ _ _ _ W) (Lib.hid fun W => quotient_ok _ _ _ _ W) (Lib.hid fun W => ratio_same t1 t2 e4 ht W)
    · have hB := drvb_fitB h hm
      exact box_00 d1 d2 d3 d4 d5 d6 x1 x2 x3 x4 q0 _ _ _ _ _ _ _ _ _ _ _ _ _ _ _ _ _ _ t1 t2 e4 w hL
        (Lib.hid fun W hW => Boxed_port d1 d2 d3 d4 d5 d6 x1 x2 x3 x4 q0 W hW h hm) (Lib.hid fun W hW => Radiated_port d1 d2 d3 d4 d5 d6 x1 x2 x3 x4 q0 W hW h hm) (Lib.hid fun W hW => Moved_port d1 d2 d3 d4 d5 d6 x1 x2 x3 x4 q0 W hW h hm) (Lib.hid HT1)
        (Lib.hid HCD) (Lib.hid HCB) (Lib.hid HPB) (Lib.hid HW) (Lib.hid HF) (Lib.hid fun W => refBoxed_port d1 d2 d3 d4 d5 d6 x1 x2 x3 x4 q0 W hF hB) (Lib.hid fun W => refRadiated_port d1 d2 d3 d4 d5 d6 x1 x2 x3 x4 q0 W hF hB) (Lib.hid fun W => refMoved_port d1 d2 d3 d4 d5 d6 x1 x2 x3 x4 q0 W hF hB) (Lib.hid HT2)
        (Lib.hid fun W => quotient_ok _ _ _ _ W) (Lib.hid fun W => quotient_ok _ _ _ _ W) (Lib.hid fun W => quotient_ok _ _ _ _ W) (Lib.hid fun W => quotient_ok _ _ _ _ W) (Lib.hid fun W => ratio_same t1 t2 e4 ht W)
  · have HBx := fun (W : World) (hW : Lim W) => Boxed_bad d1 d2 d3 d4 d5 d6 x1 x2 x3 x4 q0 W hW h
    have HRd := fun (W : World) (hW : Lim W) => Radiated_bad d1 d2 d3 d4 d5 d6 x1 x2 x3 x4 q0 W hW h
    have HMv := fun (W : World) (hW : Lim W) => Moved_bad d1 d2 d3 d4 d5 d6 x1 x2 x3 x4 q0 W hW h
    by_cases hx : boxErr x1 x2 x3 x4 = 0
    · obtain ⟨t1, t2, e4, ht, HT1, HT2⟩ := tuning_same x1 x2 x3 x4 hx
      simp only [hx] at HCB HPB HF
      exact box_10 d1 d2 d3 d4 d5 d6 x1 x2 x3 x4 q0 _ _ _ t1 t2 e4 w hL (Lib.hid HBx) (Lib.hid HRd) (Lib.hid HMv) (Lib.hid HT1) (Lib.hid HCD) (Lib.hid HCB) (Lib.hid HPB) (Lib.hid HW) (Lib.hid HF) (Lib.hid HT2)
        (Lib.hid fun W => quotient_bad _ W h) (Lib.hid fun W => quotient_bad _ W h) (Lib.hid fun W => quotient_bad _ W h) (Lib.hid fun W => quotient_bad _ W h) (Lib.hid fun W => ratio_same t1 t2 e4 ht W) h
    · have HT : ∀ W : World, Calls Tryd.prog 28 #[.agg #[(.int .i64 (x1)), (.int .i64 (x2)), (.int .i64 (x3)), (.int .i64 (x4))]] W fun r w' => r = .returned (.tuple #[.agg #[(.int .i64 (0)), (.int .i64 (0))], (.int .i64 (boxErr x1 x2 x3 x4))]) ∧ Below W.heap.size W w' := fun W => by
        by_cases hm : x2 = 0
        · subst hm
          have := tuning_bad0 x1 x3 x4 W
          rwa [tun_bad hx] at this
        · have := tuning_bad x1 x2 x3 x4 W hm hx
          rwa [tun_bad hx] at this
      exact box_11 d1 d2 d3 d4 d5 d6 x1 x2 x3 x4 q0 _ _ _ _ w hL (Lib.hid HBx) (Lib.hid HRd) (Lib.hid HMv) (Lib.hid HT) (Lib.hid HCD) (Lib.hid HCB) (Lib.hid HPB) (Lib.hid HW) (Lib.hid HF)
        (Lib.hid fun W => quotient_bad _ W h) (Lib.hid fun W => quotient_bad _ W h) (Lib.hid fun W => quotient_bad _ W h) (Lib.hid fun W => quotient_bad _ W h) (Lib.hid fun W => ratio_bad _ W hx) h hx
end Go.Proofs.YtpkldjlljoledaaDoor

/- DriverBoxes: the row and its card. -/
namespace Go.Proofs.YtpkldjlljoledaaDoor.driverBoxes
open Go.ChangeShapes Go.WideShapes Go.ChangeAt Go.RowKit Go.Flat
open Calm (bcell)

set_option maxRecDepth 100000 in
theorem contract (H : Type) (enc : TypeId × Value → H) (W : World) (base : Nat) (args : Array Value) (ds gs : List (DataW H)) (before : List MemPlace)
    (hval : ∀ (j : Nat) t v, Tryd.f4.params[j]? = some t → args[j]? = some v → Value.okWide Tryd.prog W .any base t v)
    (hW : DataW.Whole enc Tryd.prog Tryd.f4.params.toList Rows.driverBoxesSpec.vars false W args.toList ds gs before) (hL : laidMetH Tryd.prog laidList W) :
    Calls Tryd.prog 4 args W fun e W' => ∃ v, e = .returned v ∧ Rows.driverBoxesSpec.post enc Tryd.prog Tryd.f4 false true false false W args v W' := by
  have hW' := hW
  have hlt : ∀ p ∈ before, p.block < W.heap.size := fun p hp => hW.lt p hp
  obtain ⟨p, q, hA0, hV, rfl, hfz, hnd⟩ := hW
  have hA : DataW.TrodAll enc Tryd.prog W 0 (fun _ => true) true Tryd.f4.params.toList args.toList ds p := hA0
  rw [Tryd.params4] at hA hval
  obtain ⟨v0, v1, v2, d0, d1, d2, p0, p1, p2, rfl, rfl, rfl, h0, h1, h2⟩ := trodAll_three hA
  obtain ⟨rfl, rfl⟩ := trodVars_none hV
  obtain ⟨z0, hz0, rfl, rfl⟩ := open_ints 3 Tryd.underlying23 (by kernel_rfl) (hval 0 _ _ rfl rfl) h0
  rw [show Tryd.prog.cellsOf 23 = 6 by kernel_rfl] at hz0
  obtain ⟨z1, hz1, rfl, rfl⟩ := open_ints 3 Tryd.underlying46 (by kernel_rfl) (hval 1 _ _ rfl rfl) h1
  rw [show Tryd.prog.cellsOf 46 = 4 by kernel_rfl] at hz1
  obtain ⟨q, rfl, rfl, rfl, _⟩ := open_int Tryd.underlying3 (hval 2 _ _ rfl rfl) h2
  match z0, hz0 with
  | [d1, d2, d3, d4, d5, d6], _ =>
  match z1, hz1 with
  | [x1, x2, x3, x4], _ =>
  refine (DriverBoxes_any d1 d2 d3 d4 d5 d6 x1 x2 x3 x4 q W (lim_of_laid hL)).mono fun e W' ⟨he, hb⟩ => ?_
  subst he
  refine ⟨_, rfl, post_of_below (pa := [] ++ [] ++ []) (pv := []) hW' (fun _ _ _ => trodAll_cons_mk (shut_bool Tryd.underlying4 _) trodAll_mk0) (fun sp hs => ?_) (fun _ _ => rfl) rfl hb (ok_one (by kernel_rfl) rfl (okWide_bool_mk Tryd.underlying4 _))⟩
  exact trodAll_below laidOut hb (by rw [Tryd.params4]; exact of_decide_eq_true (by kernel_rfl)) hA0 (fun x hx => hlt x (List.mem_append_left _ hx)) (fun x hx => hs x (List.mem_append_left _ hx))

/-- the witness: nothing but zeros. -/
noncomputable def wit : Array Value := #[.agg #[(.int .i64 (0)), (.int .i64 (0)), (.int .i64 (0)), (.int .i64 (0)), (.int .i64 (0)), (.int .i64 (0))], .agg #[(.int .i64 (0)), (.int .i64 (0)), (.int .i64 (0)), (.int .i64 (0))], (.int .i64 (0))]
theorem reads (os : Os) {H : Type} (enc : TypeId × Value → H) : ∃ ds places, DataW.whole enc Tryd.prog ((World.doorLaid Tryd.prog 35 os).forCall (fun _ _ => 0) ⟨#[], wit, []⟩).memory Tryd.f4.params.toList Rows.driverBoxesSpec.vars false wit.toList 8 = some (ds, [], places) :=
  ⟨[.agg (List.replicate 6 (.lit (.int .i64 0))), .agg (List.replicate 4 (.lit (.int .i64 0))), .lit (.int .i64 0)], [], by kernel_rfl⟩

set_option maxRecDepth 100000 in
theorem lifted (os : Os) (started : os.Started) (H : Type) (enc : TypeId × Value → H) (F : Stop.Interp) :
    ReturnsInHanded {} Tryd.checked os 4 .any ((OpenSpec.ofChange Rows.driverBoxesSpec).preRow enc Tryd.prog Tryd.f4 Rows.driverBoxesRow.domain false Rows.driverBoxesRow.laid) (((OpenSpec.ofChange Rows.driverBoxesSpec).at F).post enc Tryd.prog Tryd.f4 false true false false) := by
  obtain ⟨ds, places, hx⟩ := reads os enc
  refine returnsInHanded_of_row (C := Tryd.checked) (s := OpenSpec.ofChange Rows.driverBoxesSpec) own started (by kernel_rfl) Tryd.func4
    (witness_row_at (enc := enc) (C := Tryd.checked) false (World.doorLaid Tryd.prog 35 os) wit rfl (door_vars os _) (door_rest os _) (by kernel_rfl)
      (OpenSpec.preRow_of_cond 8 hx (by kernel_rfl) (fun k hk => by cases hk) (by kernel_rfl) (laid_met os _))) ?_
  intro W base args ds gs before hval hW _ _ _ hL _ _
  exact contract H enc W base args ds gs before hval hW hL

theorem said : Rows.DriverBoxesSaid :=
  OpenClaim.holds_of_cond 4 Tryd.f4 rfl rfl rfl rfl rfl rfl rfl ⟨rfl, rfl, rfl, rfl, rfl⟩ rfl rfl rfl rfl rfl (by kernel_rfl) Tryd.func4 (by kernel_rfl)
    (of_decide_eq_true (by kernel_rfl)) (by unfold Func.isWrapper; first | (rw [if_pos (by decide +kernel)]; kernel_rfl) | (rw [if_neg (by decide +kernel)]; exact ⟨rfl, rfl⟩))
    (fun os started H enc _ F => by rw [OpenClaim.pre_eq_preRow]; exact lifted os started H enc F)

theorem plain (f : FuncId) (fn : Func) (hf : Tryd.pinned.checked.prog.funcNamed "woofer/wooferlaw03.DriverBoxes" = some f) (hfn : Tryd.pinned.checked.prog.funcs[f]? = some fn) :
    false = Tryd.pinned.checked.prog.looks [] ∧ ∀ (j : Nat) t, fn.params[j]? = some t → Tryd.pinned.checked.prog.wantsStandIn t = false := by
  obtain rfl : f = 4 := Option.some.inj ((show Tryd.prog.funcNamed "woofer/wooferlaw03.DriverBoxes" = some 4 by kernel_rfl).symm.trans hf) |>.symm
  obtain rfl : fn = Tryd.f4 := (Option.some.inj (Tryd.func4.symm.trans hfn)).symm
  refine ⟨by kernel_rfl, fun j t ht => ?_⟩
  rw [Tryd.params4] at ht
  have hall : ∀ t ∈ (#[23, 46, 3] : Array TypeId), Tryd.prog.wantsStandIn t = false := of_decide_eq_true (by kernel_rfl)
  exact hall t (Array.mem_of_getElem? ht)

theorem card : Rows.DriverBoxesCardSaid :=
  Claim7.holds_tied_plain_at .later [] _ _ _ _ said (fun _ h => by cases h) (by kernel_rfl) (fun _ h => by cases h) driverBoxes_row_tie rfl ⟨rfl, rfl⟩ (by kernel_rfl) rfl plain (by kernel_rfl)
end Go.Proofs.YtpkldjlljoledaaDoor.driverBoxes
