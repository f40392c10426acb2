/- Part 20 of the texts of the claim: Side, Alloc3. -/
import Derived.Test.YtpkldjlljoledaaDoorBx19
import Derived.Test.YtpkldjlljoledaaDoorBx15
import Derived.Test.YtpkldjlljoledaaDoorBx12

/- The walk of the reference's sides, with a port. -/
namespace Go.Proofs.YtpkldjlljoledaaDoor
open Go.RowKit
open Calm (bcell Blk)
set_option maxRecDepth 100000 in
set_option maxHeartbeats 16000000 in
theorem sides_walk (re le bl ma st lo air bm bs bo w0 pr pi xr xi mr mi ar ai br bi sr si ur ui vr vi nr ni : Int) (w : World)
    (HP : Hid (∀ W : World, Calls Tryd.prog 78 #[(.int .i64 (bs)), (.int .i64 (bm)), (.int .i64 (bo)), (.int .i64 (w0))] W fun r w' => r = .returned (.agg #[(.int .i64 (pr)), (.int .i64 (pi))]) ∧ Below W.heap.size W w'))
    (HWh : Hid (∀ W : World, Calls Tryd.prog 90 #[(.int .i64 (air))] W fun r w' => r = .returned (.agg #[(.int .i64 (air)), (.int .i64 (0))]) ∧ Below W.heap.size W w'))
    (HX : Hid (∀ W : World, Calls Tryd.prog 113 #[.agg #[(.int .i64 (air)), (.int .i64 (0))], .agg #[(.int .i64 (pr)), (.int .i64 (pi))]] W fun r w' => r = .returned (.agg #[(.int .i64 (xr)), (.int .i64 (xi))]) ∧ Below W.heap.size W w'))
    (HM : Hid (∀ W : World, Calls Tryd.prog 19 #[.agg #[(.int .i64 (re)), (.int .i64 (le)), (.int .i64 (bl)), (.int .i64 (ma)), (.int .i64 (st)), (.int .i64 (lo))], (.int .i64 (w0))] W fun r w' => r = .returned (.agg #[(.int .i64 (mr)), (.int .i64 (mi))]) ∧ Below W.heap.size W w'))
    (HA : Hid (∀ W : World, Calls Tryd.prog 52 #[.agg #[(.int .i64 (mr)), (.int .i64 (mi))], .agg #[(.int .i64 (xr)), (.int .i64 (xi))]] W fun r w' => r = .returned (.agg #[(.int .i64 (ar)), (.int .i64 (ai))]) ∧ Below W.heap.size W w'))
    (HB : Hid (∀ W : World, Calls Tryd.prog 52 #[.agg #[(.int .i64 (air)), (.int .i64 (0))], .agg #[(.int .i64 (pr)), (.int .i64 (pi))]] W fun r w' => r = .returned (.agg #[(.int .i64 (br)), (.int .i64 (bi))]) ∧ Below W.heap.size W w'))
    (HS : Hid (∀ W : World, Calls Tryd.prog 113 #[.agg #[(.int .i64 (ar)), (.int .i64 (ai))], .agg #[(.int .i64 (br)), (.int .i64 (bi))]] W fun r w' => r = .returned (.agg #[(.int .i64 (sr)), (.int .i64 (si))]) ∧ Below W.heap.size W w'))
    (HU : Hid (∀ W : World, Calls Tryd.prog 52 #[.agg #[(.int .i64 (re)), (.int .i64 (w0 * le))], .agg #[(.int .i64 (sr)), (.int .i64 (si))]] W fun r w' => r = .returned (.agg #[(.int .i64 (ur)), (.int .i64 (ui))]) ∧ Below W.heap.size W w'))
    (HV : Hid (∀ W : World, Calls Tryd.prog 52 #[.agg #[(.int .i64 (0)), (.int .i64 (w0 * bl * bl))], .agg #[(.int .i64 (xr)), (.int .i64 (xi))]] W fun r w' => r = .returned (.agg #[(.int .i64 (vr)), (.int .i64 (vi))]) ∧ Below W.heap.size W w'))
    (HN : Hid (∀ W : World, Calls Tryd.prog 113 #[.agg #[(.int .i64 (ur)), (.int .i64 (ui))], .agg #[(.int .i64 (vr)), (.int .i64 (vi))]] W fun r w' => r = .returned (.agg #[(.int .i64 (nr)), (.int .i64 (ni))]) ∧ Below W.heap.size W w'))
    (hbm : ¬ bm = 0)
    (b1 : -80 ≤ w0 * le ∧ w0 * le ≤ 80)
    (b2 : -160 ≤ w0 * bl ∧ w0 * bl ≤ 160)
    (b3 : -3200 ≤ w0 * bl * bl ∧ w0 * bl * bl ≤ 3200)
    : Calls Tryd.prog 89 #[.agg #[(.int .i64 (re)), (.int .i64 (le)), (.int .i64 (bl)), (.int .i64 (ma)), (.int .i64 (st)), (.int .i64 (lo))], .agg #[(.int .i64 (air)), (.int .i64 (bm)), (.int .i64 (bs)), (.int .i64 (bo))], (.int .i64 (w0))] w fun r w' => r = .returned (.agg #[(.int .i64 (nr)), (.int .i64 (ni)), (.int .i64 (sr)), (.int .i64 (si)), (.int .i64 (xr)), (.int .i64 (xi)), (.int .i64 (air)), (.int .i64 (0)), (.int .i64 (pr)), (.int .i64 (pi))]) ∧ Below w.heap.size w w' := by
  have hB0 := Below.refl w.heap.size w
  go_enter Tryd.func89, Tryd.ntmps89
  go_wp2_with (go_at_call 78; refine (HP.out _).mono ?_; rintro r w1 ⟨rfl, h1⟩; refine Hid.out ?_)
  unfold Hid
  have hB1 := ((((((hB0.alloc hB0.size _).alloc (Nat.le_trans hB0.size (by simp; try omega)) _).alloc (Nat.le_trans hB0.size (by simp; try omega)) _).alloc (Nat.le_trans hB0.size (by simp; try omega)) _).alloc (Nat.le_trans hB0.size (by simp; try omega)) _).alloc (Nat.le_trans hB0.size (by simp; try omega)) _).trans (h1.mono (Nat.le_trans hB0.size (by simp; try omega)))
  have KD_1 := Lib.hid (show Blk w1 (w.heap.size) #[(.int .i64 (re)), (.int .i64 (le)), (.int .i64 (bl)), (.int .i64 (ma)), (.int .i64 (st)), (.int .i64 (lo))] from ((((((Calm.Blk.new _ _ #[(.int .i64 (re)), (.int .i64 (le)), (.int .i64 (bl)), (.int .i64 (ma)), (.int .i64 (st)), (.int .i64 (lo))]).alloc _).alloc _).alloc _).alloc _).alloc _).below h1)
  have KX_1 := Lib.hid (show Blk w1 (w.heap.size + 1) #[(.int .i64 (air)), (.int .i64 (bm)), (.int .i64 (bs)), (.int .i64 (bo))] by have := (((((Calm.Blk.new _ _ #[(.int .i64 (air)), (.int .i64 (bm)), (.int .i64 (bs)), (.int .i64 (bo))]).alloc _).alloc _).alloc _).alloc _).below h1; simpa using this)
  have KR_1 := Lib.hid (show Blk w1 (w.heap.size + 1 + 1) #[(.int .i64 (0)), (.int .i64 (0)), (.int .i64 (0)), (.int .i64 (0)), (.int .i64 (0)), (.int .i64 (0)), (.int .i64 (0)), (.int .i64 (0)), (.int .i64 (0)), (.int .i64 (0))] by have := ((((Calm.Blk.new _ _ #[(.int .i64 (0)), (.int .i64 (0)), (.int .i64 (0)), (.int .i64 (0)), (.int .i64 (0)), (.int .i64 (0)), (.int .i64 (0)), (.int .i64 (0)), (.int .i64 (0)), (.int .i64 (0))]).alloc _).alloc _).alloc _).below h1; simpa using this)
  have KE_1 := Lib.hid (show Blk w1 (w.heap.size + 1 + 1 + 1) #[(.int .i64 (re)), (.int .i64 (w0 * le))] by have := (((Calm.Blk.new _ _ #[(.int .i64 (re)), (.int .i64 (w0 * le))]).alloc _).alloc _).below h1; simpa using this)
  have KF_1 := Lib.hid (show Blk w1 (w.heap.size + 1 + 1 + 1 + 1) #[(.int .i64 (0)), (.int .i64 (w0 * bl * bl))] by have := ((Calm.Blk.new _ _ #[(.int .i64 (0)), (.int .i64 (w0 * bl * bl))]).alloc _).below h1; simpa using this)
  have KS_1 := Lib.hid (show Blk w1 (w.heap.size + 1 + 1 + 1 + 1 + 1) #[(.int .i64 (0)), (.int .i64 (0)), (.int .i64 (0)), (.int .i64 (0)), (.int .i64 (0)), (.int .i64 (0)), (.int .i64 (0)), (.int .i64 (0)), (.int .i64 (0)), (.int .i64 (0))] by have := (Calm.Blk.new _ _ #[(.int .i64 (0)), (.int .i64 (0)), (.int .i64 (0)), (.int .i64 (0)), (.int .i64 (0)), (.int .i64 (0)), (.int .i64 (0)), (.int .i64 (0)), (.int .i64 (0)), (.int .i64 (0))]).below h1; simpa using this)
  clear h1 hB0
  have fX_0 := KX_1.out.cell 0 (.int .i64 (air)) rfl
  have fX_1 := KX_1.out.cell 1 (.int .i64 (bm)) rfl
  have fX_2 := KX_1.out.cell 2 (.int .i64 (bs)) rfl
  have fX_3 := KX_1.out.cell 3 (.int .i64 (bo)) rfl
  have fX_l := KX_1.out.lt
  have fX_f := KX_1.out.f
  have fX_l0 : w.heap.size < w1.heap.size := by omega
  have fX_l0_1 : w.heap.size < w1.heap.size + 1 := by omega
  have fX_l0_2 : w.heap.size < w1.heap.size + 1 + 1 := by omega
  have fX_l1_1 : w.heap.size + 1 < w1.heap.size + 1 := by omega
  have fX_l1_2 : w.heap.size + 1 < w1.heap.size + 1 + 1 := by omega
  go_wp2
  refine name_world ?_
  intro w2 e2
  have hB2 : Below w.heap.size w w2 := e2.symm ▸ (hB1.alloc hB1.size _)
  have oD_2 : w.heap.size < w1.heap.size := KD_1.out.lt
  have oX_2 : w.heap.size + 1 < w1.heap.size := KX_1.out.lt
  have oR_2 : w.heap.size + 1 + 1 < w1.heap.size := KR_1.out.lt
  have oE_2 : w.heap.size + 1 + 1 + 1 < w1.heap.size := KE_1.out.lt
  have oF_2 : w.heap.size + 1 + 1 + 1 + 1 < w1.heap.size := KF_1.out.lt
  have oS_2 : w.heap.size + 1 + 1 + 1 + 1 + 1 < w1.heap.size := KS_1.out.lt
  have KD_2 := Lib.hid (show Blk w2 (w.heap.size) #[(.int .i64 (re)), (.int .i64 (le)), (.int .i64 (bl)), (.int .i64 (ma)), (.int .i64 (st)), (.int .i64 (lo))] from e2.symm ▸ (KD_1.out.alloc _))
  have KX_2 := Lib.hid (show Blk w2 (w.heap.size + 1) #[(.int .i64 (air)), (.int .i64 (bm)), (.int .i64 (bs)), (.int .i64 (bo))] from e2.symm ▸ (KX_1.out.alloc _))
  have KR_2 := Lib.hid (show Blk w2 (w.heap.size + 1 + 1) #[(.int .i64 (0)), (.int .i64 (0)), (.int .i64 (0)), (.int .i64 (0)), (.int .i64 (0)), (.int .i64 (0)), (.int .i64 (0)), (.int .i64 (0)), (.int .i64 (0)), (.int .i64 (0))] from e2.symm ▸ (KR_1.out.alloc _))
  have KE_2 := Lib.hid (show Blk w2 (w.heap.size + 1 + 1 + 1) #[(.int .i64 (re)), (.int .i64 (w0 * le))] from e2.symm ▸ (KE_1.out.alloc _))
  have KF_2 := Lib.hid (show Blk w2 (w.heap.size + 1 + 1 + 1 + 1) #[(.int .i64 (0)), (.int .i64 (w0 * bl * bl))] from e2.symm ▸ (KF_1.out.alloc _))
  have KS_2 := Lib.hid (show Blk w2 (w.heap.size + 1 + 1 + 1 + 1 + 1) #[(.int .i64 (0)), (.int .i64 (0)), (.int .i64 (0)), (.int .i64 (0)), (.int .i64 (0)), (.int .i64 (0)), (.int .i64 (0)), (.int .i64 (0)), (.int .i64 (0)), (.int .i64 (0))] from e2.symm ▸ (KS_1.out.alloc _))
  have Kp_2 := Lib.hid (show Blk w2 (w1.heap.size) #[(.int .i64 (pr)), (.int .i64 (pi))] from e2.symm ▸ (Calm.Blk.new _ _ #[(.int .i64 (pr)), (.int .i64 (pi))]))
  have z2 : w1.heap.size + 1 ≤ w2.heap.size := by rw [e2]; simp
  clear e2 hB1 KD_1 KX_1 KR_1 KE_1 KF_1 KS_1 fX_0 fX_1 fX_2 fX_3 fX_l fX_f fX_l0 fX_l0_1 fX_l0_2 fX_l1_1 fX_l1_2
  have fX_0 := KX_2.out.cell 0 (.int .i64 (air)) rfl
  have fX_1 := KX_2.out.cell 1 (.int .i64 (bm)) rfl
  have fX_2 := KX_2.out.cell 2 (.int .i64 (bs)) rfl
  have fX_3 := KX_2.out.cell 3 (.int .i64 (bo)) rfl
  have fX_l := KX_2.out.lt
  have fp_0 := Kp_2.out.cell 0 (.int .i64 (pr)) rfl
  have fp_1 := Kp_2.out.cell 1 (.int .i64 (pi)) rfl
  have fp_l := Kp_2.out.lt
  refine Rel.region2 6 (by kernel_rfl) (by kernel_rfl) (by kernel_rfl) (by kernel_rfl) ?_
  simp only [List.take_succ_cons, List.take_zero, List.drop_succ_cons, List.drop_zero, List.filterMap_cons, List.filterMap_nil]
  repeat (first | (apply Rel.op; (focus rfl); (focus (intro a W hb hd hbase; obtain ⟨hc, hf⟩ := bcell hb; clear hb hf; simp [Rel.deps, Rel.dep1, Act.eval] at hd; simp only [Act.eval, List.mem_cons, List.not_mem_nil, not_or, and_imp, or_false, Array.getD_eq_getD_getElem?] at hbase; go_simp; (try go_bits); (try rfl); done)); (try simp only [List.nil_append, List.cons_append])) | (apply Rel.alloc; (focus rfl); (focus (intro a W; go_simp; refine ⟨?_, ?_⟩; rfl; rfl)); (try simp only [List.nil_append, List.cons_append])) | (apply Rel.alloc; (focus rfl); (focus (intro a W; go_simp; rfl)); (try simp only [List.nil_append, List.cons_append])) | (apply Rel.call_eq; (focus rfl); (focus (intro a W hb hd hbase; obtain ⟨hc, hf⟩ := bcell hb; clear hb hf; simp [Rel.deps, Rel.dep1, Act.eval] at hd; simp only [Act.eval, List.mem_cons, List.not_mem_nil, not_or, and_imp, or_false, Array.getD_eq_getD_getElem?] at hbase; go_simp; refine ⟨?_, ?_⟩; rfl; rfl)); (focus (intro W hb; first | (go_at_call 90; exact (HWh.out _)) | (go_at_call 113; exact (HX.out _)))); (try simp only [List.nil_append, List.cons_append])))
  refine Rel.done ?_
  intro x w3 h3 hx
  simp only [Rel.facts, Nat.zero_add, Nat.reduceAdd] at hx
  obtain ⟨e0, e1, e2, e3, e4, ⟨gx, e5, gxB, gxk⟩, _⟩ := hx
  simp only [Rel.fill, Nat.zero_add, Nat.reduceAdd, e0, e1, e2, e3, e4, e5]
  simp only [Act.put, List.setIfInBounds_toArray, List.set_cons_zero, List.set_cons_succ]
  clear e0 e1 e2 e3 e4 e5
  clear x
  obtain ⟨h3c, h3f⟩ := bcell h3
  have h3z := h3.size
  (try simp at h3z)
  (try have h3z0 : w.heap.size < w3.heap.size := by omega)
  (try have h3z1 : w.heap.size + 1 < w3.heap.size := by omega)
  (try have h3z2 : w.heap.size + 1 + 1 < w3.heap.size := by omega)
  (try have h3z3 : w.heap.size + 1 + 1 + 1 < w3.heap.size := by omega)
  (try have h3z4 : w.heap.size + 1 + 1 + 1 + 1 < w3.heap.size := by omega)
  (try have h3z5 : w.heap.size + 1 + 1 + 1 + 1 + 1 < w3.heap.size := by omega)
  have oD_3 : w.heap.size < w2.heap.size := KD_2.out.lt
  have oX_3 : w.heap.size + 1 < w2.heap.size := KX_2.out.lt
  have oR_3 : w.heap.size + 1 + 1 < w2.heap.size := KR_2.out.lt
  have oE_3 : w.heap.size + 1 + 1 + 1 < w2.heap.size := KE_2.out.lt
  have oF_3 : w.heap.size + 1 + 1 + 1 + 1 < w2.heap.size := KF_2.out.lt
  have oS_3 : w.heap.size + 1 + 1 + 1 + 1 + 1 < w2.heap.size := KS_2.out.lt
  have op_3 : w1.heap.size < w2.heap.size := Kp_2.out.lt
  have hB3 := hB2.trans (h3.mono hB2.size)
  have KD_3 := Lib.hid (show Blk w3 (w.heap.size) #[(.int .i64 (re)), (.int .i64 (le)), (.int .i64 (bl)), (.int .i64 (ma)), (.int .i64 (st)), (.int .i64 (lo))] from KD_2.out.below h3)
  have KX_3 := Lib.hid (show Blk w3 (w.heap.size + 1) #[(.int .i64 (air)), (.int .i64 (bm)), (.int .i64 (bs)), (.int .i64 (bo))] from KX_2.out.below h3)
  have KR_3 := Lib.hid (show Blk w3 (w.heap.size + 1 + 1) #[(.int .i64 (0)), (.int .i64 (0)), (.int .i64 (0)), (.int .i64 (0)), (.int .i64 (0)), (.int .i64 (0)), (.int .i64 (0)), (.int .i64 (0)), (.int .i64 (0)), (.int .i64 (0))] from KR_2.out.below h3)
  have KE_3 := Lib.hid (show Blk w3 (w.heap.size + 1 + 1 + 1) #[(.int .i64 (re)), (.int .i64 (w0 * le))] from KE_2.out.below h3)
  have KF_3 := Lib.hid (show Blk w3 (w.heap.size + 1 + 1 + 1 + 1) #[(.int .i64 (0)), (.int .i64 (w0 * bl * bl))] from KF_2.out.below h3)
  have KS_3 := Lib.hid (show Blk w3 (w.heap.size + 1 + 1 + 1 + 1 + 1) #[(.int .i64 (0)), (.int .i64 (0)), (.int .i64 (0)), (.int .i64 (0)), (.int .i64 (0)), (.int .i64 (0)), (.int .i64 (0)), (.int .i64 (0)), (.int .i64 (0)), (.int .i64 (0))] from KS_2.out.below h3)
  have Kp_3 := Lib.hid (show Blk w3 (w1.heap.size) #[(.int .i64 (pr)), (.int .i64 (pi))] from Kp_2.out.below h3)
  clear h3 hB2 KD_2 KX_2 KR_2 KE_2 KF_2 KS_2 Kp_2 fX_0 fX_1 fX_2 fX_3 fX_l fp_0 fp_1 fp_l
  have Kx_3 := Lib.hid gxk
  have ogx := gxB
  clear gxk gxB
  have fx_0 := Kx_3.out.cell 0 (.int .i64 (0)) rfl
  have fx_1 := Kx_3.out.cell 1 (.int .i64 (0)) rfl
  have fx_l := Kx_3.out.lt
  have fx_f := Kx_3.out.f
  have fx_l0_1 : gx < w3.heap.size + 1 := by omega
  have fx_l0_2 : gx < w3.heap.size + 1 + 1 := by omega
  go_wp2
  refine name_world ?_
  intro w4 e4
  have hB4 : Below w.heap.size w w4 := e4.symm ▸ (st2_below hB3 (by omega) (.int .i64 (xr)) (.int .i64 (xi)))
  have KD_4 := Lib.hid (show Blk w4 (w.heap.size) #[(.int .i64 (re)), (.int .i64 (le)), (.int .i64 (bl)), (.int .i64 (ma)), (.int .i64 (st)), (.int .i64 (lo))] from e4.symm ▸ (st2_far KD_3.out (by omega) (.int .i64 (xr)) (.int .i64 (xi))))
  have KX_4 := Lib.hid (show Blk w4 (w.heap.size + 1) #[(.int .i64 (air)), (.int .i64 (bm)), (.int .i64 (bs)), (.int .i64 (bo))] from e4.symm ▸ (st2_far KX_3.out (by omega) (.int .i64 (xr)) (.int .i64 (xi))))
  have KR_4 := Lib.hid (show Blk w4 (w.heap.size + 1 + 1) #[(.int .i64 (0)), (.int .i64 (0)), (.int .i64 (0)), (.int .i64 (0)), (.int .i64 (0)), (.int .i64 (0)), (.int .i64 (0)), (.int .i64 (0)), (.int .i64 (0)), (.int .i64 (0))] from e4.symm ▸ (st2_far KR_3.out (by omega) (.int .i64 (xr)) (.int .i64 (xi))))
  have KE_4 := Lib.hid (show Blk w4 (w.heap.size + 1 + 1 + 1) #[(.int .i64 (re)), (.int .i64 (w0 * le))] from e4.symm ▸ (st2_far KE_3.out (by omega) (.int .i64 (xr)) (.int .i64 (xi))))
  have KF_4 := Lib.hid (show Blk w4 (w.heap.size + 1 + 1 + 1 + 1) #[(.int .i64 (0)), (.int .i64 (w0 * bl * bl))] from e4.symm ▸ (st2_far KF_3.out (by omega) (.int .i64 (xr)) (.int .i64 (xi))))
  have KS_4 := Lib.hid (show Blk w4 (w.heap.size + 1 + 1 + 1 + 1 + 1) #[(.int .i64 (0)), (.int .i64 (0)), (.int .i64 (0)), (.int .i64 (0)), (.int .i64 (0)), (.int .i64 (0)), (.int .i64 (0)), (.int .i64 (0)), (.int .i64 (0)), (.int .i64 (0))] from e4.symm ▸ (st2_far KS_3.out (by omega) (.int .i64 (xr)) (.int .i64 (xi))))
  have Kp_4 := Lib.hid (show Blk w4 (w1.heap.size) #[(.int .i64 (pr)), (.int .i64 (pi))] from e4.symm ▸ (st2_far Kp_3.out (by omega) (.int .i64 (xr)) (.int .i64 (xi))))
  have Kx_4 := Lib.hid (show Blk w4 (gx) #[(.int .i64 (xr)), (.int .i64 (xi))] from e4.symm ▸ (st2_blk Kx_3.out (.int .i64 (xr)) (.int .i64 (xi))))
  clear e4 hB3 KD_3 KX_3 KR_3 KE_3 KF_3 KS_3 Kp_3 Kx_3 fx_0 fx_1 fx_l fx_f fx_l0_1 fx_l0_2
  have fD_0 := KD_4.out.cell 0 (.int .i64 (re)) rfl
  have fD_1 := KD_4.out.cell 1 (.int .i64 (le)) rfl
  have fD_2 := KD_4.out.cell 2 (.int .i64 (bl)) rfl
  have fD_3 := KD_4.out.cell 3 (.int .i64 (ma)) rfl
  have fD_4 := KD_4.out.cell 4 (.int .i64 (st)) rfl
  have fD_5 := KD_4.out.cell 5 (.int .i64 (lo)) rfl
  have fD_l := KD_4.out.lt
  have fX_0 := KX_4.out.cell 0 (.int .i64 (air)) rfl
  have fX_1 := KX_4.out.cell 1 (.int .i64 (bm)) rfl
  have fX_2 := KX_4.out.cell 2 (.int .i64 (bs)) rfl
  have fX_3 := KX_4.out.cell 3 (.int .i64 (bo)) rfl
  have fX_l := KX_4.out.lt
  have fp_0 := Kp_4.out.cell 0 (.int .i64 (pr)) rfl
  have fp_1 := Kp_4.out.cell 1 (.int .i64 (pi)) rfl
  have fp_l := Kp_4.out.lt
  have fx_0 := Kx_4.out.cell 0 (.int .i64 (xr)) rfl
  have fx_1 := Kx_4.out.cell 1 (.int .i64 (xi)) rfl
  have fx_l := Kx_4.out.lt
  refine Rel.region3 11 (by kernel_rfl) (by kernel_rfl) (by kernel_rfl) ?_
  simp only [List.take_succ_cons, List.take_zero, List.drop_succ_cons, List.drop_zero, List.filterMap_cons, List.filterMap_nil]
  (apply Rel.op3; (focus (first | exact Rel.gno rfl | exact Rel.gyes _ true _ rfl rfl rfl | exact Rel.gyes _ false _ rfl rfl rfl)); (focus (intro a W hb hd hbase; obtain ⟨hc, hf⟩ := bcell hb; clear hb hf; simp [Rel.deps, Rel.dep1, Rel.ons, Region.binds, Act.eval] at hd; simp only [Act.eval, List.mem_cons, List.not_mem_nil, not_or, and_imp, or_false, Array.getD_eq_getD_getElem?] at hbase; go_simp; (try go_bits); (try rfl); done)); (try simp only [List.nil_append, List.cons_append]))
  (apply Rel.op3; (focus (first | exact Rel.gno rfl | exact Rel.gyes _ true _ rfl rfl rfl | exact Rel.gyes _ false _ rfl rfl rfl)); (focus (intro a W hb hd hbase; obtain ⟨hc, hf⟩ := bcell hb; clear hb hf; simp [Rel.deps, Rel.dep1, Rel.ons, Region.binds, Act.eval] at hd; simp only [Act.eval, List.mem_cons, List.not_mem_nil, not_or, and_imp, or_false, Array.getD_eq_getD_getElem?] at hbase; go_simp; (try go_bits); (try rfl); done)); (try simp only [List.nil_append, List.cons_append]))
  (apply Rel.call3; (focus (first | exact Rel.gno rfl | exact Rel.gyes _ true _ rfl rfl rfl | exact Rel.gyes _ false _ rfl rfl rfl)); (focus (intro a W hb hd hbase; obtain ⟨hc, hf⟩ := bcell hb; clear hb hf; simp [Rel.deps, Rel.dep1, Rel.ons, Region.binds, Act.eval] at hd; simp only [Act.eval, List.mem_cons, List.not_mem_nil, not_or, and_imp, or_false, Array.getD_eq_getD_getElem?] at hbase; go_simp; refine ⟨?_, ?_⟩; rfl; rfl)); (focus (intro W hb; go_at_call 19; exact HM.out _)); (try simp only [List.nil_append, List.cons_append]))
  (apply Rel.op3; (focus (first | exact Rel.gno rfl | exact Rel.gyes _ true _ rfl rfl rfl | exact Rel.gyes _ false _ rfl rfl rfl)); (focus (intro a W hb hd hbase; obtain ⟨hc, hf⟩ := bcell hb; clear hb hf; simp [Rel.deps, Rel.dep1, Rel.ons, Region.binds, Act.eval] at hd; simp only [Act.eval, List.mem_cons, List.not_mem_nil, not_or, and_imp, or_false, Array.getD_eq_getD_getElem?] at hbase; go_simp; (try go_bits); (try rfl); done)); (try simp only [List.nil_append, List.cons_append]))
  (apply Rel.call3; (focus (first | exact Rel.gno rfl | exact Rel.gyes _ true _ rfl rfl rfl | exact Rel.gyes _ false _ rfl rfl rfl)); (focus (intro a W hb hd hbase; obtain ⟨hc, hf⟩ := bcell hb; clear hb hf; simp [Rel.deps, Rel.dep1, Rel.ons, Region.binds, Act.eval] at hd; simp only [Act.eval, List.mem_cons, List.not_mem_nil, not_or, and_imp, or_false, Array.getD_eq_getD_getElem?] at hbase; go_simp; refine ⟨?_, ?_⟩; rfl; rfl)); (focus (intro W hb; go_at_call 52; exact HA.out _)); (try simp only [List.nil_append, List.cons_append]))
  (apply Rel.op3; (focus (first | exact Rel.gno rfl | exact Rel.gyes _ true _ rfl rfl rfl | exact Rel.gyes _ false _ rfl rfl rfl)); (focus (intro a W hb hd hbase; obtain ⟨hc, hf⟩ := bcell hb; clear hb hf; simp [Rel.deps, Rel.dep1, Rel.ons, Region.binds, Act.eval] at hd; simp only [Act.eval, List.mem_cons, List.not_mem_nil, not_or, and_imp, or_false, Array.getD_eq_getD_getElem?] at hbase; go_simp; (try go_bits); (try rfl); done)); (try simp only [List.nil_append, List.cons_append]))
  (apply Rel.op3; (focus (first | exact Rel.gno rfl | exact Rel.gyes _ true _ rfl rfl rfl | exact Rel.gyes _ false _ rfl rfl rfl)); (focus (intro a W hb hd hbase; obtain ⟨hc, hf⟩ := bcell hb; clear hb hf; simp [Rel.deps, Rel.dep1, Rel.ons, Region.binds, Act.eval] at hd; simp only [Act.eval, List.mem_cons, List.not_mem_nil, not_or, and_imp, or_false, Array.getD_eq_getD_getElem?] at hbase; go_simp; (try go_bits); (try rfl); done)); (try simp only [List.nil_append, List.cons_append]))
  (apply Rel.call3; (focus (first | exact Rel.gno rfl | exact Rel.gyes _ true _ rfl rfl rfl | exact Rel.gyes _ false _ rfl rfl rfl)); (focus (intro a W hb hd hbase; obtain ⟨hc, hf⟩ := bcell hb; clear hb hf; simp [Rel.deps, Rel.dep1, Rel.ons, Region.binds, Act.eval] at hd; simp only [Act.eval, List.mem_cons, List.not_mem_nil, not_or, and_imp, or_false, Array.getD_eq_getD_getElem?] at hbase; go_simp; refine ⟨?_, ?_⟩; rfl; rfl)); (focus (intro W hb; go_at_call 90; exact HWh.out _)); (try simp only [List.nil_append, List.cons_append]))
  (apply Rel.op3; (focus (first | exact Rel.gno rfl | exact Rel.gyes _ true _ rfl rfl rfl | exact Rel.gyes _ false _ rfl rfl rfl)); (focus (intro a W hb hd hbase; obtain ⟨hc, hf⟩ := bcell hb; clear hb hf; simp [Rel.deps, Rel.dep1, Rel.ons, Region.binds, Act.eval] at hd; simp only [Act.eval, List.mem_cons, List.not_mem_nil, not_or, and_imp, or_false, Array.getD_eq_getD_getElem?] at hbase; go_simp; (try go_bits); (try rfl); done)); (try simp only [List.nil_append, List.cons_append]))
  (apply Rel.call3; (focus (first | exact Rel.gno rfl | exact Rel.gyes _ true _ rfl rfl rfl | exact Rel.gyes _ false _ rfl rfl rfl)); (focus (intro a W hb hd hbase; obtain ⟨hc, hf⟩ := bcell hb; clear hb hf; simp [Rel.deps, Rel.dep1, Rel.ons, Region.binds, Act.eval] at hd; simp only [Act.eval, List.mem_cons, List.not_mem_nil, not_or, and_imp, or_false, Array.getD_eq_getD_getElem?] at hbase; go_simp; refine ⟨?_, ?_⟩; rfl; rfl)); (focus (intro W hb; go_at_call 52; exact HB.out _)); (try simp only [List.nil_append, List.cons_append]))
  (apply Rel.call3; (focus (first | exact Rel.gno rfl | exact Rel.gyes _ true _ rfl rfl rfl | exact Rel.gyes _ false _ rfl rfl rfl)); (focus (intro a W hb hd hbase; obtain ⟨hc, hf⟩ := bcell hb; clear hb hf; simp [Rel.deps, Rel.dep1, Rel.ons, Region.binds, Act.eval] at hd; simp only [Act.eval, List.mem_cons, List.not_mem_nil, not_or, and_imp, or_false, Array.getD_eq_getD_getElem?] at hbase; go_simp; refine ⟨?_, ?_⟩; rfl; rfl)); (focus (intro W hb; go_at_call 113; exact HS.out _)); (try simp only [List.nil_append, List.cons_append]))
  refine Rel.done3 ?_
  intro x w5 h5 hx
  simp only [Rel.facts, Nat.zero_add, Nat.reduceAdd] at hx
  obtain ⟨e0, e1, e2, e3, e4, e5, e6, e7, e8, e9, e10, _⟩ := hx
  simp only [Rel.fill, Nat.zero_add, Nat.reduceAdd, e0, e1, e2, e3, e4, e5, e6, e7, e8, e9, e10]
  simp only [Act.put, List.setIfInBounds_toArray, List.set_cons_zero, List.set_cons_succ]
  clear e0 e1 e2 e3 e4 e5 e6 e7 e8 e9 e10
  have hB5 := hB4.trans (h5.mono hB4.size)
  have KD_5 := Lib.hid (show Blk w5 (w.heap.size) #[(.int .i64 (re)), (.int .i64 (le)), (.int .i64 (bl)), (.int .i64 (ma)), (.int .i64 (st)), (.int .i64 (lo))] from KD_4.out.below h5)
  have KX_5 := Lib.hid (show Blk w5 (w.heap.size + 1) #[(.int .i64 (air)), (.int .i64 (bm)), (.int .i64 (bs)), (.int .i64 (bo))] from KX_4.out.below h5)
  have KR_5 := Lib.hid (show Blk w5 (w.heap.size + 1 + 1) #[(.int .i64 (0)), (.int .i64 (0)), (.int .i64 (0)), (.int .i64 (0)), (.int .i64 (0)), (.int .i64 (0)), (.int .i64 (0)), (.int .i64 (0)), (.int .i64 (0)), (.int .i64 (0))] from KR_4.out.below h5)
  have KE_5 := Lib.hid (show Blk w5 (w.heap.size + 1 + 1 + 1) #[(.int .i64 (re)), (.int .i64 (w0 * le))] from KE_4.out.below h5)
  have KF_5 := Lib.hid (show Blk w5 (w.heap.size + 1 + 1 + 1 + 1) #[(.int .i64 (0)), (.int .i64 (w0 * bl * bl))] from KF_4.out.below h5)
  have KS_5 := Lib.hid (show Blk w5 (w.heap.size + 1 + 1 + 1 + 1 + 1) #[(.int .i64 (0)), (.int .i64 (0)), (.int .i64 (0)), (.int .i64 (0)), (.int .i64 (0)), (.int .i64 (0)), (.int .i64 (0)), (.int .i64 (0)), (.int .i64 (0)), (.int .i64 (0))] from KS_4.out.below h5)
  have Kp_5 := Lib.hid (show Blk w5 (w1.heap.size) #[(.int .i64 (pr)), (.int .i64 (pi))] from Kp_4.out.below h5)
  have Kx_5 := Lib.hid (show Blk w5 (gx) #[(.int .i64 (xr)), (.int .i64 (xi))] from Kx_4.out.below h5)
  clear h5 hB4 KD_4 KX_4 KR_4 KE_4 KF_4 KS_4 Kp_4 Kx_4 fD_0 fD_1 fD_2 fD_3 fD_4 fD_5 fD_l fX_0 fX_1 fX_2 fX_3 fX_l fp_0 fp_1 fp_l fx_0 fx_1 fx_l
  have fS_0 := KS_5.out.cell 0 (.int .i64 (0)) rfl
  have fS_1 := KS_5.out.cell 1 (.int .i64 (0)) rfl
  have fS_2 := KS_5.out.cell 2 (.int .i64 (0)) rfl
  have fS_3 := KS_5.out.cell 3 (.int .i64 (0)) rfl
  have fS_4 := KS_5.out.cell 4 (.int .i64 (0)) rfl
  have fS_5 := KS_5.out.cell 5 (.int .i64 (0)) rfl
  have fS_6 := KS_5.out.cell 6 (.int .i64 (0)) rfl
  have fS_7 := KS_5.out.cell 7 (.int .i64 (0)) rfl
  have fS_8 := KS_5.out.cell 8 (.int .i64 (0)) rfl
  have fS_9 := KS_5.out.cell 9 (.int .i64 (0)) rfl
  have fS_l := KS_5.out.lt
  have fS_f := KS_5.out.f
  have fS_l0 : w.heap.size < w5.heap.size := by omega
  have fS_l1 : w.heap.size + 1 < w5.heap.size := by omega
  have fS_l2 : w.heap.size + 1 + 1 < w5.heap.size := by omega
  have fS_l3 : w.heap.size + 1 + 1 + 1 < w5.heap.size := by omega
  have fS_l4 : w.heap.size + 1 + 1 + 1 + 1 < w5.heap.size := by omega
  have fS_l0_1 : w.heap.size < w5.heap.size + 1 := by omega
  have fS_l0_2 : w.heap.size < w5.heap.size + 1 + 1 := by omega
  have fS_l1_1 : w.heap.size + 1 < w5.heap.size + 1 := by omega
  have fS_l1_2 : w.heap.size + 1 < w5.heap.size + 1 + 1 := by omega
  have fS_l2_1 : w.heap.size + 1 + 1 < w5.heap.size + 1 := by omega
  have fS_l2_2 : w.heap.size + 1 + 1 < w5.heap.size + 1 + 1 := by omega
  have fS_l3_1 : w.heap.size + 1 + 1 + 1 < w5.heap.size + 1 := by omega
  have fS_l3_2 : w.heap.size + 1 + 1 + 1 < w5.heap.size + 1 + 1 := by omega
  have fS_l4_1 : w.heap.size + 1 + 1 + 1 + 1 < w5.heap.size + 1 := by omega
  have fS_l4_2 : w.heap.size + 1 + 1 + 1 + 1 < w5.heap.size + 1 + 1 := by omega
  have fS_l5_1 : w.heap.size + 1 + 1 + 1 + 1 + 1 < w5.heap.size + 1 := by omega
  have fS_l5_2 : w.heap.size + 1 + 1 + 1 + 1 + 1 < w5.heap.size + 1 + 1 := by omega
  go_wp2
  refine name_world ?_
  intro w6 e6
  have hB6 : Below w.heap.size w w6 := e6.symm ▸ ((hB5.setCell (p := ⟨w.heap.size + 1 + 1 + 1 + 1 + 1, 2, none⟩) (show w.heap.size ≤ w.heap.size + 1 + 1 + 1 + 1 + 1 from by have := hB5.size; omega) (.int .i64 (sr))).setCell (p := ⟨w.heap.size + 1 + 1 + 1 + 1 + 1, 3, none⟩) (show w.heap.size ≤ w.heap.size + 1 + 1 + 1 + 1 + 1 from by have := hB5.size; omega) (.int .i64 (si)))
  have KD_6 := Lib.hid (show Blk w6 (w.heap.size) #[(.int .i64 (re)), (.int .i64 (le)), (.int .i64 (bl)), (.int .i64 (ma)), (.int .i64 (st)), (.int .i64 (lo))] from e6.symm ▸ ((KD_5.out.far (p := ⟨w.heap.size + 1 + 1 + 1 + 1 + 1, 2, none⟩) (show w.heap.size + 1 + 1 + 1 + 1 + 1 ≠ w.heap.size from by omega) (.int .i64 (sr))).far (p := ⟨w.heap.size + 1 + 1 + 1 + 1 + 1, 3, none⟩) (show w.heap.size + 1 + 1 + 1 + 1 + 1 ≠ w.heap.size from by omega) (.int .i64 (si))))
  have KX_6 := Lib.hid (show Blk w6 (w.heap.size + 1) #[(.int .i64 (air)), (.int .i64 (bm)), (.int .i64 (bs)), (.int .i64 (bo))] from e6.symm ▸ ((KX_5.out.far (p := ⟨w.heap.size + 1 + 1 + 1 + 1 + 1, 2, none⟩) (show w.heap.size + 1 + 1 + 1 + 1 + 1 ≠ w.heap.size + 1 from by omega) (.int .i64 (sr))).far (p := ⟨w.heap.size + 1 + 1 + 1 + 1 + 1, 3, none⟩) (show w.heap.size + 1 + 1 + 1 + 1 + 1 ≠ w.heap.size + 1 from by omega) (.int .i64 (si))))
  have KR_6 := Lib.hid (show Blk w6 (w.heap.size + 1 + 1) #[(.int .i64 (0)), (.int .i64 (0)), (.int .i64 (0)), (.int .i64 (0)), (.int .i64 (0)), (.int .i64 (0)), (.int .i64 (0)), (.int .i64 (0)), (.int .i64 (0)), (.int .i64 (0))] from e6.symm ▸ ((KR_5.out.far (p := ⟨w.heap.size + 1 + 1 + 1 + 1 + 1, 2, none⟩) (show w.heap.size + 1 + 1 + 1 + 1 + 1 ≠ w.heap.size + 1 + 1 from by omega) (.int .i64 (sr))).far (p := ⟨w.heap.size + 1 + 1 + 1 + 1 + 1, 3, none⟩) (show w.heap.size + 1 + 1 + 1 + 1 + 1 ≠ w.heap.size + 1 + 1 from by omega) (.int .i64 (si))))
  have KE_6 := Lib.hid (show Blk w6 (w.heap.size + 1 + 1 + 1) #[(.int .i64 (re)), (.int .i64 (w0 * le))] from e6.symm ▸ ((KE_5.out.far (p := ⟨w.heap.size + 1 + 1 + 1 + 1 + 1, 2, none⟩) (show w.heap.size + 1 + 1 + 1 + 1 + 1 ≠ w.heap.size + 1 + 1 + 1 from by omega) (.int .i64 (sr))).far (p := ⟨w.heap.size + 1 + 1 + 1 + 1 + 1, 3, none⟩) (show w.heap.size + 1 + 1 + 1 + 1 + 1 ≠ w.heap.size + 1 + 1 + 1 from by omega) (.int .i64 (si))))
  have KF_6 := Lib.hid (show Blk w6 (w.heap.size + 1 + 1 + 1 + 1) #[(.int .i64 (0)), (.int .i64 (w0 * bl * bl))] from e6.symm ▸ ((KF_5.out.far (p := ⟨w.heap.size + 1 + 1 + 1 + 1 + 1, 2, none⟩) (show w.heap.size + 1 + 1 + 1 + 1 + 1 ≠ w.heap.size + 1 + 1 + 1 + 1 from by omega) (.int .i64 (sr))).far (p := ⟨w.heap.size + 1 + 1 + 1 + 1 + 1, 3, none⟩) (show w.heap.size + 1 + 1 + 1 + 1 + 1 ≠ w.heap.size + 1 + 1 + 1 + 1 from by omega) (.int .i64 (si))))
  have KS_6 := Lib.hid (show Blk w6 (w.heap.size + 1 + 1 + 1 + 1 + 1) #[(.int .i64 (0)), (.int .i64 (0)), (.int .i64 (sr)), (.int .i64 (si)), (.int .i64 (0)), (.int .i64 (0)), (.int .i64 (0)), (.int .i64 (0)), (.int .i64 (0)), (.int .i64 (0))] from e6.symm ▸ ((KS_5.out.set (i := 2) (by simp) (.int .i64 (sr))).set (i := 3) (by simp) (.int .i64 (si))))
  have Kp_6 := Lib.hid (show Blk w6 (w1.heap.size) #[(.int .i64 (pr)), (.int .i64 (pi))] from e6.symm ▸ ((Kp_5.out.far (p := ⟨w.heap.size + 1 + 1 + 1 + 1 + 1, 2, none⟩) (show w.heap.size + 1 + 1 + 1 + 1 + 1 ≠ w1.heap.size from by omega) (.int .i64 (sr))).far (p := ⟨w.heap.size + 1 + 1 + 1 + 1 + 1, 3, none⟩) (show w.heap.size + 1 + 1 + 1 + 1 + 1 ≠ w1.heap.size from by omega) (.int .i64 (si))))
  have Kx_6 := Lib.hid (show Blk w6 (gx) #[(.int .i64 (xr)), (.int .i64 (xi))] from e6.symm ▸ ((Kx_5.out.far (p := ⟨w.heap.size + 1 + 1 + 1 + 1 + 1, 2, none⟩) (show w.heap.size + 1 + 1 + 1 + 1 + 1 ≠ gx from by omega) (.int .i64 (sr))).far (p := ⟨w.heap.size + 1 + 1 + 1 + 1 + 1, 3, none⟩) (show w.heap.size + 1 + 1 + 1 + 1 + 1 ≠ gx from by omega) (.int .i64 (si))))
  clear e6 hB5 KD_5 KX_5 KR_5 KE_5 KF_5 KS_5 Kp_5 Kx_5 fS_0 fS_1 fS_2 fS_3 fS_4 fS_5 fS_6 fS_7 fS_8 fS_9 fS_l fS_f fS_l0 fS_l1 fS_l2 fS_l3 fS_l4 fS_l0_1 fS_l0_2 fS_l1_1 fS_l1_2 fS_l2_1 fS_l2_2 fS_l3_1 fS_l3_2 fS_l4_1 fS_l4_2 fS_l5_1 fS_l5_2
  have fX_0 := KX_6.out.cell 0 (.int .i64 (air)) rfl
  have fX_1 := KX_6.out.cell 1 (.int .i64 (bm)) rfl
  have fX_2 := KX_6.out.cell 2 (.int .i64 (bs)) rfl
  have fX_3 := KX_6.out.cell 3 (.int .i64 (bo)) rfl
  have fX_l := KX_6.out.lt
  have fp_0 := Kp_6.out.cell 0 (.int .i64 (pr)) rfl
  have fp_1 := Kp_6.out.cell 1 (.int .i64 (pi)) rfl
  have fp_l := Kp_6.out.lt
  have fx_0 := Kx_6.out.cell 0 (.int .i64 (xr)) rfl
  have fx_1 := Kx_6.out.cell 1 (.int .i64 (xi)) rfl
  have fx_l := Kx_6.out.lt
  have npS0 : ¬ w.heap.size + 1 + 1 + 1 + 1 + 1 = w1.heap.size := by omega
  have mpS0 : ¬ w1.heap.size = w.heap.size + 1 + 1 + 1 + 1 + 1 := by omega
  have nxS0 : ¬ w.heap.size + 1 + 1 + 1 + 1 + 1 = gx := by omega
  have mxS0 : ¬ gx = w.heap.size + 1 + 1 + 1 + 1 + 1 := by omega
  have hgS : w.heap.size + 1 + 1 + 1 + 1 + 1 < w6.heap.size := KS_6.out.lt
  refine RelG.region3 (S := Turns (w.heap.size + 1 + 1 + 1 + 1 + 1) #[(.int .i64 (0)), (.int .i64 (0)), (.int .i64 (sr)), (.int .i64 (si)), (.int .i64 (xr)), (.int .i64 (xi)), (.int .i64 (air)), (.int .i64 (0)), (.int .i64 (0)), (.int .i64 (0))] w6.heap.size) Turns.trans Turns.drawn 9 (by kernel_rfl) (by kernel_rfl) (by kernel_rfl) ?_
  simp only [List.take_succ_cons, List.take_zero, List.drop_succ_cons, List.drop_zero, List.filterMap_cons, List.filterMap_nil]
  (apply RelG.op3 (Turns.refl _ _ _); (focus (first | exact Rel.gno rfl | exact Rel.gyes _ true _ rfl rfl rfl)); (focus (intro a W hb hd hbase; obtain ⟨hc, hf⟩ := hb.old; clear hb hf; simp [Rel.deps, Rel.dep1, Rel.ons, Region.binds, Act.eval] at hd; simp only [Act.eval, List.mem_cons, List.not_mem_nil, not_or, and_imp, or_false, Array.getD_eq_getD_getElem?] at hbase; go_simp; (try go_bits); (try rfl); done)); (try simp only [List.nil_append, List.cons_append]))
  (apply RelG.op3 (Turns.refl _ _ _); (focus (first | exact Rel.gno rfl | exact Rel.gyes _ true _ rfl rfl rfl)); (focus (intro a W hb hd hbase; obtain ⟨hc, hf⟩ := hb.old; clear hb hf; simp [Rel.deps, Rel.dep1, Rel.ons, Region.binds, Act.eval] at hd; simp only [Act.eval, List.mem_cons, List.not_mem_nil, not_or, and_imp, or_false, Array.getD_eq_getD_getElem?] at hbase; go_simp; (try go_bits); (try rfl); done)); (try simp only [List.nil_append, List.cons_append]))
  (apply RelG.op3 (Turns.refl _ _ _); (focus (first | exact Rel.gno rfl | exact Rel.gyes _ true _ rfl rfl rfl)); (focus (intro a W hb hd hbase; obtain ⟨hc, hf⟩ := hb.old; clear hb hf; simp [Rel.deps, Rel.dep1, Rel.ons, Region.binds, Act.eval] at hd; simp only [Act.eval, List.mem_cons, List.not_mem_nil, not_or, and_imp, or_false, Array.getD_eq_getD_getElem?] at hbase; go_simp; (try go_bits); (try rfl); done)); (try simp only [List.nil_append, List.cons_append]))
  (apply RelG.call3 (fun W W' hb h2 => Turns.of h2 (Nat.lt_of_lt_of_le hgS hb.size) hb.size); (focus (first | exact Rel.gno rfl | exact Rel.gyes _ true _ rfl rfl rfl)); (focus (intro a W hb hd hbase; obtain ⟨hc, hf⟩ := hb.old; clear hb hf; simp [Rel.deps, Rel.dep1, Rel.ons, Region.binds, Act.eval] at hd; simp only [Act.eval, List.mem_cons, List.not_mem_nil, not_or, and_imp, or_false, Array.getD_eq_getD_getElem?] at hbase; go_simp; refine ⟨?_, ?_⟩; rfl; rfl)); (focus (intro W hb; go_at_call 90; exact HWh.out _)); (try simp only [List.nil_append, List.cons_append]))
  (apply RelG.op3 (Turns.refl _ _ _); (focus (first | exact Rel.gno rfl | exact Rel.gyes _ true _ rfl rfl rfl)); (focus (intro a W hb hd hbase; obtain ⟨hc, hf⟩ := hb.old; clear hb hf; simp [Rel.deps, Rel.dep1, Rel.ons, Region.binds, Act.eval] at hd; simp only [Act.eval, List.mem_cons, List.not_mem_nil, not_or, and_imp, or_false, Array.getD_eq_getD_getElem?] at hbase; go_simp; (try go_bits); (try rfl); done)); (try simp only [List.nil_append, List.cons_append]))
  (apply RelG.op3 (Turns.refl _ _ _); (focus (first | exact Rel.gno rfl | exact Rel.gyes _ true _ rfl rfl rfl)); (focus (intro a W hb hd hbase; obtain ⟨hc, hf⟩ := hb.old; clear hb hf; simp [Rel.deps, Rel.dep1, Rel.ons, Region.binds, Act.eval] at hd; simp only [Act.eval, List.mem_cons, List.not_mem_nil, not_or, and_imp, or_false, Array.getD_eq_getD_getElem?] at hbase; go_simp; (try go_bits); (try rfl); done)); (try simp only [List.nil_append, List.cons_append]))
  refine RelG.store3 (fun W => W.cell? ⟨w.heap.size + 1 + 1 + 1 + 1 + 1, 4, none⟩ = some (.int .i64 (xr)) ∧ W.cell? ⟨w.heap.size + 1 + 1 + 1 + 1 + 1, 5, none⟩ = some (.int .i64 (xi))) (fun W W' h hS => ⟨Turns.stays rfl W W' h.1 hS, Turns.stays rfl W W' h.2 hS⟩) (Rel.gno rfl) ?_ ?_
  · intro a W hb hd hbase
    obtain ⟨u1, hu1⟩ := hb.has KS_6.out rfl (i := 4) (by simp)
    obtain ⟨u2, hu2⟩ := hb.has KS_6.out rfl (i := 5) (by simp)
    have hf1 := (hb.frozen 4).trans (KS_6.out.f 4)
    have hf2 := (hb.frozen 5).trans (KS_6.out.f 5)
    have hS1 := Turns.put (B := w6.heap.size) (v := (.int .i64 (xr))) hu1 (new := #[(.int .i64 (0)), (.int .i64 (0)), (.int .i64 (sr)), (.int .i64 (si)), (.int .i64 (xr)), (.int .i64 (xi)), (.int .i64 (air)), (.int .i64 (0)), (.int .i64 (0)), (.int .i64 (0))]) rfl
    have hu3 : (W.setCell ⟨w.heap.size + 1 + 1 + 1 + 1 + 1, 4, none⟩ (.int .i64 (xr))).cell? ⟨w.heap.size + 1 + 1 + 1 + 1 + 1, 5, none⟩ = some u2 := (World.cell?_setCell_other W ⟨w.heap.size + 1 + 1 + 1 + 1 + 1, 4, none⟩ ⟨w.heap.size + 1 + 1 + 1 + 1 + 1, 5, none⟩ _ (by simp)).trans hu2
    have hS2 := Turns.put (B := w6.heap.size) (v := (.int .i64 (xi))) hu3 (new := #[(.int .i64 (0)), (.int .i64 (0)), (.int .i64 (sr)), (.int .i64 (si)), (.int .i64 (xr)), (.int .i64 (xi)), (.int .i64 (air)), (.int .i64 (0)), (.int .i64 (0)), (.int .i64 (0))]) rfl
    have hg1 := Turns.stays (B := w6.heap.size) (new := #[(.int .i64 (0)), (.int .i64 (0)), (.int .i64 (sr)), (.int .i64 (si)), (.int .i64 (xr)), (.int .i64 (xi)), (.int .i64 (air)), (.int .i64 (0)), (.int .i64 (0)), (.int .i64 (0))]) (i := 4) (v := (.int .i64 (xr))) rfl _ _ (World.cell?_setCell_same W _ (.int .i64 (xr)) hu1) hS2
    have hg2 := World.cell?_setCell_same _ _ (.int .i64 (xi)) hu3
    refine ⟨(W.setCell ⟨w.heap.size + 1 + 1 + 1 + 1 + 1, 4, none⟩ (.int .i64 (xr))).setCell ⟨w.heap.size + 1 + 1 + 1 + 1 + 1, 5, none⟩ (.int .i64 (xi)), ?_, ⟨hg1, hg2⟩, Turns.trans _ _ _ hS1 hS2⟩
    clear hS1 hS2 hg1 hg2 hu3 hb
    simp [Rel.deps, Rel.dep1, Rel.ons, Region.binds, Act.eval] at hd; simp only [Act.eval, List.mem_cons, List.not_mem_nil, not_or, and_imp, or_false, Array.getD_eq_getD_getElem?] at hbase
    go_simp
  (try simp only [List.nil_append, List.cons_append])
  (apply RelG.op3 (Turns.refl _ _ _); (focus (first | exact Rel.gno rfl | exact Rel.gyes _ true _ rfl rfl rfl)); (focus (intro a W hb hd hbase; obtain ⟨hc, hf⟩ := hb.old; clear hb hf; simp [Rel.deps, Rel.dep1, Rel.ons, Region.binds, Act.eval] at hd; simp only [Act.eval, List.mem_cons, List.not_mem_nil, not_or, and_imp, or_false, Array.getD_eq_getD_getElem?] at hbase; go_simp; (try go_bits); (try rfl); done)); (try simp only [List.nil_append, List.cons_append]))
  refine RelG.store3 (fun W => W.cell? ⟨w.heap.size + 1 + 1 + 1 + 1 + 1, 6, none⟩ = some (.int .i64 (air)) ∧ W.cell? ⟨w.heap.size + 1 + 1 + 1 + 1 + 1, 7, none⟩ = some (.int .i64 (0))) (fun W W' h hS => ⟨Turns.stays rfl W W' h.1 hS, Turns.stays rfl W W' h.2 hS⟩) (Rel.gno rfl) ?_ ?_
  · intro a W hb hd hbase
    obtain ⟨u1, hu1⟩ := hb.has KS_6.out rfl (i := 6) (by simp)
    obtain ⟨u2, hu2⟩ := hb.has KS_6.out rfl (i := 7) (by simp)
    have hf1 := (hb.frozen 6).trans (KS_6.out.f 6)
    have hf2 := (hb.frozen 7).trans (KS_6.out.f 7)
    have hS1 := Turns.put (B := w6.heap.size) (v := (.int .i64 (air))) hu1 (new := #[(.int .i64 (0)), (.int .i64 (0)), (.int .i64 (sr)), (.int .i64 (si)), (.int .i64 (xr)), (.int .i64 (xi)), (.int .i64 (air)), (.int .i64 (0)), (.int .i64 (0)), (.int .i64 (0))]) rfl
    have hu3 : (W.setCell ⟨w.heap.size + 1 + 1 + 1 + 1 + 1, 6, none⟩ (.int .i64 (air))).cell? ⟨w.heap.size + 1 + 1 + 1 + 1 + 1, 7, none⟩ = some u2 := (World.cell?_setCell_other W ⟨w.heap.size + 1 + 1 + 1 + 1 + 1, 6, none⟩ ⟨w.heap.size + 1 + 1 + 1 + 1 + 1, 7, none⟩ _ (by simp)).trans hu2
    have hS2 := Turns.put (B := w6.heap.size) (v := (.int .i64 (0))) hu3 (new := #[(.int .i64 (0)), (.int .i64 (0)), (.int .i64 (sr)), (.int .i64 (si)), (.int .i64 (xr)), (.int .i64 (xi)), (.int .i64 (air)), (.int .i64 (0)), (.int .i64 (0)), (.int .i64 (0))]) rfl
    have hg1 := Turns.stays (B := w6.heap.size) (new := #[(.int .i64 (0)), (.int .i64 (0)), (.int .i64 (sr)), (.int .i64 (si)), (.int .i64 (xr)), (.int .i64 (xi)), (.int .i64 (air)), (.int .i64 (0)), (.int .i64 (0)), (.int .i64 (0))]) (i := 6) (v := (.int .i64 (air))) rfl _ _ (World.cell?_setCell_same W _ (.int .i64 (air)) hu1) hS2
    have hg2 := World.cell?_setCell_same _ _ (.int .i64 (0)) hu3
    refine ⟨(W.setCell ⟨w.heap.size + 1 + 1 + 1 + 1 + 1, 6, none⟩ (.int .i64 (air))).setCell ⟨w.heap.size + 1 + 1 + 1 + 1 + 1, 7, none⟩ (.int .i64 (0)), ?_, ⟨hg1, hg2⟩, Turns.trans _ _ _ hS1 hS2⟩
    clear hS1 hS2 hg1 hg2 hu3 hb
    simp [Rel.deps, Rel.dep1, Rel.ons, Region.binds, Act.eval] at hd; simp only [Act.eval, List.mem_cons, List.not_mem_nil, not_or, and_imp, or_false, Array.getD_eq_getD_getElem?] at hbase
    go_simp
  (try simp only [List.nil_append, List.cons_append])
  refine RelG.done3 ?_
  intro x w7 hS hx
  simp only [Rel.facts, Nat.zero_add, Nat.reduceAdd] at hx
  obtain ⟨e0, e1, e2, e3, e4, e5, ⟨s4, s5⟩, e7, ⟨s6, s7⟩, _⟩ := hx
  simp only [RelG.fill, Nat.zero_add, Nat.reduceAdd, e0, e1, e2, e3, e4, e5, e7]
  simp only [Act.put, List.setIfInBounds_toArray, List.set_cons_zero, List.set_cons_succ]
  have hB7 := hB6.trans (hS.below (show w.heap.size ≤ w.heap.size + 1 + 1 + 1 + 1 + 1 by omega) hB6.size)
  have KD_7 := Lib.hid (show Blk w7 (w.heap.size) #[(.int .i64 (re)), (.int .i64 (le)), (.int .i64 (bl)), (.int .i64 (ma)), (.int .i64 (st)), (.int .i64 (lo))] from hS.far KD_6.out KD_6.out.lt (by omega))
  have KX_7 := Lib.hid (show Blk w7 (w.heap.size + 1) #[(.int .i64 (air)), (.int .i64 (bm)), (.int .i64 (bs)), (.int .i64 (bo))] from hS.far KX_6.out KX_6.out.lt (by omega))
  have KR_7 := Lib.hid (show Blk w7 (w.heap.size + 1 + 1) #[(.int .i64 (0)), (.int .i64 (0)), (.int .i64 (0)), (.int .i64 (0)), (.int .i64 (0)), (.int .i64 (0)), (.int .i64 (0)), (.int .i64 (0)), (.int .i64 (0)), (.int .i64 (0))] from hS.far KR_6.out KR_6.out.lt (by omega))
  have KE_7 := Lib.hid (show Blk w7 (w.heap.size + 1 + 1 + 1) #[(.int .i64 (re)), (.int .i64 (w0 * le))] from hS.far KE_6.out KE_6.out.lt (by omega))
  have KF_7 := Lib.hid (show Blk w7 (w.heap.size + 1 + 1 + 1 + 1) #[(.int .i64 (0)), (.int .i64 (w0 * bl * bl))] from hS.far KF_6.out KF_6.out.lt (by omega))
  have KS_7 := Lib.hid (hS.blk KS_6.out (fun i => by match i with | 0 => exact .inl rfl | 1 => exact .inl rfl | 2 => exact .inl rfl | 3 => exact .inl rfl | 4 => exact .inr s4 | 5 => exact .inr s5 | 6 => exact .inr s6 | 7 => exact .inr s7 | 8 => exact .inl rfl | 9 => exact .inl rfl | i + 10 => exact .inl rfl))
  have Kp_7 := Lib.hid (show Blk w7 (w1.heap.size) #[(.int .i64 (pr)), (.int .i64 (pi))] from hS.far Kp_6.out Kp_6.out.lt (by omega))
  have Kx_7 := Lib.hid (show Blk w7 (gx) #[(.int .i64 (xr)), (.int .i64 (xi))] from hS.far Kx_6.out Kx_6.out.lt (by omega))
  clear e0 e1 e2 e3 e4 e5 e7 s4 s5 s6 s7 hS hgS hB6 KD_6 KX_6 KR_6 KE_6 KF_6 KS_6 Kp_6 Kx_6 fX_0 fX_1 fX_2 fX_3 fX_l fp_0 fp_1 fp_l fx_0 fx_1 fx_l npS0 mpS0 nxS0 mxS0
  have fS_0 := KS_7.out.cell 0 (.int .i64 (0)) rfl
  have fS_1 := KS_7.out.cell 1 (.int .i64 (0)) rfl
  have fS_2 := KS_7.out.cell 2 (.int .i64 (sr)) rfl
  have fS_3 := KS_7.out.cell 3 (.int .i64 (si)) rfl
  have fS_4 := KS_7.out.cell 4 (.int .i64 (xr)) rfl
  have fS_5 := KS_7.out.cell 5 (.int .i64 (xi)) rfl
  have fS_6 := KS_7.out.cell 6 (.int .i64 (air)) rfl
  have fS_7 := KS_7.out.cell 7 (.int .i64 (0)) rfl
  have fS_8 := KS_7.out.cell 8 (.int .i64 (0)) rfl
  have fS_9 := KS_7.out.cell 9 (.int .i64 (0)) rfl
  have fS_l := KS_7.out.lt
  have fS_f := KS_7.out.f
  have fS_l0 : w.heap.size < w7.heap.size := by omega
  have fS_l1 : w.heap.size + 1 < w7.heap.size := by omega
  have fS_l2 : w.heap.size + 1 + 1 < w7.heap.size := by omega
  have fS_l3 : w.heap.size + 1 + 1 + 1 < w7.heap.size := by omega
  have fS_l4 : w.heap.size + 1 + 1 + 1 + 1 < w7.heap.size := by omega
  have fS_l0_1 : w.heap.size < w7.heap.size + 1 := by omega
  have fS_l0_2 : w.heap.size < w7.heap.size + 1 + 1 := by omega
  have fS_l1_1 : w.heap.size + 1 < w7.heap.size + 1 := by omega
  have fS_l1_2 : w.heap.size + 1 < w7.heap.size + 1 + 1 := by omega
  have fS_l2_1 : w.heap.size + 1 + 1 < w7.heap.size + 1 := by omega
  have fS_l2_2 : w.heap.size + 1 + 1 < w7.heap.size + 1 + 1 := by omega
  have fS_l3_1 : w.heap.size + 1 + 1 + 1 < w7.heap.size + 1 := by omega
  have fS_l3_2 : w.heap.size + 1 + 1 + 1 < w7.heap.size + 1 + 1 := by omega
  have fS_l4_1 : w.heap.size + 1 + 1 + 1 + 1 < w7.heap.size + 1 := by omega
  have fS_l4_2 : w.heap.size + 1 + 1 + 1 + 1 < w7.heap.size + 1 + 1 := by omega
  have fS_l5_1 : w.heap.size + 1 + 1 + 1 + 1 + 1 < w7.heap.size + 1 := by omega
  have fS_l5_2 : w.heap.size + 1 + 1 + 1 + 1 + 1 < w7.heap.size + 1 + 1 := by omega
  go_wp2
  refine name_world ?_
  intro w8 e8
  have hB8 : Below w.heap.size w w8 := e8.symm ▸ ((hB7.setCell (p := ⟨w.heap.size + 1 + 1 + 1 + 1 + 1, 8, none⟩) (show w.heap.size ≤ w.heap.size + 1 + 1 + 1 + 1 + 1 from by have := hB7.size; omega) (.int .i64 (pr))).setCell (p := ⟨w.heap.size + 1 + 1 + 1 + 1 + 1, 9, none⟩) (show w.heap.size ≤ w.heap.size + 1 + 1 + 1 + 1 + 1 from by have := hB7.size; omega) (.int .i64 (pi)))
  have KD_8 := Lib.hid (show Blk w8 (w.heap.size) #[(.int .i64 (re)), (.int .i64 (le)), (.int .i64 (bl)), (.int .i64 (ma)), (.int .i64 (st)), (.int .i64 (lo))] from e8.symm ▸ ((KD_7.out.far (p := ⟨w.heap.size + 1 + 1 + 1 + 1 + 1, 8, none⟩) (show w.heap.size + 1 + 1 + 1 + 1 + 1 ≠ w.heap.size from by omega) (.int .i64 (pr))).far (p := ⟨w.heap.size + 1 + 1 + 1 + 1 + 1, 9, none⟩) (show w.heap.size + 1 + 1 + 1 + 1 + 1 ≠ w.heap.size from by omega) (.int .i64 (pi))))
  have KX_8 := Lib.hid (show Blk w8 (w.heap.size + 1) #[(.int .i64 (air)), (.int .i64 (bm)), (.int .i64 (bs)), (.int .i64 (bo))] from e8.symm ▸ ((KX_7.out.far (p := ⟨w.heap.size + 1 + 1 + 1 + 1 + 1, 8, none⟩) (show w.heap.size + 1 + 1 + 1 + 1 + 1 ≠ w.heap.size + 1 from by omega) (.int .i64 (pr))).far (p := ⟨w.heap.size + 1 + 1 + 1 + 1 + 1, 9, none⟩) (show w.heap.size + 1 + 1 + 1 + 1 + 1 ≠ w.heap.size + 1 from by omega) (.int .i64 (pi))))
  have KR_8 := Lib.hid (show Blk w8 (w.heap.size + 1 + 1) #[(.int .i64 (0)), (.int .i64 (0)), (.int .i64 (0)), (.int .i64 (0)), (.int .i64 (0)), (.int .i64 (0)), (.int .i64 (0)), (.int .i64 (0)), (.int .i64 (0)), (.int .i64 (0))] from e8.symm ▸ ((KR_7.out.far (p := ⟨w.heap.size + 1 + 1 + 1 + 1 + 1, 8, none⟩) (show w.heap.size + 1 + 1 + 1 + 1 + 1 ≠ w.heap.size + 1 + 1 from by omega) (.int .i64 (pr))).far (p := ⟨w.heap.size + 1 + 1 + 1 + 1 + 1, 9, none⟩) (show w.heap.size + 1 + 1 + 1 + 1 + 1 ≠ w.heap.size + 1 + 1 from by omega) (.int .i64 (pi))))
  have KE_8 := Lib.hid (show Blk w8 (w.heap.size + 1 + 1 + 1) #[(.int .i64 (re)), (.int .i64 (w0 * le))] from e8.symm ▸ ((KE_7.out.far (p := ⟨w.heap.size + 1 + 1 + 1 + 1 + 1, 8, none⟩) (show w.heap.size + 1 + 1 + 1 + 1 + 1 ≠ w.heap.size + 1 + 1 + 1 from by omega) (.int .i64 (pr))).far (p := ⟨w.heap.size + 1 + 1 + 1 + 1 + 1, 9, none⟩) (show w.heap.size + 1 + 1 + 1 + 1 + 1 ≠ w.heap.size + 1 + 1 + 1 from by omega) (.int .i64 (pi))))
  have KF_8 := Lib.hid (show Blk w8 (w.heap.size + 1 + 1 + 1 + 1) #[(.int .i64 (0)), (.int .i64 (w0 * bl * bl))] from e8.symm ▸ ((KF_7.out.far (p := ⟨w.heap.size + 1 + 1 + 1 + 1 + 1, 8, none⟩) (show w.heap.size + 1 + 1 + 1 + 1 + 1 ≠ w.heap.size + 1 + 1 + 1 + 1 from by omega) (.int .i64 (pr))).far (p := ⟨w.heap.size + 1 + 1 + 1 + 1 + 1, 9, none⟩) (show w.heap.size + 1 + 1 + 1 + 1 + 1 ≠ w.heap.size + 1 + 1 + 1 + 1 from by omega) (.int .i64 (pi))))
  have KS_8 := Lib.hid (show Blk w8 (w.heap.size + 1 + 1 + 1 + 1 + 1) #[(.int .i64 (0)), (.int .i64 (0)), (.int .i64 (sr)), (.int .i64 (si)), (.int .i64 (xr)), (.int .i64 (xi)), (.int .i64 (air)), (.int .i64 (0)), (.int .i64 (pr)), (.int .i64 (pi))] from e8.symm ▸ ((KS_7.out.set (i := 8) (by simp) (.int .i64 (pr))).set (i := 9) (by simp) (.int .i64 (pi))))
  have Kp_8 := Lib.hid (show Blk w8 (w1.heap.size) #[(.int .i64 (pr)), (.int .i64 (pi))] from e8.symm ▸ ((Kp_7.out.far (p := ⟨w.heap.size + 1 + 1 + 1 + 1 + 1, 8, none⟩) (show w.heap.size + 1 + 1 + 1 + 1 + 1 ≠ w1.heap.size from by omega) (.int .i64 (pr))).far (p := ⟨w.heap.size + 1 + 1 + 1 + 1 + 1, 9, none⟩) (show w.heap.size + 1 + 1 + 1 + 1 + 1 ≠ w1.heap.size from by omega) (.int .i64 (pi))))
  have Kx_8 := Lib.hid (show Blk w8 (gx) #[(.int .i64 (xr)), (.int .i64 (xi))] from e8.symm ▸ ((Kx_7.out.far (p := ⟨w.heap.size + 1 + 1 + 1 + 1 + 1, 8, none⟩) (show w.heap.size + 1 + 1 + 1 + 1 + 1 ≠ gx from by omega) (.int .i64 (pr))).far (p := ⟨w.heap.size + 1 + 1 + 1 + 1 + 1, 9, none⟩) (show w.heap.size + 1 + 1 + 1 + 1 + 1 ≠ gx from by omega) (.int .i64 (pi))))
  clear e8 hB7 KD_7 KX_7 KR_7 KE_7 KF_7 KS_7 Kp_7 Kx_7 fS_0 fS_1 fS_2 fS_3 fS_4 fS_5 fS_6 fS_7 fS_8 fS_9 fS_l fS_f fS_l0 fS_l1 fS_l2 fS_l3 fS_l4 fS_l0_1 fS_l0_2 fS_l1_1 fS_l1_2 fS_l2_1 fS_l2_2 fS_l3_1 fS_l3_2 fS_l4_1 fS_l4_2 fS_l5_1 fS_l5_2
  have fE_0 := KE_8.out.cell 0 (.int .i64 (re)) rfl
  have fE_1 := KE_8.out.cell 1 (.int .i64 (w0 * le)) rfl
  have fE_l := KE_8.out.lt
  have fF_0 := KF_8.out.cell 0 (.int .i64 (0)) rfl
  have fF_1 := KF_8.out.cell 1 (.int .i64 (w0 * bl * bl)) rfl
  have fF_l := KF_8.out.lt
  have fS_0 := KS_8.out.cell 0 (.int .i64 (0)) rfl
  have fS_1 := KS_8.out.cell 1 (.int .i64 (0)) rfl
  have fS_2 := KS_8.out.cell 2 (.int .i64 (sr)) rfl
  have fS_3 := KS_8.out.cell 3 (.int .i64 (si)) rfl
  have fS_4 := KS_8.out.cell 4 (.int .i64 (xr)) rfl
  have fS_5 := KS_8.out.cell 5 (.int .i64 (xi)) rfl
  have fS_6 := KS_8.out.cell 6 (.int .i64 (air)) rfl
  have fS_7 := KS_8.out.cell 7 (.int .i64 (0)) rfl
  have fS_8 := KS_8.out.cell 8 (.int .i64 (pr)) rfl
  have fS_9 := KS_8.out.cell 9 (.int .i64 (pi)) rfl
  have fS_l := KS_8.out.lt
  refine Rel.region3 9 (by kernel_rfl) (by kernel_rfl) (by kernel_rfl) ?_
  simp only [List.take_succ_cons, List.take_zero, List.drop_succ_cons, List.drop_zero, List.filterMap_cons, List.filterMap_nil]
  (apply Rel.op3; (focus (first | exact Rel.gno rfl | exact Rel.gyes _ true _ rfl rfl rfl | exact Rel.gyes _ false _ rfl rfl rfl)); (focus (intro a W hb hd hbase; obtain ⟨hc, hf⟩ := bcell hb; clear hb hf; simp [Rel.deps, Rel.dep1, Rel.ons, Region.binds, Act.eval] at hd; simp only [Act.eval, List.mem_cons, List.not_mem_nil, not_or, and_imp, or_false, Array.getD_eq_getD_getElem?] at hbase; go_simp; (try go_bits); (try rfl); done)); (try simp only [List.nil_append, List.cons_append]))
  (apply Rel.op3; (focus (first | exact Rel.gno rfl | exact Rel.gyes _ true _ rfl rfl rfl | exact Rel.gyes _ false _ rfl rfl rfl)); (focus (intro a W hb hd hbase; obtain ⟨hc, hf⟩ := bcell hb; clear hb hf; simp [Rel.deps, Rel.dep1, Rel.ons, Region.binds, Act.eval] at hd; simp only [Act.eval, List.mem_cons, List.not_mem_nil, not_or, and_imp, or_false, Array.getD_eq_getD_getElem?] at hbase; go_simp; (try go_bits); (try rfl); done)); (try simp only [List.nil_append, List.cons_append]))
  (apply Rel.op3; (focus (first | exact Rel.gno rfl | exact Rel.gyes _ true _ rfl rfl rfl | exact Rel.gyes _ false _ rfl rfl rfl)); (focus (intro a W hb hd hbase; obtain ⟨hc, hf⟩ := bcell hb; clear hb hf; simp [Rel.deps, Rel.dep1, Rel.ons, Region.binds, Act.eval] at hd; simp only [Act.eval, List.mem_cons, List.not_mem_nil, not_or, and_imp, or_false, Array.getD_eq_getD_getElem?] at hbase; go_simp; (try go_bits); (try rfl); done)); (try simp only [List.nil_append, List.cons_append]))
  (apply Rel.call3; (focus (first | exact Rel.gno rfl | exact Rel.gyes _ true _ rfl rfl rfl | exact Rel.gyes _ false _ rfl rfl rfl)); (focus (intro a W hb hd hbase; obtain ⟨hc, hf⟩ := bcell hb; clear hb hf; simp [Rel.deps, Rel.dep1, Rel.ons, Region.binds, Act.eval] at hd; simp only [Act.eval, List.mem_cons, List.not_mem_nil, not_or, and_imp, or_false, Array.getD_eq_getD_getElem?] at hbase; go_simp; refine ⟨?_, ?_⟩; rfl; rfl)); (focus (intro W hb; go_at_call 52; exact HU.out _)); (try simp only [List.nil_append, List.cons_append]))
  (apply Rel.op3; (focus (first | exact Rel.gno rfl | exact Rel.gyes _ true _ rfl rfl rfl | exact Rel.gyes _ false _ rfl rfl rfl)); (focus (intro a W hb hd hbase; obtain ⟨hc, hf⟩ := bcell hb; clear hb hf; simp [Rel.deps, Rel.dep1, Rel.ons, Region.binds, Act.eval] at hd; simp only [Act.eval, List.mem_cons, List.not_mem_nil, not_or, and_imp, or_false, Array.getD_eq_getD_getElem?] at hbase; go_simp; (try go_bits); (try rfl); done)); (try simp only [List.nil_append, List.cons_append]))
  (apply Rel.op3; (focus (first | exact Rel.gno rfl | exact Rel.gyes _ true _ rfl rfl rfl | exact Rel.gyes _ false _ rfl rfl rfl)); (focus (intro a W hb hd hbase; obtain ⟨hc, hf⟩ := bcell hb; clear hb hf; simp [Rel.deps, Rel.dep1, Rel.ons, Region.binds, Act.eval] at hd; simp only [Act.eval, List.mem_cons, List.not_mem_nil, not_or, and_imp, or_false, Array.getD_eq_getD_getElem?] at hbase; go_simp; (try go_bits); (try rfl); done)); (try simp only [List.nil_append, List.cons_append]))
  (apply Rel.op3; (focus (first | exact Rel.gno rfl | exact Rel.gyes _ true _ rfl rfl rfl | exact Rel.gyes _ false _ rfl rfl rfl)); (focus (intro a W hb hd hbase; obtain ⟨hc, hf⟩ := bcell hb; clear hb hf; simp [Rel.deps, Rel.dep1, Rel.ons, Region.binds, Act.eval] at hd; simp only [Act.eval, List.mem_cons, List.not_mem_nil, not_or, and_imp, or_false, Array.getD_eq_getD_getElem?] at hbase; go_simp; (try go_bits); (try rfl); done)); (try simp only [List.nil_append, List.cons_append]))
  (apply Rel.call3; (focus (first | exact Rel.gno rfl | exact Rel.gyes _ true _ rfl rfl rfl | exact Rel.gyes _ false _ rfl rfl rfl)); (focus (intro a W hb hd hbase; obtain ⟨hc, hf⟩ := bcell hb; clear hb hf; simp [Rel.deps, Rel.dep1, Rel.ons, Region.binds, Act.eval] at hd; simp only [Act.eval, List.mem_cons, List.not_mem_nil, not_or, and_imp, or_false, Array.getD_eq_getD_getElem?] at hbase; go_simp; refine ⟨?_, ?_⟩; rfl; rfl)); (focus (intro W hb; go_at_call 52; exact HV.out _)); (try simp only [List.nil_append, List.cons_append]))
  (apply Rel.call3; (focus (first | exact Rel.gno rfl | exact Rel.gyes _ true _ rfl rfl rfl | exact Rel.gyes _ false _ rfl rfl rfl)); (focus (intro a W hb hd hbase; obtain ⟨hc, hf⟩ := bcell hb; clear hb hf; simp [Rel.deps, Rel.dep1, Rel.ons, Region.binds, Act.eval] at hd; simp only [Act.eval, List.mem_cons, List.not_mem_nil, not_or, and_imp, or_false, Array.getD_eq_getD_getElem?] at hbase; go_simp; refine ⟨?_, ?_⟩; rfl; rfl)); (focus (intro W hb; go_at_call 113; exact HN.out _)); (try simp only [List.nil_append, List.cons_append]))
  refine Rel.done3 ?_
  intro x w9 h9 hx
  simp only [Rel.facts, Nat.zero_add, Nat.reduceAdd] at hx
  obtain ⟨e0, e1, e2, e3, e4, e5, e6, e7, e8, _⟩ := hx
  simp only [Rel.fill, Nat.zero_add, Nat.reduceAdd, e0, e1, e2, e3, e4, e5, e6, e7, e8]
  simp only [Act.put, List.setIfInBounds_toArray, List.set_cons_zero, List.set_cons_succ]
  clear e0 e1 e2 e3 e4 e5 e6 e7 e8
  have hB9 := hB8.trans (h9.mono hB8.size)
  have KD_9 := Lib.hid (show Blk w9 (w.heap.size) #[(.int .i64 (re)), (.int .i64 (le)), (.int .i64 (bl)), (.int .i64 (ma)), (.int .i64 (st)), (.int .i64 (lo))] from KD_8.out.below h9)
  have KX_9 := Lib.hid (show Blk w9 (w.heap.size + 1) #[(.int .i64 (air)), (.int .i64 (bm)), (.int .i64 (bs)), (.int .i64 (bo))] from KX_8.out.below h9)
  have KR_9 := Lib.hid (show Blk w9 (w.heap.size + 1 + 1) #[(.int .i64 (0)), (.int .i64 (0)), (.int .i64 (0)), (.int .i64 (0)), (.int .i64 (0)), (.int .i64 (0)), (.int .i64 (0)), (.int .i64 (0)), (.int .i64 (0)), (.int .i64 (0))] from KR_8.out.below h9)
  have KE_9 := Lib.hid (show Blk w9 (w.heap.size + 1 + 1 + 1) #[(.int .i64 (re)), (.int .i64 (w0 * le))] from KE_8.out.below h9)
  have KF_9 := Lib.hid (show Blk w9 (w.heap.size + 1 + 1 + 1 + 1) #[(.int .i64 (0)), (.int .i64 (w0 * bl * bl))] from KF_8.out.below h9)
  have KS_9 := Lib.hid (show Blk w9 (w.heap.size + 1 + 1 + 1 + 1 + 1) #[(.int .i64 (0)), (.int .i64 (0)), (.int .i64 (sr)), (.int .i64 (si)), (.int .i64 (xr)), (.int .i64 (xi)), (.int .i64 (air)), (.int .i64 (0)), (.int .i64 (pr)), (.int .i64 (pi))] from KS_8.out.below h9)
  have Kp_9 := Lib.hid (show Blk w9 (w1.heap.size) #[(.int .i64 (pr)), (.int .i64 (pi))] from Kp_8.out.below h9)
  have Kx_9 := Lib.hid (show Blk w9 (gx) #[(.int .i64 (xr)), (.int .i64 (xi))] from Kx_8.out.below h9)
  clear h9 hB8 KD_8 KX_8 KR_8 KE_8 KF_8 KS_8 Kp_8 Kx_8 fE_0 fE_1 fE_l fF_0 fF_1 fF_l fS_0 fS_1 fS_2 fS_3 fS_4 fS_5 fS_6 fS_7 fS_8 fS_9 fS_l
  have fS_0 := KS_9.out.cell 0 (.int .i64 (0)) rfl
  have fS_1 := KS_9.out.cell 1 (.int .i64 (0)) rfl
  have fS_2 := KS_9.out.cell 2 (.int .i64 (sr)) rfl
  have fS_3 := KS_9.out.cell 3 (.int .i64 (si)) rfl
  have fS_4 := KS_9.out.cell 4 (.int .i64 (xr)) rfl
  have fS_5 := KS_9.out.cell 5 (.int .i64 (xi)) rfl
  have fS_6 := KS_9.out.cell 6 (.int .i64 (air)) rfl
  have fS_7 := KS_9.out.cell 7 (.int .i64 (0)) rfl
  have fS_8 := KS_9.out.cell 8 (.int .i64 (pr)) rfl
  have fS_9 := KS_9.out.cell 9 (.int .i64 (pi)) rfl
  have fS_l := KS_9.out.lt
  have fS_f := KS_9.out.f
  have fS_l0 : w.heap.size < w9.heap.size := by omega
  have fS_l1 : w.heap.size + 1 < w9.heap.size := by omega
  have fS_l2 : w.heap.size + 1 + 1 < w9.heap.size := by omega
  have fS_l3 : w.heap.size + 1 + 1 + 1 < w9.heap.size := by omega
  have fS_l4 : w.heap.size + 1 + 1 + 1 + 1 < w9.heap.size := by omega
  have fS_l0_1 : w.heap.size < w9.heap.size + 1 := by omega
  have fS_l0_2 : w.heap.size < w9.heap.size + 1 + 1 := by omega
  have fS_l1_1 : w.heap.size + 1 < w9.heap.size + 1 := by omega
  have fS_l1_2 : w.heap.size + 1 < w9.heap.size + 1 + 1 := by omega
  have fS_l2_1 : w.heap.size + 1 + 1 < w9.heap.size + 1 := by omega
  have fS_l2_2 : w.heap.size + 1 + 1 < w9.heap.size + 1 + 1 := by omega
  have fS_l3_1 : w.heap.size + 1 + 1 + 1 < w9.heap.size + 1 := by omega
  have fS_l3_2 : w.heap.size + 1 + 1 + 1 < w9.heap.size + 1 + 1 := by omega
  have fS_l4_1 : w.heap.size + 1 + 1 + 1 + 1 < w9.heap.size + 1 := by omega
  have fS_l4_2 : w.heap.size + 1 + 1 + 1 + 1 < w9.heap.size + 1 + 1 := by omega
  have fS_l5_1 : w.heap.size + 1 + 1 + 1 + 1 + 1 < w9.heap.size + 1 := by omega
  have fS_l5_2 : w.heap.size + 1 + 1 + 1 + 1 + 1 < w9.heap.size + 1 + 1 := by omega
  have fR_0 := KR_9.out.cell 0 (.int .i64 (0)) rfl
  have fR_1 := KR_9.out.cell 1 (.int .i64 (0)) rfl
  have fR_2 := KR_9.out.cell 2 (.int .i64 (0)) rfl
  have fR_3 := KR_9.out.cell 3 (.int .i64 (0)) rfl
  have fR_4 := KR_9.out.cell 4 (.int .i64 (0)) rfl
  have fR_5 := KR_9.out.cell 5 (.int .i64 (0)) rfl
  have fR_6 := KR_9.out.cell 6 (.int .i64 (0)) rfl
  have fR_7 := KR_9.out.cell 7 (.int .i64 (0)) rfl
  have fR_8 := KR_9.out.cell 8 (.int .i64 (0)) rfl
  have fR_9 := KR_9.out.cell 9 (.int .i64 (0)) rfl
  have fR_l := KR_9.out.lt
  have fR_f := KR_9.out.f
  have fR_l0 : w.heap.size < w9.heap.size := by omega
  have fR_l1 : w.heap.size + 1 < w9.heap.size := by omega
  have fR_l0_1 : w.heap.size < w9.heap.size + 1 := by omega
  have fR_l0_2 : w.heap.size < w9.heap.size + 1 + 1 := by omega
  have fR_l1_1 : w.heap.size + 1 < w9.heap.size + 1 := by omega
  have fR_l1_2 : w.heap.size + 1 < w9.heap.size + 1 + 1 := by omega
  have fR_l2_1 : w.heap.size + 1 + 1 < w9.heap.size + 1 := by omega
  have fR_l2_2 : w.heap.size + 1 + 1 < w9.heap.size + 1 + 1 := by omega
  go_wp2
  refine bodyPost_ret (v := .agg #[(.int .i64 (nr)), (.int .i64 (ni)), (.int .i64 (sr)), (.int .i64 (si)), (.int .i64 (xr)), (.int .i64 (xi)), (.int .i64 (air)), (.int .i64 (0)), (.int .i64 (pr)), (.int .i64 (pi))]) (by simp [results, Tryd.results89, go_sem, *]) rfl ⟨rfl, ?_⟩
  iterate 12 refine Below.setCell ?_ (by first | (show w.heap.size ≤ w.heap.size + 1 + 1; omega) | (show w.heap.size ≤ w.heap.size + 1 + 1 + 1 + 1 + 1; omega)) _
  exact hB9
end Go.Proofs.YtpkldjlljoledaaDoor

/- A new block in the head of a region walked by Rel3. -/
namespace Go.Proofs.YtpkldjlljoledaaDoor.Rel
open Go.RowKit
variable {P : Program} {DS : List Tmp} {w0 : World} {a0 : Act} {T : Ctx → Prop} {Γ : Ctx} {o : Oper} {rest : List Oper}
theorem alloc3 (t : TypeId) (cs : Array Value) (hg : GOK3 Γ o)
    (h : ∀ (a : Act) (W : World), (execOp a.eval o).run P W = .ok (.value (.pointer (some ⟨W.heap.size, 0, none⟩))) (W.alloc (.cells cs t)))
    (hn : walk3 P DS w0 a0 T (Γ ++ [(o.dst, New w0.heap.size cs)]) rest) : walk3 P DS w0 a0 T Γ (o :: rest) :=
  ⟨_, stable_new _ cs, hg, fun a W hb hd hbase K Q hK => by
    unfold Oper.wp
    rw [h a W]
    exact hK _ _ ⟨_, rfl, hb.size, Calm.Blk.new W t cs⟩ ((Below.refl _ _).alloc (Nat.le_refl _) _), hn⟩
end Go.Proofs.YtpkldjlljoledaaDoor.Rel
