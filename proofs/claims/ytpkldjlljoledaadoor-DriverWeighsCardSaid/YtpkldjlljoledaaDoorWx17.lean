/- Part 17 of the texts of the claim: Wei_01, Wei_10, Wei_11. -/
import Derived.Test.YtpkldjlljoledaaDoorWx16

/- The walk of DriverWeighs, one of six cases. -/
namespace Go.Proofs.YtpkldjlljoledaaDoor
open Go.RowKit
open Calm (bcell Blk)
set_option maxRecDepth 100000 in
set_option maxHeartbeats 16000000 in
theorem wei_01 (d1 d2 d3 d4 d5 d6 ad k1 k2 k3 k4 k5 k6 k7 k8 : Int) (w : World) (hL : Lim w)
    (HCD : Hid (∀ W : World, Calls Tryd.prog 17 #[.agg #[(.int .i64 (d1)), (.int .i64 (d2)), (.int .i64 (d3)), (.int .i64 (d4)), (.int .i64 (d5)), (.int .i64 (d6))]] W fun r w' => r = .returned ((.int .i64 (0))) ∧ Below W.heap.size W w'))
    (HQ : Hid (∀ W : World, Lim W → Calls Tryd.prog 38 #[.agg #[(.int .i64 (d1)), (.int .i64 (d2)), (.int .i64 (d3)), (.int .i64 (d4)), (.int .i64 (d5)), (.int .i64 (d6))]] W fun r w' => r = .returned (.tuple #[.agg #[(.int .i64 (k1)), (.int .i64 (k2)), (.int .i64 (k3)), (.int .i64 (k4)), (.int .i64 (k5)), (.int .i64 (k6))], (.int .i64 (0))]) ∧ Below W.heap.size W w'))
    (HQO : Hid (∀ W : World, Lim W → Calls Tryd.prog 38 #[.agg #[(.int .i64 (4 * d1)), (.int .i64 (d2)), (.int .i64 (2 * d3)), (.int .i64 (d4)), (.int .i64 (d5)), (.int .i64 (d6))]] W fun r w' => r = .returned (.tuple #[.agg #[(.int .i64 (k1)), (.int .i64 (k2)), (.int .i64 (k3)), (.int .i64 (k4)), (.int .i64 (k7)), (.int .i64 (k8))], (.int .i64 (0))]) ∧ Below W.heap.size W w'))
    (ha : 0 ≤ ad ∧ ad ≤ 255)
    (q1 : 1 ≤ d1 ∧ d1 ≤ 50)
    (q3 : 1 ≤ d3 ∧ d3 ≤ 20)
    (q4 : 1 ≤ d4 ∧ d4 ≤ 100)
    (b1 : 1 ≤ k1 ∧ k1 ≤ 2147483648)
    (b2 : 1 ≤ k2 ∧ k2 ≤ 2147483648)
    (b3 : 1 ≤ k3 ∧ k3 ≤ 2147483648)
    (b4 : 1 ≤ k4 ∧ k4 ≤ 2147483648)
    (b5 : 1 ≤ k5 ∧ k5 ≤ 2147483648)
    (b6 : 1 ≤ k6 ∧ k6 ≤ 2147483648)
    (p1 : 0 ≤ k5 * k2 ∧ k5 * k2 ≤ k1 * k6 ∧ k1 * k6 ≤ 1000000000000000000)
    (p2 : 0 ≤ k5 * k4 ∧ k5 * k4 ≤ k3 * k6 ∧ k3 * k6 ≤ 1000000000000000000)
    (hX : 4 * d1 ≤ 50 ∧ 2 * d3 ≤ 20)
    (hY : 100 < d4 + (1 + ad % 100))
    : Calls Tryd.prog 8 #[.agg #[(.int .i64 (d1)), (.int .i64 (d2)), (.int .i64 (d3)), (.int .i64 (d4)), (.int .i64 (d5)), (.int .i64 (d6))], .int .u8 ad] w fun r w' => r = .returned (.bool true) ∧ Below w.heap.size w w' := by
  have hB0 := Below.refl w.heap.size w
  go_enter Tryd.func8, Tryd.ntmps8
  go_wp2_with (go_at_call 11; refine (awake_any _ (hL.below (hB0.alloc hB0.size _))).mono ?_; rintro r w1 ⟨rfl, h1⟩; refine Hid.out ?_)
  unfold Hid
  have hB1 := (hB0.alloc hB0.size _).trans (h1.mono (Nat.le_trans hB0.size (by simp; try omega)))
  have KD_1 := Lib.hid (show Blk w1 (w.heap.size) #[(.int .i64 (d1)), (.int .i64 (d2)), (.int .i64 (d3)), (.int .i64 (d4)), (.int .i64 (d5)), (.int .i64 (d6))] from (Calm.Blk.new _ _ #[(.int .i64 (d1)), (.int .i64 (d2)), (.int .i64 (d3)), (.int .i64 (d4)), (.int .i64 (d5)), (.int .i64 (d6))]).below h1)
  clear h1 hB0
  have fD_0 := KD_1.out.cell 0 (.int .i64 (d1)) rfl
  have fD_1 := KD_1.out.cell 1 (.int .i64 (d2)) rfl
  have fD_2 := KD_1.out.cell 2 (.int .i64 (d3)) rfl
  have fD_3 := KD_1.out.cell 3 (.int .i64 (d4)) rfl
  have fD_4 := KD_1.out.cell 4 (.int .i64 (d5)) rfl
  have fD_5 := KD_1.out.cell 5 (.int .i64 (d6)) rfl
  have fD_l := KD_1.out.lt
  have fD_f := KD_1.out.f
  have fD_l0_1 : w.heap.size < w1.heap.size + 1 := by omega
  have fD_l0_2 : w.heap.size < w1.heap.size + 1 + 1 := by omega
  go_wp2_with (go_at_call 17; refine (HCD.out _).mono ?_; rintro r w2 ⟨rfl, h2⟩; refine Hid.out ?_)
  unfold Hid
  have hB2 := hB1.trans (h2.mono hB1.size)
  have KD_2 := Lib.hid (show Blk w2 (w.heap.size) #[(.int .i64 (d1)), (.int .i64 (d2)), (.int .i64 (d3)), (.int .i64 (d4)), (.int .i64 (d5)), (.int .i64 (d6))] from KD_1.out.below h2)
  clear h2 hB1 KD_1 fD_0 fD_1 fD_2 fD_3 fD_4 fD_5 fD_l fD_f fD_l0_1 fD_l0_2
  have fD_0 := KD_2.out.cell 0 (.int .i64 (d1)) rfl
  have fD_1 := KD_2.out.cell 1 (.int .i64 (d2)) rfl
  have fD_2 := KD_2.out.cell 2 (.int .i64 (d3)) rfl
  have fD_3 := KD_2.out.cell 3 (.int .i64 (d4)) rfl
  have fD_4 := KD_2.out.cell 4 (.int .i64 (d5)) rfl
  have fD_5 := KD_2.out.cell 5 (.int .i64 (d6)) rfl
  have fD_l := KD_2.out.lt
  have fD_f := KD_2.out.f
  have fD_l0_1 : w.heap.size < w2.heap.size + 1 := by omega
  have fD_l0_2 : w.heap.size < w2.heap.size + 1 + 1 := by omega
  go_wp2_with (go_at_call 38; refine (HQ.out _ (hL.below hB2)).mono ?_; rintro r w3 ⟨rfl, h3⟩; refine Hid.out ?_)
  unfold Hid
  have hB3 := hB2.trans (h3.mono hB2.size)
  have KD_3 := Lib.hid (show Blk w3 (w.heap.size) #[(.int .i64 (d1)), (.int .i64 (d2)), (.int .i64 (d3)), (.int .i64 (d4)), (.int .i64 (d5)), (.int .i64 (d6))] from KD_2.out.below h3)
  clear h3 hB2 KD_2 fD_0 fD_1 fD_2 fD_3 fD_4 fD_5 fD_l fD_f fD_l0_1 fD_l0_2
  go_wp2
  refine name_world ?_
  intro w4 e4
  have hB4 : Below w.heap.size w w4 := e4.symm ▸ (hB3.alloc hB3.size _)
  have oD_4 : w.heap.size < w3.heap.size := KD_3.out.lt
  have KD_4 := Lib.hid (show Blk w4 (w.heap.size) #[(.int .i64 (d1)), (.int .i64 (d2)), (.int .i64 (d3)), (.int .i64 (d4)), (.int .i64 (d5)), (.int .i64 (d6))] from e4.symm ▸ (KD_3.out.alloc _))
  have Kk_4 := Lib.hid (show Blk w4 (w3.heap.size) #[(.int .i64 (k1)), (.int .i64 (k2)), (.int .i64 (k3)), (.int .i64 (k4)), (.int .i64 (k5)), (.int .i64 (k6))] from e4.symm ▸ (Calm.Blk.new _ _ #[(.int .i64 (k1)), (.int .i64 (k2)), (.int .i64 (k3)), (.int .i64 (k4)), (.int .i64 (k5)), (.int .i64 (k6))]))
  have z4 : w3.heap.size + 1 ≤ w4.heap.size := by rw [e4]; simp
  clear e4 hB3 KD_3
  go_loopw [41] (fun i wr => ∃ k : Int, 0 ≤ k ∧ k ≤ 3 ∧ i = (.int .i64 (k)) ∧ Blk wr (w.heap.size) #[(.int .i64 (d1)), (.int .i64 (d2)), (.int .i64 (d3)), (.int .i64 (d4)), (.int .i64 (d5)), (.int .i64 (d6))] ∧ Blk wr (w3.heap.size) #[(.int .i64 (k1)), (.int .i64 (k2)), (.int .i64 (k3)), (.int .i64 (k4)), (.int .i64 (k5)), (.int .i64 (k6))] ∧ Below w.heap.size w wr) (fun i _ => 3 - (intOf i).toNat)
  case atStart => exact ⟨0, by omega, by omega, rfl, KD_4.out, Kk_4.out, hB4⟩
  case round =>
    clear KD_4 Kk_4 hB4
    obtain ⟨k, hk0, hk, rfl, hD, hK, hB⟩ := hrel
    have HD := Lib.hid hD
    have HK := Lib.hid hK
    clear hD hK
    have hkk : k = 0 ∨ k = 1 ∨ k = 2 ∨ k = 3 := by omega
    rcases hkk with rfl | rfl | rfl | rfl
    · have ix := wix0 k1 k2 k3 k4 k5 k6
      go_wp2
      go_roundw
      case rel => exact ⟨1, by omega, by omega, rfl, HD.out.alloc _, HK.out.alloc _, hB.alloc hB.size _⟩
      case measure => simp [intOf]
    · have ix := wix1 k1 k2 k3 k4 k5 k6
      go_wp2
      go_roundw
      case rel => exact ⟨2, by omega, by omega, rfl, HD.out.alloc _, HK.out.alloc _, hB.alloc hB.size _⟩
      case measure => simp [intOf]
    · have ix := wix2 k1 k2 k3 k4 k5 k6
      go_wp2
      go_roundw
      case rel => exact ⟨3, by omega, by omega, rfl, HD.out.alloc _, HK.out.alloc _, hB.alloc hB.size _⟩
      case measure => simp [intOf]
    · have hB9 := hB
      clear hB
      have fD_0 := HD.out.cell 0 (.int .i64 (d1)) rfl
      have fD_1 := HD.out.cell 1 (.int .i64 (d2)) rfl
      have fD_2 := HD.out.cell 2 (.int .i64 (d3)) rfl
      have fD_3 := HD.out.cell 3 (.int .i64 (d4)) rfl
      have fD_4 := HD.out.cell 4 (.int .i64 (d5)) rfl
      have fD_5 := HD.out.cell 5 (.int .i64 (d6)) rfl
      have fD_l := HD.out.lt
      have fD_f := HD.out.f
      have fD_l0_1 : w.heap.size < wr.heap.size + 1 := by omega
      have fD_l0_2 : w.heap.size < wr.heap.size + 1 + 1 := by omega
      have fD_l0_3 : w.heap.size < wr.heap.size + 1 + 1 + 1 := by omega
      have fk_0 := HK.out.cell 0 (.int .i64 (k1)) rfl
      have fk_1 := HK.out.cell 1 (.int .i64 (k2)) rfl
      have fk_2 := HK.out.cell 2 (.int .i64 (k3)) rfl
      have fk_3 := HK.out.cell 3 (.int .i64 (k4)) rfl
      have fk_4 := HK.out.cell 4 (.int .i64 (k5)) rfl
      have fk_5 := HK.out.cell 5 (.int .i64 (k6)) rfl
      have fk_l := HK.out.lt
      have fk_f := HK.out.f
      have fk_l0_1 : w3.heap.size < wr.heap.size + 1 := by omega
      have fk_l0_2 : w3.heap.size < wr.heap.size + 1 + 1 := by omega
      have fk_l0_3 : w3.heap.size < wr.heap.size + 1 + 1 + 1 := by omega
      go_wp2
      refine name_world ?_
      intro w5 e5
      have hB5 : Below w.heap.size w w5 := e5.symm ▸ (hB9.alloc hB9.size _)
      have oD_5 : w.heap.size < wr.heap.size := HD.out.lt
      have ok_5 : w3.heap.size < wr.heap.size := HK.out.lt
      have KD_5 := Lib.hid (show Blk w5 (w.heap.size) #[(.int .i64 (d1)), (.int .i64 (d2)), (.int .i64 (d3)), (.int .i64 (d4)), (.int .i64 (d5)), (.int .i64 (d6))] from e5.symm ▸ (HD.out.alloc _))
      have Kk_5 := Lib.hid (show Blk w5 (w3.heap.size) #[(.int .i64 (k1)), (.int .i64 (k2)), (.int .i64 (k3)), (.int .i64 (k4)), (.int .i64 (k5)), (.int .i64 (k6))] from e5.symm ▸ (HK.out.alloc _))
      have Ko_5 := Lib.hid (show Blk w5 (wr.heap.size) #[(.int .i64 (d1)), (.int .i64 (d2)), (.int .i64 (d3)), (.int .i64 (d4)), (.int .i64 (d5)), (.int .i64 (d6))] from e5.symm ▸ (Calm.Blk.new _ _ #[(.int .i64 (d1)), (.int .i64 (d2)), (.int .i64 (d3)), (.int .i64 (d4)), (.int .i64 (d5)), (.int .i64 (d6))]))
      have z5 : wr.heap.size + 1 ≤ w5.heap.size := by rw [e5]; simp
      clear e5 hB9 HD HK fD_0 fD_1 fD_2 fD_3 fD_4 fD_5 fD_l fD_f fD_l0_1 fD_l0_2 fD_l0_3 fk_0 fk_1 fk_2 fk_3 fk_4 fk_5 fk_l fk_f fk_l0_1 fk_l0_2 fk_l0_3
      have fD_0 := KD_5.out.cell 0 (.int .i64 (d1)) rfl
      have fD_1 := KD_5.out.cell 1 (.int .i64 (d2)) rfl
      have fD_2 := KD_5.out.cell 2 (.int .i64 (d3)) rfl
      have fD_3 := KD_5.out.cell 3 (.int .i64 (d4)) rfl
      have fD_4 := KD_5.out.cell 4 (.int .i64 (d5)) rfl
      have fD_5 := KD_5.out.cell 5 (.int .i64 (d6)) rfl
      have fD_l := KD_5.out.lt
      refine RelG.region3 (S := Keeps (wr.heap.size) #[(.int .i64 (4 * d1)), (.int .i64 (d2)), (.int .i64 (d3)), (.int .i64 (d4)), (.int .i64 (d5)), (.int .i64 (d6))]) Keeps.trans Keeps.drawn 8 (by kernel_rfl) (by kernel_rfl) (by kernel_rfl) ?_
      simp only [List.take_succ_cons, List.take_zero, List.drop_succ_cons, List.drop_zero, List.filterMap_cons, List.filterMap_nil]
      (apply RelG.op3 (Keeps.refl _ _); (focus (first | exact Rel.gno rfl | exact Rel.gyes _ true _ rfl rfl rfl)); (focus (intro a W hb hd hbase; obtain ⟨hc, hf⟩ := hb.old; clear hb hf; simp [Rel.deps, Rel.dep1, Rel.ons, Region.binds, Act.eval] at hd; simp only [Act.eval, List.mem_cons, List.not_mem_nil, not_or, and_imp, or_false, Array.getD_eq_getD_getElem?] at hbase; go_simp; (try go_bits); (try rfl); done)); (try simp only [List.nil_append, List.cons_append]))
      (apply RelG.op3 (Keeps.refl _ _); (focus (first | exact Rel.gno rfl | exact Rel.gyes _ true _ rfl rfl rfl)); (focus (intro a W hb hd hbase; obtain ⟨hc, hf⟩ := hb.old; clear hb hf; simp [Rel.deps, Rel.dep1, Rel.ons, Region.binds, Act.eval] at hd; simp only [Act.eval, List.mem_cons, List.not_mem_nil, not_or, and_imp, or_false, Array.getD_eq_getD_getElem?] at hbase; go_simp; (try go_bits); (try rfl); done)); (try simp only [List.nil_append, List.cons_append]))
      (apply RelG.op3 (Keeps.refl _ _); (focus (first | exact Rel.gno rfl | exact Rel.gyes _ true _ rfl rfl rfl)); (focus (intro a W hb hd hbase; obtain ⟨hc, hf⟩ := hb.old; clear hb hf; simp [Rel.deps, Rel.dep1, Rel.ons, Region.binds, Act.eval] at hd; simp only [Act.eval, List.mem_cons, List.not_mem_nil, not_or, and_imp, or_false, Array.getD_eq_getD_getElem?] at hbase; go_simp; (try go_bits); (try rfl); done)); (try simp only [List.nil_append, List.cons_append]))
      (apply RelG.op3 (Keeps.refl _ _); (focus (first | exact Rel.gno rfl | exact Rel.gyes _ true _ rfl rfl rfl)); (focus (intro a W hb hd hbase; obtain ⟨hc, hf⟩ := hb.old; clear hb hf; simp [Rel.deps, Rel.dep1, Rel.ons, Region.binds, Act.eval] at hd; simp only [Act.eval, List.mem_cons, List.not_mem_nil, not_or, and_imp, or_false, Array.getD_eq_getD_getElem?] at hbase; go_simp; (try go_bits); (try rfl); done)); (try simp only [List.nil_append, List.cons_append]))
      (apply RelG.op3 (Keeps.refl _ _); (focus (first | exact Rel.gno rfl | exact Rel.gyes _ true _ rfl rfl rfl)); (focus (intro a W hb hd hbase; obtain ⟨hc, hf⟩ := hb.old; clear hb hf; simp [Rel.deps, Rel.dep1, Rel.ons, Region.binds, Act.eval] at hd; simp only [Act.eval, List.mem_cons, List.not_mem_nil, not_or, and_imp, or_false, Array.getD_eq_getD_getElem?] at hbase; go_simp; (try go_bits); (try rfl); done)); (try simp only [List.nil_append, List.cons_append]))
      (apply RelG.op3 (Keeps.refl _ _); (focus (first | exact Rel.gno rfl | exact Rel.gyes _ true _ rfl rfl rfl)); (focus (intro a W hb hd hbase; obtain ⟨hc, hf⟩ := hb.old; clear hb hf; simp [Rel.deps, Rel.dep1, Rel.ons, Region.binds, Act.eval] at hd; simp only [Act.eval, List.mem_cons, List.not_mem_nil, not_or, and_imp, or_false, Array.getD_eq_getD_getElem?] at hbase; go_simp; (try go_bits); (try rfl); done)); (try simp only [List.nil_append, List.cons_append]))
      (apply RelG.op3 (Keeps.refl _ _); (focus (first | exact Rel.gno rfl | exact Rel.gyes _ true _ rfl rfl rfl)); (focus (intro a W hb hd hbase; obtain ⟨hc, hf⟩ := hb.old; clear hb hf; simp [Rel.deps, Rel.dep1, Rel.ons, Region.binds, Act.eval] at hd; simp only [Act.eval, List.mem_cons, List.not_mem_nil, not_or, and_imp, or_false, Array.getD_eq_getD_getElem?] at hbase; go_simp; (try go_bits); (try rfl); done)); (try simp only [List.nil_append, List.cons_append]))
      refine RelG.store3 (fun W => W.cell? ⟨wr.heap.size, 0, none⟩ = some (.int .i64 (4 * d1))) (fun W W' h hS => (hS.cell 0).elim (fun e => e.trans h) (fun e => e.1)) (Rel.gno rfl) ?_ ?_
      · intro a W hb hd hbase
        obtain ⟨u, hu⟩ := hb.has Ko_5.out rfl (i := 0) (by simp)
        have hfr := (hb.frozen 0).trans (Ko_5.out.f 0)
        have hS := Keeps.put (v := (.int .i64 (4 * d1))) hu (new := #[(.int .i64 (4 * d1)), (.int .i64 (d2)), (.int .i64 (d3)), (.int .i64 (d4)), (.int .i64 (d5)), (.int .i64 (d6))]) rfl
        have hgt := (World.cell?_setCell_same W _ (.int .i64 (4 * d1)) hu)
        refine ⟨W.setCell ⟨wr.heap.size, 0, none⟩ (.int .i64 (4 * d1)), ?_, hgt, hS⟩
        clear hS hgt hb
        simp [Rel.deps, Rel.dep1, Rel.ons, Region.binds, Act.eval] at hd; simp only [Act.eval, List.mem_cons, List.not_mem_nil, not_or, and_imp, or_false, Array.getD_eq_getD_getElem?] at hbase
        go_simp
      (try simp only [List.nil_append, List.cons_append])
      refine RelG.done3 ?_
      intro x w6 hS hx
      simp only [Rel.facts, Nat.zero_add, Nat.reduceAdd] at hx
      obtain ⟨e0, e1, e2, e3, e4, e5, e6, e7, _⟩ := hx
      simp only [RelG.fill, Nat.zero_add, Nat.reduceAdd, e0, e1, e2, e3, e4, e5, e6]
      simp only [Act.put, List.setIfInBounds_toArray, List.set_cons_zero, List.set_cons_succ]
      have hB6 := hB5.trans (hS.below.mono (by omega))
      have KD_6 := Lib.hid (show Blk w6 (w.heap.size) #[(.int .i64 (d1)), (.int .i64 (d2)), (.int .i64 (d3)), (.int .i64 (d4)), (.int .i64 (d5)), (.int .i64 (d6))] from KD_5.out.sub hS.below (by omega))
      have Kk_6 := Lib.hid (show Blk w6 (w3.heap.size) #[(.int .i64 (k1)), (.int .i64 (k2)), (.int .i64 (k3)), (.int .i64 (k4)), (.int .i64 (k5)), (.int .i64 (k6))] from Kk_5.out.sub hS.below (by omega))
      have Ko_6 := Lib.hid (hS.blk Ko_5.out (fun i => by match i with | 0 => exact .inr e7 | 1 => exact .inl rfl | 2 => exact .inl rfl | 3 => exact .inl rfl | 4 => exact .inl rfl | 5 => exact .inl rfl | i + 6 => exact .inl rfl))
      clear e0 e1 e2 e3 e4 e5 e6 e7 hS hB5 KD_5 Kk_5 Ko_5 fD_0 fD_1 fD_2 fD_3 fD_4 fD_5 fD_l
      have fo_0 := Ko_6.out.cell 0 (.int .i64 (4 * d1)) rfl
      have fo_1 := Ko_6.out.cell 1 (.int .i64 (d2)) rfl
      have fo_2 := Ko_6.out.cell 2 (.int .i64 (d3)) rfl
      have fo_3 := Ko_6.out.cell 3 (.int .i64 (d4)) rfl
      have fo_4 := Ko_6.out.cell 4 (.int .i64 (d5)) rfl
      have fo_5 := Ko_6.out.cell 5 (.int .i64 (d6)) rfl
      have fo_l := Ko_6.out.lt
      have fo_f := Ko_6.out.f
      have fo_l0_1 : wr.heap.size < w6.heap.size + 1 := by omega
      have fo_l0_2 : wr.heap.size < w6.heap.size + 1 + 1 := by omega
      have fo_l0_3 : wr.heap.size < w6.heap.size + 1 + 1 + 1 := by omega
      go_wp2_with (go_at_call 38; refine (HQO.out _ (hL.below (hB6.setCell (p := ⟨wr.heap.size, 2, none⟩) (show w.heap.size ≤ wr.heap.size from by have := hB6.size; omega) (.int .i64 (2 * d3))))).mono ?_; rintro r w7 ⟨rfl, h7⟩; refine Hid.out ?_)
      unfold Hid
      have hB7 := (hB6.setCell (p := ⟨wr.heap.size, 2, none⟩) (show w.heap.size ≤ wr.heap.size from by have := hB6.size; omega) (.int .i64 (2 * d3))).trans (h7.mono (Nat.le_trans hB6.size (by simp; try omega)))
      have KD_7 := Lib.hid (show Blk w7 (w.heap.size) #[(.int .i64 (d1)), (.int .i64 (d2)), (.int .i64 (d3)), (.int .i64 (d4)), (.int .i64 (d5)), (.int .i64 (d6))] from (KD_6.out.far (p := ⟨wr.heap.size, 2, none⟩) (show wr.heap.size ≠ w.heap.size from by omega) (.int .i64 (2 * d3))).below h7)
      have Kk_7 := Lib.hid (show Blk w7 (w3.heap.size) #[(.int .i64 (k1)), (.int .i64 (k2)), (.int .i64 (k3)), (.int .i64 (k4)), (.int .i64 (k5)), (.int .i64 (k6))] from (Kk_6.out.far (p := ⟨wr.heap.size, 2, none⟩) (show wr.heap.size ≠ w3.heap.size from by omega) (.int .i64 (2 * d3))).below h7)
      have Ko_7 := Lib.hid (show Blk w7 (wr.heap.size) #[(.int .i64 (4 * d1)), (.int .i64 (d2)), (.int .i64 (2 * d3)), (.int .i64 (d4)), (.int .i64 (d5)), (.int .i64 (d6))] from (Ko_6.out.set (i := 2) (by simp) (.int .i64 (2 * d3))).below h7)
      clear h7 hB6 KD_6 Kk_6 Ko_6 fo_0 fo_1 fo_2 fo_3 fo_4 fo_5 fo_l fo_f fo_l0_1 fo_l0_2 fo_l0_3
      have fD_0 := KD_7.out.cell 0 (.int .i64 (d1)) rfl
      have fD_1 := KD_7.out.cell 1 (.int .i64 (d2)) rfl
      have fD_2 := KD_7.out.cell 2 (.int .i64 (d3)) rfl
      have fD_3 := KD_7.out.cell 3 (.int .i64 (d4)) rfl
      have fD_4 := KD_7.out.cell 4 (.int .i64 (d5)) rfl
      have fD_5 := KD_7.out.cell 5 (.int .i64 (d6)) rfl
      have fD_l := KD_7.out.lt
      have fD_f := KD_7.out.f
      have fD_l0_1 : w.heap.size < w7.heap.size + 1 := by omega
      have fD_l0_2 : w.heap.size < w7.heap.size + 1 + 1 := by omega
      have fD_l0_3 : w.heap.size < w7.heap.size + 1 + 1 + 1 := by omega
      have fD_l0_4 : w.heap.size < w7.heap.size + 1 + 1 + 1 + 1 := by omega
      have fk_0 := Kk_7.out.cell 0 (.int .i64 (k1)) rfl
      have fk_1 := Kk_7.out.cell 1 (.int .i64 (k2)) rfl
      have fk_2 := Kk_7.out.cell 2 (.int .i64 (k3)) rfl
      have fk_3 := Kk_7.out.cell 3 (.int .i64 (k4)) rfl
      have fk_4 := Kk_7.out.cell 4 (.int .i64 (k5)) rfl
      have fk_5 := Kk_7.out.cell 5 (.int .i64 (k6)) rfl
      have fk_l := Kk_7.out.lt
      have fk_f := Kk_7.out.f
      have fk_l0_1 : w3.heap.size < w7.heap.size + 1 := by omega
      have fk_l0_2 : w3.heap.size < w7.heap.size + 1 + 1 := by omega
      have fk_l0_3 : w3.heap.size < w7.heap.size + 1 + 1 + 1 := by omega
      have fk_l0_4 : w3.heap.size < w7.heap.size + 1 + 1 + 1 + 1 := by omega
      go_wp2
      go_ret
      exact ⟨by first | rfl | (simp; done), (hB7.alloc hB7.size _)⟩
end Go.Proofs.YtpkldjlljoledaaDoor

/- The walk of DriverWeighs, one of six cases. -/
namespace Go.Proofs.YtpkldjlljoledaaDoor
open Go.RowKit
open Calm (bcell Blk)
set_option maxRecDepth 100000 in
set_option maxHeartbeats 16000000 in
theorem wei_10 (d1 d2 d3 d4 d5 d6 ad k1 k2 k3 k4 k5 k6 f1 f2 g1 g2 : Int) (w : World) (hL : Lim w)
    (HCD : Hid (∀ W : World, Calls Tryd.prog 17 #[.agg #[(.int .i64 (d1)), (.int .i64 (d2)), (.int .i64 (d3)), (.int .i64 (d4)), (.int .i64 (d5)), (.int .i64 (d6))]] W fun r w' => r = .returned ((.int .i64 (0))) ∧ Below W.heap.size W w'))
    (HQ : Hid (∀ W : World, Lim W → Calls Tryd.prog 38 #[.agg #[(.int .i64 (d1)), (.int .i64 (d2)), (.int .i64 (d3)), (.int .i64 (d4)), (.int .i64 (d5)), (.int .i64 (d6))]] W fun r w' => r = .returned (.tuple #[.agg #[(.int .i64 (k1)), (.int .i64 (k2)), (.int .i64 (k3)), (.int .i64 (k4)), (.int .i64 (k5)), (.int .i64 (k6))], (.int .i64 (0))]) ∧ Below W.heap.size W w'))
    (HR1 : Hid (∀ W : World, Lim W → Calls Tryd.prog 37 #[.agg #[(.int .i64 (d1)), (.int .i64 (d2)), (.int .i64 (d3)), (.int .i64 (d4)), (.int .i64 (d5)), (.int .i64 (d6))]] W fun r w' => r = .returned (.tuple #[.agg #[(.int .i64 (f1)), (.int .i64 (f2))], (.int .i64 (0))]) ∧ Below W.heap.size W w'))
    (HR2 : Hid (∀ W : World, Lim W → Calls Tryd.prog 37 #[.agg #[(.int .i64 (d1)), (.int .i64 (d2)), (.int .i64 (d3)), (.int .i64 (d4 + (1 + ad % 100))), (.int .i64 (d5)), (.int .i64 (d6))]] W fun r w' => r = .returned (.tuple #[.agg #[(.int .i64 (g1)), (.int .i64 (g2))], (.int .i64 (0))]) ∧ Below W.heap.size W w'))
    (HT1 : Hid (∀ W : World, Calls Tryd.prog 41 #[.agg #[(.int .i64 (f1)), (.int .i64 (f2))]] W fun r w' => r = .returned ((.int .i64 (0))) ∧ Below W.heap.size W w'))
    (HT2 : Hid (∀ W : World, Calls Tryd.prog 41 #[.agg #[(.int .i64 (g1)), (.int .i64 (g2))]] W fun r w' => r = .returned ((.int .i64 (0))) ∧ Below W.heap.size W w'))
    (HW : Hid (∀ W : World, Calls Tryd.prog 39 #[.agg #[(.int .i64 (f1)), (.int .i64 (f2))], .agg #[(.int .i64 (g1)), (.int .i64 (g2))], (.int .i64 (1 + ad % 100))] W fun r w' => r = .returned (.tuple #[.agg #[(.int .i64 (d4)), (.int .i64 (1))], .agg #[(.int .i64 (d5)), (.int .i64 (1))], (.int .i64 (0))]) ∧ Below W.heap.size W w'))
    (ha : 0 ≤ ad ∧ ad ≤ 255)
    (q1 : 1 ≤ d1 ∧ d1 ≤ 50)
    (q3 : 1 ≤ d3 ∧ d3 ≤ 20)
    (q4 : 1 ≤ d4 ∧ d4 ≤ 100)
    (b1 : 1 ≤ k1 ∧ k1 ≤ 2147483648)
    (b2 : 1 ≤ k2 ∧ k2 ≤ 2147483648)
    (b3 : 1 ≤ k3 ∧ k3 ≤ 2147483648)
    (b4 : 1 ≤ k4 ∧ k4 ≤ 2147483648)
    (b5 : 1 ≤ k5 ∧ k5 ≤ 2147483648)
    (b6 : 1 ≤ k6 ∧ k6 ≤ 2147483648)
    (p1 : 0 ≤ k5 * k2 ∧ k5 * k2 ≤ k1 * k6 ∧ k1 * k6 ≤ 1000000000000000000)
    (p2 : 0 ≤ k5 * k4 ∧ k5 * k4 ≤ k3 * k6 ∧ k3 * k6 ≤ 1000000000000000000)
    (hX : 50 < 4 * d1)
    (hY : d4 + (1 + ad % 100) ≤ 100)
    : Calls Tryd.prog 8 #[.agg #[(.int .i64 (d1)), (.int .i64 (d2)), (.int .i64 (d3)), (.int .i64 (d4)), (.int .i64 (d5)), (.int .i64 (d6))], .int .u8 ad] w fun r w' => r = .returned (.bool true) ∧ Below w.heap.size w w' := by
  have hB0 := Below.refl w.heap.size w
  go_enter Tryd.func8, Tryd.ntmps8
  go_wp2_with (go_at_call 11; refine (awake_any _ (hL.below (hB0.alloc hB0.size _))).mono ?_; rintro r w1 ⟨rfl, h1⟩; refine Hid.out ?_)
  unfold Hid
  have hB1 := (hB0.alloc hB0.size _).trans (h1.mono (Nat.le_trans hB0.size (by simp; try omega)))
  have KD_1 := Lib.hid (show Blk w1 (w.heap.size) #[(.int .i64 (d1)), (.int .i64 (d2)), (.int .i64 (d3)), (.int .i64 (d4)), (.int .i64 (d5)), (.int .i64 (d6))] from (Calm.Blk.new _ _ #[(.int .i64 (d1)), (.int .i64 (d2)), (.int .i64 (d3)), (.int .i64 (d4)), (.int .i64 (d5)), (.int .i64 (d6))]).below h1)
  clear h1 hB0
  have fD_0 := KD_1.out.cell 0 (.int .i64 (d1)) rfl
  have fD_1 := KD_1.out.cell 1 (.int .i64 (d2)) rfl
  have fD_2 := KD_1.out.cell 2 (.int .i64 (d3)) rfl
  have fD_3 := KD_1.out.cell 3 (.int .i64 (d4)) rfl
  have fD_4 := KD_1.out.cell 4 (.int .i64 (d5)) rfl
  have fD_5 := KD_1.out.cell 5 (.int .i64 (d6)) rfl
  have fD_l := KD_1.out.lt
  have fD_f := KD_1.out.f
  have fD_l0_1 : w.heap.size < w1.heap.size + 1 := by omega
  have fD_l0_2 : w.heap.size < w1.heap.size + 1 + 1 := by omega
  go_wp2_with (go_at_call 17; refine (HCD.out _).mono ?_; rintro r w2 ⟨rfl, h2⟩; refine Hid.out ?_)
  unfold Hid
  have hB2 := hB1.trans (h2.mono hB1.size)
  have KD_2 := Lib.hid (show Blk w2 (w.heap.size) #[(.int .i64 (d1)), (.int .i64 (d2)), (.int .i64 (d3)), (.int .i64 (d4)), (.int .i64 (d5)), (.int .i64 (d6))] from KD_1.out.below h2)
  clear h2 hB1 KD_1 fD_0 fD_1 fD_2 fD_3 fD_4 fD_5 fD_l fD_f fD_l0_1 fD_l0_2
  have fD_0 := KD_2.out.cell 0 (.int .i64 (d1)) rfl
  have fD_1 := KD_2.out.cell 1 (.int .i64 (d2)) rfl
  have fD_2 := KD_2.out.cell 2 (.int .i64 (d3)) rfl
  have fD_3 := KD_2.out.cell 3 (.int .i64 (d4)) rfl
  have fD_4 := KD_2.out.cell 4 (.int .i64 (d5)) rfl
  have fD_5 := KD_2.out.cell 5 (.int .i64 (d6)) rfl
  have fD_l := KD_2.out.lt
  have fD_f := KD_2.out.f
  have fD_l0_1 : w.heap.size < w2.heap.size + 1 := by omega
  have fD_l0_2 : w.heap.size < w2.heap.size + 1 + 1 := by omega
  go_wp2_with (go_at_call 38; refine (HQ.out _ (hL.below hB2)).mono ?_; rintro r w3 ⟨rfl, h3⟩; refine Hid.out ?_)
  unfold Hid
  have hB3 := hB2.trans (h3.mono hB2.size)
  have KD_3 := Lib.hid (show Blk w3 (w.heap.size) #[(.int .i64 (d1)), (.int .i64 (d2)), (.int .i64 (d3)), (.int .i64 (d4)), (.int .i64 (d5)), (.int .i64 (d6))] from KD_2.out.below h3)
  clear h3 hB2 KD_2 fD_0 fD_1 fD_2 fD_3 fD_4 fD_5 fD_l fD_f fD_l0_1 fD_l0_2
  go_wp2
  refine name_world ?_
  intro w4 e4
  have hB4 : Below w.heap.size w w4 := e4.symm ▸ (hB3.alloc hB3.size _)
  have oD_4 : w.heap.size < w3.heap.size := KD_3.out.lt
  have KD_4 := Lib.hid (show Blk w4 (w.heap.size) #[(.int .i64 (d1)), (.int .i64 (d2)), (.int .i64 (d3)), (.int .i64 (d4)), (.int .i64 (d5)), (.int .i64 (d6))] from e4.symm ▸ (KD_3.out.alloc _))
  have Kk_4 := Lib.hid (show Blk w4 (w3.heap.size) #[(.int .i64 (k1)), (.int .i64 (k2)), (.int .i64 (k3)), (.int .i64 (k4)), (.int .i64 (k5)), (.int .i64 (k6))] from e4.symm ▸ (Calm.Blk.new _ _ #[(.int .i64 (k1)), (.int .i64 (k2)), (.int .i64 (k3)), (.int .i64 (k4)), (.int .i64 (k5)), (.int .i64 (k6))]))
  have z4 : w3.heap.size + 1 ≤ w4.heap.size := by rw [e4]; simp
  clear e4 hB3 KD_3
  go_loopw [41] (fun i wr => ∃ k : Int, 0 ≤ k ∧ k ≤ 3 ∧ i = (.int .i64 (k)) ∧ Blk wr (w.heap.size) #[(.int .i64 (d1)), (.int .i64 (d2)), (.int .i64 (d3)), (.int .i64 (d4)), (.int .i64 (d5)), (.int .i64 (d6))] ∧ Blk wr (w3.heap.size) #[(.int .i64 (k1)), (.int .i64 (k2)), (.int .i64 (k3)), (.int .i64 (k4)), (.int .i64 (k5)), (.int .i64 (k6))] ∧ Below w.heap.size w wr) (fun i _ => 3 - (intOf i).toNat)
  case atStart => exact ⟨0, by omega, by omega, rfl, KD_4.out, Kk_4.out, hB4⟩
  case round =>
    clear KD_4 Kk_4 hB4
    obtain ⟨k, hk0, hk, rfl, hD, hK, hB⟩ := hrel
    have HD := Lib.hid hD
    have HK := Lib.hid hK
    clear hD hK
    have hkk : k = 0 ∨ k = 1 ∨ k = 2 ∨ k = 3 := by omega
    rcases hkk with rfl | rfl | rfl | rfl
    · have ix := wix0 k1 k2 k3 k4 k5 k6
      go_wp2
      go_roundw
      case rel => exact ⟨1, by omega, by omega, rfl, HD.out.alloc _, HK.out.alloc _, hB.alloc hB.size _⟩
      case measure => simp [intOf]
    · have ix := wix1 k1 k2 k3 k4 k5 k6
      go_wp2
      go_roundw
      case rel => exact ⟨2, by omega, by omega, rfl, HD.out.alloc _, HK.out.alloc _, hB.alloc hB.size _⟩
      case measure => simp [intOf]
    · have ix := wix2 k1 k2 k3 k4 k5 k6
      go_wp2
      go_roundw
      case rel => exact ⟨3, by omega, by omega, rfl, HD.out.alloc _, HK.out.alloc _, hB.alloc hB.size _⟩
      case measure => simp [intOf]
    · have hB9 := hB
      clear hB
      have fD_0 := HD.out.cell 0 (.int .i64 (d1)) rfl
      have fD_1 := HD.out.cell 1 (.int .i64 (d2)) rfl
      have fD_2 := HD.out.cell 2 (.int .i64 (d3)) rfl
      have fD_3 := HD.out.cell 3 (.int .i64 (d4)) rfl
      have fD_4 := HD.out.cell 4 (.int .i64 (d5)) rfl
      have fD_5 := HD.out.cell 5 (.int .i64 (d6)) rfl
      have fD_l := HD.out.lt
      have fD_f := HD.out.f
      have fD_l0_1 : w.heap.size < wr.heap.size + 1 := by omega
      have fD_l0_2 : w.heap.size < wr.heap.size + 1 + 1 := by omega
      have fD_l0_3 : w.heap.size < wr.heap.size + 1 + 1 + 1 := by omega
      have fk_0 := HK.out.cell 0 (.int .i64 (k1)) rfl
      have fk_1 := HK.out.cell 1 (.int .i64 (k2)) rfl
      have fk_2 := HK.out.cell 2 (.int .i64 (k3)) rfl
      have fk_3 := HK.out.cell 3 (.int .i64 (k4)) rfl
      have fk_4 := HK.out.cell 4 (.int .i64 (k5)) rfl
      have fk_5 := HK.out.cell 5 (.int .i64 (k6)) rfl
      have fk_l := HK.out.lt
      have fk_f := HK.out.f
      have fk_l0_1 : w3.heap.size < wr.heap.size + 1 := by omega
      have fk_l0_2 : w3.heap.size < wr.heap.size + 1 + 1 := by omega
      have fk_l0_3 : w3.heap.size < wr.heap.size + 1 + 1 + 1 := by omega
      go_wp2_with (go_at_call 37; refine (HR1.out _ (hL.below (hB9.alloc hB9.size _))).mono ?_; rintro r w5 ⟨rfl, h5⟩; refine Hid.out ?_)
      unfold Hid
      have hB5 := (hB9.alloc hB9.size _).trans (h5.mono (Nat.le_trans hB9.size (by simp; try omega)))
      have oD_5 : w.heap.size < wr.heap.size := HD.out.lt
      have ok_5 : w3.heap.size < wr.heap.size := HK.out.lt
      have KD_5 := Lib.hid (show Blk w5 (w.heap.size) #[(.int .i64 (d1)), (.int .i64 (d2)), (.int .i64 (d3)), (.int .i64 (d4)), (.int .i64 (d5)), (.int .i64 (d6))] from (HD.out.alloc _).below h5)
      have Kk_5 := Lib.hid (show Blk w5 (w3.heap.size) #[(.int .i64 (k1)), (.int .i64 (k2)), (.int .i64 (k3)), (.int .i64 (k4)), (.int .i64 (k5)), (.int .i64 (k6))] from (HK.out.alloc _).below h5)
      have Kl_5 := Lib.hid (show Blk w5 (wr.heap.size) #[(.int .i64 (d1)), (.int .i64 (d2)), (.int .i64 (d3)), (.int .i64 (d4 + (1 + ad % 100))), (.int .i64 (d5)), (.int .i64 (d6))] from (Calm.Blk.new _ _ #[(.int .i64 (d1)), (.int .i64 (d2)), (.int .i64 (d3)), (.int .i64 (d4 + (1 + ad % 100))), (.int .i64 (d5)), (.int .i64 (d6))]).below h5)
      clear h5 hB9 HD HK fD_0 fD_1 fD_2 fD_3 fD_4 fD_5 fD_l fD_f fD_l0_1 fD_l0_2 fD_l0_3 fk_0 fk_1 fk_2 fk_3 fk_4 fk_5 fk_l fk_f fk_l0_1 fk_l0_2 fk_l0_3
      have fl_0 := Kl_5.out.cell 0 (.int .i64 (d1)) rfl
      have fl_1 := Kl_5.out.cell 1 (.int .i64 (d2)) rfl
      have fl_2 := Kl_5.out.cell 2 (.int .i64 (d3)) rfl
      have fl_3 := Kl_5.out.cell 3 (.int .i64 (d4 + (1 + ad % 100))) rfl
      have fl_4 := Kl_5.out.cell 4 (.int .i64 (d5)) rfl
      have fl_5 := Kl_5.out.cell 5 (.int .i64 (d6)) rfl
      have fl_l := Kl_5.out.lt
      have fl_f := Kl_5.out.f
      have fl_l0_1 : wr.heap.size < w5.heap.size + 1 := by omega
      have fl_l0_2 : wr.heap.size < w5.heap.size + 1 + 1 := by omega
      go_wp2_with (go_at_call 37; refine (HR2.out _ (hL.below (hB5.alloc hB5.size _))).mono ?_; rintro r w6 ⟨rfl, h6⟩; refine Hid.out ?_)
      unfold Hid
      have hB6 := (hB5.alloc hB5.size _).trans (h6.mono (Nat.le_trans hB5.size (by simp; try omega)))
      have oD_6 : w.heap.size < w5.heap.size := KD_5.out.lt
      have ok_6 : w3.heap.size < w5.heap.size := Kk_5.out.lt
      have ol_6 : wr.heap.size < w5.heap.size := Kl_5.out.lt
      have KD_6 := Lib.hid (show Blk w6 (w.heap.size) #[(.int .i64 (d1)), (.int .i64 (d2)), (.int .i64 (d3)), (.int .i64 (d4)), (.int .i64 (d5)), (.int .i64 (d6))] from (KD_5.out.alloc _).below h6)
      have Kk_6 := Lib.hid (show Blk w6 (w3.heap.size) #[(.int .i64 (k1)), (.int .i64 (k2)), (.int .i64 (k3)), (.int .i64 (k4)), (.int .i64 (k5)), (.int .i64 (k6))] from (Kk_5.out.alloc _).below h6)
      have Kl_6 := Lib.hid (show Blk w6 (wr.heap.size) #[(.int .i64 (d1)), (.int .i64 (d2)), (.int .i64 (d3)), (.int .i64 (d4 + (1 + ad % 100))), (.int .i64 (d5)), (.int .i64 (d6))] from (Kl_5.out.alloc _).below h6)
      have Kf_6 := Lib.hid (show Blk w6 (w5.heap.size) #[(.int .i64 (f1)), (.int .i64 (f2))] from (Calm.Blk.new _ _ #[(.int .i64 (f1)), (.int .i64 (f2))]).below h6)
      clear h6 hB5 KD_5 Kk_5 Kl_5 fl_0 fl_1 fl_2 fl_3 fl_4 fl_5 fl_l fl_f fl_l0_1 fl_l0_2
      have ff_0 := Kf_6.out.cell 0 (.int .i64 (f1)) rfl
      have ff_1 := Kf_6.out.cell 1 (.int .i64 (f2)) rfl
      have ff_l := Kf_6.out.lt
      have ff_f := Kf_6.out.f
      have ff_l0_1 : w5.heap.size < w6.heap.size + 1 := by omega
      have ff_l0_2 : w5.heap.size < w6.heap.size + 1 + 1 := by omega
      go_wp2_with (go_at_call 41; refine (HT1.out _).mono ?_; rintro r w7 ⟨rfl, h7⟩; refine Hid.out ?_)
      unfold Hid
      have hB7 := (hB6.alloc hB6.size _).trans (h7.mono (Nat.le_trans hB6.size (by simp; try omega)))
      have oD_7 : w.heap.size < w6.heap.size := KD_6.out.lt
      have ok_7 : w3.heap.size < w6.heap.size := Kk_6.out.lt
      have ol_7 : wr.heap.size < w6.heap.size := Kl_6.out.lt
      have of_7 : w5.heap.size < w6.heap.size := Kf_6.out.lt
      have KD_7 := Lib.hid (show Blk w7 (w.heap.size) #[(.int .i64 (d1)), (.int .i64 (d2)), (.int .i64 (d3)), (.int .i64 (d4)), (.int .i64 (d5)), (.int .i64 (d6))] from (KD_6.out.alloc _).below h7)
      have Kk_7 := Lib.hid (show Blk w7 (w3.heap.size) #[(.int .i64 (k1)), (.int .i64 (k2)), (.int .i64 (k3)), (.int .i64 (k4)), (.int .i64 (k5)), (.int .i64 (k6))] from (Kk_6.out.alloc _).below h7)
      have Kl_7 := Lib.hid (show Blk w7 (wr.heap.size) #[(.int .i64 (d1)), (.int .i64 (d2)), (.int .i64 (d3)), (.int .i64 (d4 + (1 + ad % 100))), (.int .i64 (d5)), (.int .i64 (d6))] from (Kl_6.out.alloc _).below h7)
      have Kf_7 := Lib.hid (show Blk w7 (w5.heap.size) #[(.int .i64 (f1)), (.int .i64 (f2))] from (Kf_6.out.alloc _).below h7)
      have Kg_7 := Lib.hid (show Blk w7 (w6.heap.size) #[(.int .i64 (g1)), (.int .i64 (g2))] from (Calm.Blk.new _ _ #[(.int .i64 (g1)), (.int .i64 (g2))]).below h7)
      clear h7 hB6 KD_6 Kk_6 Kl_6 Kf_6 ff_0 ff_1 ff_l ff_f ff_l0_1 ff_l0_2
      have ff_0 := Kf_7.out.cell 0 (.int .i64 (f1)) rfl
      have ff_1 := Kf_7.out.cell 1 (.int .i64 (f2)) rfl
      have ff_l := Kf_7.out.lt
      have ff_f := Kf_7.out.f
      have ff_l0_1 : w5.heap.size < w7.heap.size + 1 := by omega
      have ff_l0_2 : w5.heap.size < w7.heap.size + 1 + 1 := by omega
      have fg_0 := Kg_7.out.cell 0 (.int .i64 (g1)) rfl
      have fg_1 := Kg_7.out.cell 1 (.int .i64 (g2)) rfl
      have fg_l := Kg_7.out.lt
      have fg_f := Kg_7.out.f
      have fg_l0_1 : w6.heap.size < w7.heap.size + 1 := by omega
      have fg_l0_2 : w6.heap.size < w7.heap.size + 1 + 1 := by omega
      go_wp2_with (go_at_call 41; refine (HT2.out _).mono ?_; rintro r w8 ⟨rfl, h8⟩; refine Hid.out ?_)
      unfold Hid
      have hB8 := hB7.trans (h8.mono hB7.size)
      have KD_8 := Lib.hid (show Blk w8 (w.heap.size) #[(.int .i64 (d1)), (.int .i64 (d2)), (.int .i64 (d3)), (.int .i64 (d4)), (.int .i64 (d5)), (.int .i64 (d6))] from KD_7.out.below h8)
      have Kk_8 := Lib.hid (show Blk w8 (w3.heap.size) #[(.int .i64 (k1)), (.int .i64 (k2)), (.int .i64 (k3)), (.int .i64 (k4)), (.int .i64 (k5)), (.int .i64 (k6))] from Kk_7.out.below h8)
      have Kl_8 := Lib.hid (show Blk w8 (wr.heap.size) #[(.int .i64 (d1)), (.int .i64 (d2)), (.int .i64 (d3)), (.int .i64 (d4 + (1 + ad % 100))), (.int .i64 (d5)), (.int .i64 (d6))] from Kl_7.out.below h8)
      have Kf_8 := Lib.hid (show Blk w8 (w5.heap.size) #[(.int .i64 (f1)), (.int .i64 (f2))] from Kf_7.out.below h8)
      have Kg_8 := Lib.hid (show Blk w8 (w6.heap.size) #[(.int .i64 (g1)), (.int .i64 (g2))] from Kg_7.out.below h8)
      clear h8 hB7 KD_7 Kk_7 Kl_7 Kf_7 Kg_7 ff_0 ff_1 ff_l ff_f ff_l0_1 ff_l0_2 fg_0 fg_1 fg_l fg_f fg_l0_1 fg_l0_2
      have ff_0 := Kf_8.out.cell 0 (.int .i64 (f1)) rfl
      have ff_1 := Kf_8.out.cell 1 (.int .i64 (f2)) rfl
      have ff_l := Kf_8.out.lt
      have ff_f := Kf_8.out.f
      have ff_l0_1 : w5.heap.size < w8.heap.size + 1 := by omega
      have ff_l0_2 : w5.heap.size < w8.heap.size + 1 + 1 := by omega
      have fg_0 := Kg_8.out.cell 0 (.int .i64 (g1)) rfl
      have fg_1 := Kg_8.out.cell 1 (.int .i64 (g2)) rfl
      have fg_l := Kg_8.out.lt
      have fg_f := Kg_8.out.f
      have fg_l0_1 : w6.heap.size < w8.heap.size + 1 := by omega
      have fg_l0_2 : w6.heap.size < w8.heap.size + 1 + 1 := by omega
      go_wp2_with (go_at_call 39; refine (HW.out _).mono ?_; rintro r w9 ⟨rfl, h9⟩; refine Hid.out ?_)
      unfold Hid
      have hB9 := hB8.trans (h9.mono hB8.size)
      have KD_9 := Lib.hid (show Blk w9 (w.heap.size) #[(.int .i64 (d1)), (.int .i64 (d2)), (.int .i64 (d3)), (.int .i64 (d4)), (.int .i64 (d5)), (.int .i64 (d6))] from KD_8.out.below h9)
      have Kk_9 := Lib.hid (show Blk w9 (w3.heap.size) #[(.int .i64 (k1)), (.int .i64 (k2)), (.int .i64 (k3)), (.int .i64 (k4)), (.int .i64 (k5)), (.int .i64 (k6))] from Kk_8.out.below h9)
      have Kl_9 := Lib.hid (show Blk w9 (wr.heap.size) #[(.int .i64 (d1)), (.int .i64 (d2)), (.int .i64 (d3)), (.int .i64 (d4 + (1 + ad % 100))), (.int .i64 (d5)), (.int .i64 (d6))] from Kl_8.out.below h9)
      have Kf_9 := Lib.hid (show Blk w9 (w5.heap.size) #[(.int .i64 (f1)), (.int .i64 (f2))] from Kf_8.out.below h9)
      have Kg_9 := Lib.hid (show Blk w9 (w6.heap.size) #[(.int .i64 (g1)), (.int .i64 (g2))] from Kg_8.out.below h9)
      clear h9 hB8 KD_8 Kk_8 Kl_8 Kf_8 Kg_8 ff_0 ff_1 ff_l ff_f ff_l0_1 ff_l0_2 fg_0 fg_1 fg_l fg_f fg_l0_1 fg_l0_2
      have fD_0 := KD_9.out.cell 0 (.int .i64 (d1)) rfl
      have fD_1 := KD_9.out.cell 1 (.int .i64 (d2)) rfl
      have fD_2 := KD_9.out.cell 2 (.int .i64 (d3)) rfl
      have fD_3 := KD_9.out.cell 3 (.int .i64 (d4)) rfl
      have fD_4 := KD_9.out.cell 4 (.int .i64 (d5)) rfl
      have fD_5 := KD_9.out.cell 5 (.int .i64 (d6)) rfl
      have fD_l := KD_9.out.lt
      have fD_f := KD_9.out.f
      have fD_l0_1 : w.heap.size < w9.heap.size + 1 := by omega
      have fD_l0_2 : w.heap.size < w9.heap.size + 1 + 1 := by omega
      have fD_l0_3 : w.heap.size < w9.heap.size + 1 + 1 + 1 := by omega
      go_wp2
      go_ret
      exact ⟨by first | rfl | (simp; done), ((hB9.alloc hB9.size _).alloc (Nat.le_trans hB9.size (by simp; try omega)) _)⟩
end Go.Proofs.YtpkldjlljoledaaDoor

/- The walk of DriverWeighs, one of six cases. -/
namespace Go.Proofs.YtpkldjlljoledaaDoor
open Go.RowKit
open Calm (bcell Blk)
set_option maxRecDepth 100000 in
set_option maxHeartbeats 16000000 in
theorem wei_11 (d1 d2 d3 d4 d5 d6 ad k1 k2 k3 k4 k5 k6 : Int) (w : World) (hL : Lim w)
    (HCD : Hid (∀ W : World, Calls Tryd.prog 17 #[.agg #[(.int .i64 (d1)), (.int .i64 (d2)), (.int .i64 (d3)), (.int .i64 (d4)), (.int .i64 (d5)), (.int .i64 (d6))]] W fun r w' => r = .returned ((.int .i64 (0))) ∧ Below W.heap.size W w'))
    (HQ : Hid (∀ W : World, Lim W → Calls Tryd.prog 38 #[.agg #[(.int .i64 (d1)), (.int .i64 (d2)), (.int .i64 (d3)), (.int .i64 (d4)), (.int .i64 (d5)), (.int .i64 (d6))]] W fun r w' => r = .returned (.tuple #[.agg #[(.int .i64 (k1)), (.int .i64 (k2)), (.int .i64 (k3)), (.int .i64 (k4)), (.int .i64 (k5)), (.int .i64 (k6))], (.int .i64 (0))]) ∧ Below W.heap.size W w'))
    (ha : 0 ≤ ad ∧ ad ≤ 255)
    (q1 : 1 ≤ d1 ∧ d1 ≤ 50)
    (q3 : 1 ≤ d3 ∧ d3 ≤ 20)
    (q4 : 1 ≤ d4 ∧ d4 ≤ 100)
    (b1 : 1 ≤ k1 ∧ k1 ≤ 2147483648)
    (b2 : 1 ≤ k2 ∧ k2 ≤ 2147483648)
    (b3 : 1 ≤ k3 ∧ k3 ≤ 2147483648)
    (b4 : 1 ≤ k4 ∧ k4 ≤ 2147483648)
    (b5 : 1 ≤ k5 ∧ k5 ≤ 2147483648)
    (b6 : 1 ≤ k6 ∧ k6 ≤ 2147483648)
    (p1 : 0 ≤ k5 * k2 ∧ k5 * k2 ≤ k1 * k6 ∧ k1 * k6 ≤ 1000000000000000000)
    (p2 : 0 ≤ k5 * k4 ∧ k5 * k4 ≤ k3 * k6 ∧ k3 * k6 ≤ 1000000000000000000)
    (hX : 50 < 4 * d1)
    (hY : 100 < d4 + (1 + ad % 100))
    : Calls Tryd.prog 8 #[.agg #[(.int .i64 (d1)), (.int .i64 (d2)), (.int .i64 (d3)), (.int .i64 (d4)), (.int .i64 (d5)), (.int .i64 (d6))], .int .u8 ad] w fun r w' => r = .returned (.bool true) ∧ Below w.heap.size w w' := by
  have hB0 := Below.refl w.heap.size w
  go_enter Tryd.func8, Tryd.ntmps8
  go_wp2_with (go_at_call 11; refine (awake_any _ (hL.below (hB0.alloc hB0.size _))).mono ?_; rintro r w1 ⟨rfl, h1⟩; refine Hid.out ?_)
  unfold Hid
  have hB1 := (hB0.alloc hB0.size _).trans (h1.mono (Nat.le_trans hB0.size (by simp; try omega)))
  have KD_1 := Lib.hid (show Blk w1 (w.heap.size) #[(.int .i64 (d1)), (.int .i64 (d2)), (.int .i64 (d3)), (.int .i64 (d4)), (.int .i64 (d5)), (.int .i64 (d6))] from (Calm.Blk.new _ _ #[(.int .i64 (d1)), (.int .i64 (d2)), (.int .i64 (d3)), (.int .i64 (d4)), (.int .i64 (d5)), (.int .i64 (d6))]).below h1)
  clear h1 hB0
  have fD_0 := KD_1.out.cell 0 (.int .i64 (d1)) rfl
  have fD_1 := KD_1.out.cell 1 (.int .i64 (d2)) rfl
  have fD_2 := KD_1.out.cell 2 (.int .i64 (d3)) rfl
  have fD_3 := KD_1.out.cell 3 (.int .i64 (d4)) rfl
  have fD_4 := KD_1.out.cell 4 (.int .i64 (d5)) rfl
  have fD_5 := KD_1.out.cell 5 (.int .i64 (d6)) rfl
  have fD_l := KD_1.out.lt
  have fD_f := KD_1.out.f
  have fD_l0_1 : w.heap.size < w1.heap.size + 1 := by omega
  have fD_l0_2 : w.heap.size < w1.heap.size + 1 + 1 := by omega
  go_wp2_with (go_at_call 17; refine (HCD.out _).mono ?_; rintro r w2 ⟨rfl, h2⟩; refine Hid.out ?_)
  unfold Hid
  have hB2 := hB1.trans (h2.mono hB1.size)
  have KD_2 := Lib.hid (show Blk w2 (w.heap.size) #[(.int .i64 (d1)), (.int .i64 (d2)), (.int .i64 (d3)), (.int .i64 (d4)), (.int .i64 (d5)), (.int .i64 (d6))] from KD_1.out.below h2)
  clear h2 hB1 KD_1 fD_0 fD_1 fD_2 fD_3 fD_4 fD_5 fD_l fD_f fD_l0_1 fD_l0_2
  have fD_0 := KD_2.out.cell 0 (.int .i64 (d1)) rfl
  have fD_1 := KD_2.out.cell 1 (.int .i64 (d2)) rfl
  have fD_2 := KD_2.out.cell 2 (.int .i64 (d3)) rfl
  have fD_3 := KD_2.out.cell 3 (.int .i64 (d4)) rfl
  have fD_4 := KD_2.out.cell 4 (.int .i64 (d5)) rfl
  have fD_5 := KD_2.out.cell 5 (.int .i64 (d6)) rfl
  have fD_l := KD_2.out.lt
  have fD_f := KD_2.out.f
  have fD_l0_1 : w.heap.size < w2.heap.size + 1 := by omega
  have fD_l0_2 : w.heap.size < w2.heap.size + 1 + 1 := by omega
  go_wp2_with (go_at_call 38; refine (HQ.out _ (hL.below hB2)).mono ?_; rintro r w3 ⟨rfl, h3⟩; refine Hid.out ?_)
  unfold Hid
  have hB3 := hB2.trans (h3.mono hB2.size)
  have KD_3 := Lib.hid (show Blk w3 (w.heap.size) #[(.int .i64 (d1)), (.int .i64 (d2)), (.int .i64 (d3)), (.int .i64 (d4)), (.int .i64 (d5)), (.int .i64 (d6))] from KD_2.out.below h3)
  clear h3 hB2 KD_2 fD_0 fD_1 fD_2 fD_3 fD_4 fD_5 fD_l fD_f fD_l0_1 fD_l0_2
  go_wp2
  refine name_world ?_
  intro w4 e4
  have hB4 : Below w.heap.size w w4 := e4.symm ▸ (hB3.alloc hB3.size _)
  have oD_4 : w.heap.size < w3.heap.size := KD_3.out.lt
  have KD_4 := Lib.hid (show Blk w4 (w.heap.size) #[(.int .i64 (d1)), (.int .i64 (d2)), (.int .i64 (d3)), (.int .i64 (d4)), (.int .i64 (d5)), (.int .i64 (d6))] from e4.symm ▸ (KD_3.out.alloc _))
  have Kk_4 := Lib.hid (show Blk w4 (w3.heap.size) #[(.int .i64 (k1)), (.int .i64 (k2)), (.int .i64 (k3)), (.int .i64 (k4)), (.int .i64 (k5)), (.int .i64 (k6))] from e4.symm ▸ (Calm.Blk.new _ _ #[(.int .i64 (k1)), (.int .i64 (k2)), (.int .i64 (k3)), (.int .i64 (k4)), (.int .i64 (k5)), (.int .i64 (k6))]))
  have z4 : w3.heap.size + 1 ≤ w4.heap.size := by rw [e4]; simp
  clear e4 hB3 KD_3
  go_loopw [41] (fun i wr => ∃ k : Int, 0 ≤ k ∧ k ≤ 3 ∧ i = (.int .i64 (k)) ∧ Blk wr (w.heap.size) #[(.int .i64 (d1)), (.int .i64 (d2)), (.int .i64 (d3)), (.int .i64 (d4)), (.int .i64 (d5)), (.int .i64 (d6))] ∧ Blk wr (w3.heap.size) #[(.int .i64 (k1)), (.int .i64 (k2)), (.int .i64 (k3)), (.int .i64 (k4)), (.int .i64 (k5)), (.int .i64 (k6))] ∧ Below w.heap.size w wr) (fun i _ => 3 - (intOf i).toNat)
  case atStart => exact ⟨0, by omega, by omega, rfl, KD_4.out, Kk_4.out, hB4⟩
  case round =>
    clear KD_4 Kk_4 hB4
    obtain ⟨k, hk0, hk, rfl, hD, hK, hB⟩ := hrel
    have HD := Lib.hid hD
    have HK := Lib.hid hK
    clear hD hK
    have hkk : k = 0 ∨ k = 1 ∨ k = 2 ∨ k = 3 := by omega
    rcases hkk with rfl | rfl | rfl | rfl
    · have ix := wix0 k1 k2 k3 k4 k5 k6
      go_wp2
      go_roundw
      case rel => exact ⟨1, by omega, by omega, rfl, HD.out.alloc _, HK.out.alloc _, hB.alloc hB.size _⟩
      case measure => simp [intOf]
    · have ix := wix1 k1 k2 k3 k4 k5 k6
      go_wp2
      go_roundw
      case rel => exact ⟨2, by omega, by omega, rfl, HD.out.alloc _, HK.out.alloc _, hB.alloc hB.size _⟩
      case measure => simp [intOf]
    · have ix := wix2 k1 k2 k3 k4 k5 k6
      go_wp2
      go_roundw
      case rel => exact ⟨3, by omega, by omega, rfl, HD.out.alloc _, HK.out.alloc _, hB.alloc hB.size _⟩
      case measure => simp [intOf]
    · have hB9 := hB
      clear hB
      have fD_0 := HD.out.cell 0 (.int .i64 (d1)) rfl
      have fD_1 := HD.out.cell 1 (.int .i64 (d2)) rfl
      have fD_2 := HD.out.cell 2 (.int .i64 (d3)) rfl
      have fD_3 := HD.out.cell 3 (.int .i64 (d4)) rfl
      have fD_4 := HD.out.cell 4 (.int .i64 (d5)) rfl
      have fD_5 := HD.out.cell 5 (.int .i64 (d6)) rfl
      have fD_l := HD.out.lt
      have fD_f := HD.out.f
      have fD_l0_1 : w.heap.size < wr.heap.size + 1 := by omega
      have fD_l0_2 : w.heap.size < wr.heap.size + 1 + 1 := by omega
      have fD_l0_3 : w.heap.size < wr.heap.size + 1 + 1 + 1 := by omega
      have fk_0 := HK.out.cell 0 (.int .i64 (k1)) rfl
      have fk_1 := HK.out.cell 1 (.int .i64 (k2)) rfl
      have fk_2 := HK.out.cell 2 (.int .i64 (k3)) rfl
      have fk_3 := HK.out.cell 3 (.int .i64 (k4)) rfl
      have fk_4 := HK.out.cell 4 (.int .i64 (k5)) rfl
      have fk_5 := HK.out.cell 5 (.int .i64 (k6)) rfl
      have fk_l := HK.out.lt
      have fk_f := HK.out.f
      have fk_l0_1 : w3.heap.size < wr.heap.size + 1 := by omega
      have fk_l0_2 : w3.heap.size < wr.heap.size + 1 + 1 := by omega
      have fk_l0_3 : w3.heap.size < wr.heap.size + 1 + 1 + 1 := by omega
      go_wp2
      go_ret
      exact ⟨by first | rfl | (simp; done), hB9⟩
end Go.Proofs.YtpkldjlljoledaaDoor
