/- Part 9 of the texts of the claim: Td3, Td4, Td5, Td6, Td7. -/
import Derived.Test.YtamldoidalnloaaMm8
import Derived.Test.YtamldoidalnloaaMm4
import Derived.Test.YtamldoidalnloaaMm5

/- Differences of the four units. -/
namespace Go.Proofs.Ytamldoidalnloaa
open Go.RowKit
open Calm (bcell Blk)
def diffV (x y : Int) : Int := mx (mx 0 (x - y)) (y - x)
theorem max3_any (ts : Array TypeId) (t : TypeId) (x y z : Int) (W : World) : (Builtin.max_ ts t #[(.int .i64 x), (.int .i64 y), (.int .i64 z)]).run Try.prog W = .ok (.int .i64 (mx (mx x y) z)) W := by
  simp [Builtin.max_, Builtin.max2, mx]
set_option maxRecDepth 100000 in
set_option maxHeartbeats 4000000 in
theorem difference_any (s1 s2 : ByteArray) (va vb : Nat) (x y : Int) (w : World) (hx : -100000 ≤ x ∧ x ≤ 100000) (hy : -100000 ≤ y ∧ y ≤ 100000) (hA : Blk w va #[(.int .i64 x)]) (hB : Blk w vb #[(.int .i64 y)]) :
    Calls Try.prog 111 #[.agg #[.string s1, .slice (some ⟨va, 0, none⟩) 1 1], .agg #[.string s2, .slice (some ⟨vb, 0, none⟩) 1 1]] w fun r w' => r = .returned (.int .i64 (diffV x y)) ∧ Below w.heap.size w w' := by
  obtain ⟨D, hD⟩ : ∃ D, D = diffV x y := ⟨_, rfl⟩
  have hmax : ∀ (ts : Array TypeId) (t : TypeId) (W : World), (Builtin.max_ ts t #[(.int .i64 0), (.int .i64 (x - y)), (.int .i64 (y - x))]).run Try.prog W = .ok (.int .i64 D) W := fun ts t W => by rw [hD]; exact max3_any ts t _ _ _ W
  have HA := Lib.hid hA
  have HB := Lib.hid hB
  rw [← hD]
  clear hD hA hB
  go_enter Try.func111, Try.ntmps111
  go_wp2
  refine name_world ?_
  intro w1 e1
  have h1 : Below w.heap.size w w1 := by rw [e1]; exact bel
  have K2 : Blk w1 w.heap.size #[.string s1, .slice (some ⟨va, 0, none⟩) 1 1] := by rw [e1]; (repeat (first | ((with_reducible refine Blk.at_ ?_); focus (first | rfl | (simp; done) | (simp; omega))) | (with_reducible refine Blk.alloc ?_ _) | (with_reducible refine Blk.below ?_ (by with_reducible assumption)) | (with_reducible refine Blk.drew ?_)))
  have K3 : Blk w1 (w.heap.size + 1) #[.string s2, .slice (some ⟨vb, 0, none⟩) 1 1] := by rw [e1]; (repeat (first | ((with_reducible refine Blk.at_ ?_); focus (first | rfl | (simp; done) | (simp; omega))) | (with_reducible refine Blk.alloc ?_ _) | (with_reducible refine Blk.below ?_ (by with_reducible assumption)) | (with_reducible refine Blk.drew ?_)))
  have HB1 := Lib.hid h1
  have HK2 := Lib.hid K2
  have HK3 := Lib.hid K3
  have HA1 := Lib.hid (HA.out.below h1)
  have HBB1 := Lib.hid (HB.out.below h1)
  obtain ⟨a0, a1, al, af⟩ := K2.o2
  clear e1 h1 K2 K3
  go_loopw [5, 11] (fun s z wr => ∃ k : Nat, k ≤ 1 ∧ z = (.int .i64 ((k : Int))) ∧ s = (.int .i64 (if k = 0 then 0 else D)) ∧ Below w1.heap.size w1 wr) (fun _ z _ => 1 - (intOf z).toNat)
  case atStart => exact ⟨0, by omega, rfl, rfl, Below.refl _ _⟩
  case round =>
    obtain ⟨k, hk, rfl, rfl, hb⟩ := hrel
    have HBR := Lib.hid hb
    have hzr := hb.size
    have qa := HA1.out.below hb
    have qb := HBB1.out.below hb
    have q3 := HK3.out.below hb
    clear hb a0 a1 al af
    rcases (by omega : k = 0 ∨ k = 1) with rfl | rfl
    · have ek : ((0 : Nat) : Int) = 0 := rfl
      rw [ek, if_pos rfl]
      obtain ⟨x0, xl, xf⟩ := qa.o1
      obtain ⟨y0, yl, yf⟩ := qb.o1
      obtain ⟨b0, b1, bl, bf⟩ := q3.o2
      clear qa qb q3
      go_wp2
      refine Rel.region3 16 (by kernel_rfl) (by kernel_rfl) (by kernel_rfl) ?_
      simp only [List.take_succ_cons, List.take_zero, List.drop_succ_cons, List.drop_zero, List.filterMap_cons, List.filterMap_nil]
      repeat (apply Rel.op3; (focus (first | exact Rel.gno rfl | exact Rel.gyes _ true _ rfl rfl rfl | exact Rel.gyes _ false _ rfl rfl rfl)); (focus (intro a W hb hd hbase; obtain ⟨hc, hf⟩ := bcell hb; clear hb hf; simp [Rel.deps, Rel.dep1, Rel.ons, Region.binds, Act.eval] at hd; simp only [Act.eval, List.mem_cons, List.not_mem_nil, not_or, and_imp, or_false, Array.getD_eq_getD_getElem?] at hbase; go_simp; (try go_bits); (try rfl); done)); (try simp only [List.nil_append, List.cons_append]))
      refine Rel.done3 ?_
      intro x w2 hb2 hx
      simp only [Rel.facts, Nat.zero_add, Nat.reduceAdd] at hx
      obtain ⟨e0, e1, e2, e3, e4, e5, e6, e7, e8, e9, e10, e11, e12, e13, e14, e15, _⟩ := hx
      simp only [Rel.fill, Nat.zero_add, Nat.reduceAdd, e0, e1, e2, e3, e4, e5, e6, e7, e8, e9, e10, e11, e12, e13, e14, e15]
      simp only [Act.put, List.setIfInBounds_toArray, List.set_cons_zero, List.set_cons_succ]
      clear e0 e1 e2 e3 e4 e5 e6 e7 e8 e9 e10 e11 e12 e13 e14 e15
      have HB2 := Lib.hid (HBR.out.trans (hb2.mono hzr))
      clear hb2 x0 xl xf y0 yl yf b0 b1 bl bf
      go_wp2
      go_roundw
      case rel => exact ⟨1, by omega, by go_num, by simp, HB2.out⟩
      case measure => simp [intOf]
    · clear qa qb q3
      go_wp2
      go_ret
      exact ⟨by first | rfl | (simp; done), HB1.out.trans (HBR.out.mono HB1.out.size)⟩
/-- pairs of the four units that the search looks at, and their differences. -/
def okP (p : Nat × Nat) : Prop := p = (0, 1) ∨ p = (2, 3) ∨ p = (0, 2) ∨ p = (1, 3) ∨ p = (0, 3) ∨ p = (1, 2)
def dV (p : Nat × Nat) : Int := if p = (0, 1) then 4 else if p = (2, 3) then 2 else if p = (0, 2) then 1 else if p = (1, 3) then 1 else 3
set_option maxRecDepth 100000 in
set_option maxHeartbeats 8000000 in
theorem worst1_any (p : Nat × Nat) (hp : okP p) (bx ub v0 v1 v2 v3 : Nat) (w : World) (hU : US w ub v0 v1 v2 v3) (hx : Blk w bx #[.slice (some ⟨ub, 0, none⟩) 4 4]) :
    Calls Try.prog 110 #[.agg #[(.int .i64 ((p.1 : Int))), (.int .i64 ((p.2 : Int)))], .pointer (some ⟨bx, 0, none⟩)] w fun r w' => r = .returned (.int .i64 (dV p)) ∧ Below w.heap.size w w' := by
  have HDI := Lib.hid (fun s1 s2 va vb x y W q1 q2 q3 q4 => difference_any s1 s2 va vb x y W q1 q2 q3 q4)
  have HU := Lib.hid hU
  have HX := Lib.hid hx
  clear hU hx
  rcases hp with rfl | rfl | rfl | rfl | rfl | rfl
  · show Calls Try.prog 110 #[.agg #[(.int .i64 0), (.int .i64 1)], .pointer (some ⟨bx, 0, none⟩)] w fun r w' => r = .returned (.int .i64 4) ∧ Below w.heap.size w w'
    go_enter Try.func110, Try.ntmps110
    go_wp2
    refine name_world ?_
    intro w1 e1
    have h1 : Below w.heap.size w w1 := by rw [e1]; exact bel
    have K2 : Blk w1 w.heap.size #[(.int .i64 0), (.int .i64 1)] := by rw [e1]; (repeat (first | ((with_reducible refine Blk.at_ ?_); focus (first | rfl | (simp; done) | (simp; omega))) | (with_reducible refine Blk.alloc ?_ _) | (with_reducible refine Blk.below ?_ (by with_reducible assumption)) | (with_reducible refine Blk.drew ?_)))
    have HB1 := Lib.hid h1
    have hus := HU.out.below h1
    have kx := HX.out.below h1
    have HU1 := Lib.hid hus
    obtain ⟨a0, a1, a2, a3, a4, a5, a6, a7, al⟩ := hus.cells
    obtain ⟨p0, p1, pl, pf⟩ := K2.o2
    obtain ⟨x0, xl, xf⟩ := kx.o1
    clear e1 h1 hus kx K2
    refine Rel.region3 10 (by kernel_rfl) (by kernel_rfl) (by kernel_rfl) ?_
    simp only [List.take_succ_cons, List.take_zero, List.drop_succ_cons, List.drop_zero, List.filterMap_cons, List.filterMap_nil]
    repeat (apply Rel.op3; (focus (first | exact Rel.gno rfl | exact Rel.gyes _ true _ rfl rfl rfl | exact Rel.gyes _ false _ rfl rfl rfl)); (focus (intro a W hb hd hbase; obtain ⟨hc, hf⟩ := bcell hb; clear hb hf; simp [Rel.deps, Rel.dep1, Rel.ons, Region.binds, Act.eval] at hd; simp only [Act.eval, List.mem_cons, List.not_mem_nil, not_or, and_imp, or_false, Array.getD_eq_getD_getElem?] at hbase; go_simp; (try go_bits); (try rfl); done)); (try simp only [List.nil_append, List.cons_append]))
    refine Rel.done3 ?_
    intro x w2 hb2 hx
    simp only [Rel.facts, Nat.zero_add, Nat.reduceAdd] at hx
    obtain ⟨e0, e1, e2, e3, e4, e5, e6, e7, e8, e9, _⟩ := hx
    simp only [Rel.fill, Nat.zero_add, Nat.reduceAdd, e0, e1, e2, e3, e4, e5, e6, e7, e8, e9]
    simp only [Act.put, List.setIfInBounds_toArray, List.set_cons_zero, List.set_cons_succ]
    clear e0 e1 e2 e3 e4 e5 e6 e7 e8 e9
    have HU2 := Lib.hid (HU1.out.below hb2)
    have HB2 := Lib.hid (HB1.out.trans (hb2.mono HB1.out.size))
    clear hb2 a0 a1 a2 a3 a4 a5 a6 a7 al p0 p1 pl pf x0 xl xf
    go_wp2_with (go_at_call 111; refine (HDI.out _ _ v0 v1 5 1 _ (by decide) (by decide) HU2.out.k0 HU2.out.k1).mono ?_; rintro r w3 ⟨rfl, h3⟩; refine Hid.out ?_)
    unfold Hid
    have HB3 := Lib.hid (HB2.out.trans (h3.mono HB2.out.size))
    clear h3
    go_wp2
    go_ret
    exact ⟨by first | rfl | (simp [diffV, mx]; done), HB3.out⟩
  · show Calls Try.prog 110 #[.agg #[(.int .i64 2), (.int .i64 3)], .pointer (some ⟨bx, 0, none⟩)] w fun r w' => r = .returned (.int .i64 2) ∧ Below w.heap.size w w'
    go_enter Try.func110, Try.ntmps110
    go_wp2
    refine name_world ?_
    intro w1 e1
    have h1 : Below w.heap.size w w1 := by rw [e1]; exact bel
    have K2 : Blk w1 w.heap.size #[(.int .i64 2), (.int .i64 3)] := by rw [e1]; (repeat (first | ((with_reducible refine Blk.at_ ?_); focus (first | rfl | (simp; done) | (simp; omega))) | (with_reducible refine Blk.alloc ?_ _) | (with_reducible refine Blk.below ?_ (by with_reducible assumption)) | (with_reducible refine Blk.drew ?_)))
    have HB1 := Lib.hid h1
    have hus := HU.out.below h1
    have kx := HX.out.below h1
    have HU1 := Lib.hid hus
    obtain ⟨a0, a1, a2, a3, a4, a5, a6, a7, al⟩ := hus.cells
    obtain ⟨p0, p1, pl, pf⟩ := K2.o2
    obtain ⟨x0, xl, xf⟩ := kx.o1
    clear e1 h1 hus kx K2
    refine Rel.region3 10 (by kernel_rfl) (by kernel_rfl) (by kernel_rfl) ?_
    simp only [List.take_succ_cons, List.take_zero, List.drop_succ_cons, List.drop_zero, List.filterMap_cons, List.filterMap_nil]
    repeat (apply Rel.op3; (focus (first | exact Rel.gno rfl | exact Rel.gyes _ true _ rfl rfl rfl | exact Rel.gyes _ false _ rfl rfl rfl)); (focus (intro a W hb hd hbase; obtain ⟨hc, hf⟩ := bcell hb; clear hb hf; simp [Rel.deps, Rel.dep1, Rel.ons, Region.binds, Act.eval] at hd; simp only [Act.eval, List.mem_cons, List.not_mem_nil, not_or, and_imp, or_false, Array.getD_eq_getD_getElem?] at hbase; go_simp; (try go_bits); (try rfl); done)); (try simp only [List.nil_append, List.cons_append]))
    refine Rel.done3 ?_
    intro x w2 hb2 hx
    simp only [Rel.facts, Nat.zero_add, Nat.reduceAdd] at hx
    obtain ⟨e0, e1, e2, e3, e4, e5, e6, e7, e8, e9, _⟩ := hx
    simp only [Rel.fill, Nat.zero_add, Nat.reduceAdd, e0, e1, e2, e3, e4, e5, e6, e7, e8, e9]
    simp only [Act.put, List.setIfInBounds_toArray, List.set_cons_zero, List.set_cons_succ]
    clear e0 e1 e2 e3 e4 e5 e6 e7 e8 e9
    have HU2 := Lib.hid (HU1.out.below hb2)
    have HB2 := Lib.hid (HB1.out.trans (hb2.mono HB1.out.size))
    clear hb2 a0 a1 a2 a3 a4 a5 a6 a7 al p0 p1 pl pf x0 xl xf
    go_wp2_with (go_at_call 111; refine (HDI.out _ _ v2 v3 4 2 _ (by decide) (by decide) HU2.out.k2 HU2.out.k3).mono ?_; rintro r w3 ⟨rfl, h3⟩; refine Hid.out ?_)
    unfold Hid
    have HB3 := Lib.hid (HB2.out.trans (h3.mono HB2.out.size))
    clear h3
    go_wp2
    go_ret
    exact ⟨by first | rfl | (simp [diffV, mx]; done), HB3.out⟩
  · show Calls Try.prog 110 #[.agg #[(.int .i64 0), (.int .i64 2)], .pointer (some ⟨bx, 0, none⟩)] w fun r w' => r = .returned (.int .i64 1) ∧ Below w.heap.size w w'
    go_enter Try.func110, Try.ntmps110
    go_wp2
    refine name_world ?_
    intro w1 e1
    have h1 : Below w.heap.size w w1 := by rw [e1]; exact bel
    have K2 : Blk w1 w.heap.size #[(.int .i64 0), (.int .i64 2)] := by rw [e1]; (repeat (first | ((with_reducible refine Blk.at_ ?_); focus (first | rfl | (simp; done) | (simp; omega))) | (with_reducible refine Blk.alloc ?_ _) | (with_reducible refine Blk.below ?_ (by with_reducible assumption)) | (with_reducible refine Blk.drew ?_)))
    have HB1 := Lib.hid h1
    have hus := HU.out.below h1
    have kx := HX.out.below h1
    have HU1 := Lib.hid hus
    obtain ⟨a0, a1, a2, a3, a4, a5, a6, a7, al⟩ := hus.cells
    obtain ⟨p0, p1, pl, pf⟩ := K2.o2
    obtain ⟨x0, xl, xf⟩ := kx.o1
    clear e1 h1 hus kx K2
    refine Rel.region3 10 (by kernel_rfl) (by kernel_rfl) (by kernel_rfl) ?_
    simp only [List.take_succ_cons, List.take_zero, List.drop_succ_cons, List.drop_zero, List.filterMap_cons, List.filterMap_nil]
    repeat (apply Rel.op3; (focus (first | exact Rel.gno rfl | exact Rel.gyes _ true _ rfl rfl rfl | exact Rel.gyes _ false _ rfl rfl rfl)); (focus (intro a W hb hd hbase; obtain ⟨hc, hf⟩ := bcell hb; clear hb hf; simp [Rel.deps, Rel.dep1, Rel.ons, Region.binds, Act.eval] at hd; simp only [Act.eval, List.mem_cons, List.not_mem_nil, not_or, and_imp, or_false, Array.getD_eq_getD_getElem?] at hbase; go_simp; (try go_bits); (try rfl); done)); (try simp only [List.nil_append, List.cons_append]))
    refine Rel.done3 ?_
    intro x w2 hb2 hx
    simp only [Rel.facts, Nat.zero_add, Nat.reduceAdd] at hx
    obtain ⟨e0, e1, e2, e3, e4, e5, e6, e7, e8, e9, _⟩ := hx
    simp only [Rel.fill, Nat.zero_add, Nat.reduceAdd, e0, e1, e2, e3, e4, e5, e6, e7, e8, e9]
    simp only [Act.put, List.setIfInBounds_toArray, List.set_cons_zero, List.set_cons_succ]
    clear e0 e1 e2 e3 e4 e5 e6 e7 e8 e9
    have HU2 := Lib.hid (HU1.out.below hb2)
    have HB2 := Lib.hid (HB1.out.trans (hb2.mono HB1.out.size))
    clear hb2 a0 a1 a2 a3 a4 a5 a6 a7 al p0 p1 pl pf x0 xl xf
    go_wp2_with (go_at_call 111; refine (HDI.out _ _ v0 v2 5 4 _ (by decide) (by decide) HU2.out.k0 HU2.out.k2).mono ?_; rintro r w3 ⟨rfl, h3⟩; refine Hid.out ?_)
    unfold Hid
    have HB3 := Lib.hid (HB2.out.trans (h3.mono HB2.out.size))
    clear h3
    go_wp2
    go_ret
    exact ⟨by first | rfl | (simp [diffV, mx]; done), HB3.out⟩
  · show Calls Try.prog 110 #[.agg #[(.int .i64 1), (.int .i64 3)], .pointer (some ⟨bx, 0, none⟩)] w fun r w' => r = .returned (.int .i64 1) ∧ Below w.heap.size w w'
    go_enter Try.func110, Try.ntmps110
    go_wp2
    refine name_world ?_
    intro w1 e1
    have h1 : Below w.heap.size w w1 := by rw [e1]; exact bel
    have K2 : Blk w1 w.heap.size #[(.int .i64 1), (.int .i64 3)] := by rw [e1]; (repeat (first | ((with_reducible refine Blk.at_ ?_); focus (first | rfl | (simp; done) | (simp; omega))) | (with_reducible refine Blk.alloc ?_ _) | (with_reducible refine Blk.below ?_ (by with_reducible assumption)) | (with_reducible refine Blk.drew ?_)))
    have HB1 := Lib.hid h1
    have hus := HU.out.below h1
    have kx := HX.out.below h1
    have HU1 := Lib.hid hus
    obtain ⟨a0, a1, a2, a3, a4, a5, a6, a7, al⟩ := hus.cells
    obtain ⟨p0, p1, pl, pf⟩ := K2.o2
    obtain ⟨x0, xl, xf⟩ := kx.o1
    clear e1 h1 hus kx K2
    refine Rel.region3 10 (by kernel_rfl) (by kernel_rfl) (by kernel_rfl) ?_
    simp only [List.take_succ_cons, List.take_zero, List.drop_succ_cons, List.drop_zero, List.filterMap_cons, List.filterMap_nil]
    repeat (apply Rel.op3; (focus (first | exact Rel.gno rfl | exact Rel.gyes _ true _ rfl rfl rfl | exact Rel.gyes _ false _ rfl rfl rfl)); (focus (intro a W hb hd hbase; obtain ⟨hc, hf⟩ := bcell hb; clear hb hf; simp [Rel.deps, Rel.dep1, Rel.ons, Region.binds, Act.eval] at hd; simp only [Act.eval, List.mem_cons, List.not_mem_nil, not_or, and_imp, or_false, Array.getD_eq_getD_getElem?] at hbase; go_simp; (try go_bits); (try rfl); done)); (try simp only [List.nil_append, List.cons_append]))
    refine Rel.done3 ?_
    intro x w2 hb2 hx
    simp only [Rel.facts, Nat.zero_add, Nat.reduceAdd] at hx
    obtain ⟨e0, e1, e2, e3, e4, e5, e6, e7, e8, e9, _⟩ := hx
    simp only [Rel.fill, Nat.zero_add, Nat.reduceAdd, e0, e1, e2, e3, e4, e5, e6, e7, e8, e9]
    simp only [Act.put, List.setIfInBounds_toArray, List.set_cons_zero, List.set_cons_succ]
    clear e0 e1 e2 e3 e4 e5 e6 e7 e8 e9
    have HU2 := Lib.hid (HU1.out.below hb2)
    have HB2 := Lib.hid (HB1.out.trans (hb2.mono HB1.out.size))
    clear hb2 a0 a1 a2 a3 a4 a5 a6 a7 al p0 p1 pl pf x0 xl xf
    go_wp2_with (go_at_call 111; refine (HDI.out _ _ v1 v3 1 2 _ (by decide) (by decide) HU2.out.k1 HU2.out.k3).mono ?_; rintro r w3 ⟨rfl, h3⟩; refine Hid.out ?_)
    unfold Hid
    have HB3 := Lib.hid (HB2.out.trans (h3.mono HB2.out.size))
    clear h3
    go_wp2
    go_ret
    exact ⟨by first | rfl | (simp [diffV, mx]; done), HB3.out⟩
  · show Calls Try.prog 110 #[.agg #[(.int .i64 0), (.int .i64 3)], .pointer (some ⟨bx, 0, none⟩)] w fun r w' => r = .returned (.int .i64 3) ∧ Below w.heap.size w w'
    go_enter Try.func110, Try.ntmps110
    go_wp2
    refine name_world ?_
    intro w1 e1
    have h1 : Below w.heap.size w w1 := by rw [e1]; exact bel
    have K2 : Blk w1 w.heap.size #[(.int .i64 0), (.int .i64 3)] := by rw [e1]; (repeat (first | ((with_reducible refine Blk.at_ ?_); focus (first | rfl | (simp; done) | (simp; omega))) | (with_reducible refine Blk.alloc ?_ _) | (with_reducible refine Blk.below ?_ (by with_reducible assumption)) | (with_reducible refine Blk.drew ?_)))
    have HB1 := Lib.hid h1
    have hus := HU.out.below h1
    have kx := HX.out.below h1
    have HU1 := Lib.hid hus
    obtain ⟨a0, a1, a2, a3, a4, a5, a6, a7, al⟩ := hus.cells
    obtain ⟨p0, p1, pl, pf⟩ := K2.o2
    obtain ⟨x0, xl, xf⟩ := kx.o1
    clear e1 h1 hus kx K2
    refine Rel.region3 10 (by kernel_rfl) (by kernel_rfl) (by kernel_rfl) ?_
    simp only [List.take_succ_cons, List.take_zero, List.drop_succ_cons, List.drop_zero, List.filterMap_cons, List.filterMap_nil]
    repeat (apply Rel.op3; (focus (first | exact Rel.gno rfl | exact Rel.gyes _ true _ rfl rfl rfl | exact Rel.gyes _ false _ rfl rfl rfl)); (focus (intro a W hb hd hbase; obtain ⟨hc, hf⟩ := bcell hb; clear hb hf; simp [Rel.deps, Rel.dep1, Rel.ons, Region.binds, Act.eval] at hd; simp only [Act.eval, List.mem_cons, List.not_mem_nil, not_or, and_imp, or_false, Array.getD_eq_getD_getElem?] at hbase; go_simp; (try go_bits); (try rfl); done)); (try simp only [List.nil_append, List.cons_append]))
    refine Rel.done3 ?_
    intro x w2 hb2 hx
    simp only [Rel.facts, Nat.zero_add, Nat.reduceAdd] at hx
    obtain ⟨e0, e1, e2, e3, e4, e5, e6, e7, e8, e9, _⟩ := hx
    simp only [Rel.fill, Nat.zero_add, Nat.reduceAdd, e0, e1, e2, e3, e4, e5, e6, e7, e8, e9]
    simp only [Act.put, List.setIfInBounds_toArray, List.set_cons_zero, List.set_cons_succ]
    clear e0 e1 e2 e3 e4 e5 e6 e7 e8 e9
    have HU2 := Lib.hid (HU1.out.below hb2)
    have HB2 := Lib.hid (HB1.out.trans (hb2.mono HB1.out.size))
    clear hb2 a0 a1 a2 a3 a4 a5 a6 a7 al p0 p1 pl pf x0 xl xf
    go_wp2_with (go_at_call 111; refine (HDI.out _ _ v0 v3 5 2 _ (by decide) (by decide) HU2.out.k0 HU2.out.k3).mono ?_; rintro r w3 ⟨rfl, h3⟩; refine Hid.out ?_)
    unfold Hid
    have HB3 := Lib.hid (HB2.out.trans (h3.mono HB2.out.size))
    clear h3
    go_wp2
    go_ret
    exact ⟨by first | rfl | (simp [diffV, mx]; done), HB3.out⟩
  · show Calls Try.prog 110 #[.agg #[(.int .i64 1), (.int .i64 2)], .pointer (some ⟨bx, 0, none⟩)] w fun r w' => r = .returned (.int .i64 3) ∧ Below w.heap.size w w'
    go_enter Try.func110, Try.ntmps110
    go_wp2
    refine name_world ?_
    intro w1 e1
    have h1 : Below w.heap.size w w1 := by rw [e1]; exact bel
    have K2 : Blk w1 w.heap.size #[(.int .i64 1), (.int .i64 2)] := by rw [e1]; (repeat (first | ((with_reducible refine Blk.at_ ?_); focus (first | rfl | (simp; done) | (simp; omega))) | (with_reducible refine Blk.alloc ?_ _) | (with_reducible refine Blk.below ?_ (by with_reducible assumption)) | (with_reducible refine Blk.drew ?_)))
    have HB1 := Lib.hid h1
    have hus := HU.out.below h1
    have kx := HX.out.below h1
    have HU1 := Lib.hid hus
    obtain ⟨a0, a1, a2, a3, a4, a5, a6, a7, al⟩ := hus.cells
    obtain ⟨p0, p1, pl, pf⟩ := K2.o2
    obtain ⟨x0, xl, xf⟩ := kx.o1
    clear e1 h1 hus kx K2
    refine Rel.region3 10 (by kernel_rfl) (by kernel_rfl) (by kernel_rfl) ?_
    simp only [List.take_succ_cons, List.take_zero, List.drop_succ_cons, List.drop_zero, List.filterMap_cons, List.filterMap_nil]
    repeat (apply Rel.op3; (focus (first | exact Rel.gno rfl | exact Rel.gyes _ true _ rfl rfl rfl | exact Rel.gyes _ false _ rfl rfl rfl)); (focus (intro a W hb hd hbase; obtain ⟨hc, hf⟩ := bcell hb; clear hb hf; simp [Rel.deps, Rel.dep1, Rel.ons, Region.binds, Act.eval] at hd; simp only [Act.eval, List.mem_cons, List.not_mem_nil, not_or, and_imp, or_false, Array.getD_eq_getD_getElem?] at hbase; go_simp; (try go_bits); (try rfl); done)); (try simp only [List.nil_append, List.cons_append]))
    refine Rel.done3 ?_
    intro x w2 hb2 hx
    simp only [Rel.facts, Nat.zero_add, Nat.reduceAdd] at hx
    obtain ⟨e0, e1, e2, e3, e4, e5, e6, e7, e8, e9, _⟩ := hx
    simp only [Rel.fill, Nat.zero_add, Nat.reduceAdd, e0, e1, e2, e3, e4, e5, e6, e7, e8, e9]
    simp only [Act.put, List.setIfInBounds_toArray, List.set_cons_zero, List.set_cons_succ]
    clear e0 e1 e2 e3 e4 e5 e6 e7 e8 e9
    have HU2 := Lib.hid (HU1.out.below hb2)
    have HB2 := Lib.hid (HB1.out.trans (hb2.mono HB1.out.size))
    clear hb2 a0 a1 a2 a3 a4 a5 a6 a7 al p0 p1 pl pf x0 xl xf
    go_wp2_with (go_at_call 111; refine (HDI.out _ _ v1 v2 1 4 _ (by decide) (by decide) HU2.out.k1 HU2.out.k2).mono ?_; rintro r w3 ⟨rfl, h3⟩; refine Hid.out ?_)
    unfold Hid
    have HB3 := Lib.hid (HB2.out.trans (h3.mono HB2.out.size))
    clear h3
    go_wp2
    go_ret
    exact ⟨by first | rfl | (simp [diffV, mx]; done), HB3.out⟩
end Go.Proofs.Ytamldoidalnloaa

/- worst: the worst difference of pairs of the four units. -/
namespace Go.Proofs.Ytamldoidalnloaa
open Go.RowKit
open Calm (bcell Blk)
def flatP (ps : List (Nat × Nat)) : List Int := ps.flatMap fun p => [(p.1 : Int), (p.2 : Int)]
theorem flatP_len (ps : List (Nat × Nat)) : (flatP ps).length = 2 * ps.length := by
  induction ps with
  | nil => rfl
  | cons p r ih => simp only [flatP, List.flatMap_cons, List.length_append, List.length_cons, List.length_nil] at ih ⊢; omega
theorem flatP_get : ∀ {ps : List (Nat × Nat)} {k : Nat} {p : Nat × Nat}, ps[k]? = some p → (flatP ps).getD (2 * k) 0 = (p.1 : Int) ∧ (flatP ps).getD (2 * k + 1) 0 = (p.2 : Int)
  | [], k, p, h => by cases h
  | q :: r, 0, p, h => by cases h; exact ⟨rfl, rfl⟩
  | q :: r, k + 1, p, h => by
    have := flatP_get (ps := r) (k := k) (p := p) (by simpa using h)
    refine ⟨?_, ?_⟩
    · rw [← this.1]; show ([(q.1 : Int), (q.2 : Int)] ++ flatP r).getD (2 * (k + 1)) 0 = _
      rw [show 2 * (k + 1) = 2 * k + 2 by omega]; rfl
    · rw [← this.2]; show ([(q.1 : Int), (q.2 : Int)] ++ flatP r).getD (2 * (k + 1) + 1) 0 = _
      rw [show 2 * (k + 1) + 1 = 2 * k + 1 + 2 by omega]; rfl
set_option maxRecDepth 100000 in
set_option maxHeartbeats 4000000 in
theorem mapPairs_any (ps : List (Nat × Nat)) (A : Option Addr) (c N bx ub v0 v1 v2 v3 : Nat) (w : World) (hN : N = ps.length) (hN5 : N ≤ 100) (hp : ∀ p ∈ ps, okP p) (hC : Cells w A (flatP ps)) (hU : US w ub v0 v1 v2 v3) (hx : Blk w bx #[.slice (some ⟨ub, 0, none⟩) 4 4]) :
    Calls Try.prog 109 #[.slice A N c, .func (.func 110) #[] #[.pointer (some ⟨bx, 0, none⟩)]] w fun r w' => ∃ v, r = .returned v ∧ w'.ownsRow w.heap.size 3 1 v (ps.map dV).length ((ps.map dV).map (Value.int .i64)) ∧ Below w.heap.size w w' := by
  have HC := Lib.hid hC
  have HN := Lib.hid hN
  have HW : Hid (∀ (p : Nat × Nat) (W : World), p ∈ ps → Below w.heap.size w W → Calls Try.prog 110 #[.agg #[(.int .i64 ((p.1 : Int))), (.int .i64 ((p.2 : Int)))], .pointer (some ⟨bx, 0, none⟩)] W fun r w' => r = .returned (.int .i64 (dV p)) ∧ Below W.heap.size W w') := Lib.hid (fun p W hm hb => worst1_any p (hp p hm) bx ub v0 v1 v2 v3 W (hU.below hb) (hx.below hb))
  have HLK : Hid (∀ k, k ≤ N → ((ps.take k).map dV).length = k) := Lib.hid (fun k hk => by rw [List.length_map, List.length_take]; omega)
  clear hC hN hp hU hx
  go_enter Try.func109, Try.ntmps109
  go_wp2
  go_loopw [5, 10] (fun v z wr => ∃ k : Nat, k ≤ N ∧ z = (.int .i64 ((k : Int))) ∧ wr.ownsRow w.heap.size 3 1 v ((ps.take k).map dV).length (((ps.take k).map dV).map (Value.int .i64)) ∧ Below w.heap.size w wr) (fun _ z _ => N - (intOf z).toNat)
  case atStart => exact ⟨0, Nat.zero_le _, rfl, World.ownsRow_nil _ _ _ _, Below.refl _ _⟩
  case round =>
    obtain ⟨k, hk, rfl, ho, hb⟩ := hrel
    have HO := Lib.hid ho
    have HBR := Lib.hid hb
    have hzr := hb.size
    have hle := Lib.hid (HLK.out k hk)
    by_cases hlt : k < N
    · have hkl : k < ps.length := by rw [← HN.out]; exact hlt
      obtain ⟨p, hpk⟩ : ∃ p, ps[k]? = some p := ⟨_, List.getElem?_eq_getElem hkl⟩
      have hpm : p ∈ ps := List.mem_of_getElem? hpk
      obtain ⟨g1, g2⟩ := flatP_get hpk
      obtain ⟨b, o, rfl, lb, hc⟩ := (HC.out.below hb) (by rw [flatP_len]; omega)
      have x1 := hc (2 * k) (by rw [flatP_len]; omega)
      have x2 := hc (2 * k + 1) (by rw [flatP_len]; omega)
      rw [g1] at x1
      rw [g2] at x2
      have HPM := Lib.hid hpm
      have HS : Hid ((ps.take (k + 1)).map dV = (ps.take k).map dV ++ [dV p]) := Lib.hid (by rw [List.take_add_one, hpk, List.map_append]; rfl)
      rw [show o + 2 * k = o + k * 2 by omega] at x1
      rw [show o + (2 * k + 1) = o + k * 2 + 1 by omega] at x2
      clear hc g1 g2 hpk hpm ho hb hkl
      go_wp2_with (go_at_call 110; refine name_calls ?_; intro w2 e2; refine Hid.out ?_)
      unfold Hid
      have h2 : Below wr.heap.size wr w2 := by rw [e2]; exact bel
      have HB2 := Lib.hid (HBR.out.trans (h2.mono hzr))
      have HO2 := Lib.hid (ownsRow_below HO.out h2)
      clear e2 h2 x1 x2
      refine (HW.out p w2 HPM.out HB2.out).mono ?_
      rintro r w3 ⟨rfl, h3⟩
      have HB3 := Lib.hid (HB2.out.trans (h3.mono HB2.out.size))
      have HO3 := Lib.hid (ownsRow_below HO2.out h3)
      obtain ⟨y, hy⟩ : ∃ y, y = dV p := ⟨_, rfl⟩
      rw [← hy] at HS ⊢
      clear h3 hy
      go_wp2_with (at_builtin; refine name_list ?_; intro w4 e4; refine Hid.out ?_)
      unfold Hid
      have h4 : Below w3.heap.size w3 w4 := by rw [e4]; exact bel
      have hC4 : Cells w4 (some ⟨w3.heap.size, 0, none⟩) [y] := Cells.blk (by rw [e4]; exact Calm.Blk.new _ _ _) rfl
      have HO4 := Lib.hid (ownsRow_below HO3.out h4)
      have HB4 := Lib.hid (HB3.out.trans (h4.mono HB3.out.size))
      have hs4 := HB4.out.size
      have hle' := hle.out
      clear e4 h4
      refine wpList_appS rfl _ _ rfl w.heap.size _ ((ps.take k).map dV) rfl HO4.out _ 1 1 [y] rfl rfl hC4 (by omega) hs4 ?_
      intro v' w5 hown hgrow
      have HB5 := Lib.hid (HB4.out.grown hgrow hs4 (fun q hq => (HO4.out.lt q hq).1))
      have HO5 := Lib.hid hown
      clear hown hgrow hC4 hle'
      go_wp2
      go_roundw
      case rel => exact ⟨k + 1, by omega, by go_num, by rw [HS.out]; exact HO5.out, HB5.out⟩
      case measure => simp [intOf]; omega
    · obtain rfl : k = N := by omega
      have e : ps.take k = ps := by rw [HN.out]; exact List.take_length
      rw [e] at ho
      have HO9 := Lib.hid ho
      clear ho hb e
      go_wp2
      go_ret
      exact ⟨_, rfl, HO9.out, HBR.out⟩
/-- the greatest of the first numbers of a list. -/
def mxK (l : List Int) : Nat → Int
  | 0 => l.getD 0 0
  | k + 1 => mx (mxK l k) (l.getD (k + 1) 0)
set_option maxRecDepth 100000 in
set_option maxHeartbeats 4000000 in
theorem max_any (l : List Int) (A : Option Addr) (c N : Nat) (w : World) (hN : N = l.length) (hN1 : 1 ≤ N) (hN5 : N ≤ 1000) (hC : Cells w A l) : Calls Try.prog 108 #[.slice A N c] w fun r w' => r = .returned (.int .i64 (mxK l (N - 1))) ∧ w = w' := by
  obtain ⟨b, o, rfl, hb, hc⟩ := hC (by omega)
  have HC := Lib.hid hc
  have HN := Lib.hid hN
  have x0 := hc 0 (by omega)
  rw [Nat.add_zero] at x0
  have hmax : ∀ (ts : Array TypeId) (t : TypeId) (x y : Int) (W : World), (Builtin.max_ ts t #[(.int .i64 x), (.int .i64 y)]).run Try.prog W = .ok (.int .i64 (mx x y)) W := max2_any
  obtain ⟨F, hF⟩ : ∃ F : Nat → Int, F = mxK l := ⟨_, rfl⟩
  have HF0 : Hid (F 0 = l.getD 0 0) := Lib.hid (by rw [hF]; rfl)
  have HF1 : Hid (∀ k, F (k + 1) = mx (F k) (l.getD (k + 1) 0)) := Lib.hid (fun k => by rw [hF]; rfl)
  rw [← hF]
  obtain ⟨y0, hy0⟩ : ∃ y, y = l.getD 0 0 := ⟨_, rfl⟩
  rw [← hy0] at x0 HF0
  have hn1 : ¬ (N : Int) < 1 := by omega
  clear hC hc hN hF hy0
  go_enter Try.func108, Try.ntmps108
  go_wp2
  go_loop [3, 4] (fun m z => ∃ k : Nat, k + 1 ≤ N ∧ z = (.int .i64 (((k + 1 : Nat) : Int))) ∧ m = (.int .i64 (F k))) (fun _ z => N - (intOf z).toNat)
  case atStart => exact ⟨0, by omega, rfl, by rw [HF0.out]⟩
  case round =>
    obtain ⟨k, hk, rfl, rfl⟩ := hrel
    have ek : ((k + 1 : Nat) : Int) = (k : Int) + 1 := by omega
    rw [ek]
    by_cases hlt : k + 1 < N
    · have x1 := HC.out (k + 1) (by rw [← HN.out]; exact hlt)
      have HFk := Lib.hid (HF1.out k)
      obtain ⟨y, hy⟩ : ∃ y, y = l.getD (k + 1) 0 := ⟨_, rfl⟩
      obtain ⟨f, hf⟩ : ∃ f, f = F k := ⟨_, rfl⟩
      rw [← hy] at x1 HFk
      rw [← hf] at HFk ⊢
      have hkN : (k : Int) + 1 < (N : Int) := by omega
      clear hy hf
      go_wp2
      go_round
      case rel => exact ⟨k + 1, by omega, by go_num, by rw [HFk.out]⟩
      case measure => simp [intOf]; omega
    · obtain rfl : N = k + 1 := by omega
      go_wp2
      go_ret
      exact ⟨by first | rfl | (simp; done), rfl⟩
/-- the worst difference of pairs. -/
def wV (ps : List (Nat × Nat)) : Int := mxK (ps.map dV ++ [0]) ps.length
set_option maxRecDepth 100000 in
set_option maxHeartbeats 4000000 in
theorem worst_any (ps : List (Nat × Nat)) (A : Option Addr) (c N ub v0 v1 v2 v3 : Nat) (w : World) (hN : N = ps.length) (hN5 : N ≤ 100) (hp : ∀ p ∈ ps, okP p) (hC : Cells w A (flatP ps)) (hU : US w ub v0 v1 v2 v3) :
    Calls Try.prog 94 #[.slice (some ⟨ub, 0, none⟩) 4 4, .slice A N c] w fun r w' => r = .returned (.int .i64 (wV ps)) ∧ Below w.heap.size w w' := by
  have HM : Hid (∀ (W : World) (bx : Nat), Cells W A (flatP ps) → US W ub v0 v1 v2 v3 → Blk W bx #[.slice (some ⟨ub, 0, none⟩) 4 4] → Calls Try.prog 109 #[.slice A N c, .func (.func 110) #[] #[.pointer (some ⟨bx, 0, none⟩)]] W fun r w' => ∃ v, r = .returned v ∧ w'.ownsRow W.heap.size 3 1 v (ps.map dV).length ((ps.map dV).map (Value.int .i64)) ∧ Below W.heap.size W w') := Lib.hid (fun W bx q1 q2 q3 => mapPairs_any ps A c N bx ub v0 v1 v2 v3 W hN hN5 hp q1 q2 q3)
  have HMX : Hid (∀ (W : World) (B : Option Addr) (d : Nat), Cells W B (ps.map dV ++ [0]) → Calls Try.prog 108 #[.slice B (N + 1) d] W fun r w' => r = .returned (.int .i64 (wV ps)) ∧ W = w') := Lib.hid (fun W B d q => by
    have := max_any (ps.map dV ++ [0]) B d (N + 1) W (by simp [hN]) (by omega) (by omega) q
    unfold wV
    rw [← hN]
    exact this)
  have HL : Hid ((ps.map dV).length = N) := Lib.hid (by simp [hN])
  have HC := Lib.hid hC
  have HU := Lib.hid hU
  obtain ⟨V, hV⟩ : ∃ V, V = wV ps := ⟨_, rfl⟩
  rw [← hV] at HMX ⊢
  clear hC hU hN hp hV
  go_enter Try.func94, Try.ntmps94
  go_wp2_with (go_at_call 109; refine name_calls ?_; intro w1 e1; refine Hid.out ?_)
  unfold Hid
  have h1 : Below w.heap.size w w1 := by rw [e1]; exact bel
  have K1 : Blk w1 w.heap.size #[.slice (some ⟨ub, 0, none⟩) 4 4] := by rw [e1]; (repeat (first | ((with_reducible refine Blk.at_ ?_); focus (first | rfl | (simp; done) | (simp; omega))) | (with_reducible refine Blk.alloc ?_ _) | (with_reducible refine Blk.below ?_ (by with_reducible assumption)) | (with_reducible refine Blk.drew ?_)))
  have HB1 := Lib.hid h1
  clear e1
  refine (HM.out w1 _ (HC.out.below h1) (HU.out.below h1) K1).mono ?_
  rintro r w2 ⟨v, rfl, ho, h2⟩
  have HO2 := Lib.hid ho
  have HB2 := Lib.hid (HB1.out.trans (h2.mono HB1.out.size))
  have hs1 := h2.size
  clear h1 h2 ho K1
  go_wp2_with (at_builtin; refine name_list ?_; intro w4 e4; refine Hid.out ?_)
  unfold Hid
  have h4 : Below w2.heap.size w2 w4 := by rw [e4]; exact bel
  have hC4 : Cells w4 (some ⟨w2.heap.size, 0, none⟩) [0] := Cells.blk (by rw [e4]; exact Calm.Blk.new _ _ _) rfl
  have HO4 := Lib.hid (ownsRow_below HO2.out h4)
  have HB4 := Lib.hid (HB2.out.trans (h4.mono HB2.out.size))
  have hs4 : w1.heap.size ≤ w4.heap.size := by have := h4.size; omega
  have hl := HL.out
  clear e4 h4
  refine wpList_appS rfl _ _ rfl w1.heap.size _ (ps.map dV) rfl HO4.out _ 1 1 [0] rfl rfl hC4 (by omega) hs4 ?_
  intro v' w5 hown hgrow
  have HB5 := Lib.hid (HB4.out.grown hgrow HB4.out.size (fun q hq => by have := (HO4.out.lt q hq).1; have := HB1.out.size; omega))
  obtain ⟨B, d, rfl, -, hcc⟩ := own_ints (zs := ps.map dV ++ [0]) hown rfl
  have HCC := Lib.hid hcc
  have hln : (ps.map dV ++ [0]).length = N + 1 := by rw [List.length_append, hl]; rfl
  rw [hln]
  clear hown hgrow hC4 hl hcc hln
  go_wp2_with (go_at_call 108; refine (HMX.out _ _ _ HCC.out).mono ?_; rintro r w6 ⟨rfl, rfl⟩; refine Hid.out ?_)
  unfold Hid
  go_wp2
  go_ret
  exact ⟨rfl, HB5.out⟩
end Go.Proofs.Ytamldoidalnloaa

/- Pairs of indices: their clones, rows and lists; the indices of four units; SamePairs. -/
namespace Go.Proofs.Ytamldoidalnloaa
open Go.RowKit
open Calm (bcell Blk)
theorem Try.infoP2 : (Try.prog.info? 66).map (fun i => (i.zero, i.size, i.bytes)) = some (some (.agg #[.int .i64 0, .int .i64 0]), 2, 16) := by kernel_rfl
theorem own_pairs {W : World} {base n : Nat} {e : TypeId} {v : Value} {zs : List Int} (h : W.ownsRow base e 2 v n (zs.map (Value.int .i64))) : ∃ A c, v = .slice A n c ∧ (∀ p, A = some p → base ≤ p.block) ∧ Cells W A zs ∧ n ≤ c := by
  have h1 := h.1
  rcases h.2 with ⟨h1, h2⟩ | ⟨g, cap, cur, h1, h2, h3, h4, h5, h6, h7⟩
  · refine ⟨none, 0, by rw [h1, h2], by simp, fun h0 => ?_, by omega⟩
    have h1' := h.1
    simp [h2] at h1'
    simp [h1'] at h0
  · refine ⟨some ⟨g, 0, none⟩, cap, h1, by rintro p ⟨⟩; exact h2, fun h0 => ⟨g, 0, rfl, (Array.getElem?_eq_some_iff.1 h3).1, fun k hk => ?_⟩, h4⟩
    have hj : (zs.map (Value.int .i64))[k]? = some (.int .i64 (zs.getD k 0)) := by simp [hk, List.getD_eq_getElem?_getD]
    rw [Nat.zero_add, cell_of_row W g k cur _ _ h3]
    rw [← h7, List.getElem?_take] at hj
    split at hj
    · rw [← hj]; simp
    · cases hj
theorem eq_nil2 (A : Option Addr) (n c : Nat) (W : World) : Sem.run Try.prog (binOp .eql 59 (.slice A n c) (.slice none 0 0)) W = .ok (.bool A.isNone) W := by
  have h := run_equal_slice_nil (P := Try.prog) W 59 66 A n c Try.underlying59
  simp only [binOp]
  simp [h, go_sem]
theorem wpList_appC2 {w : World} {ops : Array Oper} {rest : List Oper} {o : Oper} {a : Act} {Q : Exit → Act → World → Prop} (hgd : o.guard = none) (s x : Operand)
    (ho : o.op = .call { callee := .builtin .append, args := #[s, x], argTypes := #[59, 59] }) (g n c : Nat) (A : Option Addr) (ps : List (Nat × Nat)) (hn : n = ps.length)
    (hs : a.eval s = .slice (some ⟨g, 0, none⟩) 0 0) (hx : a.eval x = .slice A n c) (hg : w.ownsRow g 66 2 (.slice (some ⟨g, 0, none⟩) 0 0) 0 []) (h5 : n ≤ 100) (hC : Cells w A (flatP ps))
    (h : ∀ v w', Below w.heap.size w w' → w'.ownsRow g 66 2 v n ((flatP ps).map (Value.int .i64)) → wpList Try.prog ops Q rest (a.put o.dst v) w') : wpList Try.prog ops Q (o :: rest) a w := by
  obtain ⟨i0, hi, hz0, hz1, hz2⟩ := info_parts Try.infoP2
  have hfl := flatP_len ps
  refine wpList_plain hgd fun K hK => ?_
  rcases Nat.eq_zero_or_pos n with h0 | h0
  · subst h0
    obtain rfl : ps = [] := List.eq_nil_of_length_eq_zero hn.symm
    have hrun := Rel.run_append_zero (P := Try.prog) w 59 o.type 66 i0 _ Try.underlying59 hi hz0 ⟨g, 0, none⟩ A c
    unfold Oper.wp
    simp [execOp, ho, resolve, invoke, builtin, hs, hx, hrun, Result.andThen]
    exact hK _ _ (h (.slice (some ⟨g, 0, none⟩) 0 0) w (Below.refl _ _) hg)
  · obtain ⟨b, off, rfl, hb, hc⟩ := hC (by omega)
    obtain ⟨v', w', hrun, r1, r2⟩ := run_append_arg_grows (P := Try.prog) w 59 o.type 66 i0 _ 2 16 Try.underlying59 hi hz0 hz1 hz2 rfl (by decide) ⟨g, 0, none⟩ 0 0 [] (by simp) (by simp) ⟨b, off, none⟩ n c ((flatP ps).map (Value.int .i64)) (by simp; omega) (fun j v hj => cells_src hc j v hj) (by omega) (by unfold maxLen; omega) (by omega)
    unfold Oper.wp
    simp [execOp, ho, resolve, invoke, builtin, hs, hx, hrun, Result.andThen]
    have r1' : w'.ownsRow w.heap.size 66 2 v' n ((flatP ps).map (Value.int .i64)) := by simpa using r1
    have hlt : g ≤ w.heap.size := by
      rcases hg.2 with ⟨e, _⟩ | ⟨g', cap, cur, e, _, e3, _⟩
      · cases e
      · cases e
        exact Nat.le_of_lt (Array.getElem?_eq_some_iff.1 e3).1
    refine hK _ _ (h v' w' ((Below.refl w.heap.size w).grown r2 (Nat.le_refl _) (fun k hk => by cases hk)) ⟨r1'.1, ?_⟩)
    rcases r1'.2 with h2 | ⟨g', cap, cur, h1, h2, h3⟩
    · exact .inl h2
    · exact .inr ⟨g', cap, cur, h1, Nat.le_trans hlt h2, h3⟩
set_option maxHeartbeats 1000000 in
set_option maxRecDepth 100000 in
theorem clone2_any (ps : List (Nat × Nat)) (A : Option Addr) (n c : Nat) (w : World) (hN : n = ps.length) (hC : Cells w A (flatP ps)) (hn : n ≤ 100) :
    Calls Try.prog 95 #[.slice A n c] w fun r w' => (∃ v, r = .returned v ∧ w'.ownsRow w.heap.size 66 2 v n ((flatP ps).map (Value.int .i64))) ∧ Below w.heap.size w w' := by
  have HC := Lib.hid hC
  have HN := Lib.hid hN
  cases A with
  | none =>
    have h0 : ps = [] := by
      rcases Nat.eq_zero_or_pos ps.length with h | h
      · exact List.eq_nil_of_length_eq_zero h
      · obtain ⟨b, o, hA, _⟩ := hC (by rw [flatP_len]; omega)
        cases hA
    subst h0
    obtain rfl : n = 0 := by simpa using hN
    clear hC HC hN HN
    have hnil : ∀ W, Sem.run Try.prog (binOp .eql 59 (.slice none 0 c) (.slice none 0 0)) W = .ok (.bool true) W := fun W => eq_nil2 none 0 c W
    go_enter Try.func95, Try.ntmps95
    go_wp2
    go_ret
    exact ⟨⟨_, rfl, World.ownsRow_nil _ _ _ _⟩, Below.refl _ _⟩
  | some p =>
    clear hC hN
    have hnil : ∀ W, Sem.run Try.prog (binOp .eql 59 (.slice (some p) n c) (.slice none 0 0)) W = .ok (.bool false) W := fun W => eq_nil2 (some p) n c W
    go_enter Try.func95, Try.ntmps95
    go_wp2_with (at_builtin; refine wpList_appC2 rfl _ _ rfl w.heap.size n c (some p) ps HN.out rfl rfl ⟨by simp, .inr ⟨_, 0, #[], rfl, Nat.le_refl _, by show (w.heap.push _)[w.heap.size]? = _; simp, Nat.le_refl _, Nat.zero_le _, by simp, by simp⟩⟩ (by omega) (HC.out.below ((Below.refl _ _).alloc (Nat.le_refl _) _)) ?_)
    intro v w2 hb2 hc2
    have HB2 := Lib.hid (Below.trans ((Below.refl w.heap.size w).alloc (Nat.le_refl _) (.cells #[] 66)) (hb2.mono (by simp)))
    have HC2 := Lib.hid hc2
    clear hb2 hc2
    go_wp2
    go_ret
    exact ⟨⟨_, rfl, HC2.out⟩, HB2.out⟩
/-- 0, 1 .. k - 1. -/
def upL (k : Nat) : List Int := (List.range k).map fun (i : Nat) => (i : Int)
theorem upL_len (k : Nat) : (upL k).length = k := by simp [upL]
theorem upL_succ (k : Nat) : upL (k + 1) = upL k ++ [(k : Int)] := by simp [upL, List.range_succ]
set_option maxRecDepth 100000 in
set_option maxHeartbeats 2000000 in
theorem indices_any (A : Option Addr) (N c : Nat) (w : World) (hN : N ≤ 1000) : Calls Try.prog 73 #[.slice A N c] w fun r w' => (∃ B d, r = .returned (.slice B N d) ∧ Cells w' B (upL N) ∧ (∀ p, B = some p → w.heap.size ≤ p.block) ∧ N ≤ d) ∧ Below w.heap.size w w' := by
  go_enter Try.func73, Try.ntmps73
  go_wp2
  go_loopw [3, 7] (fun v z wr => ∃ k : Nat, k ≤ N ∧ z = (.int .i64 ((k : Int))) ∧ wr.ownsRow w.heap.size 3 1 v (upL k).length ((upL k).map (Value.int .i64)) ∧ Below w.heap.size w wr) (fun _ z _ => N - (intOf z).toNat)
  case atStart => exact ⟨0, Nat.zero_le _, rfl, World.ownsRow_nil _ _ _ _, Below.refl _ _⟩
  case round =>
    obtain ⟨k, hk, rfl, ho, hb⟩ := hrel
    have HO := Lib.hid ho
    have HB := Lib.hid hb
    by_cases hlt : k < N
    · clear ho hb
      go_wp2_with (at_builtin; refine name_list ?_; intro w4 e4; refine Hid.out ?_)
      unfold Hid
      have h4 : Below wr.heap.size wr w4 := by rw [e4]; exact bel
      have hC4 : Cells w4 (some ⟨wr.heap.size, 0, none⟩) [(k : Int)] := Cells.blk (by rw [e4]; exact Calm.Blk.new _ _ _) rfl
      have HO4 := Lib.hid (ownsRow_below HO.out h4)
      have HB4 := Lib.hid (HB.out.trans (h4.mono HB.out.size))
      have hs4 := HB4.out.size
      have hle' := upL_len k
      clear e4 h4
      refine wpList_appS rfl _ _ rfl w.heap.size _ (upL k) rfl HO4.out _ 1 1 [(k : Int)] rfl rfl hC4 (by omega) hs4 ?_
      intro v' w5 hown hgrow
      have HB5 := Lib.hid (HB4.out.grown hgrow hs4 (fun q hq => (HO4.out.lt q hq).1))
      have HO5 := Lib.hid hown
      clear hown hgrow hC4 hle'
      go_wp2
      go_roundw
      case rel => exact ⟨k + 1, by omega, by go_num, by rw [upL_succ]; exact HO5.out, HB5.out⟩
      case measure => simp [intOf]; omega
    · obtain rfl : k = N := by omega
      have hl := upL_len k
      rw [hl] at ho
      obtain ⟨B, d, rfl, h1, h2⟩ := own_ints (zs := upL k) ho hl.symm
      have h3 := (own_room ho).1
      have HB9 := Lib.hid hb
      have H1 := Lib.hid h1
      have H2 := Lib.hid h2
      have H3 := Lib.hid h3
      clear ho hb h1 h2 h3 hl
      go_wp2
      go_ret
      exact ⟨⟨B, d, rfl, H2.out, H1.out, H3.out⟩, HB9.out⟩
theorem neq2 (a b c d : Int) (W : World) : Sem.run Try.prog (binOp BinOp.neq 66 (.agg #[(.int .i64 a), (.int .i64 b)]) (.agg #[(.int .i64 c), (.int .i64 d)])) W = .ok (.bool (decide (¬ (a = c ∧ b = d)))) W := by
  obtain ⟨i, hi, _⟩ := info_parts Try.infoI
  have hc : Try.prog.cellsOf 3 = 1 := by kernel_rfl
  rw [run_neq_struct]
  rw [run_equalIn_array W 9999 _ _ Try.underlying66 hi, hc]
  by_cases h1 : a = c <;> by_cases h2 : b = d <;> simp [go_sem, Op.eqItems, List.range_succ, h1, h2]
end Go.Proofs.Ytamldoidalnloaa

/- Concat of two slices, with what room it leaves. -/
namespace Go.Proofs.Ytamldoidalnloaa
open Go.RowKit
open Calm (bcell Blk)
set_option maxRecDepth 100000 in
set_option maxHeartbeats 4000000 in
theorem concat_cap (xs ys : List Int) (A1 A2 : Option Addr) (n1 n2 c1 c2 b : Nat) (w : World) (hn1 : n1 = xs.length) (hn2 : n2 = ys.length) (hK : Blk w b #[.slice A1 n1 c1, .slice A2 n2 c2]) (hX : Cells w A1 xs) (hY : Cells w A2 ys) (h1 : n1 ≤ 5000) (h2 : n2 ≤ 5000) :
    Calls Try.prog 44 #[.slice (some ⟨b, 0, none⟩) 2 2] w fun r w' => (∃ B d, r = .returned (.slice B (n1 + n2) d) ∧ Cells w' B (xs ++ ys) ∧ (∀ p, B = some p → w.heap.size ≤ p.block) ∧ n1 + n2 ≤ d) ∧ Below w.heap.size w w' := by
  have HK := Lib.hid hK
  have HX := Lib.hid hX
  have HY := Lib.hid hY
  have HN1 := Lib.hid hn1
  have HN2 := Lib.hid hn2
  obtain ⟨f0, f1, fl, ff⟩ := hK.o2
  clear hK hX hY hn1 hn2
  go_enter Try.func44, Try.ntmps44
  go_wp2
  go_loop [3, 11] (fun s i => ∃ k : Nat, k ≤ 2 ∧ i = (.int .i64 ((k : Int))) ∧ s = (.int .i64 (((totC n1 n2 k : Nat) : Int)))) (fun _ i => 2 - (intOf i).toNat)
  case atStart => exact ⟨0, by omega, rfl, rfl⟩
  case round =>
    obtain ⟨k, hk, rfl, rfl⟩ := hrel
    rcases (by omega : k = 0 ∨ k = 1 ∨ k = 2) with rfl | rfl | rfl
    · have e : ((totC n1 n2 0 : Nat) : Int) = 0 := rfl
      have q : ¬ (n1 : Int) < 0 := by omega
      rw [e]
      go_wp2
      go_round
      case rel => exact ⟨1, by omega, by go_num, by simp [totC]⟩
      case measure => simp [intOf]
    · have e : ((totC n1 n2 1 : Nat) : Int) = (n1 : Int) := rfl
      have q : ¬ (n1 : Int) + (n2 : Int) < 0 := by omega
      rw [e]
      go_wp2
      go_round
      case rel => exact ⟨2, by omega, by go_num, by simp [totC]⟩
      case measure => simp [intOf]
    · have e : ((totC n1 n2 2 : Nat) : Int) = ((n1 + n2 : Nat) : Int) := rfl
      rw [e]
      clear e
      go_wp2_with (go_at_call 80; refine (grow_any (n1 + n2) _ (by omega)).mono ?_; rintro r w1 ⟨v, rfl, ho, hb⟩; refine Hid.out ?_)
      unfold Hid
      have HO := Lib.hid ho
      have HB := Lib.hid hb
      have hsz := hb.size
      clear ho hb f0 f1 fl ff
      go_wp2
      go_loopw [6, 27] (fun v i wr => ∃ k : Nat, k ≤ 2 ∧ i = (.int .i64 ((k : Int))) ∧ wr.ownsRow w.heap.size 3 1 v (preC xs ys k).length ((preC xs ys k).map (Value.int .i64)) ∧ Below w.heap.size w wr) (fun _ i _ => 2 - (intOf i).toNat)
      case atStart => exact ⟨0, by omega, rfl, HO.out, HB.out⟩
      case round =>
        obtain ⟨k, hk, rfl, ho, hb⟩ := hrel
        have HO2 := Lib.hid ho
        have HB2 := Lib.hid hb
        have hsz2 := hb.size
        obtain ⟨f0, f1, fl, ff⟩ := (HK.out.below hb).o2
        rcases (by omega : k = 0 ∨ k = 1 ∨ k = 2) with rfl | rfl | rfl
        · clear ho hb
          go_wp2_with (at_builtin; refine wpList_appS rfl _ _ rfl w.heap.size _ [] rfl HO2.out A1 n1 c1 xs HN1.out rfl (HX.out.below HB2.out) (by simp; omega) hsz2 ?_)
          intro v' w' hown hgrow
          have HB3 := Lib.hid (HB2.out.grown hgrow hsz2 (fun j hj => (HO2.out.lt j hj).1))
          have HO3 := Lib.hid hown
          clear hown hgrow f0 f1 fl ff
          go_wp2
          go_roundw
          case rel => exact ⟨1, by omega, by go_num, HO3.out, HB3.out⟩
          case measure => simp [intOf]
        · clear ho hb
          go_wp2_with (at_builtin; refine wpList_appS rfl _ _ rfl w.heap.size _ xs rfl HO2.out A2 n2 c2 ys HN2.out rfl (HY.out.below HB2.out) (by have := HN1.out; omega) hsz2 ?_)
          intro v' w' hown hgrow
          have HB3 := Lib.hid (HB2.out.grown hgrow hsz2 (fun j hj => (HO2.out.lt j hj).1))
          have HO3 := Lib.hid hown
          clear hown hgrow f0 f1 fl ff
          go_wp2
          go_roundw
          case rel => exact ⟨2, by omega, by go_num, by simpa [preC] using HO3.out, HB3.out⟩
          case measure => simp [intOf]
        · have hl : (preC xs ys 2).length = n1 + n2 := by rw [HN1.out, HN2.out]; exact List.length_append
          rw [hl] at ho
          obtain ⟨B, d, rfl, hge, hr⟩ := own_ints (zs := xs ++ ys) ho (by rw [HN1.out, HN2.out, List.length_append])
          have HQ := Lib.hid (own_room ho).1
          have HR := Lib.hid hr
          have HG := Lib.hid hge
          clear ho hb hr hge hl f0 f1 fl ff
          go_wp2
          go_ret
          exact ⟨⟨B, d, rfl, HR.out, HG.out, HQ.out⟩, HB2.out⟩
end Go.Proofs.Ytamldoidalnloaa

/- Worlds that turn in rows of their own alone, each of them at two neighbouring indices to two values; an append of a pair onto a row that the region itself made. -/
namespace Go.Proofs.Ytamldoidalnloaa
open Go.RowKit
open Calm (bcell Blk)
def put2 (n : Nat) (x y : Value) (cur : Array Value) : Array Value := (cur.setIfInBounds n x).setIfInBounds (n + 1) y
theorem put2_size (n : Nat) (x y : Value) (cur : Array Value) : (put2 n x y cur).size = cur.size := by simp [put2]
theorem put2_get (n : Nat) (x y : Value) (cur : Array Value) (i : Nat) : (put2 n x y cur)[i]? = if i < cur.size then (if i = n + 1 then some y else if i = n then some x else cur[i]?) else none := by
  unfold put2
  simp only [Array.getElem?_setIfInBounds, Array.size_setIfInBounds]
  by_cases h : i < cur.size
  · rw [if_pos h]
    by_cases h1 : n + 1 = i
    · subst h1; rw [if_pos rfl, if_pos rfl, if_pos h]
    · by_cases h2 : n = i
      · subst h2; simp [h]
      · simp [h1, h2, Ne.symm h1, Ne.symm h2, show ¬ i = n + 1 from fun e => h1 e.symm, show ¬ i = n from fun e => h2 e.symm]
  · rw [if_neg h]
    have : cur[i]? = none := by simp; omega
    by_cases h1 : n + 1 = i <;> by_cases h2 : n = i <;> simp [h1, h2, this] <;> omega
theorem put2_twice (n : Nat) (x y : Value) (cur : Array Value) : put2 n x y (put2 n x y cur) = put2 n x y cur := by
  apply Array.ext_getElem?
  intro i
  rw [put2_get, put2_size, put2_get]
  by_cases h : i < cur.size
  · simp only [if_pos h]
    by_cases h1 : i = n + 1
    · simp [h1]
    · by_cases h2 : i = n <;> simp [h1, h2]
  · simp [h]
/-- below B nothing turns; a block from B on is as it was, or has x and y at two indices. -/
structure Set2 (n : Nat) (x y : Value) (B : Nat) (W W' : World) : Prop where
  below : Below B W W'
  row : ∀ g, B ≤ g → g < W.heap.size → W'.heap[g]? = W.heap[g]? ∨ ∃ cur t, W.heap[g]? = some (.cells cur t (0, 0)) ∧ W'.heap[g]? = some (.cells (put2 n x y cur) t (0, 0))
theorem Set2.refl {n : Nat} {x y : Value} {B : Nat} (W : World) : Set2 n x y B W W := ⟨Below.refl _ _, fun _ _ _ => .inl rfl⟩
theorem Set2.trans {n : Nat} {x y : Value} {B : Nat} (a b c : World) (h : Set2 n x y B a b) (h' : Set2 n x y B b c) : Set2 n x y B a c := by
  refine ⟨h.below.trans h'.below, fun g hg hl => ?_⟩
  have hl' : g < b.heap.size := Nat.lt_of_lt_of_le hl h.below.size
  rcases h'.row g hg hl' with e' | ⟨cur', t', e1', e2'⟩
  · rcases h.row g hg hl with e | ⟨cur, t, e1, e2⟩
    · exact .inl (e'.trans e)
    · exact .inr ⟨cur, t, e1, e'.trans e2⟩
  · rcases h.row g hg hl with e | ⟨cur, t, e1, e2⟩
    · exact .inr ⟨cur', t', e.symm.trans e1', e2'⟩
    · rw [e2] at e1'
      cases e1'
      exact .inr ⟨cur, _, e1, by rw [e2', put2_twice]⟩
theorem Set2.drawn {n : Nat} {x y : Value} {B : Nat} (W : World) : Set2 n x y B W { W with drawn := W.drawn + 1 } := ⟨⟨rfl, rfl, rfl, Nat.le_refl _, fun _ _ => rfl⟩, fun _ _ _ => .inl rfl⟩
theorem Set2.of {n : Nat} {x y : Value} {B : Nat} {W W' : World} (h : Below W.heap.size W W') (hB : B ≤ W.heap.size) : Set2 n x y B W W' := ⟨h.mono hB, fun g _ hl => .inl (h.block g hl)⟩
theorem Set2.ofGe {n : Nat} {x y : Value} {w0 W W' : World} (hS : Set2 n x y w0.heap.size w0 W) (h : Below W.heap.size W W') : Set2 n x y w0.heap.size W W' := Set2.of h hS.below.size
theorem ownsRow_set2 {n : Nat} {x y : Value} {B : Nat} {W W' : World} {e m : Nat} {v : Value} {ys : List Value} (h : W.ownsRow B e 2 v m ys) (hS : Set2 n x y B W W') (hy : (ys.set n x).set (n + 1) y = ys) : W'.ownsRow B e 2 v m ys := by
  refine ⟨h.1, ?_⟩
  rcases h.2 with h2 | ⟨g, cap, cur, h1, h2, h3, h4, h5, h6, h7⟩
  · exact .inl h2
  · refine .inr ?_
    rcases hS.row g h2 (Array.getElem?_eq_some_iff.1 h3).1 with e1 | ⟨cur', t, e1, e2⟩
    · exact ⟨g, cap, cur, h1, h2, e1.trans h3, h4, h5, h6, h7⟩
    · rw [h3] at e1
      cases e1
      refine ⟨g, cap, _, h1, h2, e2, h4, h5, by rw [put2_size]; exact h6, ?_⟩
      unfold put2
      rw [Array.toList_setIfInBounds, Array.toList_setIfInBounds, take_set_list, take_set_list, h7, hy]
theorem Blk.set2 {n : Nat} {x y : Value} {B : Nat} {W W' : World} {g : Nat} {cs : Array Value} (h : Calm.Blk W g cs) (hS : Set2 n x y B W W') (hg : B ≤ g) (hy : put2 n x y cs = cs) : Calm.Blk W' g cs := by
  rcases hS.row g hg h.lt with e1 | ⟨cur, t, e1, e2⟩
  · exact ⟨Nat.lt_of_lt_of_le h.lt hS.below.size, fun i => (World.cell?_of_block (w := W) (a := ⟨g, i, none⟩) e1).trans (h.c i), fun i => (World.frozen?_of_block (w := W) (a := ⟨g, i, none⟩) e1).trans (h.f i)⟩
  · have hc : ∀ i, cur[i]? = cs[i]? := fun i => by rw [← h.c i, cell_of_row W g i cur t _ e1]
    have hcs : cur = cs := Array.ext_getElem? hc
    subst hcs
    refine ⟨Nat.lt_of_lt_of_le h.lt hS.below.size, fun i => ?_, fun i => ?_⟩
    · rw [cell_of_row W' g i _ t _ e2, hy]
    · have h1 := h.f i
      unfold World.frozen? at h1 ⊢
      simp only [e1] at h1
      simp only [e2]
      exact h1
/-- One pair appended onto a row of the region's own. -/
theorem append_set2 {P : Program} (B : Nat) (t ty e : TypeId) (i : TypeInfo) (z : Value) (bytes : Nat) (ht : P.underlying t = some (.slice e)) (hi : P.info? e = some i) (hz : i.zero = some z) (hsize : i.size = 2) (hby : i.bytes = bytes) (hzs : z.cells.size = 2)
    (u : Value) (n : Nat) (xs : List Value) (x y : Value) (h1 : x.oneCell' = true) (h1' : y.oneCell' = true) (W : World) (hown : W.ownsRow B e 2 u n xs) (hb : B ≤ W.heap.size) (h63 : n + 1 ≤ maxLen) (hbytes : (n + 1) * bytes ≤ 140737488355328) (b c : Nat) (hx : W.cell? ⟨b, 0, none⟩ = some x) (hy : W.cell? ⟨b, 1, none⟩ = some y) :
    ∃ v' W', (Builtin.append_ #[t, t] ty #[u, .slice (some ⟨b, 0, none⟩) 1 c]).run P W = .ok v' W' ∧ W'.ownsRow B e 2 v' (n + 1) (xs ++ [x, y]) ∧ Set2 (n * 2) x y B W W' := by
  have hadd : ∀ j v, [x, y][j]? = some v → W.cell? ((⟨b, 0, none⟩ : Addr).add j) = some v := by
    intro j v hj
    match j, hj with
    | 0, hj => simp at hj; subst hj; simpa [Addr.add] using hx
    | 1, hj => simp at hj; subst hj; simpa [Addr.add] using hy
  have hone : ∀ v ∈ [x, y], v.oneCell' = true := fun v hv => by
    simp at hv
    rcases hv with rfl | rfl
    · exact h1
    · exact h1'
  obtain ⟨v', W', r1, r2, r3, _, r5⟩ := run_append_own_at (P := P) W B t ty e i z 2 bytes ht hi hz hsize hby hzs (by decide) u n xs hown ⟨b, 0, none⟩ 1 c [x, y] rfl hadd hone h63 hbytes hb
  refine ⟨v', W', r1, r2, ?_⟩
  rcases hown.2 with ⟨hu, hn0⟩ | ⟨g, cap, cur, hu, hbg, hg, hnc, hcm, hcs, htake⟩
  · have hun : u.ownBlock = none := by rw [hu]; rfl
    rw [hun] at r3
    exact Set2.of ⟨r3.os, r3.tape, r3.output, r3.size, fun k hk => r3.block k hk (by simp)⟩ hb
  · have hun : u.ownBlock = some g := by rw [hu]; rfl
    by_cases hroom : n + 1 ≤ cap
    · have hrun := run_append_room (P := P) W t ty e i ht hi g n cap cur hg ⟨b, 0, none⟩ 1 c [x, y] (by rw [hsize]; rfl) hadd hone hroom (by rw [hsize, hcs]; simp; omega)
      rw [hsize, show n * 2 + [x, y].length = n * 2 + 2 from rfl, ← hu, r1] at hrun
      injection hrun with q1 q2
      have hh := setRow_heap W g cur (cur.toList.take (n * 2) ++ [x, y] ++ cur.toList.drop (n * 2 + 2)).toArray e (0, 0) hg
      rw [← q2] at hh
      have hset : (cur.toList.take (n * 2) ++ [x, y] ++ cur.toList.drop (n * 2 + 2)).toArray = put2 (n * 2) x y cur := by
        apply Array.ext_getElem?
        intro j
        rw [put2_get]
        have hlt : (cur.toList.take (n * 2)).length = n * 2 := by simp; omega
        simp only [List.getElem?_toArray, List.append_assoc]
        by_cases hj : j < n * 2
        · rw [List.getElem?_append_left (by rw [hlt]; exact hj), List.getElem?_take, if_pos hj, if_pos (by omega), if_neg (by omega), if_neg (by omega)]
          simp
        · rw [List.getElem?_append_right (by rw [hlt]; omega), hlt]
          by_cases hj0 : j = n * 2
          · subst hj0
            rw [if_pos (by omega), if_neg (by omega), if_pos rfl]
            simp
          · by_cases hj1 : j = n * 2 + 1
            · subst hj1
              rw [if_pos (by omega), if_pos rfl, show n * 2 + 1 - n * 2 = 1 by omega]
              simp
            · rw [show j - n * 2 = (j - (n * 2 + 2)) + 2 by omega]
              simp only [List.cons_append, List.nil_append, List.getElem?_cons_succ, List.getElem?_drop]
              rw [show n * 2 + 2 + (j - (n * 2 + 2)) = j by omega]
              by_cases h : j < cur.size
              · rw [if_pos h, if_neg hj1, if_neg hj0]; simp
              · rw [if_neg h]; simp; omega
      rw [hset] at hh
      refine ⟨⟨r3.os, r3.tape, r3.output, r3.size, fun k hk => r3.block k (by omega) (by rw [hun]; simp; omega)⟩, fun k hk hl => ?_⟩
      by_cases hkg : k = g
      · subst hkg
        exact .inr ⟨cur, e, hg, hh⟩
      · exact .inl (r3.block k hl (by rw [hun]; simpa using hkg))
    · have hcell : ∀ j v, xs[j]? = some v → W.cell? ((⟨g, 0, none⟩ : Addr).add j) = some v := hown.cells (g := g) (by rw [hun])
      have hgr := run_append_grow (P := P) W t ty e i z ht hi hz ⟨g, 0, none⟩ n cap xs (by rw [hown.1, hsize]) hcell ⟨b, 0, none⟩ 1 c [x, y] (by rw [hsize]; rfl) hadd (by omega) (by simp only [maxLen] at h63; omega) (growslice_fits (by omega) (by rw [hby]; exact hbytes))
      rw [← hu, r1] at hgr
      injection hgr with q1 q2
      have hW : ∀ k, k < W.heap.size → W'.heap[k]? = W.heap[k]? := fun k hk => by rw [q2]; exact Below.heap_alloc _ _ _ hk
      exact Set2.of ⟨r3.os, r3.tape, r3.output, r3.size, hW⟩ hb
end Go.Proofs.Ytamldoidalnloaa
