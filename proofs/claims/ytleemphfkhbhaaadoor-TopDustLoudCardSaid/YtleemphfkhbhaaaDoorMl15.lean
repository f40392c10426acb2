/- Part 15 of the texts of the claim: J5, J6, J7, J8, V2. -/
import Derived.Test.YtleemphfkhbhaaaDoorMl14
import Derived.Test.YtleemphfkhbhaaaDoorMl2
import Derived.Test.YtleemphfkhbhaaaDoorMl12

/- Contracts of Short and of dustGuard. -/
namespace Go.Proofs.YtleemphfkhbhaaaDoor
open Go.RowKit
open Calm (bcell Blk)

theorem cells_at {W : World} {A : Option Addr} {xs : List Int} (h : Cells W A xs) (n : Nat) (hn : n = xs.length) : 0 < n → ∃ ad, A = some ad ∧ ∀ j u, (xs.map fun z => ((.int .i64 (z)) : Value))[j]? = some u → W.cell? (ad.add j) = some u := by
  intro h0
  obtain ⟨b, off, hA, _, hc⟩ := h (by omega)
  exact ⟨_, hA, fun j u hj => cells_src hc j u hj⟩
theorem pShort_any (lk ht rc : Int) (A1 A2 : Option Addr) (M L c1 c2 : Nat) (w : World) :
    Calls Tryd.prog 5 #[.agg #[(.int .i64 (lk)), (.int .i64 (ht)), .slice A1 M c1, (.int .i64 (rc)), .slice A2 L c2]] w fun r w' => r = .returned (.bool (decide (M ≤ 9 ∧ L ≤ 9))) ∧ Below w.heap.size w w' := by
  by_cases h1 : M ≤ 9
  · have h1i : (M : Int) ≤ 9 := by omega
    by_cases h2 : L ≤ 9
    · have h2i : (L : Int) ≤ 9 := by omega
      have HE := Lib.hid (show decide (M ≤ 9 ∧ L ≤ 9) = true from decide_eq_true ⟨h1, h2⟩)
      go_enter Tryd.func5, Tryd.ntmps5
      go_wp2
      go_ret
      exact ⟨by first | rfl | (rw [HE.out]; rfl) | (simp [h2]; done), by (repeat (first | (with_reducible exact Below.refl _ _) | ((with_reducible refine Below.setCell ?_ ?_ _); rotate_left 1; focus (first | (simp; done) | (simp; omega) | (simp at *; omega))) | ((with_reducible refine Below.alloc ?_ ?_ _); rotate_left 1; focus (first | (simp; done) | (simp; omega) | (simp at *; omega))) | (with_reducible refine Below.drew ?_) | ((with_reducible refine Calm.step (by assumption) ?_ ?_); rotate_left 1; focus (first | (simp; done) | (simp; omega) | (simp at *; omega)))))⟩
    · have h2i : ¬ (L : Int) ≤ 9 := by omega
      have HE := Lib.hid (show decide (M ≤ 9 ∧ L ≤ 9) = false from decide_eq_false (fun h => h2 h.2))
      go_enter Tryd.func5, Tryd.ntmps5
      go_wp2
      go_ret
      exact ⟨by first | rfl | (rw [HE.out]; rfl) | (simp [h2]; done), by (repeat (first | (with_reducible exact Below.refl _ _) | ((with_reducible refine Below.setCell ?_ ?_ _); rotate_left 1; focus (first | (simp; done) | (simp; omega) | (simp at *; omega))) | ((with_reducible refine Below.alloc ?_ ?_ _); rotate_left 1; focus (first | (simp; done) | (simp; omega) | (simp at *; omega))) | (with_reducible refine Below.drew ?_) | ((with_reducible refine Calm.step (by assumption) ?_ ?_); rotate_left 1; focus (first | (simp; done) | (simp; omega) | (simp at *; omega)))))⟩
  · have h1i : ¬ (M : Int) ≤ 9 := by omega
    have HE := Lib.hid (show decide (M ≤ 9 ∧ L ≤ 9) = false from decide_eq_false (fun h => h1 h.1))
    go_enter Tryd.func5, Tryd.ntmps5
    go_wp2
    go_ret
    exact ⟨by first | rfl | (rw [HE.out]; rfl) | (simp [h2]; done), by (repeat (first | (with_reducible exact Below.refl _ _) | ((with_reducible refine Below.setCell ?_ ?_ _); rotate_left 1; focus (first | (simp; done) | (simp; omega) | (simp at *; omega))) | ((with_reducible refine Below.alloc ?_ ?_ _); rotate_left 1; focus (first | (simp; done) | (simp; omega) | (simp at *; omega))) | (with_reducible refine Below.drew ?_) | ((with_reducible refine Calm.step (by assumption) ?_ ?_); rotate_left 1; focus (first | (simp; done) | (simp; omega) | (simp at *; omega)))))⟩
set_option maxRecDepth 100000 in
set_option maxHeartbeats 4000000 in
theorem dustGuard_any (lk ht rc : Int) (ts gs : List Int) (A1 A2 : Option Addr) (M L c1 c2 : Nat) (w : World) (hM : M = ts.length) (hL : L = gs.length) (hT : Cells w A1 ts) (hG : Cells w A2 gs) (h1 : M ≤ 1000) (h2 : L ≤ 1000) :
    Calls Tryd.prog 13 #[.agg #[(.int .i64 (lk)), (.int .i64 (ht)), .slice A1 M c1, (.int .i64 (rc)), .slice A2 L c2]] w fun r w' => (∃ B1 d1 B2 d2, r = .returned (.agg #[(.int .i64 (lk)), (.int .i64 (ht)), .slice B1 M d1, (.int .i64 (rc)), .slice B2 L d2]) ∧ Cells w' B1 ts ∧ Cells w' B2 gs) ∧ Below w.heap.size w w' := by
  obtain ⟨i1, hi1, jz0, jz1, jz2⟩ := info_parts Tryd.infoI
  have HT := Lib.hid hT
  have HG := Lib.hid hG
  have HM := Lib.hid hM
  have HL := Lib.hid hL
  clear hT hG hM hL
  go_enter Tryd.func13, Tryd.ntmps13
  go_wp2
  refine Rel.region3 14 (by kernel_rfl) (by kernel_rfl) (by kernel_rfl) ?_
  simp only [List.take_succ_cons, List.take_zero, List.drop_succ_cons, List.drop_zero, List.filterMap_cons, List.filterMap_nil]
  iterate 4 (apply Rel.op3; (focus (first | exact Rel.gno rfl | exact Rel.gyes _ true _ rfl rfl rfl | exact Rel.gyes _ false _ rfl rfl rfl)); (focus (intro a W hb hd hbase; obtain ⟨hc, hf⟩ := bcell hb; clear hb hf; simp [Rel.deps, Rel.dep1, Rel.ons, Region.binds, Act.eval] at hd; simp only [Act.eval, List.mem_cons, List.not_mem_nil, not_or, and_imp, or_false, Array.getD_eq_getD_getElem?] at hbase; go_simp; (try go_bits); (try rfl); done)); (try simp only [List.nil_append, List.cons_append]))
  (apply Rel.empty3 3 1; (focus (first | exact Rel.gno rfl | exact Rel.gyes _ true _ rfl rfl rfl | exact Rel.gyes _ false _ rfl rfl rfl)); (focus (intro a W; go_simp; (first | done | rfl | (refine ⟨?_, ?_⟩ <;> rfl)))); (try simp only [List.nil_append, List.cons_append]))
  iterate 2 (apply Rel.op3; (focus (first | exact Rel.gno rfl | exact Rel.gyes _ true _ rfl rfl rfl | exact Rel.gyes _ false _ rfl rfl rfl)); (focus (intro a W hb hd hbase; obtain ⟨hc, hf⟩ := bcell hb; clear hb hf; simp [Rel.deps, Rel.dep1, Rel.ons, Region.binds, Act.eval] at hd; simp only [Act.eval, List.mem_cons, List.not_mem_nil, not_or, and_imp, or_false, Array.getD_eq_getD_getElem?] at hbase; go_simp; (try go_bits); (try rfl); done)); (try simp only [List.nil_append, List.cons_append]))
  refine Rel.app3 (.tmp 7) (.tmp 9) 22 rfl 3 i1 _ 1 8 Tryd.underlying22 hi1 jz0 jz1 jz2 rfl (by decide) M (ts.map fun z => (.int .i64 (z))) (by rw [List.length_map, HM.out, Nat.mul_one]) (by intro u hu; obtain ⟨z, _, rfl⟩ := List.mem_map.1 hu; rfl) (by unfold maxLen; omega) (by omega) (Rel.gno rfl) ?_ ?_
  · intro a W hb hd hbase
    simp [Rel.deps, Rel.dep1, Rel.ons, Region.binds] at hd
    obtain ⟨hs, hx⟩ := hd
    exact ⟨⟨_, rfl, by simpa using hs⟩, _, _, hx, cells_at (HT.out.below (Below.trans (by (repeat (first | (with_reducible exact Below.refl _ _) | ((with_reducible refine Below.setCell ?_ ?_ _); rotate_left 1; focus (first | (simp; done) | (simp; omega) | (simp at *; omega))) | ((with_reducible refine Below.alloc ?_ ?_ _); rotate_left 1; focus (first | (simp; done) | (simp; omega) | (simp at *; omega))) | (with_reducible refine Below.drew ?_) | ((with_reducible refine Calm.step (by assumption) ?_ ?_); rotate_left 1; focus (first | (simp; done) | (simp; omega) | (simp at *; omega)))))) (hb.mono (by simp <;> omega)))) M HM.out⟩
  (try simp only [List.nil_append, List.cons_append])
  iterate 2 (apply Rel.op3; (focus (first | exact Rel.gno rfl | exact Rel.gyes _ true _ rfl rfl rfl | exact Rel.gyes _ false _ rfl rfl rfl)); (focus (intro a W hb hd hbase; obtain ⟨hc, hf⟩ := bcell hb; clear hb hf; simp [Rel.deps, Rel.dep1, Rel.ons, Region.binds, Act.eval] at hd; simp only [Act.eval, List.mem_cons, List.not_mem_nil, not_or, and_imp, or_false, Array.getD_eq_getD_getElem?] at hbase; go_simp; (try go_bits); (try rfl); done)); (try simp only [List.nil_append, List.cons_append]))
  (apply Rel.empty3 3 1; (focus (first | exact Rel.gno rfl | exact Rel.gyes _ true _ rfl rfl rfl | exact Rel.gyes _ false _ rfl rfl rfl)); (focus (intro a W; go_simp; (first | done | rfl | (refine ⟨?_, ?_⟩ <;> rfl)))); (try simp only [List.nil_append, List.cons_append]))
  iterate 2 (apply Rel.op3; (focus (first | exact Rel.gno rfl | exact Rel.gyes _ true _ rfl rfl rfl | exact Rel.gyes _ false _ rfl rfl rfl)); (focus (intro a W hb hd hbase; obtain ⟨hc, hf⟩ := bcell hb; clear hb hf; simp [Rel.deps, Rel.dep1, Rel.ons, Region.binds, Act.eval] at hd; simp only [Act.eval, List.mem_cons, List.not_mem_nil, not_or, and_imp, or_false, Array.getD_eq_getD_getElem?] at hbase; go_simp; (try go_bits); (try rfl); done)); (try simp only [List.nil_append, List.cons_append]))
  refine Rel.app3 (.tmp 13) (.tmp 15) 22 rfl 3 i1 _ 1 8 Tryd.underlying22 hi1 jz0 jz1 jz2 rfl (by decide) L (gs.map fun z => (.int .i64 (z))) (by rw [List.length_map, HL.out, Nat.mul_one]) (by intro u hu; obtain ⟨z, _, rfl⟩ := List.mem_map.1 hu; rfl) (by unfold maxLen; omega) (by omega) (Rel.gno rfl) ?_ ?_
  · intro a W hb hd hbase
    simp [Rel.deps, Rel.dep1, Rel.ons, Region.binds] at hd
    obtain ⟨hs, hx, _⟩ := hd
    exact ⟨⟨_, rfl, by simpa using hs⟩, _, _, hx, cells_at (HG.out.below (Below.trans (by (repeat (first | (with_reducible exact Below.refl _ _) | ((with_reducible refine Below.setCell ?_ ?_ _); rotate_left 1; focus (first | (simp; done) | (simp; omega) | (simp at *; omega))) | ((with_reducible refine Below.alloc ?_ ?_ _); rotate_left 1; focus (first | (simp; done) | (simp; omega) | (simp at *; omega))) | (with_reducible refine Below.drew ?_) | ((with_reducible refine Calm.step (by assumption) ?_ ?_); rotate_left 1; focus (first | (simp; done) | (simp; omega) | (simp at *; omega)))))) (hb.mono (by simp <;> omega)))) L HL.out⟩
  (try simp only [List.nil_append, List.cons_append])
  refine Rel.done3 ?_
  intro xx w8 h8 hx
  simp only [Rel.facts, Nat.zero_add, Nat.reduceAdd] at hx
  obtain ⟨e0, e1, e2, e3, em4, e5, e6, o7, e8, e9, em10, e11, e12, o13, _⟩ := hx
  obtain ⟨B1, d1, e7, hf1, hc1⟩ := own_ints o7 HM.out
  obtain ⟨B2, d2, e13, hf2, hc2⟩ := own_ints o13 HL.out
  simp only [World.size_alloc] at hf1 hf2
  simp only [Rel.fill, Nat.zero_add, Nat.reduceAdd, e0, e1, e2, e3, e5, e6, e7, e8, e9, e11, e12, e13]
  simp only [Act.put, List.setIfInBounds_toArray, List.set_cons_zero, List.set_cons_succ]
  have HB8 := Lib.hid (show Below w.heap.size w w8 from Below.trans (by (repeat (first | (with_reducible exact Below.refl _ _) | ((with_reducible refine Below.setCell ?_ ?_ _); rotate_left 1; focus (first | (simp; done) | (simp; omega) | (simp at *; omega))) | ((with_reducible refine Below.alloc ?_ ?_ _); rotate_left 1; focus (first | (simp; done) | (simp; omega) | (simp at *; omega))) | (with_reducible refine Below.drew ?_) | ((with_reducible refine Calm.step (by assumption) ?_ ?_); rotate_left 1; focus (first | (simp; done) | (simp; omega) | (simp at *; omega)))))) (h8.mono (by simp <;> omega)))
  have K8 : Blk w8 (w.heap.size + 1) #[(.int .i64 (0)), (.int .i64 (0)), .slice none 0 0, (.int .i64 (0)), .slice none 0 0] := Blk.below (by (repeat (first | ((with_reducible refine Blk.at_ ?_); focus (first | rfl | (simp; done) | (simp; omega))) | (with_reducible refine Blk.alloc ?_ _) | (with_reducible refine Blk.below ?_ (by with_reducible assumption)) | (with_reducible refine Blk.drew ?_)))) h8
  obtain ⟨c0, c1', c2', c3, c4, cl, cf⟩ := K8.o5
  have HK8 := Lib.hid K8
  have HC1 := Lib.hid hc1
  have HC2 := Lib.hid hc2
  clear e0 e1 e2 e3 em4 e5 e6 o7 e8 e9 em10 e11 e12 o13 e7 e13 h8 K8 hc1 hc2
  go_wp2
  have hn1 : 0 < ts.length → ∀ p, B1 = some p → p.block ≠ w.heap.size + 1 := fun _ p e => by have := hf1 p e; omega
  have hn2 : 0 < gs.length → ∀ p, B2 = some p → p.block ≠ w.heap.size + 1 := fun _ p e => by have := hf2 p e; omega
  exact bodyPost_ret (v := .agg #[(.int .i64 (lk)), (.int .i64 (ht)), .slice B1 M d1, (.int .i64 (rc)), .slice B2 L d2]) (by simp [results, Tryd.results13, go_sem, *]) rfl
    ⟨⟨B1, d1, B2, d2, rfl, ((((HC1.out.sets hn1 _ _).sets hn1 _ _).sets hn1 _ _).sets hn1 _ _).sets hn1 _ _, ((((HC2.out.sets hn2 _ _).sets hn2 _ _).sets hn2 _ _).sets hn2 _ _).sets hn2 _ _⟩,
      ((((HB8.out.setCell (by simp <;> omega) _).setCell (by simp <;> omega) _).setCell (by simp <;> omega) _).setCell (by simp <;> omega) _).setCell (by simp <;> omega) _⟩
end Go.Proofs.YtleemphfkhbhaaaDoor

/- Contract of dustAmp: its three examples hold. -/
namespace Go.Proofs.YtleemphfkhbhaaaDoor
open Go.RowKit
open Calm (bcell Blk)

theorem blk_cells {w : World} {g : Nat} {zs : List Int} (h : Blk w g (zs.map (Value.int .i64)).toArray) : Cells w (some ⟨g, 0, none⟩) zs := fun _ =>
  ⟨g, 0, rfl, h.lt, fun k hk => by
    rw [Nat.zero_add]
    refine h.cell k _ ?_
    rw [List.getElem?_toArray, List.getElem?_map, List.getD_eq_getElem?_getD, List.getElem?_eq_getElem hk]
    rfl⟩
set_option maxRecDepth 100000 in
set_option maxHeartbeats 4000000 in
theorem dustAmp_any (w : World) (hL : Lim w) : Calls Tryd.prog 9 #[] w fun r w' => r = .returned (.bool true) ∧ Below w.heap.size w w' := by
  have hV : Valid 1 100 20 [1, 2] [0, 16] := guard_valid (by decide)
  have HRUN : Hid (∀ (A1 A2 A3 : Option Addr) (c1 c2 c3 : Nat) (W : World), Lim W → Cells W A1 [1, 2] → Cells W A2 [0, 16] → Cells W A3 [6, 12, 6] → Calls Tryd.prog 12 #[.agg #[(.int .i64 (1)), (.int .i64 (100)), .slice A1 2 c1, (.int .i64 (20)), .slice A2 2 c2], .slice A3 3 c3] W fun r w' => (∃ B d, r = .returned (.tuple #[.slice B 3 d, (.int .i64 (0))]) ∧ Cells w' B [6, 0, 6]) ∧ Below W.heap.size W w') := Lib.hid (fun A1 A2 A3 c1 c2 c3 W q0 q1 q2 q3 => by
    have := run_ok 1 100 20 [1, 2] [0, 16] [6, 12, 6] A1 A2 A3 c1 c2 c3 W q0 hV q1 q2 q3 (by unfold inB; decide) (by simp) (by simp) (by simp) (by decide)
    rwa [show ([6, 12, 6] : List Int).length = 3 from rfl, show outsK 1 100 20 [1, 2] [0, 16] [6, 12, 6] 3 = [6, 0, 6] by decide] at this)
  have HSEC : Hid (∀ (A : Option Addr) (c : Nat) (W : World), Cells W A [6, 0, 6] → Calls Tryd.prog 15 #[.agg #[(.int .i64 (1)), (.int .i64 (2)), (.int .i64 (0)), (.int .i64 (0)), (.int .i64 (0)), (.int .i64 (0))], .slice A 3 c] W fun r w' => (∃ B d, r = .returned (.tuple #[.slice B 3 d, (.int .i64 (0))]) ∧ Cells w' B [6, 12, 6]) ∧ Below W.heap.size W w') := Lib.hid (fun A c W q => by
    have := Run_ok 1 2 0 0 0 0 [6, 0, 6] A c W (by unfold bd15; decide) (by unfold bd15; decide) (by unfold bd15; decide) (by unfold bd15; decide) (by unfold bd15; decide) (by decide) (by unfold inB; decide) (by simp) q (by decide) (by decide)
    refine this.mono ?_
    rintro r w' ⟨⟨B, d, h1, h2, h3⟩, hb⟩
    exact ⟨⟨B, d, h1, by rwa [show ([6, 0, 6] : List Int).length = 3 from rfl, show soK 1 2 0 0 0 0 (0, 0, 0, 0) [6, 0, 6] 3 = [6, 12, 6] by decide] at h3⟩, hb⟩)
  have HPK : Hid (∀ (A1 A2 A3 : Option Addr) (c1 c2 c3 : Nat) (W : World), Cells W A1 [1, 2] → Cells W A2 [0, 16] → Cells W A3 [6, 0, 6] → Calls Tryd.prog 16 #[.agg #[(.int .i64 (1)), (.int .i64 (100)), .slice A1 2 c1, (.int .i64 (20)), .slice A2 2 c2], .slice A3 3 c3] W fun r w' => r = .returned (.tuple #[.agg #[(.int .i64 (45)), (.int .i64 (12))], (.int .i64 (0))]) ∧ Below W.heap.size W w') := Lib.hid (fun A1 A2 A3 c1 c2 c3 W q1 q2 q3 => by
    have := peaks_ok 1 100 20 [1, 2] [0, 16] [6, 0, 6] A1 A2 A3 c1 c2 c3 W hV q1 q2 q3 (by unfold inB; decide) (by simp) (by simp) (by simp) (by decide)
    rwa [show ([6, 0, 6] : List Int).length = 3 from rfl, show pkH 1 [6, 0, 6] 3 = 45 by decide, show pkX [1, 2] [6, 0, 6] 3 = 12 by decide] at this)
  have HSM : Hid (∀ (A B : Option Addr) (ca cb : Nat) (zs : List Int) (W : World), zs.length = 3 → Cells W A zs → Cells W B zs → Calls Tryd.prog 22 #[.slice A 3 ca, .slice B 3 cb] W fun x w' => x = .returned (.bool true) ∧ Below W.heap.size W w') := Lib.hid (fun A B ca cb zs W h3 q1 q2 => by
    have := sameInts_any A B zs zs ca cb W q1 q2 (by omega) (by omega)
    rw [h3] at this
    simpa using this)
  have HL := Lib.hid hL
  clear hV hL
  go_enter Tryd.func9, Tryd.ntmps9
  go_wp2_with (go_at_call 12; refine (HRUN.out _ _ _ _ _ _ _ (HL.out.below (by (repeat (first | (with_reducible exact Below.refl _ _) | ((with_reducible refine Below.setCell ?_ ?_ _); rotate_left 1; focus (first | (simp; done) | (simp; omega) | (simp at *; omega))) | ((with_reducible refine Below.alloc ?_ ?_ _); rotate_left 1; focus (first | (simp; done) | (simp; omega) | (simp at *; omega))) | (with_reducible refine Below.drew ?_) | ((with_reducible refine Calm.step (by assumption) ?_ ?_); rotate_left 1; focus (first | (simp; done) | (simp; omega) | (simp at *; omega))))))) (blk_cells (zs := [1, 2]) (show Blk _ _ #[(.int .i64 (1)), (.int .i64 (2))] by (repeat (first | ((with_reducible refine Blk.at_ ?_); focus (first | rfl | (simp; done) | (simp; omega))) | (with_reducible refine Blk.alloc ?_ _) | (with_reducible refine Blk.below ?_ (by with_reducible assumption)) | (with_reducible refine Blk.drew ?_))))) (blk_cells (zs := [0, 16]) (show Blk _ _ #[(.int .i64 (0)), (.int .i64 (16))] by (repeat (first | ((with_reducible refine Blk.at_ ?_); focus (first | rfl | (simp; done) | (simp; omega))) | (with_reducible refine Blk.alloc ?_ _) | (with_reducible refine Blk.below ?_ (by with_reducible assumption)) | (with_reducible refine Blk.drew ?_))))) (blk_cells (zs := [6, 12, 6]) (show Blk _ _ #[(.int .i64 (6)), (.int .i64 (12)), (.int .i64 (6))] by (repeat (first | ((with_reducible refine Blk.at_ ?_); focus (first | rfl | (simp; done) | (simp; omega))) | (with_reducible refine Blk.alloc ?_ _) | (with_reducible refine Blk.below ?_ (by with_reducible assumption)) | (with_reducible refine Blk.drew ?_)))))).mono ?_; rintro r w1 ⟨⟨B, d, rfl, hc1⟩, hb1⟩; have HC1 := Lib.hid hc1; have HB1 := Lib.hid (show Below w.heap.size w w1 from Below.trans (by (repeat (first | (with_reducible exact Below.refl _ _) | ((with_reducible refine Below.setCell ?_ ?_ _); rotate_left 1; focus (first | (simp; done) | (simp; omega) | (simp at *; omega))) | ((with_reducible refine Below.alloc ?_ ?_ _); rotate_left 1; focus (first | (simp; done) | (simp; omega) | (simp at *; omega))) | (with_reducible refine Below.drew ?_) | ((with_reducible refine Calm.step (by assumption) ?_ ?_); rotate_left 1; focus (first | (simp; done) | (simp; omega) | (simp at *; omega)))))) (hb1.mono (by simp; omega))); have KA := Lib.hid (show Blk w1 w.heap.size #[(.int .i64 (1)), (.int .i64 (2))] from Blk.below (by (repeat (first | ((with_reducible refine Blk.at_ ?_); focus (first | rfl | (simp; done) | (simp; omega))) | (with_reducible refine Blk.alloc ?_ _) | (with_reducible refine Blk.below ?_ (by with_reducible assumption)) | (with_reducible refine Blk.drew ?_)))) hb1); have KB := Lib.hid (show Blk w1 (w.heap.size + 1) #[(.int .i64 (0)), (.int .i64 (16))] from Blk.below (by (repeat (first | ((with_reducible refine Blk.at_ ?_); focus (first | rfl | (simp; done) | (simp; omega))) | (with_reducible refine Blk.alloc ?_ _) | (with_reducible refine Blk.below ?_ (by with_reducible assumption)) | (with_reducible refine Blk.drew ?_)))) hb1); have KG := Lib.hid (show Blk w1 (w.heap.size + 1 + 1) #[(.int .i64 (1)), (.int .i64 (100)), .slice (some ⟨w.heap.size, 0, none⟩) 2 2, (.int .i64 (20)), .slice (some ⟨w.heap.size + 1, 0, none⟩) 2 2] from Blk.below (by (repeat (first | ((with_reducible refine Blk.at_ ?_); focus (first | rfl | (simp; done) | (simp; omega))) | (with_reducible refine Blk.alloc ?_ _) | (with_reducible refine Blk.below ?_ (by with_reducible assumption)) | (with_reducible refine Blk.drew ?_)))) hb1); clear hb1 hc1; refine Hid.out ?_)
  obtain ⟨g0, g1, g2, g3, g4, gl, gf⟩ := KG.out.o5
  unfold Hid
  go_wp2_with (go_at_call 15; refine (HSEC.out _ _ _ (blk_cells (zs := [6, 0, 6]) (show Blk _ _ #[(.int .i64 (6)), (.int .i64 (0)), (.int .i64 (6))] by (repeat (first | ((with_reducible refine Blk.at_ ?_); focus (first | rfl | (simp; done) | (simp; omega))) | (with_reducible refine Blk.alloc ?_ _) | (with_reducible refine Blk.below ?_ (by with_reducible assumption)) | (with_reducible refine Blk.drew ?_)))))).mono ?_; rintro r w2 ⟨⟨B2, d2, rfl, hc2⟩, hb2⟩; have HC2 := Lib.hid hc2; have hs2 := hb2.size; have hb12 : Below w1.heap.size w1 w2 := Below.trans (by (repeat (first | (with_reducible exact Below.refl _ _) | ((with_reducible refine Below.setCell ?_ ?_ _); rotate_left 1; focus (first | (simp; done) | (simp; omega) | (simp at *; omega))) | ((with_reducible refine Below.alloc ?_ ?_ _); rotate_left 1; focus (first | (simp; done) | (simp; omega) | (simp at *; omega))) | (with_reducible refine Below.drew ?_) | ((with_reducible refine Calm.step (by assumption) ?_ ?_); rotate_left 1; focus (first | (simp; done) | (simp; omega) | (simp at *; omega)))))) (hb2.mono (by simp)); have HB2 := Lib.hid (HB1.out.trans (hb12.mono HB1.out.size)); have HC1' := Lib.hid (HC1.out.below hb12); have KA2 := Lib.hid (KA.out.below hb12); have KB2 := Lib.hid (KB.out.below hb12); have KG2 := Lib.hid (KG.out.below hb12); clear hb2 hc2 hb12 g0 g1 g2 g3 g4 gl gf; refine Hid.out ?_)
  clear KA KB KG HC1
  obtain ⟨g0, g1, g2, g3, g4, gl, gf⟩ := KG2.out.o5
  unfold Hid
  go_wp2_with (go_at_call 16; refine (HPK.out _ _ _ _ _ _ _ (blk_cells (zs := [1, 2]) (show Blk _ _ #[(.int .i64 (1)), (.int .i64 (2))] from KA2.out.alloc _)) (blk_cells (zs := [0, 16]) (show Blk _ _ #[(.int .i64 (0)), (.int .i64 (16))] from KB2.out.alloc _)) (blk_cells (zs := [6, 0, 6]) (show Blk _ _ #[(.int .i64 (6)), (.int .i64 (0)), (.int .i64 (6))] by (repeat (first | ((with_reducible refine Blk.at_ ?_); focus (first | rfl | (simp; done) | (simp; omega))) | (with_reducible refine Blk.alloc ?_ _) | (with_reducible refine Blk.below ?_ (by with_reducible assumption)) | (with_reducible refine Blk.drew ?_)))))).mono ?_; rintro r w3 ⟨rfl, hb3⟩; have hb13 : Below w2.heap.size w2 w3 := Below.trans (by (repeat (first | (with_reducible exact Below.refl _ _) | ((with_reducible refine Below.setCell ?_ ?_ _); rotate_left 1; focus (first | (simp; done) | (simp; omega) | (simp at *; omega))) | ((with_reducible refine Below.alloc ?_ ?_ _); rotate_left 1; focus (first | (simp; done) | (simp; omega) | (simp at *; omega))) | (with_reducible refine Below.drew ?_) | ((with_reducible refine Calm.step (by assumption) ?_ ?_); rotate_left 1; focus (first | (simp; done) | (simp; omega) | (simp at *; omega)))))) (hb3.mono (by simp)); have HB3 := Lib.hid (HB2.out.trans (hb13.mono HB2.out.size)); have HC13 := Lib.hid (HC1'.out.below hb13); have HC23 := Lib.hid (HC2.out.below hb13); clear hb3 hb13 g0 g1 g2 g3 g4 gl gf; refine Hid.out ?_)
  clear KA2 KB2 KG2 HC1' HC2
  unfold Hid
  have hz3 : w.heap.size ≤ w3.heap.size := HB3.out.size
  go_wp2_with (go_at_call 22; refine (HSM.out _ _ _ _ [6, 0, 6] _ rfl (HC13.out.below (by (repeat (first | (with_reducible exact Below.refl _ _) | ((with_reducible refine Below.setCell ?_ ?_ _); rotate_left 1; focus (first | (simp; done) | (simp; omega) | (simp at *; omega))) | ((with_reducible refine Below.alloc ?_ ?_ _); rotate_left 1; focus (first | (simp; done) | (simp; omega) | (simp at *; omega))) | (with_reducible refine Below.drew ?_) | ((with_reducible refine Calm.step (by assumption) ?_ ?_); rotate_left 1; focus (first | (simp; done) | (simp; omega) | (simp at *; omega))))))) (blk_cells (zs := [6, 0, 6]) (show Blk _ _ #[(.int .i64 (6)), (.int .i64 (0)), (.int .i64 (6))] by (repeat (first | ((with_reducible refine Blk.at_ ?_); focus (first | rfl | (simp; done) | (simp; omega))) | (with_reducible refine Blk.alloc ?_ _) | (with_reducible refine Blk.below ?_ (by with_reducible assumption)) | (with_reducible refine Blk.drew ?_)))))).mono ?_; rintro r w4 ⟨rfl, hb4⟩; have hb34 : Below w3.heap.size w3 w4 := Below.trans (by (repeat (first | (with_reducible exact Below.refl _ _) | ((with_reducible refine Below.setCell ?_ ?_ _); rotate_left 1; focus (first | (simp; done) | (simp; omega) | (simp at *; omega))) | ((with_reducible refine Below.alloc ?_ ?_ _); rotate_left 1; focus (first | (simp; done) | (simp; omega) | (simp at *; omega))) | (with_reducible refine Below.drew ?_) | ((with_reducible refine Calm.step (by assumption) ?_ ?_); rotate_left 1; focus (first | (simp; done) | (simp; omega) | (simp at *; omega)))))) (hb4.mono (by simp; omega)); have HB4 := Lib.hid (HB3.out.trans (hb34.mono HB3.out.size)); have HC24 := Lib.hid (HC23.out.below hb34); have KP := Lib.hid (show Blk w4 w3.heap.size #[(.int .i64 (45)), (.int .i64 (12))] from Blk.below (by (repeat (first | ((with_reducible refine Blk.at_ ?_); focus (first | rfl | (simp; done) | (simp; omega))) | (with_reducible refine Blk.alloc ?_ _) | (with_reducible refine Blk.below ?_ (by with_reducible assumption)) | (with_reducible refine Blk.drew ?_)))) hb4); clear hb34 hb4; refine Hid.out ?_)
  unfold Hid
  obtain ⟨p0, p1, pl, pf⟩ := KP.out.o2
  have hz4 : w.heap.size ≤ w4.heap.size := HB4.out.size
  go_wp2_with (go_at_call 22; refine (HSM.out _ _ _ _ [6, 12, 6] _ rfl (HC24.out.below (by (repeat (first | (with_reducible exact Below.refl _ _) | ((with_reducible refine Below.setCell ?_ ?_ _); rotate_left 1; focus (first | (simp; done) | (simp; omega) | (simp at *; omega))) | ((with_reducible refine Below.alloc ?_ ?_ _); rotate_left 1; focus (first | (simp; done) | (simp; omega) | (simp at *; omega))) | (with_reducible refine Below.drew ?_) | ((with_reducible refine Calm.step (by assumption) ?_ ?_); rotate_left 1; focus (first | (simp; done) | (simp; omega) | (simp at *; omega))))))) (blk_cells (zs := [6, 12, 6]) (show Blk _ _ #[(.int .i64 (6)), (.int .i64 (12)), (.int .i64 (6))] by (repeat (first | ((with_reducible refine Blk.at_ ?_); focus (first | rfl | (simp; done) | (simp; omega))) | (with_reducible refine Blk.alloc ?_ _) | (with_reducible refine Blk.below ?_ (by with_reducible assumption)) | (with_reducible refine Blk.drew ?_)))))).mono ?_; rintro r w5 ⟨rfl, hb5⟩; have hb45 : Below w4.heap.size w4 w5 := Below.trans (by (repeat (first | (with_reducible exact Below.refl _ _) | ((with_reducible refine Below.setCell ?_ ?_ _); rotate_left 1; focus (first | (simp; done) | (simp; omega) | (simp at *; omega))) | ((with_reducible refine Below.alloc ?_ ?_ _); rotate_left 1; focus (first | (simp; done) | (simp; omega) | (simp at *; omega))) | (with_reducible refine Below.drew ?_) | ((with_reducible refine Calm.step (by assumption) ?_ ?_); rotate_left 1; focus (first | (simp; done) | (simp; omega) | (simp at *; omega)))))) (hb5.mono (by simp)); have HB5 := Lib.hid (HB4.out.trans (hb45.mono HB4.out.size)); have KP5 := Lib.hid (KP.out.below hb45); clear hb45 hb5 p0 p1 pl pf; refine Hid.out ?_)
  unfold Hid
  obtain ⟨p0, p1, pl, pf⟩ := KP5.out.o2
  go_wp2
  go_ret
  exact ⟨rfl, HB5.out⟩
end Go.Proofs.YtleemphfkhbhaaaDoor

/- What TopDustPlayed says, as plain laws: outputs keep all limits; a section with the tails as taps gives the excursions; halves warm no more. No walk. -/
namespace Go.Proofs.YtleemphfkhbhaaaDoor
open Go.RowKit

theorem outsK_get {lk ht rc : Int} {ts gs xs : List Int} {n k : Nat} (h : k < n) : (outsK lk ht rc ts gs xs n).getD k 0 = outAt lk ht rc ts gs xs k := by
  simp [outsK, List.getD_eq_getElem?_getD, h]
theorem state_eq (lk ht rc : Int) (ts gs xs : List Int) (n : Nat) : ∀ k, k ≤ n → bhAt lk (outsK lk ht rc ts gs xs n) k = (stAt lk ht rc ts gs xs k).h ∧ bpAt (ts.length - 1) (outsK lk ht rc ts gs xs n) k = (stAt lk ht rc ts gs xs k).ps
  | 0, _ => ⟨rfl, rfl⟩
  | k + 1, h => by
    obtain ⟨h1, h2⟩ := state_eq lk ht rc ts gs xs n k (by omega)
    have h3 := outsK_get (lk := lk) (ht := ht) (rc := rc) (ts := ts) (gs := gs) (xs := xs) (show k < n by omega)
    exact ⟨by simp only [bhAt]; rw [h1, h3]; rfl, by simp only [bpAt]; rw [h2, h3]; rfl⟩
theorem outs_safe {lk ht rc : Int} {ts gs xs : List Int} (hV : Valid lk ht rc ts gs) (hx : inB 2048 xs) {n k : Nat} (hk : k < n) :
    bhAt lk (outsK lk ht rc ts gs xs n) (k + 1) ≤ ht ∧ absI (exAt ts (outsK lk ht rc ts gs xs n) k) ≤ rc := by
  have hg := step_good hV (good_at hV hx k) (inB_get hx (by omega) k)
  refine ⟨?_, ?_⟩
  · rw [(state_eq lk ht rc ts gs xs n (k + 1) (by omega)).1]
    exact (good_at hV hx (k + 1)).h.2
  · unfold exAt
    rw [(state_eq lk ht rc ts gs xs n k (by omega)).2, outsK_get hk]
    exact hg.2.2.1
theorem outs_in {lk ht rc : Int} {ts gs xs : List Int} (hV : Valid lk ht rc ts gs) (hx : inB 2048 xs) (n : Nat) : inB 2048 (outsK lk ht rc ts gs xs n) := by
  intro y hy
  simp only [outsK, List.mem_map] at hy
  obtain ⟨k, _, rfl⟩ := hy
  exact (step_good hV (good_at hV hx k) (inB_get hx (by omega) k)).2.1
theorem pkH_le {lk ht : Int} {ys : List Int} (h0 : 0 ≤ ht) : ∀ n, (∀ k, k < n → bhAt lk ys (k + 1) ≤ ht) → pkH lk ys n ≤ ht
  | 0, _ => h0
  | n + 1, h => by
    have h1 := pkH_le h0 n (fun k hk => h k (by omega))
    have h2 := h n (by omega)
    simp only [pkH, mx_eq]
    omega
theorem pkX_le {rc : Int} {ts ys : List Int} (h0 : 0 ≤ rc) : ∀ n, (∀ k, k < n → absI (exAt ts ys k) ≤ rc) → pkX ts ys n ≤ rc
  | 0, _ => h0
  | n + 1, h => by
    have h1 := pkX_le h0 n (fun k hk => h k (by omega))
    have h2 := h n (by omega)
    simp only [pkX, mx_eq]
    omega
/-- cooling keeps the order of heats. -/
theorem coolF_mono (lk : Int) {a b : Int} (h : a ≤ b) : coolF lk a ≤ coolF lk b := by
  unfold coolF
  have hd : (0 : Int) < 2 ^ lk.toNat := Int.pow_pos (by decide)
  obtain ⟨d, hd2⟩ : ∃ d : Int, d = 2 ^ lk.toNat := ⟨_, rfl⟩
  rw [← hd2] at hd ⊢
  obtain ⟨s, rfl⟩ : ∃ s, b = a + s := ⟨b - a, by omega⟩
  have h1 : (a + s) / d < a / d + s + 1 := by
    refine Int.ediv_lt_of_lt_mul hd ?_
    have h2 := Int.lt_ediv_add_one_mul_self a hd
    have h3 : s * 1 ≤ s * d := Int.mul_le_mul_of_nonneg_left (by omega) (by omega)
    have h4 : (a / d + s + 1) * d = (a / d + 1) * d + s * d := by rw [show a / d + s + 1 = (a / d + 1) + s by omega, Int.add_mul]
    omega
  omega
def halves (ys : List Int) : List Int := ys.map fun y => Int.tdiv y 2
theorem halves_get (ys : List Int) (k : Nat) : (halves ys).getD k 0 = Int.tdiv (ys.getD k 0) 2 := by
  unfold halves
  rw [List.getD_eq_getElem?_getD, List.getD_eq_getElem?_getD, List.getElem?_map]
  cases ys[k]? <;> rfl
theorem half_sq (y : Int) : Int.tdiv y 2 * Int.tdiv y 2 ≤ y * y := by
  rcases Int.le_total 0 y with h | h
  · have h1 : 0 ≤ Int.tdiv y 2 := Int.tdiv_nonneg h (by decide)
    have h2 : Int.tdiv y 2 ≤ y := Int.tdiv_le_self 2 h
    exact Int.mul_le_mul h2 h2 h1 h
  · have e : Int.tdiv y 2 = -Int.tdiv (-y) 2 := by rw [Int.neg_tdiv, Int.neg_neg]
    have h1 : 0 ≤ Int.tdiv (-y) 2 := Int.tdiv_nonneg (by omega) (by decide)
    have h2 : Int.tdiv (-y) 2 ≤ -y := Int.tdiv_le_self 2 (by omega)
    rw [e, Int.neg_mul_neg]
    have := Int.mul_le_mul h2 h2 h1 (show 0 ≤ -y by omega)
    rwa [Int.neg_mul_neg] at this
theorem halves_in {ys : List Int} (h : inB 2048 ys) : inB 2048 (halves ys) := by
  intro z hz
  simp only [halves, List.mem_map] at hz
  obtain ⟨y, hy, rfl⟩ := hz
  have := h y hy
  rcases Int.le_total 0 y with h0 | h0
  · have h1 : 0 ≤ Int.tdiv y 2 := Int.tdiv_nonneg h0 (by decide)
    have h2 : Int.tdiv y 2 ≤ y := Int.tdiv_le_self 2 h0
    omega
  · have e : Int.tdiv y 2 = -Int.tdiv (-y) 2 := by rw [Int.neg_tdiv, Int.neg_neg]
    have h1 : 0 ≤ Int.tdiv (-y) 2 := Int.tdiv_nonneg (by omega) (by decide)
    have h2 : Int.tdiv (-y) 2 ≤ -y := Int.tdiv_le_self 2 (by omega)
    omega
theorem bh_half (lk : Int) (ys : List Int) : ∀ k, bhAt lk (halves ys) k ≤ bhAt lk ys k
  | 0 => Int.le_refl _
  | k + 1 => by
    have h1 := coolF_mono lk (bh_half lk ys k)
    have h2 := half_sq (ys.getD k 0)
    simp only [bhAt, halves_get]
    omega
theorem pk_half (lk : Int) (ys : List Int) : ∀ n, pkH lk (halves ys) n ≤ pkH lk ys n
  | 0 => Int.le_refl _
  | n + 1 => by
    have h1 := pk_half lk ys n
    have h2 := bh_half lk ys (n + 1)
    simp only [pkH, mx_eq]
    omega
end Go.Proofs.YtleemphfkhbhaaaDoor

/- A section with the tails as taps gives the excursions; sixteenths; errors that are none. No walk. -/
namespace Go.Proofs.YtleemphfkhbhaaaDoor
open Go.RowKit

/-- the states of a section without feedback hold the last two inputs. -/
theorem ss_past (b0 b1 b2 : Int) (n : Nat) (ys : List Int) : ∀ k, ∀ i, (bpAt n ys k).getD i 0 = if i < n then (if i = 0 then (ssAt b0 b1 b2 0 0 0 (0, 0, 0, 0) ys k).1 else if i = 1 then (ssAt b0 b1 b2 0 0 0 (0, 0, 0, 0) ys k).2.1 else (bpAt n ys k).getD i 0) else 0
  | 0, i => by
    have h0 : (bpAt n ys 0).getD i 0 = 0 := getD_zeros n i
    rw [h0]
    split <;> (try rfl)
    split <;> (try rfl)
    split <;> rfl
  | k + 1, i => by
    have ih := ss_past b0 b1 b2 n ys k
    by_cases hi : i < n
    · rw [if_pos hi]
      by_cases h0 : i = 0
      · subst h0
        rw [if_pos rfl]
        simp only [bpAt]
        rw [pushL_getD, bpAt_len, if_pos hi]
        rfl
      · rw [if_neg h0]
        by_cases h1 : i = 1
        · subst h1
          rw [if_pos rfl]
          have h2 := ih 0
          rw [if_pos (show 0 < n by omega), if_pos rfl] at h2
          simp only [bpAt]
          rw [pushL_getD, bpAt_len, if_pos hi, List.getD_cons_succ, h2]
          rfl
        · rw [if_neg h1]
    · rw [if_neg hi, List.getD_eq_getElem?_getD, List.getElem?_eq_none (by rw [bpAt_len]; omega)]; rfl
theorem rawF_taps (b0 b1 b2 x1 x2 y1 y2 i : Int) : rawF b0 b1 b2 0 0 0 x1 x2 y1 y2 i = b0 * i + b1 * x1 + b2 * x2 := by
  unfold rawF
  simp
theorem ex_taps {ts ys : List Int} (h1 : 1 ≤ ts.length) (h3 : ts.length ≤ 3) (k : Nat) :
    exAt ts ys k = ts.getD 0 0 * ys.getD k 0 + ts.getD 1 0 * (ssAt (ts.getD 0 0) (ts.getD 1 0) (ts.getD 2 0) 0 0 0 (0, 0, 0, 0) ys k).1 + ts.getD 2 0 * (ssAt (ts.getD 0 0) (ts.getD 1 0) (ts.getD 2 0) 0 0 0 (0, 0, 0, 0) ys k).2.1 := by
  have hp := ss_past (ts.getD 0 0) (ts.getD 1 0) (ts.getD 2 0) (ts.length - 1) ys k
  have hz : ∀ j, ts.length ≤ j → ts.getD j 0 = 0 := fun j hj => by rw [List.getD_eq_getElem?_getD, List.getElem?_eq_none hj]; rfl
  unfold exAt exF
  rw [bpAt_len]
  obtain ⟨n, hn⟩ : ∃ n, n = ts.length - 1 := ⟨_, rfl⟩
  rw [← hn] at hp ⊢
  have hn3 : n = 0 ∨ n = 1 ∨ n = 2 := by omega
  have hx1 : ∀ (ps : List Int) (y : Int), exK ts ps y 1 = ts.getD 0 0 * y + ts.getD 1 0 * ps.getD 0 0 := fun _ _ => rfl
  have hx2 : ∀ (ps : List Int) (y : Int), exK ts ps y 2 = ts.getD 0 0 * y + ts.getD 1 0 * ps.getD 0 0 + ts.getD 2 0 * ps.getD 1 0 := fun _ _ => rfl
  have hp0 := hp 0
  have hp1 := hp 1
  obtain ⟨S, hS⟩ : ∃ S, S = ssAt (ts.getD 0 0) (ts.getD 1 0) (ts.getD 2 0) 0 0 0 (0, 0, 0, 0) ys k := ⟨_, rfl⟩
  rw [← hS] at hp0 hp1 ⊢
  rcases hn3 with rfl | rfl | rfl
  · rw [hz 1 (by omega), hz 2 (by omega), Int.zero_mul, Int.zero_mul, Int.add_zero, Int.add_zero]
    rfl
  · rw [if_pos (by omega), if_pos rfl] at hp0
    rw [hx1, hp0, hz 2 (by omega), Int.zero_mul, Int.add_zero]
  · rw [if_pos (by omega), if_pos rfl] at hp0
    rw [if_pos (by omega), if_neg (by omega), if_pos rfl] at hp1
    rw [hx2, hp0, hp1]
theorem soK_ex {ts ys : List Int} {n : Nat} (h1 : 1 ≤ ts.length) (h3 : ts.length ≤ 3) (hb : ∀ k, k < n → absI (exAt ts ys k) ≤ 20000) : soK (ts.getD 0 0) (ts.getD 1 0) (ts.getD 2 0) 0 0 0 (0, 0, 0, 0) ys n = (List.range n).map (exAt ts ys) := by
  unfold soK
  refine List.map_congr_left fun k hk => ?_
  have hk2 := hb k (List.mem_range.1 hk)
  have e := ex_taps (ys := ys) h1 h3 k
  have h4 := absI_le.1 hk2
  show outS _ _ _ _ _ _ _ _ _ _ _ = _
  unfold outS
  rw [rawF_taps, ← e, limF_in (by unfold bd15; omega)]
/-- the greatest of the outputs of a section and of their opposites. -/
def mostK (es : List Int) : Nat → Int
  | 0 => 0
  | k + 1 => mx (mx (mostK es k) (es.getD k 0)) (-(es.getD k 0))
theorem most_ex (ts ys : List Int) (n : Nat) : ∀ k, k ≤ n → mostK ((List.range n).map (exAt ts ys)) k = pkX ts ys k
  | 0, _ => rfl
  | k + 1, h => by
    have e : ((List.range n).map (exAt ts ys)).getD k 0 = exAt ts ys k := by simp [List.getD_eq_getElem?_getD, show k < n by omega]
    simp only [mostK, pkX]
    rw [most_ex ts ys n k (by omega), e]
    simp only [mx_eq]
    unfold absI
    omega
/-- sixteenths. -/
def q16 (ys : List Int) : List Int := ys.map fun y => Int.tdiv y 16
theorem q16_in {ys : List Int} (h : inB 32767 ys) : inB 2048 (q16 ys) := by
  intro z hz
  simp only [q16, List.mem_map] at hz
  obtain ⟨y, hy, rfl⟩ := hz
  have := h y hy
  rcases Int.le_total 0 y with h0 | h0
  · rw [Int.tdiv_eq_ediv_of_nonneg h0]; omega
  · have e : Int.tdiv y 16 = -Int.tdiv (-y) 16 := by rw [Int.neg_tdiv, Int.neg_neg]
    rw [e, Int.tdiv_eq_ediv_of_nonneg (by omega)]; omega
theorem sig_ok {ys : List Int} (h : inB 2048 ys) (hn : ys.length ≤ 4096) : sigErr ys = 0 := by
  unfold sigErr
  rw [if_neg (by omega), eachErr_zero.2 h]
  rfl
theorem ssig_ok {ys : List Int} (h : inB 32767 ys) (hn : ys.length ≤ 4096) : ssigErr ys = 0 := by
  unfold ssigErr
  rw [if_neg (by omega), eachErr_zero.2 h]
  rfl
theorem inB_mono {a b : Int} (hab : a ≤ b) {l : List Int} (h : inB a l) : inB b l := fun x hx => by have := h x hx; omega
theorem run_noErr {lk ht rc : Int} {ts gs ys : List Int} (hg : guardErr lk ht rc ts gs = 0) (h : inB 2048 ys) (hn : ys.length ≤ 4096) : runErr lk ht rc ts gs ys = 0 := by
  unfold runErr
  rw [hg, sig_ok h hn]
  rfl
theorem taps_ok {ts : List Int} (h : inB 64 ts) : secErr (ts.getD 0 0) (ts.getD 1 0) (ts.getD 2 0) 0 0 0 = 0 := by
  have hg : ∀ k, -64 ≤ ts.getD k 0 ∧ ts.getD k 0 ≤ 64 := fun k => inB_get h (by omega) k
  have h0 := hg 0
  have h1 := hg 1
  have h2 := hg 2
  have e : eachErr [ts.getD 0 0, ts.getD 1 0, ts.getD 2 0, 0, 0] (-32767) 32767 = 0 := by
    rw [eachErr_zero]
    intro n hn
    simp only [List.mem_cons, List.not_mem_nil, or_false] at hn
    rcases hn with rfl | rfl | rfl | rfl | rfl <;> omega
  unfold secErr
  rw [e]
  rfl
end Go.Proofs.YtleemphfkhbhaaaDoor

/- TopDustLoud, where nothing is sought: dustAmp alone. -/
namespace Go.Proofs.YtleemphfkhbhaaaDoor
open Go.RowKit
open Calm (bcell Blk)

theorem name_calls {P : Program} {f : FuncId} {args : Array Value} {W : World} {R : Ending → World → Prop} (h : ∀ w2, w2 = W → Calls P f args w2 R) : Calls P f args W R := h _ rfl
/-- an array of four, sliced. -/
theorem sl4 (b : Nat) (W : World) : Sem.run Tryd.prog (Instr.sliceAt 49 (.pointer (some ⟨b, 0, none⟩)) none none none) W = .ok (.slice (some ⟨b, 0, none⟩) 4 4) W := by
  have ht : Tryd.prog.underlying 49 = some (.array 4 3) := by kernel_rfl
  obtain ⟨i0, hi, hz0, hz1, hz2⟩ := info_parts Tryd.infoI
  simp [Instr.sliceAt, run_underlying ht, Instr.sliceBounds, Instr.sureAddr, sizeOf, typeInfo, hi, Addr.add]

set_option maxRecDepth 100000 in
set_option maxHeartbeats 4000000 in
theorem loud_0 (lk ht rc i0 i1 i2 i3 n : Int) (ts : List Int) (A1 A2 : Option Addr) (M L c1 c2 : Nat) (w : World) (hM : M = ts.length) (hLim : Lim w) (hT : Cells w A1 ts) (b : ¬ M ≤ 9) :
    Calls Tryd.prog 4 #[.agg #[(.int .i64 (lk)), (.int .i64 (ht)), .slice A1 M c1, (.int .i64 (rc)), .slice A2 L c2], .agg #[(.int .i64 (i0)), (.int .i64 (i1)), (.int .i64 (i2)), (.int .i64 (i3))], .int .u8 n] w fun r w' => r = .returned (.bool true) ∧ Below w.heap.size w w' := by
  have HAMP : Hid (∀ W, Lim W → Calls Tryd.prog 9 #[] W fun r w' => r = .returned (.bool true) ∧ Below W.heap.size W w') := Lib.hid dustAmp_any
  have HSH : Hid (∀ W, Calls Tryd.prog 5 #[.agg #[(.int .i64 (lk)), (.int .i64 (ht)), .slice A1 M c1, (.int .i64 (rc)), .slice (some ⟨w.heap.size + 1 + 1, 0, none⟩) 2 2]] W fun r w' => r = .returned (.bool false) ∧ Below W.heap.size W w') := Lib.hid (fun W => by
    have := pShort_any lk ht rc A1 (some ⟨w.heap.size + 1 + 1, 0, none⟩) M 2 c1 2 W
    rwa [decide_eq_false (by omega)] at this)
  have HL := Lib.hid hLim
  clear hM hLim hT b
  go_enter Tryd.func4, Tryd.ntmps4
  go_wp2_with (go_at_call 5; refine name_calls ?_; intro w0 e0; refine Hid.out ?_)
  have HB0 := Lib.hid (show Below w.heap.size w w0 from by rw [e0]; (repeat (first | (with_reducible exact Below.refl _ _) | ((with_reducible refine Below.setCell ?_ ?_ _); rotate_left 1; focus (first | (simp; done) | (simp; omega) | (simp at *; omega))) | ((with_reducible refine Below.alloc ?_ ?_ _); rotate_left 1; focus (first | (simp; done) | (simp; omega) | (simp at *; omega))) | (with_reducible refine Below.drew ?_) | ((with_reducible refine Calm.step (by assumption) ?_ ?_); rotate_left 1; focus (first | (simp; done) | (simp; omega) | (simp at *; omega))))))
  clear e0
  unfold Hid
  refine (HSH.out _).mono ?_
  rintro r w1 ⟨rfl, hb1⟩
  have HB1 := Lib.hid (HB0.out.trans (hb1.mono HB0.out.size))
  clear hb1
  go_wp2_with (first
    | (go_at_call 9; refine (HAMP.out _ (HL.out.below HB1.out)).mono ?_; rintro r w5 ⟨rfl, hb5⟩; have HB5 := Lib.hid (HB1.out.trans (hb5.mono HB1.out.size))))
  go_ret
  exact ⟨rfl, HB5.out⟩

set_option maxRecDepth 100000 in
set_option maxHeartbeats 4000000 in
theorem loud_1 (lk ht rc i0 i1 i2 i3 n : Int) (ts : List Int) (A1 A2 : Option Addr) (M L c1 c2 : Nat) (w : World) (hM : M = ts.length) (hLim : Lim w) (hT : Cells w A1 ts) (g0 : M ≤ 9) (b : guardErr lk ht rc ts [0, 16] ≠ 0) :
    Calls Tryd.prog 4 #[.agg #[(.int .i64 (lk)), (.int .i64 (ht)), .slice A1 M c1, (.int .i64 (rc)), .slice A2 L c2], .agg #[(.int .i64 (i0)), (.int .i64 (i1)), (.int .i64 (i2)), (.int .i64 (i3))], .int .u8 n] w fun r w' => r = .returned (.bool true) ∧ Below w.heap.size w w' := by
  have HAMP : Hid (∀ W, Lim W → Calls Tryd.prog 9 #[] W fun r w' => r = .returned (.bool true) ∧ Below W.heap.size W w') := Lib.hid dustAmp_any
  have HSH : Hid (∀ W, Calls Tryd.prog 5 #[.agg #[(.int .i64 (lk)), (.int .i64 (ht)), .slice A1 M c1, (.int .i64 (rc)), .slice (some ⟨w.heap.size + 1 + 1, 0, none⟩) 2 2]] W fun r w' => r = .returned (.bool true) ∧ Below W.heap.size W w') := Lib.hid (fun W => by
    have := pShort_any lk ht rc A1 (some ⟨w.heap.size + 1 + 1, 0, none⟩) M 2 c1 2 W
    rwa [decide_eq_true (by omega)] at this)
  obtain ⟨E, hE⟩ : ∃ E, E = guardErr lk ht rc ts [0, 16] := ⟨_, rfl⟩
  rw [← hE] at b
  have HCG : Hid (∀ W, Cells W A1 ts → Cells W (some ⟨w.heap.size + 1 + 1, 0, none⟩) [0, 16] → Calls Tryd.prog 6 #[.agg #[(.int .i64 (lk)), (.int .i64 (ht)), .slice A1 M c1, (.int .i64 (rc)), .slice (some ⟨w.heap.size + 1 + 1, 0, none⟩) 2 2]] W fun r w' => r = .returned (.int .i64 (E)) ∧ Below W.heap.size W w') := Lib.hid (fun W q1 q2 => by
    have := pGuard_any lk ht rc ts [0, 16] A1 (some ⟨w.heap.size + 1 + 1, 0, none⟩) c1 2 W q1 q2 (by omega) (by simp)
    rwa [← hM, ← hE] at this)
  have HT := Lib.hid hT
  have HL := Lib.hid hLim
  clear hM hLim hT g0 hE
  go_enter Tryd.func4, Tryd.ntmps4
  go_wp2_with (go_at_call 5; refine name_calls ?_; intro w0 e0; refine Hid.out ?_)
  have HB0 := Lib.hid (show Below w.heap.size w w0 from by rw [e0]; (repeat (first | (with_reducible exact Below.refl _ _) | ((with_reducible refine Below.setCell ?_ ?_ _); rotate_left 1; focus (first | (simp; done) | (simp; omega) | (simp at *; omega))) | ((with_reducible refine Below.alloc ?_ ?_ _); rotate_left 1; focus (first | (simp; done) | (simp; omega) | (simp at *; omega))) | (with_reducible refine Below.drew ?_) | ((with_reducible refine Calm.step (by assumption) ?_ ?_); rotate_left 1; focus (first | (simp; done) | (simp; omega) | (simp at *; omega))))))
  have K0 := Lib.hid (show Blk w0 w.heap.size #[(.int .i64 (lk)), (.int .i64 (ht)), .slice A1 M c1, (.int .i64 (rc)), .slice (some ⟨w.heap.size + 1 + 1, 0, none⟩) 2 2] from by rw [e0]; (repeat (first | ((with_reducible refine Blk.at_ ?_); focus (first | rfl | (simp; done) | (simp; omega))) | (with_reducible refine Blk.alloc ?_ _) | (with_reducible refine Blk.below ?_ (by with_reducible assumption)) | (with_reducible refine Blk.drew ?_))))
  have H16 := Lib.hid (show Cells w0 (some ⟨w.heap.size + 1 + 1, 0, none⟩) [0, 16] from blk_cells (zs := [0, 16]) (show Blk w0 (w.heap.size + 1 + 1) #[(.int .i64 (0)), (.int .i64 (16))] from by rw [e0]; (repeat (first | ((with_reducible refine Blk.at_ ?_); focus (first | rfl | (simp; done) | (simp; omega))) | (with_reducible refine Blk.alloc ?_ _) | (with_reducible refine Blk.below ?_ (by with_reducible assumption)) | (with_reducible refine Blk.drew ?_)))))
  clear e0
  unfold Hid
  refine (HSH.out _).mono ?_
  rintro r w1 ⟨rfl, hb1⟩
  have HB1 := Lib.hid (HB0.out.trans (hb1.mono HB0.out.size))
  have K1 := Lib.hid (K0.out.below hb1)
  have H161 := Lib.hid (H16.out.below hb1)
  obtain ⟨c00, c01, c02, c03, c04, l0, f0⟩ := K1.out.o5
  clear hb1
  go_wp2_with (first
    | (go_at_call 6; refine (HCG.out _ (HT.out.below HB1.out) H161.out).mono ?_; rintro r w2 ⟨rfl, hb2⟩; have HB2 := Lib.hid (HB1.out.trans (hb2.mono HB1.out.size)); clear hb2)
    | (go_at_call 9; refine (HAMP.out _ (HL.out.below HB2.out)).mono ?_; rintro r w5 ⟨rfl, hb5⟩; have HB5 := Lib.hid (HB2.out.trans (hb5.mono HB2.out.size))))
  go_ret
  exact ⟨rfl, HB5.out⟩

set_option maxRecDepth 100000 in
set_option maxHeartbeats 4000000 in
theorem loud_2 (lk ht rc i0 i1 i2 i3 n : Int) (ts : List Int) (A1 A2 : Option Addr) (M L c1 c2 : Nat) (w : World) (hM : M = ts.length) (hLim : Lim w) (hT : Cells w A1 ts) (g0 : M ≤ 9) (g1 : guardErr lk ht rc ts [0, 16] = 0) (b : sigErr [i0, i1, i2, i3] ≠ 0) :
    Calls Tryd.prog 4 #[.agg #[(.int .i64 (lk)), (.int .i64 (ht)), .slice A1 M c1, (.int .i64 (rc)), .slice A2 L c2], .agg #[(.int .i64 (i0)), (.int .i64 (i1)), (.int .i64 (i2)), (.int .i64 (i3))], .int .u8 n] w fun r w' => r = .returned (.bool true) ∧ Below w.heap.size w w' := by
  have HAMP : Hid (∀ W, Lim W → Calls Tryd.prog 9 #[] W fun r w' => r = .returned (.bool true) ∧ Below W.heap.size W w') := Lib.hid dustAmp_any
  have HSH : Hid (∀ W, Calls Tryd.prog 5 #[.agg #[(.int .i64 (lk)), (.int .i64 (ht)), .slice A1 M c1, (.int .i64 (rc)), .slice (some ⟨w.heap.size + 1 + 1, 0, none⟩) 2 2]] W fun r w' => r = .returned (.bool true) ∧ Below W.heap.size W w') := Lib.hid (fun W => by
    have := pShort_any lk ht rc A1 (some ⟨w.heap.size + 1 + 1, 0, none⟩) M 2 c1 2 W
    rwa [decide_eq_true (by omega)] at this)
  obtain ⟨E, hE⟩ : ∃ E, E = sigErr [i0, i1, i2, i3] := ⟨_, rfl⟩
  rw [← hE] at b
  have HCG : Hid (∀ W, Cells W A1 ts → Cells W (some ⟨w.heap.size + 1 + 1, 0, none⟩) [0, 16] → Calls Tryd.prog 6 #[.agg #[(.int .i64 (lk)), (.int .i64 (ht)), .slice A1 M c1, (.int .i64 (rc)), .slice (some ⟨w.heap.size + 1 + 1, 0, none⟩) 2 2]] W fun r w' => r = .returned (.int .i64 (0)) ∧ Below W.heap.size W w') := Lib.hid (fun W q1 q2 => by
    have := pGuard_any lk ht rc ts [0, 16] A1 (some ⟨w.heap.size + 1 + 1, 0, none⟩) c1 2 W q1 q2 (by omega) (by simp)
    rwa [← hM, g1] at this)
  have HSG : Hid (∀ W, Cells W (some ⟨w.heap.size + 1, 0, none⟩) [i0, i1, i2, i3] → Calls Tryd.prog 14 #[.slice (some ⟨w.heap.size + 1, 0, none⟩) 4 4] W fun r w' => r = .returned (.int .i64 (E)) ∧ W = w') := Lib.hid (fun W q1 => by
    have := pSignal_any [i0, i1, i2, i3] (some ⟨w.heap.size + 1, 0, none⟩) 4 W q1 (by simp)
    rwa [← hE] at this)
  have hsl := sl4 (w.heap.size + 1)
  have HT := Lib.hid hT
  have HL := Lib.hid hLim
  clear hM hLim hT g0 hE g1
  go_enter Tryd.func4, Tryd.ntmps4
  go_wp2_with (go_at_call 5; refine name_calls ?_; intro w0 e0; refine Hid.out ?_)
  have HB0 := Lib.hid (show Below w.heap.size w w0 from by rw [e0]; (repeat (first | (with_reducible exact Below.refl _ _) | ((with_reducible refine Below.setCell ?_ ?_ _); rotate_left 1; focus (first | (simp; done) | (simp; omega) | (simp at *; omega))) | ((with_reducible refine Below.alloc ?_ ?_ _); rotate_left 1; focus (first | (simp; done) | (simp; omega) | (simp at *; omega))) | (with_reducible refine Below.drew ?_) | ((with_reducible refine Calm.step (by assumption) ?_ ?_); rotate_left 1; focus (first | (simp; done) | (simp; omega) | (simp at *; omega))))))
  have K0 := Lib.hid (show Blk w0 w.heap.size #[(.int .i64 (lk)), (.int .i64 (ht)), .slice A1 M c1, (.int .i64 (rc)), .slice (some ⟨w.heap.size + 1 + 1, 0, none⟩) 2 2] from by rw [e0]; (repeat (first | ((with_reducible refine Blk.at_ ?_); focus (first | rfl | (simp; done) | (simp; omega))) | (with_reducible refine Blk.alloc ?_ _) | (with_reducible refine Blk.below ?_ (by with_reducible assumption)) | (with_reducible refine Blk.drew ?_))))
  have H16 := Lib.hid (show Cells w0 (some ⟨w.heap.size + 1 + 1, 0, none⟩) [0, 16] from blk_cells (zs := [0, 16]) (show Blk w0 (w.heap.size + 1 + 1) #[(.int .i64 (0)), (.int .i64 (16))] from by rw [e0]; (repeat (first | ((with_reducible refine Blk.at_ ?_); focus (first | rfl | (simp; done) | (simp; omega))) | (with_reducible refine Blk.alloc ?_ _) | (with_reducible refine Blk.below ?_ (by with_reducible assumption)) | (with_reducible refine Blk.drew ?_)))))
  have HIN := Lib.hid (show Cells w0 (some ⟨w.heap.size + 1, 0, none⟩) [i0, i1, i2, i3] from blk_cells (zs := [i0, i1, i2, i3]) (show Blk w0 (w.heap.size + 1) #[(.int .i64 (i0)), (.int .i64 (i1)), (.int .i64 (i2)), (.int .i64 (i3))] from by rw [e0]; (repeat (first | ((with_reducible refine Blk.at_ ?_); focus (first | rfl | (simp; done) | (simp; omega))) | (with_reducible refine Blk.alloc ?_ _) | (with_reducible refine Blk.below ?_ (by with_reducible assumption)) | (with_reducible refine Blk.drew ?_)))))
  clear e0
  unfold Hid
  refine (HSH.out _).mono ?_
  rintro r w1 ⟨rfl, hb1⟩
  have HB1 := Lib.hid (HB0.out.trans (hb1.mono HB0.out.size))
  have K1 := Lib.hid (K0.out.below hb1)
  have H161 := Lib.hid (H16.out.below hb1)
  have HIN1 := Lib.hid (HIN.out.below hb1)
  obtain ⟨c00, c01, c02, c03, c04, l0, f0⟩ := K1.out.o5
  clear hb1
  go_wp2_with (first
    | (go_at_call 6; refine (HCG.out _ (HT.out.below HB1.out) H161.out).mono ?_; rintro r w2 ⟨rfl, hb2⟩; have HB2 := Lib.hid (HB1.out.trans (hb2.mono HB1.out.size)); have HIN2 := Lib.hid (HIN1.out.below hb2); clear hb2)
    | (go_at_call 14; refine (HSG.out _ HIN2.out).mono ?_; rintro r w3 ⟨rfl, rfl⟩)
    | (go_at_call 9; refine (HAMP.out _ (HL.out.below HB2.out)).mono ?_; rintro r w5 ⟨rfl, hb5⟩; have HB5 := Lib.hid (HB2.out.trans (hb5.mono HB2.out.size))))
  go_ret
  exact ⟨rfl, HB5.out⟩
end Go.Proofs.YtleemphfkhbhaaaDoor
