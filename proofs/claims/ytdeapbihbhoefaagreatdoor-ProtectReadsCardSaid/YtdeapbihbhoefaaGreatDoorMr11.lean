/- Part 11 of the texts of the claim: Y1, Y2, Y3. -/
import Derived.Test.YtdeapbihbhoefaaGreatDoorMr9
import Derived.Test.YtdeapbihbhoefaaGreatDoorMr10

/- Contracts of checkHeat, checkValue and CheckState. -/
namespace Go.Proofs.YtdeapbihbhoefaaGreatDoor
open Go.RowKit
open Calm (bcell Blk)

theorem checkHeat_any (n : Int) (w : World) : Calls Tryz.prog 62 #[(.int .i64 n)] w fun r w' => r = .returned (.int .i64 (rangeErr n 0 536870912)) ∧ w = w' := by
  go_enter Tryz.func62, Tryz.ntmps62
  go_wp2_with (go_at_call 66; refine (within_any _ _ _ _).mono ?_; rintro r w' ⟨rfl, rfl⟩)
  go_ret
  exact ⟨rfl, rfl⟩
theorem checkValue_any (n : Int) (w : World) : Calls Tryz.prog 51 #[(.int .i64 n)] w fun r w' => r = .returned (.int .i64 (rangeErr n (-2048) 2048)) ∧ w = w' := by
  go_enter Tryz.func51, Tryz.ntmps51
  go_wp2_with (go_at_call 66; refine (within_any _ _ _ _).mono ?_; rintro r w' ⟨rfl, rfl⟩)
  go_ret
  exact ⟨rfl, rfl⟩

/-- the error of a state, behind that of its guard. -/
def stErr2 (h lv : Int) (ps : List Int) (M L : Nat) : Int := firstOf [rangeErr h 0 536870912, rangeErr lv 0 ((L : Int) - 1), if ps.length + 1 = M then 0 else 2, eachErr ps (-2048) 2048]
def stErr (lk ht rc : Int) (ts gs : List Int) (h lv : Int) (ps : List Int) : Int := if guardErr lk ht rc ts gs = 0 then stErr2 h lv ps ts.length gs.length else guardErr lk ht rc ts gs

set_option maxHeartbeats 4000000 in
set_option maxRecDepth 100000 in
theorem checkState_any (lk ht rc h lv : Int) (ts gs ps : List Int) (A1 A2 A3 : Option Addr) (M L Q c1 c2 c3 : Nat) (w : World) (hM : M = ts.length) (hL : L = gs.length) (hQ : Q = ps.length) (hT : Cells w A1 ts) (hG : Cells w A2 gs) (hP : Cells w A3 ps) (h1 : M ≤ 1000) (h2 : L ≤ 1000) (h3 : Q ≤ 1000) :
    Calls Tryz.prog 50 #[.agg #[(.int .i64 lk), (.int .i64 ht), .slice A1 M c1, (.int .i64 rc), .slice A2 L c2], .agg #[(.int .i64 h), (.int .i64 lv), .slice A3 Q c3]] w fun r w' => r = .returned (.int .i64 (stErr lk ht rc ts gs h lv ps)) ∧ Below w.heap.size w w' := by
  have HCG : Hid (∀ W, Cells W A1 ts → Cells W A2 gs → Calls Tryz.prog 35 #[.agg #[(.int .i64 lk), (.int .i64 ht), .slice A1 M c1, (.int .i64 rc), .slice A2 L c2]] W fun r w' => r = .returned (.int .i64 (guardErr lk ht rc ts gs)) ∧ Below W.heap.size W w') := Lib.hid (fun W q1 q2 => by rw [hM, hL]; exact checkGuard_any lk ht rc ts gs A1 A2 c1 c2 W q1 q2 (by omega) (by omega))
  have hval : guardErr lk ht rc ts gs = 0 → 1 ≤ M ∧ 1 ≤ L := fun e => by
    have := guard_valid e
    exact ⟨by rw [hM]; exact this.tl.1, by rw [hL]; exact this.gl.1⟩
  have HST : Hid ((guardErr lk ht rc ts gs = 0 → stErr lk ht rc ts gs h lv ps = stErr2 h lv ps M L) ∧ (guardErr lk ht rc ts gs ≠ 0 → stErr lk ht rc ts gs h lv ps = guardErr lk ht rc ts gs)) := Lib.hid (by
    unfold stErr
    rw [← hM, ← hL]
    exact ⟨fun e => if_pos e, fun e => if_neg e⟩)
  have HT := Lib.hid hT
  have HG := Lib.hid hG
  have HP := Lib.hid hP
  obtain ⟨E, hE⟩ : ∃ E, E = guardErr lk ht rc ts gs := ⟨_, rfl⟩
  rw [← hE] at HCG hval HST
  obtain ⟨R, hR⟩ : ∃ R, R = stErr lk ht rc ts gs h lv ps := ⟨_, rfl⟩
  rw [← hR] at HST ⊢
  by_cases he : E = 0
  · obtain ⟨hM1, hL1⟩ := hval he
    have hst := HST.out.1 he
    subst he
    rw [hst]
    have HCH : Hid (∀ W, Calls Tryz.prog 62 #[(.int .i64 h)] W fun r w' => r = .returned (.int .i64 (rangeErr h 0 536870912)) ∧ Below W.heap.size W w') := Lib.hid (fun W => (checkHeat_any h W).mono (fun e w' h => ⟨h.1, h.2 ▸ Below.refl _ _⟩))
    have HWI : Hid (∀ W, Calls Tryz.prog 66 #[(.int .i64 lv), (.int .i64 0), (.int .i64 ((L : Int) - 1))] W fun r w' => r = .returned (.int .i64 (rangeErr lv 0 ((L : Int) - 1))) ∧ Below W.heap.size W w') := Lib.hid (fun W => (within_any _ _ _ W).mono (fun e w' h => ⟨h.1, h.2 ▸ Below.refl _ _⟩))
    have HW0 : Hid (∀ W, Calls Tryz.prog 68 #[.bool false, (.int .i64 2)] W fun r w' => r = .returned (.int .i64 0) ∧ Below W.heap.size W w') := Lib.hid (fun W => (when_any false _ W).mono (fun e w' h => ⟨h.1, h.2 ▸ Below.refl _ _⟩))
    have HW2 : Hid (∀ W, Calls Tryz.prog 68 #[.bool true, (.int .i64 2)] W fun r w' => r = .returned (.int .i64 2) ∧ Below W.heap.size W w') := Lib.hid (fun W => (when_any true _ W).mono (fun e w' h => ⟨h.1, h.2 ▸ Below.refl _ _⟩))
    have HEA : Hid (∀ W, Cells W A3 ps → Calls Tryz.prog 71 #[.slice A3 Q c3, (.int .i64 (-2048)), (.int .i64 2048)] W fun r w' => r = .returned (.int .i64 (eachErr ps (-2048) 2048)) ∧ Below W.heap.size W w') := Lib.hid (fun W q => by rw [hQ]; exact each_any A3 ps c3 (-2048) 2048 W q (by omega))
    have HFI : Hid (∀ (a b c d : Int) (W : World), Calls Tryz.prog 49 #[.slice (some ⟨W.heap.size, 0, none⟩) 4 4] (W.alloc (.cells #[(.int .i64 a), (.int .i64 b), (.int .i64 c), (.int .i64 d)] 27)) fun r w' => r = .returned (.int .i64 (firstOf [a, b, c, d])) ∧ (W.alloc (.cells #[(.int .i64 a), (.int .i64 b), (.int .i64 c), (.int .i64 d)] 27)) = w') := Lib.hid (fun a b c d W => first_cells [a, b, c, d] W (by simp))
    obtain ⟨E1, hE1⟩ : ∃ E1, E1 = rangeErr h 0 536870912 := ⟨_, rfl⟩
    obtain ⟨E2, hE2⟩ : ∃ E2, E2 = rangeErr lv 0 ((L : Int) - 1) := ⟨_, rfl⟩
    obtain ⟨E4, hE4⟩ : ∃ E4, E4 = eachErr ps (-2048) 2048 := ⟨_, rfl⟩
    have HF : Hid (stErr2 h lv ps M L = firstOf [E1, E2, if Q + 1 = M then 0 else 2, E4]) := Lib.hid (by rw [hE1, hE2, hE4, hQ]; rfl)
    rw [← hE1] at HCH
    rw [← hE2] at HWI
    rw [← hE4] at HEA
    obtain ⟨RR, hRR⟩ : ∃ RR, RR = stErr2 h lv ps M L := ⟨_, rfl⟩
    rw [← hRR] at HF ⊢
    clear hM hL hQ hT hG hP hE hR HST hval hst hE1 hE2 hE4 hRR
    go_enter Tryz.func50, Tryz.ntmps50
    go_wp2_with (go_at_call 35; refine (HCG.out _ (HT.out.below (by (repeat (first | (with_reducible exact Below.refl _ _) | ((with_reducible refine Below.setCell ?_ ?_ _); rotate_left 1; focus (first | (simp; done) | (simp; omega) | (simp at *; omega))) | ((with_reducible refine Below.alloc ?_ ?_ _); rotate_left 1; focus (first | (simp; done) | (simp; omega) | (simp at *; omega))) | (with_reducible refine Below.drew ?_) | ((with_reducible refine Calm.step (by assumption) ?_ ?_); rotate_left 1; focus (first | (simp; done) | (simp; omega) | (simp at *; omega))))))) (HG.out.below (by (repeat (first | (with_reducible exact Below.refl _ _) | ((with_reducible refine Below.setCell ?_ ?_ _); rotate_left 1; focus (first | (simp; done) | (simp; omega) | (simp at *; omega))) | ((with_reducible refine Below.alloc ?_ ?_ _); rotate_left 1; focus (first | (simp; done) | (simp; omega) | (simp at *; omega))) | (with_reducible refine Below.drew ?_) | ((with_reducible refine Calm.step (by assumption) ?_ ?_); rotate_left 1; focus (first | (simp; done) | (simp; omega) | (simp at *; omega)))))))).mono ?_; rintro r w1 ⟨rfl, hb1⟩; have HB1 := Lib.hid (show Below w.heap.size w w1 from Below.trans (by (repeat (first | (with_reducible exact Below.refl _ _) | ((with_reducible refine Below.setCell ?_ ?_ _); rotate_left 1; focus (first | (simp; done) | (simp; omega) | (simp at *; omega))) | ((with_reducible refine Below.alloc ?_ ?_ _); rotate_left 1; focus (first | (simp; done) | (simp; omega) | (simp at *; omega))) | (with_reducible refine Below.drew ?_) | ((with_reducible refine Calm.step (by assumption) ?_ ?_); rotate_left 1; focus (first | (simp; done) | (simp; omega) | (simp at *; omega)))))) (hb1.mono (by simp; omega))); have K1 := Lib.hid (show Blk w1 w.heap.size #[(.int .i64 lk), (.int .i64 ht), .slice A1 M c1, (.int .i64 rc), .slice A2 L c2] from Blk.below (by (repeat (first | ((with_reducible refine Blk.at_ ?_); focus (first | rfl | (simp; done) | (simp; omega))) | (with_reducible refine Blk.alloc ?_ _) | (with_reducible refine Blk.below ?_ (by with_reducible assumption)) | (with_reducible refine Blk.drew ?_)))) hb1); have S1 := Lib.hid (show Blk w1 (w.heap.size + 1) #[(.int .i64 h), (.int .i64 lv), .slice A3 Q c3] from Blk.below (by (repeat (first | ((with_reducible refine Blk.at_ ?_); focus (first | rfl | (simp; done) | (simp; omega))) | (with_reducible refine Blk.alloc ?_ _) | (with_reducible refine Blk.below ?_ (by with_reducible assumption)) | (with_reducible refine Blk.drew ?_)))) hb1); clear hb1)
    have HP1 := Lib.hid (HP.out.below HB1.out)
    obtain ⟨c00, c01, c02, c03, c04, l0, f0⟩ := K1.out.o5
    obtain ⟨s00, s01, s02, l1, f1⟩ := S1.out.o3
    by_cases hq : Q + 1 = M
    · have hqe : (Q : Int) = (M : Int) - 1 := by omega
      have HF2 : Hid (firstOf [E1, E2, 0, E4] = RR) := Lib.hid (by rw [HF.out, if_pos hq])
      refine Rel.region3 22 (by kernel_rfl) (by kernel_rfl) (by kernel_rfl) ?_
      simp only [List.take_succ_cons, List.take_zero, List.drop_succ_cons, List.drop_zero, List.filterMap_cons, List.filterMap_nil]
      iterate 2 (apply Rel.op3; (focus (first | exact Rel.gno rfl | exact Rel.gyes _ true _ rfl rfl rfl | exact Rel.gyes _ false _ rfl rfl rfl)); (focus (intro a W hb hd hbase; obtain ⟨hc, hf⟩ := bcell hb; clear hb hf; simp [Rel.deps, Rel.dep1, Rel.ons, Region.binds, Act.eval] at hd; simp only [Act.eval, List.mem_cons, List.not_mem_nil, not_or, and_imp, or_false, Array.getD_eq_getD_getElem?] at hbase; go_simp; (try go_bits); (try rfl); done)); (try simp only [List.nil_append, List.cons_append]))
      (apply Rel.call3; (focus (first | exact Rel.gno rfl | exact Rel.gyes _ true _ rfl rfl rfl | exact Rel.gyes _ false _ rfl rfl rfl)); (focus (intro a W hb hd hbase; obtain ⟨hc, hf⟩ := bcell hb; clear hb hf; simp [Rel.deps, Rel.dep1, Rel.ons, Region.binds, Act.eval] at hd; simp only [Act.eval, List.mem_cons, List.not_mem_nil, not_or, and_imp, or_false, Array.getD_eq_getD_getElem?] at hbase; go_simp; refine ⟨?_, ?_⟩; rfl; rfl)); (focus (intro W hb; go_at_call 62; exact (HCH.out W))); (try simp only [List.nil_append, List.cons_append]))
      iterate 6 (apply Rel.op3; (focus (first | exact Rel.gno rfl | exact Rel.gyes _ true _ rfl rfl rfl | exact Rel.gyes _ false _ rfl rfl rfl)); (focus (intro a W hb hd hbase; obtain ⟨hc, hf⟩ := bcell hb; clear hb hf; simp [Rel.deps, Rel.dep1, Rel.ons, Region.binds, Act.eval] at hd; simp only [Act.eval, List.mem_cons, List.not_mem_nil, not_or, and_imp, or_false, Array.getD_eq_getD_getElem?] at hbase; go_simp; (try go_bits); (try rfl); done)); (try simp only [List.nil_append, List.cons_append]))
      (apply Rel.call3; (focus (first | exact Rel.gno rfl | exact Rel.gyes _ true _ rfl rfl rfl | exact Rel.gyes _ false _ rfl rfl rfl)); (focus (intro a W hb hd hbase; obtain ⟨hc, hf⟩ := bcell hb; clear hb hf; simp [Rel.deps, Rel.dep1, Rel.ons, Region.binds, Act.eval] at hd; simp only [Act.eval, List.mem_cons, List.not_mem_nil, not_or, and_imp, or_false, Array.getD_eq_getD_getElem?] at hbase; go_simp; refine ⟨?_, ?_⟩; rfl; rfl)); (focus (intro W hb; go_at_call 66; exact (HWI.out W))); (try simp only [List.nil_append, List.cons_append]))
      iterate 7 (apply Rel.op3; (focus (first | exact Rel.gno rfl | exact Rel.gyes _ true _ rfl rfl rfl | exact Rel.gyes _ false _ rfl rfl rfl)); (focus (intro a W hb hd hbase; obtain ⟨hc, hf⟩ := bcell hb; clear hb hf; simp [Rel.deps, Rel.dep1, Rel.ons, Region.binds, Act.eval] at hd; simp only [Act.eval, List.mem_cons, List.not_mem_nil, not_or, and_imp, or_false, Array.getD_eq_getD_getElem?] at hbase; go_simp; (try go_bits); (try rfl); done)); (try simp only [List.nil_append, List.cons_append]))
      (apply Rel.op3 (.bool false); (focus (first | exact Rel.gno rfl | exact Rel.gyes _ true _ rfl rfl rfl | exact Rel.gyes _ false _ rfl rfl rfl)); (focus (intro a W hb hd hbase; obtain ⟨hc, hf⟩ := bcell hb; clear hb hf; simp [Rel.deps, Rel.dep1, Rel.ons, Region.binds, Act.eval] at hd; simp only [Act.eval, List.mem_cons, List.not_mem_nil, not_or, and_imp, or_false, Array.getD_eq_getD_getElem?] at hbase; go_simp; (try go_bits); (try rfl); done)); (try simp only [List.nil_append, List.cons_append]))
      (apply Rel.call3; (focus (first | exact Rel.gno rfl | exact Rel.gyes _ true _ rfl rfl rfl | exact Rel.gyes _ false _ rfl rfl rfl)); (focus (intro a W hb hd hbase; obtain ⟨hc, hf⟩ := bcell hb; clear hb hf; simp [Rel.deps, Rel.dep1, Rel.ons, Region.binds, Act.eval] at hd; simp only [Act.eval, List.mem_cons, List.not_mem_nil, not_or, and_imp, or_false, Array.getD_eq_getD_getElem?] at hbase; go_simp; refine ⟨?_, ?_⟩; rfl; rfl)); (focus (intro W hb; go_at_call 68; exact (HW0.out W))); (try simp only [List.nil_append, List.cons_append]))
      iterate 2 (apply Rel.op3; (focus (first | exact Rel.gno rfl | exact Rel.gyes _ true _ rfl rfl rfl | exact Rel.gyes _ false _ rfl rfl rfl)); (focus (intro a W hb hd hbase; obtain ⟨hc, hf⟩ := bcell hb; clear hb hf; simp [Rel.deps, Rel.dep1, Rel.ons, Region.binds, Act.eval] at hd; simp only [Act.eval, List.mem_cons, List.not_mem_nil, not_or, and_imp, or_false, Array.getD_eq_getD_getElem?] at hbase; go_simp; (try go_bits); (try rfl); done)); (try simp only [List.nil_append, List.cons_append]))
      (apply Rel.call3; (focus (first | exact Rel.gno rfl | exact Rel.gyes _ true _ rfl rfl rfl | exact Rel.gyes _ false _ rfl rfl rfl)); (focus (intro a W hb hd hbase; obtain ⟨hc, hf⟩ := bcell hb; clear hb hf; simp [Rel.deps, Rel.dep1, Rel.ons, Region.binds, Act.eval] at hd; simp only [Act.eval, List.mem_cons, List.not_mem_nil, not_or, and_imp, or_false, Array.getD_eq_getD_getElem?] at hbase; go_simp; refine ⟨?_, ?_⟩; rfl; rfl)); (focus (intro W hb; go_at_call 71; exact (HEA.out W (HP1.out.below hb)))); (try simp only [List.nil_append, List.cons_append]))
      refine Rel.done3 ?_
      intro x w2 hb2 hx
      simp only [Rel.facts, Nat.zero_add, Nat.reduceAdd] at hx
      obtain ⟨e0, e1, e2, e3, e4, e5, e6, e7, e8, e9, e10, e11, e12, e13, e14, e15, e16, e17, e18, e19, e20, e21, _⟩ := hx
      simp only [Rel.fill, Nat.zero_add, Nat.reduceAdd, e0, e1, e2, e3, e4, e5, e6, e7, e8, e9, e10, e11, e12, e13, e14, e15, e16, e17, e18, e19, e20, e21]
      simp only [Act.put, List.setIfInBounds_toArray, List.set_cons_zero, List.set_cons_succ]
      clear e0 e1 e2 e3 e4 e5 e6 e7 e8 e9 e10 e11 e12 e13 e14 e15 e16 e17 e18 e19 e20 e21
      have HB2 := Lib.hid (HB1.out.trans (hb2.mono HB1.out.size))
      clear hb2 c00 c01 c02 c03 c04 l0 f0 s00 s01 s02 l1 f1
      go_wp2_with (go_at_call 49; refine (HFI.out _ _ _ _ _).mono ?_; rw [HF2.out]; rintro r w5 ⟨rfl, rfl⟩)
      go_ret
      exact ⟨rfl, HB2.out.alloc HB2.out.size _⟩
    · have hqe : ¬ (Q : Int) = (M : Int) - 1 := by omega
      have HF2 : Hid (firstOf [E1, E2, 2, E4] = RR) := Lib.hid (by rw [HF.out, if_neg hq])
      refine Rel.region3 22 (by kernel_rfl) (by kernel_rfl) (by kernel_rfl) ?_
      simp only [List.take_succ_cons, List.take_zero, List.drop_succ_cons, List.drop_zero, List.filterMap_cons, List.filterMap_nil]
      iterate 2 (apply Rel.op3; (focus (first | exact Rel.gno rfl | exact Rel.gyes _ true _ rfl rfl rfl | exact Rel.gyes _ false _ rfl rfl rfl)); (focus (intro a W hb hd hbase; obtain ⟨hc, hf⟩ := bcell hb; clear hb hf; simp [Rel.deps, Rel.dep1, Rel.ons, Region.binds, Act.eval] at hd; simp only [Act.eval, List.mem_cons, List.not_mem_nil, not_or, and_imp, or_false, Array.getD_eq_getD_getElem?] at hbase; go_simp; (try go_bits); (try rfl); done)); (try simp only [List.nil_append, List.cons_append]))
      (apply Rel.call3; (focus (first | exact Rel.gno rfl | exact Rel.gyes _ true _ rfl rfl rfl | exact Rel.gyes _ false _ rfl rfl rfl)); (focus (intro a W hb hd hbase; obtain ⟨hc, hf⟩ := bcell hb; clear hb hf; simp [Rel.deps, Rel.dep1, Rel.ons, Region.binds, Act.eval] at hd; simp only [Act.eval, List.mem_cons, List.not_mem_nil, not_or, and_imp, or_false, Array.getD_eq_getD_getElem?] at hbase; go_simp; refine ⟨?_, ?_⟩; rfl; rfl)); (focus (intro W hb; go_at_call 62; exact (HCH.out W))); (try simp only [List.nil_append, List.cons_append]))
      iterate 6 (apply Rel.op3; (focus (first | exact Rel.gno rfl | exact Rel.gyes _ true _ rfl rfl rfl | exact Rel.gyes _ false _ rfl rfl rfl)); (focus (intro a W hb hd hbase; obtain ⟨hc, hf⟩ := bcell hb; clear hb hf; simp [Rel.deps, Rel.dep1, Rel.ons, Region.binds, Act.eval] at hd; simp only [Act.eval, List.mem_cons, List.not_mem_nil, not_or, and_imp, or_false, Array.getD_eq_getD_getElem?] at hbase; go_simp; (try go_bits); (try rfl); done)); (try simp only [List.nil_append, List.cons_append]))
      (apply Rel.call3; (focus (first | exact Rel.gno rfl | exact Rel.gyes _ true _ rfl rfl rfl | exact Rel.gyes _ false _ rfl rfl rfl)); (focus (intro a W hb hd hbase; obtain ⟨hc, hf⟩ := bcell hb; clear hb hf; simp [Rel.deps, Rel.dep1, Rel.ons, Region.binds, Act.eval] at hd; simp only [Act.eval, List.mem_cons, List.not_mem_nil, not_or, and_imp, or_false, Array.getD_eq_getD_getElem?] at hbase; go_simp; refine ⟨?_, ?_⟩; rfl; rfl)); (focus (intro W hb; go_at_call 66; exact (HWI.out W))); (try simp only [List.nil_append, List.cons_append]))
      iterate 7 (apply Rel.op3; (focus (first | exact Rel.gno rfl | exact Rel.gyes _ true _ rfl rfl rfl | exact Rel.gyes _ false _ rfl rfl rfl)); (focus (intro a W hb hd hbase; obtain ⟨hc, hf⟩ := bcell hb; clear hb hf; simp [Rel.deps, Rel.dep1, Rel.ons, Region.binds, Act.eval] at hd; simp only [Act.eval, List.mem_cons, List.not_mem_nil, not_or, and_imp, or_false, Array.getD_eq_getD_getElem?] at hbase; go_simp; (try go_bits); (try rfl); done)); (try simp only [List.nil_append, List.cons_append]))
      (apply Rel.op3 (.bool true); (focus (first | exact Rel.gno rfl | exact Rel.gyes _ true _ rfl rfl rfl | exact Rel.gyes _ false _ rfl rfl rfl)); (focus (intro a W hb hd hbase; obtain ⟨hc, hf⟩ := bcell hb; clear hb hf; simp [Rel.deps, Rel.dep1, Rel.ons, Region.binds, Act.eval] at hd; simp only [Act.eval, List.mem_cons, List.not_mem_nil, not_or, and_imp, or_false, Array.getD_eq_getD_getElem?] at hbase; go_simp; (try go_bits); (try rfl); done)); (try simp only [List.nil_append, List.cons_append]))
      (apply Rel.call3; (focus (first | exact Rel.gno rfl | exact Rel.gyes _ true _ rfl rfl rfl | exact Rel.gyes _ false _ rfl rfl rfl)); (focus (intro a W hb hd hbase; obtain ⟨hc, hf⟩ := bcell hb; clear hb hf; simp [Rel.deps, Rel.dep1, Rel.ons, Region.binds, Act.eval] at hd; simp only [Act.eval, List.mem_cons, List.not_mem_nil, not_or, and_imp, or_false, Array.getD_eq_getD_getElem?] at hbase; go_simp; refine ⟨?_, ?_⟩; rfl; rfl)); (focus (intro W hb; go_at_call 68; exact (HW2.out W))); (try simp only [List.nil_append, List.cons_append]))
      iterate 2 (apply Rel.op3; (focus (first | exact Rel.gno rfl | exact Rel.gyes _ true _ rfl rfl rfl | exact Rel.gyes _ false _ rfl rfl rfl)); (focus (intro a W hb hd hbase; obtain ⟨hc, hf⟩ := bcell hb; clear hb hf; simp [Rel.deps, Rel.dep1, Rel.ons, Region.binds, Act.eval] at hd; simp only [Act.eval, List.mem_cons, List.not_mem_nil, not_or, and_imp, or_false, Array.getD_eq_getD_getElem?] at hbase; go_simp; (try go_bits); (try rfl); done)); (try simp only [List.nil_append, List.cons_append]))
      (apply Rel.call3; (focus (first | exact Rel.gno rfl | exact Rel.gyes _ true _ rfl rfl rfl | exact Rel.gyes _ false _ rfl rfl rfl)); (focus (intro a W hb hd hbase; obtain ⟨hc, hf⟩ := bcell hb; clear hb hf; simp [Rel.deps, Rel.dep1, Rel.ons, Region.binds, Act.eval] at hd; simp only [Act.eval, List.mem_cons, List.not_mem_nil, not_or, and_imp, or_false, Array.getD_eq_getD_getElem?] at hbase; go_simp; refine ⟨?_, ?_⟩; rfl; rfl)); (focus (intro W hb; go_at_call 71; exact (HEA.out W (HP1.out.below hb)))); (try simp only [List.nil_append, List.cons_append]))
      refine Rel.done3 ?_
      intro x w2 hb2 hx
      simp only [Rel.facts, Nat.zero_add, Nat.reduceAdd] at hx
      obtain ⟨e0, e1, e2, e3, e4, e5, e6, e7, e8, e9, e10, e11, e12, e13, e14, e15, e16, e17, e18, e19, e20, e21, _⟩ := hx
      simp only [Rel.fill, Nat.zero_add, Nat.reduceAdd, e0, e1, e2, e3, e4, e5, e6, e7, e8, e9, e10, e11, e12, e13, e14, e15, e16, e17, e18, e19, e20, e21]
      simp only [Act.put, List.setIfInBounds_toArray, List.set_cons_zero, List.set_cons_succ]
      clear e0 e1 e2 e3 e4 e5 e6 e7 e8 e9 e10 e11 e12 e13 e14 e15 e16 e17 e18 e19 e20 e21
      have HB2 := Lib.hid (HB1.out.trans (hb2.mono HB1.out.size))
      clear hb2 c00 c01 c02 c03 c04 l0 f0 s00 s01 s02 l1 f1
      go_wp2_with (go_at_call 49; refine (HFI.out _ _ _ _ _).mono ?_; rw [HF2.out]; rintro r w5 ⟨rfl, rfl⟩)
      go_ret
      exact ⟨rfl, HB2.out.alloc HB2.out.size _⟩
  · have hst := HST.out.2 he
    rw [hst]
    clear hM hL hQ hT hG hP hE hR HST hval hst
    go_enter Tryz.func50, Tryz.ntmps50
    go_wp2_with (go_at_call 35; refine (HCG.out _ (HT.out.below (by (repeat (first | (with_reducible exact Below.refl _ _) | ((with_reducible refine Below.setCell ?_ ?_ _); rotate_left 1; focus (first | (simp; done) | (simp; omega) | (simp at *; omega))) | ((with_reducible refine Below.alloc ?_ ?_ _); rotate_left 1; focus (first | (simp; done) | (simp; omega) | (simp at *; omega))) | (with_reducible refine Below.drew ?_) | ((with_reducible refine Calm.step (by assumption) ?_ ?_); rotate_left 1; focus (first | (simp; done) | (simp; omega) | (simp at *; omega))))))) (HG.out.below (by (repeat (first | (with_reducible exact Below.refl _ _) | ((with_reducible refine Below.setCell ?_ ?_ _); rotate_left 1; focus (first | (simp; done) | (simp; omega) | (simp at *; omega))) | ((with_reducible refine Below.alloc ?_ ?_ _); rotate_left 1; focus (first | (simp; done) | (simp; omega) | (simp at *; omega))) | (with_reducible refine Below.drew ?_) | ((with_reducible refine Calm.step (by assumption) ?_ ?_); rotate_left 1; focus (first | (simp; done) | (simp; omega) | (simp at *; omega)))))))).mono ?_; rintro r w1 ⟨rfl, hb1⟩; have HB1 := Lib.hid (show Below w.heap.size w w1 from Below.trans (by (repeat (first | (with_reducible exact Below.refl _ _) | ((with_reducible refine Below.setCell ?_ ?_ _); rotate_left 1; focus (first | (simp; done) | (simp; omega) | (simp at *; omega))) | ((with_reducible refine Below.alloc ?_ ?_ _); rotate_left 1; focus (first | (simp; done) | (simp; omega) | (simp at *; omega))) | (with_reducible refine Below.drew ?_) | ((with_reducible refine Calm.step (by assumption) ?_ ?_); rotate_left 1; focus (first | (simp; done) | (simp; omega) | (simp at *; omega)))))) (hb1.mono (by simp; omega))); clear hb1)
    go_ret
    exact ⟨rfl, HB1.out⟩
end Go.Proofs.YtdeapbihbhoefaaGreatDoor

/- Contracts of Begin, safe, Safe, Tails. -/
namespace Go.Proofs.YtdeapbihbhoefaaGreatDoor
open Go.RowKit
open Calm (bcell Blk)

/-- a valid guard and state. -/
structure StV (lk ht rc : Int) (ts gs : List Int) (h lv : Int) (ps : List Int) : Prop where
  g : guardErr lk ht rc ts gs = 0
  v : Valid lk ht rc ts gs
  h : 0 ≤ h ∧ h ≤ 536870912
  lv : 0 ≤ lv ∧ lv < gs.length
  pl : ts.length = ps.length + 1
  pb : inB 2048 ps
theorem stErr_zero {lk ht rc h lv : Int} {ts gs ps : List Int} (e : stErr lk ht rc ts gs h lv ps = 0) : StV lk ht rc ts gs h lv ps := by
  unfold stErr at e
  split at e
  · rename_i hg
    have h2 := firstOf_eq_zero.1 e
    have k1 := rangeErr_zero.1 (h2 (rangeErr h 0 536870912) (by simp))
    have k2 := rangeErr_zero.1 (h2 (rangeErr lv 0 ((gs.length : Int) - 1)) (by simp))
    have k3 := h2 (if ps.length + 1 = ts.length then 0 else 2) (by simp)
    have k4 := eachErr_zero.1 (h2 (eachErr ps (-2048) 2048) (by simp))
    refine ⟨hg, guard_valid hg, k1, ⟨k2.1, by omega⟩, ?_, k4⟩
    split at k3
    · rename_i h3; exact h3.symm
    · simp at k3
  · rename_i hg; exact absurd e hg
theorem stErr_ok {lk ht rc h lv : Int} {ts gs ps : List Int} (s : StV lk ht rc ts gs h lv ps) : stErr lk ht rc ts gs h lv ps = 0 := by
  unfold stErr stErr2
  rw [if_pos s.g, rangeErr_in s.h.1 s.h.2, rangeErr_in s.lv.1 (by have := s.lv.2; omega), if_pos s.pl.symm, eachErr_zero.2 s.pb]
  rfl

set_option maxHeartbeats 1000000 in
theorem Begin_bad (lk ht rc : Int) (ts gs : List Int) (A1 A2 : Option Addr) (M L c1 c2 : Nat) (w : World) (hM : M = ts.length) (hL : L = gs.length) (hT : Cells w A1 ts) (hG : Cells w A2 gs) (h1 : M ≤ 1000) (h2 : L ≤ 1000) (he : guardErr lk ht rc ts gs ≠ 0) :
    Calls Tryz.prog 22 #[.agg #[(.int .i64 lk), (.int .i64 ht), .slice A1 M c1, (.int .i64 rc), .slice A2 L c2]] w fun r w' => r = .returned (.tuple #[.agg #[(.int .i64 0), (.int .i64 0), .slice none 0 0], (.int .i64 (guardErr lk ht rc ts gs))]) ∧ Below w.heap.size w w' := by
  have HCG : Hid (∀ W, Cells W A1 ts → Cells W A2 gs → Calls Tryz.prog 35 #[.agg #[(.int .i64 lk), (.int .i64 ht), .slice A1 M c1, (.int .i64 rc), .slice A2 L c2]] W fun r w' => r = .returned (.int .i64 (guardErr lk ht rc ts gs)) ∧ Below W.heap.size W w') := Lib.hid (fun W q1 q2 => by rw [hM, hL]; exact checkGuard_any lk ht rc ts gs A1 A2 c1 c2 W q1 q2 (by omega) (by omega))
  have HT := Lib.hid hT
  have HG := Lib.hid hG
  obtain ⟨E, hE⟩ : ∃ E, E = guardErr lk ht rc ts gs := ⟨_, rfl⟩
  rw [← hE] at HCG he ⊢
  clear hM hL hT hG hE
  go_enter Tryz.func22, Tryz.ntmps22
  go_wp2_with (go_at_call 35; refine (HCG.out _ (HT.out.below (by (repeat (first | (with_reducible exact Below.refl _ _) | ((with_reducible refine Below.setCell ?_ ?_ _); rotate_left 1; focus (first | (simp; done) | (simp; omega) | (simp at *; omega))) | ((with_reducible refine Below.alloc ?_ ?_ _); rotate_left 1; focus (first | (simp; done) | (simp; omega) | (simp at *; omega))) | (with_reducible refine Below.drew ?_) | ((with_reducible refine Calm.step (by assumption) ?_ ?_); rotate_left 1; focus (first | (simp; done) | (simp; omega) | (simp at *; omega))))))) (HG.out.below (by (repeat (first | (with_reducible exact Below.refl _ _) | ((with_reducible refine Below.setCell ?_ ?_ _); rotate_left 1; focus (first | (simp; done) | (simp; omega) | (simp at *; omega))) | ((with_reducible refine Below.alloc ?_ ?_ _); rotate_left 1; focus (first | (simp; done) | (simp; omega) | (simp at *; omega))) | (with_reducible refine Below.drew ?_) | ((with_reducible refine Calm.step (by assumption) ?_ ?_); rotate_left 1; focus (first | (simp; done) | (simp; omega) | (simp at *; omega)))))))).mono ?_; rintro r w1 ⟨rfl, hb1⟩; have HB1 := Lib.hid (show Below w.heap.size w w1 from Below.trans (by (repeat (first | (with_reducible exact Below.refl _ _) | ((with_reducible refine Below.setCell ?_ ?_ _); rotate_left 1; focus (first | (simp; done) | (simp; omega) | (simp at *; omega))) | ((with_reducible refine Below.alloc ?_ ?_ _); rotate_left 1; focus (first | (simp; done) | (simp; omega) | (simp at *; omega))) | (with_reducible refine Below.drew ?_) | ((with_reducible refine Calm.step (by assumption) ?_ ?_); rotate_left 1; focus (first | (simp; done) | (simp; omega) | (simp at *; omega)))))) (hb1.mono (by simp; omega))); have S1 := Lib.hid (show Blk w1 (w.heap.size + 1) #[(.int .i64 0), (.int .i64 0), .slice none 0 0] from Blk.below (by (repeat (first | ((with_reducible refine Blk.at_ ?_); focus (first | rfl | (simp; done) | (simp; omega))) | (with_reducible refine Blk.alloc ?_ _) | (with_reducible refine Blk.below ?_ (by with_reducible assumption)) | (with_reducible refine Blk.drew ?_)))) hb1); obtain ⟨s0, s1, s2, l1, f1⟩ := S1.out.o3; clear hb1)
  have K := ((S1.out.set (i := 0) (by simp) (.int .i64 0)).set (i := 1) (by simp) (.int .i64 0)).set (i := 2) (by simp) (.slice none 0 0)
  obtain ⟨k0, k1, k2, _, _⟩ := K.o3
  refine bodyPost_ret (v := .tuple #[.agg #[(.int .i64 0), (.int .i64 0), .slice none 0 0], (.int .i64 E)]) ?_ rfl ⟨rfl, ?_⟩
  · simp [results, Tryz.results22, go_sem, k0, k1, k2]
  · exact ((HB1.out.setCell (by simp) _).setCell (by simp) _).setCell (by simp) _

set_option maxHeartbeats 1000000 in
theorem Begin_ok (lk ht rc : Int) (ts gs : List Int) (A1 A2 : Option Addr) (M L c1 c2 : Nat) (w : World) (hM : M = ts.length) (hL : L = gs.length) (hT : Cells w A1 ts) (hG : Cells w A2 gs) (h1 : M ≤ 1000) (h2 : L ≤ 1000) (he : guardErr lk ht rc ts gs = 0) :
    Calls Tryz.prog 22 #[.agg #[(.int .i64 lk), (.int .i64 ht), .slice A1 M c1, (.int .i64 rc), .slice A2 L c2]] w fun r w' => (∃ B, w.heap.size ≤ B.block ∧ r = .returned (.tuple #[.agg #[(.int .i64 0), (.int .i64 (((L - 1 : Nat) : Int))), .slice (some B) (M - 1) (M - 1)], (.int .i64 0)]) ∧ Cells w' (some B) (List.replicate (M - 1) 0) ∧ IntRow w' B) ∧ Below w.heap.size w w' := by
  have hV := guard_valid he
  have htl := hV.tl
  have hgl := hV.gl
  have HCG : Hid (∀ W, Cells W A1 ts → Cells W A2 gs → Calls Tryz.prog 35 #[.agg #[(.int .i64 lk), (.int .i64 ht), .slice A1 M c1, (.int .i64 rc), .slice A2 L c2]] W fun r w' => r = .returned (.int .i64 0) ∧ Below W.heap.size W w') := Lib.hid (fun W q1 q2 => by
    have := checkGuard_any lk ht rc ts gs A1 A2 c1 c2 W q1 q2 (by omega) (by omega)
    rwa [← hM, ← hL, he] at this)
  have HRS : Hid (∀ W, Calls Tryz.prog 55 #[.agg #[(.int .i64 lk), (.int .i64 ht), .slice A1 M c1, (.int .i64 rc), .slice A2 L c2]] W fun r w' => (∃ B, W.heap.size ≤ B.block ∧ r = .returned (.agg #[(.int .i64 0), (.int .i64 (((L - 1 : Nat) : Int))), .slice (some B) (M - 1) (M - 1)]) ∧ Cells w' (some B) (List.replicate (M - 1) 0) ∧ IntRow w' B) ∧ Below W.heap.size W w') := Lib.hid (fun W => rest_typed lk ht rc A1 A2 M c1 L c2 W (by omega) (by omega))
  have HT := Lib.hid hT
  have HG := Lib.hid hG
  clear hM hL hT hG he hV htl hgl
  go_enter Tryz.func22, Tryz.ntmps22
  go_wp2_with (first
    | (go_at_call 35; refine (HCG.out _ (HT.out.below (by (repeat (first | (with_reducible exact Below.refl _ _) | ((with_reducible refine Below.setCell ?_ ?_ _); rotate_left 1; focus (first | (simp; done) | (simp; omega) | (simp at *; omega))) | ((with_reducible refine Below.alloc ?_ ?_ _); rotate_left 1; focus (first | (simp; done) | (simp; omega) | (simp at *; omega))) | (with_reducible refine Below.drew ?_) | ((with_reducible refine Calm.step (by assumption) ?_ ?_); rotate_left 1; focus (first | (simp; done) | (simp; omega) | (simp at *; omega))))))) (HG.out.below (by (repeat (first | (with_reducible exact Below.refl _ _) | ((with_reducible refine Below.setCell ?_ ?_ _); rotate_left 1; focus (first | (simp; done) | (simp; omega) | (simp at *; omega))) | ((with_reducible refine Below.alloc ?_ ?_ _); rotate_left 1; focus (first | (simp; done) | (simp; omega) | (simp at *; omega))) | (with_reducible refine Below.drew ?_) | ((with_reducible refine Calm.step (by assumption) ?_ ?_); rotate_left 1; focus (first | (simp; done) | (simp; omega) | (simp at *; omega)))))))).mono ?_; rintro r w1 ⟨rfl, hb1⟩; have HB1 := Lib.hid (show Below w.heap.size w w1 from Below.trans (by (repeat (first | (with_reducible exact Below.refl _ _) | ((with_reducible refine Below.setCell ?_ ?_ _); rotate_left 1; focus (first | (simp; done) | (simp; omega) | (simp at *; omega))) | ((with_reducible refine Below.alloc ?_ ?_ _); rotate_left 1; focus (first | (simp; done) | (simp; omega) | (simp at *; omega))) | (with_reducible refine Below.drew ?_) | ((with_reducible refine Calm.step (by assumption) ?_ ?_); rotate_left 1; focus (first | (simp; done) | (simp; omega) | (simp at *; omega)))))) (hb1.mono (by simp; omega))); have G1 := Lib.hid (show Blk w1 w.heap.size #[(.int .i64 lk), (.int .i64 ht), .slice A1 M c1, (.int .i64 rc), .slice A2 L c2] from Blk.below (by (repeat (first | ((with_reducible refine Blk.at_ ?_); focus (first | rfl | (simp; done) | (simp; omega))) | (with_reducible refine Blk.alloc ?_ _) | (with_reducible refine Blk.below ?_ (by with_reducible assumption)) | (with_reducible refine Blk.drew ?_)))) hb1); obtain ⟨g0, g1, g2, g3, g4, gl, gf⟩ := G1.out.o5; have S1 := Lib.hid (show Blk w1 (w.heap.size + 1) #[(.int .i64 0), (.int .i64 0), .slice none 0 0] from Blk.below (by (repeat (first | ((with_reducible refine Blk.at_ ?_); focus (first | rfl | (simp; done) | (simp; omega))) | (with_reducible refine Blk.alloc ?_ _) | (with_reducible refine Blk.below ?_ (by with_reducible assumption)) | (with_reducible refine Blk.drew ?_)))) hb1); clear hb1)
    | (go_at_call 55; refine (HRS.out _).mono ?_; rintro r w2 ⟨⟨B, hBb, rfl, hC2, hI2⟩, hb2⟩; have HI2 := Lib.hid hI2; clear hI2; have HB2 := Lib.hid (HB1.out.trans (hb2.mono HB1.out.size)); have S2 := Lib.hid (S1.out.below hb2); have hs1 := HB1.out.size; have hl1 := S1.out.lt; obtain ⟨s0, s1, s2, l1, f1⟩ := S2.out.o3; have HC2 := Lib.hid hC2; clear hC2 hb2 g0 g1 g2 g3 g4 gl gf))
  have K := ((S2.out.set (i := 0) (by simp) (.int .i64 0)).set (i := 1) (by simp) (.int .i64 (((L - 1 : Nat) : Int)))).set (i := 2) (by simp) (.slice (some B) (M - 1) (M - 1))
  obtain ⟨k0, k1, k2, _, _⟩ := K.o3
  have hne : 0 < M - 1 → B.block ≠ w.heap.size + 1 := fun h => by
    obtain ⟨b, o, e, hl, _⟩ := HC2.out (by simpa using h)
    have : B.block = b := by cases e; rfl
    omega
  refine bodyPost_ret (v := .tuple #[.agg #[(.int .i64 0), (.int .i64 (((L - 1 : Nat) : Int))), .slice (some B) (M - 1) (M - 1)], (.int .i64 0)]) ?_ rfl ⟨⟨B, by omega, rfl, ?_, ?_⟩, ?_⟩
  · simp [results, Tryz.results22, go_sem, k0, k1, k2]
  · exact ((HC2.out.sets (g := w.heap.size + 1) (by intro h p hp; cases hp; exact hne (by simpa using h)) 0 _).sets (by intro h p hp; cases hp; exact hne (by simpa using h)) 1 _).sets (by intro h p hp; cases hp; exact hne (by simpa using h)) 2 _
  · have hne2 : B.block ≠ w.heap.size + 1 := by omega
    exact ((HI2.out.sets hne2 0 _).sets hne2 1 _).sets hne2 2 _
  · exact ((HB2.out.setCell (by simp) _).setCell (by simp) _).setCell (by simp) _
end Go.Proofs.YtdeapbihbhoefaaGreatDoor

/- Contracts of safe, Safe, Tails. -/
namespace Go.Proofs.YtdeapbihbhoefaaGreatDoor
open Go.RowKit
open Calm (bcell Blk)

set_option maxHeartbeats 1000000 in
theorem safe_any (lk ht rc h lv : Int) (ts gs ps : List Int) (A1 A2 A3 : Option Addr) (M L Q c1 c2 c3 : Nat) (w : World) (hM : M = ts.length) (hQ : Q = ps.length) (hLim : Lim w) (hV : Valid lk ht rc ts gs) (hh : 0 ≤ h ∧ h ≤ 1099511627776) (hpl : ts.length = ps.length + 1) (hpb : inB 2048 ps) (hT : Cells w A1 ts) (hP : Cells w A3 ps) :
    Calls Tryz.prog 53 #[.agg #[(.int .i64 lk), (.int .i64 ht), .slice A1 M c1, (.int .i64 rc), .slice A2 L c2], .agg #[(.int .i64 h), (.int .i64 lv), .slice A3 Q c3]] w fun r w' => r = .returned (.bool (fineF ht rc h 0 ts ps)) ∧ Below w.heap.size w w' := by
  have htl := hV.tl
  have HFI : Hid (∀ W, Lim W → Cells W A1 ts → Cells W A3 ps → Calls Tryz.prog 80 #[.agg #[(.int .i64 lk), (.int .i64 ht), .slice A1 M c1, (.int .i64 rc), .slice A2 L c2], .agg #[(.int .i64 h), (.int .i64 lv), .slice A3 Q c3], (.int .i64 0)] W fun r w' => r = .returned (.bool (fineF ht rc h 0 ts ps)) ∧ Below W.heap.size W w') := Lib.hid (fun W q0 q1 q2 => by
    rw [hM, hQ]
    exact fine_any lk ht rc h lv 0 ts ps A1 A2 A3 c1 L c2 c3 W q0 hV.lk hh q1 q2 hpl (by omega) hV.tb hpb (by omega))
  have HT := Lib.hid hT
  have HP := Lib.hid hP
  have HL := Lib.hid hLim
  obtain ⟨F, hF⟩ : ∃ F, F = fineF ht rc h 0 ts ps := ⟨_, rfl⟩
  rw [← hF] at HFI ⊢
  clear hM hQ hLim hV hh hpl hpb hT hP hF htl
  go_enter Tryz.func53, Tryz.ntmps53
  go_wp2_with (go_at_call 80; refine (HFI.out _ (HL.out.below (by (repeat (first | (with_reducible exact Below.refl _ _) | ((with_reducible refine Below.setCell ?_ ?_ _); rotate_left 1; focus (first | (simp; done) | (simp; omega) | (simp at *; omega))) | ((with_reducible refine Below.alloc ?_ ?_ _); rotate_left 1; focus (first | (simp; done) | (simp; omega) | (simp at *; omega))) | (with_reducible refine Below.drew ?_) | ((with_reducible refine Calm.step (by assumption) ?_ ?_); rotate_left 1; focus (first | (simp; done) | (simp; omega) | (simp at *; omega))))))) (HT.out.below (by (repeat (first | (with_reducible exact Below.refl _ _) | ((with_reducible refine Below.setCell ?_ ?_ _); rotate_left 1; focus (first | (simp; done) | (simp; omega) | (simp at *; omega))) | ((with_reducible refine Below.alloc ?_ ?_ _); rotate_left 1; focus (first | (simp; done) | (simp; omega) | (simp at *; omega))) | (with_reducible refine Below.drew ?_) | ((with_reducible refine Calm.step (by assumption) ?_ ?_); rotate_left 1; focus (first | (simp; done) | (simp; omega) | (simp at *; omega))))))) (HP.out.below (by (repeat (first | (with_reducible exact Below.refl _ _) | ((with_reducible refine Below.setCell ?_ ?_ _); rotate_left 1; focus (first | (simp; done) | (simp; omega) | (simp at *; omega))) | ((with_reducible refine Below.alloc ?_ ?_ _); rotate_left 1; focus (first | (simp; done) | (simp; omega) | (simp at *; omega))) | (with_reducible refine Below.drew ?_) | ((with_reducible refine Calm.step (by assumption) ?_ ?_); rotate_left 1; focus (first | (simp; done) | (simp; omega) | (simp at *; omega)))))))).mono ?_; rintro r w1 ⟨rfl, hb1⟩; have HB1 := Lib.hid (show Below w.heap.size w w1 from Below.trans (by (repeat (first | (with_reducible exact Below.refl _ _) | ((with_reducible refine Below.setCell ?_ ?_ _); rotate_left 1; focus (first | (simp; done) | (simp; omega) | (simp at *; omega))) | ((with_reducible refine Below.alloc ?_ ?_ _); rotate_left 1; focus (first | (simp; done) | (simp; omega) | (simp at *; omega))) | (with_reducible refine Below.drew ?_) | ((with_reducible refine Calm.step (by assumption) ?_ ?_); rotate_left 1; focus (first | (simp; done) | (simp; omega) | (simp at *; omega)))))) (hb1.mono (by simp; omega))))
  go_ret
  exact ⟨rfl, HB1.out⟩

set_option maxHeartbeats 1000000 in
theorem Safe_bad (lk ht rc h lv : Int) (ts gs ps : List Int) (A1 A2 A3 : Option Addr) (M L Q c1 c2 c3 : Nat) (w : World) (hM : M = ts.length) (hL : L = gs.length) (hQ : Q = ps.length) (hLim : Lim w) (hT : Cells w A1 ts) (hG : Cells w A2 gs) (hP : Cells w A3 ps) (h1 : M ≤ 1000) (h2 : L ≤ 1000) (h3 : Q ≤ 1000) (he : stErr lk ht rc ts gs h lv ps ≠ 0) :
    Calls Tryz.prog 19 #[.agg #[(.int .i64 lk), (.int .i64 ht), .slice A1 M c1, (.int .i64 rc), .slice A2 L c2], .agg #[(.int .i64 h), (.int .i64 lv), .slice A3 Q c3]] w fun r w' => r = .returned (.tuple #[.bool false, (.int .i64 (stErr lk ht rc ts gs h lv ps))]) ∧ Below w.heap.size w w' := by
  have HCS : Hid (∀ W, Cells W A1 ts → Cells W A2 gs → Cells W A3 ps → Calls Tryz.prog 50 #[.agg #[(.int .i64 lk), (.int .i64 ht), .slice A1 M c1, (.int .i64 rc), .slice A2 L c2], .agg #[(.int .i64 h), (.int .i64 lv), .slice A3 Q c3]] W fun r w' => r = .returned (.int .i64 (stErr lk ht rc ts gs h lv ps)) ∧ Below W.heap.size W w') := Lib.hid (fun W q1 q2 q3 => checkState_any lk ht rc h lv ts gs ps A1 A2 A3 M L Q c1 c2 c3 W hM hL hQ q1 q2 q3 h1 h2 h3)
  have HT := Lib.hid hT
  have HG := Lib.hid hG
  have HP := Lib.hid hP
  obtain ⟨E, hE⟩ : ∃ E, E = stErr lk ht rc ts gs h lv ps := ⟨_, rfl⟩
  rw [← hE] at HCS he ⊢
  clear hM hL hQ hLim hT hG hP hE
  go_enter Tryz.func19, Tryz.ntmps19
  go_wp2_with (go_at_call 50; refine (HCS.out _ (HT.out.below (by (repeat (first | (with_reducible exact Below.refl _ _) | ((with_reducible refine Below.setCell ?_ ?_ _); rotate_left 1; focus (first | (simp; done) | (simp; omega) | (simp at *; omega))) | ((with_reducible refine Below.alloc ?_ ?_ _); rotate_left 1; focus (first | (simp; done) | (simp; omega) | (simp at *; omega))) | (with_reducible refine Below.drew ?_) | ((with_reducible refine Calm.step (by assumption) ?_ ?_); rotate_left 1; focus (first | (simp; done) | (simp; omega) | (simp at *; omega))))))) (HG.out.below (by (repeat (first | (with_reducible exact Below.refl _ _) | ((with_reducible refine Below.setCell ?_ ?_ _); rotate_left 1; focus (first | (simp; done) | (simp; omega) | (simp at *; omega))) | ((with_reducible refine Below.alloc ?_ ?_ _); rotate_left 1; focus (first | (simp; done) | (simp; omega) | (simp at *; omega))) | (with_reducible refine Below.drew ?_) | ((with_reducible refine Calm.step (by assumption) ?_ ?_); rotate_left 1; focus (first | (simp; done) | (simp; omega) | (simp at *; omega))))))) (HP.out.below (by (repeat (first | (with_reducible exact Below.refl _ _) | ((with_reducible refine Below.setCell ?_ ?_ _); rotate_left 1; focus (first | (simp; done) | (simp; omega) | (simp at *; omega))) | ((with_reducible refine Below.alloc ?_ ?_ _); rotate_left 1; focus (first | (simp; done) | (simp; omega) | (simp at *; omega))) | (with_reducible refine Below.drew ?_) | ((with_reducible refine Calm.step (by assumption) ?_ ?_); rotate_left 1; focus (first | (simp; done) | (simp; omega) | (simp at *; omega)))))))).mono ?_; rintro r w1 ⟨rfl, hb1⟩; have HB1 := Lib.hid (show Below w.heap.size w w1 from Below.trans (by (repeat (first | (with_reducible exact Below.refl _ _) | ((with_reducible refine Below.setCell ?_ ?_ _); rotate_left 1; focus (first | (simp; done) | (simp; omega) | (simp at *; omega))) | ((with_reducible refine Below.alloc ?_ ?_ _); rotate_left 1; focus (first | (simp; done) | (simp; omega) | (simp at *; omega))) | (with_reducible refine Below.drew ?_) | ((with_reducible refine Calm.step (by assumption) ?_ ?_); rotate_left 1; focus (first | (simp; done) | (simp; omega) | (simp at *; omega)))))) (hb1.mono (by simp; omega))); clear hb1)
  exact bodyPost_ret (v := .tuple #[.bool false, (.int .i64 E)]) (by simp [results, Tryz.results19, go_sem]) rfl ⟨rfl, HB1.out⟩

set_option maxHeartbeats 1000000 in
theorem Tails_bad (lk ht rc h lv : Int) (ts gs ps : List Int) (A1 A2 A3 : Option Addr) (M L Q c1 c2 c3 : Nat) (w : World) (hM : M = ts.length) (hL : L = gs.length) (hQ : Q = ps.length) (hLim : Lim w) (hT : Cells w A1 ts) (hG : Cells w A2 gs) (hP : Cells w A3 ps) (h1 : M ≤ 1000) (h2 : L ≤ 1000) (h3 : Q ≤ 1000) (he : stErr lk ht rc ts gs h lv ps ≠ 0) :
    Calls Tryz.prog 20 #[.agg #[(.int .i64 lk), (.int .i64 ht), .slice A1 M c1, (.int .i64 rc), .slice A2 L c2], .agg #[(.int .i64 h), (.int .i64 lv), .slice A3 Q c3]] w fun r w' => r = .returned (.tuple #[.slice none 0 0, (.int .i64 (stErr lk ht rc ts gs h lv ps))]) ∧ Below w.heap.size w w' := by
  have HCS : Hid (∀ W, Cells W A1 ts → Cells W A2 gs → Cells W A3 ps → Calls Tryz.prog 50 #[.agg #[(.int .i64 lk), (.int .i64 ht), .slice A1 M c1, (.int .i64 rc), .slice A2 L c2], .agg #[(.int .i64 h), (.int .i64 lv), .slice A3 Q c3]] W fun r w' => r = .returned (.int .i64 (stErr lk ht rc ts gs h lv ps)) ∧ Below W.heap.size W w') := Lib.hid (fun W q1 q2 q3 => checkState_any lk ht rc h lv ts gs ps A1 A2 A3 M L Q c1 c2 c3 W hM hL hQ q1 q2 q3 h1 h2 h3)
  have HT := Lib.hid hT
  have HG := Lib.hid hG
  have HP := Lib.hid hP
  obtain ⟨E, hE⟩ : ∃ E, E = stErr lk ht rc ts gs h lv ps := ⟨_, rfl⟩
  rw [← hE] at HCS he ⊢
  clear hM hL hQ hLim hT hG hP hE
  go_enter Tryz.func20, Tryz.ntmps20
  go_wp2_with (go_at_call 50; refine (HCS.out _ (HT.out.below (by (repeat (first | (with_reducible exact Below.refl _ _) | ((with_reducible refine Below.setCell ?_ ?_ _); rotate_left 1; focus (first | (simp; done) | (simp; omega) | (simp at *; omega))) | ((with_reducible refine Below.alloc ?_ ?_ _); rotate_left 1; focus (first | (simp; done) | (simp; omega) | (simp at *; omega))) | (with_reducible refine Below.drew ?_) | ((with_reducible refine Calm.step (by assumption) ?_ ?_); rotate_left 1; focus (first | (simp; done) | (simp; omega) | (simp at *; omega))))))) (HG.out.below (by (repeat (first | (with_reducible exact Below.refl _ _) | ((with_reducible refine Below.setCell ?_ ?_ _); rotate_left 1; focus (first | (simp; done) | (simp; omega) | (simp at *; omega))) | ((with_reducible refine Below.alloc ?_ ?_ _); rotate_left 1; focus (first | (simp; done) | (simp; omega) | (simp at *; omega))) | (with_reducible refine Below.drew ?_) | ((with_reducible refine Calm.step (by assumption) ?_ ?_); rotate_left 1; focus (first | (simp; done) | (simp; omega) | (simp at *; omega))))))) (HP.out.below (by (repeat (first | (with_reducible exact Below.refl _ _) | ((with_reducible refine Below.setCell ?_ ?_ _); rotate_left 1; focus (first | (simp; done) | (simp; omega) | (simp at *; omega))) | ((with_reducible refine Below.alloc ?_ ?_ _); rotate_left 1; focus (first | (simp; done) | (simp; omega) | (simp at *; omega))) | (with_reducible refine Below.drew ?_) | ((with_reducible refine Calm.step (by assumption) ?_ ?_); rotate_left 1; focus (first | (simp; done) | (simp; omega) | (simp at *; omega)))))))).mono ?_; rintro r w1 ⟨rfl, hb1⟩; have HB1 := Lib.hid (show Below w.heap.size w w1 from Below.trans (by (repeat (first | (with_reducible exact Below.refl _ _) | ((with_reducible refine Below.setCell ?_ ?_ _); rotate_left 1; focus (first | (simp; done) | (simp; omega) | (simp at *; omega))) | ((with_reducible refine Below.alloc ?_ ?_ _); rotate_left 1; focus (first | (simp; done) | (simp; omega) | (simp at *; omega))) | (with_reducible refine Below.drew ?_) | ((with_reducible refine Calm.step (by assumption) ?_ ?_); rotate_left 1; focus (first | (simp; done) | (simp; omega) | (simp at *; omega)))))) (hb1.mono (by simp; omega))); clear hb1)
  exact bodyPost_ret (v := .tuple #[.slice none 0 0, (.int .i64 E)]) (by simp [results, Tryz.results20, go_sem]) rfl ⟨rfl, HB1.out⟩

set_option maxHeartbeats 1000000 in
theorem Safe_ok (lk ht rc h lv : Int) (ts gs ps : List Int) (A1 A2 A3 : Option Addr) (M L Q c1 c2 c3 : Nat) (w : World) (hM : M = ts.length) (hL : L = gs.length) (hQ : Q = ps.length) (hLim : Lim w) (hT : Cells w A1 ts) (hG : Cells w A2 gs) (hP : Cells w A3 ps) (h1 : M ≤ 1000) (h2 : L ≤ 1000) (h3 : Q ≤ 1000) (he : stErr lk ht rc ts gs h lv ps = 0) :
    Calls Tryz.prog 19 #[.agg #[(.int .i64 lk), (.int .i64 ht), .slice A1 M c1, (.int .i64 rc), .slice A2 L c2], .agg #[(.int .i64 h), (.int .i64 lv), .slice A3 Q c3]] w fun r w' => r = .returned (.tuple #[.bool (fineF ht rc h 0 ts ps), (.int .i64 0)]) ∧ Below w.heap.size w w' := by
  have hS := stErr_zero he
  have HCS : Hid (∀ W, Cells W A1 ts → Cells W A2 gs → Cells W A3 ps → Calls Tryz.prog 50 #[.agg #[(.int .i64 lk), (.int .i64 ht), .slice A1 M c1, (.int .i64 rc), .slice A2 L c2], .agg #[(.int .i64 h), (.int .i64 lv), .slice A3 Q c3]] W fun r w' => r = .returned (.int .i64 0) ∧ Below W.heap.size W w') := Lib.hid (fun W q1 q2 q3 => by
    have := checkState_any lk ht rc h lv ts gs ps A1 A2 A3 M L Q c1 c2 c3 W hM hL hQ q1 q2 q3 h1 h2 h3
    rwa [he] at this)
  have HSF : Hid (∀ W, Lim W → Cells W A1 ts → Cells W A3 ps → Calls Tryz.prog 53 #[.agg #[(.int .i64 lk), (.int .i64 ht), .slice A1 M c1, (.int .i64 rc), .slice A2 L c2], .agg #[(.int .i64 h), (.int .i64 lv), .slice A3 Q c3]] W fun r w' => r = .returned (.bool (fineF ht rc h 0 ts ps)) ∧ Below W.heap.size W w') := Lib.hid (fun W q0 q1 q2 => safe_any lk ht rc h lv ts gs ps A1 A2 A3 M L Q c1 c2 c3 W hM hQ q0 hS.v ⟨hS.h.1, by have := hS.h.2; omega⟩ hS.pl hS.pb q1 q2)
  have HT := Lib.hid hT
  have HG := Lib.hid hG
  have HP := Lib.hid hP
  have HL := Lib.hid hLim
  obtain ⟨F, hF⟩ : ∃ F, F = fineF ht rc h 0 ts ps := ⟨_, rfl⟩
  rw [← hF] at HSF ⊢
  clear hM hL hQ hLim hT hG hP he hS hF
  go_enter Tryz.func19, Tryz.ntmps19
  go_wp2_with (first
    | (go_at_call 50; refine (HCS.out _ (HT.out.below (by (repeat (first | (with_reducible exact Below.refl _ _) | ((with_reducible refine Below.setCell ?_ ?_ _); rotate_left 1; focus (first | (simp; done) | (simp; omega) | (simp at *; omega))) | ((with_reducible refine Below.alloc ?_ ?_ _); rotate_left 1; focus (first | (simp; done) | (simp; omega) | (simp at *; omega))) | (with_reducible refine Below.drew ?_) | ((with_reducible refine Calm.step (by assumption) ?_ ?_); rotate_left 1; focus (first | (simp; done) | (simp; omega) | (simp at *; omega))))))) (HG.out.below (by (repeat (first | (with_reducible exact Below.refl _ _) | ((with_reducible refine Below.setCell ?_ ?_ _); rotate_left 1; focus (first | (simp; done) | (simp; omega) | (simp at *; omega))) | ((with_reducible refine Below.alloc ?_ ?_ _); rotate_left 1; focus (first | (simp; done) | (simp; omega) | (simp at *; omega))) | (with_reducible refine Below.drew ?_) | ((with_reducible refine Calm.step (by assumption) ?_ ?_); rotate_left 1; focus (first | (simp; done) | (simp; omega) | (simp at *; omega))))))) (HP.out.below (by (repeat (first | (with_reducible exact Below.refl _ _) | ((with_reducible refine Below.setCell ?_ ?_ _); rotate_left 1; focus (first | (simp; done) | (simp; omega) | (simp at *; omega))) | ((with_reducible refine Below.alloc ?_ ?_ _); rotate_left 1; focus (first | (simp; done) | (simp; omega) | (simp at *; omega))) | (with_reducible refine Below.drew ?_) | ((with_reducible refine Calm.step (by assumption) ?_ ?_); rotate_left 1; focus (first | (simp; done) | (simp; omega) | (simp at *; omega)))))))).mono ?_; rintro r w1 ⟨rfl, hb1⟩; have HB1 := Lib.hid (show Below w.heap.size w w1 from Below.trans (by (repeat (first | (with_reducible exact Below.refl _ _) | ((with_reducible refine Below.setCell ?_ ?_ _); rotate_left 1; focus (first | (simp; done) | (simp; omega) | (simp at *; omega))) | ((with_reducible refine Below.alloc ?_ ?_ _); rotate_left 1; focus (first | (simp; done) | (simp; omega) | (simp at *; omega))) | (with_reducible refine Below.drew ?_) | ((with_reducible refine Calm.step (by assumption) ?_ ?_); rotate_left 1; focus (first | (simp; done) | (simp; omega) | (simp at *; omega)))))) (hb1.mono (by simp; omega))); have G1 := Lib.hid (show Blk w1 w.heap.size #[(.int .i64 lk), (.int .i64 ht), .slice A1 M c1, (.int .i64 rc), .slice A2 L c2] from Blk.below (by (repeat (first | ((with_reducible refine Blk.at_ ?_); focus (first | rfl | (simp; done) | (simp; omega))) | (with_reducible refine Blk.alloc ?_ _) | (with_reducible refine Blk.below ?_ (by with_reducible assumption)) | (with_reducible refine Blk.drew ?_)))) hb1); obtain ⟨g0, g1, g2, g3, g4, gl, gf⟩ := G1.out.o5; have S1 := Lib.hid (show Blk w1 (w.heap.size + 1) #[(.int .i64 h), (.int .i64 lv), .slice A3 Q c3] from Blk.below (by (repeat (first | ((with_reducible refine Blk.at_ ?_); focus (first | rfl | (simp; done) | (simp; omega))) | (with_reducible refine Blk.alloc ?_ _) | (with_reducible refine Blk.below ?_ (by with_reducible assumption)) | (with_reducible refine Blk.drew ?_)))) hb1); obtain ⟨s0, s1, s2, sl, sf⟩ := S1.out.o3; clear hb1)
    | (go_at_call 53; refine (HSF.out _ (HL.out.below HB1.out) (HT.out.below HB1.out) (HP.out.below HB1.out)).mono ?_; rintro r w2 ⟨rfl, hb2⟩; have HB2 := Lib.hid (HB1.out.trans (hb2.mono HB1.out.size))))
  exact bodyPost_ret (v := .tuple #[.bool F, (.int .i64 0)]) (by simp [results, Tryz.results19, go_sem]) rfl ⟨rfl, HB2.out⟩

set_option maxHeartbeats 1000000 in
theorem Tails_ok (lk ht rc h lv : Int) (ts gs ps : List Int) (A1 A2 A3 : Option Addr) (M L Q c1 c2 c3 : Nat) (w : World) (hM : M = ts.length) (hL : L = gs.length) (hQ : Q = ps.length) (hLim : Lim w) (hT : Cells w A1 ts) (hG : Cells w A2 gs) (hP : Cells w A3 ps) (h1 : M ≤ 1000) (h2 : L ≤ 1000) (h3 : Q ≤ 1000) (he : stErr lk ht rc ts gs h lv ps = 0) :
    Calls Tryz.prog 20 #[.agg #[(.int .i64 lk), (.int .i64 ht), .slice A1 M c1, (.int .i64 rc), .slice A2 L c2], .agg #[(.int .i64 h), (.int .i64 lv), .slice A3 Q c3]] w fun r w' => (∃ B c, r = .returned (.tuple #[.slice B Q c, (.int .i64 0)]) ∧ Cells w' B (tailsF ts ps)) ∧ Below w.heap.size w w' := by
  have hS := stErr_zero he
  have htl := hS.v.tl
  have hpl := hS.pl
  have HCS : Hid (∀ W, Cells W A1 ts → Cells W A2 gs → Cells W A3 ps → Calls Tryz.prog 50 #[.agg #[(.int .i64 lk), (.int .i64 ht), .slice A1 M c1, (.int .i64 rc), .slice A2 L c2], .agg #[(.int .i64 h), (.int .i64 lv), .slice A3 Q c3]] W fun r w' => r = .returned (.int .i64 0) ∧ Below W.heap.size W w') := Lib.hid (fun W q1 q2 q3 => by
    have := checkState_any lk ht rc h lv ts gs ps A1 A2 A3 M L Q c1 c2 c3 W hM hL hQ q1 q2 q3 h1 h2 h3
    rwa [he] at this)
  have HTA : Hid (∀ W, Cells W A1 ts → Cells W A3 ps → Calls Tryz.prog 54 #[.agg #[(.int .i64 lk), (.int .i64 ht), .slice A1 M c1, (.int .i64 rc), .slice A2 L c2], .agg #[(.int .i64 h), (.int .i64 lv), .slice A3 Q c3]] W fun r w' => (∃ B c, r = .returned (.slice B Q c) ∧ (∀ p, B = some p → W.heap.size ≤ p.block) ∧ Cells w' B (tailsF ts ps)) ∧ Below W.heap.size W w') := Lib.hid (fun W q1 q2 => by
    rw [hM, hQ]
    exact tails_any lk ht rc h lv ts ps A1 A2 A3 c1 L c2 c3 W hS.v.lk ⟨hS.h.1, by have := hS.h.2; omega⟩ q1 q2 hS.pl (by omega) hS.v.tb hS.pb)
  have HT := Lib.hid hT
  have HG := Lib.hid hG
  have HP := Lib.hid hP
  clear hM hL hQ hLim hT hG hP he hS htl hpl
  go_enter Tryz.func20, Tryz.ntmps20
  go_wp2_with (first
    | (go_at_call 50; refine (HCS.out _ (HT.out.below (by (repeat (first | (with_reducible exact Below.refl _ _) | ((with_reducible refine Below.setCell ?_ ?_ _); rotate_left 1; focus (first | (simp; done) | (simp; omega) | (simp at *; omega))) | ((with_reducible refine Below.alloc ?_ ?_ _); rotate_left 1; focus (first | (simp; done) | (simp; omega) | (simp at *; omega))) | (with_reducible refine Below.drew ?_) | ((with_reducible refine Calm.step (by assumption) ?_ ?_); rotate_left 1; focus (first | (simp; done) | (simp; omega) | (simp at *; omega))))))) (HG.out.below (by (repeat (first | (with_reducible exact Below.refl _ _) | ((with_reducible refine Below.setCell ?_ ?_ _); rotate_left 1; focus (first | (simp; done) | (simp; omega) | (simp at *; omega))) | ((with_reducible refine Below.alloc ?_ ?_ _); rotate_left 1; focus (first | (simp; done) | (simp; omega) | (simp at *; omega))) | (with_reducible refine Below.drew ?_) | ((with_reducible refine Calm.step (by assumption) ?_ ?_); rotate_left 1; focus (first | (simp; done) | (simp; omega) | (simp at *; omega))))))) (HP.out.below (by (repeat (first | (with_reducible exact Below.refl _ _) | ((with_reducible refine Below.setCell ?_ ?_ _); rotate_left 1; focus (first | (simp; done) | (simp; omega) | (simp at *; omega))) | ((with_reducible refine Below.alloc ?_ ?_ _); rotate_left 1; focus (first | (simp; done) | (simp; omega) | (simp at *; omega))) | (with_reducible refine Below.drew ?_) | ((with_reducible refine Calm.step (by assumption) ?_ ?_); rotate_left 1; focus (first | (simp; done) | (simp; omega) | (simp at *; omega)))))))).mono ?_; rintro r w1 ⟨rfl, hb1⟩; have HB1 := Lib.hid (show Below w.heap.size w w1 from Below.trans (by (repeat (first | (with_reducible exact Below.refl _ _) | ((with_reducible refine Below.setCell ?_ ?_ _); rotate_left 1; focus (first | (simp; done) | (simp; omega) | (simp at *; omega))) | ((with_reducible refine Below.alloc ?_ ?_ _); rotate_left 1; focus (first | (simp; done) | (simp; omega) | (simp at *; omega))) | (with_reducible refine Below.drew ?_) | ((with_reducible refine Calm.step (by assumption) ?_ ?_); rotate_left 1; focus (first | (simp; done) | (simp; omega) | (simp at *; omega)))))) (hb1.mono (by simp; omega))); have G1 := Lib.hid (show Blk w1 w.heap.size #[(.int .i64 lk), (.int .i64 ht), .slice A1 M c1, (.int .i64 rc), .slice A2 L c2] from Blk.below (by (repeat (first | ((with_reducible refine Blk.at_ ?_); focus (first | rfl | (simp; done) | (simp; omega))) | (with_reducible refine Blk.alloc ?_ _) | (with_reducible refine Blk.below ?_ (by with_reducible assumption)) | (with_reducible refine Blk.drew ?_)))) hb1); obtain ⟨g0, g1, g2, g3, g4, gl, gf⟩ := G1.out.o5; have S1 := Lib.hid (show Blk w1 (w.heap.size + 1) #[(.int .i64 h), (.int .i64 lv), .slice A3 Q c3] from Blk.below (by (repeat (first | ((with_reducible refine Blk.at_ ?_); focus (first | rfl | (simp; done) | (simp; omega))) | (with_reducible refine Blk.alloc ?_ _) | (with_reducible refine Blk.below ?_ (by with_reducible assumption)) | (with_reducible refine Blk.drew ?_)))) hb1); obtain ⟨s0, s1, s2, sl, sf⟩ := S1.out.o3; clear hb1)
    | (go_at_call 54; refine (HTA.out _ (HT.out.below HB1.out) (HP.out.below HB1.out)).mono ?_; rintro r w2 ⟨⟨B, c, rfl, -, hc2⟩, hb2⟩; have HB2 := Lib.hid (HB1.out.trans (hb2.mono HB1.out.size)); have HC2 := Lib.hid hc2; clear hb2 hc2))
  exact bodyPost_ret (v := .tuple #[.slice B Q c, (.int .i64 0)]) (by simp [results, Tryz.results20, go_sem]) rfl (by first | exact ⟨⟨B, c, rfl, HC2.out⟩, HB2.out⟩ | exact ⟨⟨B, ⟨c, rfl⟩, HC2.out⟩, HB2.out⟩)
end Go.Proofs.YtdeapbihbhoefaaGreatDoor
