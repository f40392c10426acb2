/- Part 4 of the texts of the claim: P6, P7, Flat, P13, P14. -/
import Derived.Test.YtleemphfkhbhaaaDoorMl3
import Derived.WalkKit
import Derived.ProofKit
import Derived.OpenShut
import Derived.Lib.LaidTab
import Derived.Below
import Derived.Carry
import Derived.ChangeSame

/- Contracts of the third condition and of (Guard).fine. -/
namespace Go.Proofs.YtleemphfkhbhaaaDoor
open Go.RowKit
open Calm (bcell Blk)

theorem tailsF_in {ts ps : List Int} (h1 : inB 64 ts) (h2 : inB 2048 ps) (hn : ps.length ≤ 7) : inB 1099511627776 (tailsF ts ps) := by
  intro x hx
  obtain ⟨k, _, rfl⟩ := List.mem_map.1 hx
  have := exK_bd h1 (psK_in h2 (by omega) k) (y := 0) (by omega) (psK ps k).length
  rw [psK_len] at this
  unfold exF
  rw [psK_len]
  omega
def farAny (rc : Int) (l : List Int) : Bool := l.any fun x => decide (rc < absI x)

set_option maxHeartbeats 1000000 in
theorem cond3_any (lk ht rc h lv x : Int) (ts ps : List Int) (A1 A2 A3 : Option Addr) (c1 n2 c2 c3 : Nat) (w : World) (hlk : 1 ≤ lk ∧ lk ≤ 8) (hh : 0 ≤ h ∧ h ≤ 1099511627776) (hT : Cells w A1 ts) (hP : Cells w A3 ps)
    (hn : ts.length = ps.length + 1) (hn2 : ps.length ≤ 7) (bT : inB 64 ts) (bP : inB 2048 ps) :
    Calls Tryd.prog 88 #[.agg #[(.int .i64 (lk)), (.int .i64 (ht)), .slice A1 ts.length c1, (.int .i64 (rc)), .slice A2 n2 c2], .agg #[(.int .i64 (h)), (.int .i64 (lv)), .slice A3 ps.length c3], (.int .i64 (x))] w fun r w' => r = .returned (.bool (!farAny rc (tailsF ts ps))) ∧ Below w.heap.size w w' := by
  have HT := Lib.hid hT
  have HP := Lib.hid hP
  have HI := Lib.hid (tailsF_in bT bP hn2)
  obtain ⟨M, hM⟩ : ∃ M, M = ts.length := ⟨_, rfl⟩
  obtain ⟨N, hN⟩ : ∃ N, N = ps.length := ⟨_, rfl⟩
  have HXX : Hid (∀ W, Cells W A1 ts → Cells W A3 ps → Calls Tryd.prog 90 #[.agg #[(.int .i64 (lk)), (.int .i64 (ht)), .slice A1 M c1, (.int .i64 (rc)), .slice A2 n2 c2], .agg #[(.int .i64 (h)), (.int .i64 (lv)), .slice A3 N c3]] W fun r w' => (∃ B c, r = .returned (.slice B N c) ∧ (∀ p, B = some p → W.heap.size ≤ p.block) ∧ Cells w' B (tailsF ts ps)) ∧ Below W.heap.size W w') := Lib.hid (fun W q1 q2 => by
    rw [hM, hN]; exact tails_any lk ht rc h lv ts ps A1 A2 A3 c1 n2 c2 c3 W hlk hh q1 q2 hn hn2 bT bP)
  have HL : Hid (∀ W B c, Cells W B (tailsF ts ps) → Calls Tryd.prog 89 #[.slice B N c, .func (.func 87) #[.agg #[(.int .i64 (lk)), (.int .i64 (ht)), .slice A1 M c1, (.int .i64 (rc)), .slice A2 n2 c2]] #[]] W fun r w' => r = .returned (.bool (farAny rc (tailsF ts ps))) ∧ Below W.heap.size W w') := Lib.hid (fun W B c q => by
    have e : N = (tailsF ts ps).length := by rw [hN]; exact (tailsL_len _ _ _).symm
    rw [e]; exact containsFar_any lk ht rc (tailsF ts ps) A1 A2 B M c1 n2 c2 c W q (by unfold tailsF; rw [tailsL_len]; omega) HI.out)
  obtain ⟨X, hX⟩ : ∃ X, X = farAny rc (tailsF ts ps) := ⟨_, rfl⟩
  rw [← hX] at HL ⊢
  rw [← hM, ← hN]
  clear hX hM hN hT hP hn hn2 bT bP
  go_enter Tryd.func88, Tryd.ntmps88
  go_wp2
  refine Rel.region3 5 (by kernel_rfl) (by kernel_rfl) (by kernel_rfl) ?_
  simp only [List.take_succ_cons, List.take_zero, List.drop_succ_cons, List.drop_zero, List.filterMap_cons, List.filterMap_nil]
  iterate 2 (apply Rel.op3; (focus (first | exact Rel.gno rfl | exact Rel.gyes _ true _ rfl rfl rfl | exact Rel.gyes _ false _ rfl rfl rfl)); (focus (intro a W hb hd hbase; obtain ⟨hc, hf⟩ := bcell hb; clear hb hf; simp [Rel.deps, Rel.dep1, Rel.ons, Region.binds, Act.eval] at hd; simp only [Act.eval, List.mem_cons, List.not_mem_nil, not_or, and_imp, or_false, Array.getD_eq_getD_getElem?] at hbase; go_simp; (try go_bits); (try rfl); done)); (try simp only [List.nil_append, List.cons_append]))
  refine Rel.callR3 (fun u W => ∃ B c, u = .slice B N c ∧ Cells W B (tailsF ts ps)) (fun u W W' ⟨B, c, h1, h2⟩ hb => ⟨B, c, h1, h2.below hb⟩) (Rel.gno rfl) ?_ ?_
  · intro a W hb hd hbase
    have k1 := HT.out.below (Below.trans (by (repeat (first | (with_reducible exact Below.refl _ _) | ((with_reducible refine Below.setCell ?_ ?_ _); rotate_left 1; focus (first | (simp; done) | (simp; omega) | (simp at *; omega))) | ((with_reducible refine Below.alloc ?_ ?_ _); rotate_left 1; focus (first | (simp; done) | (simp; omega) | (simp at *; omega))) | (with_reducible refine Below.drew ?_) | ((with_reducible refine Calm.step (by assumption) ?_ ?_); rotate_left 1; focus (first | (simp; done) | (simp; omega) | (simp at *; omega)))))) (hb.mono (by simp; omega)))
    have k2 := HP.out.below (Below.trans (by (repeat (first | (with_reducible exact Below.refl _ _) | ((with_reducible refine Below.setCell ?_ ?_ _); rotate_left 1; focus (first | (simp; done) | (simp; omega) | (simp at *; omega))) | ((with_reducible refine Below.alloc ?_ ?_ _); rotate_left 1; focus (first | (simp; done) | (simp; omega) | (simp at *; omega))) | (with_reducible refine Below.drew ?_) | ((with_reducible refine Calm.step (by assumption) ?_ ?_); rotate_left 1; focus (first | (simp; done) | (simp; omega) | (simp at *; omega)))))) (hb.mono (by simp; omega)))
    refine ⟨90, #[.agg #[(.int .i64 (lk)), (.int .i64 (ht)), .slice A1 M c1, (.int .i64 (rc)), .slice A2 n2 c2], .agg #[(.int .i64 (h)), (.int .i64 (lv)), .slice A3 N c3]], ?_, (HXX.out W k1 k2).mono (fun e W' ⟨⟨B, c, h1, _, h3⟩, h4⟩ => ⟨_, h1, ⟨B, c, rfl, h3⟩, h4⟩)⟩
    clear k1 k2
    obtain ⟨hc, hf⟩ := bcell hb
    clear hb hf
    simp [Rel.deps, Rel.dep1, Rel.ons, Region.binds, Act.eval] at hd
    simp only [Act.eval, List.mem_cons, List.not_mem_nil, not_or, and_imp, or_false, Array.getD_eq_getD_getElem?] at hbase
    go_simp
    (first | done | rfl | (refine ⟨?_, ?_⟩ <;> rfl))
  (try simp only [List.nil_append, List.cons_append])
  iterate 2 (apply Rel.op3; (focus (first | exact Rel.gno rfl | exact Rel.gyes _ true _ rfl rfl rfl | exact Rel.gyes _ false _ rfl rfl rfl)); (focus (intro a W hb hd hbase; obtain ⟨hc, hf⟩ := bcell hb; clear hb hf; simp [Rel.deps, Rel.dep1, Rel.ons, Region.binds, Act.eval] at hd; simp only [Act.eval, List.mem_cons, List.not_mem_nil, not_or, and_imp, or_false, Array.getD_eq_getD_getElem?] at hbase; go_simp; (try go_bits); (try rfl); done)); (try simp only [List.nil_append, List.cons_append]))
  refine Rel.done3 ?_
  intro x1 w1 hb1 hx
  simp only [Rel.facts, Nat.zero_add, Nat.reduceAdd] at hx
  obtain ⟨e0, e1, ⟨B, c, e2, hCB⟩, e3, e4, _⟩ := hx
  simp only [Rel.fill, Nat.zero_add, Nat.reduceAdd, e0, e1, e2, e3, e4]
  simp only [Act.put, List.setIfInBounds_toArray, List.set_cons_zero, List.set_cons_succ]
  clear e0 e1 e2 e3 e4
  have HCB := Lib.hid hCB
  have HB1 : Hid (Below w.heap.size w w1) := Lib.hid (Below.trans (by (repeat (first | (with_reducible exact Below.refl _ _) | ((with_reducible refine Below.setCell ?_ ?_ _); rotate_left 1; focus (first | (simp; done) | (simp; omega) | (simp at *; omega))) | ((with_reducible refine Below.alloc ?_ ?_ _); rotate_left 1; focus (first | (simp; done) | (simp; omega) | (simp at *; omega))) | (with_reducible refine Below.drew ?_) | ((with_reducible refine Calm.step (by assumption) ?_ ?_); rotate_left 1; focus (first | (simp; done) | (simp; omega) | (simp at *; omega)))))) (hb1.mono (by simp; omega)))
  have hs1 := HB1.out.size
  clear hCB hb1
  go_wp2_with (go_at_call 89; refine (HL.out _ _ _ HCB.out).mono ?_; rintro r w2 ⟨rfl, hb2⟩)
  go_ret
  exact ⟨rfl, HB1.out.trans (hb2.mono hs1)⟩
end Go.Proofs.YtleemphfkhbhaaaDoor

/- Contract of (Guard).fine: whether a state behind an output keeps all conditions. -/
namespace Go.Proofs.YtleemphfkhbhaaaDoor
open Go.RowKit
open Calm (bcell Blk)

/-- what the program's variables hold. -/
structure Lim (w : World) : Prop where
  lt : 0 < w.heap.size
  c0 : w.cell? ⟨0, 0, none⟩ = some (.func (.func 85) #[] #[])
  c1 : w.cell? ⟨0, 1, none⟩ = some (.func (.func 86) #[] #[])
  c2 : w.cell? ⟨0, 2, none⟩ = some (.func (.func 88) #[] #[])
theorem Lim.below {w w' : World} (h : Lim w) (hb : Below w.heap.size w w') : Lim w' :=
  ⟨Nat.lt_of_lt_of_le h.lt hb.size, (hb.cell (p := ⟨0, 0, none⟩) h.lt).trans h.c0, (hb.cell (p := ⟨0, 1, none⟩) h.lt).trans h.c1, (hb.cell (p := ⟨0, 2, none⟩) h.lt).trans h.c2⟩
/-- whether a state behind an output, with an excursion, keeps all limits. -/
def fineF (ht rc h x : Int) (ts ps : List Int) : Bool := decide (h ≤ ht) && !decide (rc < absI x) && !farAny rc (tailsF ts ps)

theorem Tryd.sizeCond : (Tryd.prog.info? 109).map (·.size) = some 1 := by kernel_rfl
theorem Tryd.aggCond : (match Tryd.prog.underlying 109 with | some (.struct _ ..) => true | _ => false) = true := by kernel_rfl
theorem idxCond (a b c : Value) (k : Nat) (hk : k < 3) (W : World) : Sem.run Tryd.prog (Instr.index 110 (.agg #[a, b, c]) (.int .i64 ((k : Int)))) W = .ok (.agg #[#[a, b, c][k]]) W := by
  have ht : Tryd.prog.underlying 110 = some (.array 3 109) := by kernel_rfl
  have hs := Tryd.sizeCond
  have h3 : (0 : Int) ≤ k ∧ (k : Int) < 3 := by omega
  obtain ⟨i, hi, hs⟩ := Option.map_eq_some_iff.1 hs
  have ha := Tryd.aggCond
  cases hu : Tryd.prog.underlying 109 with
  | none => rw [hu] at ha; cases ha
  | some d =>
    rw [hu] at ha
    have hrun := run_underlying (P := Tryd.prog) hu
    cases d <;> first | cases ha | skip
    simp [Instr.index, run_underlying ht, asIntOf, sizeOf, typeInfo, hi, hs, h3, part, isAgg, hrun, hk]
    obtain rfl | rfl | rfl : k = 0 ∨ k = 1 ∨ k = 2 := by omega
    all_goals rfl

set_option maxHeartbeats 2000000 in
set_option maxRecDepth 100000 in
theorem fine_any (lk ht rc h lv x : Int) (ts ps : List Int) (A1 A2 A3 : Option Addr) (c1 n2 c2 c3 : Nat) (w : World) (hL : Lim w) (hlk : 1 ≤ lk ∧ lk ≤ 8) (hh : 0 ≤ h ∧ h ≤ 1099511627776) (hT : Cells w A1 ts) (hP : Cells w A3 ps)
    (hn : ts.length = ps.length + 1) (hn2 : ps.length ≤ 7) (bT : inB 64 ts) (bP : inB 2048 ps) (hx : -1099511627776 ≤ x ∧ x ≤ 1099511627776) :
    Calls Tryd.prog 61 #[.agg #[(.int .i64 (lk)), (.int .i64 (ht)), .slice A1 ts.length c1, (.int .i64 (rc)), .slice A2 n2 c2], .agg #[(.int .i64 (h)), (.int .i64 (lv)), .slice A3 ps.length c3], (.int .i64 (x))] w fun r w' => r = .returned (.bool (fineF ht rc h x ts ps)) ∧ Below w.heap.size w w' := by
  have HT := Lib.hid hT
  have HP := Lib.hid hP
  obtain ⟨M, hM⟩ : ∃ M, M = ts.length := ⟨_, rfl⟩
  obtain ⟨N, hN⟩ : ∃ N, N = ps.length := ⟨_, rfl⟩
  have H1 : Hid (∀ W, Calls Tryd.prog 85 #[.agg #[(.int .i64 (lk)), (.int .i64 (ht)), .slice A1 M c1, (.int .i64 (rc)), .slice A2 n2 c2], .agg #[(.int .i64 (h)), (.int .i64 (lv)), .slice A3 N c3], (.int .i64 (x))] W fun r w' => r = .returned (.bool (decide (h ≤ ht))) ∧ Below W.heap.size W w') := Lib.hid (fun W => cond1_any lk ht rc h lv x A1 A2 A3 M c1 n2 c2 N c3 W)
  have H2 : Hid (∀ W, Calls Tryd.prog 86 #[.agg #[(.int .i64 (lk)), (.int .i64 (ht)), .slice A1 M c1, (.int .i64 (rc)), .slice A2 n2 c2], .agg #[(.int .i64 (h)), (.int .i64 (lv)), .slice A3 N c3], (.int .i64 (x))] W fun r w' => r = .returned (.bool (!decide (rc < absI x))) ∧ Below W.heap.size W w') := Lib.hid (fun W => cond2_any lk ht rc h lv x A1 A2 A3 M c1 n2 c2 N c3 W hx)
  have H3 : Hid (∀ W, Cells W A1 ts → Cells W A3 ps → Calls Tryd.prog 88 #[.agg #[(.int .i64 (lk)), (.int .i64 (ht)), .slice A1 M c1, (.int .i64 (rc)), .slice A2 n2 c2], .agg #[(.int .i64 (h)), (.int .i64 (lv)), .slice A3 N c3], (.int .i64 (x))] W fun r w' => r = .returned (.bool (!farAny rc (tailsF ts ps))) ∧ Below W.heap.size W w') := Lib.hid (fun W q1 q2 => by
    rw [hM, hN]; exact cond3_any lk ht rc h lv x ts ps A1 A2 A3 c1 n2 c2 c3 W hlk hh q1 q2 hn hn2 bT bP)
  unfold fineF
  obtain ⟨X1, hX1⟩ : ∃ X, X = decide (h ≤ ht) := ⟨_, rfl⟩
  obtain ⟨X2, hX2⟩ : ∃ X, X = !decide (rc < absI x) := ⟨_, rfl⟩
  obtain ⟨X3, hX3⟩ : ∃ X, X = !farAny rc (tailsF ts ps) := ⟨_, rfl⟩
  rw [← hX1] at H1 ⊢
  rw [← hX2] at H2 ⊢
  rw [← hX3] at H3 ⊢
  rw [← hM, ← hN]
  obtain ⟨l0, d0, d1, d2⟩ := hL
  clear hX1 hX2 hX3 hM hN hT hP hn hn2 bT bP hlk hh hx
  have l1 : 0 < w.heap.size + 1 := by omega
  have hx0 : ∀ W : World, Sem.run Tryd.prog (Instr.index 110 (.agg #[.func (.func 85) #[] #[], .func (.func 86) #[] #[], .func (.func 88) #[] #[]]) (.int .i64 0)) W = .ok (.agg #[.func (.func 85) #[] #[]]) W := fun W => idxCond _ _ _ 0 (by omega) W
  have hx1 : ∀ W : World, Sem.run Tryd.prog (Instr.index 110 (.agg #[.func (.func 85) #[] #[], .func (.func 86) #[] #[], .func (.func 88) #[] #[]]) (.int .i64 1)) W = .ok (.agg #[.func (.func 86) #[] #[]]) W := fun W => idxCond _ _ _ 1 (by omega) W
  have hx2 : ∀ W : World, Sem.run Tryd.prog (Instr.index 110 (.agg #[.func (.func 85) #[] #[], .func (.func 86) #[] #[], .func (.func 88) #[] #[]]) (.int .i64 2)) W = .ok (.agg #[.func (.func 88) #[] #[]]) W := fun W => idxCond _ _ _ 2 (by omega) W
  have hst : ∀ (W : World) (t : TypeId) (f : FuncId), Sem.run Tryd.prog (store ⟨W.heap.size, 0, none⟩ (.func (.func f) #[] #[])) (W.alloc (.cells #[.nilFunc] t)) = .ok () (W.alloc (.cells #[.func (.func f) #[] #[]] t)) := by
    intro W t f
    rw [run_store _ _ _ _ _ rfl]
    simp
    simp [go_sem]
  go_enter Tryd.func61, Tryd.ntmps61
  go_wp2
  go_loopw [10] (fun i wr => ∃ k : Nat, k ≤ 3 ∧ i = (.int .i64 (k)) ∧ (0 < k → X1 = true) ∧ (1 < k → X2 = true) ∧ (2 < k → X3 = true) ∧ Blk wr w.heap.size #[(.int .i64 (lk)), (.int .i64 (ht)), .slice A1 M c1, (.int .i64 (rc)), .slice A2 n2 c2] ∧ Blk wr (w.heap.size + 1) #[(.int .i64 (h)), (.int .i64 (lv)), .slice A3 N c3] ∧ Below w.heap.size w wr) (fun i _ => 3 - (intOf i).toNat)
  case atStart => exact ⟨0, by omega, rfl, fun h => absurd h (by omega), fun h => absurd h (by omega), fun h => absurd h (by omega), by (repeat (first | ((with_reducible refine Blk.at_ ?_); focus (first | rfl | (simp; done) | (simp; omega))) | (with_reducible refine Blk.alloc ?_ _) | (with_reducible refine Blk.below ?_ (by with_reducible assumption)) | (with_reducible refine Blk.drew ?_))), by (repeat (first | ((with_reducible refine Blk.at_ ?_); focus (first | rfl | (simp; done) | (simp; omega))) | (with_reducible refine Blk.alloc ?_ _) | (with_reducible refine Blk.below ?_ (by with_reducible assumption)) | (with_reducible refine Blk.drew ?_))), by (repeat (first | (with_reducible exact Below.refl _ _) | ((with_reducible refine Below.setCell ?_ ?_ _); rotate_left 1; focus (first | (simp; done) | (simp; omega) | (simp at *; omega))) | ((with_reducible refine Below.alloc ?_ ?_ _); rotate_left 1; focus (first | (simp; done) | (simp; omega) | (simp at *; omega))) | (with_reducible refine Below.drew ?_) | ((with_reducible refine Calm.step (by assumption) ?_ ?_); rotate_left 1; focus (first | (simp; done) | (simp; omega) | (simp at *; omega)))))⟩
  case round =>
    obtain ⟨k, hk, rfl, hf0, hf1, hf2, K0, K1, hB⟩ := hrel
    have HF0 := Lib.hid hf0
    have HF1 := Lib.hid hf1
    have HF2 := Lib.hid hf2
    have HB := Lib.hid hB
    have hsz := hB.size
    obtain ⟨c00, c01, c02, c03, c04, m0, f0⟩ := K0.o5
    obtain ⟨c10, c11, c12, m1, f1⟩ := K1.o3
    have HK0 := Lib.hid K0
    have HK1 := Lib.hid K1
    have hsz1 : w.heap.size < wr.heap.size + 1 := by omega
    have hsz2 : w.heap.size + 1 < wr.heap.size + 1 := by omega
    clear hf0 hf1 hf2 hB K0 K1 d0 d1 d2
    obtain rfl | rfl | rfl | rfl : k = 0 ∨ k = 1 ∨ k = 2 ∨ k = 3 := by omega
    · have hcT := Lib.hid (HT.out.below HB.out)
      have hcP := Lib.hid (HP.out.below HB.out)
      cases X1 with
      | false =>
        go_wp2_with (go_at_call 85; refine (H1.out _).mono ?_; rintro r w1 ⟨rfl, hb1⟩)
        go_ret
        exact ⟨by first | rfl | (cases X1 <;> cases X2 <;> rfl) | simp, Below.trans HB.out (Below.trans (by (repeat (first | (with_reducible exact Below.refl _ _) | ((with_reducible refine Below.setCell ?_ ?_ _); rotate_left 1; focus (first | (simp; done) | (simp; omega) | (simp at *; omega))) | ((with_reducible refine Below.alloc ?_ ?_ _); rotate_left 1; focus (first | (simp; done) | (simp; omega) | (simp at *; omega))) | (with_reducible refine Below.drew ?_) | ((with_reducible refine Calm.step (by assumption) ?_ ?_); rotate_left 1; focus (first | (simp; done) | (simp; omega) | (simp at *; omega)))))) (hb1.mono (by simp; try omega)))⟩
      | true =>
        go_wp2_with (go_at_call 85; refine (H1.out _).mono ?_; rintro r w1 ⟨rfl, hb1⟩)
        go_roundw
        case rel => exact ⟨1, by omega, by rfl, fun _ => trivial, fun h => absurd h (by omega), fun h => absurd h (by omega), (HK0.out.alloc _).below hb1, (HK1.out.alloc _).below hb1, Below.trans HB.out (Below.trans (by (repeat (first | (with_reducible exact Below.refl _ _) | ((with_reducible refine Below.setCell ?_ ?_ _); rotate_left 1; focus (first | (simp; done) | (simp; omega) | (simp at *; omega))) | ((with_reducible refine Below.alloc ?_ ?_ _); rotate_left 1; focus (first | (simp; done) | (simp; omega) | (simp at *; omega))) | (with_reducible refine Below.drew ?_) | ((with_reducible refine Calm.step (by assumption) ?_ ?_); rotate_left 1; focus (first | (simp; done) | (simp; omega) | (simp at *; omega)))))) (hb1.mono (by simp; try omega)))⟩
        case measure => simp [intOf]
    · have hcT := Lib.hid (HT.out.below HB.out)
      have hcP := Lib.hid (HP.out.below HB.out)
      cases X2 with
      | false =>
        go_wp2_with (go_at_call 86; refine (H2.out _).mono ?_; rintro r w1 ⟨rfl, hb1⟩)
        go_ret
        exact ⟨by first | rfl | (cases X1 <;> cases X2 <;> rfl) | simp, Below.trans HB.out (Below.trans (by (repeat (first | (with_reducible exact Below.refl _ _) | ((with_reducible refine Below.setCell ?_ ?_ _); rotate_left 1; focus (first | (simp; done) | (simp; omega) | (simp at *; omega))) | ((with_reducible refine Below.alloc ?_ ?_ _); rotate_left 1; focus (first | (simp; done) | (simp; omega) | (simp at *; omega))) | (with_reducible refine Below.drew ?_) | ((with_reducible refine Calm.step (by assumption) ?_ ?_); rotate_left 1; focus (first | (simp; done) | (simp; omega) | (simp at *; omega)))))) (hb1.mono (by simp; try omega)))⟩
      | true =>
        go_wp2_with (go_at_call 86; refine (H2.out _).mono ?_; rintro r w1 ⟨rfl, hb1⟩)
        go_roundw
        case rel => exact ⟨2, by omega, by rfl, fun h => HF0.out (by omega), fun _ => trivial, fun h => absurd h (by omega), (HK0.out.alloc _).below hb1, (HK1.out.alloc _).below hb1, Below.trans HB.out (Below.trans (by (repeat (first | (with_reducible exact Below.refl _ _) | ((with_reducible refine Below.setCell ?_ ?_ _); rotate_left 1; focus (first | (simp; done) | (simp; omega) | (simp at *; omega))) | ((with_reducible refine Below.alloc ?_ ?_ _); rotate_left 1; focus (first | (simp; done) | (simp; omega) | (simp at *; omega))) | (with_reducible refine Below.drew ?_) | ((with_reducible refine Calm.step (by assumption) ?_ ?_); rotate_left 1; focus (first | (simp; done) | (simp; omega) | (simp at *; omega)))))) (hb1.mono (by simp; try omega)))⟩
        case measure => simp [intOf]
    · have hcT := Lib.hid (HT.out.below HB.out)
      have hcP := Lib.hid (HP.out.below HB.out)
      cases X3 with
      | false =>
        go_wp2_with (go_at_call 88; refine (H3.out _ (hcT.out.below (by (repeat (first | (with_reducible exact Below.refl _ _) | ((with_reducible refine Below.setCell ?_ ?_ _); rotate_left 1; focus (first | (simp; done) | (simp; omega) | (simp at *; omega))) | ((with_reducible refine Below.alloc ?_ ?_ _); rotate_left 1; focus (first | (simp; done) | (simp; omega) | (simp at *; omega))) | (with_reducible refine Below.drew ?_) | ((with_reducible refine Calm.step (by assumption) ?_ ?_); rotate_left 1; focus (first | (simp; done) | (simp; omega) | (simp at *; omega))))))) (hcP.out.below (by (repeat (first | (with_reducible exact Below.refl _ _) | ((with_reducible refine Below.setCell ?_ ?_ _); rotate_left 1; focus (first | (simp; done) | (simp; omega) | (simp at *; omega))) | ((with_reducible refine Below.alloc ?_ ?_ _); rotate_left 1; focus (first | (simp; done) | (simp; omega) | (simp at *; omega))) | (with_reducible refine Below.drew ?_) | ((with_reducible refine Calm.step (by assumption) ?_ ?_); rotate_left 1; focus (first | (simp; done) | (simp; omega) | (simp at *; omega)))))))).mono ?_; rintro r w1 ⟨rfl, hb1⟩)
        go_ret
        exact ⟨by first | rfl | (cases X1 <;> cases X2 <;> rfl) | simp, Below.trans HB.out (Below.trans (by (repeat (first | (with_reducible exact Below.refl _ _) | ((with_reducible refine Below.setCell ?_ ?_ _); rotate_left 1; focus (first | (simp; done) | (simp; omega) | (simp at *; omega))) | ((with_reducible refine Below.alloc ?_ ?_ _); rotate_left 1; focus (first | (simp; done) | (simp; omega) | (simp at *; omega))) | (with_reducible refine Below.drew ?_) | ((with_reducible refine Calm.step (by assumption) ?_ ?_); rotate_left 1; focus (first | (simp; done) | (simp; omega) | (simp at *; omega)))))) (hb1.mono (by simp; try omega)))⟩
      | true =>
        go_wp2_with (go_at_call 88; refine (H3.out _ (hcT.out.below (by (repeat (first | (with_reducible exact Below.refl _ _) | ((with_reducible refine Below.setCell ?_ ?_ _); rotate_left 1; focus (first | (simp; done) | (simp; omega) | (simp at *; omega))) | ((with_reducible refine Below.alloc ?_ ?_ _); rotate_left 1; focus (first | (simp; done) | (simp; omega) | (simp at *; omega))) | (with_reducible refine Below.drew ?_) | ((with_reducible refine Calm.step (by assumption) ?_ ?_); rotate_left 1; focus (first | (simp; done) | (simp; omega) | (simp at *; omega))))))) (hcP.out.below (by (repeat (first | (with_reducible exact Below.refl _ _) | ((with_reducible refine Below.setCell ?_ ?_ _); rotate_left 1; focus (first | (simp; done) | (simp; omega) | (simp at *; omega))) | ((with_reducible refine Below.alloc ?_ ?_ _); rotate_left 1; focus (first | (simp; done) | (simp; omega) | (simp at *; omega))) | (with_reducible refine Below.drew ?_) | ((with_reducible refine Calm.step (by assumption) ?_ ?_); rotate_left 1; focus (first | (simp; done) | (simp; omega) | (simp at *; omega)))))))).mono ?_; rintro r w1 ⟨rfl, hb1⟩)
        go_roundw
        case rel => exact ⟨3, by omega, by rfl, fun h => HF0.out (by omega), fun h => HF1.out (by omega), fun _ => trivial, (HK0.out.alloc _).below hb1, (HK1.out.alloc _).below hb1, Below.trans HB.out (Below.trans (by (repeat (first | (with_reducible exact Below.refl _ _) | ((with_reducible refine Below.setCell ?_ ?_ _); rotate_left 1; focus (first | (simp; done) | (simp; omega) | (simp at *; omega))) | ((with_reducible refine Below.alloc ?_ ?_ _); rotate_left 1; focus (first | (simp; done) | (simp; omega) | (simp at *; omega))) | (with_reducible refine Below.drew ?_) | ((with_reducible refine Calm.step (by assumption) ?_ ?_); rotate_left 1; focus (first | (simp; done) | (simp; omega) | (simp at *; omega)))))) (hb1.mono (by simp; try omega)))⟩
        case measure => simp [intOf]
    · have e1 := HF0.out (by omega)
      have e2 := HF1.out (by omega)
      have e3 := HF2.out (by omega)
      subst e1 e2 e3
      go_wp2
      go_ret
      exact ⟨rfl, HB.out⟩
end Go.Proofs.YtleemphfkhbhaaaDoor

/- A value of integers alone (structs and arrays of integers, nested): its cells are its integers, one behind another. And the row's last step under 'Below'. Of no program. -/
namespace Go.Flat
open Go.ChangeShapes Go.WideShapes Go.RowKit

def sideB : List (Nat × Nat) → Nat → Nat → Bool
  | [], off, tot => off == tot
  | (o, c) :: l, off, tot => o == off && sideB l (off + c) tot
/-- the type is made of integers alone, lying side by side. -/
def intsB (P : Program) : Nat → TypeId → Bool
  | 0, _ => false
  | n + 1, t => match P.underlying t with
    | some (.int .i64) => true
    | some (.struct fs) => sideB (fs.toList.map fun f => (f.offset, P.cellsOf f.type)) 0 (P.cellsOf t) && fs.toList.all fun f => intsB P n f.type
    | some (.array k e) => sideB ((List.range k).map fun i => (i * P.cellsOf e, P.cellsOf e)) 0 (P.cellsOf t) && intsB P n e
    | _ => false
/-- the integers of a datum. -/
def flat {H : Type} : Nat → DataW H → List Int
  | 0, _ => []
  | n + 1, .agg ds => ds.flatMap (flat n)
  | _ + 1, .lit (.int _ z) => [z]
  | _ + 1, _ => []

theorem side_cells {cs : List Value} : ∀ (l : List (Nat × Nat)) (zs : List (List Int)) (off : Nat), sideB l off cs.length = true → zs.length = l.length →
    (∀ (i o c : Nat), l[i]? = some (o, c) → ∃ z, zs[i]? = some z ∧ (cs.drop o).take c = z.map (Value.int .i64)) → cs.drop off = zs.flatten.map (Value.int .i64)
  | [], zs, off, hs, hl, _ => by
    obtain rfl : zs = [] := by simpa using hl
    have : off = cs.length := by simpa [sideB] using hs
    subst this
    simp
  | (o, c) :: l, zs, off, hs, hl, hf => by
    obtain ⟨z, zs', rfl⟩ : ∃ z zs', zs = z :: zs' := by
      cases zs with
      | nil => simp at hl
      | cons z zs' => exact ⟨z, zs', rfl⟩
    simp only [sideB, Bool.and_eq_true, beq_iff_eq] at hs
    obtain ⟨rfl, hs⟩ := hs
    obtain ⟨z', hz', h0⟩ := hf 0 o c rfl
    obtain rfl : z = z' := by simpa using hz'
    have ih := side_cells l zs' (o + c) hs (by simpa using hl) (fun i o' c' h => by simpa using hf (i + 1) o' c' (by simpa using h))
    calc cs.drop o = (cs.drop o).take c ++ (cs.drop o).drop c := (List.take_append_drop _ _).symm
      _ = _ := by rw [h0, List.drop_drop, ih]; simp

theorem cells_of_ints {H : Type} {enc : TypeId × Value → H} {P : Program} {w : World} {base : Nat} {sp : Nat → Bool} {held : Bool} :
    ∀ (m : Nat) {fuel : Nat} {t : TypeId} {cs : List Value} {x : DataW H × List MemPlace}, intsB P m t = true → DataW.trod enc P w base sp held fuel t cs = some x → cs = (flat m x.1).map (Value.int .i64) ∧ x.2 = []
  | 0, _, _, _, _, h, _ => by simp [intsB] at h
  | m + 1, fuel, t, cs, x, h, hx => by
    unfold intsB at h
    split at h
    · rename_i ht
      obtain ⟨z, rfl, rfl, _⟩ := DataW.trod_int ht hx
      exact ⟨rfl, rfl⟩
    · rename_i fs ht
      obtain ⟨xs, n, _, rfl, hl, hxl, hf⟩ := DataW.trod_struct ht hx
      simp only [Bool.and_eq_true, List.all_eq_true] at h
      obtain ⟨hs, hi⟩ := h
      have key : ∀ (i : Nat) (f : Field) (y : DataW H × List MemPlace), fs.toList[i]? = some f → xs[i]? = some y → (cs.drop f.offset).take (P.cellsOf f.type) = (flat m y.1).map (Value.int .i64) ∧ y.2 = [] := fun i f y hfi hy =>
        cells_of_ints m (hi f (List.mem_of_getElem? hfi)) ((hf i f (by simpa using hfi)).trans hy)
      have hlen : xs.length = fs.toList.length := by simpa using hxl
      refine ⟨?_, ?_⟩
      · have := side_cells (cs := cs) (fs.toList.map fun f => (f.offset, P.cellsOf f.type)) (xs.map fun y => flat m y.1) 0 (by rw [hl]; exact hs) (by simpa using hxl) (fun i o c hi' => by
          simp only [List.getElem?_map, Option.map_eq_some_iff] at hi'
          obtain ⟨f, hf1, hf2⟩ := hi'
          have hlt : i < xs.length := hlen ▸ (List.getElem?_eq_some_iff.1 hf1).1
          have hy : xs[i]? = some xs[i] := List.getElem?_eq_getElem hlt
          simp only [Prod.mk.injEq] at hf2
          obtain ⟨rfl, rfl⟩ := hf2
          exact ⟨_, by simp [hy], (key i f _ hf1 hy).1⟩)
        rw [List.drop_zero] at this
        refine this.trans ?_
        simp [flat, List.flatMap, List.map_map, Function.comp_def]
      · simp only [List.flatMap_eq_nil_iff]
        intro y hy
        obtain ⟨i, hi'⟩ := List.getElem?_of_mem hy
        have hlt : i < fs.toList.length := hlen ▸ (List.getElem?_eq_some_iff.1 hi').1
        exact (key i _ y (List.getElem?_eq_getElem hlt) hi').2
    · rename_i k e ht
      simp only [Bool.and_eq_true] at h
      obtain ⟨hs, hi⟩ := h
      cases fuel with
      | zero => simp [DataW.trod] at hx
      | succ fuel =>
        simp only [DataW.trod, ht] at hx
        split at hx
        · rename_i hl
          obtain ⟨xs, hm, rfl⟩ := Option.map_eq_some_iff.1 hx
          have hxl : xs.length = k := by simpa using Lib.mapM_length hm
          have key : ∀ (i : Nat) (y : DataW H × List MemPlace), xs[i]? = some y → (cs.drop (i * P.cellsOf e)).take (P.cellsOf e) = (flat m y.1).map (Value.int .i64) ∧ y.2 = [] := fun i y hy => by
            have hlt : i < k := hxl ▸ (List.getElem?_eq_some_iff.1 hy).1
            obtain ⟨b, hb, hf⟩ := Lib.mapM_at hm i i (by simp [hlt])
            obtain rfl := Option.some.inj (hy.symm.trans hb)
            exact cells_of_ints m hi hf
          refine ⟨?_, ?_⟩
          · have := side_cells (cs := cs) ((List.range k).map fun i => (i * P.cellsOf e, P.cellsOf e)) (xs.map fun y => flat m y.1) 0 (by rw [hl]; exact hs) (by simpa using hxl) (fun i o c hi' => by
              simp only [List.getElem?_map, Option.map_eq_some_iff] at hi'
              obtain ⟨j, hj1, hj2⟩ := hi'
              have hlt : i < k := by simpa using (List.getElem?_eq_some_iff.1 hj1).1
              obtain rfl : i = j := by simpa [hlt] using hj1
              have hy : xs[i]? = some (xs[i]'(by omega)) := List.getElem?_eq_getElem (by omega)
              simp only [Prod.mk.injEq] at hj2
              obtain ⟨rfl, rfl⟩ := hj2
              exact ⟨_, by simp [hy], (key i _ hy).1⟩)
            rw [List.drop_zero] at this
            refine this.trans ?_
            simp [flat, List.flatMap, List.map_map, Function.comp_def]
          · simp only [List.flatMap_eq_nil_iff]
            intro y hy
            obtain ⟨i, hi'⟩ := List.getElem?_of_mem hy
            exact (key i y hi').2
        · cases hx
    · cases h

/-- an argument that is a struct of integers alone. -/
theorem open_ints {H : Type} {enc : TypeId × Value → H} {P : Program} {w : World} {base : Nat} {sp : Nat → Bool} {held : Bool} (m : Nat) {r : Reach} {b0 : Nat} {t : TypeId} {fs : Array Field} {v : Value} {d : DataW H} {p : List MemPlace}
    (ht : P.underlying t = some (.struct fs)) (h : intsB P m t = true) (hv : Value.okWide P w r b0 t v) (hd : DataW.Trod enc P w base sp held t v d p) :
    ∃ zs : List Int, zs.length = P.cellsOf t ∧ v = .agg (zs.map (Value.int .i64)).toArray ∧ p = [] := by
  obtain ⟨cs, rfl, hsz⟩ := okWide_struct ht hv
  obtain ⟨fuel, hf⟩ := hd
  obtain ⟨h1, h2⟩ := cells_of_ints m h hf
  have hcs : cs.toList = (flat m d).map (Value.int .i64) := h1
  refine ⟨flat m d, ?_, ?_, h2⟩
  · have := congrArg List.length hcs
    simp at this
    omega
  · rw [← hcs]

section
variable {H : Type} {enc : TypeId × Value → H} {P : Program}
theorem post_of_below {f : Func} {s : ChangeSpec} {apart fresh handsOn again : Bool} {W W' : World} {args : Array Value} {v : Value} {ds gs : List (DataW H)} {before pa pv : List MemPlace}
    (hW : DataW.Whole enc P f.params.toList s.vars apart W args.toList ds gs before)
    (hres : ∀ (b : Nat) (sp : Nat → Bool) (hd : Bool), DataW.TrodAll enc P W' b sp hd f.resultTypes.toList (v.resultList f.resultTypes.size) (s.fn H (ds ++ gs)).results [])
    (hargs : ∀ sp : Nat → Bool, (∀ p ∈ before, sp p.block = true) → DataW.TrodAll enc P W' 0 sp true f.params.toList args.toList (s.fn H (ds ++ gs)).args pa)
    (hvars : ∀ sp : Nat → Bool, (∀ p ∈ before, sp p.block = true) → DataW.TrodVars enc P W' sp s.vars (s.fn H (ds ++ gs)).vars pv)
    (hps : before = pa ++ pv) (hb : Below W.heap.size W W')
    (hok : ∀ (j : Nat) (t : TypeId) (r : Value), f.resultTypes[j]? = some t → (v.resultList f.resultTypes.size)[j]? = some r → Value.okWide P W' .any 0 t r) :
    s.post enc P f apart fresh handsOn again W args v W' := by
  have hlt : ∀ p ∈ before, p.block < W.heap.size := fun p hp => hW.lt p hp
  have hold : ∀ p ∈ before, (fun b => decide (b < W.heap.size)) p.block = true := fun p hp => by simpa using hlt p hp
  refine ⟨ds, gs, before, [], pa, pv, hW, hres _ _ _, hargs _ hold, hvars _ hold, World.keptBut_mono (fun p hp => ⟨hp, ?_⟩) (hb.frame (· ∈ before)), fun _ => ?_⟩
  · rw [hps, List.mem_append] at hp
    exact Or.inr hp
  · obtain ⟨_, _, _, _, _, hz, hn⟩ := hW
    refine ⟨hok, _, _, ([] ++ pa) ++ pv, ⟨[] ++ pa, pv, trodAll_append (hargs _ (fun _ _ => rfl)) (hres _ _ _), hvars _ (fun _ _ => rfl), rfl, ?_, ?_⟩, ?_⟩
    · intro b off hp
      have hin : MemPlace.cell b off ∈ before := by rw [hps]; simpa using hp
      rw [hb.frozen (hlt _ hin)]
      exact hz b off hin
    · intro ha
      have := hn ha
      rw [hps] at this
      simpa using this
    · intro p hp _
      rw [hps]
      simpa using hp
end

/-- every argument reads behind the call as before it, if below the heap's old size nothing has turned. -/
theorem trodAll_below {H : Type} {enc : TypeId × Value → H} {P : Program} (hl : laidOutB P = true) {W W' : World} (hb : Below W.heap.size W W') {sp : Nat → Bool} :
    ∀ {ts : List TypeId} {vs : List Value} {ds : List (DataW H)} {ps : List MemPlace}, (∀ t ∈ ts, P.readableRec t = true ∧ t < P.types.size) → DataW.TrodAll enc P W 0 (fun _ => true) true ts vs ds ps → (∀ p ∈ ps, p.block < W.heap.size) → (∀ p ∈ ps, sp p.block = true) →
    DataW.TrodAll enc P W' 0 sp true ts vs ds ps
  | [], [], [], _, _, h, _, _ => h
  | t :: ts, v :: vs, d :: ds, _, ht, ⟨p, q, h, hr, rfl⟩, hlt, hs => by
    have h1 := ht t (by simp)
    exact ⟨p, q, WideElems.Trod_stays hl h1.1 h1.2 h (fun x hx => hb.same (hlt x (by simp [hx]))) (fun x hx => hs x (by simp [hx])), trodAll_below hl hb (fun t' h' => ht t' (by simp [h'])) hr (fun x hx => hlt x (by simp [hx])) (fun x hx => hs x (by simp [hx])), rfl⟩
end Go.Flat

/- Contracts of mapped at each's function, of each and of some. -/
namespace Go.Proofs.YtleemphfkhbhaaaDoor
open Go.RowKit
open Calm (bcell Blk)

theorem Tryd.infoE : (Tryd.prog.info? 35).map (fun i => (i.zero, i.size, i.bytes)) = some (some (.int .i64 0), 1, 8) := by kernel_rfl
theorem each1_any (n lo hi : Int) (b1 b2 : Nat) (w : World) (h1 : w.cell? ⟨b1, 0, none⟩ = some (.int .i64 (lo))) (h2 : w.cell? ⟨b2, 0, none⟩ = some (.int .i64 (hi))) :
    Calls Tryd.prog 63 #[(.int .i64 (n)), .pointer (some ⟨b1, 0, none⟩), .pointer (some ⟨b2, 0, none⟩)] w fun r w' => r = .returned (.int .i64 (rangeErr n lo hi)) ∧ w = w' := by
  go_enter Tryd.func63, Tryd.ntmps63
  go_wp2_with (go_at_call 38; refine (within_any _ _ _ _).mono ?_; rintro r w1 ⟨rfl, rfl⟩)
  go_ret
  exact ⟨rfl, rfl⟩
def errsK (l : List Int) (lo hi : Int) (k : Nat) : List Int := (l.take k).map fun n => rangeErr n lo hi
theorem errsK_len {l : List Int} {lo hi : Int} {k : Nat} (hk : k ≤ l.length) : (errsK l lo hi k).length = k := by simp [errsK]; omega
theorem errsK_succ {l : List Int} {lo hi : Int} {k : Nat} (hk : k < l.length) : errsK l lo hi (k + 1) = errsK l lo hi k ++ [rangeErr (l.getD k 0) lo hi] := by
  unfold errsK
  rw [List.take_succ_eq_append_getElem hk, List.map_append, List.getD_eq_getElem?_getD, List.getElem?_eq_getElem hk]
  rfl
theorem errsK_all (l : List Int) (lo hi : Int) : errsK l lo hi l.length = l.map fun n => rangeErr n lo hi := by simp [errsK]
set_option maxHeartbeats 1000000 in
theorem mappedE_any (A : Option Addr) (l : List Int) (c : Nat) (lo hi : Int) (b1 b2 : Nat) (w : World) (hC : Cells w A l) (hn : l.length ≤ 5000) (g1 : b1 < w.heap.size) (g2 : b2 < w.heap.size) (h1 : w.cell? ⟨b1, 0, none⟩ = some (.int .i64 (lo))) (h2 : w.cell? ⟨b2, 0, none⟩ = some (.int .i64 (hi))) :
    Calls Tryd.prog 62 #[.slice A l.length c, .func (.func 63) #[] #[.pointer (some ⟨b1, 0, none⟩), .pointer (some ⟨b2, 0, none⟩)]] w fun r w' =>
      (∃ B d, r = .returned (.slice B l.length d) ∧ Cells w' B (l.map fun n => rangeErr n lo hi)) ∧ Below w.heap.size w w' := by
  obtain ⟨i0, hii, hz0, hz1, hz2⟩ := info_parts Tryd.infoE
  have HC := Lib.hid hC
  obtain ⟨N, hN⟩ : ∃ N, N = l.length := ⟨_, rfl⟩
  have HN := Lib.hid hN
  have HL : Hid (∀ k, k ≤ N → (errsK l lo hi k).length = k) := Lib.hid (fun k hk => errsK_len (by rw [← hN]; exact hk))
  rw [← hN] at hn ⊢
  clear hN hC
  go_enter Tryd.func62, Tryd.ntmps62
  go_wp2
  go_loopw [5, 10] (fun v i wr => ∃ k : Nat, k ≤ N ∧ i = (.int .i64 ((k : Int))) ∧ wr.ownsRow w.heap.size 35 1 v (errsK l lo hi k).length ((errsK l lo hi k).map (Value.int .i64)) ∧ Below w.heap.size w wr) (fun _ i _ => N - (intOf i).toNat)
  case atStart => exact ⟨0, Nat.zero_le _, rfl, World.ownsRow_nil _ _ _ _, Below.refl _ _⟩
  case round =>
    obtain ⟨k, hk, rfl, hown, hB⟩ := hrel
    have HO := Lib.hid hown
    have hle := Lib.hid (HL.out k hk)
    have hsz := hB.size
    clear hown
    by_cases hlt : k < N
    · obtain ⟨b, o, rfl, l1, k1⟩ := HC.out (by rw [← HN.out]; omega)
      have x1 := (hB.cell (p := ⟨b, o + k, none⟩) l1).trans (k1 k (by rw [← HN.out]; exact hlt))
      have y1 := (hB.cell (p := ⟨b1, 0, none⟩) g1).trans h1
      have y2 := (hB.cell (p := ⟨b2, 0, none⟩) g2).trans h2
      have HS := Lib.hid (errsK_succ (lo := lo) (hi := hi) (show k < l.length by rw [← HN.out]; exact hlt))
      obtain ⟨x, hx⟩ : ∃ x, x = l.getD k 0 := ⟨_, rfl⟩
      rw [← hx] at x1 HS
      clear k1 hx
      go_wp2_with (first
        | (go_at_call 63; refine (each1_any x lo hi b1 b2 _ y1 y2).mono ?_; rintro r w2 ⟨rfl, rfl⟩)
        | (at_builtin; refine wpList_append_own _ rfl _ _ 84 rfl w.heap.size 35 i0 (.int .i64 0) 1 8 Tryd.underlying84 hii hz0 hz1 hz2 rfl (by decide) _ _ _ rfl (HO.out.alloc _) ⟨wr.heap.size, 0, none⟩ 1 1 [.int .i64 (rangeErr x lo hi)] rfl rfl ?c1 ?c2 ?c3 ?c4 ?c5 ?_))
      case c1 =>
        intro j u hj
        match j, hj with
        | 0, hj => simp at hj; subst hj; simp [Addr.add]
      case c2 => intro u hu; simp at hu; subst hu; rfl
      case c3 => have := hle.out; unfold maxLen; omega
      case c4 => have := hle.out; omega
      case c5 => simp; omega
      intro v' w1 hown' hgrow _
      have hB' : Below w.heap.size w w1 := (hB.alloc hsz _).grown hgrow (by simp; omega) (fun j hj => (HO.out.lt j hj).1)
      have HO' := Lib.hid hown'
      clear hgrow hown'
      go_wp2
      go_roundw
      case rel => exact ⟨k + 1, by omega, by go_num, by rw [HS.out]; simpa using HO'.out, hB'⟩
      case measure => simp [intOf]; omega
    · obtain rfl : k = N := by omega
      have hown := HO.out
      have e : errsK l lo hi k = l.map fun n => rangeErr n lo hi := by rw [HN.out]; exact errsK_all _ _ _
      rw [hle.out, e] at hown
      obtain ⟨B, d, rfl, _, hr⟩ := own_ints hown (by simp [← HN.out])
      have HR := Lib.hid hr
      clear hown e hr
      go_wp2
      go_ret
      exact ⟨⟨B, d, rfl, HR.out⟩, hB⟩
/-- the error of a list's numbers. -/
def eachErr (l : List Int) (lo hi : Int) : Int := firstOf (l.map fun n => rangeErr n lo hi)
theorem each_any (A : Option Addr) (l : List Int) (c : Nat) (lo hi : Int) (w : World) (hC : Cells w A l) (hn : l.length ≤ 5000) :
    Calls Tryd.prog 53 #[.slice A l.length c, (.int .i64 (lo)), (.int .i64 (hi))] w fun r w' => r = .returned (.int .i64 (eachErr l lo hi)) ∧ Below w.heap.size w w' := by
  have HC := Lib.hid hC
  have HM : Hid (∀ W b1 b2, Cells W A l → b1 < W.heap.size → b2 < W.heap.size → W.cell? ⟨b1, 0, none⟩ = some (.int .i64 (lo)) → W.cell? ⟨b2, 0, none⟩ = some (.int .i64 (hi)) → Calls Tryd.prog 62 #[.slice A l.length c, .func (.func 63) #[] #[.pointer (some ⟨b1, 0, none⟩), .pointer (some ⟨b2, 0, none⟩)]] W fun r w' =>
      (∃ B d, r = .returned (.slice B l.length d) ∧ Cells w' B (l.map fun n => rangeErr n lo hi)) ∧ Below W.heap.size W w') := Lib.hid (fun W b1 b2 q1 q2 q3 q4 q5 => mappedE_any A l c lo hi b1 b2 W q1 hn q2 q3 q4 q5)
  have HF : Hid (∀ W B d, Cells W B (l.map fun n => rangeErr n lo hi) → Calls Tryd.prog 34 #[.slice B l.length d] W fun r w' => r = .returned (.int .i64 (eachErr l lo hi)) ∧ W = w') := Lib.hid (fun W B d q => by
    have e : l.length = (l.map fun n => rangeErr n lo hi).length := by simp
    rw [e]; exact first_any _ B d W (by simpa using hn) q)
  generalize l.length = N at *
  clear hC hn
  go_enter Tryd.func53, Tryd.ntmps53
  go_wp2_with (first
    | (go_at_call 62; refine (HM.out _ _ _ (HC.out.below (by (repeat (first | (with_reducible exact Below.refl _ _) | ((with_reducible refine Below.setCell ?_ ?_ _); rotate_left 1; focus (first | (simp; done) | (simp; omega) | (simp at *; omega))) | ((with_reducible refine Below.alloc ?_ ?_ _); rotate_left 1; focus (first | (simp; done) | (simp; omega) | (simp at *; omega))) | (with_reducible refine Below.drew ?_) | ((with_reducible refine Calm.step (by assumption) ?_ ?_); rotate_left 1; focus (first | (simp; done) | (simp; omega) | (simp at *; omega))))))) (by simp; omega) (by simp) (by simp) (by simp)).mono ?_; rintro r w1 ⟨⟨B, d, rfl, hC1⟩, hb1⟩; have HC1 := Lib.hid hC1; have HB1 := Lib.hid hb1; clear hC1 hb1)
    | (go_at_call 34; refine (HF.out _ _ _ HC1.out).mono ?_; rintro r w2 ⟨rfl, rfl⟩))
  go_ret
  exact ⟨rfl, Below.trans (by (repeat (first | (with_reducible exact Below.refl _ _) | ((with_reducible refine Below.setCell ?_ ?_ _); rotate_left 1; focus (first | (simp; done) | (simp; omega) | (simp at *; omega))) | ((with_reducible refine Below.alloc ?_ ?_ _); rotate_left 1; focus (first | (simp; done) | (simp; omega) | (simp at *; omega))) | (with_reducible refine Below.drew ?_) | ((with_reducible refine Calm.step (by assumption) ?_ ?_); rotate_left 1; focus (first | (simp; done) | (simp; omega) | (simp at *; omega)))))) (HB1.out.mono (by simp; omega))⟩
/-- the error of a number of elements. -/
def someErr (n most : Int) : Int := firstOf [if n = 0 then 12 else 0, if most < n then 5 else 0]
theorem some_any (A : Option Addr) (n c : Nat) (most : Int) (w : World) (hn : n ≤ 5000) :
    Calls Tryd.prog 36 #[.slice A n c, (.int .i64 (most))] w fun r w' => r = .returned (.int .i64 (someErr n most)) ∧ Below w.heap.size w w' := by
  have HF : Hid (∀ (W : World) (a b : Int), Calls Tryd.prog 34 #[.slice (some ⟨W.heap.size, 0, none⟩) 2 2] (W.alloc (.cells #[(.int .i64 (a)), (.int .i64 (b))] 35)) fun r w' => r = .returned (.int .i64 (firstOf [a, b])) ∧ (W.alloc (.cells #[(.int .i64 (a)), (.int .i64 (b))] 35)) = w') := Lib.hid (fun W a b => first_any [a, b] _ _ _ (by simp) (fun _ => ⟨_, _, rfl, by simp, fun k hk => by
    have : k = 0 ∨ k = 1 := by simp at hk; omega
    rcases this with rfl | rfl <;> simp⟩))
  by_cases h0 : n = 0 <;> by_cases h1 : most < (n : Int)
  all_goals (
    go_enter Tryd.func36, Tryd.ntmps36
    go_wp2_with (first
      | (go_at_call 40; refine (when_any _ _ _).mono ?_; rintro r w' ⟨rfl, rfl⟩)
      | (go_at_call 34; refine (HF.out _ _ _).mono ?_; rintro r w1 ⟨rfl, rfl⟩))
    go_ret
    refine ⟨ret_i ?_, by (repeat (first | (with_reducible exact Below.refl _ _) | ((with_reducible refine Below.setCell ?_ ?_ _); rotate_left 1; focus (first | (simp; done) | (simp; omega) | (simp at *; omega))) | ((with_reducible refine Below.alloc ?_ ?_ _); rotate_left 1; focus (first | (simp; done) | (simp; omega) | (simp at *; omega))) | (with_reducible refine Below.drew ?_) | ((with_reducible refine Calm.step (by assumption) ?_ ?_); rotate_left 1; focus (first | (simp; done) | (simp; omega) | (simp at *; omega)))))⟩
    unfold someErr
    congr 1
    simp only [List.cons.injEq, and_true]
    refine ⟨?_, ?_⟩ <;> (split <;> first | omega | rfl | simp_all))
end Go.Proofs.YtleemphfkhbhaaaDoor

/- Contract of ascending. -/
namespace Go.Proofs.YtleemphfkhbhaaaDoor
open Go.RowKit
open Calm (bcell Blk)

/-- the error of the number at an index. -/
def ascAt (l : List Int) (lo hi : Int) (i : Nat) : Int := firstOf [rangeErr (l.getD i 0) lo hi, if 0 < i ∧ l.getD i 0 ≤ l.getD (i - 1) 0 then 11 else 0]
def ascErr (l : List Int) (lo hi : Int) : Int := firstOf ((List.range l.length).map (ascAt l lo hi))
theorem asc_get (l : List Int) (lo hi : Int) {i : Nat} (hi' : i < l.length) : ((List.range l.length).map (ascAt l lo hi)).getD i 0 = ascAt l lo hi i := by
  simp [List.getD_eq_getElem?_getD, hi']
theorem first2_new (W : World) (a b : Int) : Calls Tryd.prog 34 #[.slice (some ⟨W.heap.size, 0, none⟩) 2 2] (W.alloc (.cells #[(.int .i64 (a)), (.int .i64 (b))] 35)) fun r w' => r = .returned (.int .i64 (firstOf [a, b])) ∧ (W.alloc (.cells #[(.int .i64 (a)), (.int .i64 (b))] 35)) = w' :=
  first_any [a, b] _ _ _ (by simp) (fun _ => ⟨_, _, rfl, by simp, fun k hk => by
    have : k = 0 ∨ k = 1 := by simp at hk; omega
    rcases this with rfl | rfl <;> simp⟩)
theorem maxJ (J : Nat) : ∀ W, (Builtin.max_ #[3, 3] 3 #[(.int .i64 (0)), (.int .i64 ((J : Int)))]).run Tryd.prog W = .ok (.int .i64 ((J : Int))) W := by
  intro W
  rcases Nat.eq_zero_or_pos J with h | h
  · subst h; go_simp; (try rfl)
  · have h1 : (0 : Int) < (J : Int) := by omega
    have h2 : ¬ (J : Int) ≤ 0 := by omega
    go_simp
    (try omega)
set_option maxHeartbeats 4000000 in
set_option maxRecDepth 100000 in
theorem ascending_any (A : Option Addr) (l : List Int) (c : Nat) (lo hi : Int) (w : World) (hC : Cells w A l) (hn : l.length ≤ 5000) :
    Calls Tryd.prog 37 #[.slice A l.length c, (.int .i64 (lo)), (.int .i64 (hi))] w fun r w' => r = .returned (.int .i64 (ascErr l lo hi)) ∧ Below w.heap.size w w' := by
  have HC := Lib.hid hC
  have HG := Lib.hid (fun i (h : i < l.length) => asc_get l lo hi h)
  have HF := Lib.hid (fun k (h : ∀ j, j < k → ((List.range l.length).map (ascAt l lo hi)).getD j 0 = 0) h1 h2 => firstOf_take (l := (List.range l.length).map (ascAt l lo hi)) (k := k) h h1 h2)
  have HZ := Lib.hid (fun h => firstOf_zero (l := (List.range l.length).map (ascAt l lo hi)) h)
  obtain ⟨N, hN⟩ : ∃ N, N = l.length := ⟨_, rfl⟩
  have HN := Lib.hid hN
  rw [← hN] at hn ⊢
  clear hN hC
  go_enter Tryd.func37, Tryd.ntmps37
  go_wp2
  go_loopw [12] (fun i wr => ∃ k : Nat, k ≤ N ∧ i = (.int .i64 ((k : Int))) ∧ (∀ j, j < k → ascAt l lo hi j = 0) ∧ Below w.heap.size w wr) (fun i _ => N - (intOf i).toNat)
  case atStart => exact ⟨0, Nat.zero_le _, rfl, fun j hj => by omega, Below.refl _ _⟩
  case round =>
    obtain ⟨k, hk, rfl, hz, hB⟩ := hrel
    have HZK := Lib.hid hz
    have hsz := hB.size
    clear hz
    by_cases hlt : k < N
    · obtain ⟨b, o, rfl, l1, k1⟩ := HC.out (by rw [← HN.out]; omega)
      have x1 := (hB.cell (p := ⟨b, o + k, none⟩) l1).trans (k1 k (by rw [← HN.out]; exact hlt))
      have HNX : Hid (ascAt l lo hi k = 0 → ∀ j, j < k + 1 → ascAt l lo hi j = 0) := Lib.hid (fun h j hj => by
        rcases Nat.lt_or_ge j k with h2 | h2
        · exact HZK.out j h2
        · obtain rfl : j = k := by omega
          exact h)
      have HER : Hid (ascAt l lo hi k ≠ 0 → ascErr l lo hi = ascAt l lo hi k) := Lib.hid (fun h => by
        have e := HG.out k (show k < l.length by rw [← HN.out]; exact hlt)
        have := HF.out k (fun j hj => by rw [HG.out j (by rw [← HN.out]; omega)]; exact HZK.out j hj) (by simp [← HN.out]; exact hlt) (by rw [e]; exact h)
        exact this.trans e)
      have HE : Hid (ascAt l lo hi k = firstOf [rangeErr (l.getD k 0) lo hi, if 0 < k ∧ l.getD k 0 ≤ l.getD (k - 1) 0 then 11 else 0]) := Lib.hid rfl
      obtain ⟨x, hx⟩ : ∃ x, x = l.getD k 0 := ⟨_, rfl⟩
      obtain ⟨E, hE⟩ : ∃ E, E = ascAt l lo hi k := ⟨_, rfl⟩
      rw [← hx] at x1 HE
      rw [← hE] at HE HER HNX
      have HB := Lib.hid hB
      rcases Nat.eq_zero_or_pos k with h0 | h0
      · have f0 : ¬ 0 < k := by omega
        have HE2 : Hid (firstOf [rangeErr x lo hi, 0] = E) := Lib.hid (by rw [HE.out, if_neg (c := 0 < k ∧ _) (by omega)])
        have H0 := Lib.hid h0
        clear HE hE hx k1 hB h0
        by_cases hE0 : E = 0
        · have HX := Lib.hid (HNX.out hE0)
          rw [hE0] at HE2
          clear HER HNX
          go_wp2_with (first
          | (go_at_call 38; refine (within_any _ _ _ _).mono ?_; rintro r w' ⟨rfl, rfl⟩)
          | (go_at_call 40; refine (when_any _ _ _).mono ?_; rintro r w' ⟨rfl, rfl⟩)
          | (go_at_call 34; refine (first2_new _ _ _).mono ?_; rintro r w1 ⟨rfl, rfl⟩; rw [HE2.out]))
          go_roundw
          case rel => exact ⟨k + 1, by omega, by go_num, HX.out, by first | exact HB.out | exact HB.out.alloc hsz _⟩
          case measure => simp [intOf]; omega
        · have HX := Lib.hid (HER.out hE0)
          clear HER HNX
          go_wp2_with (first
          | (go_at_call 38; refine (within_any _ _ _ _).mono ?_; rintro r w' ⟨rfl, rfl⟩)
          | (go_at_call 40; refine (when_any _ _ _).mono ?_; rintro r w' ⟨rfl, rfl⟩)
          | (go_at_call 34; refine (first2_new _ _ _).mono ?_; rintro r w1 ⟨rfl, rfl⟩; rw [HE2.out]))
          go_ret
          exact ⟨ret_i HX.out.symm, by first | exact HB.out | exact HB.out.alloc hsz _⟩
      · have f0 : 0 < k := by omega
        obtain ⟨J, hJ0⟩ : ∃ J : Nat, J = k - 1 := ⟨_, rfl⟩
        have hJ : (k : Int) - 1 = (J : Int) := by omega
        have hJn : (J : Int) < (N : Int) := by omega
        have x2 := (hB.cell (p := ⟨b, o + J, none⟩) l1).trans (k1 J (by rw [← HN.out]; omega))
        obtain ⟨x0, hx0⟩ : ∃ x0, x0 = l.getD J 0 := ⟨_, rfl⟩
        rw [← hx0] at x2
        have hmax := maxJ J
        by_cases h5 : x ≤ x0
        · have HE2 : Hid (firstOf [rangeErr x lo hi, 11] = E) := Lib.hid (by rw [HE.out, ← hJ0, ← hx0, if_pos ⟨h0, h5⟩])
          have HJ := Lib.hid hJ0
          have H0 := Lib.hid h0
          clear HE hE hx k1 hB hx0 hJ0 h0
          by_cases hE0 : E = 0
          · have HX := Lib.hid (HNX.out hE0)
            rw [hE0] at HE2
            clear HER HNX
            go_wp2_with (first
            | (go_at_call 38; refine (within_any _ _ _ _).mono ?_; rintro r w' ⟨rfl, rfl⟩)
            | (go_at_call 40; refine (when_any _ _ _).mono ?_; rintro r w' ⟨rfl, rfl⟩)
            | (go_at_call 34; refine (first2_new _ _ _).mono ?_; rintro r w1 ⟨rfl, rfl⟩; rw [HE2.out]))
            go_roundw
            case rel => exact ⟨k + 1, by omega, by go_num, HX.out, by first | exact HB.out | exact HB.out.alloc hsz _⟩
            case measure => simp [intOf]; omega
          · have HX := Lib.hid (HER.out hE0)
            clear HER HNX
            go_wp2_with (first
            | (go_at_call 38; refine (within_any _ _ _ _).mono ?_; rintro r w' ⟨rfl, rfl⟩)
            | (go_at_call 40; refine (when_any _ _ _).mono ?_; rintro r w' ⟨rfl, rfl⟩)
            | (go_at_call 34; refine (first2_new _ _ _).mono ?_; rintro r w1 ⟨rfl, rfl⟩; rw [HE2.out]))
            go_ret
            exact ⟨ret_i HX.out.symm, by first | exact HB.out | exact HB.out.alloc hsz _⟩
        · have HE2 : Hid (firstOf [rangeErr x lo hi, 0] = E) := Lib.hid (by rw [HE.out, ← hJ0, ← hx0, if_neg (fun h => h5 h.2)])
          have HJ := Lib.hid hJ0
          have H0 := Lib.hid h0
          clear HE hE hx k1 hB hx0 hJ0 h0
          by_cases hE0 : E = 0
          · have HX := Lib.hid (HNX.out hE0)
            rw [hE0] at HE2
            clear HER HNX
            go_wp2_with (first
            | (go_at_call 38; refine (within_any _ _ _ _).mono ?_; rintro r w' ⟨rfl, rfl⟩)
            | (go_at_call 40; refine (when_any _ _ _).mono ?_; rintro r w' ⟨rfl, rfl⟩)
            | (go_at_call 34; refine (first2_new _ _ _).mono ?_; rintro r w1 ⟨rfl, rfl⟩; rw [HE2.out]))
            go_roundw
            case rel => exact ⟨k + 1, by omega, by go_num, HX.out, by first | exact HB.out | exact HB.out.alloc hsz _⟩
            case measure => simp [intOf]; omega
          · have HX := Lib.hid (HER.out hE0)
            clear HER HNX
            go_wp2_with (first
            | (go_at_call 38; refine (within_any _ _ _ _).mono ?_; rintro r w' ⟨rfl, rfl⟩)
            | (go_at_call 40; refine (when_any _ _ _).mono ?_; rintro r w' ⟨rfl, rfl⟩)
            | (go_at_call 34; refine (first2_new _ _ _).mono ?_; rintro r w1 ⟨rfl, rfl⟩; rw [HE2.out]))
            go_ret
            exact ⟨ret_i HX.out.symm, by first | exact HB.out | exact HB.out.alloc hsz _⟩
    · obtain rfl : k = N := by omega
      have e := Lib.hid (HZ.out (fun j hj => by simp [← HN.out] at hj; rw [HG.out j (by rw [← HN.out]; exact hj)]; exact HZK.out j hj))
      go_wp2
      go_ret
      exact ⟨ret_i e.out.symm, hB⟩
end Go.Proofs.YtleemphfkhbhaaaDoor
