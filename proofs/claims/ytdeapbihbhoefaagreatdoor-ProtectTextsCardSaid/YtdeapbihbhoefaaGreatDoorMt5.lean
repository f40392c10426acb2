/- Part 5 of the texts of the claim: P6, P7, P8, P10, Alloc3. -/
import Derived.Test.YtdeapbihbhoefaaGreatDoorMt4
import Derived.WalkSmall
import Derived.WalkMore
import Derived.Test.YtdeapbihbhoefaaGreatDoorMt2

/- Contracts of the third condition and of (Guard).fine. -/
namespace Go.Proofs.YtdeapbihbhoefaaGreatDoor
open Go.RowKit
open Calm (bcell Blk)

theorem tailsF_in {ts ps : List Int} (h1 : inB 64 ts) (h2 : inB 2048 ps) (hn : ps.length ≤ 7) : inB 1099511627776 (tailsF ts ps) := by
  intro x hx
  obtain ⟨k, _, rfl⟩ := List.mem_map.1 hx
  have := exK_bd h1 (psK_in h2 (by omega) k) (y := 0) (by omega) (psK ps k).length
  rw [psK_len] at this
  unfold exF
  rw [psK_len]
  omega
def farAny (rc : Int) (l : List Int) : Bool := l.any fun x => decide (rc < absI x)

set_option maxHeartbeats 1000000 in
theorem cond3_any (lk ht rc h lv x : Int) (ts ps : List Int) (A1 A2 A3 : Option Addr) (c1 n2 c2 c3 : Nat) (w : World) (hlk : 1 ≤ lk ∧ lk ≤ 8) (hh : 0 ≤ h ∧ h ≤ 1099511627776) (hT : Cells w A1 ts) (hP : Cells w A3 ps)
    (hn : ts.length = ps.length + 1) (hn2 : ps.length ≤ 7) (bT : inB 64 ts) (bP : inB 2048 ps) :
    Calls Tryz.prog 139 #[.agg #[(.int .i64 lk), (.int .i64 ht), .slice A1 ts.length c1, (.int .i64 rc), .slice A2 n2 c2], .agg #[(.int .i64 h), (.int .i64 lv), .slice A3 ps.length c3], (.int .i64 x)] w fun r w' => r = .returned (.bool (!farAny rc (tailsF ts ps))) ∧ Below w.heap.size w w' := by
  have HT := Lib.hid hT
  have HP := Lib.hid hP
  have HI := Lib.hid (tailsF_in bT bP hn2)
  obtain ⟨M, hM⟩ : ∃ M, M = ts.length := ⟨_, rfl⟩
  obtain ⟨N, hN⟩ : ∃ N, N = ps.length := ⟨_, rfl⟩
  have HXX : Hid (∀ W, Cells W A1 ts → Cells W A3 ps → Calls Tryz.prog 54 #[.agg #[(.int .i64 lk), (.int .i64 ht), .slice A1 M c1, (.int .i64 rc), .slice A2 n2 c2], .agg #[(.int .i64 h), (.int .i64 lv), .slice A3 N c3]] W fun r w' => (∃ B c, r = .returned (.slice B N c) ∧ (∀ p, B = some p → W.heap.size ≤ p.block) ∧ Cells w' B (tailsF ts ps)) ∧ Below W.heap.size W w') := Lib.hid (fun W q1 q2 => by
    rw [hM, hN]; exact tails_any lk ht rc h lv ts ps A1 A2 A3 c1 n2 c2 c3 W hlk hh q1 q2 hn hn2 bT bP)
  have HL : Hid (∀ W B c, Cells W B (tailsF ts ps) → Calls Tryz.prog 140 #[.slice B N c, .func (.func 138) #[.agg #[(.int .i64 lk), (.int .i64 ht), .slice A1 M c1, (.int .i64 rc), .slice A2 n2 c2]] #[]] W fun r w' => r = .returned (.bool (farAny rc (tailsF ts ps))) ∧ Below W.heap.size W w') := Lib.hid (fun W B c q => by
    have e : N = (tailsF ts ps).length := by rw [hN]; exact (tailsL_len _ _ _).symm
    rw [e]; exact containsFar_any lk ht rc (tailsF ts ps) A1 A2 B M c1 n2 c2 c W q (by unfold tailsF; rw [tailsL_len]; omega) HI.out)
  obtain ⟨X, hX⟩ : ∃ X, X = farAny rc (tailsF ts ps) := ⟨_, rfl⟩
  rw [← hX] at HL ⊢
  rw [← hM, ← hN]
  clear hX hM hN hT hP hn hn2 bT bP
  go_enter Tryz.func139, Tryz.ntmps139
  go_wp2
  refine Rel.region3 5 (by kernel_rfl) (by kernel_rfl) (by kernel_rfl) ?_
  simp only [List.take_succ_cons, List.take_zero, List.drop_succ_cons, List.drop_zero, List.filterMap_cons, List.filterMap_nil]
  iterate 2 (apply Rel.op3; (focus (first | exact Rel.gno rfl | exact Rel.gyes _ true _ rfl rfl rfl | exact Rel.gyes _ false _ rfl rfl rfl)); (focus (intro a W hb hd hbase; obtain ⟨hc, hf⟩ := bcell hb; clear hb hf; simp [Rel.deps, Rel.dep1, Rel.ons, Region.binds, Act.eval] at hd; simp only [Act.eval, List.mem_cons, List.not_mem_nil, not_or, and_imp, or_false, Array.getD_eq_getD_getElem?] at hbase; go_simp; (try go_bits); (try rfl); done)); (try simp only [List.nil_append, List.cons_append]))
  refine Rel.callR3 (fun u W => ∃ B c, u = .slice B N c ∧ Cells W B (tailsF ts ps)) (fun u W W' ⟨B, c, h1, h2⟩ hb => ⟨B, c, h1, h2.below hb⟩) (Rel.gno rfl) ?_ ?_
  · intro a W hb hd hbase
    have k1 := HT.out.below (Below.trans (by (repeat (first | (with_reducible exact Below.refl _ _) | ((with_reducible refine Below.setCell ?_ ?_ _); rotate_left 1; focus (first | (simp; done) | (simp; omega) | (simp at *; omega))) | ((with_reducible refine Below.alloc ?_ ?_ _); rotate_left 1; focus (first | (simp; done) | (simp; omega) | (simp at *; omega))) | (with_reducible refine Below.drew ?_) | ((with_reducible refine Calm.step (by assumption) ?_ ?_); rotate_left 1; focus (first | (simp; done) | (simp; omega) | (simp at *; omega)))))) (hb.mono (by simp; omega)))
    have k2 := HP.out.below (Below.trans (by (repeat (first | (with_reducible exact Below.refl _ _) | ((with_reducible refine Below.setCell ?_ ?_ _); rotate_left 1; focus (first | (simp; done) | (simp; omega) | (simp at *; omega))) | ((with_reducible refine Below.alloc ?_ ?_ _); rotate_left 1; focus (first | (simp; done) | (simp; omega) | (simp at *; omega))) | (with_reducible refine Below.drew ?_) | ((with_reducible refine Calm.step (by assumption) ?_ ?_); rotate_left 1; focus (first | (simp; done) | (simp; omega) | (simp at *; omega)))))) (hb.mono (by simp; omega)))
    refine ⟨54, #[.agg #[(.int .i64 lk), (.int .i64 ht), .slice A1 M c1, (.int .i64 rc), .slice A2 n2 c2], .agg #[(.int .i64 h), (.int .i64 lv), .slice A3 N c3]], ?_, (HXX.out W k1 k2).mono (fun e W' ⟨⟨B, c, h1, _, h3⟩, h4⟩ => ⟨_, h1, ⟨B, c, rfl, h3⟩, h4⟩)⟩
    clear k1 k2
    obtain ⟨hc, hf⟩ := bcell hb
    clear hb hf
    simp [Rel.deps, Rel.dep1, Rel.ons, Region.binds, Act.eval] at hd
    simp only [Act.eval, List.mem_cons, List.not_mem_nil, not_or, and_imp, or_false, Array.getD_eq_getD_getElem?] at hbase
    go_simp
    (first | done | rfl | (refine ⟨?_, ?_⟩ <;> rfl))
  (try simp only [List.nil_append, List.cons_append])
  iterate 2 (apply Rel.op3; (focus (first | exact Rel.gno rfl | exact Rel.gyes _ true _ rfl rfl rfl | exact Rel.gyes _ false _ rfl rfl rfl)); (focus (intro a W hb hd hbase; obtain ⟨hc, hf⟩ := bcell hb; clear hb hf; simp [Rel.deps, Rel.dep1, Rel.ons, Region.binds, Act.eval] at hd; simp only [Act.eval, List.mem_cons, List.not_mem_nil, not_or, and_imp, or_false, Array.getD_eq_getD_getElem?] at hbase; go_simp; (try go_bits); (try rfl); done)); (try simp only [List.nil_append, List.cons_append]))
  refine Rel.done3 ?_
  intro x1 w1 hb1 hx
  simp only [Rel.facts, Nat.zero_add, Nat.reduceAdd] at hx
  obtain ⟨e0, e1, ⟨B, c, e2, hCB⟩, e3, e4, _⟩ := hx
  simp only [Rel.fill, Nat.zero_add, Nat.reduceAdd, e0, e1, e2, e3, e4]
  simp only [Act.put, List.setIfInBounds_toArray, List.set_cons_zero, List.set_cons_succ]
  clear e0 e1 e2 e3 e4
  have HCB := Lib.hid hCB
  have HB1 : Hid (Below w.heap.size w w1) := Lib.hid (Below.trans (by (repeat (first | (with_reducible exact Below.refl _ _) | ((with_reducible refine Below.setCell ?_ ?_ _); rotate_left 1; focus (first | (simp; done) | (simp; omega) | (simp at *; omega))) | ((with_reducible refine Below.alloc ?_ ?_ _); rotate_left 1; focus (first | (simp; done) | (simp; omega) | (simp at *; omega))) | (with_reducible refine Below.drew ?_) | ((with_reducible refine Calm.step (by assumption) ?_ ?_); rotate_left 1; focus (first | (simp; done) | (simp; omega) | (simp at *; omega)))))) (hb1.mono (by simp; omega)))
  have hs1 := HB1.out.size
  clear hCB hb1
  go_wp2_with (go_at_call 140; refine (HL.out _ _ _ HCB.out).mono ?_; rintro r w2 ⟨rfl, hb2⟩)
  go_ret
  exact ⟨rfl, HB1.out.trans (hb2.mono hs1)⟩
end Go.Proofs.YtdeapbihbhoefaaGreatDoor

/- Contract of (Guard).fine: whether a state behind an output keeps all conditions. -/
namespace Go.Proofs.YtdeapbihbhoefaaGreatDoor
open Go.RowKit
open Calm (bcell Blk)

/-- what the program's variables hold. -/
structure Lim (w : World) : Prop where
  lt : 0 < w.heap.size
  c0 : w.cell? ⟨0, 0, none⟩ = some (.func (.func 136) #[] #[])
  c1 : w.cell? ⟨0, 1, none⟩ = some (.func (.func 137) #[] #[])
  c2 : w.cell? ⟨0, 2, none⟩ = some (.func (.func 139) #[] #[])
theorem Lim.below {w w' : World} (h : Lim w) (hb : Below w.heap.size w w') : Lim w' :=
  ⟨Nat.lt_of_lt_of_le h.lt hb.size, (hb.cell (p := ⟨0, 0, none⟩) h.lt).trans h.c0, (hb.cell (p := ⟨0, 1, none⟩) h.lt).trans h.c1, (hb.cell (p := ⟨0, 2, none⟩) h.lt).trans h.c2⟩
/-- whether a state behind an output, with an excursion, keeps all limits. -/
def fineF (ht rc h x : Int) (ts ps : List Int) : Bool := decide (h ≤ ht) && !decide (rc < absI x) && !farAny rc (tailsF ts ps)

theorem Tryz.sizeCond : (Tryz.prog.info? 142).map (·.size) = some 1 := by kernel_rfl
theorem Tryz.aggCond : (match Tryz.prog.underlying 142 with | some (.struct _ ..) => true | _ => false) = true := by kernel_rfl
theorem idxCond (a b c : Value) (k : Nat) (hk : k < 3) (W : World) : Sem.run Tryz.prog (Instr.index 143 (.agg #[a, b, c]) (.int .i64 ((k : Int)))) W = .ok (.agg #[#[a, b, c][k]]) W := by
  have ht : Tryz.prog.underlying 143 = some (.array 3 142) := by kernel_rfl
  have hs := Tryz.sizeCond
  have h3 : (0 : Int) ≤ k ∧ (k : Int) < 3 := by omega
  obtain ⟨i, hi, hs⟩ := Option.map_eq_some_iff.1 hs
  have ha := Tryz.aggCond
  cases hu : Tryz.prog.underlying 142 with
  | none => rw [hu] at ha; cases ha
  | some d =>
    rw [hu] at ha
    have hrun := run_underlying (P := Tryz.prog) hu
    cases d <;> first | cases ha | skip
    simp [Instr.index, run_underlying ht, asIntOf, sizeOf, typeInfo, hi, hs, h3, part, isAgg, hrun, hk]
    obtain rfl | rfl | rfl : k = 0 ∨ k = 1 ∨ k = 2 := by omega
    all_goals rfl

set_option maxHeartbeats 2000000 in
set_option maxRecDepth 100000 in
theorem fine_any (lk ht rc h lv x : Int) (ts ps : List Int) (A1 A2 A3 : Option Addr) (c1 n2 c2 c3 : Nat) (w : World) (hL : Lim w) (hlk : 1 ≤ lk ∧ lk ≤ 8) (hh : 0 ≤ h ∧ h ≤ 1099511627776) (hT : Cells w A1 ts) (hP : Cells w A3 ps)
    (hn : ts.length = ps.length + 1) (hn2 : ps.length ≤ 7) (bT : inB 64 ts) (bP : inB 2048 ps) (hx : -1099511627776 ≤ x ∧ x ≤ 1099511627776) :
    Calls Tryz.prog 80 #[.agg #[(.int .i64 lk), (.int .i64 ht), .slice A1 ts.length c1, (.int .i64 rc), .slice A2 n2 c2], .agg #[(.int .i64 h), (.int .i64 lv), .slice A3 ps.length c3], (.int .i64 x)] w fun r w' => r = .returned (.bool (fineF ht rc h x ts ps)) ∧ Below w.heap.size w w' := by
  have HT := Lib.hid hT
  have HP := Lib.hid hP
  obtain ⟨M, hM⟩ : ∃ M, M = ts.length := ⟨_, rfl⟩
  obtain ⟨N, hN⟩ : ∃ N, N = ps.length := ⟨_, rfl⟩
  have H1 : Hid (∀ W, Calls Tryz.prog 136 #[.agg #[(.int .i64 lk), (.int .i64 ht), .slice A1 M c1, (.int .i64 rc), .slice A2 n2 c2], .agg #[(.int .i64 h), (.int .i64 lv), .slice A3 N c3], (.int .i64 x)] W fun r w' => r = .returned (.bool (decide (h ≤ ht))) ∧ Below W.heap.size W w') := Lib.hid (fun W => cond1_any lk ht rc h lv x A1 A2 A3 M c1 n2 c2 N c3 W)
  have H2 : Hid (∀ W, Calls Tryz.prog 137 #[.agg #[(.int .i64 lk), (.int .i64 ht), .slice A1 M c1, (.int .i64 rc), .slice A2 n2 c2], .agg #[(.int .i64 h), (.int .i64 lv), .slice A3 N c3], (.int .i64 x)] W fun r w' => r = .returned (.bool (!decide (rc < absI x))) ∧ Below W.heap.size W w') := Lib.hid (fun W => cond2_any lk ht rc h lv x A1 A2 A3 M c1 n2 c2 N c3 W hx)
  have H3 : Hid (∀ W, Cells W A1 ts → Cells W A3 ps → Calls Tryz.prog 139 #[.agg #[(.int .i64 lk), (.int .i64 ht), .slice A1 M c1, (.int .i64 rc), .slice A2 n2 c2], .agg #[(.int .i64 h), (.int .i64 lv), .slice A3 N c3], (.int .i64 x)] W fun r w' => r = .returned (.bool (!farAny rc (tailsF ts ps))) ∧ Below W.heap.size W w') := Lib.hid (fun W q1 q2 => by
    rw [hM, hN]; exact cond3_any lk ht rc h lv x ts ps A1 A2 A3 c1 n2 c2 c3 W hlk hh q1 q2 hn hn2 bT bP)
  unfold fineF
  obtain ⟨X1, hX1⟩ : ∃ X, X = decide (h ≤ ht) := ⟨_, rfl⟩
  obtain ⟨X2, hX2⟩ : ∃ X, X = !decide (rc < absI x) := ⟨_, rfl⟩
  obtain ⟨X3, hX3⟩ : ∃ X, X = !farAny rc (tailsF ts ps) := ⟨_, rfl⟩
  rw [← hX1] at H1 ⊢
  rw [← hX2] at H2 ⊢
  rw [← hX3] at H3 ⊢
  rw [← hM, ← hN]
  obtain ⟨l0, d0, d1, d2⟩ := hL
  clear hX1 hX2 hX3 hM hN hT hP hn hn2 bT bP hlk hh hx
  have l1 : 0 < w.heap.size + 1 := by omega
  have hx0 : ∀ W : World, Sem.run Tryz.prog (Instr.index 143 (.agg #[.func (.func 136) #[] #[], .func (.func 137) #[] #[], .func (.func 139) #[] #[]]) (.int .i64 0)) W = .ok (.agg #[.func (.func 136) #[] #[]]) W := fun W => idxCond _ _ _ 0 (by omega) W
  have hx1 : ∀ W : World, Sem.run Tryz.prog (Instr.index 143 (.agg #[.func (.func 136) #[] #[], .func (.func 137) #[] #[], .func (.func 139) #[] #[]]) (.int .i64 1)) W = .ok (.agg #[.func (.func 137) #[] #[]]) W := fun W => idxCond _ _ _ 1 (by omega) W
  have hx2 : ∀ W : World, Sem.run Tryz.prog (Instr.index 143 (.agg #[.func (.func 136) #[] #[], .func (.func 137) #[] #[], .func (.func 139) #[] #[]]) (.int .i64 2)) W = .ok (.agg #[.func (.func 139) #[] #[]]) W := fun W => idxCond _ _ _ 2 (by omega) W
  have hst : ∀ (W : World) (t : TypeId) (f : FuncId), Sem.run Tryz.prog (store ⟨W.heap.size, 0, none⟩ (.func (.func f) #[] #[])) (W.alloc (.cells #[.nilFunc] t)) = .ok () (W.alloc (.cells #[.func (.func f) #[] #[]] t)) := by
    intro W t f
    rw [run_store _ _ _ _ _ rfl]
    simp
    simp [go_sem]
  go_enter Tryz.func80, Tryz.ntmps80
  go_wp2
  go_loopw [10] (fun i wr => ∃ k : Nat, k ≤ 3 ∧ i = (.int .i64 k) ∧ (0 < k → X1 = true) ∧ (1 < k → X2 = true) ∧ (2 < k → X3 = true) ∧ Blk wr w.heap.size #[(.int .i64 lk), (.int .i64 ht), .slice A1 M c1, (.int .i64 rc), .slice A2 n2 c2] ∧ Blk wr (w.heap.size + 1) #[(.int .i64 h), (.int .i64 lv), .slice A3 N c3] ∧ Below w.heap.size w wr) (fun i _ => 3 - (intOf i).toNat)
  case atStart => exact ⟨0, by omega, rfl, fun h => absurd h (by omega), fun h => absurd h (by omega), fun h => absurd h (by omega), by (repeat (first | ((with_reducible refine Blk.at_ ?_); focus (first | rfl | (simp; done) | (simp; omega))) | (with_reducible refine Blk.alloc ?_ _) | (with_reducible refine Blk.below ?_ (by with_reducible assumption)) | (with_reducible refine Blk.drew ?_))), by (repeat (first | ((with_reducible refine Blk.at_ ?_); focus (first | rfl | (simp; done) | (simp; omega))) | (with_reducible refine Blk.alloc ?_ _) | (with_reducible refine Blk.below ?_ (by with_reducible assumption)) | (with_reducible refine Blk.drew ?_))), by (repeat (first | (with_reducible exact Below.refl _ _) | ((with_reducible refine Below.setCell ?_ ?_ _); rotate_left 1; focus (first | (simp; done) | (simp; omega) | (simp at *; omega))) | ((with_reducible refine Below.alloc ?_ ?_ _); rotate_left 1; focus (first | (simp; done) | (simp; omega) | (simp at *; omega))) | (with_reducible refine Below.drew ?_) | ((with_reducible refine Calm.step (by assumption) ?_ ?_); rotate_left 1; focus (first | (simp; done) | (simp; omega) | (simp at *; omega)))))⟩
  case round =>
    obtain ⟨k, hk, rfl, hf0, hf1, hf2, K0, K1, hB⟩ := hrel
    have HF0 := Lib.hid hf0
    have HF1 := Lib.hid hf1
    have HF2 := Lib.hid hf2
    have HB := Lib.hid hB
    have hsz := hB.size
    obtain ⟨c00, c01, c02, c03, c04, m0, f0⟩ := K0.o5
    obtain ⟨c10, c11, c12, m1, f1⟩ := K1.o3
    have HK0 := Lib.hid K0
    have HK1 := Lib.hid K1
    have hsz1 : w.heap.size < wr.heap.size + 1 := by omega
    have hsz2 : w.heap.size + 1 < wr.heap.size + 1 := by omega
    clear hf0 hf1 hf2 hB K0 K1 d0 d1 d2
    obtain rfl | rfl | rfl | rfl : k = 0 ∨ k = 1 ∨ k = 2 ∨ k = 3 := by omega
    · have hcT := Lib.hid (HT.out.below HB.out)
      have hcP := Lib.hid (HP.out.below HB.out)
      cases X1 with
      | false =>
        go_wp2_with (go_at_call 136; refine (H1.out _).mono ?_; rintro r w1 ⟨rfl, hb1⟩)
        go_ret
        exact ⟨by first | rfl | (cases X1 <;> cases X2 <;> rfl) | simp, Below.trans HB.out (Below.trans (by (repeat (first | (with_reducible exact Below.refl _ _) | ((with_reducible refine Below.setCell ?_ ?_ _); rotate_left 1; focus (first | (simp; done) | (simp; omega) | (simp at *; omega))) | ((with_reducible refine Below.alloc ?_ ?_ _); rotate_left 1; focus (first | (simp; done) | (simp; omega) | (simp at *; omega))) | (with_reducible refine Below.drew ?_) | ((with_reducible refine Calm.step (by assumption) ?_ ?_); rotate_left 1; focus (first | (simp; done) | (simp; omega) | (simp at *; omega)))))) (hb1.mono (by simp; try omega)))⟩
      | true =>
        go_wp2_with (go_at_call 136; refine (H1.out _).mono ?_; rintro r w1 ⟨rfl, hb1⟩)
        go_roundw
        case rel => exact ⟨1, by omega, by rfl, fun _ => trivial, fun h => absurd h (by omega), fun h => absurd h (by omega), (HK0.out.alloc _).below hb1, (HK1.out.alloc _).below hb1, Below.trans HB.out (Below.trans (by (repeat (first | (with_reducible exact Below.refl _ _) | ((with_reducible refine Below.setCell ?_ ?_ _); rotate_left 1; focus (first | (simp; done) | (simp; omega) | (simp at *; omega))) | ((with_reducible refine Below.alloc ?_ ?_ _); rotate_left 1; focus (first | (simp; done) | (simp; omega) | (simp at *; omega))) | (with_reducible refine Below.drew ?_) | ((with_reducible refine Calm.step (by assumption) ?_ ?_); rotate_left 1; focus (first | (simp; done) | (simp; omega) | (simp at *; omega)))))) (hb1.mono (by simp; try omega)))⟩
        case measure => simp [intOf]
    · have hcT := Lib.hid (HT.out.below HB.out)
      have hcP := Lib.hid (HP.out.below HB.out)
      cases X2 with
      | false =>
        go_wp2_with (go_at_call 137; refine (H2.out _).mono ?_; rintro r w1 ⟨rfl, hb1⟩)
        go_ret
        exact ⟨by first | rfl | (cases X1 <;> cases X2 <;> rfl) | simp, Below.trans HB.out (Below.trans (by (repeat (first | (with_reducible exact Below.refl _ _) | ((with_reducible refine Below.setCell ?_ ?_ _); rotate_left 1; focus (first | (simp; done) | (simp; omega) | (simp at *; omega))) | ((with_reducible refine Below.alloc ?_ ?_ _); rotate_left 1; focus (first | (simp; done) | (simp; omega) | (simp at *; omega))) | (with_reducible refine Below.drew ?_) | ((with_reducible refine Calm.step (by assumption) ?_ ?_); rotate_left 1; focus (first | (simp; done) | (simp; omega) | (simp at *; omega)))))) (hb1.mono (by simp; try omega)))⟩
      | true =>
        go_wp2_with (go_at_call 137; refine (H2.out _).mono ?_; rintro r w1 ⟨rfl, hb1⟩)
        go_roundw
        case rel => exact ⟨2, by omega, by rfl, fun h => HF0.out (by omega), fun _ => trivial, fun h => absurd h (by omega), (HK0.out.alloc _).below hb1, (HK1.out.alloc _).below hb1, Below.trans HB.out (Below.trans (by (repeat (first | (with_reducible exact Below.refl _ _) | ((with_reducible refine Below.setCell ?_ ?_ _); rotate_left 1; focus (first | (simp; done) | (simp; omega) | (simp at *; omega))) | ((with_reducible refine Below.alloc ?_ ?_ _); rotate_left 1; focus (first | (simp; done) | (simp; omega) | (simp at *; omega))) | (with_reducible refine Below.drew ?_) | ((with_reducible refine Calm.step (by assumption) ?_ ?_); rotate_left 1; focus (first | (simp; done) | (simp; omega) | (simp at *; omega)))))) (hb1.mono (by simp; try omega)))⟩
        case measure => simp [intOf]
    · have hcT := Lib.hid (HT.out.below HB.out)
      have hcP := Lib.hid (HP.out.below HB.out)
      cases X3 with
      | false =>
        go_wp2_with (go_at_call 139; refine (H3.out _ (hcT.out.below (by (repeat (first | (with_reducible exact Below.refl _ _) | ((with_reducible refine Below.setCell ?_ ?_ _); rotate_left 1; focus (first | (simp; done) | (simp; omega) | (simp at *; omega))) | ((with_reducible refine Below.alloc ?_ ?_ _); rotate_left 1; focus (first | (simp; done) | (simp; omega) | (simp at *; omega))) | (with_reducible refine Below.drew ?_) | ((with_reducible refine Calm.step (by assumption) ?_ ?_); rotate_left 1; focus (first | (simp; done) | (simp; omega) | (simp at *; omega))))))) (hcP.out.below (by (repeat (first | (with_reducible exact Below.refl _ _) | ((with_reducible refine Below.setCell ?_ ?_ _); rotate_left 1; focus (first | (simp; done) | (simp; omega) | (simp at *; omega))) | ((with_reducible refine Below.alloc ?_ ?_ _); rotate_left 1; focus (first | (simp; done) | (simp; omega) | (simp at *; omega))) | (with_reducible refine Below.drew ?_) | ((with_reducible refine Calm.step (by assumption) ?_ ?_); rotate_left 1; focus (first | (simp; done) | (simp; omega) | (simp at *; omega)))))))).mono ?_; rintro r w1 ⟨rfl, hb1⟩)
        go_ret
        exact ⟨by first | rfl | (cases X1 <;> cases X2 <;> rfl) | simp, Below.trans HB.out (Below.trans (by (repeat (first | (with_reducible exact Below.refl _ _) | ((with_reducible refine Below.setCell ?_ ?_ _); rotate_left 1; focus (first | (simp; done) | (simp; omega) | (simp at *; omega))) | ((with_reducible refine Below.alloc ?_ ?_ _); rotate_left 1; focus (first | (simp; done) | (simp; omega) | (simp at *; omega))) | (with_reducible refine Below.drew ?_) | ((with_reducible refine Calm.step (by assumption) ?_ ?_); rotate_left 1; focus (first | (simp; done) | (simp; omega) | (simp at *; omega)))))) (hb1.mono (by simp; try omega)))⟩
      | true =>
        go_wp2_with (go_at_call 139; refine (H3.out _ (hcT.out.below (by (repeat (first | (with_reducible exact Below.refl _ _) | ((with_reducible refine Below.setCell ?_ ?_ _); rotate_left 1; focus (first | (simp; done) | (simp; omega) | (simp at *; omega))) | ((with_reducible refine Below.alloc ?_ ?_ _); rotate_left 1; focus (first | (simp; done) | (simp; omega) | (simp at *; omega))) | (with_reducible refine Below.drew ?_) | ((with_reducible refine Calm.step (by assumption) ?_ ?_); rotate_left 1; focus (first | (simp; done) | (simp; omega) | (simp at *; omega))))))) (hcP.out.below (by (repeat (first | (with_reducible exact Below.refl _ _) | ((with_reducible refine Below.setCell ?_ ?_ _); rotate_left 1; focus (first | (simp; done) | (simp; omega) | (simp at *; omega))) | ((with_reducible refine Below.alloc ?_ ?_ _); rotate_left 1; focus (first | (simp; done) | (simp; omega) | (simp at *; omega))) | (with_reducible refine Below.drew ?_) | ((with_reducible refine Calm.step (by assumption) ?_ ?_); rotate_left 1; focus (first | (simp; done) | (simp; omega) | (simp at *; omega)))))))).mono ?_; rintro r w1 ⟨rfl, hb1⟩)
        go_roundw
        case rel => exact ⟨3, by omega, by rfl, fun h => HF0.out (by omega), fun h => HF1.out (by omega), fun _ => trivial, (HK0.out.alloc _).below hb1, (HK1.out.alloc _).below hb1, Below.trans HB.out (Below.trans (by (repeat (first | (with_reducible exact Below.refl _ _) | ((with_reducible refine Below.setCell ?_ ?_ _); rotate_left 1; focus (first | (simp; done) | (simp; omega) | (simp at *; omega))) | ((with_reducible refine Below.alloc ?_ ?_ _); rotate_left 1; focus (first | (simp; done) | (simp; omega) | (simp at *; omega))) | (with_reducible refine Below.drew ?_) | ((with_reducible refine Calm.step (by assumption) ?_ ?_); rotate_left 1; focus (first | (simp; done) | (simp; omega) | (simp at *; omega)))))) (hb1.mono (by simp; try omega)))⟩
        case measure => simp [intOf]
    · have e1 := HF0.out (by omega)
      have e2 := HF1.out (by omega)
      have e3 := HF2.out (by omega)
      subst e1 e2 e3
      go_wp2
      go_ret
      exact ⟨rfl, HB.out⟩
end Go.Proofs.YtdeapbihbhoefaaGreatDoor

/- Contract of (Guard).step: the greatest permitted gain. -/
namespace Go.Proofs.YtdeapbihbhoefaaGreatDoor
open Go.RowKit
open Calm (bcell Blk)

/-- an input by a gain, rounded towards 0. -/
def byF (x g : Int) : Int := Int.tdiv (x * g) 16
theorem byF_bd {x g : Int} (hx : -2048 ≤ x ∧ x ≤ 2048) (hg : 0 ≤ g ∧ g ≤ 16) : -2048 ≤ byF x g ∧ byF x g ≤ 2048 := by
  have h := mul_bd hx (show -16 ≤ g ∧ g ≤ 16 by omega)
  unfold byF
  rcases Int.le_total 0 (x * g) with h0 | h0
  · rw [Int.tdiv_eq_ediv_of_nonneg h0]; omega
  · have e : Int.tdiv (x * g) 16 = -((-(x * g)) / 16) := by
      rw [← Int.tdiv_eq_ediv_of_nonneg (by omega), Int.neg_tdiv, Int.neg_neg]
    rw [e]; omega
/-- whether the gain at an index is permitted. -/
def okAt (lk ht rc h x : Int) (ts ps gs : List Int) (k : Nat) : Bool :=
  fineF ht rc (coolF lk h + byF x (gs.getD k 0) * byF x (gs.getD k 0)) (exF ts ps (byF x (gs.getD k 0))) ts (pushL ps (byF x (gs.getD k 0)))
/-- the greatest permitted index below n. -/
def stepK (lk ht rc h x : Int) (ts ps gs : List Int) : Nat → Option Nat
  | 0 => none
  | n + 1 => if okAt lk ht rc h x ts ps gs n then some n else stepK lk ht rc h x ts ps gs n
theorem stepK_lt {lk ht rc h x : Int} {ts ps gs : List Int} {k : Nat} : ∀ {n : Nat}, stepK lk ht rc h x ts ps gs n = some k → k < n ∧ okAt lk ht rc h x ts ps gs k = true
  | 0, e => by cases e
  | n + 1, e => by
    unfold stepK at e
    split at e
    · rename_i h0; cases e; exact ⟨by omega, h0⟩
    · have := stepK_lt e; exact ⟨by omega, this.2⟩
theorem exF_bd {ts ps : List Int} {y : Int} (h1 : inB 64 ts) (h2 : inB 2048 ps) (h3 : -2048 ≤ y ∧ y ≤ 2048) (hn : ps.length ≤ 7) : -1099511627776 ≤ exF ts ps y ∧ exF ts ps y ≤ 1099511627776 := by
  have := exK_bd h1 h2 h3 ps.length
  unfold exF
  omega

set_option maxHeartbeats 4000000 in
set_option maxRecDepth 100000 in
theorem step_typed (lk ht rc he x : Int) (lv : Nat) (ts ps gs : List Int) (A1 A2 A3 : Option Addr) (c1 c2 c3 : Nat) (w : World) (k : Nat) (hL : Lim w) (hlk : 1 ≤ lk ∧ lk ≤ 8) (hh : 0 ≤ he ∧ he ≤ 549755813888) (hT : Cells w A1 ts) (hG : Cells w A2 gs) (hP : Cells w A3 ps)
    (hn : ts.length = ps.length + 1) (hn2 : ps.length ≤ 7) (hg0 : 0 < gs.length) (hg : gs.length ≤ 8) (hlv : lv < gs.length) (bT : inB 64 ts) (bP : inB 2048 ps) (bG : ∀ k, 0 ≤ gs.getD k 0 ∧ gs.getD k 0 ≤ 16) (hx : -2048 ≤ x ∧ x ≤ 2048)
    (hk : stepK lk ht rc he x ts ps gs (min (lv + 1) (gs.length - 1) + 1) = some k) :
    Calls Tryz.prog 56 #[.agg #[(.int .i64 lk), (.int .i64 ht), .slice A1 ts.length c1, (.int .i64 rc), .slice A2 gs.length c2], .agg #[(.int .i64 he), (.int .i64 ((lv : Int))), .slice A3 ps.length c3], (.int .i64 x)] w fun r w' => (∃ B, w.heap.size ≤ B.block ∧ r = .returned (.tuple #[(.int .i64 (byF x (gs.getD k 0))), .agg #[(.int .i64 (coolF lk he + byF x (gs.getD k 0) * byF x (gs.getD k 0))), (.int .i64 ((k : Int))), .slice (some B) ps.length ps.length]]) ∧
      Cells w' (some B) (pushL ps (byF x (gs.getD k 0))) ∧ IntRow w' B) ∧ Below w.heap.size w w' := by
  obtain ⟨M, hM⟩ : ∃ M, M = ts.length := ⟨_, rfl⟩
  obtain ⟨N, hN⟩ : ∃ N, N = ps.length := ⟨_, rfl⟩
  obtain ⟨L, hLL⟩ : ∃ L, L = gs.length := ⟨_, rfl⟩
  have HY : Hid (∀ i, -2048 ≤ byF x (gs.getD i 0) ∧ byF x (gs.getD i 0) ≤ 2048) := Lib.hid (fun i => byF_bd hx (bG i))
  have q0 := coolF_bd lk hh.1
  have HYY : Hid (∀ i, byF x (gs.getD i 0) * byF x (gs.getD i 0) ≤ 4194304 ∧ 0 ≤ byF x (gs.getD i 0) * byF x (gs.getD i 0)) := Lib.hid (fun i => by
    have := mul_bd (HY.out i) (HY.out i)
    have h2 : 0 ≤ byF x (gs.getD i 0) * byF x (gs.getD i 0) := by rcases Int.le_total 0 (byF x (gs.getD i 0)) with h3 | h3; exact Int.mul_nonneg h3 h3; exact Int.mul_nonneg_of_nonpos_of_nonpos h3 h3
    omega)
  have HBH : Hid (∀ (W : World) (i : Nat) (y0 : Int), y0 = byF x (gs.getD i 0) → Cells W A1 ts → Cells W A3 ps → Calls Tryz.prog 52 #[.agg #[(.int .i64 lk), (.int .i64 ht), .slice A1 M c1, (.int .i64 rc), .slice A2 L c2], .agg #[(.int .i64 he), (.int .i64 ((lv : Int))), .slice A3 N c3], (.int .i64 y0)] W fun r w' => (∃ B, W.heap.size ≤ B.block ∧ r = .returned (.tuple #[.agg #[(.int .i64 (coolF lk he + byF x (gs.getD i 0) * byF x (gs.getD i 0))), (.int .i64 ((lv : Int))), .slice (some B) N N], (.int .i64 (exF ts ps (byF x (gs.getD i 0))))]) ∧ Cells w' (some B) (pushL ps (byF x (gs.getD i 0))) ∧ IntRow w' B) ∧ Below W.heap.size W w') := Lib.hid (fun W i y0 hy0 q1 q2 => by
    rw [hM, hN, hy0]; exact behind_typed lk ht rc he lv (byF x (gs.getD i 0)) ts ps A1 A2 A3 c1 L c2 c3 W hlk ⟨hh.1, by omega⟩ q1 q2 hn hn2 bT bP (HY.out i))
  have HFI : Hid (∀ (W : World) (i : Nat) (B : Addr), Lim W → Cells W A1 ts → Cells W (some B) (pushL ps (byF x (gs.getD i 0))) → Calls Tryz.prog 80 #[.agg #[(.int .i64 lk), (.int .i64 ht), .slice A1 M c1, (.int .i64 rc), .slice A2 L c2], .agg #[(.int .i64 (coolF lk he + byF x (gs.getD i 0) * byF x (gs.getD i 0))), (.int .i64 ((lv : Int))), .slice (some B) N N], (.int .i64 (exF ts ps (byF x (gs.getD i 0))))] W fun r w' => r = .returned (.bool (okAt lk ht rc he x ts ps gs i)) ∧ Below W.heap.size W w') := Lib.hid (fun W i B q0' q1 q2 => by
    have e := pushL_len ps (byF x (gs.getD i 0))
    have := fine_any lk ht rc (coolF lk he + byF x (gs.getD i 0) * byF x (gs.getD i 0)) lv (exF ts ps (byF x (gs.getD i 0))) ts (pushL ps (byF x (gs.getD i 0))) A1 A2 (some B) c1 L c2 N W q0' hlk (by have := HYY.out i; omega) q1 q2 (by omega) (by omega) bT (inB_push bP (HY.out i)) (exF_bd bT bP (HY.out i) hn2)
    rw [e, ← hN, ← hM] at this
    exact this)
  have HT := Lib.hid hT
  have HG := Lib.hid hG
  have HP := Lib.hid hP
  have HL := Lib.hid hL
  have HK := Lib.hid hk
  have HLL := Lib.hid hLL
  have HBG := Lib.hid bG
  rw [← hM, ← hN, ← hLL]
  rw [← hLL] at hg0 hg hlv HK
  rw [← hN] at hn2
  clear hM hN hLL hT hG hP hL hk hn bT bP bG
  obtain ⟨a5, a6⟩ := hx
  go_enter Tryz.func56, Tryz.ntmps56
  go_wp2
  go_step3
  go_wp2
  go_step3
  go_wp2
  all_goals (
    go_loopw [8, 10] (fun e lvl wr => e = (.int .i64 0) ∧ ∃ i : Nat, i < L ∧ lvl = (.int .i64 ((i : Int))) ∧ stepK lk ht rc he x ts ps gs (i + 1) = some k ∧ Blk wr w.heap.size #[(.int .i64 lk), (.int .i64 ht), .slice A1 M c1, (.int .i64 rc), .slice A2 L c2] ∧ Blk wr (w.heap.size + 1) #[(.int .i64 he), (.int .i64 ((lv : Int))), .slice A3 N c3] ∧
      Blk wr (w.heap.size + 1 + 1) #[(.int .i64 0), (.int .i64 0), .slice none 0 0] ∧ Blk wr (w.heap.size + 1 + 1 + 1) #[(.int .i64 0), (.int .i64 0), .slice none 0 0] ∧ Below w.heap.size w wr) (fun _ lvl _ => (intOf lvl).toNat)
    case atStart =>
      first
        | exact ⟨rfl, lv + 1, by omega, by go_num, by have := HK.out; rwa [Nat.min_eq_left (by omega)] at this, by (repeat (first | ((with_reducible refine Blk.at_ ?_); focus (first | rfl | (simp; done) | (simp; omega))) | (with_reducible refine Blk.alloc ?_ _) | (with_reducible refine Blk.below ?_ (by with_reducible assumption)) | (with_reducible refine Blk.drew ?_))), by (repeat (first | ((with_reducible refine Blk.at_ ?_); focus (first | rfl | (simp; done) | (simp; omega))) | (with_reducible refine Blk.alloc ?_ _) | (with_reducible refine Blk.below ?_ (by with_reducible assumption)) | (with_reducible refine Blk.drew ?_))), by (repeat (first | ((with_reducible refine Blk.at_ ?_); focus (first | rfl | (simp; done) | (simp; omega))) | (with_reducible refine Blk.alloc ?_ _) | (with_reducible refine Blk.below ?_ (by with_reducible assumption)) | (with_reducible refine Blk.drew ?_))), by (repeat (first | ((with_reducible refine Blk.at_ ?_); focus (first | rfl | (simp; done) | (simp; omega))) | (with_reducible refine Blk.alloc ?_ _) | (with_reducible refine Blk.below ?_ (by with_reducible assumption)) | (with_reducible refine Blk.drew ?_))), by (repeat (first | (with_reducible exact Below.refl _ _) | ((with_reducible refine Below.setCell ?_ ?_ _); rotate_left 1; focus (first | (simp; done) | (simp; omega) | (simp at *; omega))) | ((with_reducible refine Below.alloc ?_ ?_ _); rotate_left 1; focus (first | (simp; done) | (simp; omega) | (simp at *; omega))) | (with_reducible refine Below.drew ?_) | ((with_reducible refine Calm.step (by assumption) ?_ ?_); rotate_left 1; focus (first | (simp; done) | (simp; omega) | (simp at *; omega)))))⟩
        | exact ⟨rfl, L - 1, by omega, by go_num, by have := HK.out; rwa [Nat.min_eq_right (by omega)] at this, by (repeat (first | ((with_reducible refine Blk.at_ ?_); focus (first | rfl | (simp; done) | (simp; omega))) | (with_reducible refine Blk.alloc ?_ _) | (with_reducible refine Blk.below ?_ (by with_reducible assumption)) | (with_reducible refine Blk.drew ?_))), by (repeat (first | ((with_reducible refine Blk.at_ ?_); focus (first | rfl | (simp; done) | (simp; omega))) | (with_reducible refine Blk.alloc ?_ _) | (with_reducible refine Blk.below ?_ (by with_reducible assumption)) | (with_reducible refine Blk.drew ?_))), by (repeat (first | ((with_reducible refine Blk.at_ ?_); focus (first | rfl | (simp; done) | (simp; omega))) | (with_reducible refine Blk.alloc ?_ _) | (with_reducible refine Blk.below ?_ (by with_reducible assumption)) | (with_reducible refine Blk.drew ?_))), by (repeat (first | ((with_reducible refine Blk.at_ ?_); focus (first | rfl | (simp; done) | (simp; omega))) | (with_reducible refine Blk.alloc ?_ _) | (with_reducible refine Blk.below ?_ (by with_reducible assumption)) | (with_reducible refine Blk.drew ?_))), by (repeat (first | (with_reducible exact Below.refl _ _) | ((with_reducible refine Below.setCell ?_ ?_ _); rotate_left 1; focus (first | (simp; done) | (simp; omega) | (simp at *; omega))) | ((with_reducible refine Below.alloc ?_ ?_ _); rotate_left 1; focus (first | (simp; done) | (simp; omega) | (simp at *; omega))) | (with_reducible refine Below.drew ?_) | ((with_reducible refine Calm.step (by assumption) ?_ ?_); rotate_left 1; focus (first | (simp; done) | (simp; omega) | (simp at *; omega)))))⟩
    case round =>
      obtain ⟨rfl, i, hi, rfl, hst, K0, K1, K2, K3, hB⟩ := hrel
      obtain ⟨b2, o2, rfl, l2, k2⟩ := HG.out (by rw [← HLL.out]; exact hg0)
      have x2 := (hB.cell (p := ⟨b2, o2 + i, none⟩) l2).trans (k2 i (by rw [← HLL.out]; exact hi))
      have hTr := Lib.hid (HT.out.below hB)
      have hPr := Lib.hid (HP.out.below hB)
      have hLr := Lib.hid (HL.out.below hB)
      have HB := Lib.hid hB
      have HST := Lib.hid hst
      have hsz := hB.size
      have bg := HBG.out i
      have by0 := HY.out i
      have byy := HYY.out i
      have m0 := mul_bd ⟨a5, a6⟩ (show -16 ≤ gs.getD i 0 ∧ gs.getD i 0 ≤ 16 by omega)
      have hB1 := fun y0 (hy0 : y0 = byF x (gs.getD i 0)) => HBH.out wr i y0 hy0 hTr.out hPr.out
      have hFI : ∀ (W : World) (B : Addr), Lim W → Cells W A1 ts → Cells W (some B) (pushL ps (byF x (gs.getD i 0))) → _ := fun W B => HFI.out W i B
      have hst2 : (if okAt lk ht rc he x ts ps gs i then some i else stepK lk ht rc he x ts ps gs i) = some k := hst
      have HFIN : Hid (i = k → byF x (gs.getD i 0) = byF x (gs.getD k 0)) := Lib.hid (fun h => by rw [h])
      obtain ⟨gg, hgg⟩ : ∃ gg, gg = gs.getD i 0 := ⟨_, rfl⟩
      obtain ⟨Y, hY⟩ : ∃ Y, Y = byF x (gs.getD i 0) := ⟨_, rfl⟩
      obtain ⟨O, hO⟩ : ∃ O, O = okAt lk ht rc he x ts ps gs i := ⟨_, rfl⟩
      have HYE : Hid (Int.tdiv (x * gg) 16 = Y) := Lib.hid (by rw [hY, hgg]; rfl)
      rw [← hgg] at x2 bg m0
      rw [← hY] at hB1 by0 byy HFIN hFI
      rw [← hO] at hst2 hFI
      have HB1 := Lib.hid hB1
      have HF1 := Lib.hid hFI
      have HS2 := Lib.hid hst2
      obtain ⟨bg1, bg2⟩ := bg
      obtain ⟨m1, m2⟩ := m0
      obtain ⟨c00, c01, c02, c03, c04, l0, f0⟩ := K0.o5
      obtain ⟨c10, c11, c12, l10, f1⟩ := K1.o3
      have HK0 := Lib.hid K0
      have HK1 := Lib.hid K1
      have HK2 := Lib.hid K2
      have HK3 := Lib.hid K3
      have lt3 := K3.lt
      clear K0 K1 K2 K3 hB hst k2 hgg hY hO hB1 hFI hst2
      cases O with
      | false =>
        go_wp2_with (first
          | (go_at_call 52; refine (HB1.out _ HYE.out).mono ?_; rintro r w1 ⟨⟨B, hBb, rfl, hC1, _⟩, hb1⟩; obtain ⟨hc1, hf1⟩ := bcell hb1; have hs1 := hb1.size; have hs10 : w.heap.size < w1.heap.size := (by omega); have hs11 : w.heap.size + 1 < w1.heap.size := (by omega); have HC1 := Lib.hid hC1; have HW1 := Lib.hid hb1; clear hC1 hb1)
          | (go_at_call 80; refine (HF1.out _ B (hLr.out.below (HW1.out.alloc hs1 _)) (hTr.out.below (HW1.out.alloc hs1 _)) (HC1.out.below (by (repeat (first | (with_reducible exact Below.refl _ _) | ((with_reducible refine Below.setCell ?_ ?_ _); rotate_left 1; focus (first | (simp; done) | (simp; omega) | (simp at *; omega))) | ((with_reducible refine Below.alloc ?_ ?_ _); rotate_left 1; focus (first | (simp; done) | (simp; omega) | (simp at *; omega))) | (with_reducible refine Below.drew ?_) | ((with_reducible refine Calm.step (by assumption) ?_ ?_); rotate_left 1; focus (first | (simp; done) | (simp; omega) | (simp at *; omega)))))))).mono ?_; rintro r w3 ⟨rfl, hb3⟩))
        have hs3 : stepK lk ht rc he x ts ps gs i = some k := by simpa using HS2.out
        have hi0 : 0 < i := by
          rcases Nat.eq_zero_or_pos i with h0 | h0
          · rw [h0] at hs3; cases hs3
          · exact h0
        have HS3 := Lib.hid hs3
        clear hs3
        go_roundw
        case rel =>
          exact ⟨rfl, i - 1, by omega, by go_num, by rw [Nat.sub_add_cancel hi0]; exact HS3.out, ((HK0.out.below HW1.out).alloc _).below hb3, ((HK1.out.below HW1.out).alloc _).below hb3, ((HK2.out.below HW1.out).alloc _).below hb3, ((HK3.out.below HW1.out).alloc _).below hb3,
            Below.trans ((HB.out.trans (HW1.out.mono hsz)).alloc (by omega) _) (hb3.mono (by simp; omega))⟩
        case measure => simp [intOf]; omega
      | true =>
        have hik : i = k := by
          have h1 := HS2.out
          rw [if_pos rfl] at h1
          exact Option.some.inj h1
        have HYK := Lib.hid (HFIN.out hik)
        subst hik
        go_wp2_with (first
          | (go_at_call 52; refine (HB1.out _ HYE.out).mono ?_; rintro r w1 ⟨⟨B, hBb, rfl, hC1, hI1⟩, hb1⟩; have HI1 := Lib.hid hI1; obtain ⟨hc1, hf1⟩ := bcell hb1; have hs1 := hb1.size; have hs10 : w.heap.size < w1.heap.size := (by omega); have hs11 : w.heap.size + 1 < w1.heap.size := (by omega); have HC1 := Lib.hid hC1; have HW1 := Lib.hid hb1; clear hC1 hb1 hI1)
          | (go_at_call 80; refine (HF1.out _ B (hLr.out.below (HW1.out.alloc hs1 _)) (hTr.out.below (HW1.out.alloc hs1 _)) (HC1.out.below (by (repeat (first | (with_reducible exact Below.refl _ _) | ((with_reducible refine Below.setCell ?_ ?_ _); rotate_left 1; focus (first | (simp; done) | (simp; omega) | (simp at *; omega))) | ((with_reducible refine Below.alloc ?_ ?_ _); rotate_left 1; focus (first | (simp; done) | (simp; omega) | (simp at *; omega))) | (with_reducible refine Below.drew ?_) | ((with_reducible refine Calm.step (by assumption) ?_ ?_); rotate_left 1; focus (first | (simp; done) | (simp; omega) | (simp at *; omega)))))))).mono ?_; rintro r w3 ⟨rfl, hb3⟩; refine Hid.out ?_))
        have KN := (Blk.new w1 45 #[(.int .i64 (coolF lk he + Y * Y)), (.int .i64 ((lv : Int))), .slice (some B) N N]).below hb3
        have K2 := ((HK2.out.below HW1.out).alloc (.cells #[(.int .i64 (coolF lk he + Y * Y)), (.int .i64 ((lv : Int))), .slice (some B) N N] 45)).below hb3
        have K3 := ((HK3.out.below HW1.out).alloc (.cells #[(.int .i64 (coolF lk he + Y * Y)), (.int .i64 ((lv : Int))), .slice (some B) N N] 45)).below hb3
        have HBA : Hid (Below w.heap.size w w3) := Lib.hid (Below.trans ((HB.out.trans (HW1.out.mono hsz)).alloc (by omega) _) (hb3.mono (by simp; omega)))
        have HCA := Lib.hid (HC1.out.below (((Below.refl _ _).alloc (Nat.le_refl _) (.cells #[(.int .i64 (coolF lk he + Y * Y)), (.int .i64 ((lv : Int))), .slice (some B) N N] 45)).trans (hb3.mono (by simp))))
        have HIA := Lib.hid (HI1.out.below (((Below.refl _ _).alloc (Nat.le_refl _) (.cells #[(.int .i64 (coolF lk he + Y * Y)), (.int .i64 ((lv : Int))), .slice (some B) N N] 45)).trans (hb3.mono (by simp))))
        have hBI : Hid (B.block < w1.heap.size) := Lib.hid (by obtain ⟨_, h⟩ := HI1.out; exact (Array.getElem?_eq_some_iff.1 h).1)
        have hN1 : w.heap.size + 1 + 1 + 1 < w1.heap.size := by omega
        have hBN : Hid (0 < (pushL ps Y).length → B.block < w1.heap.size) := Lib.hid (fun h0 => by obtain ⟨b, off, hA, hl, _⟩ := HC1.out h0; cases hA; exact hl)
        have hBM : w.heap.size + 1 + 1 + 1 < B.block := by omega
        have hs3 := hb3.size
        simp only [World.size_alloc] at hs3
        have KN' := Lib.hid (KN.set (i := 1) (by simp) (.int .i64 ((i : Int))))
        have K2' := Lib.hid (K2.far (p := ⟨w1.heap.size, 1, none⟩) (by simp; omega) (.int .i64 ((i : Int))))
        have K3' := Lib.hid (K3.far (p := ⟨w1.heap.size, 1, none⟩) (by simp; omega) (.int .i64 ((i : Int))))
        obtain ⟨n0, n1, n2, nl, nf⟩ := KN.o3
        clear KN K2 K3 hc1 hf1 hb3 HB HW1 HC1 HK0 HK1 HK2 HK3 c00 c01 c02 c03 c04 l0 f0 c10 c11 c12 l10 f1 HF1 HB1 hLr hTr hPr
        unfold Hid
        go_wp2
        refine name_world ?_
        intro w4 e4
        have KN4 : Blk w4 w1.heap.size #[(.int .i64 (coolF lk he + Y * Y)), (.int .i64 ((i : Int))), .slice (some B) N N] := e4 ▸ KN'.out
        have K24 := Lib.hid (show Blk w4 (w.heap.size + 1 + 1) #[(.int .i64 0), (.int .i64 0), .slice none 0 0] from e4 ▸ K2'.out)
        have K34 : Blk w4 (w.heap.size + 1 + 1 + 1) #[(.int .i64 0), (.int .i64 0), .slice none 0 0] := e4 ▸ K3'.out
        have HBA4 : Hid (Below w.heap.size w w4) := Lib.hid (by rw [e4]; exact HBA.out.setCell (by simp; omega) _)
        have HCA4 : Hid (Cells w4 (some B) (pushL ps Y)) := Lib.hid (by rw [e4]; exact HCA.out.sets (fun h0 p hp => by cases hp; have := hBN.out h0; omega) _ _)
        have HIA4 : Hid (IntRow w4 B) := Lib.hid (by rw [e4]; exact HIA.out.sets (by have := hBI.out; omega) _ _)
        have hs4 : w1.heap.size < w4.heap.size := KN4.lt
        have HK34 := Lib.hid K34
        obtain ⟨p0, p1, p2, pl, pf⟩ := KN4.o3
        clear e4 KN4 K34 KN' K2' K3' HBA HCA n0 n1 n2 nl nf hs3
        refine Calm.tail_below 3 (by kernel_rfl) (by kernel_rfl) ?_
        simp only [List.take_succ_cons, List.take_zero, List.drop_succ_cons, List.drop_zero]
        repeat (first | (apply Calm.op_move; (focus rfl); (focus (first | exact .inl rfl | exact .inr rfl)); (focus ((try simp only [Act.eval, Array.getD_eq_getD_getElem?, List.getElem?_toArray, List.getElem?_cons_succ, List.getElem?_cons_zero, Option.getD_some]); rfl)); (try simp only [Act.put, List.setIfInBounds_toArray, List.set_cons_zero, List.set_cons_succ])) | (apply Calm.op_not; (focus rfl); (try simp only [Act.put, List.setIfInBounds_toArray, List.set_cons_zero, List.set_cons_succ])) | (apply Calm.op; (focus rfl); (focus (intro W hb; obtain ⟨hc, hf⟩ := bcell hb; clear hb hf; go_simp; (try go_bits); (try rfl); done)); (try simp only [Act.put, List.setIfInBounds_toArray, List.set_cons_zero, List.set_cons_succ])))
        refine wpQuiet_nil ?_
        intro w5 hb5
        obtain ⟨hb5c, hb5f⟩ := bcell hb5
        have hb5z := hb5.size
        (try simp at hb5z)
        (try have hb5z0 : w.heap.size < w5.heap.size := by omega)
        (try have hb5z1 : w.heap.size + 1 < w5.heap.size := by omega)
        (try have hb5z2 : w.heap.size + 1 + 1 < w5.heap.size := by omega)
        (try have hb5z3 : w.heap.size + 1 + 1 + 1 < w5.heap.size := by omega)
        (try have hb5z4 : w.heap.size + 1 + 1 + 1 + 1 < w5.heap.size := by omega)
        (try have hb5z5 : w.heap.size + 1 + 1 + 1 + 1 + 1 < w5.heap.size := by omega)
        have HBA5 := Lib.hid (HBA4.out.trans (hb5.mono (by omega)))
        have HCA5 := Lib.hid (HCA4.out.below hb5)
        have HIA5 := Lib.hid (HIA4.out.below hb5)
        have HK35 := Lib.hid (HK34.out.below hb5)
        have HK25 := Lib.hid (K24.out.below hb5)
        have hs5 := hb5.size
        obtain ⟨r0, r1, r2, rl, rf⟩ := HK35.out.o3
        clear hb5 hb5c hb5f HBA4 HCA4 HK34 K24 p0 p1 p2 pl pf
        go_wp2
        refine name_world ?_
        intro w6 e6
        have K36 : Blk w6 (w.heap.size + 1 + 1 + 1) #[(.int .i64 (coolF lk he + Y * Y)), (.int .i64 ((i : Int))), .slice (some B) N N] := e6 ▸ HK35.out.set3 _ _ _
        have HK26 : Hid (Blk w6 (w.heap.size + 1 + 1) #[(.int .i64 0), (.int .i64 0), .slice none 0 0]) := Lib.hid (by rw [e6]; exact ((HK25.out.far (by simp) _).far (by simp) _).far (by simp) _)
        have HBA6 : Hid (Below w.heap.size w w6) := Lib.hid (by rw [e6]; exact ((HBA5.out.setCell (by simp; omega) _).setCell (by simp; omega) _).setCell (by simp; omega) _)
        have HCA6 : Hid (Cells w6 (some B) (pushL ps Y)) := Lib.hid (by
          have q : 0 < (pushL ps Y).length → ∀ p, some B = some p → p.block ≠ w.heap.size + 1 + 1 + 1 := fun _ p hp => by cases hp; omega
          rw [e6]; exact ((HCA5.out.sets q _ _).sets q _ _).sets q _ _)
        have HIA6 : Hid (IntRow w6 B) := Lib.hid (by
          rw [e6]; exact ((HIA5.out.sets (by omega) _ _).sets (by omega) _ _).sets (by omega) _ _)
        obtain ⟨t0, t1, t2, tl, tf⟩ := K36.o3
        clear e6 K36 HBA5 HCA5 HK35 HK25 r0 r1 r2 rl rf
        refine Calm.tail_below 3 (by kernel_rfl) (by kernel_rfl) ?_
        simp only [List.take_succ_cons, List.take_zero, List.drop_succ_cons, List.drop_zero]
        repeat (first | (apply Calm.op_move; (focus rfl); (focus (first | exact .inl rfl | exact .inr rfl)); (focus ((try simp only [Act.eval, Array.getD_eq_getD_getElem?, List.getElem?_toArray, List.getElem?_cons_succ, List.getElem?_cons_zero, Option.getD_some]); rfl)); (try simp only [Act.put, List.setIfInBounds_toArray, List.set_cons_zero, List.set_cons_succ])) | (apply Calm.op_not; (focus rfl); (try simp only [Act.put, List.setIfInBounds_toArray, List.set_cons_zero, List.set_cons_succ])) | (apply Calm.op; (focus rfl); (focus (intro W hb; obtain ⟨hc, hf⟩ := bcell hb; clear hb hf; go_simp; (try go_bits); (try rfl); done)); (try simp only [Act.put, List.setIfInBounds_toArray, List.set_cons_zero, List.set_cons_succ])))
        refine wpQuiet_nil ?_
        intro w7 hb7
        obtain ⟨hb7c, hb7f⟩ := bcell hb7
        have hb7z := hb7.size
        (try simp at hb7z)
        (try have hb7z0 : w.heap.size < w7.heap.size := by omega)
        (try have hb7z1 : w.heap.size + 1 < w7.heap.size := by omega)
        (try have hb7z2 : w.heap.size + 1 + 1 < w7.heap.size := by omega)
        (try have hb7z3 : w.heap.size + 1 + 1 + 1 < w7.heap.size := by omega)
        (try have hb7z4 : w.heap.size + 1 + 1 + 1 + 1 < w7.heap.size := by omega)
        (try have hb7z5 : w.heap.size + 1 + 1 + 1 + 1 + 1 < w7.heap.size := by omega)
        have HBA7 := Lib.hid (HBA6.out.trans (hb7.mono (by omega)))
        have HCA7 := Lib.hid (HCA6.out.below hb7)
        have HIA7 := Lib.hid (HIA6.out.below hb7)
        have HK27 := Lib.hid (HK26.out.below hb7)
        obtain ⟨v0, v1, v2, vl, vf⟩ := HK27.out.o3
        clear hb7 hb7c hb7f HBA6 HCA6 HK26 t0 t1 t2 tl tf
        go_wp2
        rw [Exit.noGoto_ret]
        have q2 : 0 < (pushL ps Y).length → ∀ p, some B = some p → p.block ≠ w.heap.size + 1 + 1 := fun _ p hp => by cases hp; omega
        have KR := HK27.out.set3 (.int .i64 (coolF lk he + Y * Y)) (.int .i64 ((i : Int))) (.slice (some B) N N)
        obtain ⟨y0, y1, y2, yl, yf⟩ := KR.o3
        clear v0 v1 v2 vl vf KR
        exact bodyPost_ret (v := .tuple #[(.int .i64 (Int.tdiv (x * gg) 16)), .agg #[(.int .i64 (coolF lk he + Y * Y)), (.int .i64 ((i : Int))), .slice (some B) N N]]) (by simp [results, Tryz.results56, go_sem, y0, y1, y2]) rfl
          ⟨⟨B, by omega, by rw [HYE.out, ← HYK.out], by rw [← HYK.out]; exact ((HCA7.out.sets q2 _ _).sets q2 _ _).sets q2 _ _, ((HIA7.out.sets (by omega) _ _).sets (by omega) _ _).sets (by omega) _ _⟩, ((HBA7.out.setCell (by simp; omega) _).setCell (by simp; omega) _).setCell (by simp; omega) _⟩)
theorem step_any (lk ht rc he x : Int) (lv : Nat) (ts ps gs : List Int) (A1 A2 A3 : Option Addr) (c1 c2 c3 : Nat) (w : World) (k : Nat) (hL : Lim w) (hlk : 1 ≤ lk ∧ lk ≤ 8) (hh : 0 ≤ he ∧ he ≤ 549755813888) (hT : Cells w A1 ts) (hG : Cells w A2 gs) (hP : Cells w A3 ps)
    (hn : ts.length = ps.length + 1) (hn2 : ps.length ≤ 7) (hg0 : 0 < gs.length) (hg : gs.length ≤ 8) (hlv : lv < gs.length) (bT : inB 64 ts) (bP : inB 2048 ps) (bG : ∀ k, 0 ≤ gs.getD k 0 ∧ gs.getD k 0 ≤ 16) (hx : -2048 ≤ x ∧ x ≤ 2048)
    (hk : stepK lk ht rc he x ts ps gs (min (lv + 1) (gs.length - 1) + 1) = some k) :
    Calls Tryz.prog 56 #[.agg #[(.int .i64 lk), (.int .i64 ht), .slice A1 ts.length c1, (.int .i64 rc), .slice A2 gs.length c2], .agg #[(.int .i64 he), (.int .i64 ((lv : Int))), .slice A3 ps.length c3], (.int .i64 x)] w fun r w' => (∃ B, w.heap.size ≤ B.block ∧ r = .returned (.tuple #[(.int .i64 (byF x (gs.getD k 0))), .agg #[(.int .i64 (coolF lk he + byF x (gs.getD k 0) * byF x (gs.getD k 0))), (.int .i64 ((k : Int))), .slice (some B) ps.length ps.length]]) ∧
      Cells w' (some B) (pushL ps (byF x (gs.getD k 0)))) ∧ Below w.heap.size w w' :=
  (step_typed lk ht rc he x lv ts ps gs A1 A2 A3 c1 c2 c3 w k hL hlk hh hT hG hP hn hn2 hg0 hg hlv bT bP bG hx hk).mono fun _ _ ⟨⟨B, h1, h2, h3, _⟩, h4⟩ => ⟨⟨B, h1, h2, h3⟩, h4⟩
end Go.Proofs.YtdeapbihbhoefaaGreatDoor

/- Safe states: a permitted gain is always found, and the state behind it is safe. No walk. -/
namespace Go.Proofs.YtdeapbihbhoefaaGreatDoor
open Go.RowKit

theorem pushL_getD (ps : List Int) (y : Int) (i : Nat) : (pushL ps y).getD i 0 = if i < ps.length then (y :: ps).getD i 0 else 0 := by
  simp only [pushL, List.getD_eq_getElem?_getD, List.getElem?_take]
  split <;> rfl
theorem psK_getD (ps : List Int) : ∀ (k i : Nat), (psK ps k).getD i 0 = if i < ps.length then (if i < k then 0 else ps.getD (i - k) 0) else 0
  | 0, i => by
    simp only [psK, Nat.not_lt_zero, if_false, Nat.sub_zero]
    split
    · rfl
    · rw [List.getD_eq_getElem?_getD, List.getElem?_eq_none (by omega)]; rfl
  | k + 1, i => by
    show (pushL (psK ps k) 0).getD i 0 = _
    rw [pushL_getD, psK_len]
    split
    · cases i with
      | zero => simp
      | succ j =>
        rw [List.getD_cons_succ, psK_getD ps k j, if_pos (by omega)]
        by_cases hj : j < k
        · rw [if_pos hj, if_pos (by omega)]
        · rw [if_neg hj, if_neg (by omega), Nat.add_sub_add_right]
    · rfl
theorem psK_push (ps : List Int) : ∀ k, psK (pushL ps 0) k = psK ps (k + 1)
  | 0 => rfl
  | k + 1 => by show pushL (psK (pushL ps 0) k) 0 = pushL (psK ps (k + 1)) 0; rw [psK_push ps k]
theorem exK_zero {ts ps : List Int} : ∀ {k : Nat}, (∀ i, i < k → ps.getD i 0 = 0) → exK ts ps 0 k = 0
  | 0, _ => by simp [exK]
  | k + 1, h => by
    simp only [exK]
    rw [exK_zero (fun i hi => h i (by omega)), h k (by omega)]
    simp
/-- a guard that is valid. -/
structure Valid (lk ht rc : Int) (ts gs : List Int) : Prop where
  lk : 1 ≤ lk ∧ lk ≤ 8
  ht : 0 ≤ ht ∧ ht ≤ 536870912
  rc : 0 ≤ rc ∧ rc ≤ 1048576
  tl : 1 ≤ ts.length ∧ ts.length ≤ 8
  tb : inB 64 ts
  gl : 1 ≤ gs.length ∧ gs.length ≤ 8
  gb : ∀ k, 0 ≤ gs.getD k 0 ∧ gs.getD k 0 ≤ 16
  g0 : gs.getD 0 0 = 0
/-- a state. -/
structure St where
  h : Int
  lv : Nat
  ps : List Int
/-- a state that keeps all limits without further outputs. -/
structure Good (ht rc : Int) (ts gs : List Int) (s : St) : Prop where
  h : 0 ≤ s.h ∧ s.h ≤ ht
  lv : s.lv < gs.length
  pl : ts.length = s.ps.length + 1
  pb : inB 2048 s.ps
  tf : farAny rc (tailsF ts s.ps) = false
theorem farAny_false {rc : Int} {l : List Int} : farAny rc l = false ↔ ∀ x ∈ l, absI x ≤ rc := by
  unfold farAny
  rw [List.any_eq_false]
  constructor
  · intro h x hx; have := h x hx; simp at this; omega
  · intro h x hx; have := h x hx; simp; omega
theorem tails_get {ts ps : List Int} {rc : Int} (h : farAny rc (tailsF ts ps) = false) {k : Nat} (hk : k < ps.length) : absI (exF ts (psK ps k) 0) ≤ rc := by
  refine farAny_false.1 h _ ?_
  simp only [tailsF, tailsL, List.mem_map, List.mem_range]
  exact ⟨k, hk, rfl⟩
theorem exF_last {ts ps : List Int} {k : Nat} (hk : ps.length ≤ k) : exF ts (psK ps k) 0 = 0 := by
  unfold exF
  refine exK_zero fun i hi => ?_
  rw [psK_len] at hi
  rw [psK_getD, if_pos hi, if_pos (by omega)]
theorem absI_zero : absI 0 = 0 := by decide
/-- without an output a safe state stays safe. -/
theorem fine_zero {lk ht rc : Int} {ts gs : List Int} {s : St} (hV : Valid lk ht rc ts gs) (hS : Good ht rc ts gs s) : fineF ht rc (coolF lk s.h + 0 * 0) (exF ts s.ps 0) ts (pushL s.ps 0) = true := by
  have h1 := coolF_bd lk hS.h.1
  have h2 : absI (exF ts s.ps 0) ≤ rc := by
    rcases Nat.eq_zero_or_pos s.ps.length with h0 | h0
    · have := exF_last (ts := ts) (ps := s.ps) (k := 0) (by omega)
      simp only [psK] at this
      rw [this, absI_zero]; exact hV.rc.1
    · exact tails_get hS.tf (k := 0) h0
  have h3 : farAny rc (tailsF ts (pushL s.ps 0)) = false := by
    refine farAny_false.2 fun x hx => ?_
    simp only [tailsF, tailsL, List.mem_map, List.mem_range, pushL_len] at hx
    obtain ⟨k, hk, rfl⟩ := hx
    rw [psK_push]
    rcases Nat.lt_or_ge (k + 1) s.ps.length with h4 | h4
    · exact tails_get hS.tf h4
    · rw [exF_last h4, absI_zero]; exact hV.rc.1
  have hS1 := hS.h
  unfold fineF
  rw [h3, decide_eq_true (by omega), decide_eq_false (by omega)]
  rfl
theorem byF_zero (x : Int) : byF x 0 = 0 := by unfold byF; simp
theorem okAt_zero {lk ht rc : Int} {ts gs : List Int} {s : St} (hV : Valid lk ht rc ts gs) (hS : Good ht rc ts gs s) (x : Int) : okAt lk ht rc s.h x ts s.ps gs 0 = true := by
  unfold okAt
  rw [hV.g0, byF_zero]
  exact fine_zero hV hS
theorem stepK_some {lk ht rc h x : Int} {ts ps gs : List Int} (h0 : okAt lk ht rc h x ts ps gs 0 = true) : ∀ n, ∃ k, stepK lk ht rc h x ts ps gs (n + 1) = some k
  | 0 => ⟨0, by unfold stepK; rw [h0]; rfl⟩
  | n + 1 => by
    unfold stepK
    split
    · exact ⟨_, rfl⟩
    · exact stepK_some h0 n
/-- the index of the gain that is taken. -/
def lvF (lk ht rc : Int) (ts gs : List Int) (s : St) (x : Int) : Nat := (stepK lk ht rc s.h x ts s.ps gs (min (s.lv + 1) (gs.length - 1) + 1)).getD 0
/-- the output. -/
def outF (lk ht rc : Int) (ts gs : List Int) (s : St) (x : Int) : Int := byF x (gs.getD (lvF lk ht rc ts gs s x) 0)
/-- the state behind it. -/
def stF (lk ht rc : Int) (ts gs : List Int) (s : St) (x : Int) : St := ⟨coolF lk s.h + outF lk ht rc ts gs s x * outF lk ht rc ts gs s x, lvF lk ht rc ts gs s x, pushL s.ps (outF lk ht rc ts gs s x)⟩
theorem lvF_some {lk ht rc : Int} {ts gs : List Int} {s : St} (hV : Valid lk ht rc ts gs) (hS : Good ht rc ts gs s) (x : Int) : stepK lk ht rc s.h x ts s.ps gs (min (s.lv + 1) (gs.length - 1) + 1) = some (lvF lk ht rc ts gs s x) := by
  obtain ⟨k, hk⟩ := stepK_some (okAt_zero hV hS x) (min (s.lv + 1) (gs.length - 1))
  unfold lvF
  rw [hk]
  rfl
theorem fineF_true {ht rc h x : Int} {ts ps : List Int} (e : fineF ht rc h x ts ps = true) : h ≤ ht ∧ absI x ≤ rc ∧ farAny rc (tailsF ts ps) = false := by
  unfold fineF at e
  simp only [Bool.and_eq_true, decide_eq_true_eq, Bool.not_eq_true', decide_eq_false_iff_not] at e
  exact ⟨e.1.1, by omega, e.2⟩
theorem step_good {lk ht rc : Int} {ts gs : List Int} {s : St} (hV : Valid lk ht rc ts gs) (hS : Good ht rc ts gs s) {x : Int} (hx : -2048 ≤ x ∧ x ≤ 2048) :
    Good ht rc ts gs (stF lk ht rc ts gs s x) ∧ (-2048 ≤ outF lk ht rc ts gs s x ∧ outF lk ht rc ts gs s x ≤ 2048) ∧ absI (exF ts s.ps (outF lk ht rc ts gs s x)) ≤ rc ∧ lvF lk ht rc ts gs s x ≤ s.lv + 1 := by
  have hk := stepK_lt (lvF_some hV hS x)
  obtain ⟨h1, h2, h3⟩ := fineF_true hk.2
  have hb : -2048 ≤ outF lk ht rc ts gs s x ∧ outF lk ht rc ts gs s x ≤ 2048 := byF_bd hx (hV.gb _)
  have hc := coolF_bd lk hS.h.1
  have hm : 0 ≤ outF lk ht rc ts gs s x * outF lk ht rc ts gs s x := by
    rcases Int.le_total 0 (outF lk ht rc ts gs s x) with h | h
    · exact Int.mul_nonneg h h
    · exact Int.mul_nonneg_of_nonpos_of_nonpos h h
  have hg := hV.gl
  exact ⟨⟨⟨by simp only [stF]; omega, h1⟩, by simp only [stF]; omega, by simp only [stF]; rw [pushL_len]; exact hS.pl, inB_push hS.pb hb, h3⟩, hb, h2, by omega⟩
end Go.Proofs.YtdeapbihbhoefaaGreatDoor

/- A new block in the head of a region walked by Rel3. -/
namespace Go.Proofs.YtdeapbihbhoefaaGreatDoor.Rel
open Go.RowKit
variable {P : Program} {DS : List Tmp} {w0 : World} {a0 : Act} {T : Ctx → Prop} {Γ : Ctx} {o : Oper} {rest : List Oper}
theorem alloc3 (t : TypeId) (cs : Array Value) (hg : GOK3 Γ o)
    (h : ∀ (a : Act) (W : World), (execOp a.eval o).run P W = .ok (.value (.pointer (some ⟨W.heap.size, 0, none⟩))) (W.alloc (.cells cs t)))
    (hn : walk3 P DS w0 a0 T (Γ ++ [(o.dst, New w0.heap.size cs)]) rest) : walk3 P DS w0 a0 T Γ (o :: rest) :=
  ⟨_, stable_new _ cs, hg, fun a W hb hd hbase K Q hK => by
    unfold Oper.wp
    rw [h a W]
    exact hK _ _ ⟨_, rfl, hb.size, Calm.Blk.new W t cs⟩ ((Below.refl _ _).alloc (Nat.le_refl _) _), hn⟩
/-- a new block, its type known. -/
def NewT (B : Nat) (t : TypeId) (cs : Array Value) : Know := fun u W => ∃ g, u = .pointer (some ⟨g, 0, none⟩) ∧ B ≤ g ∧ W.heap[g]? = some (.cells cs t (0, 0))
theorem stable_newT (B : Nat) (t : TypeId) (cs : Array Value) : Stable (NewT B t cs) := fun _ _ _ ⟨g, h1, h2, h3⟩ hb => ⟨g, h1, h2, (hb.block _ (Array.getElem?_eq_some_iff.1 h3).1).trans h3⟩
theorem allocT3 (t : TypeId) (cs : Array Value) (hg : GOK3 Γ o)
    (h : ∀ (a : Act) (W : World), (execOp a.eval o).run P W = .ok (.value (.pointer (some ⟨W.heap.size, 0, none⟩))) (W.alloc (.cells cs t)))
    (hn : walk3 P DS w0 a0 T (Γ ++ [(o.dst, NewT w0.heap.size t cs)]) rest) : walk3 P DS w0 a0 T Γ (o :: rest) :=
  ⟨_, stable_newT _ t cs, hg, fun a W hb hd hbase K Q hK => by
    unfold Oper.wp
    rw [h a W]
    exact hK _ _ ⟨_, rfl, hb.size, heap_alloc_new W _⟩ ((Below.refl _ _).alloc (Nat.le_refl _) _), hn⟩
/-- a slice built, its row's type known. -/
def NewST (B n c : Nat) (t : TypeId) (cs : Array Value) : Know := fun u W => ∃ g, u = .slice (some ⟨g, 0, none⟩) n c ∧ B ≤ g ∧ W.heap[g]? = some (.cells cs t (0, 0))
theorem stable_newST (B n c : Nat) (t : TypeId) (cs : Array Value) : Stable (NewST B n c t cs) := fun _ _ _ ⟨g, h1, h2, h3⟩ hb => ⟨g, h1, h2, (hb.block _ (Array.getElem?_eq_some_iff.1 h3).1).trans h3⟩
theorem buildT3 (t : TypeId) (n c : Nat) (cs : Array Value) (hg : GOK3 Γ o)
    (h : ∀ (a : Act) (W : World), Below w0.heap.size w0 W → deps Γ a W (ons o) → (∀ t, t ∉ DS → a.eval (.tmp t) = a0.eval (.tmp t)) → (execOp a.eval o).run P W = .ok (.value (.slice (some ⟨W.heap.size, 0, none⟩) n c)) (W.alloc (.cells cs t)))
    (hn : walk3 P DS w0 a0 T (Γ ++ [(o.dst, NewST w0.heap.size n c t cs)]) rest) : walk3 P DS w0 a0 T Γ (o :: rest) :=
  ⟨_, stable_newST _ n c t cs, hg, fun a W hb hd hbase K Q hK => by
    unfold Oper.wp
    rw [h a W hb hd hbase]
    exact hK _ _ ⟨_, rfl, hb.size, heap_alloc_new W _⟩ ((Below.refl _ _).alloc (Nat.le_refl _) _), hn⟩
end Go.Proofs.YtdeapbihbhoefaaGreatDoor.Rel
