/- Part 14 of the texts of the claim: Y9, Y10, Y11, V1. -/
import Derived.Test.YtdeapbihbhoefaaGreatDoorMr13
import Derived.Test.YtdeapbihbhoefaaGreatDoorMr9
import Derived.ChangeKeysEq
import Derived.Maps.OwnOps
import Derived.Maps.OwnSet
import Derived.Maps.Views
import Derived.Test.YtdeapbihbhoefaaGreatDoorMr10

/- Contract of weight. -/
namespace Go.Proofs.YtdeapbihbhoefaaGreatDoor
open Go.RowKit
open Calm (bcell Blk)

theorem eqItems_int (d : Nat) (xs ys : Array Value) (l m : List Int) (hx : ∀ i, i < l.length → xs[i]? = some (.int .i64 (l.getD i 0))) (hy : ∀ i, i < l.length → ys[i]? = some (.int .i64 (m.getD i 0))) (W : World) : ∀ is : List Nat, (∀ i ∈ is, i < l.length) →
    (Op.eqItems (d + 1) 3 1 xs ys is).run Tryz.prog W = .ok (is.all fun i => l.getD i 0 == m.getD i 0) W
  | [], _ => by simp [Op.eqItems]
  | i :: is, h => by
    have hp : Tryz.prog.plainKey 3 = true := by kernel_rfl
    have hu : Tryz.prog.underlying 3 = some (.int .i64) := by kernel_rfl
    have hi := h i (by simp)
    have h1 := run_part_plain (P := Tryz.prog) (w := W) hp (hx i hi)
    have h2 := run_part_plain (P := Tryz.prog) (w := W) hp (hy i hi)
    have h3 := run_equalIn_int (P := Tryz.prog) W d 3 .i64 .i64 (l.getD i 0) (m.getD i 0) hu
    have ih := eqItems_int d xs ys l m hx hy W is (fun j hj => h j (by simp [hj]))
    simp only [Op.eqItems, Sem.run_bind, Nat.mul_one, h1, h2, h3, Result.andThen_ok]
    by_cases hc : (l.getD i 0 == m.getD i 0) = true
    · rw [hc]
      simp only [Bool.not_true, Bool.false_eq_true, if_false, ih, List.all_cons, hc, Bool.true_and]
    · rw [Bool.not_eq_true] at hc
      rw [hc]
      simp only [List.all_cons, hc, Bool.false_and, Bool.not_false, if_true]
      rfl
/-- an array of eight integers held against the zero array. -/
theorem eq_arr8 (t0 t1 t2 t3 t4 t5 t6 t7 : Int) (W : World) : Sem.run Tryz.prog (binOp .eql 129 (.agg #[(.int .i64 t0), (.int .i64 t1), (.int .i64 t2), (.int .i64 t3), (.int .i64 t4), (.int .i64 t5), (.int .i64 t6), (.int .i64 t7)]) (.agg #[(.int .i64 0), (.int .i64 0), (.int .i64 0), (.int .i64 0), (.int .i64 0), (.int .i64 0), (.int .i64 0), (.int .i64 0)])) W = .ok (.bool ((List.range 8).all fun i => [t0, t1, t2, t3, t4, t5, t6, t7].getD i 0 == 0)) W := by
  obtain ⟨i0, hi, hz0, hz1, hz2⟩ := info_parts Tryz.infoI
  have hu : Tryz.prog.underlying 129 = some (.array 8 3) := by kernel_rfl
  have hc : Tryz.prog.cellsOf 3 = 1 := by kernel_rfl
  have h := eqItems_int 9998 #[(.int .i64 t0), (.int .i64 t1), (.int .i64 t2), (.int .i64 t3), (.int .i64 t4), (.int .i64 t5), (.int .i64 t6), (.int .i64 t7)] #[(.int .i64 0), (.int .i64 0), (.int .i64 0), (.int .i64 0), (.int .i64 0), (.int .i64 0), (.int .i64 0), (.int .i64 0)] [t0, t1, t2, t3, t4, t5, t6, t7] [0, 0, 0, 0, 0, 0, 0, 0] (by intro i hi; match i, hi with | 0, _ => rfl | 1, _ => rfl | 2, _ => rfl | 3, _ => rfl | 4, _ => rfl | 5, _ => rfl | 6, _ => rfl | 7, _ => rfl) (by intro i hi; match i, hi with | 0, _ => rfl | 1, _ => rfl | 2, _ => rfl | 3, _ => rfl | 4, _ => rfl | 5, _ => rfl | 6, _ => rfl | 7, _ => rfl) W (List.range 8) (by simp)
  have h2 := run_equalIn_array (P := Tryz.prog) (w := W) 9999 #[(.int .i64 t0), (.int .i64 t1), (.int .i64 t2), (.int .i64 t3), (.int .i64 t4), (.int .i64 t5), (.int .i64 t6), (.int .i64 t7)] #[(.int .i64 0), (.int .i64 0), (.int .i64 0), (.int .i64 0), (.int .i64 0), (.int .i64 0), (.int .i64 0), (.int .i64 0)] hu hi
  rw [hc, h] at h2
  have h3 : (Op.equal 129 (.agg #[(.int .i64 t0), (.int .i64 t1), (.int .i64 t2), (.int .i64 t3), (.int .i64 t4), (.int .i64 t5), (.int .i64 t6), (.int .i64 t7)]) (.agg #[(.int .i64 0), (.int .i64 0), (.int .i64 0), (.int .i64 0), (.int .i64 0), (.int .i64 0), (.int .i64 0), (.int .i64 0)])).run Tryz.prog W = _ := h2
  simp only [binOp]
  rw [Sem.run_bind, h3]
  rfl
theorem sl8 (b : Nat) (W : World) : Sem.run Tryz.prog (Instr.sliceAt 129 (.pointer (some ⟨b, 0, none⟩)) none none none) W = .ok (.slice (some ⟨b, 0, none⟩) 8 8) W := by
  have ht : Tryz.prog.underlying 129 = some (.array 8 3) := by kernel_rfl
  obtain ⟨i0, hi, hz0, hz1, hz2⟩ := info_parts Tryz.infoI
  simp [Instr.sliceAt, run_underlying ht, Instr.sliceBounds, Instr.sureAddr, sizeOf, typeInfo, hi, Addr.add]
theorem taps8 {ts : List Int} (h : ts.length ≤ 8) : (ts.map (Value.int .i64) ++ (#[(.int .i64 0), (.int .i64 0), (.int .i64 0), (.int .i64 0), (.int .i64 0), (.int .i64 0), (.int .i64 0), (.int .i64 0)] : Array Value).toList.drop ts.length).toArray = #[(.int .i64 (ts.getD 0 0)), (.int .i64 (ts.getD 1 0)), (.int .i64 (ts.getD 2 0)), (.int .i64 (ts.getD 3 0)), (.int .i64 (ts.getD 4 0)), (.int .i64 (ts.getD 5 0)), (.int .i64 (ts.getD 6 0)), (.int .i64 (ts.getD 7 0))] := by
  match ts, h with
  | [], _ => rfl
  | [_], _ => rfl
  | [_, _], _ => rfl
  | [_, _, _], _ => rfl
  | [_, _, _, _], _ => rfl
  | [_, _, _, _, _], _ => rfl
  | [_, _, _, _, _, _], _ => rfl
  | [_, _, _, _, _, _, _], _ => rfl
  | [_, _, _, _, _, _, _, _], _ => rfl
  | _ :: _ :: _ :: _ :: _ :: _ :: _ :: _ :: _ :: _, h => simp at h
theorem idx8 (a b c d e f g h : Value) (k : Nat) (hk : k < 8) (W : World) : Sem.run Tryz.prog (Instr.index 129 (.agg #[a, b, c, d, e, f, g, h]) (.int .i64 ((k : Int)))) W = .ok (#[a, b, c, d, e, f, g, h].getD k undef) W := by
  have ht : Tryz.prog.underlying 129 = some (.array 8 3) := by kernel_rfl
  have hu : Tryz.prog.underlying 3 = some (.int .i64) := by kernel_rfl
  obtain ⟨i0, hi, hz0, hz1, hz2⟩ := info_parts Tryz.infoI
  have h3 : (0 : Int) ≤ k ∧ (k : Int) < 8 := by omega
  have hrun := run_underlying (P := Tryz.prog) hu
  obtain rfl | rfl | rfl | rfl | rfl | rfl | rfl | rfl : k = 0 ∨ k = 1 ∨ k = 2 ∨ k = 3 ∨ k = 4 ∨ k = 5 ∨ k = 6 ∨ k = 7 := by omega
  all_goals (simp [Instr.index, run_underlying ht, asIntOf, sizeOf, typeInfo, hi, hz1, part, isAgg, hrun])

set_option maxRecDepth 100000 in
set_option maxHeartbeats 2000000 in
theorem weight_any (lk ht rc : Int) (ts : List Int) (A1 A2 : Option Addr) (M L c1 c2 : Nat) (w : World) (hM : M = ts.length) (hT : Cells w A1 ts) (h8 : M ≤ 8) (hb : inB 64 ts) :
    Calls Tryz.prog 61 #[.agg #[(.int .i64 lk), (.int .i64 ht), .slice A1 M c1, (.int .i64 rc), .slice A2 L c2]] w fun r w' => r = .returned (.int .i64 (wtK ts 8)) ∧ Below w.heap.size w w' := by
  have HT := Lib.hid hT
  have HM := Lib.hid hM
  have HB := Lib.hid hb
  obtain ⟨Z, hZ⟩ : ∃ Z, Z = ((List.range 8).all fun i => [ts.getD 0 0, ts.getD 1 0, ts.getD 2 0, ts.getD 3 0, ts.getD 4 0, ts.getD 5 0, ts.getD 6 0, ts.getD 7 0].getD i 0 == 0) := ⟨_, rfl⟩
  have HEQ := eq_arr8 (ts.getD 0 0) (ts.getD 1 0) (ts.getD 2 0) (ts.getD 3 0) (ts.getD 4 0) (ts.getD 5 0) (ts.getD 6 0) (ts.getD 7 0)
  rw [← hZ] at HEQ
  have HZ : Hid (Z = true → wtK ts 8 = 0) := Lib.hid (fun e => by
    rw [hZ] at e
    have e2 := List.all_eq_true.1 e
    refine wtK_zero fun i hi => ?_
    have e3 := e2 i (by simp; omega)
    match i, hi with
    | 0, _ => simpa using e3
    | 1, _ => simpa using e3
    | 2, _ => simpa using e3
    | 3, _ => simpa using e3
    | 4, _ => simpa using e3
    | 5, _ => simpa using e3
    | 6, _ => simpa using e3
    | 7, _ => simpa using e3)
  have HEQH := Lib.hid HEQ
  clear hT hM hb hZ HEQ
  go_enter Tryz.func61, Tryz.ntmps61
  go_wp2
  refine name_world ?_
  intro wa ea
  have KA : Blk wa w.heap.size #[(.int .i64 lk), (.int .i64 ht), .slice A1 M c1, (.int .i64 rc), .slice A2 L c2] := by rw [ea]; (repeat (first | ((with_reducible refine Blk.at_ ?_); focus (first | rfl | (simp; done) | (simp; omega))) | (with_reducible refine Blk.alloc ?_ _) | (with_reducible refine Blk.below ?_ (by with_reducible assumption)) | (with_reducible refine Blk.drew ?_)))
  have HA : wa.heap[w.heap.size + 1]? = some (.cells #[(.int .i64 0), (.int .i64 0), (.int .i64 0), (.int .i64 0), (.int .i64 0), (.int .i64 0), (.int .i64 0), (.int .i64 0)] 129 (0, 0)) := by rw [ea]; exact heap_new (by simp)
  have BA : Below w.heap.size w wa := by rw [ea]; (repeat (first | (with_reducible exact Below.refl _ _) | ((with_reducible refine Below.setCell ?_ ?_ _); rotate_left 1; focus (first | (simp; done) | (simp; omega) | (simp at *; omega))) | ((with_reducible refine Below.alloc ?_ ?_ _); rotate_left 1; focus (first | (simp; done) | (simp; omega) | (simp at *; omega))) | (with_reducible refine Below.drew ?_) | ((with_reducible refine Calm.step (by assumption) ?_ ?_); rotate_left 1; focus (first | (simp; done) | (simp; omega) | (simp at *; omega)))))
  have hza : wa.heap.size = w.heap.size + 2 := by rw [ea]; simp
  have HKA := Lib.hid KA
  have HHA := Lib.hid HA
  have HBA := Lib.hid BA
  obtain ⟨g0, g1, g2, g3, g4, gl, gf⟩ := KA.o5
  have hsl := sl8 (w.heap.size + 1)
  clear ea KA HA BA
  refine Calm.tail_below 3 (by kernel_rfl) (by kernel_rfl) ?_
  simp only [List.take_succ_cons, List.take_zero, List.drop_succ_cons, List.drop_zero]
  repeat (first | (apply Calm.op_move; (focus rfl); (focus (first | exact .inl rfl | exact .inr rfl)); (focus ((try simp only [Act.eval, Array.getD_eq_getD_getElem?, List.getElem?_toArray, List.getElem?_cons_succ, List.getElem?_cons_zero, Option.getD_some]); rfl)); (try simp only [Act.put, List.setIfInBounds_toArray, List.set_cons_zero, List.set_cons_succ])) | (apply Calm.op_not; (focus rfl); (try simp only [Act.put, List.setIfInBounds_toArray, List.set_cons_zero, List.set_cons_succ])) | (apply Calm.op; (focus rfl); (focus (intro W hb; obtain ⟨hc, hf⟩ := bcell hb; clear hb hf; go_simp; (try go_bits); (try rfl); done)); (try simp only [Act.put, List.setIfInBounds_toArray, List.set_cons_zero, List.set_cons_succ])))
  refine wpQuiet_nil ?_
  intro wb hbb
  obtain ⟨hbbc, hbbf⟩ := bcell hbb
  have hbbz := hbb.size
  (try simp at hbbz)
  (try have hbbz0 : w.heap.size < wb.heap.size := by omega)
  (try have hbbz1 : w.heap.size + 1 < wb.heap.size := by omega)
  (try have hbbz2 : w.heap.size + 1 + 1 < wb.heap.size := by omega)
  (try have hbbz3 : w.heap.size + 1 + 1 + 1 < wb.heap.size := by omega)
  (try have hbbz4 : w.heap.size + 1 + 1 + 1 + 1 < wb.heap.size := by omega)
  (try have hbbz5 : w.heap.size + 1 + 1 + 1 + 1 + 1 < wb.heap.size := by omega)
  go_wp2_with (refine wpList_copyI rfl (.tmp 7) (.tmp 9) 22 22 rfl 3 Tryz.underlying22 Tryz.sizeI (w.heap.size + 1) 8 M 8 c1 A1 ts HM.out.symm h8 rfl rfl #[(.int .i64 0), (.int .i64 0), (.int .i64 0), (.int .i64 0), (.int .i64 0), (.int .i64 0), (.int .i64 0), (.int .i64 0)] 129 ?hg rfl (HT.out.below (HBA.out.trans (hbb.mono HBA.out.size))) ?_)
  case hg => exact (hbb.block _ (by omega)).trans HHA.out
  intro wc hsc hbc hoc hgc
  rw [show (ts.map (Value.int .i64) ++ (#[(.int .i64 0), (.int .i64 0), (.int .i64 0), (.int .i64 0), (.int .i64 0), (.int .i64 0), (.int .i64 0), (.int .i64 0)] : Array Value).toList.drop M).toArray = #[(.int .i64 (ts.getD 0 0)), (.int .i64 (ts.getD 1 0)), (.int .i64 (ts.getD 2 0)), (.int .i64 (ts.getD 3 0)), (.int .i64 (ts.getD 4 0)), (.int .i64 (ts.getD 5 0)), (.int .i64 (ts.getD 6 0)), (.int .i64 (ts.getD 7 0))] by rw [HM.out]; exact taps8 (by rw [← HM.out]; exact h8)] at hgc
  have HIX : Hid (∀ k : Nat, k < 8 → ∀ W, Sem.run Tryz.prog (Instr.index 129 (.agg #[(.int .i64 (ts.getD 0 0)), (.int .i64 (ts.getD 1 0)), (.int .i64 (ts.getD 2 0)), (.int .i64 (ts.getD 3 0)), (.int .i64 (ts.getD 4 0)), (.int .i64 (ts.getD 5 0)), (.int .i64 (ts.getD 6 0)), (.int .i64 (ts.getD 7 0))]) (.int .i64 ((k : Int)))) W = .ok (.int .i64 (ts.getD k 0)) W) := Lib.hid (fun k hk W => by
    rw [idx8 _ _ _ _ _ _ _ _ k hk W]
    match k, hk with
    | 0, _ => rfl
    | 1, _ => rfl
    | 2, _ => rfl
    | 3, _ => rfl
    | 4, _ => rfl
    | 5, _ => rfl
    | 6, _ => rfl
    | 7, _ => rfl)
  generalize ts.getD 0 0 = t0 at *
  generalize ts.getD 1 0 = t1 at *
  generalize ts.getD 2 0 = t2 at *
  generalize ts.getD 3 0 = t3 at *
  generalize ts.getD 4 0 = t4 at *
  generalize ts.getD 5 0 = t5 at *
  generalize ts.getD 6 0 = t6 at *
  generalize ts.getD 7 0 = t7 at *
  have hBc : Below w.heap.size w wc := (HBA.out.trans (hbb.mono HBA.out.size)).trans (hbc.mono (by omega))
  have HBC := Lib.hid hBc
  have hK := Calm.Blk.row hgc
  obtain ⟨d0, d1, d2, d3, d4, d5, d6, d7, dl, df⟩ := hK.o8
  have heq := HEQH.out
  have HBT : Hid (∀ k : Nat, -64 ≤ ts.getD k 0 ∧ ts.getD k 0 ≤ 64) := Lib.hid (fun k => inB_get HB.out (by omega) k)
  have HWB : Hid (∀ k : Nat, 0 ≤ wtK ts k ∧ wtK ts k ≤ 64 * (k : Int)) := Lib.hid (fun k => wtK_bd HB.out k)
  clear hgc hoc hbc hbb hsc hsl hBc g0 g1 g2 g3 g4 gl gf HHA hK HKA HB HEQH
  cases hZ : Z with
  | true =>
    subst hZ
    have HR := Lib.hid (HZ.out rfl)
    go_wp2
    go_ret
    exact ⟨ret_i HR.out.symm, HBC.out⟩
  | false =>
    subst hZ
    go_wp2
    go_loop [4, 15] (fun s i => ∃ k : Nat, k ≤ 8 ∧ i = (.int .i64 ((k : Int))) ∧ s = (.int .i64 (wtK ts k))) (fun _ i => 8 - (intOf i).toNat)
    case atStart => exact ⟨0, by omega, rfl, rfl⟩
    case round =>
      obtain ⟨k, hk, rfl, rfl⟩ := hrel
      obtain ⟨m1, m2⟩ := HWB.out k
      have HS : Hid (wtK ts (k + 1) = wtK ts k + absI (ts.getD k 0)) := Lib.hid rfl
      obtain ⟨S, hS⟩ : ∃ S, S = wtK ts k := ⟨_, rfl⟩
      rw [← hS] at m1 m2 HS ⊢
      have HSE := Lib.hid hS
      clear hS
      by_cases hlt : k < 8
      · have hix := HIX.out k hlt
        have hbt := HBT.out k
        obtain ⟨x, hx⟩ : ∃ x, x = ts.getD k 0 := ⟨_, rfl⟩
        rw [← hx] at hix hbt HS
        obtain ⟨b1, b2⟩ := hbt
        have hab := absI_bd ⟨b1, b2⟩
        obtain ⟨y, hy⟩ : ∃ y, y = absI x := ⟨_, rfl⟩
        have HA : Hid (∀ W, Calls Tryz.prog 59 #[(.int .i64 x)] W fun r w' => r = .returned (.int .i64 y) ∧ W = w') := Lib.hid (fun W => by rw [hy]; exact abs_any x W ⟨by omega, by omega⟩)
        rw [← hy] at hab HS
        obtain ⟨b3, b4⟩ := hab
        clear hx hy
        go_wp2_with (go_at_call 59; refine (HA.out _).mono ?_; rintro r w1 ⟨rfl, rfl⟩)
        go_round
        case rel => exact ⟨k + 1, by omega, by go_num, by rw [HS.out]⟩
        case measure => simp [intOf]; omega
      · obtain rfl : k = 8 := by omega
        go_wp2
        go_ret
        exact ⟨ret_i HSE.out, HBC.out⟩
end Go.Proofs.YtdeapbihbhoefaaGreatDoor

/- Contracts of Steady and Quiet. -/
namespace Go.Proofs.YtdeapbihbhoefaaGreatDoor
open Go.RowKit
open Calm (bcell Blk)

set_option maxHeartbeats 1000000 in
theorem Steady_any (lk ht rc : Int) (ts gs : List Int) (A1 A2 : Option Addr) (M L c1 c2 : Nat) (w : World) (hM : M = ts.length) (hL : L = gs.length) (hT : Cells w A1 ts) (hG : Cells w A2 gs) (h1 : M ≤ 1000) (h2 : L ≤ 1000) :
    Calls Tryz.prog 29 #[.agg #[(.int .i64 lk), (.int .i64 ht), .slice A1 M c1, (.int .i64 rc), .slice A2 L c2]] w fun r w' => r = .returned (.tuple #[(.int .i64 (if guardErr lk ht rc ts gs = 0 then (stdF lk ht : Int) else 0)), (.int .i64 (guardErr lk ht rc ts gs))]) ∧ Below w.heap.size w w' := by
  have HCG : Hid (∀ W, Cells W A1 ts → Cells W A2 gs → Calls Tryz.prog 35 #[.agg #[(.int .i64 lk), (.int .i64 ht), .slice A1 M c1, (.int .i64 rc), .slice A2 L c2]] W fun r w' => r = .returned (.int .i64 (guardErr lk ht rc ts gs)) ∧ Below W.heap.size W w') := Lib.hid (fun W q1 q2 => by rw [hM, hL]; exact checkGuard_any lk ht rc ts gs A1 A2 c1 c2 W q1 q2 (by omega) (by omega))
  have HST : Hid (guardErr lk ht rc ts gs = 0 → ∀ W, Calls Tryz.prog 60 #[.agg #[(.int .i64 lk), (.int .i64 ht), .slice A1 M c1, (.int .i64 rc), .slice A2 L c2]] W fun r w' => r = .returned (.int .i64 ((stdF lk ht : Int))) ∧ Below W.heap.size W w') := Lib.hid (fun e W => steady_any lk ht rc A1 A2 M L c1 c2 W (guard_valid e).lk (guard_valid e).ht)
  have HT := Lib.hid hT
  have HG := Lib.hid hG
  obtain ⟨E, hE⟩ : ∃ E, E = guardErr lk ht rc ts gs := ⟨_, rfl⟩
  obtain ⟨S, hS⟩ : ∃ S, S = (stdF lk ht : Int) := ⟨_, rfl⟩
  rw [← hE] at HCG HST ⊢
  rw [← hS] at HST ⊢
  clear hM hL hT hG hE hS
  by_cases he : E = 0
  · subst he
    have HST2 := HST.out rfl
    have HST3 := Lib.hid HST2
    clear HST2 HST
    rw [if_pos rfl]
    go_enter Tryz.func29, Tryz.ntmps29
    go_wp2_with (first
      | (go_at_call 35; refine (HCG.out _ (HT.out.below (by (repeat (first | (with_reducible exact Below.refl _ _) | ((with_reducible refine Below.setCell ?_ ?_ _); rotate_left 1; focus (first | (simp; done) | (simp; omega) | (simp at *; omega))) | ((with_reducible refine Below.alloc ?_ ?_ _); rotate_left 1; focus (first | (simp; done) | (simp; omega) | (simp at *; omega))) | (with_reducible refine Below.drew ?_) | ((with_reducible refine Calm.step (by assumption) ?_ ?_); rotate_left 1; focus (first | (simp; done) | (simp; omega) | (simp at *; omega))))))) (HG.out.below (by (repeat (first | (with_reducible exact Below.refl _ _) | ((with_reducible refine Below.setCell ?_ ?_ _); rotate_left 1; focus (first | (simp; done) | (simp; omega) | (simp at *; omega))) | ((with_reducible refine Below.alloc ?_ ?_ _); rotate_left 1; focus (first | (simp; done) | (simp; omega) | (simp at *; omega))) | (with_reducible refine Below.drew ?_) | ((with_reducible refine Calm.step (by assumption) ?_ ?_); rotate_left 1; focus (first | (simp; done) | (simp; omega) | (simp at *; omega)))))))).mono ?_; rintro r w1 ⟨rfl, hb1⟩; have HB1 := Lib.hid (show Below w.heap.size w w1 from Below.trans (by (repeat (first | (with_reducible exact Below.refl _ _) | ((with_reducible refine Below.setCell ?_ ?_ _); rotate_left 1; focus (first | (simp; done) | (simp; omega) | (simp at *; omega))) | ((with_reducible refine Below.alloc ?_ ?_ _); rotate_left 1; focus (first | (simp; done) | (simp; omega) | (simp at *; omega))) | (with_reducible refine Below.drew ?_) | ((with_reducible refine Calm.step (by assumption) ?_ ?_); rotate_left 1; focus (first | (simp; done) | (simp; omega) | (simp at *; omega)))))) (hb1.mono (by simp; try omega))); have G1 := Lib.hid (show Blk w1 w.heap.size #[(.int .i64 lk), (.int .i64 ht), .slice A1 M c1, (.int .i64 rc), .slice A2 L c2] from Blk.below (by (repeat (first | ((with_reducible refine Blk.at_ ?_); focus (first | rfl | (simp; done) | (simp; omega))) | (with_reducible refine Blk.alloc ?_ _) | (with_reducible refine Blk.below ?_ (by with_reducible assumption)) | (with_reducible refine Blk.drew ?_)))) hb1); obtain ⟨g0, g1, g2, g3, g4, gl, gf⟩ := G1.out.o5; clear hb1)
      | (go_at_call 60; refine (HST3.out _).mono ?_; rintro r w2 ⟨rfl, hb2⟩; have HB2 := Lib.hid (HB1.out.trans (hb2.mono HB1.out.size)); clear hb2 g0 g1 g2 g3 g4 gl gf))
    go_ret2
    exact ⟨rfl, HB2.out⟩
  · rw [if_neg he]
    clear HST
    go_enter Tryz.func29, Tryz.ntmps29
    go_wp2_with (go_at_call 35; refine (HCG.out _ (HT.out.below (by (repeat (first | (with_reducible exact Below.refl _ _) | ((with_reducible refine Below.setCell ?_ ?_ _); rotate_left 1; focus (first | (simp; done) | (simp; omega) | (simp at *; omega))) | ((with_reducible refine Below.alloc ?_ ?_ _); rotate_left 1; focus (first | (simp; done) | (simp; omega) | (simp at *; omega))) | (with_reducible refine Below.drew ?_) | ((with_reducible refine Calm.step (by assumption) ?_ ?_); rotate_left 1; focus (first | (simp; done) | (simp; omega) | (simp at *; omega))))))) (HG.out.below (by (repeat (first | (with_reducible exact Below.refl _ _) | ((with_reducible refine Below.setCell ?_ ?_ _); rotate_left 1; focus (first | (simp; done) | (simp; omega) | (simp at *; omega))) | ((with_reducible refine Below.alloc ?_ ?_ _); rotate_left 1; focus (first | (simp; done) | (simp; omega) | (simp at *; omega))) | (with_reducible refine Below.drew ?_) | ((with_reducible refine Calm.step (by assumption) ?_ ?_); rotate_left 1; focus (first | (simp; done) | (simp; omega) | (simp at *; omega)))))))).mono ?_; rintro r w1 ⟨rfl, hb1⟩; have HB1 := Lib.hid (show Below w.heap.size w w1 from Below.trans (by (repeat (first | (with_reducible exact Below.refl _ _) | ((with_reducible refine Below.setCell ?_ ?_ _); rotate_left 1; focus (first | (simp; done) | (simp; omega) | (simp at *; omega))) | ((with_reducible refine Below.alloc ?_ ?_ _); rotate_left 1; focus (first | (simp; done) | (simp; omega) | (simp at *; omega))) | (with_reducible refine Below.drew ?_) | ((with_reducible refine Calm.step (by assumption) ?_ ?_); rotate_left 1; focus (first | (simp; done) | (simp; omega) | (simp at *; omega)))))) (hb1.mono (by simp; try omega))); clear hb1)
    go_ret2
    exact ⟨rfl, HB1.out⟩

theorem mnQ (x y : Int) (ts : Array TypeId) (t : TypeId) (W : World) : (Builtin.min_ ts t #[(.int .i64 x), (.int .i64 y)]).run Tryz.prog W = .ok (.int .i64 (if y < x then y else x)) W := by
  by_cases h : y < x
  · simp [Builtin.min_, Builtin.min2, h]
  · simp [Builtin.min_, Builtin.min2, h]

set_option maxRecDepth 100000 in
set_option maxHeartbeats 2000000 in
theorem Quiet_any (lk ht rc : Int) (ts gs : List Int) (A1 A2 : Option Addr) (M L c1 c2 : Nat) (w : World) (hM : M = ts.length) (hL : L = gs.length) (hT : Cells w A1 ts) (hG : Cells w A2 gs) (h1 : M ≤ 1000) (h2 : L ≤ 1000) :
    Calls Tryz.prog 30 #[.agg #[(.int .i64 lk), (.int .i64 ht), .slice A1 M c1, (.int .i64 rc), .slice A2 L c2]] w fun r w' => r = .returned (.tuple #[(.int .i64 (if guardErr lk ht rc ts gs = 0 then quietF lk ht rc ts else 0)), (.int .i64 (guardErr lk ht rc ts gs))]) ∧ Below w.heap.size w w' := by
  have HCG : Hid (∀ W, Cells W A1 ts → Cells W A2 gs → Calls Tryz.prog 35 #[.agg #[(.int .i64 lk), (.int .i64 ht), .slice A1 M c1, (.int .i64 rc), .slice A2 L c2]] W fun r w' => r = .returned (.int .i64 (guardErr lk ht rc ts gs)) ∧ Below W.heap.size W w') := Lib.hid (fun W q1 q2 => by rw [hM, hL]; exact checkGuard_any lk ht rc ts gs A1 A2 c1 c2 W q1 q2 (by omega) (by omega))
  have HST : Hid (guardErr lk ht rc ts gs = 0 → ∀ W, Calls Tryz.prog 60 #[.agg #[(.int .i64 lk), (.int .i64 ht), .slice A1 M c1, (.int .i64 rc), .slice A2 L c2]] W fun r w' => r = .returned (.int .i64 ((stdF lk ht : Int))) ∧ Below W.heap.size W w') := Lib.hid (fun e W => steady_any lk ht rc A1 A2 M L c1 c2 W (guard_valid e).lk (guard_valid e).ht)
  have HWT : Hid (guardErr lk ht rc ts gs = 0 → ∀ W, Cells W A1 ts → Calls Tryz.prog 61 #[.agg #[(.int .i64 lk), (.int .i64 ht), .slice A1 M c1, (.int .i64 rc), .slice A2 L c2]] W fun r w' => r = .returned (.int .i64 (wtK ts 8)) ∧ Below W.heap.size W w') := Lib.hid (fun e W q => weight_any lk ht rc ts A1 A2 M L c1 c2 W hM q (by have := (guard_valid e).tl; omega) (guard_valid e).tb)
  have HWB : Hid (guardErr lk ht rc ts gs = 0 → 0 ≤ wtK ts 8 ∧ wtK ts 8 ≤ 512) := Lib.hid (fun e => by have := wtK_bd (guard_valid e).tb 8; omega)
  have HRC : Hid (guardErr lk ht rc ts gs = 0 → 0 ≤ rc ∧ rc ≤ 1048576) := Lib.hid (fun e => (guard_valid e).rc)
  have HQ : Hid (quietF lk ht rc ts = if 0 < wtK ts 8 then min (stdF lk ht : Int) (rc / wtK ts 8) else (stdF lk ht : Int)) := Lib.hid rfl
  have HT := Lib.hid hT
  have HG := Lib.hid hG
  obtain ⟨E, hE⟩ : ∃ E, E = guardErr lk ht rc ts gs := ⟨_, rfl⟩
  obtain ⟨S, hS⟩ : ∃ S, S = (stdF lk ht : Int) := ⟨_, rfl⟩
  obtain ⟨Wt, hWt⟩ : ∃ Wt, Wt = wtK ts 8 := ⟨_, rfl⟩
  obtain ⟨R, hR⟩ : ∃ R, R = quietF lk ht rc ts := ⟨_, rfl⟩
  rw [← hE] at HCG HST HWT HWB HRC ⊢
  rw [← hS] at HST HQ
  rw [← hWt] at HWT HWB HQ
  rw [← hR] at HQ ⊢
  clear hM hL hT hG hE hS hWt hR
  by_cases he : E = 0
  · subst he
    have HST2 := HST.out rfl
    have HST3 := Lib.hid HST2
    clear HST2 HST
    have HWT2 := HWT.out rfl
    have HWT3 := Lib.hid HWT2
    clear HWT2 HWT
    obtain ⟨b1, b2⟩ := HWB.out rfl
    obtain ⟨b3, b4⟩ := HRC.out rfl
    rw [if_pos rfl]
    by_cases hw : 0 < Wt
    · have b5 : 0 ≤ rc / Wt := Int.ediv_nonneg b3 b1
      have b6 : rc / Wt ≤ rc := Int.ediv_le_self _ b3
      have b7 : ¬ Wt = 0 := by omega
      have HR : Hid (R = if rc / Wt < S then rc / Wt else S) := Lib.hid (by rw [HQ.out, if_pos hw]; split <;> omega)
      have hmn := mnQ S (rc / Wt)
      obtain ⟨X, hX⟩ : ∃ X, X = (if rc / Wt < S then rc / Wt else S) := ⟨_, rfl⟩
      rw [← hX] at HR hmn
      have HX := Lib.hid hX
      clear hX
      go_enter Tryz.func30, Tryz.ntmps30
      go_wp2_with (first
        | (go_at_call 35; refine (HCG.out _ (HT.out.below (by (repeat (first | (with_reducible exact Below.refl _ _) | ((with_reducible refine Below.setCell ?_ ?_ _); rotate_left 1; focus (first | (simp; done) | (simp; omega) | (simp at *; omega))) | ((with_reducible refine Below.alloc ?_ ?_ _); rotate_left 1; focus (first | (simp; done) | (simp; omega) | (simp at *; omega))) | (with_reducible refine Below.drew ?_) | ((with_reducible refine Calm.step (by assumption) ?_ ?_); rotate_left 1; focus (first | (simp; done) | (simp; omega) | (simp at *; omega))))))) (HG.out.below (by (repeat (first | (with_reducible exact Below.refl _ _) | ((with_reducible refine Below.setCell ?_ ?_ _); rotate_left 1; focus (first | (simp; done) | (simp; omega) | (simp at *; omega))) | ((with_reducible refine Below.alloc ?_ ?_ _); rotate_left 1; focus (first | (simp; done) | (simp; omega) | (simp at *; omega))) | (with_reducible refine Below.drew ?_) | ((with_reducible refine Calm.step (by assumption) ?_ ?_); rotate_left 1; focus (first | (simp; done) | (simp; omega) | (simp at *; omega)))))))).mono ?_; rintro r w1 ⟨rfl, hb1⟩; have HB1 := Lib.hid (show Below w.heap.size w w1 from Below.trans (by (repeat (first | (with_reducible exact Below.refl _ _) | ((with_reducible refine Below.setCell ?_ ?_ _); rotate_left 1; focus (first | (simp; done) | (simp; omega) | (simp at *; omega))) | ((with_reducible refine Below.alloc ?_ ?_ _); rotate_left 1; focus (first | (simp; done) | (simp; omega) | (simp at *; omega))) | (with_reducible refine Below.drew ?_) | ((with_reducible refine Calm.step (by assumption) ?_ ?_); rotate_left 1; focus (first | (simp; done) | (simp; omega) | (simp at *; omega)))))) (hb1.mono (by simp; try omega))); have G1 := Lib.hid (show Blk w1 w.heap.size #[(.int .i64 lk), (.int .i64 ht), .slice A1 M c1, (.int .i64 rc), .slice A2 L c2] from Blk.below (by (repeat (first | ((with_reducible refine Blk.at_ ?_); focus (first | rfl | (simp; done) | (simp; omega))) | (with_reducible refine Blk.alloc ?_ _) | (with_reducible refine Blk.below ?_ (by with_reducible assumption)) | (with_reducible refine Blk.drew ?_)))) hb1); obtain ⟨g0, g1, g2, g3, g4, gl, gf⟩ := G1.out.o5; clear hb1)
        | (go_at_call 61; refine (HWT3.out _ (HT.out.below HB1.out)).mono ?_; rintro r w2 ⟨rfl, hb2⟩; have HB2 := Lib.hid (HB1.out.trans (hb2.mono HB1.out.size)); have G2 := Lib.hid (G1.out.below hb2); clear hb2 g0 g1 g2 g3 g4 gl gf; obtain ⟨g0, g1, g2, g3, g4, gl, gf⟩ := G2.out.o5))
      refine Calm.tail_below 7 (by kernel_rfl) (by kernel_rfl) ?_
      simp only [List.take_succ_cons, List.take_zero, List.drop_succ_cons, List.drop_zero]
      repeat (first | (first | (apply Calm.op_move; (focus rfl); (focus (first | exact .inl rfl | exact .inr rfl)); (focus ((try simp only [Act.eval, Array.getD_eq_getD_getElem?, List.getElem?_toArray, List.getElem?_cons_succ, List.getElem?_cons_zero, Option.getD_some]); rfl)); (try simp only [Act.put, List.setIfInBounds_toArray, List.set_cons_zero, List.set_cons_succ])) | (apply Calm.op_not; (focus rfl); (try simp only [Act.put, List.setIfInBounds_toArray, List.set_cons_zero, List.set_cons_succ])) | (apply Calm.op; (focus rfl); (focus (intro W hb; obtain ⟨hc, hf⟩ := bcell hb; clear hb hf; go_simp; (try go_bits); (try rfl); done)); (try simp only [Act.put, List.setIfInBounds_toArray, List.set_cons_zero, List.set_cons_succ]))) | (apply Calm.op_call; (focus rfl); (focus (intro W hb; obtain ⟨hc, hf⟩ := bcell hb; clear hb hf; go_simp; refine ⟨?_, ?_⟩; rfl; rfl)); (focus (intro W hb; first | (go_at_call 60; exact Calm.call_below hb (HST3.out _)))); (try simp only [Act.put, List.setIfInBounds_toArray, List.set_cons_zero, List.set_cons_succ])))
      refine wpQuiet_nil ?_
      intro w3 hb3
      obtain ⟨hb3c, hb3f⟩ := bcell hb3
      have hb3z := hb3.size
      (try simp at hb3z)
      (try have hb3z0 : w.heap.size < w3.heap.size := by omega)
      (try have hb3z1 : w.heap.size + 1 < w3.heap.size := by omega)
      (try have hb3z2 : w.heap.size + 1 + 1 < w3.heap.size := by omega)
      (try have hb3z3 : w.heap.size + 1 + 1 + 1 < w3.heap.size := by omega)
      (try have hb3z4 : w.heap.size + 1 + 1 + 1 + 1 < w3.heap.size := by omega)
      (try have hb3z5 : w.heap.size + 1 + 1 + 1 + 1 + 1 < w3.heap.size := by omega)
      go_wp2
      go_ret2
      exact ⟨by have h := HR.out; subst h; rfl, HB2.out.trans (hb3.mono HB2.out.size)⟩
    · have HR : Hid (R = S) := Lib.hid (by rw [HQ.out, if_neg hw])
      go_enter Tryz.func30, Tryz.ntmps30
      go_wp2_with (first
        | (go_at_call 35; refine (HCG.out _ (HT.out.below (by (repeat (first | (with_reducible exact Below.refl _ _) | ((with_reducible refine Below.setCell ?_ ?_ _); rotate_left 1; focus (first | (simp; done) | (simp; omega) | (simp at *; omega))) | ((with_reducible refine Below.alloc ?_ ?_ _); rotate_left 1; focus (first | (simp; done) | (simp; omega) | (simp at *; omega))) | (with_reducible refine Below.drew ?_) | ((with_reducible refine Calm.step (by assumption) ?_ ?_); rotate_left 1; focus (first | (simp; done) | (simp; omega) | (simp at *; omega))))))) (HG.out.below (by (repeat (first | (with_reducible exact Below.refl _ _) | ((with_reducible refine Below.setCell ?_ ?_ _); rotate_left 1; focus (first | (simp; done) | (simp; omega) | (simp at *; omega))) | ((with_reducible refine Below.alloc ?_ ?_ _); rotate_left 1; focus (first | (simp; done) | (simp; omega) | (simp at *; omega))) | (with_reducible refine Below.drew ?_) | ((with_reducible refine Calm.step (by assumption) ?_ ?_); rotate_left 1; focus (first | (simp; done) | (simp; omega) | (simp at *; omega)))))))).mono ?_; rintro r w1 ⟨rfl, hb1⟩; have HB1 := Lib.hid (show Below w.heap.size w w1 from Below.trans (by (repeat (first | (with_reducible exact Below.refl _ _) | ((with_reducible refine Below.setCell ?_ ?_ _); rotate_left 1; focus (first | (simp; done) | (simp; omega) | (simp at *; omega))) | ((with_reducible refine Below.alloc ?_ ?_ _); rotate_left 1; focus (first | (simp; done) | (simp; omega) | (simp at *; omega))) | (with_reducible refine Below.drew ?_) | ((with_reducible refine Calm.step (by assumption) ?_ ?_); rotate_left 1; focus (first | (simp; done) | (simp; omega) | (simp at *; omega)))))) (hb1.mono (by simp; try omega))); have G1 := Lib.hid (show Blk w1 w.heap.size #[(.int .i64 lk), (.int .i64 ht), .slice A1 M c1, (.int .i64 rc), .slice A2 L c2] from Blk.below (by (repeat (first | ((with_reducible refine Blk.at_ ?_); focus (first | rfl | (simp; done) | (simp; omega))) | (with_reducible refine Blk.alloc ?_ _) | (with_reducible refine Blk.below ?_ (by with_reducible assumption)) | (with_reducible refine Blk.drew ?_)))) hb1); obtain ⟨g0, g1, g2, g3, g4, gl, gf⟩ := G1.out.o5; clear hb1)
        | (go_at_call 61; refine (HWT3.out _ (HT.out.below HB1.out)).mono ?_; rintro r w2 ⟨rfl, hb2⟩; have HB2 := Lib.hid (HB1.out.trans (hb2.mono HB1.out.size)); have G2 := Lib.hid (G1.out.below hb2); clear hb2 g0 g1 g2 g3 g4 gl gf; obtain ⟨g0, g1, g2, g3, g4, gl, gf⟩ := G2.out.o5)
        | (go_at_call 60; refine (HST3.out _).mono ?_; rintro r w3 ⟨rfl, hb3⟩; have HB3 := Lib.hid (HB2.out.trans (hb3.mono HB2.out.size)); clear hb3 g0 g1 g2 g3 g4 gl gf))
      go_ret2
      exact ⟨by have h := HR.out; subst h; rfl, HB3.out⟩
  · rw [if_neg he]
    clear HST HWT HWB HRC HQ
    go_enter Tryz.func30, Tryz.ntmps30
    go_wp2_with (go_at_call 35; refine (HCG.out _ (HT.out.below (by (repeat (first | (with_reducible exact Below.refl _ _) | ((with_reducible refine Below.setCell ?_ ?_ _); rotate_left 1; focus (first | (simp; done) | (simp; omega) | (simp at *; omega))) | ((with_reducible refine Below.alloc ?_ ?_ _); rotate_left 1; focus (first | (simp; done) | (simp; omega) | (simp at *; omega))) | (with_reducible refine Below.drew ?_) | ((with_reducible refine Calm.step (by assumption) ?_ ?_); rotate_left 1; focus (first | (simp; done) | (simp; omega) | (simp at *; omega))))))) (HG.out.below (by (repeat (first | (with_reducible exact Below.refl _ _) | ((with_reducible refine Below.setCell ?_ ?_ _); rotate_left 1; focus (first | (simp; done) | (simp; omega) | (simp at *; omega))) | ((with_reducible refine Below.alloc ?_ ?_ _); rotate_left 1; focus (first | (simp; done) | (simp; omega) | (simp at *; omega))) | (with_reducible refine Below.drew ?_) | ((with_reducible refine Calm.step (by assumption) ?_ ?_); rotate_left 1; focus (first | (simp; done) | (simp; omega) | (simp at *; omega)))))))).mono ?_; rintro r w1 ⟨rfl, hb1⟩; have HB1 := Lib.hid (show Below w.heap.size w w1 from Below.trans (by (repeat (first | (with_reducible exact Below.refl _ _) | ((with_reducible refine Below.setCell ?_ ?_ _); rotate_left 1; focus (first | (simp; done) | (simp; omega) | (simp at *; omega))) | ((with_reducible refine Below.alloc ?_ ?_ _); rotate_left 1; focus (first | (simp; done) | (simp; omega) | (simp at *; omega))) | (with_reducible refine Below.drew ?_) | ((with_reducible refine Calm.step (by assumption) ?_ ?_); rotate_left 1; focus (first | (simp; done) | (simp; omega) | (simp at *; omega)))))) (hb1.mono (by simp; try omega))); clear hb1)
    go_ret2
    exact ⟨rfl, HB1.out⟩
end Go.Proofs.YtdeapbihbhoefaaGreatDoor

/- Contract of Cool: a map that the call makes holds the heats that were seen. -/
namespace Go.Proofs.YtdeapbihbhoefaaGreatDoor
open Go.RowKit
open Calm (bcell Blk)
open Go.Maps (Keyed)

theorem plainElem_bool_inv {H : Type} {P : Program} {e : TypeId} (he : P.underlying e = some .bool) {v : Value} {z : DataW H × List MemPlace} (h : plainElem P e v = some z) : ∃ b, v = .bool b ∧ z = (.lit (.bool b), []) := by
  unfold plainElem at h
  rw [he] at h
  cases v <;> simp at h
  exact ⟨_, rfl, h.symm⟩
/-- a look-up in a map of the call's own whose elements are bools. -/
theorem wpList_lookup_own_bool {H : Type} {P : Program} (w : World) {ops : Array Oper} {rest : List Oper} {o : Oper} {a : Act} {Q : Exit → Act → World → Prop}
    (hg : o.guard = none) (m x : Operand) (t : TypeId) (hop : o.op = Op.lookup t m x false)
    (k e : TypeId) (K : Keyed P k) (ht : P.underlying t = some (.map k e)) (he : P.underlying e = some .bool) (hz : (zeroValue e).run P w = .ok (.bool false) w) (b n : Nat) (D : DataW H)
    (hm : a.eval m = .map (some b)) (hown : w.ownsMap P k (plainElem P e) b n D) (key : Value) (kl : Lit) (hx : a.eval x = key) (hkey : keyOf P k key = some kl)
    (hK : ∀ c : Bool, D.atKey kl (.lit (.bool false)) = .lit (.bool c) → wpList P ops Q rest (a.put o.dst (.bool c)) w) :
    wpList P ops Q (o :: rest) a w := by
  refine wpList_plain hg fun K' hK' => ?_
  obtain ⟨v, ps, hrun, hv⟩ := hown.lookup K ht hz (plainElem_bool he false) hkey
  obtain ⟨c, rfl, hc⟩ := plainElem_bool_inv he hv
  simp only [Prod.mk.injEq] at hc
  unfold Oper.wp
  simp [execOp, hop, hm, hx, hrun, Result.andThen]
  exact hK' _ _ (hK c hc.1)
theorem Tryz.keyI : Go.Maps.Keyed Tryz.prog 3 := Go.Maps.int_keyed Tryz.underlying3
theorem zeroB (w : World) : (zeroValue 4).run Tryz.prog w = .ok (.bool false) w := by kernel_rfl

/-- a map of the heats of the first k steps. -/
def SeenMap (lk h : Int) (k B : Nat) (W : World) : Prop :=
  ∃ D : DataW Unit, W.ownsMap Tryz.prog 3 (plainElem Tryz.prog 4) B k D ∧ ∀ x : Int, D.atKey (.int .i64 x) (.lit (.bool false)) = .lit (.bool (decide (∃ j, j < k ∧ coolK lk h j = x)))
theorem SeenMap.kept {lk h : Int} {k B : Nat} {W W' : World} {row : Option Nat} (hs : SeenMap lk h k B W) (hg : W.grownBy W' row) (hne : some B ≠ row) : SeenMap lk h k B W' := by
  obtain ⟨D, h1, h2⟩ := hs
  exact ⟨D, h1.kept hg hne, h2⟩
theorem grownBy_below {W W' : World} (h : Below W.heap.size W W') (row : Option Nat) : W.grownBy W' row := ⟨h.os, h.tape, h.output, h.size, fun k hk _ => h.block k hk⟩
theorem SeenMap.below {lk h : Int} {k B : Nat} {W W' : World} (hs : SeenMap lk h k B W) (hb : Below W.heap.size W W') : SeenMap lk h k B W' := hs.kept (grownBy_below hb none) (by simp)
theorem SeenMap.put {lk h : Int} {k B : Nat} {W : World} {D : DataW Unit} (h1 : W.ownsMap Tryz.prog 3 (plainElem Tryz.prog 4) B (k + 1) (D.put (.int .i64 (coolK lk h k)) (.lit (.bool true)))) (hD : Maps.IsMap D)
    (h2 : ∀ x : Int, D.atKey (.int .i64 x) (.lit (.bool false)) = .lit (.bool (decide (∃ j, j < k ∧ coolK lk h j = x)))) : SeenMap lk h (k + 1) B W := by
  refine ⟨_, h1, fun x => ?_⟩
  by_cases hx : x = coolK lk h k
  · subst hx
    rw [Maps.atKey_put_same hD (by simp [WideAt.IsKeyLit])]
    rw [decide_eq_true ⟨k, by omega, rfl⟩]
  · rw [Maps.atKey_put_other (by simpa using hx), h2]
    congr 2
    rw [decide_eq_decide]
    constructor
    · rintro ⟨j, hj, e⟩
      exact ⟨j, by omega, e⟩
    · rintro ⟨j, hj, e⟩
      rcases Nat.lt_or_ge j k with h3 | h3
      · exact ⟨j, h3, e⟩
      · obtain rfl : j = k := by omega
        exact absurd e.symm hx
/-- among the heats of the first steps there is this one just where the last step did not cool. -/
theorem seen_iff {lk h : Int} (h0 : 0 ≤ h) {k : Nat} (hs : ∀ j, j + 1 < k → coolK lk h (j + 1) < coolK lk h j) : (∃ j, j < k ∧ coolK lk h j = coolK lk h k) ↔ (0 < k ∧ coolK lk h k = coolK lk h (k - 1)) := by
  constructor
  · rintro ⟨j, hj, e⟩
    refine ⟨by omega, ?_⟩
    have mono : ∀ m, j + m < k → coolK lk h (j + m) + m ≤ coolK lk h j := by
      intro m
      induction m with
      | zero => intro _; simp
      | succ m ih =>
        intro hm
        have h1 := ih (by omega)
        have h2 := hs (j + m) (by omega)
        rw [show j + (m + 1) = j + m + 1 by omega]
        omega
    have h1 := mono (k - 1 - j) (by omega)
    rw [show j + (k - 1 - j) = k - 1 by omega] at h1
    have h2 : coolK lk h k ≤ coolK lk h (k - 1) := by
      obtain ⟨m, rfl⟩ : ∃ m, k = m + 1 := ⟨k - 1, by omega⟩
      exact (coolF_bd lk (coolK_bd lk h0 m).1).2
    omega
  · rintro ⟨h1, e⟩
    exact ⟨k - 1, by omega, e.symm⟩
def coolErr (lk ht rc : Int) (ts gs : List Int) (a b : Int) : Int := firstOf [guardErr lk ht rc ts gs, rangeErr a 0 536870912, rangeErr b 0 536870912]
theorem coolErr_zero {lk ht rc a b : Int} {ts gs : List Int} (e : coolErr lk ht rc ts gs a b = 0) : guardErr lk ht rc ts gs = 0 ∧ (0 ≤ a ∧ a ≤ 536870912) ∧ (0 ≤ b ∧ b ≤ 536870912) := by
  have h := firstOf_eq_zero.1 e
  exact ⟨h _ (by simp), rangeErr_zero.1 (h (rangeErr a 0 536870912) (by simp)), rangeErr_zero.1 (h (rangeErr b 0 536870912) (by simp))⟩

set_option maxHeartbeats 1000000 in
theorem Cool_bad (lk ht rc a b : Int) (ts gs : List Int) (A1 A2 : Option Addr) (M L c1 c2 : Nat) (w : World) (hM : M = ts.length) (hL : L = gs.length) (hT : Cells w A1 ts) (hG : Cells w A2 gs) (h1 : M ≤ 1000) (h2 : L ≤ 1000) (he : coolErr lk ht rc ts gs a b ≠ 0) :
    Calls Tryz.prog 31 #[.agg #[(.int .i64 lk), (.int .i64 ht), .slice A1 M c1, (.int .i64 rc), .slice A2 L c2], (.int .i64 a), (.int .i64 b)] w fun r w' => r = .returned (.tuple #[(.int .i64 0), (.int .i64 (coolErr lk ht rc ts gs a b))]) ∧ Below w.heap.size w w' := by
  have HCG : Hid (∀ W, Cells W A1 ts → Cells W A2 gs → Calls Tryz.prog 35 #[.agg #[(.int .i64 lk), (.int .i64 ht), .slice A1 M c1, (.int .i64 rc), .slice A2 L c2]] W fun r w' => r = .returned (.int .i64 (guardErr lk ht rc ts gs)) ∧ Below W.heap.size W w') := Lib.hid (fun W q1 q2 => by rw [hM, hL]; exact checkGuard_any lk ht rc ts gs A1 A2 c1 c2 W q1 q2 (by omega) (by omega))
  have HF : Hid (∀ W : World, Calls Tryz.prog 49 #[.slice (some ⟨W.heap.size, 0, none⟩) 3 3] (W.alloc (.cells #[(.int .i64 (guardErr lk ht rc ts gs)), (.int .i64 (rangeErr a 0 536870912)), (.int .i64 (rangeErr b 0 536870912))] 27)) fun r w' => r = .returned (.int .i64 (coolErr lk ht rc ts gs a b)) ∧ (W.alloc (.cells #[(.int .i64 (guardErr lk ht rc ts gs)), (.int .i64 (rangeErr a 0 536870912)), (.int .i64 (rangeErr b 0 536870912))] 27)) = w') :=
    Lib.hid (fun W => first_cells [guardErr lk ht rc ts gs, rangeErr a 0 536870912, rangeErr b 0 536870912] W (by simp))
  have HT := Lib.hid hT
  have HG := Lib.hid hG
  obtain ⟨E, hE⟩ : ∃ E, E = coolErr lk ht rc ts gs a b := ⟨_, rfl⟩
  rw [← hE] at HF he ⊢
  obtain ⟨e1, h1⟩ : ∃ e1, e1 = guardErr lk ht rc ts gs := ⟨_, rfl⟩
  rw [← h1] at HCG HF
  obtain ⟨ra, hra⟩ : ∃ ra, ra = rangeErr a 0 536870912 := ⟨_, rfl⟩
  obtain ⟨rb, hrb⟩ : ∃ rb, rb = rangeErr b 0 536870912 := ⟨_, rfl⟩
  have HHA : Hid (∀ W, Calls Tryz.prog 62 #[(.int .i64 a)] W fun r w' => r = .returned (.int .i64 ra) ∧ W = w') := Lib.hid (fun W => by rw [hra]; exact checkHeat_any a W)
  have HHB : Hid (∀ W, Calls Tryz.prog 62 #[(.int .i64 b)] W fun r w' => r = .returned (.int .i64 rb) ∧ W = w') := Lib.hid (fun W => by rw [hrb]; exact checkHeat_any b W)
  rw [← hra, ← hrb] at HF
  clear hM hL hT hG hE h1 hra hrb
  go_enter Tryz.func31, Tryz.ntmps31
  go_wp2_with (go_at_call 35; refine (HCG.out _ (HT.out.below (by (repeat (first | (with_reducible exact Below.refl _ _) | ((with_reducible refine Below.setCell ?_ ?_ _); rotate_left 1; focus (first | (simp; done) | (simp; omega) | (simp at *; omega))) | ((with_reducible refine Below.alloc ?_ ?_ _); rotate_left 1; focus (first | (simp; done) | (simp; omega) | (simp at *; omega))) | (with_reducible refine Below.drew ?_) | ((with_reducible refine Calm.step (by assumption) ?_ ?_); rotate_left 1; focus (first | (simp; done) | (simp; omega) | (simp at *; omega))))))) (HG.out.below (by (repeat (first | (with_reducible exact Below.refl _ _) | ((with_reducible refine Below.setCell ?_ ?_ _); rotate_left 1; focus (first | (simp; done) | (simp; omega) | (simp at *; omega))) | ((with_reducible refine Below.alloc ?_ ?_ _); rotate_left 1; focus (first | (simp; done) | (simp; omega) | (simp at *; omega))) | (with_reducible refine Below.drew ?_) | ((with_reducible refine Calm.step (by assumption) ?_ ?_); rotate_left 1; focus (first | (simp; done) | (simp; omega) | (simp at *; omega)))))))).mono ?_; rintro r w1 ⟨rfl, hb1⟩; have HB1 := Lib.hid (show Below w.heap.size w w1 from Below.trans (by (repeat (first | (with_reducible exact Below.refl _ _) | ((with_reducible refine Below.setCell ?_ ?_ _); rotate_left 1; focus (first | (simp; done) | (simp; omega) | (simp at *; omega))) | ((with_reducible refine Below.alloc ?_ ?_ _); rotate_left 1; focus (first | (simp; done) | (simp; omega) | (simp at *; omega))) | (with_reducible refine Below.drew ?_) | ((with_reducible refine Calm.step (by assumption) ?_ ?_); rotate_left 1; focus (first | (simp; done) | (simp; omega) | (simp at *; omega)))))) (hb1.mono (by simp; try omega))); clear hb1; refine Hid.out ?_)
  unfold Hid
  go_wp2_with (go_at_call 62; refine (HHA.out _).mono ?_; rintro r w2 ⟨rfl, rfl⟩; refine Hid.out ?_)
  unfold Hid
  go_wp2_with (first
    | (go_at_call 62; refine (HHB.out _).mono ?_; rintro r w3 ⟨rfl, rfl⟩)
    | (go_at_call 49; refine (HF.out _).mono ?_; rintro r w4 ⟨rfl, rfl⟩))
  go_ret2
  exact ⟨rfl, HB1.out.alloc HB1.out.size _⟩

set_option maxRecDepth 100000 in
set_option maxHeartbeats 2000000 in
theorem Cool_ok (lk ht rc a b : Int) (ts gs : List Int) (A1 A2 : Option Addr) (M L c1 c2 : Nat) (w : World) (hM : M = ts.length) (hL : L = gs.length) (hT : Cells w A1 ts) (hG : Cells w A2 gs) (h1 : M ≤ 1000) (h2 : L ≤ 1000) (he : coolErr lk ht rc ts gs a b = 0) :
    Calls Tryz.prog 31 #[.agg #[(.int .i64 lk), (.int .i64 ht), .slice A1 M c1, (.int .i64 rc), .slice A2 L c2], (.int .i64 a), (.int .i64 b)] w fun r w' => r = .returned (.tuple #[(.int .i64 ((coolR lk a b).1)), (.int .i64 ((coolR lk a b).2))]) ∧ Below w.heap.size w w' := by
  have hmm := @run_makeMap Tryz.prog
  obtain ⟨q1, ⟨a0, a1⟩, b0, b1⟩ := coolErr_zero he
  have hlk := (guard_valid q1).lk
  have HCG : Hid (∀ W, Cells W A1 ts → Cells W A2 gs → Calls Tryz.prog 35 #[.agg #[(.int .i64 lk), (.int .i64 ht), .slice A1 M c1, (.int .i64 rc), .slice A2 L c2]] W fun r w' => r = .returned (.int .i64 0) ∧ Below W.heap.size W w') := Lib.hid (fun W p1 p2 => by
    have := checkGuard_any lk ht rc ts gs A1 A2 c1 c2 W p1 p2 (by omega) (by omega)
    rwa [← hM, ← hL, q1] at this)
  have HHT : Hid (∀ (n : Int) W, 0 ≤ n → n ≤ 536870912 → Calls Tryz.prog 62 #[(.int .i64 n)] W fun r w' => r = .returned (.int .i64 0) ∧ W = w') := Lib.hid (fun n W p1 p2 => by
    have := checkHeat_any n W
    rwa [rangeErr_in p1 p2] at this)
  have HF : Hid (∀ W : World, Calls Tryz.prog 49 #[.slice (some ⟨W.heap.size, 0, none⟩) 3 3] (W.alloc (.cells #[(.int .i64 0), (.int .i64 0), (.int .i64 0)] 27)) fun r w' => r = .returned (.int .i64 0) ∧ (W.alloc (.cells #[(.int .i64 0), (.int .i64 0), (.int .i64 0)] 27)) = w') := Lib.hid (fun W => first_cells [0, 0, 0] W (by simp))
  have HCO : Hid (∀ (x : Int) W, 0 ≤ x → x ≤ 536870912 → Calls Tryz.prog 63 #[.agg #[(.int .i64 lk), (.int .i64 ht), .slice A1 M c1, (.int .i64 rc), .slice A2 L c2], (.int .i64 x)] W fun r w' => r = .returned (.int .i64 (coolF lk x)) ∧ Below W.heap.size W w') := Lib.hid (fun x W p1 p2 => cooled_any lk ht rc x A1 A2 M c1 L c2 W hlk ⟨p1, by omega⟩)
  have HT := Lib.hid hT
  have HG := Lib.hid hG
  obtain ⟨R, hR⟩ : ∃ R, R = coolR lk a b := ⟨_, rfl⟩
  have HR := Lib.hid hR
  rw [← hR]
  clear hM hL hT hG he q1 hR hlk
  go_enter Tryz.func31, Tryz.ntmps31
  go_wp2_with (first
    | (go_at_call 35; refine (HCG.out _ (HT.out.below (by (repeat (first | (with_reducible exact Below.refl _ _) | ((with_reducible refine Below.setCell ?_ ?_ _); rotate_left 1; focus (first | (simp; done) | (simp; omega) | (simp at *; omega))) | ((with_reducible refine Below.alloc ?_ ?_ _); rotate_left 1; focus (first | (simp; done) | (simp; omega) | (simp at *; omega))) | (with_reducible refine Below.drew ?_) | ((with_reducible refine Calm.step (by assumption) ?_ ?_); rotate_left 1; focus (first | (simp; done) | (simp; omega) | (simp at *; omega))))))) (HG.out.below (by (repeat (first | (with_reducible exact Below.refl _ _) | ((with_reducible refine Below.setCell ?_ ?_ _); rotate_left 1; focus (first | (simp; done) | (simp; omega) | (simp at *; omega))) | ((with_reducible refine Below.alloc ?_ ?_ _); rotate_left 1; focus (first | (simp; done) | (simp; omega) | (simp at *; omega))) | (with_reducible refine Below.drew ?_) | ((with_reducible refine Calm.step (by assumption) ?_ ?_); rotate_left 1; focus (first | (simp; done) | (simp; omega) | (simp at *; omega)))))))).mono ?_; rintro r w1 ⟨rfl, hb1⟩; have HB1 := Lib.hid (show Below w.heap.size w w1 from Below.trans (by (repeat (first | (with_reducible exact Below.refl _ _) | ((with_reducible refine Below.setCell ?_ ?_ _); rotate_left 1; focus (first | (simp; done) | (simp; omega) | (simp at *; omega))) | ((with_reducible refine Below.alloc ?_ ?_ _); rotate_left 1; focus (first | (simp; done) | (simp; omega) | (simp at *; omega))) | (with_reducible refine Below.drew ?_) | ((with_reducible refine Calm.step (by assumption) ?_ ?_); rotate_left 1; focus (first | (simp; done) | (simp; omega) | (simp at *; omega)))))) (hb1.mono (by simp; try omega))); have G1 := Lib.hid (show Blk w1 w.heap.size #[(.int .i64 lk), (.int .i64 ht), .slice A1 M c1, (.int .i64 rc), .slice A2 L c2] from Blk.below (by (repeat (first | ((with_reducible refine Blk.at_ ?_); focus (first | rfl | (simp; done) | (simp; omega))) | (with_reducible refine Blk.alloc ?_ _) | (with_reducible refine Blk.below ?_ (by with_reducible assumption)) | (with_reducible refine Blk.drew ?_)))) hb1); obtain ⟨g0, g1, g2, g3, g4, gl, gf⟩ := G1.out.o5; clear hb1)
    | (go_at_call 62; refine (HHT.out _ _ (by omega) (by omega)).mono ?_; rintro r w2 ⟨rfl, rfl⟩)
    | (go_at_call 49; refine (HF.out _).mono ?_; rintro r w4 ⟨rfl, rfl⟩))
  have hz1 := HB1.out.size
  have hglt := G1.out.lt
  have hM0 : SeenMap lk a 0 (w1.heap.size + 1) ((w1.alloc (.cells #[(.int .i64 0), (.int .i64 0), (.int .i64 0)] 27)).alloc (.map #[] 0)) := by
    refine ⟨.map [], ?_, fun x => ?_⟩
    · have := World.ownsMap_made (H := Unit) (w1.alloc (.cells #[(.int .i64 0), (.int .i64 0), (.int .i64 0)] 27)) Tryz.prog 3 (plainElem Tryz.prog 4)
      simpa using this
    · rw [decide_eq_false (by rintro ⟨j, hj, _⟩; omega)]
      rfl
  have hK0 : Blk ((w1.alloc (.cells #[(.int .i64 0), (.int .i64 0), (.int .i64 0)] 27)).alloc (.map #[] 0)) w.heap.size #[(.int .i64 lk), (.int .i64 ht), .slice A1 M c1, (.int .i64 rc), .slice A2 L c2] := (G1.out.alloc _).alloc _
  have hB0 : Below w.heap.size w ((w1.alloc (.cells #[(.int .i64 0), (.int .i64 0), (.int .i64 0)] 27)).alloc (.map #[] 0)) := (HB1.out.alloc hz1 _).alloc (by simp; omega) _
  have HM0 := Lib.hid hM0
  have HK0 := Lib.hid hK0
  have HB0 := Lib.hid hB0
  clear hM0 hK0 hB0 hmm g0 g1 g2 g3 g4 gl gf
  go_loopw [1, 10] (fun f s wr => ∃ k : Nat, (k : Int) ≤ a + 1 ∧ f = (.int .i64 (coolK lk a k)) ∧ s = (.int .i64 ((k : Int))) ∧ (∀ j, j < k → b < coolK lk a j) ∧ (∀ j, j + 1 < k → coolK lk a (j + 1) < coolK lk a j) ∧ SeenMap lk a k (w1.heap.size + 1) wr ∧ Blk wr w.heap.size #[(.int .i64 lk), (.int .i64 ht), .slice A1 M c1, (.int .i64 rc), .slice A2 L c2] ∧ Below w.heap.size w wr) (fun _ s _ => (a.toNat + 3) - (intOf s).toNat)
  case atStart => exact ⟨0, by omega, rfl, rfl, fun j hj => by omega, fun j hj => by omega, HM0.out, HK0.out, HB0.out⟩
  case round =>
    obtain ⟨k, hk, rfl, rfl, hgt, hst, hm, hK, hB⟩ := hrel
    have HGT := Lib.hid hgt
    have HST := Lib.hid hst
    have HMM := Lib.hid hm
    have HKK := Lib.hid hK
    have HBB := Lib.hid hB
    obtain ⟨c0, c1'⟩ := coolK_bd lk a0 k
    obtain ⟨c, hc⟩ : ∃ c, c = coolK lk a k := ⟨_, rfl⟩
    rw [← hc] at c0 c1' ⊢
    have HC := Lib.hid hc
    clear hgt hst hm hK hB hc HM0 HK0 HB0
    by_cases hle : c ≤ b
    · have hR : R = ((k : Int), 0) := by
        rw [HR.out]
        refine coolR_done a0 (fun j hj => ⟨HGT.out j hj, ?_⟩) (by rw [← HC.out]; exact hle)
        rcases Nat.lt_or_ge (j + 1) k with h | h
        · have := HST.out j h
          omega
        · obtain rfl : j + 1 = k := by omega
          have := HGT.out j (by omega)
          rw [← HC.out]
          omega
      subst hR
      go_wp2
      go_ret2
      exact ⟨rfl, HBB.out⟩
    · have hlt : b < c := by omega
      by_cases hs : 0 < k ∧ c = coolK lk a (k - 1)
      · have hR : R = (0, 24) := by
          obtain ⟨m, rfl⟩ : ∃ m, k = m + 1 := ⟨k - 1, by omega⟩
          rw [HR.out]
          refine coolR_stuck a0 (k := m) (fun j hj => ⟨HGT.out j (by omega), ?_⟩) (HGT.out m (by omega)) (by rw [← HC.out]; exact hs.2)
          have := HST.out j (by omega)
          omega
        have hsn : decide (∃ j, j < k ∧ coolK lk a j = c) = true := decide_eq_true (by rw [HC.out]; exact (seen_iff a0 HST.out).2 ⟨hs.1, by rw [← HC.out]; exact hs.2⟩)
        have HSN := Lib.hid hsn
        subst hR
        clear hs hsn hle
        obtain ⟨D, hown, hat⟩ := HMM.out
        have HOWN := Lib.hid hown
        have HAT := Lib.hid (hat c)
        clear hown hat
        go_wp2_with (at_lookup; refine wpList_lookup_own_bool _ rfl _ _ 106 rfl 3 4 Tryz.keyI Tryz.underlying106 Tryz.underlying4 (zeroB _) (w1.heap.size + 1) k _ rfl HOWN.out _ _ rfl (Go.Maps.keyOf_int_mk Tryz.underlying3 (WalkArith.wf_i64 (by omega))) ?_; intro v hv; obtain rfl : v = true := by (rw [HAT.out, HSN.out] at hv; simpa using hv.symm))
        go_ret2
        exact ⟨rfl, HBB.out⟩
      · have hsn : decide (∃ j, j < k ∧ coolK lk a j = c) = false := decide_eq_false (by rw [HC.out]; exact fun h => hs (by have := (seen_iff a0 HST.out).1 h; rw [← HC.out] at this; exact this))
        have HSN := Lib.hid hsn
        have HNE : Hid (∀ j, j < k → coolK lk a (j + 1) ≠ coolK lk a j) := Lib.hid (fun j hj => by
          rcases Nat.lt_or_ge (j + 1) k with h | h
          · have := HST.out j h
            omega
          · obtain rfl : j + 1 = k := by omega
            intro e
            exact hs ⟨by omega, by rw [HC.out]; exact e⟩)
        have hfall := coolK_fall (to := b) a0 k (fun j hj => ⟨HGT.out j hj, HNE.out j hj⟩)
        rw [← HC.out] at hfall
        have HST2 : Hid (∀ j, j + 1 < k + 1 → coolK lk a (j + 1) < coolK lk a j) := Lib.hid (fun j hj => by
          have h1 := HNE.out j (by omega)
          have h2 : coolK lk a (j + 1) ≤ coolK lk a j := (coolF_bd lk (coolK_bd lk a0 j).1).2
          omega)
        clear hs hsn hle
        obtain ⟨D, hown, hat⟩ := HMM.out
        have HOWN := Lib.hid hown
        have HAT := Lib.hid hat
        have hkm : k < maxLen := by unfold maxLen; omega
        have hHK := HKK.out.lt
        clear hown hat
        go_wp2_with (first
          | (at_lookup; refine wpList_lookup_own_bool _ rfl _ _ 106 rfl 3 4 Tryz.keyI Tryz.underlying106 Tryz.underlying4 (zeroB _) (w1.heap.size + 1) k _ rfl HOWN.out _ _ rfl (Go.Maps.keyOf_int_mk Tryz.underlying3 (WalkArith.wf_i64 (by omega))) ?_; intro v hv; obtain rfl : v = false := by (rw [HAT.out, HSN.out] at hv; simpa using hv.symm))
          | (at_mapUpdate; refine wpList_mapUpdate_own _ rfl _ _ _ 106 rfl 3 4 Tryz.keyI Tryz.underlying106 _ (w1.heap.size + 1) k _ rfl HOWN.out hkm _ _ _ rfl rfl (Go.Maps.keyOf_int_mk Tryz.underlying3 (WalkArith.wf_i64 (by omega))) _ [] (plainElem_bool Tryz.underlying4 true) ?_; intro w9 hown9 hgrow9; refine Hid.out ?_))
        unfold Hid
        have HS9 : Hid (SeenMap lk a (k + 1) (w1.heap.size + 1) w9) := Lib.hid (SeenMap.put (by rw [← HC.out]; exact hown9) HOWN.out.isMap HAT.out)
        have hne9 : ∀ r, some (w1.heap.size + 1) = some r → r ≠ w.heap.size := fun r e => by cases e; omega
        have HK9 := Lib.hid (grown_blk HKK.out hgrow9 hne9)
        have HB9 := Lib.hid (HBB.out.grown hgrow9 HBB.out.size (fun r e => by cases e; omega))
        have hz9 := HB9.out.size
        obtain ⟨g0, g1, g2, g3, g4, gl, gf⟩ := HK9.out.o5
        clear hown9 hgrow9 hne9
        go_wp2_with (go_at_call 63; refine (HCO.out _ _ (by omega) (by omega)).mono ?_; rintro r w10 ⟨rfl, hb10⟩; have HB10 := Lib.hid (HB9.out.trans (hb10.mono hz9)); have HK10 := Lib.hid (HK9.out.below hb10); have HS10 := Lib.hid (HS9.out.below hb10); clear hb10)
        go_roundw
        case rel =>
          refine ⟨k + 1, by omega, by rw [HC.out]; rfl, by go_num, fun j hj => ?_, HST2.out, HS10.out, HK10.out, HB10.out⟩
          rcases Nat.lt_or_ge j k with h | h
          · exact HGT.out j h
          · obtain rfl : j = k := by omega
            rw [← HC.out]; exact hlt
        case measure => simp [intOf]; omega
/-- Cool, whatever its arguments. -/
def coolE (lk ht rc : Int) (ts gs : List Int) (a b : Int) : Int × Int := if coolErr lk ht rc ts gs a b = 0 then coolR lk a b else (0, coolErr lk ht rc ts gs a b)
theorem Cool_any (lk ht rc a b : Int) (ts gs : List Int) (A1 A2 : Option Addr) (M L c1 c2 : Nat) (w : World) (hM : M = ts.length) (hL : L = gs.length) (hT : Cells w A1 ts) (hG : Cells w A2 gs) (h1 : M ≤ 1000) (h2 : L ≤ 1000) :
    Calls Tryz.prog 31 #[.agg #[(.int .i64 lk), (.int .i64 ht), .slice A1 M c1, (.int .i64 rc), .slice A2 L c2], (.int .i64 a), (.int .i64 b)] w fun r w' => r = .returned (.tuple #[(.int .i64 ((coolE lk ht rc ts gs a b).1)), (.int .i64 ((coolE lk ht rc ts gs a b).2))]) ∧ Below w.heap.size w w' := by
  unfold coolE
  by_cases he : coolErr lk ht rc ts gs a b = 0
  · rw [if_pos he]
    exact Cool_ok lk ht rc a b ts gs A1 A2 M L c1 c2 w hM hL hT hG h1 h2 he
  · rw [if_neg he]
    exact Cool_bad lk ht rc a b ts gs A1 A2 M L c1 c2 w hM hL hT hG h1 h2 he
end Go.Proofs.YtdeapbihbhoefaaGreatDoor

/- What a search for the loudest signal finds: plain laws. No walk. -/
namespace Go.Proofs.YtdeapbihbhoefaaGreatDoor
open Go.RowKit

/-! ### Levels -/

end Go.Proofs.YtdeapbihbhoefaaGreatDoor
