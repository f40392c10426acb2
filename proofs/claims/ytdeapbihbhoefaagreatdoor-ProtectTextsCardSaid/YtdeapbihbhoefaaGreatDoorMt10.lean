/- Part 10 of the texts of the claim: S3, S4, S5, S6, S7, CopyI, S8, J1, J2, J3, X4. -/
import Derived.Test.YtdeapbihbhoefaaGreatDoorMt9
import Derived.Test.YtdeapbihbhoefaaGreatDoorMt7
import Derived.Test.YtdeapbihbhoefaaGreatDoorMt2
import Derived.Shelf.Abstract
import Derived.OwnWalkIn
import Derived.TacticsInMore
import Derived.LoopNIn
import Derived.LoopIn
import Derived.RangeFuncBox
import Derived.Test.YtdeapbihbhoefaaGreatDoorMt4
import Derived.Laws.CopyRow

/- Contracts of mapped over sections and of checkSections. -/
namespace Go.Proofs.YtdeapbihbhoefaaGreatDoor
open Go.RowKit
open Calm (bcell Blk)

structure Sec where
  b0 : Int
  b1 : Int
  b2 : Int
  a1 : Int
  a2 : Int
  sh : Int
end Go.Proofs.YtdeapbihbhoefaaGreatDoor

/- Contracts of raw, limited and step of sections. -/
namespace Go.Proofs.YtdeapbihbhoefaaGreatDoor
open Go.RowKit
open Calm (bcell Blk)

end Go.Proofs.YtdeapbihbhoefaaGreatDoor

/- Contracts of (Section).outputs and of the iterator that it hands out. -/
namespace Go.Proofs.YtdeapbihbhoefaaGreatDoor
open Go.RowKit
open Calm (bcell Blk)

end Go.Proofs.YtdeapbihbhoefaaGreatDoor

/- Contract of (Section).from. -/
namespace Go.Proofs.YtdeapbihbhoefaaGreatDoor
open Go.RowKit
open Calm (bcell Blk)

end Go.Proofs.YtdeapbihbhoefaaGreatDoor

/- Contracts of From and Run (sections that hold). -/
namespace Go.Proofs.YtdeapbihbhoefaaGreatDoor
open Go.RowKit
open Calm (bcell Blk)

end Go.Proofs.YtdeapbihbhoefaaGreatDoor

/- The law of copy between slices of integers, as contracts speak of them. -/
namespace Go.Proofs.YtdeapbihbhoefaaGreatDoor
open Go.RowKit

theorem run_copyI {P : Program} (w : World) (dT sT ty elem : TypeId) (g : Nat) (A : Option Addr) (xs : List Int) (n cap c : Nat) (cur : Array Value) (t : TypeId)
    (hu : P.underlying dT = some (.slice elem)) (hs : (P.info? elem).map (·.size) = some 1) (hn : xs.length ≤ n)
    (hg : w.heap[g]? = some (.cells cur t (0, 0))) (hcur : cur.size = n) (hC : Cells w A xs) :
    (Builtin.copy_ #[dT, sT] ty #[.slice (some ⟨g, 0, none⟩) n cap, .slice A xs.length c]).run P w = .ok (goInt xs.length) (w.setRow g (xs.map (Value.int .i64) ++ cur.toList.drop xs.length).toArray) := by
  have hmin : Nat.min xs.length n = xs.length := Nat.min_eq_left hn
  cases A with
  | some a =>
    have := run_copy_row (P := P) w dT sT ty elem g 0 n cap a xs.length c cur t (xs.map (Value.int .i64)) hu hs hg (by rw [hmin]; simp) (fun j v hj => by
      have hj' : j < xs.length := by
        have := (List.getElem?_eq_some_iff.1 hj).1
        simpa using this
      obtain ⟨b, o, hA, hl, hc⟩ := hC (by omega)
      cases hA
      exact cells_src hc j v hj) (by simp; omega) (fun v hv => by obtain ⟨_, _, rfl⟩ := List.mem_map.1 hv; rfl)
    simpa using this
  | none =>
    have h0 : xs = [] := by
      cases xs with
      | nil => rfl
      | cons x xs => obtain ⟨b, o, hA, _⟩ := hC (by simp); cases hA
    subst h0
    have hself : w.setRow g cur = w := setRow_self w g cur t _ hg
    cases hq : P.info? elem with
    | none => simp [hq] at hs
    | some i => simp [Builtin.copy_, run_underlying hu, Builtin.lenOf, Builtin.firstCells, sizeOf, typeInfo, hq, storeCells, hself]
theorem wpList_copyI {P : Program} {w : World} {ops : Array Oper} {rest : List Oper} {o : Oper} {a : Act} {Q : Exit → Act → World → Prop} (hgd : o.guard = none) (d s : Operand) (dT sT : TypeId)
    (ho : o.op = .call { callee := .builtin .copy, args := #[d, s], argTypes := #[dT, sT] }) (elem : TypeId) (hu : P.underlying dT = some (.slice elem)) (hsz : (P.info? elem).map (·.size) = some 1)
    (g n m cap c : Nat) (A : Option Addr) (xs : List Int) (hm : xs.length = m) (hn : m ≤ n) (hd : a.eval d = .slice (some ⟨g, 0, none⟩) n cap) (hs : a.eval s = .slice A m c)
    (cur : Array Value) (t : TypeId) (hg : w.heap[g]? = some (.cells cur t (0, 0))) (hcur : cur.size = n) (hC : Cells w A xs)
    (h : ∀ w', w'.heap.size = w.heap.size → Below g w w' → (∀ k, k ≠ g → w'.heap[k]? = w.heap[k]?) → w'.heap[g]? = some (.cells (xs.map (Value.int .i64) ++ cur.toList.drop m).toArray t (0, 0)) → wpList P ops Q rest (a.put o.dst (goInt m)) w') : wpList P ops Q (o :: rest) a w := by
  subst hm
  refine wpList_plain hgd fun K hK => ?_
  have hrun := run_copyI (P := P) w dT sT o.type elem g A xs n cap c cur t hu hsz hn hg hcur hC
  unfold Oper.wp
  simp [execOp, ho, resolve, invoke, builtin, hd, hs, hrun, Result.andThen]
  exact hK _ _ (h _ (by simp [World.setRow]) (below_setRow (Below.refl _ _) (Nat.le_refl _) _) (fun k hk => setRow_other w g k _ hk) (setRow_heap w g _ _ t _ hg))
end Go.Proofs.YtdeapbihbhoefaaGreatDoor

/- Contract of Cascade (sections and a signal that hold). -/
namespace Go.Proofs.YtdeapbihbhoefaaGreatDoor
open Go.RowKit
open Calm (bcell Blk)

theorem eachErr_zero {l : List Int} {lo hi : Int} : eachErr l lo hi = 0 ↔ ∀ n ∈ l, lo ≤ n ∧ n ≤ hi := by
  unfold eachErr
  rw [firstOf_eq_zero]
  constructor
  · exact fun h n hn => rangeErr_zero.1 (h _ (List.mem_map.2 ⟨n, hn, rfl⟩))
  · rintro h x hx
    obtain ⟨n, hn, rfl⟩ := List.mem_map.1 hx
    exact rangeErr_zero.2 (h n hn)
end Go.Proofs.YtdeapbihbhoefaaGreatDoor

/- Contracts of the references: First, CheckRange, SameInts, CheckInput, CheckValue, CheckSignal. -/
namespace Go.Proofs.YtdeapbihbhoefaaGreatDoor
open Go.RowKit
open Calm (bcell Blk)

theorem qRange_any (n lo hi : Int) (w : World) : Calls Tryz.prog 44 #[(.int .i64 n), (.int .i64 lo), (.int .i64 hi)] w fun r w' => r = .returned (.int .i64 (rangeErr n lo hi)) ∧ w = w' := by
  rcases Int.lt_or_le n lo with h | h
  · go_enter Tryz.func44, Tryz.ntmps44
    go_wp2
    go_ret
    exact ⟨ret_i (rangeErr_lo h).symm, rfl⟩
  · rcases Int.lt_or_le hi n with h' | h'
    · go_enter Tryz.func44, Tryz.ntmps44
      go_wp2
      go_ret
      exact ⟨ret_i (rangeErr_hi h').symm, rfl⟩
    · go_enter Tryz.func44, Tryz.ntmps44
      go_wp2
      go_ret
      exact ⟨ret_i (rangeErr_in (by omega) (by omega)).symm, rfl⟩
theorem qFirst_any (l : List Int) (A : Option Addr) (c : Nat) (w : World) (hl : l.length ≤ 5000) (hC : Cells w A l) :
    Calls Tryz.prog 43 #[.slice A l.length c] w fun r w' => r = .returned (.int .i64 (firstOf l)) ∧ w = w' := by
  go_enter Tryz.func43, Tryz.ntmps43
  go_wp2
  go_loop [3] (fun i => ∃ k : Nat, k ≤ l.length ∧ i = (.int .i64 k) ∧ ∀ j, j < k → l.getD j 0 = 0) (fun i => l.length - (intOf i).toNat)
  case atStart => exact ⟨0, Nat.zero_le _, rfl, fun j hj => by omega⟩
  case round =>
    obtain ⟨k, hk, rfl, hz⟩ := hrel
    have HZ := Lib.hid hz
    clear hz
    by_cases hlt : k < l.length
    · obtain ⟨b, off, rfl, hbl, hc⟩ := hC (by omega)
      have hck := hc k hlt
      clear hc hC
      by_cases h0 : l.getD k 0 = 0
      · rw [h0] at hck
        have H0 := Lib.hid h0
        clear h0
        go_wp2
        go_round
        case rel => exact ⟨k + 1, by omega, by go_num, fun j hj => by
          rcases Nat.lt_or_ge j k with hjk | hjk
          · exact HZ.out j hjk
          · obtain rfl : j = k := by omega
            exact H0.out⟩
        case measure => simp [intOf]; omega
      · obtain ⟨x, hx⟩ : ∃ x, x = l.getD k 0 := ⟨_, rfl⟩
        rw [← hx] at hck h0
        have H0 := Lib.hid hx
        clear hx
        go_wp2
        go_ret
        exact ⟨ret_i (by rw [firstOf_take HZ.out hlt (by rw [← H0.out]; exact h0)]; exact H0.out), rfl⟩
    · clear hC
      go_wp2
      go_ret
      exact ⟨ret_i (by rw [firstOf_zero (fun j hj => HZ.out j (by omega))]), rfl⟩
set_option maxRecDepth 100000 in
set_option maxHeartbeats 4000000 in
theorem sameInts_any (A B : Option Addr) (a b : List Int) (ca cb : Nat) (w : World) (hA : Cells w A a) (hB : Cells w B b) (h1 : a.length ≤ 100000) (h2 : b.length ≤ 100000) :
    Calls Tryz.prog 28 #[.slice A a.length ca, .slice B b.length cb] w fun x w' => x = .returned (.bool (decide (a = b))) ∧ Below w.heap.size w w' := by
  obtain ⟨E, hE⟩ : ∃ E, E = decide (a = b) := ⟨_, rfl⟩
  have HE := Lib.hid hE
  have HCA := Lib.hid hA
  have HCB := Lib.hid hB
  obtain ⟨N, hN⟩ : ∃ N, N = a.length := ⟨_, rfl⟩
  obtain ⟨M, hM⟩ : ∃ M, M = b.length := ⟨_, rfl⟩
  have HN := Lib.hid hN
  have HM := Lib.hid hM
  rw [← hE]
  rw [← hN] at h1 ⊢
  rw [← hM] at h2 ⊢
  clear hE hA hB hN hM
  by_cases hnm : N = M
  · have HNM := Lib.hid hnm
    subst hnm
    go_enter Tryz.func28, Tryz.ntmps28
    go_wp2
    go_loopw [5] (fun i wr => ∃ k : Nat, k ≤ N ∧ i = (.int .i64 ((k : Nat))) ∧ (∀ j, j < k → a.getD j 0 = b.getD j 0) ∧ Below w.heap.size w wr) (fun i _ => N - (intOf i).toNat)
    case atStart => exact ⟨0, by omega, rfl, fun j hj => by omega, Below.refl _ _⟩
    case round =>
      obtain ⟨k, hk, rfl, hz, hBr⟩ := hrel
      have HZ := Lib.hid hz
      have HBR := Lib.hid hBr
      have hszr := hBr.size
      clear hz hBr
      by_cases hlt : k < N
      · have l1 : k < a.length := by rw [← HN.out]; exact hlt
        have l2 : k < b.length := by rw [← HM.out]; exact hlt
        obtain ⟨g, o, rfl, q1, k1⟩ := (HCA.out.below HBR.out) (by omega)
        obtain ⟨g', o', rfl, q2, k2⟩ := (HCB.out.below HBR.out) (by omega)
        have y1 := k1 k l1
        have y2 := k2 k l2
        obtain ⟨x, hx⟩ : ∃ x, x = a.getD k 0 := ⟨_, rfl⟩
        obtain ⟨y, hy⟩ : ∃ y, y = b.getD k 0 := ⟨_, rfl⟩
        rw [← hx] at y1
        rw [← hy] at y2
        have HX := Lib.hid hx
        have HY := Lib.hid hy
        clear k1 k2 hx hy l1 l2
        by_cases hxy : x = y
        · subst hxy
          go_wp2
          refine Calm.tail_below 8 (by kernel_rfl) (by kernel_rfl) ?_
          simp only [List.take_succ_cons, List.take_zero, List.drop_succ_cons, List.drop_zero]
          repeat (first | (apply Calm.op_move; (focus rfl); (focus (first | exact .inl rfl | exact .inr rfl)); (focus ((try simp only [Act.eval, Array.getD_eq_getD_getElem?, List.getElem?_toArray, List.getElem?_cons_succ, List.getElem?_cons_zero, Option.getD_some]); rfl)); (try simp only [Act.put, List.setIfInBounds_toArray, List.set_cons_zero, List.set_cons_succ])) | (apply Calm.op_not; (focus rfl); (try simp only [Act.put, List.setIfInBounds_toArray, List.set_cons_zero, List.set_cons_succ])) | (apply Calm.op; (focus rfl); (focus (intro W hb; obtain ⟨hc, hf⟩ := bcell hb; clear hb hf; go_simp; (try go_bits); (try rfl); done)); (try simp only [Act.put, List.setIfInBounds_toArray, List.set_cons_zero, List.set_cons_succ])))
          refine wpQuiet_nil ?_
          intro w2 hb2
          obtain ⟨hb2c, hb2f⟩ := bcell hb2
          have hb2z := hb2.size
          (try simp at hb2z)
          (try have hb2z0 : w.heap.size < w2.heap.size := by omega)
          (try have hb2z1 : w.heap.size + 1 < w2.heap.size := by omega)
          (try have hb2z2 : w.heap.size + 1 + 1 < w2.heap.size := by omega)
          (try have hb2z3 : w.heap.size + 1 + 1 + 1 < w2.heap.size := by omega)
          (try have hb2z4 : w.heap.size + 1 + 1 + 1 + 1 < w2.heap.size := by omega)
          (try have hb2z5 : w.heap.size + 1 + 1 + 1 + 1 + 1 < w2.heap.size := by omega)
          go_wp2
          go_roundw
          case rel =>
            refine ⟨k + 1, by omega, by go_num, fun j hj => ?_, HBR.out.trans (hb2.mono hszr)⟩
            rcases Nat.lt_or_ge j k with h | h
            · exact HZ.out j h
            · obtain rfl : j = k := by omega
              rw [← HX.out, ← HY.out]
          case measure => simp [intOf]; omega
        · have HEE := Lib.hid (show E = false by
            rw [HE.out]
            refine decide_eq_false (fun e => hxy ?_)
            rw [HX.out, HY.out, e])
          go_wp2
          refine Calm.tail_below 8 (by kernel_rfl) (by kernel_rfl) ?_
          simp only [List.take_succ_cons, List.take_zero, List.drop_succ_cons, List.drop_zero]
          repeat (first | (apply Calm.op_move; (focus rfl); (focus (first | exact .inl rfl | exact .inr rfl)); (focus ((try simp only [Act.eval, Array.getD_eq_getD_getElem?, List.getElem?_toArray, List.getElem?_cons_succ, List.getElem?_cons_zero, Option.getD_some]); rfl)); (try simp only [Act.put, List.setIfInBounds_toArray, List.set_cons_zero, List.set_cons_succ])) | (apply Calm.op_not; (focus rfl); (try simp only [Act.put, List.setIfInBounds_toArray, List.set_cons_zero, List.set_cons_succ])) | (apply Calm.op; (focus rfl); (focus (intro W hb; obtain ⟨hc, hf⟩ := bcell hb; clear hb hf; go_simp; (try go_bits); (try rfl); done)); (try simp only [Act.put, List.setIfInBounds_toArray, List.set_cons_zero, List.set_cons_succ])))
          refine wpQuiet_nil ?_
          intro w2 hb2
          obtain ⟨hb2c, hb2f⟩ := bcell hb2
          have hb2z := hb2.size
          (try simp at hb2z)
          (try have hb2z0 : w.heap.size < w2.heap.size := by omega)
          (try have hb2z1 : w.heap.size + 1 < w2.heap.size := by omega)
          (try have hb2z2 : w.heap.size + 1 + 1 < w2.heap.size := by omega)
          (try have hb2z3 : w.heap.size + 1 + 1 + 1 < w2.heap.size := by omega)
          (try have hb2z4 : w.heap.size + 1 + 1 + 1 + 1 < w2.heap.size := by omega)
          (try have hb2z5 : w.heap.size + 1 + 1 + 1 + 1 + 1 < w2.heap.size := by omega)
          go_wp2
          go_ret
          exact ⟨by rw [HEE.out]; rfl, HBR.out.trans (hb2.mono hszr)⟩
      · obtain rfl : k = N := by omega
        have HEE := Lib.hid (show E = true by
          rw [HE.out]
          refine decide_eq_true (List.ext_getElem? fun i => ?_)
          have hl : a.length = b.length := HN.out.symm.trans HM.out
          rcases Nat.lt_or_ge i a.length with h | h
          · have := HZ.out i (by rw [HN.out]; exact h)
            simpa [h, show i < b.length by omega] using this
          · rw [List.getElem?_eq_none h, List.getElem?_eq_none (by omega)])
        go_wp2
        go_ret
        exact ⟨by rw [HEE.out]; rfl, HBR.out⟩
  · have HEE := Lib.hid (show E = false by
      rw [HE.out]
      refine decide_eq_false (fun e => hnm ?_)
      rw [HN.out, HM.out, e])
    have hnm2 : ¬ (N : Int) = (M : Int) := by omega
    go_enter Tryz.func28, Tryz.ntmps28
    go_wp2
    go_ret
    exact ⟨by rw [HEE.out]; rfl, Below.refl _ _⟩
end Go.Proofs.YtdeapbihbhoefaaGreatDoor

/- Contracts of the reference's numbers, CheckSection, CheckSections. -/
namespace Go.Proofs.YtdeapbihbhoefaaGreatDoor
open Go.RowKit
open Calm (bcell Blk)

theorem first0 (e : Int) : firstOf [0, e] = e := by by_cases h0 : e = 0 <;> simp [firstOf, h0]
end Go.Proofs.YtdeapbihbhoefaaGreatDoor

/- A guard's error, number by number; a guard without error is valid. No walk. -/
namespace Go.Proofs.YtdeapbihbhoefaaGreatDoor
open Go.RowKit

theorem fo_cons0 (l : List Int) : firstOf (0 :: l) = firstOf l := by simp [firstOf]
theorem fo_consN {a : Int} (h : a ≠ 0) (l : List Int) : firstOf (a :: l) = a := by simp [firstOf, h]
theorem fo_two (a b : Int) (l : List Int) : firstOf (a :: b :: l) = if firstOf [a, b] = 0 then firstOf l else firstOf [a, b] := by
  by_cases ha : a = 0
  · subst ha
    rw [fo_cons0, fo_cons0]
    by_cases hb : b = 0
    · subst hb; simp [firstOf]
    · rw [fo_consN hb, fo_consN hb, if_neg hb]
  · rw [fo_consN ha, fo_consN ha, if_neg ha]
/-- the error of the gain at an index. -/
def eltG (gs : List Int) (k : Nat) : Int := firstOf [rangeErr (gs.getD k 0) 0 16, if k = 0 ∧ gs.getD 0 0 ≠ 0 ∨ 0 < k ∧ gs.getD k 0 ≤ gs.getD (k - 1) 0 then 11 else 0]
theorem eltG_pos {gs : List Int} {k : Nat} (h : 0 < k) : eltG gs k = ascAt gs 0 16 k := by
  unfold eltG ascAt
  have h0 : ¬ k = 0 := by omega
  simp [h, h0]
theorem eltG_zero (gs : List Int) : eltG gs 0 = firstOf [rangeErr (gs.getD 0 0) 0 16, if gs.getD 0 0 ≠ 0 then 11 else 0] := by simp [eltG]
theorem asc0 (gs : List Int) : ascAt gs 0 16 0 = rangeErr (gs.getD 0 0) 0 16 := by
  unfold ascAt
  simp only [Nat.lt_irrefl, false_and, if_false]
  by_cases h : rangeErr (gs.getD 0 0) 0 16 = 0
  · rw [h]; simp [firstOf]
  · rw [fo_consN h]
theorem g2_split (gs : List Int) : guardErr2 gs = if eltG gs 0 = 0 then ascErr gs 0 16 else eltG gs 0 := by
  rw [eltG_zero]
  unfold guardErr2
  rw [fo_two]
  have h1 : firstOf [ascErr gs 0 16] = ascErr gs 0 16 := by
    by_cases h : ascErr gs 0 16 = 0
    · rw [h]; simp [firstOf]
    · rw [fo_consN h]
  rw [h1]
theorem elt_asc {gs : List Int} {k : Nat} (h : ∀ j, j < k → eltG gs j = 0) : ∀ j, j < k → ascAt gs 0 16 j = 0 := by
  intro j hj
  rcases Nat.eq_zero_or_pos j with rfl | h0
  · rw [asc0]
    have := h 0 hj
    rw [eltG_zero, firstOf_eq_zero] at this
    exact this _ (by simp)
  · rw [← eltG_pos h0]; exact h j hj
theorem g2_at {gs : List Int} {k : Nat} (h : ∀ j, j < k → eltG gs j = 0) (hk : k < gs.length) (hn : eltG gs k ≠ 0) : guardErr2 gs = eltG gs k := by
  rw [g2_split]
  rcases Nat.eq_zero_or_pos k with rfl | h0
  · rw [if_neg hn]
  · rw [if_pos (h 0 h0)]
    have e := asc_get gs 0 16 hk
    unfold ascErr
    rw [firstOf_take (k := k) (fun j hj => by rw [asc_get gs 0 16 (by omega)]; exact elt_asc h j hj) (by simpa using hk) (by rw [e, ← eltG_pos h0]; exact hn), e, eltG_pos h0]
theorem g2_zero {gs : List Int} (h : ∀ j, j < gs.length → eltG gs j = 0) (h0 : 0 < gs.length) : guardErr2 gs = 0 := by
  rw [g2_split, if_pos (h 0 h0)]
  exact firstOf_zero (fun j hj => by
    have hj' : j < gs.length := by simpa using hj
    rw [asc_get gs 0 16 hj']; exact elt_asc h j hj')
/-- the error, from the first number that is not yet known to be right. -/
def G1 (gs : List Int) (l : List Int) : Int := if firstOf l = 0 then guardErr2 gs else firstOf l
theorem G1_cons0 (gs l : List Int) : G1 gs (0 :: l) = G1 gs l := by unfold G1; rw [fo_cons0]
theorem G1_consN (gs l : List Int) {a : Int} (h : a ≠ 0) : G1 gs (a :: l) = a := by unfold G1; rw [fo_consN h, if_neg h]
theorem G1_two0 (gs l : List Int) {a b : Int} (h : firstOf [a, b] = 0) : G1 gs (a :: b :: l) = G1 gs l := by unfold G1; rw [fo_two, if_pos h]
theorem G1_twoN (gs l : List Int) {a b : Int} (h : firstOf [a, b] ≠ 0) : G1 gs (a :: b :: l) = firstOf [a, b] := by unfold G1; rw [fo_two, if_neg h, if_neg h]
theorem G1_nil (gs : List Int) : G1 gs [] = guardErr2 gs := by simp [G1, firstOf]
theorem some0 {n : Nat} (h : n = 0) (m : Int) : someErr (n : Int) m = 12 := by simp [someErr, firstOf, h]
theorem some5 {n : Nat} (h : 8 < n) : someErr (n : Int) 8 = 5 := by
  have h1 : ¬ ((n : Int) = 0) := by omega
  have h2 : (8 : Int) < (n : Int) := by omega
  simp only [someErr, if_neg h1, if_pos h2]
  simp [firstOf]
theorem someOk {n : Nat} (h : 0 < n) (h2 : n ≤ 8) : someErr (n : Int) 8 = 0 := by
  have h1 : ¬ ((n : Int) = 0) := by omega
  have h3 : ¬ (8 : Int) < (n : Int) := by omega
  simp only [someErr, if_neg h1, if_neg h3]
  simp [firstOf]
theorem someErr_zero {n : Nat} (h : someErr (n : Int) 8 = 0) : 1 ≤ n ∧ n ≤ 8 := by
  rcases Nat.eq_zero_or_pos n with h0 | h0
  · rw [some0 h0] at h; simp at h
  · rcases Nat.lt_or_ge 8 n with h1 | h1
    · rw [some5 h1] at h; simp at h
    · exact ⟨h0, h1⟩
theorem guard_valid {lk ht rc : Int} {ts gs : List Int} (h : guardErr lk ht rc ts gs = 0) : Valid lk ht rc ts gs := by
  unfold guardErr at h
  split at h
  · rename_i h1
    have h1 := firstOf_eq_zero.1 h1
    have h2 := firstOf_eq_zero.1 h
    have k1 := rangeErr_zero.1 (h1 (rangeErr lk 1 8) (by simp))
    have k2 := rangeErr_zero.1 (h1 (rangeErr ht 0 536870912) (by simp))
    have k3 := someErr_zero (h1 (someErr ts.length 8) (by simp))
    have k4 := eachErr_zero.1 (h1 (eachErr ts (-64) 64) (by simp))
    have k5 := rangeErr_zero.1 (h1 (rangeErr rc 0 1048576) (by simp))
    have k6 := someErr_zero (h1 (someErr gs.length 8) (by simp))
    have k7 := h2 (if gs.getD 0 0 ≠ 0 then 11 else 0) (by simp)
    have k8 := firstOf_eq_zero.1 (h2 (ascErr gs 0 16) (by simp))
    refine ⟨k1, k2, k5, k3, k4, k6, fun k => ?_, ?_⟩
    · rcases Nat.lt_or_ge k gs.length with hk | hk
      · have h3 := k8 (ascAt gs 0 16 k) (List.mem_map.2 ⟨k, by simpa using hk, rfl⟩)
        have h4 := firstOf_eq_zero.1 h3
        exact rangeErr_zero.1 (h4 _ (List.mem_cons_self ..))
      · rw [List.getD_eq_getElem?_getD, List.getElem?_eq_none hk]; simp
    · by_cases hg : gs.getD 0 0 = 0
      · exact hg
      · rw [if_pos hg] at k7; simp at k7
  · rename_i h1
    exact absurd h h1
end Go.Proofs.YtdeapbihbhoefaaGreatDoor

/- (search).visit: the best list of all that further outputs make. -/
namespace Go.Proofs.YtdeapbihbhoefaaGreatDoor
open Go.RowKit
open Calm (bcell Blk)

theorem RelH.region3In {S : World → World → Prop} (ht' : ∀ a b c, S a b → S b c → S a c) (hdr : ∀ W, S W { W with drawn := W.drawn + 1 }) {P : Program} {id r m : Nat} {Q : Exit → Act → World → Prop} {a : Act} {w : World} {l : List Oper} (n : Nat) (hm : P.follows .mixedOrders = true) (hd : noDefer l = true) (hQ : ¬ LetsOut Q) (hok : Rel.okB l.toArray n = true) (hsz : Rel.sizeB l.toArray n a.tmps.size = true)
    (h : RelH.walk3 S P ((l.take n).filterMap (·.dst)) w a (fun Γ => ∀ (x : Nat → Value) (W : World), S w W → RelH.facts x W 0 Γ → wpList P l.toArray Q (l.drop n) (RelH.fill (l.take n) 0 x a) W) [] (l.take n)) :
    (Code.region id l.toArray true).wpIn (Fence.wide.inRound r) m P Q a w :=
  wpIn_region_any hm (wpAny_inRound (fun i o hi c hc => by
    unfold noDefer at hd
    rw [List.all_eq_true] at hd
    have := hd o (List.mem_of_getElem? (by simpa using hi))
    rw [hc] at this
    cases this) hQ _ _ _ _ (RelH.region3_w ht' hdr n hok hsz h))

theorem ownsRow_base {w : World} {base base' e size n : Nat} {v : Value} {xs : List Value} (h : w.ownsRow base e size v n xs) (hb : base' ≤ base) : w.ownsRow base' e size v n xs := by
  refine ⟨h.1, ?_⟩
  rcases h.2 with h | ⟨g, cap, cur, h1, h2, h3⟩
  · exact .inl h
  · exact .inr ⟨g, cap, cur, h1, Nat.le_trans hb h2, h3⟩
/-- the contract of visit at n further outputs. -/
def VisC (lk ht rc : Int) (ts gs ls : List Int) (A1 A2 A5 : Option Addr) (M L Q N c1 c2 c5 sb n : Nat) : Prop :=
  ∀ (l : List Int) (s : St) (b : Option (List Int)) (A3 A6 : Option Addr) (K c3 c6 : Nat) (w : World), K = l.length → K + n ≤ 100 → Good ht rc ts gs s → inB 2048 l → Cells w A6 l → Cells w A3 s.ps → Cells w A1 ts → Cells w A5 ls → Lim w →
    SB lk ht rc A1 A2 A5 M c1 L c2 N c5 sb b w → Off sb A6 → Off sb A3 →
    Calls Tryz.prog 67 #[.pointer (some ⟨sb, 0, none⟩), .slice A6 K c6, .agg #[(.int .i64 (s.h)), (.int .i64 ((s.lv : Int))), .slice A3 Q c3], (.int .i64 n)] w fun r w' => r = .returned (.tuple #[]) ∧ SB lk ht rc A1 A2 A5 M c1 L c2 N c5 sb (visF lk ht rc ts ls n l s b) w' ∧ But sb w w'

theorem cells_grown {X Y : World} {A : Option Addr} {zs : List Int} {row : Option Nat} (h : Cells X A zs) (hg : X.grownBy Y row) (hrow : ∀ r, row = some r → ∃ o : Obj, X.heap[r]? = some o ∧ o.isCells = false) : Cells Y A zs := by
  intro h0
  obtain ⟨b, off, hA, hl, hc⟩ := h h0
  exact ⟨b, off, hA, Nat.lt_of_lt_of_le hl hg.size, fun k hk => cell_kept (hc k hk) hg hrow⟩
theorem heapRow_any (B : Nat) {cs : Array Value} {t : TypeId} {X Y : World} {row : Option Nat} (h : X.heap[B]? = some (.cells cs t (0, 0))) (hg : X.grownBy Y row) (hrow : ∀ r, row = some r → ∃ o : Obj, X.heap[r]? = some o ∧ o.isCells = false) : Y.heap[B]? = some (.cells cs t (0, 0)) :=
  (hg.block B (Array.getElem?_eq_some_iff.1 h).1 (fun e' => by obtain ⟨o, ho, hc⟩ := hrow B e'.symm; rw [h] at ho; cases ho; cases hc)).trans h
theorem sb_own {β : Type} {lk ht rc : Int} {A1 A2 A5 : Option Addr} {M c1 L c2 N c5 sb B : Nat} (f : β → Option (List Int)) (hB : sb < B) : OwnFrom B (fun (s : β) W => SB lk ht rc A1 A2 A5 M c1 L c2 N c5 sb (f s) W) := by
  rintro s X Y row ⟨B0, d, h1, h2, h3⟩ hg hrow
  exact ⟨B0, d, h1.of_block (hg.block sb h1.lt (fun e => by have := (hrow sb e.symm).1; omega)), cells_grown h2 hg (fun r e => (hrow r e).2), h3⟩
theorem but_own {β : Type} (w6 : World) (sb : Nat) : OwnFrom w6.heap.size (fun (_ : β) W => But sb w6 W) := by
  rintro s X Y row h hg hrow
  exact ⟨hg.os.trans h.os, hg.tape.trans h.tape, hg.output.trans h.output, Nat.le_trans h.size hg.size, fun k hk => (hg.block k (Nat.lt_of_lt_of_le hk.1 h.size) (fun e => by have h1 := (hrow k e.symm).1; have h2 := hk.1; omega)).trans (h.block k hk)⟩

set_option maxHeartbeats 4000000 in
set_option maxRecDepth 100000 in
theorem visit_succ (lk ht rc : Int) (ts gs ls : List Int) (A1 A2 A5 : Option Addr) (M L Q N c1 c2 c5 sb n : Nat) (hM : M = ts.length) (hQ : Q + 1 = ts.length) (hN : N = ls.length) (hN2 : N ≤ 5000) (hV : Valid lk ht rc ts gs) (hls : inB 2048 ls)
    (oG : sb ≠ 0) (o1 : Off sb A1) (o5 : Off sb A5) (IH : VisC lk ht rc ts gs ls A1 A2 A5 M L Q N c1 c2 c5 sb n) : VisC lk ht rc ts gs ls A1 A2 A5 M L Q N c1 c2 c5 sb (n + 1) := by
  intro l s b A3 A6 K c3 c6 w hK hK2 hS hl hX hP hT hX5 hL hSB o6 o3
  have hfn : ∀ f, Fence.wide.fn f = True := fun _ => rfl
  have HIH := Lib.hid IH
  have HX := Lib.hid hX
  have HSB := Lib.hid hSB
  obtain ⟨B0, d0, K0, -, -⟩ := hSB
  have HK0 := Lib.hid K0
  obtain ⟨c00, c01, c02, c03, c04, c05, c06, c07, c08, l0, f0⟩ := K0.o9
  have HKP : Hid (∀ W, Calls Tryz.prog 82 #[.agg #[(.int .i64 lk), (.int .i64 ht), .slice A1 M c1, (.int .i64 rc), .slice A2 L c2], .agg #[(.int .i64 (s.h)), (.int .i64 ((s.lv : Int))), .slice A3 Q c3], .slice A5 N c5] W fun e w' => e = .returned (.func (.func 92) #[] #[.pointer (some ⟨W.heap.size + 1 + 1, 0, none⟩), .pointer (some ⟨W.heap.size, 0, none⟩), .pointer (some ⟨W.heap.size + 1, 0, none⟩)]) ∧
      Below W.heap.size W w' ∧ Blk w' W.heap.size #[(.int .i64 lk), (.int .i64 ht), .slice A1 M c1, (.int .i64 rc), .slice A2 L c2] ∧ Blk w' (W.heap.size + 1) #[(.int .i64 (s.h)), (.int .i64 ((s.lv : Int))), .slice A3 Q c3] ∧ Blk w' (W.heap.size + 1 + 1) #[.slice A5 N c5]) := Lib.hid (fun W => kept_any lk ht rc s A1 A2 A3 A5 M L Q N c1 c2 c3 c5 W)
  have HIT : Hid (∀ (W : World) (Gb Sb Lb m : Nat), 1 ≤ m → Cells W A1 ts → Cells W A3 s.ps → Cells W A5 ls → Lim W → Blk W Gb #[(.int .i64 lk), (.int .i64 ht), .slice A1 M c1, (.int .i64 rc), .slice A2 L c2] → Blk W Sb #[(.int .i64 (s.h)), (.int .i64 ((s.lv : Int))), .slice A3 Q c3] → Blk W Lb #[.slice A5 N c5] → Gb ≠ sb → Sb ≠ sb → Lb ≠ sb → sb < Gb →
      IterR Fence.wide m Tryz.prog 92 #[.pointer (some ⟨Lb, 0, none⟩), .pointer (some ⟨Gb, 0, none⟩), .pointer (some ⟨Sb, 0, none⟩)] 2 (KeptR Q sb) (keptK lk ht rc ts s ls N) (Rest sb W.heap.size) W) := Lib.hid (fun W Gb Sb Lb m hm q1 q3 q5 qL kG kS kL e1 e2 e3 e4 =>
    kept1_iter lk ht rc s ts gs ls A1 A2 A3 A5 M L Q N c1 c2 c3 c5 Gb Sb Lb sb W m hM (by have := hS.pl; omega) hN hV hS hls hN2 qL q1 q3 q5 kG kS kL oG o1 o3 o5 e1 e2 e3 e4 hm)
  have hn0 : ((n : Int) + 1 == 0) = false := beq_eq_false_iff_ne.2 (by omega)
  have hsbw : sb < w.heap.size := l0
  have sl1 : sb < w.heap.size + 1 := by omega
  have sl2 : sb < w.heap.size + 1 + 1 := by omega
  have sl3 : sb < w.heap.size + 1 + 1 + 1 := by omega
  have sl4 : sb < w.heap.size + 1 + 1 + 1 + 1 := by omega
  have HK := Lib.hid hK
  have HK2 := Lib.hid hK2
  have HN := Lib.hid hN
  have HV := Lib.hid hV
  have HS := Lib.hid hS
  have HLS := Lib.hid hls
  have HL := Lib.hid hl
  have HP := Lib.hid hP
  have HT := Lib.hid hT
  have HX5 := Lib.hid hX5
  have HLI := Lib.hid hL
  have HO6 := Lib.hid o6
  have HO5 := Lib.hid o5
  have HO3 := Lib.hid o3
  have HO1 := Lib.hid o1
  clear hX K0 IH hM hQ hN hV hls o1 o5 hK hK2 hS hl hP hT hX5 hL o6 o3
  rw [show (((n + 1 : Nat) : Int)) = (n : Int) + 1 by omega]
  refine (callsIn_wide (n := 10)).1 ?_
  refine callsIn_of_wp_marks Tryz.func67 rfl trivial ?_ rfl
  simp only [Tryz.ntmps67, List.size_toArray, List.length_cons, List.length_nil, Nat.reduceAdd, Nat.reduceSub, Array.replicate_succ, Array.replicate_zero, List.push_toArray, List.append_toArray, List.nil_append, List.cons_append]
  gi_wp2
  refine wpIn_wide.2 ?_
  refine name_world ?_
  intro w4 e4
  have hs4 : w4.heap.size = w.heap.size + 4 := by rw [e4]; simp
  have KS4 : Blk w4 sb _ := (show Blk w4 sb _ from by rw [e4]; exact HK0.out.below (by (repeat (first | (with_reducible exact Below.refl _ _) | ((with_reducible refine Below.setCell ?_ ?_ _); rotate_left 1; focus (first | (simp; done) | (simp; omega) | (simp at *; omega))) | ((with_reducible refine Below.alloc ?_ ?_ _); rotate_left 1; focus (first | (simp; done) | (simp; omega) | (simp at *; omega))) | (with_reducible refine Below.drew ?_) | ((with_reducible refine Calm.step (by assumption) ?_ ?_); rotate_left 1; focus (first | (simp; done) | (simp; omega) | (simp at *; omega)))))))
  have P4 : Blk w4 w.heap.size #[.pointer (some ⟨sb, 0, none⟩)] := by rw [e4]; (repeat (first | ((with_reducible refine Blk.at_ ?_); focus (first | rfl | (simp; done) | (simp; omega))) | (with_reducible refine Blk.alloc ?_ _) | (with_reducible refine Blk.below ?_ (by with_reducible assumption)) | (with_reducible refine Blk.drew ?_)))
  have P5 : Blk w4 (w.heap.size + 1) #[.slice A6 K c6] := by rw [e4]; (repeat (first | ((with_reducible refine Blk.at_ ?_); focus (first | rfl | (simp; done) | (simp; omega))) | (with_reducible refine Blk.alloc ?_ _) | (with_reducible refine Blk.below ?_ (by with_reducible assumption)) | (with_reducible refine Blk.drew ?_)))
  have P6 : Blk w4 (w.heap.size + 2) #[(.int .i64 (s.h)), (.int .i64 ((s.lv : Int))), .slice A3 Q c3] := by rw [e4]; (repeat (first | ((with_reducible refine Blk.at_ ?_); focus (first | rfl | (simp; done) | (simp; omega))) | (with_reducible refine Blk.alloc ?_ _) | (with_reducible refine Blk.below ?_ (by with_reducible assumption)) | (with_reducible refine Blk.drew ?_)))
  have P7 : Blk w4 (w.heap.size + 3) #[(.int .i64 ((n : Int) + 1))] := by rw [e4]; (repeat (first | ((with_reducible refine Blk.at_ ?_); focus (first | rfl | (simp; done) | (simp; omega))) | (with_reducible refine Blk.alloc ?_ _) | (with_reducible refine Blk.below ?_ (by with_reducible assumption)) | (with_reducible refine Blk.drew ?_)))
  have HB4 := Lib.hid (show Below w.heap.size w w4 from by rw [e4]; (repeat (first | (with_reducible exact Below.refl _ _) | ((with_reducible refine Below.setCell ?_ ?_ _); rotate_left 1; focus (first | (simp; done) | (simp; omega) | (simp at *; omega))) | ((with_reducible refine Below.alloc ?_ ?_ _); rotate_left 1; focus (first | (simp; done) | (simp; omega) | (simp at *; omega))) | (with_reducible refine Below.drew ?_) | ((with_reducible refine Calm.step (by assumption) ?_ ?_); rotate_left 1; focus (first | (simp; done) | (simp; omega) | (simp at *; omega))))))
  clear e4 c00 c01 c02 c03 c04 c05 c06 c07 c08 f0 l0
  have HP4 := Lib.hid P4
  have HP5 := Lib.hid P5
  have HP7 := Lib.hid P7
  have ls4 := KS4.lt
  obtain ⟨c00, c01, c02, c03, c04, c05, c06, c07, c08, l0, f0⟩ := KS4.o9
  obtain ⟨p4, p4l, p4f⟩ := P4.o1
  obtain ⟨p6, p61, p62, p6l, p6f⟩ := P6.o3
  clear KS4 P4 P5 P6 P7
  (try simp only [Act.put, List.setIfInBounds_toArray, List.set_cons_zero, List.set_cons_succ])
  refine Rel.region3 9 (by kernel_rfl) (by kernel_rfl) (by kernel_rfl) ?_
  simp only [List.take_succ_cons, List.take_zero, List.drop_succ_cons, List.drop_zero, List.filterMap_cons, List.filterMap_nil]
  repeat (apply Rel.op3; (focus (first | exact Rel.gno rfl | exact Rel.gyes _ true _ rfl rfl rfl | exact Rel.gyes _ false _ rfl rfl rfl)); (focus (intro a W hb hd hbase; obtain ⟨hc, hf⟩ := bcell hb; clear hb hf; simp [Rel.deps, Rel.dep1, Rel.ons, Region.binds, Act.eval] at hd; simp only [Act.eval, List.mem_cons, List.not_mem_nil, not_or, and_imp, or_false, Array.getD_eq_getD_getElem?] at hbase; go_simp; (try go_bits); (try rfl); done)); (try simp only [List.nil_append, List.cons_append]))
  refine Rel.done3 ?_
  intro x w5 hb5 hx
  simp only [Rel.facts, Nat.zero_add, Nat.reduceAdd] at hx
  obtain ⟨e0, e1, e2, e3, e4, e5, e6, e7, e8, _⟩ := hx
  simp only [Rel.fill, Nat.zero_add, Nat.reduceAdd, e0, e1, e2, e3, e4, e5, e6, e7, e8]
  simp only [Act.put, List.setIfInBounds_toArray, List.set_cons_zero, List.set_cons_succ]
  clear e0 e1 e2 e3 e4 e5 e6 e7 e8
  clear c00 c01 c02 c03 c04 c05 c06 c07 c08 l0 f0 p4 p4l p4f p6 p61 p62 p6l p6f
  have hs5 := hb5.size
  have HB5 := Lib.hid (HB4.out.trans (hb5.mono (by omega)))
  have HP4' := Lib.hid (HP4.out.below hb5)
  have HP5' := Lib.hid (HP5.out.below hb5)
  have HP7' := Lib.hid (HP7.out.below hb5)
  clear hb5 HB4 HP4 HP5 HP7
  go_wp2_with (go_at_call 82; refine (HKP.out _).mono ?_; rintro r w6 ⟨rfl, hb6, kG, kS, kL⟩)
  have hs6 := hb6.size
  have gl6 := kG.lt
  have hsb6 : sb < w6.heap.size := by omega
  have HB6 := Lib.hid (HB5.out.trans (hb6.mono (by omega)))
  have HP46 := Lib.hid (HP4'.out.below hb6)
  have HP56 := Lib.hid (HP5'.out.below hb6)
  have HP76 := Lib.hid (HP7'.out.below hb6)
  have HSB6 := Lib.hid (HSB.out.of HB6.out)
  have HIT6 := Lib.hid (HIT.out w6 w5.heap.size (w5.heap.size + 1) (w5.heap.size + 1 + 1) 9 (by omega) (HT.out.below HB6.out) (HP.out.below HB6.out) (HX5.out.below HB6.out) (HLI.out.below HB6.out) kG kS kL (by omega) (by omega) (by omega) (by omega))
  have HC6 := Lib.hid (show Cells w6 A1 ts ∧ Cells w6 A5 ls ∧ Cells w6 A6 l ∧ Lim w6 from ⟨HT.out.below HB6.out, HX5.out.below HB6.out, HX.out.below HB6.out, HLI.out.below HB6.out⟩)
  clear hb6 kG kS kL HIT HKP HP4' HP5' HP7' HB5
  gi_wp2
  have hIO : OwnFrom w6.heap.size (fun (pre : List (Int × St)) W => SB lk ht rc A1 A2 A5 M c1 L c2 N c5 sb (pre.foldl (fun b x => visF lk ht rc ts ls n (l ++ [x.1]) x.2 b) b) W ∧ But sb w6 W) :=
    OwnFrom.and (sb_own (fun pre : List (Int × St) => pre.foldl (fun b x => visF lk ht rc ts ls n (l ++ [x.1]) x.2 b) b) hsb6) (but_own w6 sb)
  have HIO := Lib.hid hIO
  refine range_iterR (F := Fence.wide) (n := 10) rfl (by decide) (gf := 92) (lb := #[.pointer (some ⟨w5.heap.size + 1 + 1, 0, none⟩), .pointer (some ⟨w5.heap.size, 0, none⟩), .pointer (some ⟨w5.heap.size + 1, 0, none⟩)]) rfl trivial (enters_of Tryz.func92 (by kernel_rfl) rfl)
    (all := keptK lk ht rc ts s ls N) (R := KeptR Q sb) (C := Rest sb w6.heap.size) (fun k hk => hk.1) HIT6.out
    _ hIO ⟨HSB6.out, But.refl _ _⟩
    (fun (pre : List (Int × St)) (x : Int × St) (a' : Act) (W : World) => (SB lk ht rc A1 A2 A5 M c1 L c2 N c5 sb (pre.foldl (fun b x => visF lk ht rc ts ls n (l ++ [x.1]) x.2 b) b) W ∧ But sb w6 W) ∧
      ∃ Bx B c, w6.heap.size + 1 < Bx ∧ W.heap[Bx]? = some (.cells #[(.int .i64 (x.2.h)), (.int .i64 ((x.2.lv : Int))), .slice (some B) Q c] 45 (0, 0)) ∧ Cells W (some B) x.2.ps ∧ B.block ≠ sb ∧ a' = { tmps := #[.pointer (some ⟨sb, 0, none⟩), .slice A6 K c6, .agg #[(.int .i64 (s.h)), (.int .i64 ((s.lv : Int))), .slice A3 Q c3], (.int .i64 ((n : Int) + 1)), .pointer (some ⟨w.heap.size, 0, none⟩), .pointer (some ⟨w.heap.size + 1, 0, none⟩), .pointer (some ⟨w.heap.size + 1 + 1, 0, none⟩), .pointer (some ⟨w.heap.size + 1 + 1 + 1, 0, none⟩), undef, (.int .i64 (x.1)), .pointer (some ⟨Bx, 0, none⟩), (.int .i64 ((n : Int) + 1)), .bool false, undef, undef, undef, undef, undef, undef, undef, undef, undef, undef, undef, undef, undef, undef, undef, undef, undef, undef, undef, undef, undef, undef, undef, undef, undef, undef, undef, .pointer (some ⟨sb, 0, none⟩), .pointer (some ⟨sb, 0, none⟩), .pointer (some ⟨sb, 0, none⟩), .agg #[(.int .i64 lk), (.int .i64 ht), .slice A1 M c1, (.int .i64 rc), .slice A2 L c2], .agg #[(.int .i64 (s.h)), (.int .i64 ((s.lv : Int))), .slice A3 Q c3], .pointer (some ⟨sb, 0, none⟩), .pointer (some ⟨sb, 0, none⟩), .pointer (some ⟨sb, 5, none⟩), .slice A5 N c5, .func (.func 92) #[] #[.pointer (some ⟨w5.heap.size + 1 + 1, 0, none⟩), .pointer (some ⟨w5.heap.size, 0, none⟩), .pointer (some ⟨w5.heap.size + 1, 0, none⟩)], (.int .i64 (x.1)), .agg #[(.int .i64 (x.2.h)), (.int .i64 ((x.2.lv : Int))), .slice (some B) Q c], undef, undef, undef, undef, undef, undef, undef, undef, undef, undef], defers := [] })
    ?hax ?assign ?body ?done
  case hax =>
    rintro pre x a' u X Y row ⟨hi, Bx, B, c, h1, h2, h3, h4, h5⟩ hg hrow
    exact ⟨HIO.out pre X Y row hi hg hrow, Bx, B, c, h1, heapRow_any Bx h2 hg (fun r e => (hrow r e).2), cells_grown h3 hg (fun r e => (hrow r e).2), h4, h5⟩
  case assign =>
    rintro r pre x v W hi ⟨post, hpost⟩ hsz hcb hvs ⟨B, c, rfl, hC, hne⟩
    have hsem : ∀ (ρ : Operand → Value) (o : Oper), (∀ c, o.op ≠ .defer c) → Oper.semAt (some r) ρ o = execOp ρ o := Oper.semAt_some r
    have HI := Lib.hid hi
    have HCX := Lib.hid hC
    clear hi hIO hpost hcb hC
    gi_wp2
    exact ⟨(Same.refl _ _).alloc _, HIO.out.alloc _ HI.out, W.heap.size, B, c, hsz, World.alloc_heap_new W _, HCX.out.below ((Below.refl _ _).alloc (Nat.le_refl _) _), hne, rfl⟩
  case body =>
    rintro r pre ⟨y, z⟩ a' W ⟨⟨hsb, hbut⟩, Bx, B, c, hBx, hx, hC, hne, rfl⟩ ⟨post, hpost⟩ hsz hcb
    have hmem : (y, z) ∈ keptK lk ht rc ts s ls N := by rw [hpost]; simp
    obtain ⟨g1, g2, -, -⟩ := keptK_good HS.out HLS.out N (y, z) hmem
    have HG1 := Lib.hid g1
    have HG2 := Lib.hid g2
    have hn100 : n ≤ 100 := by have := HK2.out; omega
    have ls6 : sb < W.heap.size := Nat.lt_of_lt_of_le hsb6 hbut.size
    have q4 := blk_but HP46.out (by omega) hbut
    have q5 := blk_but HP56.out (by omega) hbut
    have q7 := blk_but HP76.out (by omega) hbut
    have qx := Calm.Blk.row hx
    obtain ⟨p4, p4l, p4f⟩ := q4.o1
    obtain ⟨p5, p5l, p5f⟩ := q5.o1
    obtain ⟨p7, p7l, p7f⟩ := q7.o1
    obtain ⟨x0, x1, x2, xl, xf⟩ := qx.o3
    have HCW := Lib.hid (show Cells W A1 ts ∧ Cells W A5 ls ∧ Cells W A6 l ∧ Lim W ∧ Cells W (some B) z.ps from ⟨HC6.out.1.but HO1.out hbut, HC6.out.2.1.but HO5.out hbut, HC6.out.2.2.1.but HO6.out hbut, HC6.out.2.2.2.but oG hbut, hC⟩)
    have HSBW := Lib.hid hsb
    have HBW := Lib.hid hbut
    have hTC := Lib.hid (fun (W' : World) (hS : Sett K (.int .i64 y) W.heap.size W W') => bcell hS.below)
    obtain ⟨i1, hi1, jz0, jz1, jz2⟩ := info_parts Tryz.infoI
    clear hpost hmem g1 g2 hIO hsb hbut hcb hx hC q4 q5 q7 qx
    refine wpIn_block ?_
    refine RelH.region3In (S := Sett K (.int .i64 y) W.heap.size) Sett.trans Sett.drawn 9 (by kernel_rfl) (by kernel_rfl) (by rintro ⟨a, w, h⟩; exact h) (by kernel_rfl) (by kernel_rfl) ?_
    simp only [List.take_succ_cons, List.take_zero, List.drop_succ_cons, List.drop_zero, List.filterMap_cons, List.filterMap_nil]
    iterate 2 (apply RelH.op3 Sett.refl; (focus (first | exact RelH.gno rfl | exact RelH.gyes _ true _ rfl rfl rfl | exact RelH.gyes _ false _ rfl rfl rfl)); (focus (intro a W x hb hd hbase; obtain ⟨hc, hf⟩ := hTC.out W hb; clear hb hf; simp [RelH.deps, RelH.dep1, Rel.ons, Region.binds, Act.eval] at hd; simp only [Act.eval, List.mem_cons, List.not_mem_nil, not_or, and_imp, or_false, Array.getD_eq_getD_getElem?] at hbase; go_simp; (try go_bits); (try rfl); done)); (try simp only [List.nil_append, List.cons_append]))
    refine RelH.callR3 (fun _ u W' => W'.ownsRow W.heap.size 3 1 u K (l.map (Value.int .i64))) (fun x v W W' h hS => ownsRow_sett h hS (by rw [List.set_eq_of_length_le (by simp; have := HK.out; omega)])) RelH.loc_const (fun W W' hS h => Sett.ofGe hS h) (RelH.gno rfl) ?_ ?_
    · intro a W' x hb hd hbase
      refine ⟨81, #[.slice A6 K c6], ?_, (clone_any l A6 K c6 W' HK.out (HCW.out.2.2.1.below hb.below) (by have := HK2.out; omega)).mono ?_⟩
      · clear hb
        simp [RelH.deps, RelH.dep1, Rel.ons, Region.binds, Act.eval] at hd
        go_simp
        (first | done | rfl | (refine ⟨?_, ?_⟩ <;> rfl))
      · rintro e W2 ⟨⟨B', d', rfl, ho⟩, hbb⟩
        exact ⟨_, rfl, ownsRow_base ho hb.below.size, hbb⟩
    (try simp only [List.nil_append, List.cons_append])
    iterate 1 (apply RelH.op3 Sett.refl; (focus (first | exact RelH.gno rfl | exact RelH.gyes _ true _ rfl rfl rfl | exact RelH.gyes _ false _ rfl rfl rfl)); (focus (intro a W x hb hd hbase; obtain ⟨hc, hf⟩ := hTC.out W hb; clear hb hf; simp [RelH.deps, RelH.dep1, Rel.ons, Region.binds, Act.eval] at hd; simp only [Act.eval, List.mem_cons, List.not_mem_nil, not_or, and_imp, or_false, Array.getD_eq_getD_getElem?] at hbase; go_simp; (try go_bits); (try rfl); done)); (try simp only [List.nil_append, List.cons_append]))
    refine RelH.opW3 (fun _ => Rel.NewS W.heap.size 1 1 #[(.int .i64 y)]) (fun x v W W' h hS => by
      obtain ⟨g, h1, h2, h3⟩ := h
      refine ⟨g, h1, h2, Blk.sett h3 hS h2 ?_⟩
      apply Array.toList_inj.1
      rw [Array.toList_setIfInBounds]
      cases K with
      | zero => rfl
      | succ q => simp) RelH.loc_const (RelH.gno rfl) ?_ ?_
    · intro a W' x hb hd hbase
      simp [RelH.deps, RelH.dep1, Rel.ons, Region.binds, Act.eval] at hd
      refine ⟨.slice (some ⟨W'.heap.size, 0, none⟩) 1 1, W'.alloc (.cells #[(.int .i64 y)] 3), ?_, ⟨_, rfl, hb.below.size, Calm.Blk.new W' _ _⟩, Sett.of ((Below.refl _ _).alloc (Nat.le_refl _) _) hb.below.size⟩
      go_simp
      (first | done | rfl | (refine ⟨?_, ?_⟩ <;> rfl))
    (try simp only [List.nil_append, List.cons_append])
    refine RelH.app3 (fun _ u W' => W'.ownsRow W.heap.size 3 1 u (K + 1) (l.map (Value.int .i64) ++ [(.int .i64 y)])) (fun x v W W' h hS => ownsRow_sett h hS (by
      have hl : (l.map (Value.int .i64)).length = K := by simp; exact HK.out.symm
      rw [← hl]; simp)) RelH.loc_const (.tmp 54) (.tmp 56) 22 rfl (RelH.gno rfl) ?_ ?_
    · intro a W' x hb hd hbase
      simp [RelH.deps, RelH.dep1, Rel.ons, Region.binds] at hd
      obtain ⟨⟨_, ho⟩, ⟨_, hx⟩, _⟩ := hd
      obtain ⟨g, hxv, _, hxk⟩ := hx
      rw [hxv]
      exact append_sett (P := Tryz.prog) W.heap.size 22 22 3 i1 _ 8 Tryz.underlying22 hi1 jz0 jz1 jz2 rfl _ K _ (.int .i64 y) rfl W' ho hb.below.size (by unfold maxLen; have := HK2.out; omega) (by have := HK2.out; omega) g 1 (hxk.cell 0 _ rfl)
    (try simp only [List.nil_append, List.cons_append])
    iterate 3 (apply RelH.op3 Sett.refl; (focus (first | exact RelH.gno rfl | exact RelH.gyes _ true _ rfl rfl rfl | exact RelH.gyes _ false _ rfl rfl rfl)); (focus (intro a W x hb hd hbase; obtain ⟨hc, hf⟩ := hTC.out W hb; clear hb hf; simp [RelH.deps, RelH.dep1, Rel.ons, Region.binds, Act.eval] at hd; simp only [Act.eval, List.mem_cons, List.not_mem_nil, not_or, and_imp, or_false, Array.getD_eq_getD_getElem?] at hbase; go_simp; (try go_bits); (try rfl); done)); (try simp only [List.nil_append, List.cons_append]))
    refine RelH.done3 ?_
    intro x w7 hS hx
    simp only [RelH.facts, Nat.zero_add, Nat.reduceAdd] at hx
    obtain ⟨e0, e1, e2, e3, -, e5, e6, e7, e8, _⟩ := hx
    obtain ⟨B7, d7, v7⟩ := own_slice e5
    rw [v7] at e5
    obtain ⟨B7', d7', v8, hge, hcc⟩ := own_ints (zs := l ++ [y]) (by simpa using e5) (by simp; exact HK.out)
    cases v8
    simp only [RelH.fill, Nat.zero_add, Nat.reduceAdd, e0, e1, v7, e3, e6, e7, e8]
    simp only [Act.put, List.setIfInBounds_toArray, List.set_cons_zero, List.set_cons_succ]
    have hbw := hS.below
    have HB7 := Lib.hid hbw
    have HC7 := Lib.hid hcc
    have HGE := Lib.hid hge
    have HIV := Lib.hid (HIH.out (l ++ [y]) z _ (some B) B7 (K + 1) c d7 w7 (by simp; exact HK.out) (by have := HK2.out; omega) HG1.out (fun q hq => by
      rcases List.mem_append.1 hq with hq | hq
      · exact HL.out q hq
      · obtain rfl := List.mem_singleton.1 hq
        exact HG2.out) hcc (HCW.out.2.2.2.2.below hbw) (HCW.out.1.below hbw) (HCW.out.2.1.below hbw) (HCW.out.2.2.2.1.below hbw) (HSBW.out.of hbw) (fun p hp => by have := hge p hp; omega) (fun p hp => by cases hp; exact hne))
    clear hbw hcc hge e0 e1 e2 e3 e5 v7 e6 e7 e8 hS hTC p4 p4l p4f p5 p5l p5f p7 p7l p7f x0 x1 x2 xl xf
    go_wp2_with (go_at_call 67; refine HIV.out.mono ?_; rintro e w9 ⟨rfl, hs9, hb9⟩)
    refine ⟨fun k o hk ho => ?_, ?_, ?_⟩
    · have hk1 := (Array.getElem?_eq_some_iff.1 ho).1
      have hk2 : k ≠ sb := by
        rcases hk with hk | rfl | rfl
        · exact hk.2
        · omega
        · omega
      have h1 := HB7.out.size
      rw [hb9.block k ⟨by omega, hk2⟩, HB7.out.block k hk1]
      exact ho
    · rw [List.foldl_append]
      exact hs9
    · exact (HBW.out.trans (But.of HB7.out)).trans hb9
  case done =>
    rintro W ⟨hsb, hbut⟩ hdef
    obtain ⟨h1, h2⟩ := HIO.out.putObj (s := keptK lk ht rc ts s ls N) (.deferred none) ⟨hsb, hbut⟩ (Nat.le_refl _) hdef rfl
    have H1 := Lib.hid h1
    have H2 := Lib.hid h2
    have HD := Lib.hid hdef
    clear hsb hbut hIO h1 h2 hdef
    gi_wp2
    refine ⟨by simp, .inl ⟨_, _, rfl, run_takeDeferred HD.out, ?_⟩⟩
    refine ⟨.tuple #[], by simp [results, Tryz.results67, go_sem], rfl, ?_, (But.of HB6.out).trans H2.out⟩
    have h1 := H1.out
    have e : visF lk ht rc ts ls (n + 1) l s b = (keptK lk ht rc ts s ls N).foldl (fun b x => visF lk ht rc ts ls n (l ++ [x.1]) x.2 b) b := by rw [HN.out]; rfl
    rw [e]
    exact h1
end Go.Proofs.YtdeapbihbhoefaaGreatDoor
