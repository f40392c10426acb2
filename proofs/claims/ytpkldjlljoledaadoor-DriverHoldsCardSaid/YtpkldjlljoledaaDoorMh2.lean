/- Part 2 of the texts of the claim: A4, Flat, Laid, A5. -/
import Derived.Test.YtpkldjlljoledaaDoorMh1
import Derived.WalkKit
import Derived.ProofKit
import Derived.OpenShut
import Derived.Lib.LaidTab
import Derived.Below
import Derived.Carry
import Derived.ChangeSame
import Derived.Test.YtpkldjlljoledaaDoorCards
import Derived.Test.YtpkldjlljoledaaDoorTie
import Derived.Deep.DeepHandedRow
import Derived.LaidMore

/- Contracts of package driver's checks. -/
namespace Go.Proofs.YtpkldjlljoledaaDoor
open Go.RowKit
open Calm (bcell)

/-- the table of the limits lies in memory as the program's text lays it. -/
structure Lim (w : World) : Prop where
  lt : 0 < w.heap.size
  c0 : w.cell? ⟨0, 0, none⟩ = some (.int .i64 (1))
  c1 : w.cell? ⟨0, 1, none⟩ = some (.int .i64 (50))
  c2 : w.cell? ⟨0, 2, none⟩ = some (.int .i64 (0))
  c3 : w.cell? ⟨0, 3, none⟩ = some (.int .i64 (10))
  c4 : w.cell? ⟨0, 4, none⟩ = some (.int .i64 (1))
  c5 : w.cell? ⟨0, 5, none⟩ = some (.int .i64 (20))
  c6 : w.cell? ⟨0, 6, none⟩ = some (.int .i64 (1))
  c7 : w.cell? ⟨0, 7, none⟩ = some (.int .i64 (100))
  c8 : w.cell? ⟨0, 8, none⟩ = some (.int .i64 (1))
  c9 : w.cell? ⟨0, 9, none⟩ = some (.int .i64 (5000))
  c10 : w.cell? ⟨0, 10, none⟩ = some (.int .i64 (1))
  c11 : w.cell? ⟨0, 11, none⟩ = some (.int .i64 (100))
theorem Lim.below {w w' : World} (h : Lim w) (hb : Below w.heap.size w w') : Lim w' := by
  have k : ∀ o, w'.cell? ⟨0, o, none⟩ = w.cell? ⟨0, o, none⟩ := fun o => hb.cell (p := ⟨0, o, none⟩) h.lt
  exact ⟨Nat.lt_of_lt_of_le h.lt hb.size, (k _).trans h.c0, (k _).trans h.c1, (k _).trans h.c2, (k _).trans h.c3, (k _).trans h.c4, (k _).trans h.c5, (k _).trans h.c6, (k _).trans h.c7, (k _).trans h.c8, (k _).trans h.c9, (k _).trans h.c10, (k _).trans h.c11⟩

def drvErrs (re le bl ma st lo : Int) : List Int := [rangeErr re 1 50, rangeErr le 0 10, rangeErr bl 1 20, rangeErr ma 1 100, rangeErr st 1 5000, rangeErr lo 1 100]
/-- the first error of a driver. -/
def drvErr (re le bl ma st lo : Int) : Int := firstOf (drvErrs re le bl ma st lo)

theorem index0 (re le bl ma st lo : Int) : ∀ w : World, (Instr.index 138 (.agg #[(.int .i64 (re)), (.int .i64 (le)), (.int .i64 (bl)), (.int .i64 (ma)), (.int .i64 (st)), (.int .i64 (lo))]) (.int .i64 0)).run Tryd.prog w = .ok (.int .i64 (re)) w := fun _ => by kernel_rfl
theorem index1 (re le bl ma st lo : Int) : ∀ w : World, (Instr.index 138 (.agg #[(.int .i64 (re)), (.int .i64 (le)), (.int .i64 (bl)), (.int .i64 (ma)), (.int .i64 (st)), (.int .i64 (lo))]) (.int .i64 1)).run Tryd.prog w = .ok (.int .i64 (le)) w := fun _ => by kernel_rfl
theorem index2 (re le bl ma st lo : Int) : ∀ w : World, (Instr.index 138 (.agg #[(.int .i64 (re)), (.int .i64 (le)), (.int .i64 (bl)), (.int .i64 (ma)), (.int .i64 (st)), (.int .i64 (lo))]) (.int .i64 2)).run Tryd.prog w = .ok (.int .i64 (bl)) w := fun _ => by kernel_rfl
theorem index3 (re le bl ma st lo : Int) : ∀ w : World, (Instr.index 138 (.agg #[(.int .i64 (re)), (.int .i64 (le)), (.int .i64 (bl)), (.int .i64 (ma)), (.int .i64 (st)), (.int .i64 (lo))]) (.int .i64 3)).run Tryd.prog w = .ok (.int .i64 (ma)) w := fun _ => by kernel_rfl
theorem index4 (re le bl ma st lo : Int) : ∀ w : World, (Instr.index 138 (.agg #[(.int .i64 (re)), (.int .i64 (le)), (.int .i64 (bl)), (.int .i64 (ma)), (.int .i64 (st)), (.int .i64 (lo))]) (.int .i64 4)).run Tryd.prog w = .ok (.int .i64 (st)) w := fun _ => by kernel_rfl
theorem index5 (re le bl ma st lo : Int) : ∀ w : World, (Instr.index 138 (.agg #[(.int .i64 (re)), (.int .i64 (le)), (.int .i64 (bl)), (.int .i64 (ma)), (.int .i64 (st)), (.int .i64 (lo))]) (.int .i64 5)).run Tryd.prog w = .ok (.int .i64 (lo)) w := fun _ => by kernel_rfl
set_option maxRecDepth 100000 in
set_option maxHeartbeats 2000000 in
theorem checkDriver_any (re le bl ma st lo : Int) (w : World) (hL : Lim w) :
    Calls Tryd.prog 23 #[.agg #[(.int .i64 (re)), (.int .i64 (le)), (.int .i64 (bl)), (.int .i64 (ma)), (.int .i64 (st)), (.int .i64 (lo))]] w fun r w' => r = .returned (.int .i64 (drvErr re le bl ma st lo)) ∧ Below w.heap.size w w' := by
  go_enter Tryd.func23, Tryd.ntmps23
  go_wp2_with (first | (go_at_call 79; refine (numbers_any _ _ _ _ _ _ _).mono ?_; rintro r w1 ⟨rfl, hb⟩; obtain ⟨hc, hf⟩ := bcell hb; have hz := hb.size; (try simp at hz); (try have hz0 : w.heap.size < w1.heap.size := by omega); (try have hz1 : w.heap.size + 1 < w1.heap.size := by omega); (try have hz2 : w.heap.size + 1 + 1 < w1.heap.size := by omega); (try have hz3 : w.heap.size + 1 + 1 + 1 < w1.heap.size := by omega); (try have hz4 : w.heap.size + 1 + 1 + 1 + 1 < w1.heap.size := by omega); (try have hz5 : w.heap.size + 1 + 1 + 1 + 1 + 1 < w1.heap.size := by omega); (try have hz6 : w.heap.size + 1 + 1 + 1 + 1 + 1 + 1 < w1.heap.size := by omega)))
  go_loopw [8] (fun i wr => ∃ k : Int, 0 ≤ k ∧ k ≤ 6 ∧ i = (.int .i64 (k)) ∧ (∀ j : Nat, (j : Int) < k → (drvErrs re le bl ma st lo).getD j 0 = 0) ∧ Below w.heap.size w wr) (fun i _ => 6 - (intOf i).toNat)
  case atStart => exact ⟨0, by omega, by omega, rfl, fun j hj => by omega, ((Below.refl _ _).alloc (Nat.le_refl _) _).trans (hb.mono (by simp))⟩
  case round =>
    clear hb hc hf hz
    obtain ⟨k, hk0, hk, rfl, hz, hB⟩ := hrel
    have HZ := Lib.hid hz
    clear hz
    obtain ⟨l0, c0, c1, c2, c3, c4, c5, c6, c7, c8, c9, c10, c11⟩ := hL.below hB
    have hkk : k = 0 ∨ k = 1 ∨ k = 2 ∨ k = 3 ∨ k = 4 ∨ k = 5 ∨ k = 6 := by omega
    rcases hkk with rfl | rfl | rfl | rfl | rfl | rfl | rfl
    · have ix := index0 re le bl ma st lo
      rcases rangeErr_cases re 1 50 with ⟨h0, _, _⟩ | ⟨h0, _⟩
      · go_wp2
        refine Calm.tail_below 10 (by kernel_rfl) (by kernel_rfl) ?_
        simp only [List.take_succ_cons, List.take_zero, List.drop_succ_cons, List.drop_zero]
        repeat (first | (first | (apply Calm.op_move; (focus rfl); (focus (first | exact .inl rfl | exact .inr rfl)); (focus ((try simp only [Act.eval, Array.getD_eq_getD_getElem?, List.getElem?_toArray, List.getElem?_cons_succ, List.getElem?_cons_zero, Option.getD_some]); rfl)); (try simp only [Act.put, List.setIfInBounds_toArray, List.set_cons_zero, List.set_cons_succ])) | (apply Calm.op_not; (focus rfl); (try simp only [Act.put, List.setIfInBounds_toArray, List.set_cons_zero, List.set_cons_succ])) | (apply Calm.op; (focus rfl); (focus (intro W hb; obtain ⟨hc, hf⟩ := bcell hb; clear hb hf; go_simp; (try go_bits); (try rfl); done)); (try simp only [Act.put, List.setIfInBounds_toArray, List.set_cons_zero, List.set_cons_succ]))) | (apply Calm.op_call; (focus rfl); (focus (intro W hb; obtain ⟨hc, hf⟩ := bcell hb; clear hb hf; go_simp; refine ⟨?_, ?_⟩; rfl; rfl)); (focus (intro W hb; first | (go_at_call 80; exact Calm.call_same hb (within_any _ _ _ _)))); (try simp only [Act.put, List.setIfInBounds_toArray, List.set_cons_zero, List.set_cons_succ])))
        refine wpQuiet_nil ?_
        intro w1 hb
        obtain ⟨hbc, hbf⟩ := bcell hb
        have hbz := hb.size
        (try simp at hbz)
        (try have hbz0 : w.heap.size < w1.heap.size := by omega)
        (try have hbz1 : w.heap.size + 1 < w1.heap.size := by omega)
        (try have hbz2 : w.heap.size + 1 + 1 < w1.heap.size := by omega)
        (try have hbz3 : w.heap.size + 1 + 1 + 1 < w1.heap.size := by omega)
        (try have hbz4 : w.heap.size + 1 + 1 + 1 + 1 < w1.heap.size := by omega)
        (try have hbz5 : w.heap.size + 1 + 1 + 1 + 1 + 1 < w1.heap.size := by omega)
        go_wp2
        go_roundw
        case rel => exact ⟨1, by omega, by omega, rfl, fun j hj => by
          rcases Nat.lt_or_ge j 0 with h | h
          · exact HZ.out j (by omega)
          · obtain rfl : j = 0 := by omega
            exact h0, hB.trans (hb.mono hB.size)⟩
        case measure => simp [intOf]
      · go_wp2
        refine Calm.tail_below 10 (by kernel_rfl) (by kernel_rfl) ?_
        simp only [List.take_succ_cons, List.take_zero, List.drop_succ_cons, List.drop_zero]
        repeat (first | (first | (apply Calm.op_move; (focus rfl); (focus (first | exact .inl rfl | exact .inr rfl)); (focus ((try simp only [Act.eval, Array.getD_eq_getD_getElem?, List.getElem?_toArray, List.getElem?_cons_succ, List.getElem?_cons_zero, Option.getD_some]); rfl)); (try simp only [Act.put, List.setIfInBounds_toArray, List.set_cons_zero, List.set_cons_succ])) | (apply Calm.op_not; (focus rfl); (try simp only [Act.put, List.setIfInBounds_toArray, List.set_cons_zero, List.set_cons_succ])) | (apply Calm.op; (focus rfl); (focus (intro W hb; obtain ⟨hc, hf⟩ := bcell hb; clear hb hf; go_simp; (try go_bits); (try rfl); done)); (try simp only [Act.put, List.setIfInBounds_toArray, List.set_cons_zero, List.set_cons_succ]))) | (apply Calm.op_call; (focus rfl); (focus (intro W hb; obtain ⟨hc, hf⟩ := bcell hb; clear hb hf; go_simp; refine ⟨?_, ?_⟩; rfl; rfl)); (focus (intro W hb; first | (go_at_call 80; exact Calm.call_same hb (within_any _ _ _ _)))); (try simp only [Act.put, List.setIfInBounds_toArray, List.set_cons_zero, List.set_cons_succ])))
        refine wpQuiet_nil ?_
        intro w1 hb
        obtain ⟨hbc, hbf⟩ := bcell hb
        have hbz := hb.size
        (try simp at hbz)
        (try have hbz0 : w.heap.size < w1.heap.size := by omega)
        (try have hbz1 : w.heap.size + 1 < w1.heap.size := by omega)
        (try have hbz2 : w.heap.size + 1 + 1 < w1.heap.size := by omega)
        (try have hbz3 : w.heap.size + 1 + 1 + 1 < w1.heap.size := by omega)
        (try have hbz4 : w.heap.size + 1 + 1 + 1 + 1 < w1.heap.size := by omega)
        (try have hbz5 : w.heap.size + 1 + 1 + 1 + 1 + 1 < w1.heap.size := by omega)
        go_wp2
        go_ret
        exact ⟨ret_i ((firstOf_take (l := drvErrs re le bl ma st lo) (k := 0) (fun j hj => HZ.out j (by omega)) (by simp [drvErrs]) (by simp [drvErrs, h0])).trans (by simp [drvErrs, h0])).symm, hB.trans (hb.mono hB.size)⟩
    · have ix := index1 re le bl ma st lo
      rcases rangeErr_cases le 0 10 with ⟨h0, _, _⟩ | ⟨h0, _⟩
      · go_wp2
        refine Calm.tail_below 10 (by kernel_rfl) (by kernel_rfl) ?_
        simp only [List.take_succ_cons, List.take_zero, List.drop_succ_cons, List.drop_zero]
        repeat (first | (first | (apply Calm.op_move; (focus rfl); (focus (first | exact .inl rfl | exact .inr rfl)); (focus ((try simp only [Act.eval, Array.getD_eq_getD_getElem?, List.getElem?_toArray, List.getElem?_cons_succ, List.getElem?_cons_zero, Option.getD_some]); rfl)); (try simp only [Act.put, List.setIfInBounds_toArray, List.set_cons_zero, List.set_cons_succ])) | (apply Calm.op_not; (focus rfl); (try simp only [Act.put, List.setIfInBounds_toArray, List.set_cons_zero, List.set_cons_succ])) | (apply Calm.op; (focus rfl); (focus (intro W hb; obtain ⟨hc, hf⟩ := bcell hb; clear hb hf; go_simp; (try go_bits); (try rfl); done)); (try simp only [Act.put, List.setIfInBounds_toArray, List.set_cons_zero, List.set_cons_succ]))) | (apply Calm.op_call; (focus rfl); (focus (intro W hb; obtain ⟨hc, hf⟩ := bcell hb; clear hb hf; go_simp; refine ⟨?_, ?_⟩; rfl; rfl)); (focus (intro W hb; first | (go_at_call 80; exact Calm.call_same hb (within_any _ _ _ _)))); (try simp only [Act.put, List.setIfInBounds_toArray, List.set_cons_zero, List.set_cons_succ])))
        refine wpQuiet_nil ?_
        intro w1 hb
        obtain ⟨hbc, hbf⟩ := bcell hb
        have hbz := hb.size
        (try simp at hbz)
        (try have hbz0 : w.heap.size < w1.heap.size := by omega)
        (try have hbz1 : w.heap.size + 1 < w1.heap.size := by omega)
        (try have hbz2 : w.heap.size + 1 + 1 < w1.heap.size := by omega)
        (try have hbz3 : w.heap.size + 1 + 1 + 1 < w1.heap.size := by omega)
        (try have hbz4 : w.heap.size + 1 + 1 + 1 + 1 < w1.heap.size := by omega)
        (try have hbz5 : w.heap.size + 1 + 1 + 1 + 1 + 1 < w1.heap.size := by omega)
        go_wp2
        go_roundw
        case rel => exact ⟨2, by omega, by omega, rfl, fun j hj => by
          rcases Nat.lt_or_ge j 1 with h | h
          · exact HZ.out j (by omega)
          · obtain rfl : j = 1 := by omega
            exact h0, hB.trans (hb.mono hB.size)⟩
        case measure => simp [intOf]
      · go_wp2
        refine Calm.tail_below 10 (by kernel_rfl) (by kernel_rfl) ?_
        simp only [List.take_succ_cons, List.take_zero, List.drop_succ_cons, List.drop_zero]
        repeat (first | (first | (apply Calm.op_move; (focus rfl); (focus (first | exact .inl rfl | exact .inr rfl)); (focus ((try simp only [Act.eval, Array.getD_eq_getD_getElem?, List.getElem?_toArray, List.getElem?_cons_succ, List.getElem?_cons_zero, Option.getD_some]); rfl)); (try simp only [Act.put, List.setIfInBounds_toArray, List.set_cons_zero, List.set_cons_succ])) | (apply Calm.op_not; (focus rfl); (try simp only [Act.put, List.setIfInBounds_toArray, List.set_cons_zero, List.set_cons_succ])) | (apply Calm.op; (focus rfl); (focus (intro W hb; obtain ⟨hc, hf⟩ := bcell hb; clear hb hf; go_simp; (try go_bits); (try rfl); done)); (try simp only [Act.put, List.setIfInBounds_toArray, List.set_cons_zero, List.set_cons_succ]))) | (apply Calm.op_call; (focus rfl); (focus (intro W hb; obtain ⟨hc, hf⟩ := bcell hb; clear hb hf; go_simp; refine ⟨?_, ?_⟩; rfl; rfl)); (focus (intro W hb; first | (go_at_call 80; exact Calm.call_same hb (within_any _ _ _ _)))); (try simp only [Act.put, List.setIfInBounds_toArray, List.set_cons_zero, List.set_cons_succ])))
        refine wpQuiet_nil ?_
        intro w1 hb
        obtain ⟨hbc, hbf⟩ := bcell hb
        have hbz := hb.size
        (try simp at hbz)
        (try have hbz0 : w.heap.size < w1.heap.size := by omega)
        (try have hbz1 : w.heap.size + 1 < w1.heap.size := by omega)
        (try have hbz2 : w.heap.size + 1 + 1 < w1.heap.size := by omega)
        (try have hbz3 : w.heap.size + 1 + 1 + 1 < w1.heap.size := by omega)
        (try have hbz4 : w.heap.size + 1 + 1 + 1 + 1 < w1.heap.size := by omega)
        (try have hbz5 : w.heap.size + 1 + 1 + 1 + 1 + 1 < w1.heap.size := by omega)
        go_wp2
        go_ret
        exact ⟨ret_i ((firstOf_take (l := drvErrs re le bl ma st lo) (k := 1) (fun j hj => HZ.out j (by omega)) (by simp [drvErrs]) (by simp [drvErrs, h0])).trans (by simp [drvErrs, h0])).symm, hB.trans (hb.mono hB.size)⟩
    · have ix := index2 re le bl ma st lo
      rcases rangeErr_cases bl 1 20 with ⟨h0, _, _⟩ | ⟨h0, _⟩
      · go_wp2
        refine Calm.tail_below 10 (by kernel_rfl) (by kernel_rfl) ?_
        simp only [List.take_succ_cons, List.take_zero, List.drop_succ_cons, List.drop_zero]
        repeat (first | (first | (apply Calm.op_move; (focus rfl); (focus (first | exact .inl rfl | exact .inr rfl)); (focus ((try simp only [Act.eval, Array.getD_eq_getD_getElem?, List.getElem?_toArray, List.getElem?_cons_succ, List.getElem?_cons_zero, Option.getD_some]); rfl)); (try simp only [Act.put, List.setIfInBounds_toArray, List.set_cons_zero, List.set_cons_succ])) | (apply Calm.op_not; (focus rfl); (try simp only [Act.put, List.setIfInBounds_toArray, List.set_cons_zero, List.set_cons_succ])) | (apply Calm.op; (focus rfl); (focus (intro W hb; obtain ⟨hc, hf⟩ := bcell hb; clear hb hf; go_simp; (try go_bits); (try rfl); done)); (try simp only [Act.put, List.setIfInBounds_toArray, List.set_cons_zero, List.set_cons_succ]))) | (apply Calm.op_call; (focus rfl); (focus (intro W hb; obtain ⟨hc, hf⟩ := bcell hb; clear hb hf; go_simp; refine ⟨?_, ?_⟩; rfl; rfl)); (focus (intro W hb; first | (go_at_call 80; exact Calm.call_same hb (within_any _ _ _ _)))); (try simp only [Act.put, List.setIfInBounds_toArray, List.set_cons_zero, List.set_cons_succ])))
        refine wpQuiet_nil ?_
        intro w1 hb
        obtain ⟨hbc, hbf⟩ := bcell hb
        have hbz := hb.size
        (try simp at hbz)
        (try have hbz0 : w.heap.size < w1.heap.size := by omega)
        (try have hbz1 : w.heap.size + 1 < w1.heap.size := by omega)
        (try have hbz2 : w.heap.size + 1 + 1 < w1.heap.size := by omega)
        (try have hbz3 : w.heap.size + 1 + 1 + 1 < w1.heap.size := by omega)
        (try have hbz4 : w.heap.size + 1 + 1 + 1 + 1 < w1.heap.size := by omega)
        (try have hbz5 : w.heap.size + 1 + 1 + 1 + 1 + 1 < w1.heap.size := by omega)
        go_wp2
        go_roundw
        case rel => exact ⟨3, by omega, by omega, rfl, fun j hj => by
          rcases Nat.lt_or_ge j 2 with h | h
          · exact HZ.out j (by omega)
          · obtain rfl : j = 2 := by omega
            exact h0, hB.trans (hb.mono hB.size)⟩
        case measure => simp [intOf]
      · go_wp2
        refine Calm.tail_below 10 (by kernel_rfl) (by kernel_rfl) ?_
        simp only [List.take_succ_cons, List.take_zero, List.drop_succ_cons, List.drop_zero]
        repeat (first | (first | (apply Calm.op_move; (focus rfl); (focus (first | exact .inl rfl | exact .inr rfl)); (focus ((try simp only [Act.eval, Array.getD_eq_getD_getElem?, List.getElem?_toArray, List.getElem?_cons_succ, List.getElem?_cons_zero, Option.getD_some]); rfl)); (try simp only [Act.put, List.setIfInBounds_toArray, List.set_cons_zero, List.set_cons_succ])) | (apply Calm.op_not; (focus rfl); (try simp only [Act.put, List.setIfInBounds_toArray, List.set_cons_zero, List.set_cons_succ])) | (apply Calm.op; (focus rfl); (focus (intro W hb; obtain ⟨hc, hf⟩ := bcell hb; clear hb hf; go_simp; (try go_bits); (try rfl); done)); (try simp only [Act.put, List.setIfInBounds_toArray, List.set_cons_zero, List.set_cons_succ]))) | (apply Calm.op_call; (focus rfl); (focus (intro W hb; obtain ⟨hc, hf⟩ := bcell hb; clear hb hf; go_simp; refine ⟨?_, ?_⟩; rfl; rfl)); (focus (intro W hb; first | (go_at_call 80; exact Calm.call_same hb (within_any _ _ _ _)))); (try simp only [Act.put, List.setIfInBounds_toArray, List.set_cons_zero, List.set_cons_succ])))
        refine wpQuiet_nil ?_
        intro w1 hb
        obtain ⟨hbc, hbf⟩ := bcell hb
        have hbz := hb.size
        (try simp at hbz)
        (try have hbz0 : w.heap.size < w1.heap.size := by omega)
        (try have hbz1 : w.heap.size + 1 < w1.heap.size := by omega)
        (try have hbz2 : w.heap.size + 1 + 1 < w1.heap.size := by omega)
        (try have hbz3 : w.heap.size + 1 + 1 + 1 < w1.heap.size := by omega)
        (try have hbz4 : w.heap.size + 1 + 1 + 1 + 1 < w1.heap.size := by omega)
        (try have hbz5 : w.heap.size + 1 + 1 + 1 + 1 + 1 < w1.heap.size := by omega)
        go_wp2
        go_ret
        exact ⟨ret_i ((firstOf_take (l := drvErrs re le bl ma st lo) (k := 2) (fun j hj => HZ.out j (by omega)) (by simp [drvErrs]) (by simp [drvErrs, h0])).trans (by simp [drvErrs, h0])).symm, hB.trans (hb.mono hB.size)⟩
    · have ix := index3 re le bl ma st lo
      rcases rangeErr_cases ma 1 100 with ⟨h0, _, _⟩ | ⟨h0, _⟩
      · go_wp2
        refine Calm.tail_below 10 (by kernel_rfl) (by kernel_rfl) ?_
        simp only [List.take_succ_cons, List.take_zero, List.drop_succ_cons, List.drop_zero]
        repeat (first | (first | (apply Calm.op_move; (focus rfl); (focus (first | exact .inl rfl | exact .inr rfl)); (focus ((try simp only [Act.eval, Array.getD_eq_getD_getElem?, List.getElem?_toArray, List.getElem?_cons_succ, List.getElem?_cons_zero, Option.getD_some]); rfl)); (try simp only [Act.put, List.setIfInBounds_toArray, List.set_cons_zero, List.set_cons_succ])) | (apply Calm.op_not; (focus rfl); (try simp only [Act.put, List.setIfInBounds_toArray, List.set_cons_zero, List.set_cons_succ])) | (apply Calm.op; (focus rfl); (focus (intro W hb; obtain ⟨hc, hf⟩ := bcell hb; clear hb hf; go_simp; (try go_bits); (try rfl); done)); (try simp only [Act.put, List.setIfInBounds_toArray, List.set_cons_zero, List.set_cons_succ]))) | (apply Calm.op_call; (focus rfl); (focus (intro W hb; obtain ⟨hc, hf⟩ := bcell hb; clear hb hf; go_simp; refine ⟨?_, ?_⟩; rfl; rfl)); (focus (intro W hb; first | (go_at_call 80; exact Calm.call_same hb (within_any _ _ _ _)))); (try simp only [Act.put, List.setIfInBounds_toArray, List.set_cons_zero, List.set_cons_succ])))
        refine wpQuiet_nil ?_
        intro w1 hb
        obtain ⟨hbc, hbf⟩ := bcell hb
        have hbz := hb.size
        (try simp at hbz)
        (try have hbz0 : w.heap.size < w1.heap.size := by omega)
        (try have hbz1 : w.heap.size + 1 < w1.heap.size := by omega)
        (try have hbz2 : w.heap.size + 1 + 1 < w1.heap.size := by omega)
        (try have hbz3 : w.heap.size + 1 + 1 + 1 < w1.heap.size := by omega)
        (try have hbz4 : w.heap.size + 1 + 1 + 1 + 1 < w1.heap.size := by omega)
        (try have hbz5 : w.heap.size + 1 + 1 + 1 + 1 + 1 < w1.heap.size := by omega)
        go_wp2
        go_roundw
        case rel => exact ⟨4, by omega, by omega, rfl, fun j hj => by
          rcases Nat.lt_or_ge j 3 with h | h
          · exact HZ.out j (by omega)
          · obtain rfl : j = 3 := by omega
            exact h0, hB.trans (hb.mono hB.size)⟩
        case measure => simp [intOf]
      · go_wp2
        refine Calm.tail_below 10 (by kernel_rfl) (by kernel_rfl) ?_
        simp only [List.take_succ_cons, List.take_zero, List.drop_succ_cons, List.drop_zero]
        repeat (first | (first | (apply Calm.op_move; (focus rfl); (focus (first | exact .inl rfl | exact .inr rfl)); (focus ((try simp only [Act.eval, Array.getD_eq_getD_getElem?, List.getElem?_toArray, List.getElem?_cons_succ, List.getElem?_cons_zero, Option.getD_some]); rfl)); (try simp only [Act.put, List.setIfInBounds_toArray, List.set_cons_zero, List.set_cons_succ])) | (apply Calm.op_not; (focus rfl); (try simp only [Act.put, List.setIfInBounds_toArray, List.set_cons_zero, List.set_cons_succ])) | (apply Calm.op; (focus rfl); (focus (intro W hb; obtain ⟨hc, hf⟩ := bcell hb; clear hb hf; go_simp; (try go_bits); (try rfl); done)); (try simp only [Act.put, List.setIfInBounds_toArray, List.set_cons_zero, List.set_cons_succ]))) | (apply Calm.op_call; (focus rfl); (focus (intro W hb; obtain ⟨hc, hf⟩ := bcell hb; clear hb hf; go_simp; refine ⟨?_, ?_⟩; rfl; rfl)); (focus (intro W hb; first | (go_at_call 80; exact Calm.call_same hb (within_any _ _ _ _)))); (try simp only [Act.put, List.setIfInBounds_toArray, List.set_cons_zero, List.set_cons_succ])))
        refine wpQuiet_nil ?_
        intro w1 hb
        obtain ⟨hbc, hbf⟩ := bcell hb
        have hbz := hb.size
        (try simp at hbz)
        (try have hbz0 : w.heap.size < w1.heap.size := by omega)
        (try have hbz1 : w.heap.size + 1 < w1.heap.size := by omega)
        (try have hbz2 : w.heap.size + 1 + 1 < w1.heap.size := by omega)
        (try have hbz3 : w.heap.size + 1 + 1 + 1 < w1.heap.size := by omega)
        (try have hbz4 : w.heap.size + 1 + 1 + 1 + 1 < w1.heap.size := by omega)
        (try have hbz5 : w.heap.size + 1 + 1 + 1 + 1 + 1 < w1.heap.size := by omega)
        go_wp2
        go_ret
        exact ⟨ret_i ((firstOf_take (l := drvErrs re le bl ma st lo) (k := 3) (fun j hj => HZ.out j (by omega)) (by simp [drvErrs]) (by simp [drvErrs, h0])).trans (by simp [drvErrs, h0])).symm, hB.trans (hb.mono hB.size)⟩
    · have ix := index4 re le bl ma st lo
      rcases rangeErr_cases st 1 5000 with ⟨h0, _, _⟩ | ⟨h0, _⟩
      · go_wp2
        refine Calm.tail_below 10 (by kernel_rfl) (by kernel_rfl) ?_
        simp only [List.take_succ_cons, List.take_zero, List.drop_succ_cons, List.drop_zero]
        repeat (first | (first | (apply Calm.op_move; (focus rfl); (focus (first | exact .inl rfl | exact .inr rfl)); (focus ((try simp only [Act.eval, Array.getD_eq_getD_getElem?, List.getElem?_toArray, List.getElem?_cons_succ, List.getElem?_cons_zero, Option.getD_some]); rfl)); (try simp only [Act.put, List.setIfInBounds_toArray, List.set_cons_zero, List.set_cons_succ])) | (apply Calm.op_not; (focus rfl); (try simp only [Act.put, List.setIfInBounds_toArray, List.set_cons_zero, List.set_cons_succ])) | (apply Calm.op; (focus rfl); (focus (intro W hb; obtain ⟨hc, hf⟩ := bcell hb; clear hb hf; go_simp; (try go_bits); (try rfl); done)); (try simp only [Act.put, List.setIfInBounds_toArray, List.set_cons_zero, List.set_cons_succ]))) | (apply Calm.op_call; (focus rfl); (focus (intro W hb; obtain ⟨hc, hf⟩ := bcell hb; clear hb hf; go_simp; refine ⟨?_, ?_⟩; rfl; rfl)); (focus (intro W hb; first | (go_at_call 80; exact Calm.call_same hb (within_any _ _ _ _)))); (try simp only [Act.put, List.setIfInBounds_toArray, List.set_cons_zero, List.set_cons_succ])))
        refine wpQuiet_nil ?_
        intro w1 hb
        obtain ⟨hbc, hbf⟩ := bcell hb
        have hbz := hb.size
        (try simp at hbz)
        (try have hbz0 : w.heap.size < w1.heap.size := by omega)
        (try have hbz1 : w.heap.size + 1 < w1.heap.size := by omega)
        (try have hbz2 : w.heap.size + 1 + 1 < w1.heap.size := by omega)
        (try have hbz3 : w.heap.size + 1 + 1 + 1 < w1.heap.size := by omega)
        (try have hbz4 : w.heap.size + 1 + 1 + 1 + 1 < w1.heap.size := by omega)
        (try have hbz5 : w.heap.size + 1 + 1 + 1 + 1 + 1 < w1.heap.size := by omega)
        go_wp2
        go_roundw
        case rel => exact ⟨5, by omega, by omega, rfl, fun j hj => by
          rcases Nat.lt_or_ge j 4 with h | h
          · exact HZ.out j (by omega)
          · obtain rfl : j = 4 := by omega
            exact h0, hB.trans (hb.mono hB.size)⟩
        case measure => simp [intOf]
      · go_wp2
        refine Calm.tail_below 10 (by kernel_rfl) (by kernel_rfl) ?_
        simp only [List.take_succ_cons, List.take_zero, List.drop_succ_cons, List.drop_zero]
        repeat (first | (first | (apply Calm.op_move; (focus rfl); (focus (first | exact .inl rfl | exact .inr rfl)); (focus ((try simp only [Act.eval, Array.getD_eq_getD_getElem?, List.getElem?_toArray, List.getElem?_cons_succ, List.getElem?_cons_zero, Option.getD_some]); rfl)); (try simp only [Act.put, List.setIfInBounds_toArray, List.set_cons_zero, List.set_cons_succ])) | (apply Calm.op_not; (focus rfl); (try simp only [Act.put, List.setIfInBounds_toArray, List.set_cons_zero, List.set_cons_succ])) | (apply Calm.op; (focus rfl); (focus (intro W hb; obtain ⟨hc, hf⟩ := bcell hb; clear hb hf; go_simp; (try go_bits); (try rfl); done)); (try simp only [Act.put, List.setIfInBounds_toArray, List.set_cons_zero, List.set_cons_succ]))) | (apply Calm.op_call; (focus rfl); (focus (intro W hb; obtain ⟨hc, hf⟩ := bcell hb; clear hb hf; go_simp; refine ⟨?_, ?_⟩; rfl; rfl)); (focus (intro W hb; first | (go_at_call 80; exact Calm.call_same hb (within_any _ _ _ _)))); (try simp only [Act.put, List.setIfInBounds_toArray, List.set_cons_zero, List.set_cons_succ])))
        refine wpQuiet_nil ?_
        intro w1 hb
        obtain ⟨hbc, hbf⟩ := bcell hb
        have hbz := hb.size
        (try simp at hbz)
        (try have hbz0 : w.heap.size < w1.heap.size := by omega)
        (try have hbz1 : w.heap.size + 1 < w1.heap.size := by omega)
        (try have hbz2 : w.heap.size + 1 + 1 < w1.heap.size := by omega)
        (try have hbz3 : w.heap.size + 1 + 1 + 1 < w1.heap.size := by omega)
        (try have hbz4 : w.heap.size + 1 + 1 + 1 + 1 < w1.heap.size := by omega)
        (try have hbz5 : w.heap.size + 1 + 1 + 1 + 1 + 1 < w1.heap.size := by omega)
        go_wp2
        go_ret
        exact ⟨ret_i ((firstOf_take (l := drvErrs re le bl ma st lo) (k := 4) (fun j hj => HZ.out j (by omega)) (by simp [drvErrs]) (by simp [drvErrs, h0])).trans (by simp [drvErrs, h0])).symm, hB.trans (hb.mono hB.size)⟩
    · have ix := index5 re le bl ma st lo
      rcases rangeErr_cases lo 1 100 with ⟨h0, _, _⟩ | ⟨h0, _⟩
      · go_wp2
        refine Calm.tail_below 10 (by kernel_rfl) (by kernel_rfl) ?_
        simp only [List.take_succ_cons, List.take_zero, List.drop_succ_cons, List.drop_zero]
        repeat (first | (first | (apply Calm.op_move; (focus rfl); (focus (first | exact .inl rfl | exact .inr rfl)); (focus ((try simp only [Act.eval, Array.getD_eq_getD_getElem?, List.getElem?_toArray, List.getElem?_cons_succ, List.getElem?_cons_zero, Option.getD_some]); rfl)); (try simp only [Act.put, List.setIfInBounds_toArray, List.set_cons_zero, List.set_cons_succ])) | (apply Calm.op_not; (focus rfl); (try simp only [Act.put, List.setIfInBounds_toArray, List.set_cons_zero, List.set_cons_succ])) | (apply Calm.op; (focus rfl); (focus (intro W hb; obtain ⟨hc, hf⟩ := bcell hb; clear hb hf; go_simp; (try go_bits); (try rfl); done)); (try simp only [Act.put, List.setIfInBounds_toArray, List.set_cons_zero, List.set_cons_succ]))) | (apply Calm.op_call; (focus rfl); (focus (intro W hb; obtain ⟨hc, hf⟩ := bcell hb; clear hb hf; go_simp; refine ⟨?_, ?_⟩; rfl; rfl)); (focus (intro W hb; first | (go_at_call 80; exact Calm.call_same hb (within_any _ _ _ _)))); (try simp only [Act.put, List.setIfInBounds_toArray, List.set_cons_zero, List.set_cons_succ])))
        refine wpQuiet_nil ?_
        intro w1 hb
        obtain ⟨hbc, hbf⟩ := bcell hb
        have hbz := hb.size
        (try simp at hbz)
        (try have hbz0 : w.heap.size < w1.heap.size := by omega)
        (try have hbz1 : w.heap.size + 1 < w1.heap.size := by omega)
        (try have hbz2 : w.heap.size + 1 + 1 < w1.heap.size := by omega)
        (try have hbz3 : w.heap.size + 1 + 1 + 1 < w1.heap.size := by omega)
        (try have hbz4 : w.heap.size + 1 + 1 + 1 + 1 < w1.heap.size := by omega)
        (try have hbz5 : w.heap.size + 1 + 1 + 1 + 1 + 1 < w1.heap.size := by omega)
        go_wp2
        go_roundw
        case rel => exact ⟨6, by omega, by omega, rfl, fun j hj => by
          rcases Nat.lt_or_ge j 5 with h | h
          · exact HZ.out j (by omega)
          · obtain rfl : j = 5 := by omega
            exact h0, hB.trans (hb.mono hB.size)⟩
        case measure => simp [intOf]
      · go_wp2
        refine Calm.tail_below 10 (by kernel_rfl) (by kernel_rfl) ?_
        simp only [List.take_succ_cons, List.take_zero, List.drop_succ_cons, List.drop_zero]
        repeat (first | (first | (apply Calm.op_move; (focus rfl); (focus (first | exact .inl rfl | exact .inr rfl)); (focus ((try simp only [Act.eval, Array.getD_eq_getD_getElem?, List.getElem?_toArray, List.getElem?_cons_succ, List.getElem?_cons_zero, Option.getD_some]); rfl)); (try simp only [Act.put, List.setIfInBounds_toArray, List.set_cons_zero, List.set_cons_succ])) | (apply Calm.op_not; (focus rfl); (try simp only [Act.put, List.setIfInBounds_toArray, List.set_cons_zero, List.set_cons_succ])) | (apply Calm.op; (focus rfl); (focus (intro W hb; obtain ⟨hc, hf⟩ := bcell hb; clear hb hf; go_simp; (try go_bits); (try rfl); done)); (try simp only [Act.put, List.setIfInBounds_toArray, List.set_cons_zero, List.set_cons_succ]))) | (apply Calm.op_call; (focus rfl); (focus (intro W hb; obtain ⟨hc, hf⟩ := bcell hb; clear hb hf; go_simp; refine ⟨?_, ?_⟩; rfl; rfl)); (focus (intro W hb; first | (go_at_call 80; exact Calm.call_same hb (within_any _ _ _ _)))); (try simp only [Act.put, List.setIfInBounds_toArray, List.set_cons_zero, List.set_cons_succ])))
        refine wpQuiet_nil ?_
        intro w1 hb
        obtain ⟨hbc, hbf⟩ := bcell hb
        have hbz := hb.size
        (try simp at hbz)
        (try have hbz0 : w.heap.size < w1.heap.size := by omega)
        (try have hbz1 : w.heap.size + 1 < w1.heap.size := by omega)
        (try have hbz2 : w.heap.size + 1 + 1 < w1.heap.size := by omega)
        (try have hbz3 : w.heap.size + 1 + 1 + 1 < w1.heap.size := by omega)
        (try have hbz4 : w.heap.size + 1 + 1 + 1 + 1 < w1.heap.size := by omega)
        (try have hbz5 : w.heap.size + 1 + 1 + 1 + 1 + 1 < w1.heap.size := by omega)
        go_wp2
        go_ret
        exact ⟨ret_i ((firstOf_take (l := drvErrs re le bl ma st lo) (k := 5) (fun j hj => HZ.out j (by omega)) (by simp [drvErrs]) (by simp [drvErrs, h0])).trans (by simp [drvErrs, h0])).symm, hB.trans (hb.mono hB.size)⟩
    · go_wp2
      go_ret
      exact ⟨ret_i (firstOf_zero (l := drvErrs re le bl ma st lo) (fun j hj => HZ.out j (by simp [drvErrs] at hj; omega))).symm, hB⟩
end Go.Proofs.YtpkldjlljoledaaDoor

/- A value of integers alone (structs and arrays of integers, nested): its cells are its integers, one behind another. And the row's last step under 'Below'. Of no program. -/
namespace Go.Flat
open Go.ChangeShapes Go.WideShapes Go.RowKit

def sideB : List (Nat × Nat) → Nat → Nat → Bool
  | [], off, tot => off == tot
  | (o, c) :: l, off, tot => o == off && sideB l (off + c) tot
/-- the type is made of integers alone, lying side by side. -/
def intsB (P : Program) : Nat → TypeId → Bool
  | 0, _ => false
  | n + 1, t => match P.underlying t with
    | some (.int .i64) => true
    | some (.struct fs) => sideB (fs.toList.map fun f => (f.offset, P.cellsOf f.type)) 0 (P.cellsOf t) && fs.toList.all fun f => intsB P n f.type
    | some (.array k e) => sideB ((List.range k).map fun i => (i * P.cellsOf e, P.cellsOf e)) 0 (P.cellsOf t) && intsB P n e
    | _ => false
/-- the integers of a datum. -/
def flat {H : Type} : Nat → DataW H → List Int
  | 0, _ => []
  | n + 1, .agg ds => ds.flatMap (flat n)
  | _ + 1, .lit (.int _ z) => [z]
  | _ + 1, _ => []

theorem side_cells {cs : List Value} : ∀ (l : List (Nat × Nat)) (zs : List (List Int)) (off : Nat), sideB l off cs.length = true → zs.length = l.length →
    (∀ (i o c : Nat), l[i]? = some (o, c) → ∃ z, zs[i]? = some z ∧ (cs.drop o).take c = z.map (Value.int .i64)) → cs.drop off = zs.flatten.map (Value.int .i64)
  | [], zs, off, hs, hl, _ => by
    obtain rfl : zs = [] := by simpa using hl
    have : off = cs.length := by simpa [sideB] using hs
    subst this
    simp
  | (o, c) :: l, zs, off, hs, hl, hf => by
    obtain ⟨z, zs', rfl⟩ : ∃ z zs', zs = z :: zs' := by
      cases zs with
      | nil => simp at hl
      | cons z zs' => exact ⟨z, zs', rfl⟩
    simp only [sideB, Bool.and_eq_true, beq_iff_eq] at hs
    obtain ⟨rfl, hs⟩ := hs
    obtain ⟨z', hz', h0⟩ := hf 0 o c rfl
    obtain rfl : z = z' := by simpa using hz'
    have ih := side_cells l zs' (o + c) hs (by simpa using hl) (fun i o' c' h => by simpa using hf (i + 1) o' c' (by simpa using h))
    calc cs.drop o = (cs.drop o).take c ++ (cs.drop o).drop c := (List.take_append_drop _ _).symm
      _ = _ := by rw [h0, List.drop_drop, ih]; simp

theorem cells_of_ints {H : Type} {enc : TypeId × Value → H} {P : Program} {w : World} {base : Nat} {sp : Nat → Bool} {held : Bool} :
    ∀ (m : Nat) {fuel : Nat} {t : TypeId} {cs : List Value} {x : DataW H × List MemPlace}, intsB P m t = true → DataW.trod enc P w base sp held fuel t cs = some x → cs = (flat m x.1).map (Value.int .i64) ∧ x.2 = []
  | 0, _, _, _, _, h, _ => by simp [intsB] at h
  | m + 1, fuel, t, cs, x, h, hx => by
    unfold intsB at h
    split at h
    · rename_i ht
      obtain ⟨z, rfl, rfl, _⟩ := DataW.trod_int ht hx
      exact ⟨rfl, rfl⟩
    · rename_i fs ht
      obtain ⟨xs, n, _, rfl, hl, hxl, hf⟩ := DataW.trod_struct ht hx
      simp only [Bool.and_eq_true, List.all_eq_true] at h
      obtain ⟨hs, hi⟩ := h
      have key : ∀ (i : Nat) (f : Field) (y : DataW H × List MemPlace), fs.toList[i]? = some f → xs[i]? = some y → (cs.drop f.offset).take (P.cellsOf f.type) = (flat m y.1).map (Value.int .i64) ∧ y.2 = [] := fun i f y hfi hy =>
        cells_of_ints m (hi f (List.mem_of_getElem? hfi)) ((hf i f (by simpa using hfi)).trans hy)
      have hlen : xs.length = fs.toList.length := by simpa using hxl
      refine ⟨?_, ?_⟩
      · have := side_cells (cs := cs) (fs.toList.map fun f => (f.offset, P.cellsOf f.type)) (xs.map fun y => flat m y.1) 0 (by rw [hl]; exact hs) (by simpa using hxl) (fun i o c hi' => by
          simp only [List.getElem?_map, Option.map_eq_some_iff] at hi'
          obtain ⟨f, hf1, hf2⟩ := hi'
          have hlt : i < xs.length := hlen ▸ (List.getElem?_eq_some_iff.1 hf1).1
          have hy : xs[i]? = some xs[i] := List.getElem?_eq_getElem hlt
          simp only [Prod.mk.injEq] at hf2
          obtain ⟨rfl, rfl⟩ := hf2
          exact ⟨_, by simp [hy], (key i f _ hf1 hy).1⟩)
        rw [List.drop_zero] at this
        refine this.trans ?_
        simp [flat, List.flatMap, List.map_map, Function.comp_def]
      · simp only [List.flatMap_eq_nil_iff]
        intro y hy
        obtain ⟨i, hi'⟩ := List.getElem?_of_mem hy
        have hlt : i < fs.toList.length := hlen ▸ (List.getElem?_eq_some_iff.1 hi').1
        exact (key i _ y (List.getElem?_eq_getElem hlt) hi').2
    · rename_i k e ht
      simp only [Bool.and_eq_true] at h
      obtain ⟨hs, hi⟩ := h
      cases fuel with
      | zero => simp [DataW.trod] at hx
      | succ fuel =>
        simp only [DataW.trod, ht] at hx
        split at hx
        · rename_i hl
          obtain ⟨xs, hm, rfl⟩ := Option.map_eq_some_iff.1 hx
          have hxl : xs.length = k := by simpa using Lib.mapM_length hm
          have key : ∀ (i : Nat) (y : DataW H × List MemPlace), xs[i]? = some y → (cs.drop (i * P.cellsOf e)).take (P.cellsOf e) = (flat m y.1).map (Value.int .i64) ∧ y.2 = [] := fun i y hy => by
            have hlt : i < k := hxl ▸ (List.getElem?_eq_some_iff.1 hy).1
            obtain ⟨b, hb, hf⟩ := Lib.mapM_at hm i i (by simp [hlt])
            obtain rfl := Option.some.inj (hy.symm.trans hb)
            exact cells_of_ints m hi hf
          refine ⟨?_, ?_⟩
          · have := side_cells (cs := cs) ((List.range k).map fun i => (i * P.cellsOf e, P.cellsOf e)) (xs.map fun y => flat m y.1) 0 (by rw [hl]; exact hs) (by simpa using hxl) (fun i o c hi' => by
              simp only [List.getElem?_map, Option.map_eq_some_iff] at hi'
              obtain ⟨j, hj1, hj2⟩ := hi'
              have hlt : i < k := by simpa using (List.getElem?_eq_some_iff.1 hj1).1
              obtain rfl : i = j := by simpa [hlt] using hj1
              have hy : xs[i]? = some (xs[i]'(by omega)) := List.getElem?_eq_getElem (by omega)
              simp only [Prod.mk.injEq] at hj2
              obtain ⟨rfl, rfl⟩ := hj2
              exact ⟨_, by simp [hy], (key i _ hy).1⟩)
            rw [List.drop_zero] at this
            refine this.trans ?_
            simp [flat, List.flatMap, List.map_map, Function.comp_def]
          · simp only [List.flatMap_eq_nil_iff]
            intro y hy
            obtain ⟨i, hi'⟩ := List.getElem?_of_mem hy
            exact (key i y hi').2
        · cases hx
    · cases h

/-- an argument that is a struct of integers alone. -/
theorem open_ints {H : Type} {enc : TypeId × Value → H} {P : Program} {w : World} {base : Nat} {sp : Nat → Bool} {held : Bool} (m : Nat) {r : Reach} {b0 : Nat} {t : TypeId} {fs : Array Field} {v : Value} {d : DataW H} {p : List MemPlace}
    (ht : P.underlying t = some (.struct fs)) (h : intsB P m t = true) (hv : Value.okWide P w r b0 t v) (hd : DataW.Trod enc P w base sp held t v d p) :
    ∃ zs : List Int, zs.length = P.cellsOf t ∧ v = .agg (zs.map (Value.int .i64)).toArray ∧ p = [] := by
  obtain ⟨cs, rfl, hsz⟩ := okWide_struct ht hv
  obtain ⟨fuel, hf⟩ := hd
  obtain ⟨h1, h2⟩ := cells_of_ints m h hf
  have hcs : cs.toList = (flat m d).map (Value.int .i64) := h1
  refine ⟨flat m d, ?_, ?_, h2⟩
  · have := congrArg List.length hcs
    simp at this
    omega
  · rw [← hcs]

section
variable {H : Type} {enc : TypeId × Value → H} {P : Program}
theorem post_of_below {f : Func} {s : ChangeSpec} {apart fresh handsOn again : Bool} {W W' : World} {args : Array Value} {v : Value} {ds gs : List (DataW H)} {before pa pv : List MemPlace}
    (hW : DataW.Whole enc P f.params.toList s.vars apart W args.toList ds gs before)
    (hres : ∀ (b : Nat) (sp : Nat → Bool) (hd : Bool), DataW.TrodAll enc P W' b sp hd f.resultTypes.toList (v.resultList f.resultTypes.size) (s.fn H (ds ++ gs)).results [])
    (hargs : ∀ sp : Nat → Bool, (∀ p ∈ before, sp p.block = true) → DataW.TrodAll enc P W' 0 sp true f.params.toList args.toList (s.fn H (ds ++ gs)).args pa)
    (hvars : ∀ sp : Nat → Bool, (∀ p ∈ before, sp p.block = true) → DataW.TrodVars enc P W' sp s.vars (s.fn H (ds ++ gs)).vars pv)
    (hps : before = pa ++ pv) (hb : Below W.heap.size W W')
    (hok : ∀ (j : Nat) (t : TypeId) (r : Value), f.resultTypes[j]? = some t → (v.resultList f.resultTypes.size)[j]? = some r → Value.okWide P W' .any 0 t r) :
    s.post enc P f apart fresh handsOn again W args v W' := by
  have hlt : ∀ p ∈ before, p.block < W.heap.size := fun p hp => hW.lt p hp
  have hold : ∀ p ∈ before, (fun b => decide (b < W.heap.size)) p.block = true := fun p hp => by simpa using hlt p hp
  refine ⟨ds, gs, before, [], pa, pv, hW, hres _ _ _, hargs _ hold, hvars _ hold, World.keptBut_mono (fun p hp => ⟨hp, ?_⟩) (hb.frame (· ∈ before)), fun _ => ?_⟩
  · rw [hps, List.mem_append] at hp
    exact Or.inr hp
  · obtain ⟨_, _, _, _, _, hz, hn⟩ := hW
    refine ⟨hok, _, _, ([] ++ pa) ++ pv, ⟨[] ++ pa, pv, trodAll_append (hargs _ (fun _ _ => rfl)) (hres _ _ _), hvars _ (fun _ _ => rfl), rfl, ?_, ?_⟩, ?_⟩
    · intro b off hp
      have hin : MemPlace.cell b off ∈ before := by rw [hps]; simpa using hp
      rw [hb.frozen (hlt _ hin)]
      exact hz b off hin
    · intro ha
      have := hn ha
      rw [hps] at this
      simpa using this
    · intro p hp _
      rw [hps]
      simpa using hp
end

/-- every argument reads behind the call as before it, if below the heap's old size nothing has turned. -/
theorem trodAll_below {H : Type} {enc : TypeId × Value → H} {P : Program} (hl : laidOutB P = true) {W W' : World} (hb : Below W.heap.size W W') {sp : Nat → Bool} :
    ∀ {ts : List TypeId} {vs : List Value} {ds : List (DataW H)} {ps : List MemPlace}, (∀ t ∈ ts, P.readableRec t = true ∧ t < P.types.size) → DataW.TrodAll enc P W 0 (fun _ => true) true ts vs ds ps → (∀ p ∈ ps, p.block < W.heap.size) → (∀ p ∈ ps, sp p.block = true) →
    DataW.TrodAll enc P W' 0 sp true ts vs ds ps
  | [], [], [], _, _, h, _, _ => h
  | t :: ts, v :: vs, d :: ds, _, ht, ⟨p, q, h, hr, rfl⟩, hlt, hs => by
    have h1 := ht t (by simp)
    exact ⟨p, q, WideElems.Trod_stays hl h1.1 h1.2 h (fun x hx => hb.same (hlt x (by simp [hx]))) (fun x hx => hs x (by simp [hx])), trodAll_below hl hb (fun t' h' => ht t' (by simp [h'])) hr (fun x hx => hlt x (by simp [hx])) (fun x hx => hs x (by simp [hx])), rfl⟩
end Go.Flat

/- What the rows' list gives: the table of the limits. A world for the witnesses. -/
namespace Go.Proofs.YtpkldjlljoledaaDoor
open Go.ChangeShapes Go.WideShapes Go.ChangeAt Go.RowKit
open Calm (bcell)

/-- the rows' list. -/
noncomputable def laidList : List (String × DataW Unit) := [("math/bits.deBruijn32tab", Rows.laid_math_bits_deBruijn32tab), ("math/bits.deBruijn64tab", Rows.laid_math_bits_deBruijn64tab), ("internal/strconv.uint64pow10", Rows.laid_internal_strconv_uint64pow10), ("woofer/driver.limits", Rows.laid_woofer_driver_limits)]
theorem own : ownKnob Tryd.prog.godebug = none := by kernel_rfl
theorem laidOut : laidOutB Tryd.prog = true := by kernel_rfl
theorem gLim : Tryd.prog.globalNamed "woofer/driver.limits" = some 0 := by kernel_rfl
theorem gLimInts : (Tryd.prog.globals[0]?).map (fun g => Flat.intsB Tryd.prog 3 g.type) = some true := by kernel_rfl

set_option maxRecDepth 100000 in
theorem lim_of_laid {W : World} (h : laidMetH Tryd.prog laidList W) : Lim W := by
  obtain ⟨ps, hl, _, _⟩ : laidMet Tryd.prog laidList W := h
  obtain ⟨_, _, _, _, _, _, _, _, _, _, hl, _⟩ := hl
  obtain ⟨_, _, _, _, _, _, _, _, _, _, hl, _⟩ := hl
  obtain ⟨_, _, _, _, _, _, _, _, _, _, hl, _⟩ := hl
  obtain ⟨g, t, cs, fuel, p, q, hg, ht, hv, hd, _, _⟩ := hl
  obtain rfl := Option.some.inj (gLim.symm.trans hg)
  have hi : Flat.intsB Tryd.prog 3 t = true := by
    have := gLimInts
    cases hgl : Tryd.prog.globals[0]? with
    | none => rw [hgl] at this; cases this
    | some gl =>
      rw [hgl] at this ht
      simp only [Option.map_some, Option.some.injEq] at this ht
      rwa [← ht]
  have hcs : cs.toList = [1, 50, 0, 10, 1, 20, 1, 100, 1, 5000, 1, 100].map (Value.int .i64) := (Flat.cells_of_ints 3 hi hd).1
  have hc : ∀ (i : Nat) (v : Value), cs[i]? = some v → W.cell? ⟨0, i, none⟩ = some v := fun i v hi => (World.var?_cell gLim hv i).trans hi
  have ha : cs = #[(.int .i64 (1)), (.int .i64 (50)), (.int .i64 (0)), (.int .i64 (10)), (.int .i64 (1)), (.int .i64 (20)), (.int .i64 (1)), (.int .i64 (100)), (.int .i64 (1)), (.int .i64 (5000)), (.int .i64 (1)), (.int .i64 (100))] := by
    apply Array.toList_inj.1
    exact hcs
  clear hcs hv
  subst ha
  have h0 := hc 0 _ rfl
  refine ⟨?_, h0, hc 1 _ rfl, hc 2 _ rfl, hc 3 _ rfl, hc 4 _ rfl, hc 5 _ rfl, hc 6 _ rfl, hc 7 _ rfl, hc 8 _ rfl, hc 9 _ rfl, hc 10 _ rfl, hc 11 _ rfl⟩
  rcases Nat.lt_or_ge 0 W.heap.size with h' | h'
  · exact h'
  · unfold World.cell? at h0
    rw [show W.heap[(⟨0, 0, none⟩ : Addr).block]? = none from Array.getElem?_eq_none h'] at h0
    cases h0

theorem laid_met (os : Os) (args : Array Value) : laidMetH Tryd.prog laidList ((World.doorLaid Tryd.prog 35 os).forCall (fun _ _ => 0) ⟨#[], args, []⟩).memory :=
  laidMet_of_run' 8 (by kernel_rfl) (by kernel_rfl)
theorem door_vars (os : Os) (args : Array Value) : ((World.doorLaid Tryd.prog 35 os).forCall (fun _ _ => 0) ⟨#[], args, []⟩).variablesB Tryd.prog = true := by kernel_rfl
theorem door_rest (os : Os) (args : Array Value) : (((World.doorLaid Tryd.prog 35 os).forCall (fun _ _ => 0) ⟨#[], args, []⟩).heap.toList.drop Tryd.prog.globals.size).take ((begin Tryd.prog (fun _ _ => 0) default).world.heap.size - Tryd.prog.globals.size) =
      (begin Tryd.prog (fun _ _ => 0) default).world.heap.toList.drop Tryd.prog.globals.size := by kernel_rfl
end Go.Proofs.YtpkldjlljoledaaDoor

/- Contracts of package driver's checks, continued, and its exported quotients. -/
namespace Go.Proofs.YtpkldjlljoledaaDoor
open Go.RowKit
open Calm (bcell)

theorem first2_any (a b : Int) (W : World) : Calls Tryd.prog 86 #[.slice (some ⟨W.heap.size, 0, none⟩) 2 2] (W.alloc (.cells #[(.int .i64 (a)), (.int .i64 (b))] 27)) fun r w' => r = .returned (.int .i64 (firstOf [a, b])) ∧ W.alloc (.cells #[(.int .i64 (a)), (.int .i64 (b))] 27) = w' :=
  first_any [a, b] W.heap.size 0 2 _ (by simp) fun k hk => by
    have : k = 0 ∨ k = 1 := by simp at hk; omega
    rcases this with rfl | rfl <;> simp
theorem first3_any (a b c : Int) (W : World) : Calls Tryd.prog 86 #[.slice (some ⟨W.heap.size, 0, none⟩) 3 3] (W.alloc (.cells #[(.int .i64 (a)), (.int .i64 (b)), (.int .i64 (c))] 27)) fun r w' => r = .returned (.int .i64 (firstOf [a, b, c])) ∧ W.alloc (.cells #[(.int .i64 (a)), (.int .i64 (b)), (.int .i64 (c))] 27) = w' :=
  first_any [a, b, c] W.heap.size 0 3 _ (by simp) fun k hk => by
    have : k = 0 ∨ k = 1 ∨ k = 2 := by simp at hk; omega
    rcases this with rfl | rfl | rfl <;> simp
theorem first4_any (a b c d : Int) (W : World) : Calls Tryd.prog 86 #[.slice (some ⟨W.heap.size, 0, none⟩) 4 4] (W.alloc (.cells #[(.int .i64 (a)), (.int .i64 (b)), (.int .i64 (c)), (.int .i64 (d))] 27)) fun r w' => r = .returned (.int .i64 (firstOf [a, b, c, d])) ∧ W.alloc (.cells #[(.int .i64 (a)), (.int .i64 (b)), (.int .i64 (c)), (.int .i64 (d))] 27) = w' :=
  first_any [a, b, c, d] W.heap.size 0 4 _ (by simp) fun k hk => by
    have : k = 0 ∨ k = 1 ∨ k = 2 ∨ k = 3 := by simp at hk; omega
    rcases this with rfl | rfl | rfl | rfl <;> simp

/-- the first error of a driver and a frequency. -/
def drvnErr (re le bl ma st lo w : Int) : Int := firstOf [drvErr re le bl ma st lo, rangeErr w 1 8]
theorem checkDriven_any (re le bl ma st lo w0 : Int) (w : World) (hL : Lim w) :
    Calls Tryd.prog 72 #[.agg #[(.int .i64 (re)), (.int .i64 (le)), (.int .i64 (bl)), (.int .i64 (ma)), (.int .i64 (st)), (.int .i64 (lo))], (.int .i64 (w0))] w fun r w' => r = .returned (.int .i64 (drvnErr re le bl ma st lo w0)) ∧ Below w.heap.size w w' := by
  go_enter Tryd.func72, Tryd.ntmps72
  go_wp2_with (first | (go_at_call 23; refine (checkDriver_any _ _ _ _ _ _ _ (hL.below (by repeat (first | (with_reducible exact Below.refl _ _) | ((with_reducible refine Below.setCell ?_ ?_ _); rotate_left 1; focus (first | (simp; done) | (simp; omega) | (simp at *; omega))) | ((with_reducible refine Below.alloc ?_ ?_ _); rotate_left 1; focus (first | (simp; done) | (simp; omega) | (simp at *; omega))) | (with_reducible refine Below.drew ?_) | ((with_reducible refine Calm.step (by assumption) ?_ ?_); rotate_left 1; focus (first | (simp; done) | (simp; omega) | (simp at *; omega))))))).mono ?_; rintro r w1 ⟨rfl, hb⟩; obtain ⟨hc, hf⟩ := bcell hb; have hz := hb.size; (try simp at hz); (try have hz0 : w.heap.size < w1.heap.size := by omega); (try have hz1 : w.heap.size + 1 < w1.heap.size := by omega); (try have hz2 : w.heap.size + 1 + 1 < w1.heap.size := by omega); (try have hz3 : w.heap.size + 1 + 1 + 1 < w1.heap.size := by omega); (try have hz4 : w.heap.size + 1 + 1 + 1 + 1 < w1.heap.size := by omega); (try have hz5 : w.heap.size + 1 + 1 + 1 + 1 + 1 < w1.heap.size := by omega); (try have hz6 : w.heap.size + 1 + 1 + 1 + 1 + 1 + 1 < w1.heap.size := by omega)) | (go_at_call 97; refine (checkW_any _ _).mono ?_; rintro r w1 ⟨rfl, rfl⟩) | (go_at_call 86; refine (first2_any _ _ _).mono ?_; rintro r w1 ⟨rfl, rfl⟩))
  go_ret
  refine ⟨rfl, ?_⟩
  repeat (first | (with_reducible exact Below.refl _ _) | ((with_reducible refine Below.setCell ?_ ?_ _); rotate_left 1; focus (first | (simp; done) | (simp; omega) | (simp at *; omega))) | ((with_reducible refine Below.alloc ?_ ?_ _); rotate_left 1; focus (first | (simp; done) | (simp; omega) | (simp at *; omega))) | (with_reducible refine Below.drew ?_) | ((with_reducible refine Calm.step (by assumption) ?_ ?_); rotate_left 1; focus (first | (simp; done) | (simp; omega) | (simp at *; omega))))

/-- the first error of a box. -/
def boxErr (air ma st lo : Int) : Int :=
  if rangeErr air 1 5000 = 0 then (if ma = 0 then (if st = 0 ∧ lo = 0 then 0 else 2) else firstOf [rangeErr ma 1 100, rangeErr st 0 5000, rangeErr lo 1 100]) else rangeErr air 1 5000
theorem checkBox_any (air ma st lo : Int) (w : World) :
    Calls Tryd.prog 34 #[.agg #[(.int .i64 (air)), (.int .i64 (ma)), (.int .i64 (st)), (.int .i64 (lo))]] w fun r w' => r = .returned (.int .i64 (boxErr air ma st lo)) ∧ Below w.heap.size w w' := by
  rcases rangeErr_cases air 1 5000 with ⟨h0, _, _⟩ | ⟨h0, _⟩
  · by_cases hm : ma = 0
    · subst hm
      by_cases hs : st = 0
      · subst hs
        by_cases hl : lo = 0
        · subst hl
          go_enter Tryd.func34, Tryd.ntmps34
          go_wp2_with (first | (go_at_call 80; refine (within_any _ _ _ _).mono ?_; rintro r w1 ⟨rfl, rfl⟩) | (go_at_call 87; refine (when_any _ _ _).mono ?_; rintro r w2 ⟨rfl, rfl⟩))
          go_ret
          refine ⟨ret_i (by simp [boxErr, h0]), ?_⟩
          repeat (first | (with_reducible exact Below.refl _ _) | ((with_reducible refine Below.setCell ?_ ?_ _); rotate_left 1; focus (first | (simp; done) | (simp; omega) | (simp at *; omega))) | ((with_reducible refine Below.alloc ?_ ?_ _); rotate_left 1; focus (first | (simp; done) | (simp; omega) | (simp at *; omega))) | (with_reducible refine Below.drew ?_) | ((with_reducible refine Calm.step (by assumption) ?_ ?_); rotate_left 1; focus (first | (simp; done) | (simp; omega) | (simp at *; omega))))
        · go_enter Tryd.func34, Tryd.ntmps34
          go_wp2_with (first | (go_at_call 80; refine (within_any _ _ _ _).mono ?_; rintro r w1 ⟨rfl, rfl⟩) | (go_at_call 87; refine (when_any _ _ _).mono ?_; rintro r w2 ⟨rfl, rfl⟩))
          go_ret
          refine ⟨ret_i (by simp [boxErr, h0, hl]), ?_⟩
          repeat (first | (with_reducible exact Below.refl _ _) | ((with_reducible refine Below.setCell ?_ ?_ _); rotate_left 1; focus (first | (simp; done) | (simp; omega) | (simp at *; omega))) | ((with_reducible refine Below.alloc ?_ ?_ _); rotate_left 1; focus (first | (simp; done) | (simp; omega) | (simp at *; omega))) | (with_reducible refine Below.drew ?_) | ((with_reducible refine Calm.step (by assumption) ?_ ?_); rotate_left 1; focus (first | (simp; done) | (simp; omega) | (simp at *; omega))))
      · go_enter Tryd.func34, Tryd.ntmps34
        go_wp2_with (first | (go_at_call 80; refine (within_any _ _ _ _).mono ?_; rintro r w1 ⟨rfl, rfl⟩) | (go_at_call 87; refine (when_any _ _ _).mono ?_; rintro r w2 ⟨rfl, rfl⟩))
        go_ret
        refine ⟨ret_i (by simp [boxErr, h0, hs]), ?_⟩
        repeat (first | (with_reducible exact Below.refl _ _) | ((with_reducible refine Below.setCell ?_ ?_ _); rotate_left 1; focus (first | (simp; done) | (simp; omega) | (simp at *; omega))) | ((with_reducible refine Below.alloc ?_ ?_ _); rotate_left 1; focus (first | (simp; done) | (simp; omega) | (simp at *; omega))) | (with_reducible refine Below.drew ?_) | ((with_reducible refine Calm.step (by assumption) ?_ ?_); rotate_left 1; focus (first | (simp; done) | (simp; omega) | (simp at *; omega))))
    · go_enter Tryd.func34, Tryd.ntmps34
      go_wp2_with (first | (go_at_call 80; refine (within_any _ _ _ _).mono ?_; rintro r w1 ⟨rfl, rfl⟩))
      refine Calm.tail_below 9 (by kernel_rfl) (by kernel_rfl) ?_
      simp only [List.take_succ_cons, List.take_zero, List.drop_succ_cons, List.drop_zero]
      repeat (first | (first | (apply Calm.op_move; (focus rfl); (focus (first | exact .inl rfl | exact .inr rfl)); (focus ((try simp only [Act.eval, Array.getD_eq_getD_getElem?, List.getElem?_toArray, List.getElem?_cons_succ, List.getElem?_cons_zero, Option.getD_some]); rfl)); (try simp only [Act.put, List.setIfInBounds_toArray, List.set_cons_zero, List.set_cons_succ])) | (apply Calm.op_not; (focus rfl); (try simp only [Act.put, List.setIfInBounds_toArray, List.set_cons_zero, List.set_cons_succ])) | (apply Calm.op; (focus rfl); (focus (intro W hb; obtain ⟨hc, hf⟩ := bcell hb; clear hb hf; go_simp; (try go_bits); (try rfl); done)); (try simp only [Act.put, List.setIfInBounds_toArray, List.set_cons_zero, List.set_cons_succ]))) | (apply Calm.op_call; (focus rfl); (focus (intro W hb; obtain ⟨hc, hf⟩ := bcell hb; clear hb hf; go_simp; refine ⟨?_, ?_⟩; rfl; rfl)); (focus (intro W hb; first | (go_at_call 80; exact Calm.call_same hb (within_any _ _ _ _)))); (try simp only [Act.put, List.setIfInBounds_toArray, List.set_cons_zero, List.set_cons_succ])))
      refine wpQuiet_nil ?_
      intro w1 hb
      obtain ⟨hbc, hbf⟩ := bcell hb
      have hbz := hb.size
      (try simp at hbz)
      (try have hbz0 : w.heap.size < w1.heap.size := by omega)
      (try have hbz1 : w.heap.size + 1 < w1.heap.size := by omega)
      (try have hbz2 : w.heap.size + 1 + 1 < w1.heap.size := by omega)
      (try have hbz3 : w.heap.size + 1 + 1 + 1 < w1.heap.size := by omega)
      (try have hbz4 : w.heap.size + 1 + 1 + 1 + 1 < w1.heap.size := by omega)
      (try have hbz5 : w.heap.size + 1 + 1 + 1 + 1 + 1 < w1.heap.size := by omega)
      go_wp2_with (go_at_call 86; refine (first3_any _ _ _ _).mono ?_; rintro r w2 ⟨rfl, rfl⟩)
      go_ret
      refine ⟨ret_i (by simp [boxErr, h0, hm]), ?_⟩
      repeat (first | (with_reducible exact Below.refl _ _) | ((with_reducible refine Below.setCell ?_ ?_ _); rotate_left 1; focus (first | (simp; done) | (simp; omega) | (simp at *; omega))) | ((with_reducible refine Below.alloc ?_ ?_ _); rotate_left 1; focus (first | (simp; done) | (simp; omega) | (simp at *; omega))) | (with_reducible refine Below.drew ?_) | ((with_reducible refine Calm.step (by assumption) ?_ ?_); rotate_left 1; focus (first | (simp; done) | (simp; omega) | (simp at *; omega))))
  · go_enter Tryd.func34, Tryd.ntmps34
    go_wp2_with (first | (go_at_call 80; refine (within_any _ _ _ _).mono ?_; rintro r w1 ⟨rfl, rfl⟩))
    go_ret
    refine ⟨ret_i (by simp [boxErr, h0]), ?_⟩
    repeat (first | (with_reducible exact Below.refl _ _) | ((with_reducible refine Below.setCell ?_ ?_ _); rotate_left 1; focus (first | (simp; done) | (simp; omega) | (simp at *; omega))) | ((with_reducible refine Below.alloc ?_ ?_ _); rotate_left 1; focus (first | (simp; done) | (simp; omega) | (simp at *; omega))) | (with_reducible refine Below.drew ?_) | ((with_reducible refine Calm.step (by assumption) ?_ ?_); rotate_left 1; focus (first | (simp; done) | (simp; omega) | (simp at *; omega))))
end Go.Proofs.YtpkldjlljoledaaDoor
