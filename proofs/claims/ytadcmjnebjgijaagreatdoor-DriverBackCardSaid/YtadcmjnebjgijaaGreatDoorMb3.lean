/- Part 3 of the texts of the claim: A4, A5. -/
import Derived.Test.YtadcmjnebjgijaaGreatDoorMb2

/- Contracts of package driver's checks. -/
namespace Go.Proofs.YtadcmjnebjgijaaGreatDoor
open Go.RowKit
open Calm (bcell)

/-- the table of the limits lies in memory as the program's text lays it. -/
structure Lim (w : World) : Prop where
  lt : 0 < w.heap.size
  c0 : w.cell? ⟨0, 0, none⟩ = some (.int .i64 (1))
  c1 : w.cell? ⟨0, 1, none⟩ = some (.int .i64 (50))
  c2 : w.cell? ⟨0, 2, none⟩ = some (.int .i64 (0))
  c3 : w.cell? ⟨0, 3, none⟩ = some (.int .i64 (10))
  c4 : w.cell? ⟨0, 4, none⟩ = some (.int .i64 (1))
  c5 : w.cell? ⟨0, 5, none⟩ = some (.int .i64 (20))
  c6 : w.cell? ⟨0, 6, none⟩ = some (.int .i64 (1))
  c7 : w.cell? ⟨0, 7, none⟩ = some (.int .i64 (100))
  c8 : w.cell? ⟨0, 8, none⟩ = some (.int .i64 (1))
  c9 : w.cell? ⟨0, 9, none⟩ = some (.int .i64 (5000))
  c10 : w.cell? ⟨0, 10, none⟩ = some (.int .i64 (1))
  c11 : w.cell? ⟨0, 11, none⟩ = some (.int .i64 (100))
theorem Lim.below {w w' : World} (h : Lim w) (hb : Below w.heap.size w w') : Lim w' := by
  have k : ∀ o, w'.cell? ⟨0, o, none⟩ = w.cell? ⟨0, o, none⟩ := fun o => hb.cell (p := ⟨0, o, none⟩) h.lt
  exact ⟨Nat.lt_of_lt_of_le h.lt hb.size, (k _).trans h.c0, (k _).trans h.c1, (k _).trans h.c2, (k _).trans h.c3, (k _).trans h.c4, (k _).trans h.c5, (k _).trans h.c6, (k _).trans h.c7, (k _).trans h.c8, (k _).trans h.c9, (k _).trans h.c10, (k _).trans h.c11⟩

def drvErrs (re le bl ma st lo : Int) : List Int := [rangeErr re 1 50, rangeErr le 0 10, rangeErr bl 1 20, rangeErr ma 1 100, rangeErr st 1 5000, rangeErr lo 1 100]
/-- the first error of a driver. -/
def drvErr (re le bl ma st lo : Int) : Int := firstOf (drvErrs re le bl ma st lo)

theorem index0 (re le bl ma st lo : Int) : ∀ w : World, (Instr.index 83 (.agg #[(.int .i64 (re)), (.int .i64 (le)), (.int .i64 (bl)), (.int .i64 (ma)), (.int .i64 (st)), (.int .i64 (lo))]) (.int .i64 0)).run Tryz.prog w = .ok (.int .i64 (re)) w := fun _ => by kernel_rfl
theorem index1 (re le bl ma st lo : Int) : ∀ w : World, (Instr.index 83 (.agg #[(.int .i64 (re)), (.int .i64 (le)), (.int .i64 (bl)), (.int .i64 (ma)), (.int .i64 (st)), (.int .i64 (lo))]) (.int .i64 1)).run Tryz.prog w = .ok (.int .i64 (le)) w := fun _ => by kernel_rfl
theorem index2 (re le bl ma st lo : Int) : ∀ w : World, (Instr.index 83 (.agg #[(.int .i64 (re)), (.int .i64 (le)), (.int .i64 (bl)), (.int .i64 (ma)), (.int .i64 (st)), (.int .i64 (lo))]) (.int .i64 2)).run Tryz.prog w = .ok (.int .i64 (bl)) w := fun _ => by kernel_rfl
theorem index3 (re le bl ma st lo : Int) : ∀ w : World, (Instr.index 83 (.agg #[(.int .i64 (re)), (.int .i64 (le)), (.int .i64 (bl)), (.int .i64 (ma)), (.int .i64 (st)), (.int .i64 (lo))]) (.int .i64 3)).run Tryz.prog w = .ok (.int .i64 (ma)) w := fun _ => by kernel_rfl
theorem index4 (re le bl ma st lo : Int) : ∀ w : World, (Instr.index 83 (.agg #[(.int .i64 (re)), (.int .i64 (le)), (.int .i64 (bl)), (.int .i64 (ma)), (.int .i64 (st)), (.int .i64 (lo))]) (.int .i64 4)).run Tryz.prog w = .ok (.int .i64 (st)) w := fun _ => by kernel_rfl
theorem index5 (re le bl ma st lo : Int) : ∀ w : World, (Instr.index 83 (.agg #[(.int .i64 (re)), (.int .i64 (le)), (.int .i64 (bl)), (.int .i64 (ma)), (.int .i64 (st)), (.int .i64 (lo))]) (.int .i64 5)).run Tryz.prog w = .ok (.int .i64 (lo)) w := fun _ => by kernel_rfl
set_option maxRecDepth 100000 in
set_option maxHeartbeats 2000000 in
theorem checkDriver_any (re le bl ma st lo : Int) (w : World) (hL : Lim w) :
    Calls Tryz.prog 31 #[.agg #[(.int .i64 (re)), (.int .i64 (le)), (.int .i64 (bl)), (.int .i64 (ma)), (.int .i64 (st)), (.int .i64 (lo))]] w fun r w' => r = .returned (.int .i64 (drvErr re le bl ma st lo)) ∧ Below w.heap.size w w' := by
  go_enter Tryz.func31, Tryz.ntmps31
  go_wp2_with (first | (go_at_call 32; refine (numbers_any _ _ _ _ _ _ _).mono ?_; rintro r w1 ⟨rfl, hb⟩; obtain ⟨hc, hf⟩ := bcell hb; have hz := hb.size; (try simp at hz); (try have hz0 : w.heap.size < w1.heap.size := by omega); (try have hz1 : w.heap.size + 1 < w1.heap.size := by omega); (try have hz2 : w.heap.size + 1 + 1 < w1.heap.size := by omega); (try have hz3 : w.heap.size + 1 + 1 + 1 < w1.heap.size := by omega); (try have hz4 : w.heap.size + 1 + 1 + 1 + 1 < w1.heap.size := by omega); (try have hz5 : w.heap.size + 1 + 1 + 1 + 1 + 1 < w1.heap.size := by omega); (try have hz6 : w.heap.size + 1 + 1 + 1 + 1 + 1 + 1 < w1.heap.size := by omega)))
  go_loopw [8] (fun i wr => ∃ k : Int, 0 ≤ k ∧ k ≤ 6 ∧ i = (.int .i64 (k)) ∧ (∀ j : Nat, (j : Int) < k → (drvErrs re le bl ma st lo).getD j 0 = 0) ∧ Below w.heap.size w wr) (fun i _ => 6 - (intOf i).toNat)
  case atStart => exact ⟨0, by omega, by omega, rfl, fun j hj => by omega, ((Below.refl _ _).alloc (Nat.le_refl _) _).trans (hb.mono (by simp))⟩
  case round =>
    clear hb hc hf hz
    obtain ⟨k, hk0, hk, rfl, hz, hB⟩ := hrel
    have HZ := Lib.hid hz
    clear hz
    obtain ⟨l0, c0, c1, c2, c3, c4, c5, c6, c7, c8, c9, c10, c11⟩ := hL.below hB
    have hkk : k = 0 ∨ k = 1 ∨ k = 2 ∨ k = 3 ∨ k = 4 ∨ k = 5 ∨ k = 6 := by omega
    rcases hkk with rfl | rfl | rfl | rfl | rfl | rfl | rfl
    · have ix := index0 re le bl ma st lo
      rcases rangeErr_cases re 1 50 with ⟨h0, _, _⟩ | ⟨h0, _⟩
      · go_wp2
        refine Calm.tail_below 10 (by kernel_rfl) (by kernel_rfl) ?_
        simp only [List.take_succ_cons, List.take_zero, List.drop_succ_cons, List.drop_zero]
        repeat (first | (first | (apply Calm.op_move; (focus rfl); (focus (first | exact .inl rfl | exact .inr rfl)); (focus ((try simp only [Act.eval, Array.getD_eq_getD_getElem?, List.getElem?_toArray, List.getElem?_cons_succ, List.getElem?_cons_zero, Option.getD_some]); rfl)); (try simp only [Act.put, List.setIfInBounds_toArray, List.set_cons_zero, List.set_cons_succ])) | (apply Calm.op_not; (focus rfl); (try simp only [Act.put, List.setIfInBounds_toArray, List.set_cons_zero, List.set_cons_succ])) | (apply Calm.op; (focus rfl); (focus (intro W hb; obtain ⟨hc, hf⟩ := bcell hb; clear hb hf; go_simp; (try go_bits); (try rfl); done)); (try simp only [Act.put, List.setIfInBounds_toArray, List.set_cons_zero, List.set_cons_succ]))) | (apply Calm.op_call; (focus rfl); (focus (intro W hb; obtain ⟨hc, hf⟩ := bcell hb; clear hb hf; go_simp; refine ⟨?_, ?_⟩; rfl; rfl)); (focus (intro W hb; first | (go_at_call 56; exact Calm.call_same hb (within_any _ _ _ _)))); (try simp only [Act.put, List.setIfInBounds_toArray, List.set_cons_zero, List.set_cons_succ])))
        refine wpQuiet_nil ?_
        intro w1 hb
        obtain ⟨hbc, hbf⟩ := bcell hb
        have hbz := hb.size
        (try simp at hbz)
        (try have hbz0 : w.heap.size < w1.heap.size := by omega)
        (try have hbz1 : w.heap.size + 1 < w1.heap.size := by omega)
        (try have hbz2 : w.heap.size + 1 + 1 < w1.heap.size := by omega)
        (try have hbz3 : w.heap.size + 1 + 1 + 1 < w1.heap.size := by omega)
        (try have hbz4 : w.heap.size + 1 + 1 + 1 + 1 < w1.heap.size := by omega)
        (try have hbz5 : w.heap.size + 1 + 1 + 1 + 1 + 1 < w1.heap.size := by omega)
        go_wp2
        go_roundw
        case rel => exact ⟨1, by omega, by omega, rfl, fun j hj => by
          rcases Nat.lt_or_ge j 0 with h | h
          · exact HZ.out j (by omega)
          · obtain rfl : j = 0 := by omega
            exact h0, hB.trans (hb.mono hB.size)⟩
        case measure => simp [intOf]
      · go_wp2
        refine Calm.tail_below 10 (by kernel_rfl) (by kernel_rfl) ?_
        simp only [List.take_succ_cons, List.take_zero, List.drop_succ_cons, List.drop_zero]
        repeat (first | (first | (apply Calm.op_move; (focus rfl); (focus (first | exact .inl rfl | exact .inr rfl)); (focus ((try simp only [Act.eval, Array.getD_eq_getD_getElem?, List.getElem?_toArray, List.getElem?_cons_succ, List.getElem?_cons_zero, Option.getD_some]); rfl)); (try simp only [Act.put, List.setIfInBounds_toArray, List.set_cons_zero, List.set_cons_succ])) | (apply Calm.op_not; (focus rfl); (try simp only [Act.put, List.setIfInBounds_toArray, List.set_cons_zero, List.set_cons_succ])) | (apply Calm.op; (focus rfl); (focus (intro W hb; obtain ⟨hc, hf⟩ := bcell hb; clear hb hf; go_simp; (try go_bits); (try rfl); done)); (try simp only [Act.put, List.setIfInBounds_toArray, List.set_cons_zero, List.set_cons_succ]))) | (apply Calm.op_call; (focus rfl); (focus (intro W hb; obtain ⟨hc, hf⟩ := bcell hb; clear hb hf; go_simp; refine ⟨?_, ?_⟩; rfl; rfl)); (focus (intro W hb; first | (go_at_call 56; exact Calm.call_same hb (within_any _ _ _ _)))); (try simp only [Act.put, List.setIfInBounds_toArray, List.set_cons_zero, List.set_cons_succ])))
        refine wpQuiet_nil ?_
        intro w1 hb
        obtain ⟨hbc, hbf⟩ := bcell hb
        have hbz := hb.size
        (try simp at hbz)
        (try have hbz0 : w.heap.size < w1.heap.size := by omega)
        (try have hbz1 : w.heap.size + 1 < w1.heap.size := by omega)
        (try have hbz2 : w.heap.size + 1 + 1 < w1.heap.size := by omega)
        (try have hbz3 : w.heap.size + 1 + 1 + 1 < w1.heap.size := by omega)
        (try have hbz4 : w.heap.size + 1 + 1 + 1 + 1 < w1.heap.size := by omega)
        (try have hbz5 : w.heap.size + 1 + 1 + 1 + 1 + 1 < w1.heap.size := by omega)
        go_wp2
        go_ret
        exact ⟨ret_i ((firstOf_take (l := drvErrs re le bl ma st lo) (k := 0) (fun j hj => HZ.out j (by omega)) (by simp [drvErrs]) (by simp [drvErrs, h0])).trans (by simp [drvErrs, h0])).symm, hB.trans (hb.mono hB.size)⟩
    · have ix := index1 re le bl ma st lo
      rcases rangeErr_cases le 0 10 with ⟨h0, _, _⟩ | ⟨h0, _⟩
      · go_wp2
        refine Calm.tail_below 10 (by kernel_rfl) (by kernel_rfl) ?_
        simp only [List.take_succ_cons, List.take_zero, List.drop_succ_cons, List.drop_zero]
        repeat (first | (first | (apply Calm.op_move; (focus rfl); (focus (first | exact .inl rfl | exact .inr rfl)); (focus ((try simp only [Act.eval, Array.getD_eq_getD_getElem?, List.getElem?_toArray, List.getElem?_cons_succ, List.getElem?_cons_zero, Option.getD_some]); rfl)); (try simp only [Act.put, List.setIfInBounds_toArray, List.set_cons_zero, List.set_cons_succ])) | (apply Calm.op_not; (focus rfl); (try simp only [Act.put, List.setIfInBounds_toArray, List.set_cons_zero, List.set_cons_succ])) | (apply Calm.op; (focus rfl); (focus (intro W hb; obtain ⟨hc, hf⟩ := bcell hb; clear hb hf; go_simp; (try go_bits); (try rfl); done)); (try simp only [Act.put, List.setIfInBounds_toArray, List.set_cons_zero, List.set_cons_succ]))) | (apply Calm.op_call; (focus rfl); (focus (intro W hb; obtain ⟨hc, hf⟩ := bcell hb; clear hb hf; go_simp; refine ⟨?_, ?_⟩; rfl; rfl)); (focus (intro W hb; first | (go_at_call 56; exact Calm.call_same hb (within_any _ _ _ _)))); (try simp only [Act.put, List.setIfInBounds_toArray, List.set_cons_zero, List.set_cons_succ])))
        refine wpQuiet_nil ?_
        intro w1 hb
        obtain ⟨hbc, hbf⟩ := bcell hb
        have hbz := hb.size
        (try simp at hbz)
        (try have hbz0 : w.heap.size < w1.heap.size := by omega)
        (try have hbz1 : w.heap.size + 1 < w1.heap.size := by omega)
        (try have hbz2 : w.heap.size + 1 + 1 < w1.heap.size := by omega)
        (try have hbz3 : w.heap.size + 1 + 1 + 1 < w1.heap.size := by omega)
        (try have hbz4 : w.heap.size + 1 + 1 + 1 + 1 < w1.heap.size := by omega)
        (try have hbz5 : w.heap.size + 1 + 1 + 1 + 1 + 1 < w1.heap.size := by omega)
        go_wp2
        go_roundw
        case rel => exact ⟨2, by omega, by omega, rfl, fun j hj => by
          rcases Nat.lt_or_ge j 1 with h | h
          · exact HZ.out j (by omega)
          · obtain rfl : j = 1 := by omega
            exact h0, hB.trans (hb.mono hB.size)⟩
        case measure => simp [intOf]
      · go_wp2
        refine Calm.tail_below 10 (by kernel_rfl) (by kernel_rfl) ?_
        simp only [List.take_succ_cons, List.take_zero, List.drop_succ_cons, List.drop_zero]
        repeat (first | (first | (apply Calm.op_move; (focus rfl); (focus (first | exact .inl rfl | exact .inr rfl)); (focus ((try simp only [Act.eval, Array.getD_eq_getD_getElem?, List.getElem?_toArray, List.getElem?_cons_succ, List.getElem?_cons_zero, Option.getD_some]); rfl)); (try simp only [Act.put, List.setIfInBounds_toArray, List.set_cons_zero, List.set_cons_succ])) | (apply Calm.op_not; (focus rfl); (try simp only [Act.put, List.setIfInBounds_toArray, List.set_cons_zero, List.set_cons_succ])) | (apply Calm.op; (focus rfl); (focus (intro W hb; obtain ⟨hc, hf⟩ := bcell hb; clear hb hf; go_simp; (try go_bits); (try rfl); done)); (try simp only [Act.put, List.setIfInBounds_toArray, List.set_cons_zero, List.set_cons_succ]))) | (apply Calm.op_call; (focus rfl); (focus (intro W hb; obtain ⟨hc, hf⟩ := bcell hb; clear hb hf; go_simp; refine ⟨?_, ?_⟩; rfl; rfl)); (focus (intro W hb; first | (go_at_call 56; exact Calm.call_same hb (within_any _ _ _ _)))); (try simp only [Act.put, List.setIfInBounds_toArray, List.set_cons_zero, List.set_cons_succ])))
        refine wpQuiet_nil ?_
        intro w1 hb
        obtain ⟨hbc, hbf⟩ := bcell hb
        have hbz := hb.size
        (try simp at hbz)
        (try have hbz0 : w.heap.size < w1.heap.size := by omega)
        (try have hbz1 : w.heap.size + 1 < w1.heap.size := by omega)
        (try have hbz2 : w.heap.size + 1 + 1 < w1.heap.size := by omega)
        (try have hbz3 : w.heap.size + 1 + 1 + 1 < w1.heap.size := by omega)
        (try have hbz4 : w.heap.size + 1 + 1 + 1 + 1 < w1.heap.size := by omega)
        (try have hbz5 : w.heap.size + 1 + 1 + 1 + 1 + 1 < w1.heap.size := by omega)
        go_wp2
        go_ret
        exact ⟨ret_i ((firstOf_take (l := drvErrs re le bl ma st lo) (k := 1) (fun j hj => HZ.out j (by omega)) (by simp [drvErrs]) (by simp [drvErrs, h0])).trans (by simp [drvErrs, h0])).symm, hB.trans (hb.mono hB.size)⟩
    · have ix := index2 re le bl ma st lo
      rcases rangeErr_cases bl 1 20 with ⟨h0, _, _⟩ | ⟨h0, _⟩
      · go_wp2
        refine Calm.tail_below 10 (by kernel_rfl) (by kernel_rfl) ?_
        simp only [List.take_succ_cons, List.take_zero, List.drop_succ_cons, List.drop_zero]
        repeat (first | (first | (apply Calm.op_move; (focus rfl); (focus (first | exact .inl rfl | exact .inr rfl)); (focus ((try simp only [Act.eval, Array.getD_eq_getD_getElem?, List.getElem?_toArray, List.getElem?_cons_succ, List.getElem?_cons_zero, Option.getD_some]); rfl)); (try simp only [Act.put, List.setIfInBounds_toArray, List.set_cons_zero, List.set_cons_succ])) | (apply Calm.op_not; (focus rfl); (try simp only [Act.put, List.setIfInBounds_toArray, List.set_cons_zero, List.set_cons_succ])) | (apply Calm.op; (focus rfl); (focus (intro W hb; obtain ⟨hc, hf⟩ := bcell hb; clear hb hf; go_simp; (try go_bits); (try rfl); done)); (try simp only [Act.put, List.setIfInBounds_toArray, List.set_cons_zero, List.set_cons_succ]))) | (apply Calm.op_call; (focus rfl); (focus (intro W hb; obtain ⟨hc, hf⟩ := bcell hb; clear hb hf; go_simp; refine ⟨?_, ?_⟩; rfl; rfl)); (focus (intro W hb; first | (go_at_call 56; exact Calm.call_same hb (within_any _ _ _ _)))); (try simp only [Act.put, List.setIfInBounds_toArray, List.set_cons_zero, List.set_cons_succ])))
        refine wpQuiet_nil ?_
        intro w1 hb
        obtain ⟨hbc, hbf⟩ := bcell hb
        have hbz := hb.size
        (try simp at hbz)
        (try have hbz0 : w.heap.size < w1.heap.size := by omega)
        (try have hbz1 : w.heap.size + 1 < w1.heap.size := by omega)
        (try have hbz2 : w.heap.size + 1 + 1 < w1.heap.size := by omega)
        (try have hbz3 : w.heap.size + 1 + 1 + 1 < w1.heap.size := by omega)
        (try have hbz4 : w.heap.size + 1 + 1 + 1 + 1 < w1.heap.size := by omega)
        (try have hbz5 : w.heap.size + 1 + 1 + 1 + 1 + 1 < w1.heap.size := by omega)
        go_wp2
        go_roundw
        case rel => exact ⟨3, by omega, by omega, rfl, fun j hj => by
          rcases Nat.lt_or_ge j 2 with h | h
          · exact HZ.out j (by omega)
          · obtain rfl : j = 2 := by omega
            exact h0, hB.trans (hb.mono hB.size)⟩
        case measure => simp [intOf]
      · go_wp2
        refine Calm.tail_below 10 (by kernel_rfl) (by kernel_rfl) ?_
        simp only [List.take_succ_cons, List.take_zero, List.drop_succ_cons, List.drop_zero]
        repeat (first | (first | (apply Calm.op_move; (focus rfl); (focus (first | exact .inl rfl | exact .inr rfl)); (focus ((try simp only [Act.eval, Array.getD_eq_getD_getElem?, List.getElem?_toArray, List.getElem?_cons_succ, List.getElem?_cons_zero, Option.getD_some]); rfl)); (try simp only [Act.put, List.setIfInBounds_toArray, List.set_cons_zero, List.set_cons_succ])) | (apply Calm.op_not; (focus rfl); (try simp only [Act.put, List.setIfInBounds_toArray, List.set_cons_zero, List.set_cons_succ])) | (apply Calm.op; (focus rfl); (focus (intro W hb; obtain ⟨hc, hf⟩ := bcell hb; clear hb hf; go_simp; (try go_bits); (try rfl); done)); (try simp only [Act.put, List.setIfInBounds_toArray, List.set_cons_zero, List.set_cons_succ]))) | (apply Calm.op_call; (focus rfl); (focus (intro W hb; obtain ⟨hc, hf⟩ := bcell hb; clear hb hf; go_simp; refine ⟨?_, ?_⟩; rfl; rfl)); (focus (intro W hb; first | (go_at_call 56; exact Calm.call_same hb (within_any _ _ _ _)))); (try simp only [Act.put, List.setIfInBounds_toArray, List.set_cons_zero, List.set_cons_succ])))
        refine wpQuiet_nil ?_
        intro w1 hb
        obtain ⟨hbc, hbf⟩ := bcell hb
        have hbz := hb.size
        (try simp at hbz)
        (try have hbz0 : w.heap.size < w1.heap.size := by omega)
        (try have hbz1 : w.heap.size + 1 < w1.heap.size := by omega)
        (try have hbz2 : w.heap.size + 1 + 1 < w1.heap.size := by omega)
        (try have hbz3 : w.heap.size + 1 + 1 + 1 < w1.heap.size := by omega)
        (try have hbz4 : w.heap.size + 1 + 1 + 1 + 1 < w1.heap.size := by omega)
        (try have hbz5 : w.heap.size + 1 + 1 + 1 + 1 + 1 < w1.heap.size := by omega)
        go_wp2
        go_ret
        exact ⟨ret_i ((firstOf_take (l := drvErrs re le bl ma st lo) (k := 2) (fun j hj => HZ.out j (by omega)) (by simp [drvErrs]) (by simp [drvErrs, h0])).trans (by simp [drvErrs, h0])).symm, hB.trans (hb.mono hB.size)⟩
    · have ix := index3 re le bl ma st lo
      rcases rangeErr_cases ma 1 100 with ⟨h0, _, _⟩ | ⟨h0, _⟩
      · go_wp2
        refine Calm.tail_below 10 (by kernel_rfl) (by kernel_rfl) ?_
        simp only [List.take_succ_cons, List.take_zero, List.drop_succ_cons, List.drop_zero]
        repeat (first | (first | (apply Calm.op_move; (focus rfl); (focus (first | exact .inl rfl | exact .inr rfl)); (focus ((try simp only [Act.eval, Array.getD_eq_getD_getElem?, List.getElem?_toArray, List.getElem?_cons_succ, List.getElem?_cons_zero, Option.getD_some]); rfl)); (try simp only [Act.put, List.setIfInBounds_toArray, List.set_cons_zero, List.set_cons_succ])) | (apply Calm.op_not; (focus rfl); (try simp only [Act.put, List.setIfInBounds_toArray, List.set_cons_zero, List.set_cons_succ])) | (apply Calm.op; (focus rfl); (focus (intro W hb; obtain ⟨hc, hf⟩ := bcell hb; clear hb hf; go_simp; (try go_bits); (try rfl); done)); (try simp only [Act.put, List.setIfInBounds_toArray, List.set_cons_zero, List.set_cons_succ]))) | (apply Calm.op_call; (focus rfl); (focus (intro W hb; obtain ⟨hc, hf⟩ := bcell hb; clear hb hf; go_simp; refine ⟨?_, ?_⟩; rfl; rfl)); (focus (intro W hb; first | (go_at_call 56; exact Calm.call_same hb (within_any _ _ _ _)))); (try simp only [Act.put, List.setIfInBounds_toArray, List.set_cons_zero, List.set_cons_succ])))
        refine wpQuiet_nil ?_
        intro w1 hb
        obtain ⟨hbc, hbf⟩ := bcell hb
        have hbz := hb.size
        (try simp at hbz)
        (try have hbz0 : w.heap.size < w1.heap.size := by omega)
        (try have hbz1 : w.heap.size + 1 < w1.heap.size := by omega)
        (try have hbz2 : w.heap.size + 1 + 1 < w1.heap.size := by omega)
        (try have hbz3 : w.heap.size + 1 + 1 + 1 < w1.heap.size := by omega)
        (try have hbz4 : w.heap.size + 1 + 1 + 1 + 1 < w1.heap.size := by omega)
        (try have hbz5 : w.heap.size + 1 + 1 + 1 + 1 + 1 < w1.heap.size := by omega)
        go_wp2
        go_roundw
        case rel => exact ⟨4, by omega, by omega, rfl, fun j hj => by
          rcases Nat.lt_or_ge j 3 with h | h
          · exact HZ.out j (by omega)
          · obtain rfl : j = 3 := by omega
            exact h0, hB.trans (hb.mono hB.size)⟩
        case measure => simp [intOf]
      · go_wp2
        refine Calm.tail_below 10 (by kernel_rfl) (by kernel_rfl) ?_
        simp only [List.take_succ_cons, List.take_zero, List.drop_succ_cons, List.drop_zero]
        repeat (first | (first | (apply Calm.op_move; (focus rfl); (focus (first | exact .inl rfl | exact .inr rfl)); (focus ((try simp only [Act.eval, Array.getD_eq_getD_getElem?, List.getElem?_toArray, List.getElem?_cons_succ, List.getElem?_cons_zero, Option.getD_some]); rfl)); (try simp only [Act.put, List.setIfInBounds_toArray, List.set_cons_zero, List.set_cons_succ])) | (apply Calm.op_not; (focus rfl); (try simp only [Act.put, List.setIfInBounds_toArray, List.set_cons_zero, List.set_cons_succ])) | (apply Calm.op; (focus rfl); (focus (intro W hb; obtain ⟨hc, hf⟩ := bcell hb; clear hb hf; go_simp; (try go_bits); (try rfl); done)); (try simp only [Act.put, List.setIfInBounds_toArray, List.set_cons_zero, List.set_cons_succ]))) | (apply Calm.op_call; (focus rfl); (focus (intro W hb; obtain ⟨hc, hf⟩ := bcell hb; clear hb hf; go_simp; refine ⟨?_, ?_⟩; rfl; rfl)); (focus (intro W hb; first | (go_at_call 56; exact Calm.call_same hb (within_any _ _ _ _)))); (try simp only [Act.put, List.setIfInBounds_toArray, List.set_cons_zero, List.set_cons_succ])))
        refine wpQuiet_nil ?_
        intro w1 hb
        obtain ⟨hbc, hbf⟩ := bcell hb
        have hbz := hb.size
        (try simp at hbz)
        (try have hbz0 : w.heap.size < w1.heap.size := by omega)
        (try have hbz1 : w.heap.size + 1 < w1.heap.size := by omega)
        (try have hbz2 : w.heap.size + 1 + 1 < w1.heap.size := by omega)
        (try have hbz3 : w.heap.size + 1 + 1 + 1 < w1.heap.size := by omega)
        (try have hbz4 : w.heap.size + 1 + 1 + 1 + 1 < w1.heap.size := by omega)
        (try have hbz5 : w.heap.size + 1 + 1 + 1 + 1 + 1 < w1.heap.size := by omega)
        go_wp2
        go_ret
        exact ⟨ret_i ((firstOf_take (l := drvErrs re le bl ma st lo) (k := 3) (fun j hj => HZ.out j (by omega)) (by simp [drvErrs]) (by simp [drvErrs, h0])).trans (by simp [drvErrs, h0])).symm, hB.trans (hb.mono hB.size)⟩
    · have ix := index4 re le bl ma st lo
      rcases rangeErr_cases st 1 5000 with ⟨h0, _, _⟩ | ⟨h0, _⟩
      · go_wp2
        refine Calm.tail_below 10 (by kernel_rfl) (by kernel_rfl) ?_
        simp only [List.take_succ_cons, List.take_zero, List.drop_succ_cons, List.drop_zero]
        repeat (first | (first | (apply Calm.op_move; (focus rfl); (focus (first | exact .inl rfl | exact .inr rfl)); (focus ((try simp only [Act.eval, Array.getD_eq_getD_getElem?, List.getElem?_toArray, List.getElem?_cons_succ, List.getElem?_cons_zero, Option.getD_some]); rfl)); (try simp only [Act.put, List.setIfInBounds_toArray, List.set_cons_zero, List.set_cons_succ])) | (apply Calm.op_not; (focus rfl); (try simp only [Act.put, List.setIfInBounds_toArray, List.set_cons_zero, List.set_cons_succ])) | (apply Calm.op; (focus rfl); (focus (intro W hb; obtain ⟨hc, hf⟩ := bcell hb; clear hb hf; go_simp; (try go_bits); (try rfl); done)); (try simp only [Act.put, List.setIfInBounds_toArray, List.set_cons_zero, List.set_cons_succ]))) | (apply Calm.op_call; (focus rfl); (focus (intro W hb; obtain ⟨hc, hf⟩ := bcell hb; clear hb hf; go_simp; refine ⟨?_, ?_⟩; rfl; rfl)); (focus (intro W hb; first | (go_at_call 56; exact Calm.call_same hb (within_any _ _ _ _)))); (try simp only [Act.put, List.setIfInBounds_toArray, List.set_cons_zero, List.set_cons_succ])))
        refine wpQuiet_nil ?_
        intro w1 hb
        obtain ⟨hbc, hbf⟩ := bcell hb
        have hbz := hb.size
        (try simp at hbz)
        (try have hbz0 : w.heap.size < w1.heap.size := by omega)
        (try have hbz1 : w.heap.size + 1 < w1.heap.size := by omega)
        (try have hbz2 : w.heap.size + 1 + 1 < w1.heap.size := by omega)
        (try have hbz3 : w.heap.size + 1 + 1 + 1 < w1.heap.size := by omega)
        (try have hbz4 : w.heap.size + 1 + 1 + 1 + 1 < w1.heap.size := by omega)
        (try have hbz5 : w.heap.size + 1 + 1 + 1 + 1 + 1 < w1.heap.size := by omega)
        go_wp2
        go_roundw
        case rel => exact ⟨5, by omega, by omega, rfl, fun j hj => by
          rcases Nat.lt_or_ge j 4 with h | h
          · exact HZ.out j (by omega)
          · obtain rfl : j = 4 := by omega
            exact h0, hB.trans (hb.mono hB.size)⟩
        case measure => simp [intOf]
      · go_wp2
        refine Calm.tail_below 10 (by kernel_rfl) (by kernel_rfl) ?_
        simp only [List.take_succ_cons, List.take_zero, List.drop_succ_cons, List.drop_zero]
        repeat (first | (first | (apply Calm.op_move; (focus rfl); (focus (first | exact .inl rfl | exact .inr rfl)); (focus ((try simp only [Act.eval, Array.getD_eq_getD_getElem?, List.getElem?_toArray, List.getElem?_cons_succ, List.getElem?_cons_zero, Option.getD_some]); rfl)); (try simp only [Act.put, List.setIfInBounds_toArray, List.set_cons_zero, List.set_cons_succ])) | (apply Calm.op_not; (focus rfl); (try simp only [Act.put, List.setIfInBounds_toArray, List.set_cons_zero, List.set_cons_succ])) | (apply Calm.op; (focus rfl); (focus (intro W hb; obtain ⟨hc, hf⟩ := bcell hb; clear hb hf; go_simp; (try go_bits); (try rfl); done)); (try simp only [Act.put, List.setIfInBounds_toArray, List.set_cons_zero, List.set_cons_succ]))) | (apply Calm.op_call; (focus rfl); (focus (intro W hb; obtain ⟨hc, hf⟩ := bcell hb; clear hb hf; go_simp; refine ⟨?_, ?_⟩; rfl; rfl)); (focus (intro W hb; first | (go_at_call 56; exact Calm.call_same hb (within_any _ _ _ _)))); (try simp only [Act.put, List.setIfInBounds_toArray, List.set_cons_zero, List.set_cons_succ])))
        refine wpQuiet_nil ?_
        intro w1 hb
        obtain ⟨hbc, hbf⟩ := bcell hb
        have hbz := hb.size
        (try simp at hbz)
        (try have hbz0 : w.heap.size < w1.heap.size := by omega)
        (try have hbz1 : w.heap.size + 1 < w1.heap.size := by omega)
        (try have hbz2 : w.heap.size + 1 + 1 < w1.heap.size := by omega)
        (try have hbz3 : w.heap.size + 1 + 1 + 1 < w1.heap.size := by omega)
        (try have hbz4 : w.heap.size + 1 + 1 + 1 + 1 < w1.heap.size := by omega)
        (try have hbz5 : w.heap.size + 1 + 1 + 1 + 1 + 1 < w1.heap.size := by omega)
        go_wp2
        go_ret
        exact ⟨ret_i ((firstOf_take (l := drvErrs re le bl ma st lo) (k := 4) (fun j hj => HZ.out j (by omega)) (by simp [drvErrs]) (by simp [drvErrs, h0])).trans (by simp [drvErrs, h0])).symm, hB.trans (hb.mono hB.size)⟩
    · have ix := index5 re le bl ma st lo
      rcases rangeErr_cases lo 1 100 with ⟨h0, _, _⟩ | ⟨h0, _⟩
      · go_wp2
        refine Calm.tail_below 10 (by kernel_rfl) (by kernel_rfl) ?_
        simp only [List.take_succ_cons, List.take_zero, List.drop_succ_cons, List.drop_zero]
        repeat (first | (first | (apply Calm.op_move; (focus rfl); (focus (first | exact .inl rfl | exact .inr rfl)); (focus ((try simp only [Act.eval, Array.getD_eq_getD_getElem?, List.getElem?_toArray, List.getElem?_cons_succ, List.getElem?_cons_zero, Option.getD_some]); rfl)); (try simp only [Act.put, List.setIfInBounds_toArray, List.set_cons_zero, List.set_cons_succ])) | (apply Calm.op_not; (focus rfl); (try simp only [Act.put, List.setIfInBounds_toArray, List.set_cons_zero, List.set_cons_succ])) | (apply Calm.op; (focus rfl); (focus (intro W hb; obtain ⟨hc, hf⟩ := bcell hb; clear hb hf; go_simp; (try go_bits); (try rfl); done)); (try simp only [Act.put, List.setIfInBounds_toArray, List.set_cons_zero, List.set_cons_succ]))) | (apply Calm.op_call; (focus rfl); (focus (intro W hb; obtain ⟨hc, hf⟩ := bcell hb; clear hb hf; go_simp; refine ⟨?_, ?_⟩; rfl; rfl)); (focus (intro W hb; first | (go_at_call 56; exact Calm.call_same hb (within_any _ _ _ _)))); (try simp only [Act.put, List.setIfInBounds_toArray, List.set_cons_zero, List.set_cons_succ])))
        refine wpQuiet_nil ?_
        intro w1 hb
        obtain ⟨hbc, hbf⟩ := bcell hb
        have hbz := hb.size
        (try simp at hbz)
        (try have hbz0 : w.heap.size < w1.heap.size := by omega)
        (try have hbz1 : w.heap.size + 1 < w1.heap.size := by omega)
        (try have hbz2 : w.heap.size + 1 + 1 < w1.heap.size := by omega)
        (try have hbz3 : w.heap.size + 1 + 1 + 1 < w1.heap.size := by omega)
        (try have hbz4 : w.heap.size + 1 + 1 + 1 + 1 < w1.heap.size := by omega)
        (try have hbz5 : w.heap.size + 1 + 1 + 1 + 1 + 1 < w1.heap.size := by omega)
        go_wp2
        go_roundw
        case rel => exact ⟨6, by omega, by omega, rfl, fun j hj => by
          rcases Nat.lt_or_ge j 5 with h | h
          · exact HZ.out j (by omega)
          · obtain rfl : j = 5 := by omega
            exact h0, hB.trans (hb.mono hB.size)⟩
        case measure => simp [intOf]
      · go_wp2
        refine Calm.tail_below 10 (by kernel_rfl) (by kernel_rfl) ?_
        simp only [List.take_succ_cons, List.take_zero, List.drop_succ_cons, List.drop_zero]
        repeat (first | (first | (apply Calm.op_move; (focus rfl); (focus (first | exact .inl rfl | exact .inr rfl)); (focus ((try simp only [Act.eval, Array.getD_eq_getD_getElem?, List.getElem?_toArray, List.getElem?_cons_succ, List.getElem?_cons_zero, Option.getD_some]); rfl)); (try simp only [Act.put, List.setIfInBounds_toArray, List.set_cons_zero, List.set_cons_succ])) | (apply Calm.op_not; (focus rfl); (try simp only [Act.put, List.setIfInBounds_toArray, List.set_cons_zero, List.set_cons_succ])) | (apply Calm.op; (focus rfl); (focus (intro W hb; obtain ⟨hc, hf⟩ := bcell hb; clear hb hf; go_simp; (try go_bits); (try rfl); done)); (try simp only [Act.put, List.setIfInBounds_toArray, List.set_cons_zero, List.set_cons_succ]))) | (apply Calm.op_call; (focus rfl); (focus (intro W hb; obtain ⟨hc, hf⟩ := bcell hb; clear hb hf; go_simp; refine ⟨?_, ?_⟩; rfl; rfl)); (focus (intro W hb; first | (go_at_call 56; exact Calm.call_same hb (within_any _ _ _ _)))); (try simp only [Act.put, List.setIfInBounds_toArray, List.set_cons_zero, List.set_cons_succ])))
        refine wpQuiet_nil ?_
        intro w1 hb
        obtain ⟨hbc, hbf⟩ := bcell hb
        have hbz := hb.size
        (try simp at hbz)
        (try have hbz0 : w.heap.size < w1.heap.size := by omega)
        (try have hbz1 : w.heap.size + 1 < w1.heap.size := by omega)
        (try have hbz2 : w.heap.size + 1 + 1 < w1.heap.size := by omega)
        (try have hbz3 : w.heap.size + 1 + 1 + 1 < w1.heap.size := by omega)
        (try have hbz4 : w.heap.size + 1 + 1 + 1 + 1 < w1.heap.size := by omega)
        (try have hbz5 : w.heap.size + 1 + 1 + 1 + 1 + 1 < w1.heap.size := by omega)
        go_wp2
        go_ret
        exact ⟨ret_i ((firstOf_take (l := drvErrs re le bl ma st lo) (k := 5) (fun j hj => HZ.out j (by omega)) (by simp [drvErrs]) (by simp [drvErrs, h0])).trans (by simp [drvErrs, h0])).symm, hB.trans (hb.mono hB.size)⟩
    · go_wp2
      go_ret
      exact ⟨ret_i (firstOf_zero (l := drvErrs re le bl ma st lo) (fun j hj => HZ.out j (by simp [drvErrs] at hj; omega))).symm, hB⟩
end Go.Proofs.YtadcmjnebjgijaaGreatDoor

/- Contracts of package driver's checks, continued, and its exported quotients. -/
namespace Go.Proofs.YtadcmjnebjgijaaGreatDoor
open Go.RowKit
open Calm (bcell)

theorem first2_any (a b : Int) (W : World) : Calls Tryz.prog 53 #[.slice (some ⟨W.heap.size, 0, none⟩) 2 2] (W.alloc (.cells #[(.int .i64 (a)), (.int .i64 (b))] 25)) fun r w' => r = .returned (.int .i64 (firstOf [a, b])) ∧ W.alloc (.cells #[(.int .i64 (a)), (.int .i64 (b))] 25) = w' :=
  first_any [a, b] W.heap.size 0 2 _ (by simp) fun k hk => by
    have : k = 0 ∨ k = 1 := by simp at hk; omega
    rcases this with rfl | rfl <;> simp
theorem first3_any (a b c : Int) (W : World) : Calls Tryz.prog 53 #[.slice (some ⟨W.heap.size, 0, none⟩) 3 3] (W.alloc (.cells #[(.int .i64 (a)), (.int .i64 (b)), (.int .i64 (c))] 25)) fun r w' => r = .returned (.int .i64 (firstOf [a, b, c])) ∧ W.alloc (.cells #[(.int .i64 (a)), (.int .i64 (b)), (.int .i64 (c))] 25) = w' :=
  first_any [a, b, c] W.heap.size 0 3 _ (by simp) fun k hk => by
    have : k = 0 ∨ k = 1 ∨ k = 2 := by simp at hk; omega
    rcases this with rfl | rfl | rfl <;> simp
theorem first4_any (a b c d : Int) (W : World) : Calls Tryz.prog 53 #[.slice (some ⟨W.heap.size, 0, none⟩) 4 4] (W.alloc (.cells #[(.int .i64 (a)), (.int .i64 (b)), (.int .i64 (c)), (.int .i64 (d))] 25)) fun r w' => r = .returned (.int .i64 (firstOf [a, b, c, d])) ∧ W.alloc (.cells #[(.int .i64 (a)), (.int .i64 (b)), (.int .i64 (c)), (.int .i64 (d))] 25) = w' :=
  first_any [a, b, c, d] W.heap.size 0 4 _ (by simp) fun k hk => by
    have : k = 0 ∨ k = 1 ∨ k = 2 ∨ k = 3 := by simp at hk; omega
    rcases this with rfl | rfl | rfl | rfl <;> simp

/-- the first error of a driver and a frequency. -/
def drvnErr (re le bl ma st lo w : Int) : Int := firstOf [drvErr re le bl ma st lo, rangeErr w 1 8]
theorem checkDriven_any (re le bl ma st lo w0 : Int) (w : World) (hL : Lim w) :
    Calls Tryz.prog 41 #[.agg #[(.int .i64 (re)), (.int .i64 (le)), (.int .i64 (bl)), (.int .i64 (ma)), (.int .i64 (st)), (.int .i64 (lo))], (.int .i64 (w0))] w fun r w' => r = .returned (.int .i64 (drvnErr re le bl ma st lo w0)) ∧ Below w.heap.size w w' := by
  go_enter Tryz.func41, Tryz.ntmps41
  go_wp2_with (first | (go_at_call 31; refine (checkDriver_any _ _ _ _ _ _ _ (hL.below (by repeat (first | (with_reducible exact Below.refl _ _) | ((with_reducible refine Below.setCell ?_ ?_ _); rotate_left 1; focus (first | (simp; done) | (simp; omega) | (simp at *; omega))) | ((with_reducible refine Below.alloc ?_ ?_ _); rotate_left 1; focus (first | (simp; done) | (simp; omega) | (simp at *; omega))) | (with_reducible refine Below.drew ?_) | ((with_reducible refine Calm.step (by assumption) ?_ ?_); rotate_left 1; focus (first | (simp; done) | (simp; omega) | (simp at *; omega))))))).mono ?_; rintro r w1 ⟨rfl, hb⟩; obtain ⟨hc, hf⟩ := bcell hb; have hz := hb.size; (try simp at hz); (try have hz0 : w.heap.size < w1.heap.size := by omega); (try have hz1 : w.heap.size + 1 < w1.heap.size := by omega); (try have hz2 : w.heap.size + 1 + 1 < w1.heap.size := by omega); (try have hz3 : w.heap.size + 1 + 1 + 1 < w1.heap.size := by omega); (try have hz4 : w.heap.size + 1 + 1 + 1 + 1 < w1.heap.size := by omega); (try have hz5 : w.heap.size + 1 + 1 + 1 + 1 + 1 < w1.heap.size := by omega); (try have hz6 : w.heap.size + 1 + 1 + 1 + 1 + 1 + 1 < w1.heap.size := by omega)) | (go_at_call 60; refine (checkW_any _ _).mono ?_; rintro r w1 ⟨rfl, rfl⟩) | (go_at_call 53; refine (first2_any _ _ _).mono ?_; rintro r w1 ⟨rfl, rfl⟩))
  go_ret
  refine ⟨rfl, ?_⟩
  repeat (first | (with_reducible exact Below.refl _ _) | ((with_reducible refine Below.setCell ?_ ?_ _); rotate_left 1; focus (first | (simp; done) | (simp; omega) | (simp at *; omega))) | ((with_reducible refine Below.alloc ?_ ?_ _); rotate_left 1; focus (first | (simp; done) | (simp; omega) | (simp at *; omega))) | (with_reducible refine Below.drew ?_) | ((with_reducible refine Calm.step (by assumption) ?_ ?_); rotate_left 1; focus (first | (simp; done) | (simp; omega) | (simp at *; omega))))

/-- the first error of a box. -/
def boxErr (air ma st lo : Int) : Int :=
  if rangeErr air 1 5000 = 0 then (if ma = 0 then (if st = 0 ∧ lo = 0 then 0 else 2) else firstOf [rangeErr ma 1 100, rangeErr st 0 5000, rangeErr lo 1 100]) else rangeErr air 1 5000
theorem checkBox_any (air ma st lo : Int) (w : World) :
    Calls Tryz.prog 54 #[.agg #[(.int .i64 (air)), (.int .i64 (ma)), (.int .i64 (st)), (.int .i64 (lo))]] w fun r w' => r = .returned (.int .i64 (boxErr air ma st lo)) ∧ Below w.heap.size w w' := by
  rcases rangeErr_cases air 1 5000 with ⟨h0, _, _⟩ | ⟨h0, _⟩
  · by_cases hm : ma = 0
    · subst hm
      by_cases hs : st = 0
      · subst hs
        by_cases hl : lo = 0
        · subst hl
          go_enter Tryz.func54, Tryz.ntmps54
          go_wp2_with (first | (go_at_call 56; refine (within_any _ _ _ _).mono ?_; rintro r w1 ⟨rfl, rfl⟩) | (go_at_call 55; refine (when_any _ _ _).mono ?_; rintro r w2 ⟨rfl, rfl⟩))
          go_ret
          refine ⟨ret_i (by simp [boxErr, h0]), ?_⟩
          repeat (first | (with_reducible exact Below.refl _ _) | ((with_reducible refine Below.setCell ?_ ?_ _); rotate_left 1; focus (first | (simp; done) | (simp; omega) | (simp at *; omega))) | ((with_reducible refine Below.alloc ?_ ?_ _); rotate_left 1; focus (first | (simp; done) | (simp; omega) | (simp at *; omega))) | (with_reducible refine Below.drew ?_) | ((with_reducible refine Calm.step (by assumption) ?_ ?_); rotate_left 1; focus (first | (simp; done) | (simp; omega) | (simp at *; omega))))
        · go_enter Tryz.func54, Tryz.ntmps54
          go_wp2_with (first | (go_at_call 56; refine (within_any _ _ _ _).mono ?_; rintro r w1 ⟨rfl, rfl⟩) | (go_at_call 55; refine (when_any _ _ _).mono ?_; rintro r w2 ⟨rfl, rfl⟩))
          go_ret
          refine ⟨ret_i (by simp [boxErr, h0, hl]), ?_⟩
          repeat (first | (with_reducible exact Below.refl _ _) | ((with_reducible refine Below.setCell ?_ ?_ _); rotate_left 1; focus (first | (simp; done) | (simp; omega) | (simp at *; omega))) | ((with_reducible refine Below.alloc ?_ ?_ _); rotate_left 1; focus (first | (simp; done) | (simp; omega) | (simp at *; omega))) | (with_reducible refine Below.drew ?_) | ((with_reducible refine Calm.step (by assumption) ?_ ?_); rotate_left 1; focus (first | (simp; done) | (simp; omega) | (simp at *; omega))))
      · go_enter Tryz.func54, Tryz.ntmps54
        go_wp2_with (first | (go_at_call 56; refine (within_any _ _ _ _).mono ?_; rintro r w1 ⟨rfl, rfl⟩) | (go_at_call 55; refine (when_any _ _ _).mono ?_; rintro r w2 ⟨rfl, rfl⟩))
        go_ret
        refine ⟨ret_i (by simp [boxErr, h0, hs]), ?_⟩
        repeat (first | (with_reducible exact Below.refl _ _) | ((with_reducible refine Below.setCell ?_ ?_ _); rotate_left 1; focus (first | (simp; done) | (simp; omega) | (simp at *; omega))) | ((with_reducible refine Below.alloc ?_ ?_ _); rotate_left 1; focus (first | (simp; done) | (simp; omega) | (simp at *; omega))) | (with_reducible refine Below.drew ?_) | ((with_reducible refine Calm.step (by assumption) ?_ ?_); rotate_left 1; focus (first | (simp; done) | (simp; omega) | (simp at *; omega))))
    · go_enter Tryz.func54, Tryz.ntmps54
      go_wp2_with (first | (go_at_call 56; refine (within_any _ _ _ _).mono ?_; rintro r w1 ⟨rfl, rfl⟩))
      refine Calm.tail_below 9 (by kernel_rfl) (by kernel_rfl) ?_
      simp only [List.take_succ_cons, List.take_zero, List.drop_succ_cons, List.drop_zero]
      repeat (first | (first | (apply Calm.op_move; (focus rfl); (focus (first | exact .inl rfl | exact .inr rfl)); (focus ((try simp only [Act.eval, Array.getD_eq_getD_getElem?, List.getElem?_toArray, List.getElem?_cons_succ, List.getElem?_cons_zero, Option.getD_some]); rfl)); (try simp only [Act.put, List.setIfInBounds_toArray, List.set_cons_zero, List.set_cons_succ])) | (apply Calm.op_not; (focus rfl); (try simp only [Act.put, List.setIfInBounds_toArray, List.set_cons_zero, List.set_cons_succ])) | (apply Calm.op; (focus rfl); (focus (intro W hb; obtain ⟨hc, hf⟩ := bcell hb; clear hb hf; go_simp; (try go_bits); (try rfl); done)); (try simp only [Act.put, List.setIfInBounds_toArray, List.set_cons_zero, List.set_cons_succ]))) | (apply Calm.op_call; (focus rfl); (focus (intro W hb; obtain ⟨hc, hf⟩ := bcell hb; clear hb hf; go_simp; refine ⟨?_, ?_⟩; rfl; rfl)); (focus (intro W hb; first | (go_at_call 56; exact Calm.call_same hb (within_any _ _ _ _)))); (try simp only [Act.put, List.setIfInBounds_toArray, List.set_cons_zero, List.set_cons_succ])))
      refine wpQuiet_nil ?_
      intro w1 hb
      obtain ⟨hbc, hbf⟩ := bcell hb
      have hbz := hb.size
      (try simp at hbz)
      (try have hbz0 : w.heap.size < w1.heap.size := by omega)
      (try have hbz1 : w.heap.size + 1 < w1.heap.size := by omega)
      (try have hbz2 : w.heap.size + 1 + 1 < w1.heap.size := by omega)
      (try have hbz3 : w.heap.size + 1 + 1 + 1 < w1.heap.size := by omega)
      (try have hbz4 : w.heap.size + 1 + 1 + 1 + 1 < w1.heap.size := by omega)
      (try have hbz5 : w.heap.size + 1 + 1 + 1 + 1 + 1 < w1.heap.size := by omega)
      go_wp2_with (go_at_call 53; refine (first3_any _ _ _ _).mono ?_; rintro r w2 ⟨rfl, rfl⟩)
      go_ret
      refine ⟨ret_i (by simp [boxErr, h0, hm]), ?_⟩
      repeat (first | (with_reducible exact Below.refl _ _) | ((with_reducible refine Below.setCell ?_ ?_ _); rotate_left 1; focus (first | (simp; done) | (simp; omega) | (simp at *; omega))) | ((with_reducible refine Below.alloc ?_ ?_ _); rotate_left 1; focus (first | (simp; done) | (simp; omega) | (simp at *; omega))) | (with_reducible refine Below.drew ?_) | ((with_reducible refine Calm.step (by assumption) ?_ ?_); rotate_left 1; focus (first | (simp; done) | (simp; omega) | (simp at *; omega))))
  · go_enter Tryz.func54, Tryz.ntmps54
    go_wp2_with (first | (go_at_call 56; refine (within_any _ _ _ _).mono ?_; rintro r w1 ⟨rfl, rfl⟩))
    go_ret
    refine ⟨ret_i (by simp [boxErr, h0]), ?_⟩
    repeat (first | (with_reducible exact Below.refl _ _) | ((with_reducible refine Below.setCell ?_ ?_ _); rotate_left 1; focus (first | (simp; done) | (simp; omega) | (simp at *; omega))) | ((with_reducible refine Below.alloc ?_ ?_ _); rotate_left 1; focus (first | (simp; done) | (simp; omega) | (simp at *; omega))) | (with_reducible refine Below.drew ?_) | ((with_reducible refine Calm.step (by assumption) ?_ ?_); rotate_left 1; focus (first | (simp; done) | (simp; omega) | (simp at *; omega))))
end Go.Proofs.YtadcmjnebjgijaaGreatDoor
