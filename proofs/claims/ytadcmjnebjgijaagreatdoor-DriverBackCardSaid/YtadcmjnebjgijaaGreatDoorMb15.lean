/- Part 15 of the texts of the claim: B3, Aw0, Aw1, Fast. -/
import Derived.Test.YtadcmjnebjgijaaGreatDoorMb4
import Derived.Test.YtadcmjnebjgijaaGreatDoorMb13
import Derived.Test.YtadcmjnebjgijaaGreatDoorMb14
import Derived.Test.YtadcmjnebjgijaaGreatDoorMb7
import Derived.Test.YtadcmjnebjgijaaGreatDoorMb9

/- The text of the example's driver. -/
namespace Go.Proofs.YtadcmjnebjgijaaGreatDoor
open Go.RowKit
open Calm (bcell Blk)

theorem itoa0 (w : World) : Calls Tryz.prog 33 #[(.int .i64 (0))] w fun r w' => r = .returned (.string ⟨#[48]⟩) ∧ w = w' := by
  go_enter Tryz.func33, Tryz.ntmps33
  go_wp2
  go_ret
  exact ⟨rfl, rfl⟩
theorem itoa1 (w : World) : Calls Tryz.prog 33 #[(.int .i64 (1))] w fun r w' => r = .returned (.string ⟨#[49]⟩) ∧ w = w' := by
  go_enter Tryz.func33, Tryz.ntmps33
  go_wp2
  go_ret
  exact ⟨rfl, rfl⟩
theorem itoa2 (w : World) : Calls Tryz.prog 33 #[(.int .i64 (2))] w fun r w' => r = .returned (.string ⟨#[50]⟩) ∧ w = w' := by
  go_enter Tryz.func33, Tryz.ntmps33
  go_wp2
  go_ret
  exact ⟨rfl, rfl⟩
theorem itoa4 (w : World) : Calls Tryz.prog 33 #[(.int .i64 (4))] w fun r w' => r = .returned (.string ⟨#[52]⟩) ∧ w = w' := by
  go_enter Tryz.func33, Tryz.ntmps33
  go_wp2
  go_ret
  exact ⟨rfl, rfl⟩
theorem itoa6 (w : World) : Calls Tryz.prog 33 #[(.int .i64 (6))] w fun r w' => r = .returned (.string ⟨#[54]⟩) ∧ w = w' := by
  go_enter Tryz.func33, Tryz.ntmps33
  go_wp2
  go_ret
  exact ⟨rfl, rfl⟩
def preB (k : Int) : Array UInt8 := if k = 0 then #[100, 114, 105, 118, 101, 114] else if k = 1 then #[100, 114, 105, 118, 101, 114, 32, 54] else if k = 2 then #[100, 114, 105, 118, 101, 114, 32, 54, 32, 48] else if k = 3 then #[100, 114, 105, 118, 101, 114, 32, 54, 32, 48, 32, 50] else if k = 4 then #[100, 114, 105, 118, 101, 114, 32, 54, 32, 48, 32, 50, 32, 49] else if k = 5 then #[100, 114, 105, 118, 101, 114, 32, 54, 32, 48, 32, 50, 32, 49, 32, 52] else #[100, 114, 105, 118, 101, 114, 32, 54, 32, 48, 32, 50, 32, 49, 32, 52, 32, 49]
theorem pindex0 : ∀ w : World, (Instr.index 83 (.agg #[(.int .i64 (6)), (.int .i64 (0)), (.int .i64 (2)), (.int .i64 (1)), (.int .i64 (4)), (.int .i64 (1))]) (.int .i64 0)).run Tryz.prog w = .ok (.int .i64 (6)) w := fun _ => by kernel_rfl
theorem pindex1 : ∀ w : World, (Instr.index 83 (.agg #[(.int .i64 (6)), (.int .i64 (0)), (.int .i64 (2)), (.int .i64 (1)), (.int .i64 (4)), (.int .i64 (1))]) (.int .i64 1)).run Tryz.prog w = .ok (.int .i64 (0)) w := fun _ => by kernel_rfl
theorem pindex2 : ∀ w : World, (Instr.index 83 (.agg #[(.int .i64 (6)), (.int .i64 (0)), (.int .i64 (2)), (.int .i64 (1)), (.int .i64 (4)), (.int .i64 (1))]) (.int .i64 2)).run Tryz.prog w = .ok (.int .i64 (2)) w := fun _ => by kernel_rfl
theorem pindex3 : ∀ w : World, (Instr.index 83 (.agg #[(.int .i64 (6)), (.int .i64 (0)), (.int .i64 (2)), (.int .i64 (1)), (.int .i64 (4)), (.int .i64 (1))]) (.int .i64 3)).run Tryz.prog w = .ok (.int .i64 (1)) w := fun _ => by kernel_rfl
theorem pindex4 : ∀ w : World, (Instr.index 83 (.agg #[(.int .i64 (6)), (.int .i64 (0)), (.int .i64 (2)), (.int .i64 (1)), (.int .i64 (4)), (.int .i64 (1))]) (.int .i64 4)).run Tryz.prog w = .ok (.int .i64 (4)) w := fun _ => by kernel_rfl
theorem pindex5 : ∀ w : World, (Instr.index 83 (.agg #[(.int .i64 (6)), (.int .i64 (0)), (.int .i64 (2)), (.int .i64 (1)), (.int .i64 (4)), (.int .i64 (1))]) (.int .i64 5)).run Tryz.prog w = .ok (.int .i64 (1)) w := fun _ => by kernel_rfl
theorem sample_err : drvErr 6 0 2 1 4 1 = 0 := by decide
set_option maxRecDepth 100000 in
set_option maxHeartbeats 2000000 in
theorem print_sample (w : World) (hL : Lim w) :
    Calls Tryz.prog 6 #[.agg #[(.int .i64 (6)), (.int .i64 (0)), (.int .i64 (2)), (.int .i64 (1)), (.int .i64 (4)), (.int .i64 (1))]] w fun r w' => r = .returned (.tuple #[.string ⟨#[100, 114, 105, 118, 101, 114, 32, 54, 32, 48, 32, 50, 32, 49, 32, 52, 32, 49]⟩, (.int .i64 (0))]) ∧ Below w.heap.size w w' := by
  have h := sample_err
  go_enter Tryz.func6, Tryz.ntmps6
  go_wp2_with (first | (go_at_call 31; refine (checkDriver_any _ _ _ _ _ _ _ (hL.below (by repeat (first | (with_reducible exact Below.refl _ _) | ((with_reducible refine Below.setCell ?_ ?_ _); rotate_left 1; focus (first | (simp; done) | (simp; omega) | (simp at *; omega))) | ((with_reducible refine Below.alloc ?_ ?_ _); rotate_left 1; focus (first | (simp; done) | (simp; omega) | (simp at *; omega))) | (with_reducible refine Below.drew ?_) | ((with_reducible refine Calm.step (by assumption) ?_ ?_); rotate_left 1; focus (first | (simp; done) | (simp; omega) | (simp at *; omega))))))).mono ?_; rintro r w1 ⟨rfl, hb⟩; obtain ⟨hc, hf⟩ := bcell hb; have hz := hb.size; (try simp at hz); (try have hz0 : w.heap.size < w1.heap.size := by omega); (try have hz1 : w.heap.size + 1 < w1.heap.size := by omega); (try have hz2 : w.heap.size + 1 + 1 < w1.heap.size := by omega); (try have hz3 : w.heap.size + 1 + 1 + 1 < w1.heap.size := by omega); (try have hz4 : w.heap.size + 1 + 1 + 1 + 1 < w1.heap.size := by omega); (try have hz5 : w.heap.size + 1 + 1 + 1 + 1 + 1 < w1.heap.size := by omega); (try have hz6 : w.heap.size + 1 + 1 + 1 + 1 + 1 + 1 < w1.heap.size := by omega)) | (go_at_call 32; refine (numbers_any _ _ _ _ _ _ _).mono ?_; rintro r w1 ⟨rfl, hb⟩; obtain ⟨hc, hf⟩ := bcell hb; have hz := hb.size; (try simp at hz); (try have hz0 : w.heap.size < w1.heap.size := by omega); (try have hz1 : w.heap.size + 1 < w1.heap.size := by omega); (try have hz2 : w.heap.size + 1 + 1 < w1.heap.size := by omega); (try have hz3 : w.heap.size + 1 + 1 + 1 < w1.heap.size := by omega); (try have hz4 : w.heap.size + 1 + 1 + 1 + 1 < w1.heap.size := by omega); (try have hz5 : w.heap.size + 1 + 1 + 1 + 1 + 1 < w1.heap.size := by omega); (try have hz6 : w.heap.size + 1 + 1 + 1 + 1 + 1 + 1 < w1.heap.size := by omega)))
  clear h
  have kb : Below w.heap.size w w1 := by (repeat (first | (with_reducible exact Below.refl _ _) | ((with_reducible refine Below.setCell ?_ ?_ _); rotate_left 1; focus (first | (simp; done) | (simp; omega) | (simp at *; omega))) | ((with_reducible refine Below.alloc ?_ ?_ _); rotate_left 1; focus (first | (simp; done) | (simp; omega) | (simp at *; omega))) | (with_reducible refine Below.drew ?_) | ((with_reducible refine Calm.step (by assumption) ?_ ?_); rotate_left 1; focus (first | (simp; done) | (simp; omega) | (simp at *; omega)))))
  go_loop [5, 15] (fun t i => ∃ k : Int, 0 ≤ k ∧ k ≤ 6 ∧ i = (.int .i64 (k)) ∧ t = .string ⟨preB k⟩) (fun _ i => 6 - (intOf i).toNat)
  case atStart => exact ⟨0, by omega, by omega, rfl, by simp [preB]⟩
  case round =>
    obtain ⟨k, hk0, hk, rfl, rfl⟩ := hrel
    have hkk : k = 0 ∨ k = 1 ∨ k = 2 ∨ k = 3 ∨ k = 4 ∨ k = 5 ∨ k = 6 := by omega
    rcases hkk with rfl | rfl | rfl | rfl | rfl | rfl | rfl
    · have ix := pindex0
      rw [show preB 0 = #[100, 114, 105, 118, 101, 114] from by simp [preB]]
      go_wp2_with (go_at_call 33; refine (itoa6 _).mono ?_; rintro r w2 ⟨rfl, rfl⟩)
      go_round
      case rel => exact ⟨1, by omega, by omega, rfl, by simp [preB]; kernel_rfl⟩
      case measure => simp [intOf]
    · have ix := pindex1
      rw [show preB 1 = #[100, 114, 105, 118, 101, 114, 32, 54] from by simp [preB]]
      go_wp2_with (go_at_call 33; refine (itoa0 _).mono ?_; rintro r w2 ⟨rfl, rfl⟩)
      go_round
      case rel => exact ⟨2, by omega, by omega, rfl, by simp [preB]; kernel_rfl⟩
      case measure => simp [intOf]
    · have ix := pindex2
      rw [show preB 2 = #[100, 114, 105, 118, 101, 114, 32, 54, 32, 48] from by simp [preB]]
      go_wp2_with (go_at_call 33; refine (itoa2 _).mono ?_; rintro r w2 ⟨rfl, rfl⟩)
      go_round
      case rel => exact ⟨3, by omega, by omega, rfl, by simp [preB]; kernel_rfl⟩
      case measure => simp [intOf]
    · have ix := pindex3
      rw [show preB 3 = #[100, 114, 105, 118, 101, 114, 32, 54, 32, 48, 32, 50] from by simp [preB]]
      go_wp2_with (go_at_call 33; refine (itoa1 _).mono ?_; rintro r w2 ⟨rfl, rfl⟩)
      go_round
      case rel => exact ⟨4, by omega, by omega, rfl, by simp [preB]; kernel_rfl⟩
      case measure => simp [intOf]
    · have ix := pindex4
      rw [show preB 4 = #[100, 114, 105, 118, 101, 114, 32, 54, 32, 48, 32, 50, 32, 49] from by simp [preB]]
      go_wp2_with (go_at_call 33; refine (itoa4 _).mono ?_; rintro r w2 ⟨rfl, rfl⟩)
      go_round
      case rel => exact ⟨5, by omega, by omega, rfl, by simp [preB]; kernel_rfl⟩
      case measure => simp [intOf]
    · have ix := pindex5
      rw [show preB 5 = #[100, 114, 105, 118, 101, 114, 32, 54, 32, 48, 32, 50, 32, 49, 32, 52] from by simp [preB]]
      go_wp2_with (go_at_call 33; refine (itoa1 _).mono ?_; rintro r w2 ⟨rfl, rfl⟩)
      go_round
      case rel => exact ⟨6, by omega, by omega, rfl, by simp [preB]; kernel_rfl⟩
      case measure => simp [intOf]
    · rw [show preB 6 = #[100, 114, 105, 118, 101, 114, 32, 54, 32, 48, 32, 50, 32, 49, 32, 52, 32, 49] from by simp [preB]]
      go_wp2
      go_ret2
      exact ⟨rfl, kb⟩
end Go.Proofs.YtadcmjnebjgijaaGreatDoor

/- What awake() calls, at the document's numbers. -/
namespace Go.Proofs.YtadcmjnebjgijaaGreatDoor
open Go.RowKit
open Calm (bcell Blk)

theorem aw_mech (w : World) (hL : Lim w) : Calls Tryz.prog 11 #[.agg #[(.int .i64 (6)), (.int .i64 (0)), (.int .i64 (2)), (.int .i64 (1)), (.int .i64 (4)), (.int .i64 (1))], (.int .i64 (2))] w fun r w' => r = .returned (.tuple #[.agg #[(.int .i64 (0)), (.int .i64 (2))], (.int .i64 (0))]) ∧ Below w.heap.size w w' :=
  Mechanics_ok 6 0 2 1 4 1 2 w hL (by decide)
theorem aw_imp2 (w : World) (hL : Lim w) : Calls Tryz.prog 13 #[.agg #[(.int .i64 (6)), (.int .i64 (0)), (.int .i64 (2)), (.int .i64 (1)), (.int .i64 (4)), (.int .i64 (1))], (.int .i64 (2))] w fun r w' => r = .returned (.tuple #[.agg #[(.int .i64 (0)), (.int .i64 (20)), (.int .i64 (0)), (.int .i64 (2))], (.int .i64 (0))]) ∧ Below w.heap.size w w' :=
  Impedance_ok 6 0 2 1 4 1 2 w hL (by decide)
theorem aw_exc (w : World) (hL : Lim w) : Calls Tryz.prog 14 #[.agg #[(.int .i64 (6)), (.int .i64 (0)), (.int .i64 (2)), (.int .i64 (1)), (.int .i64 (4)), (.int .i64 (1))], (.int .i64 (2))] w fun r w' => r = .returned (.tuple #[.agg #[(.int .i64 (2)), (.int .i64 (0)), (.int .i64 (0)), (.int .i64 (20))], (.int .i64 (0))]) ∧ Below w.heap.size w w' :=
  Excursion_ok 6 0 2 1 4 1 2 w hL (by decide)
theorem aw_out (w : World) (hL : Lim w) : Calls Tryz.prog 15 #[.agg #[(.int .i64 (6)), (.int .i64 (0)), (.int .i64 (2)), (.int .i64 (1)), (.int .i64 (4)), (.int .i64 (1))], (.int .i64 (2))] w fun r w' => r = .returned (.tuple #[.agg #[(.int .i64 (-8)), (.int .i64 (0)), (.int .i64 (0)), (.int .i64 (20))], (.int .i64 (0))]) ∧ Below w.heap.size w w' :=
  Output_ok 6 0 2 1 4 1 2 w hL (by decide)
theorem aw_imp1 (w : World) (hL : Lim w) : Calls Tryz.prog 13 #[.agg #[(.int .i64 (6)), (.int .i64 (0)), (.int .i64 (2)), (.int .i64 (1)), (.int .i64 (4)), (.int .i64 (1))], (.int .i64 (1))] w fun r w' => r = .returned (.tuple #[.agg #[(.int .i64 (18)), (.int .i64 (10)), (.int .i64 (3)), (.int .i64 (1))], (.int .i64 (0))]) ∧ Below w.heap.size w w' :=
  Impedance_ok 6 0 2 1 4 1 1 w hL (by decide)
theorem aw_res (w : World) (hL : Lim w) : Calls Tryz.prog 16 #[.agg #[(.int .i64 (6)), (.int .i64 (0)), (.int .i64 (2)), (.int .i64 (1)), (.int .i64 (4)), (.int .i64 (1))]] w fun r w' => r = .returned (.tuple #[.agg #[(.int .i64 (4)), (.int .i64 (1))], (.int .i64 (0))]) ∧ Below w.heap.size w w' :=
  resonance_ok 6 0 2 1 4 1 w hL (by decide)
theorem aw_qual (w : World) (hL : Lim w) : Calls Tryz.prog 17 #[.agg #[(.int .i64 (6)), (.int .i64 (0)), (.int .i64 (2)), (.int .i64 (1)), (.int .i64 (4)), (.int .i64 (1))]] w fun r w' => r = .returned (.tuple #[.agg #[(.int .i64 (4)), (.int .i64 (1)), (.int .i64 (9)), (.int .i64 (1)), (.int .i64 (36)), (.int .i64 (25))], (.int .i64 (0))]) ∧ Below w.heap.size w w' :=
  quality_ok 6 0 2 1 4 1 w hL (by decide)
theorem aw_box (w : World) (hL : Lim w) : Calls Tryz.prog 18 #[.agg #[(.int .i64 (6)), (.int .i64 (0)), (.int .i64 (2)), (.int .i64 (1)), (.int .i64 (4)), (.int .i64 (1))], .agg #[(.int .i64 (2)), (.int .i64 (1)), (.int .i64 (0)), (.int .i64 (1))], (.int .i64 (1))] w fun r w' => r = .returned (.tuple #[.agg #[(.int .i64 (-4)), (.int .i64 (40)), (.int .i64 (0)), (.int .i64 (6))], (.int .i64 (0))]) ∧ Below w.heap.size w w' :=
  Boxed_port 6 0 2 1 4 1 2 1 0 1 1 w hL (by decide) (by decide)
theorem aw_mov (w : World) (hL : Lim w) : Calls Tryz.prog 20 #[.agg #[(.int .i64 (6)), (.int .i64 (0)), (.int .i64 (2)), (.int .i64 (1)), (.int .i64 (4)), (.int .i64 (1))], .agg #[(.int .i64 (2)), (.int .i64 (1)), (.int .i64 (0)), (.int .i64 (1))], (.int .i64 (1))] w fun r w' => r = .returned (.tuple #[.agg #[(.int .i64 (2)), (.int .i64 (2)), (.int .i64 (-4)), (.int .i64 (40)), (.int .i64 (4)), (.int .i64 (0)), (.int .i64 (-4)), (.int .i64 (40))], (.int .i64 (0))]) ∧ Below w.heap.size w w' :=
  Moved_port 6 0 2 1 4 1 2 1 0 1 1 w hL (by decide) (by decide)
theorem aw_rad (w : World) (hL : Lim w) : Calls Tryz.prog 21 #[.agg #[(.int .i64 (6)), (.int .i64 (0)), (.int .i64 (2)), (.int .i64 (1)), (.int .i64 (4)), (.int .i64 (1))], .agg #[(.int .i64 (2)), (.int .i64 (1)), (.int .i64 (0)), (.int .i64 (1))], (.int .i64 (1))] w fun r w' => r = .returned (.tuple #[.agg #[(.int .i64 (2)), (.int .i64 (-2)), (.int .i64 (-4)), (.int .i64 (40))], (.int .i64 (0))]) ∧ Below w.heap.size w w' :=
  Radiated_port 6 0 2 1 4 1 2 1 0 1 1 w hL (by decide) (by decide)
theorem aw_tun (w : World) : Calls Tryz.prog 22 #[.agg #[(.int .i64 (2)), (.int .i64 (1)), (.int .i64 (0)), (.int .i64 (1))]] w fun r w' => r = .returned (.tuple #[.agg #[(.int .i64 (2)), (.int .i64 (1))], (.int .i64 (0))]) ∧ Below w.heap.size w w' :=
  tuning_ok 2 1 0 1 w (by decide) (by decide)
theorem aw_clo (w : World) (hL : Lim w) : Calls Tryz.prog 23 #[.agg #[(.int .i64 (6)), (.int .i64 (0)), (.int .i64 (2)), (.int .i64 (1)), (.int .i64 (4)), (.int .i64 (1))], (.int .i64 (5))] w fun r w' => r = .returned (.tuple #[.agg #[(.int .i64 (6)), (.int .i64 (0)), (.int .i64 (2)), (.int .i64 (1)), (.int .i64 (9)), (.int .i64 (1))], (.int .i64 (0))]) ∧ Below w.heap.size w w' :=
  closed_ok 6 0 2 1 4 1 5 w hL (by decide) (by decide)
theorem aw_box2 (w : World) (hL : Lim w) : Calls Tryz.prog 18 #[.agg #[(.int .i64 (6)), (.int .i64 (0)), (.int .i64 (2)), (.int .i64 (1)), (.int .i64 (4)), (.int .i64 (1))], .agg #[(.int .i64 (5)), (.int .i64 (0)), (.int .i64 (0)), (.int .i64 (0))], (.int .i64 (3))] w fun r w' => r = .returned (.tuple #[.agg #[(.int .i64 (0)), (.int .i64 (30)), (.int .i64 (0)), (.int .i64 (3))], (.int .i64 (0))]) ∧ Below w.heap.size w w' :=
  Boxed_shut 6 0 2 1 4 1 5 3 w hL (by decide)
theorem aw_wei (w : World) : Calls Tryz.prog 25 #[.agg #[(.int .i64 (4)), (.int .i64 (1))], .agg #[(.int .i64 (1)), (.int .i64 (1))], (.int .i64 (3))] w fun r w' => r = .returned (.tuple #[.agg #[(.int .i64 (1)), (.int .i64 (1))], .agg #[(.int .i64 (4)), (.int .i64 (1))], (.int .i64 (0))]) ∧ Below w.heap.size w w' :=
  weighed_ok 4 1 1 1 3 w (by decide) (by decide)
theorem aw_swe (w : World) (hL : Lim w) (A : Option Addr) (c : Nat) (hC : Cells w A [2]) : Calls Tryz.prog 26 #[.agg #[(.int .i64 (6)), (.int .i64 (0)), (.int .i64 (2)), (.int .i64 (1)), (.int .i64 (4)), (.int .i64 (1))], .slice A 1 c, (.int .i64 (10))] w fun r w' => ∃ v, r = .returned (.tuple #[v, (.int .i64 (0))]) ∧ w'.ownsRow (w.heap.size + 1) 76 3 v 1 (flat3 [(2, 90, 110)]) ∧ Below w.heap.size w w' :=
  Sweep_ok 6 0 2 1 4 1 10 A [2] c w hL hC (by decide) (by decide) (by decide) (by decide)
end Go.Proofs.YtadcmjnebjgijaaGreatDoor

/- SameInts; what awake() calls, at the document's numbers. -/
namespace Go.Proofs.YtadcmjnebjgijaaGreatDoor
open Go.RowKit
open Calm (bcell Blk)

theorem aw_reg (w : World) (hL : Lim w) (A : Option Addr) (c : Nat) (hC : RCells w A [(2, 90, 110)]) : Calls Tryz.prog 27 #[.agg #[(.int .i64 (6)), (.int .i64 (0)), (.int .i64 (2)), (.int .i64 (1)), (.int .i64 (4)), (.int .i64 (1)), (.int .i64 (2)), (.int .i64 (4)), (.int .i64 (1))], .slice A 1 c] w fun r w' => ∃ v, r = .returned (.tuple #[v, (.int .i64 (0))]) ∧ w'.ownsRow w.heap.size 28 6 v 1 (flat6 6 0 2 [(1, 4, 1)]) ∧ Below w.heap.size w w' := by
  have e : regD 6 0 2 1 4 1 2 4 1 [(2, 90, 110)] = [(1, 4, 1)] := by decide
  refine (Region_ok 6 0 2 1 4 1 2 4 1 A [(2, 90, 110)] c w hL hC (by decide) (by decide)).mono ?_
  rintro r w' ⟨h, hb⟩
  rw [e, if_neg (by decide)] at h
  obtain ⟨v, h1, h2⟩ := h
  exact ⟨v, h1, h2, hb⟩
theorem aw_con (w : World) (hL : Lim w) (A : Option Addr) (c : Nat) (hC : RCells w A [(2, 90, 110), (2, 0, 50)]) : Calls Tryz.prog 28 #[.agg #[(.int .i64 (6)), (.int .i64 (0)), (.int .i64 (2)), (.int .i64 (1)), (.int .i64 (4)), (.int .i64 (1)), (.int .i64 (2)), (.int .i64 (4)), (.int .i64 (1))], .slice A 2 c] w fun r w' => ∃ v, r = .returned (.tuple #[v, (.int .i64 (0))]) ∧ w'.ownsRow w.heap.size 3 1 v 2 (ints [0, 1]) ∧ Below w.heap.size w w' := by
  have e : confF 6 0 2 [(2, 90, 110), (2, 0, 50)] (drvs 1 4 1 2 4 1) (2 ^ [((2 : Int), (90 : Int), (110 : Int)), (2, 0, 50)].length) = some 3 := by decide
  refine (Conflict_ok 6 0 2 1 4 1 2 4 1 A [(2, 90, 110), (2, 0, 50)] c w hL hC (by decide) (by decide)).mono ?_
  rintro r w' ⟨v, h, hv, hb⟩
  rw [e] at h hv
  exact ⟨v, h, hv.2, hb⟩
theorem aw_lin1 (w : World) (A1 A2 : Option Addr) (c1 c2 : Nat) (h1 : Cells w A1 [60, 90, 100, 95, 70]) (h2 : Cells w A2 [30, 12, 10, 11, 25]) : Calls Tryz.prog 29 #[.agg #[.slice A1 5 c1, .slice A2 5 c2], (.int .i64 (82)), (.int .i64 (150))] w fun r w' => r = .returned (.tuple #[(.int .i64 (1)), (.int .i64 (0))]) ∧ Below w.heap.size w w' :=
  Linear_ok [60, 90, 100, 95, 70] [30, 12, 10, 11, 25] 82 150 A1 A2 c1 c2 w h1 h2 (by decide) (by decide) (by decide)
theorem aw_lin2 (w : World) (A1 A2 : Option Addr) (c1 c2 : Nat) (h1 : Cells w A1 [60, 90, 100, 95, 70]) (h2 : Cells w A2 [30, 12, 10, 11, 25]) : Calls Tryz.prog 29 #[.agg #[.slice A1 5 c1, .slice A2 5 c2], (.int .i64 (92)), (.int .i64 (150))] w fun r w' => r = .returned (.tuple #[(.int .i64 (0)), (.int .i64 (0))]) ∧ Below w.heap.size w w' :=
  Linear_ok [60, 90, 100, 95, 70] [30, 12, 10, 11, 25] 92 150 A1 A2 c1 c2 w h1 h2 (by decide) (by decide) (by decide)

set_option maxRecDepth 100000 in
set_option maxHeartbeats 4000000 in
theorem sameInts_any (A B : Option Addr) (a b : List Int) (ca cb : Nat) (w : World) (hA : Cells w A a) (hB : Cells w B b) (h1 : a.length ≤ 1000) (h2 : b.length ≤ 1000) :
    Calls Tryz.prog 30 #[.slice A a.length ca, .slice B b.length cb] w fun x w' => x = .returned (.bool (decide (a = b))) ∧ Below w.heap.size w w' := by
  obtain ⟨E, hE⟩ : ∃ E, E = decide (a = b) := ⟨_, rfl⟩
  have HE := Lib.hid hE
  have HCA := Lib.hid hA
  have HCB := Lib.hid hB
  obtain ⟨N, hN⟩ : ∃ N, N = a.length := ⟨_, rfl⟩
  obtain ⟨M, hM⟩ : ∃ M, M = b.length := ⟨_, rfl⟩
  have HN := Lib.hid hN
  have HM := Lib.hid hM
  rw [← hE]
  rw [← hN] at h1 ⊢
  rw [← hM] at h2 ⊢
  clear hE hA hB hN hM
  by_cases hnm : N = M
  · have HNM := Lib.hid hnm
    subst hnm
    go_enter Tryz.func30, Tryz.ntmps30
    go_wp2
    go_loopw [5] (fun i wr => ∃ k : Nat, k ≤ N ∧ i = (.int .i64 ((k : Nat))) ∧ (∀ j, j < k → a.getD j 0 = b.getD j 0) ∧ Below w.heap.size w wr) (fun i _ => N - (intOf i).toNat)
    case atStart => exact ⟨0, by omega, rfl, fun j hj => by omega, Below.refl _ _⟩
    case round =>
      obtain ⟨k, hk, rfl, hz, hBr⟩ := hrel
      have HZ := Lib.hid hz
      have HBR := Lib.hid hBr
      have hszr := hBr.size
      clear hz hBr
      by_cases hlt : k < N
      · have l1 : k < a.length := by rw [← HN.out]; exact hlt
        have l2 : k < b.length := by rw [← HM.out]; exact hlt
        obtain ⟨g, o, rfl, q1, k1⟩ := (HCA.out.below HBR.out) (by omega)
        obtain ⟨g', o', rfl, q2, k2⟩ := (HCB.out.below HBR.out) (by omega)
        have y1 := k1 k l1
        have y2 := k2 k l2
        obtain ⟨x, hx⟩ : ∃ x, x = a.getD k 0 := ⟨_, rfl⟩
        obtain ⟨y, hy⟩ : ∃ y, y = b.getD k 0 := ⟨_, rfl⟩
        rw [← hx] at y1
        rw [← hy] at y2
        have HX := Lib.hid hx
        have HY := Lib.hid hy
        clear k1 k2 hx hy l1 l2
        by_cases hxy : x = y
        · subst hxy
          go_wp2
          refine Calm.tail_below 8 (by kernel_rfl) (by kernel_rfl) ?_
          simp only [List.take_succ_cons, List.take_zero, List.drop_succ_cons, List.drop_zero]
          repeat (first | (apply Calm.op_move; (focus rfl); (focus (first | exact .inl rfl | exact .inr rfl)); (focus ((try simp only [Act.eval, Array.getD_eq_getD_getElem?, List.getElem?_toArray, List.getElem?_cons_succ, List.getElem?_cons_zero, Option.getD_some]); rfl)); (try simp only [Act.put, List.setIfInBounds_toArray, List.set_cons_zero, List.set_cons_succ])) | (apply Calm.op_not; (focus rfl); (try simp only [Act.put, List.setIfInBounds_toArray, List.set_cons_zero, List.set_cons_succ])) | (apply Calm.op; (focus rfl); (focus (intro W hb; obtain ⟨hc, hf⟩ := bcell hb; clear hb hf; go_simp; (try go_bits); (try rfl); done)); (try simp only [Act.put, List.setIfInBounds_toArray, List.set_cons_zero, List.set_cons_succ])))
          refine wpQuiet_nil ?_
          intro w2 hb2
          obtain ⟨hb2c, hb2f⟩ := bcell hb2
          have hb2z := hb2.size
          (try simp at hb2z)
          (try have hb2z0 : w.heap.size < w2.heap.size := by omega)
          (try have hb2z1 : w.heap.size + 1 < w2.heap.size := by omega)
          (try have hb2z2 : w.heap.size + 1 + 1 < w2.heap.size := by omega)
          (try have hb2z3 : w.heap.size + 1 + 1 + 1 < w2.heap.size := by omega)
          (try have hb2z4 : w.heap.size + 1 + 1 + 1 + 1 < w2.heap.size := by omega)
          (try have hb2z5 : w.heap.size + 1 + 1 + 1 + 1 + 1 < w2.heap.size := by omega)
          go_wp2
          go_roundw
          case rel =>
            refine ⟨k + 1, by omega, by go_num, fun j hj => ?_, HBR.out.trans (hb2.mono hszr)⟩
            rcases Nat.lt_or_ge j k with h | h
            · exact HZ.out j h
            · obtain rfl : j = k := by omega
              rw [← HX.out, ← HY.out]
          case measure => simp [intOf]; omega
        · have HEE := Lib.hid (show E = false by
            rw [HE.out]
            refine decide_eq_false (fun e => hxy ?_)
            rw [HX.out, HY.out, e])
          go_wp2
          refine Calm.tail_below 8 (by kernel_rfl) (by kernel_rfl) ?_
          simp only [List.take_succ_cons, List.take_zero, List.drop_succ_cons, List.drop_zero]
          repeat (first | (apply Calm.op_move; (focus rfl); (focus (first | exact .inl rfl | exact .inr rfl)); (focus ((try simp only [Act.eval, Array.getD_eq_getD_getElem?, List.getElem?_toArray, List.getElem?_cons_succ, List.getElem?_cons_zero, Option.getD_some]); rfl)); (try simp only [Act.put, List.setIfInBounds_toArray, List.set_cons_zero, List.set_cons_succ])) | (apply Calm.op_not; (focus rfl); (try simp only [Act.put, List.setIfInBounds_toArray, List.set_cons_zero, List.set_cons_succ])) | (apply Calm.op; (focus rfl); (focus (intro W hb; obtain ⟨hc, hf⟩ := bcell hb; clear hb hf; go_simp; (try go_bits); (try rfl); done)); (try simp only [Act.put, List.setIfInBounds_toArray, List.set_cons_zero, List.set_cons_succ])))
          refine wpQuiet_nil ?_
          intro w2 hb2
          obtain ⟨hb2c, hb2f⟩ := bcell hb2
          have hb2z := hb2.size
          (try simp at hb2z)
          (try have hb2z0 : w.heap.size < w2.heap.size := by omega)
          (try have hb2z1 : w.heap.size + 1 < w2.heap.size := by omega)
          (try have hb2z2 : w.heap.size + 1 + 1 < w2.heap.size := by omega)
          (try have hb2z3 : w.heap.size + 1 + 1 + 1 < w2.heap.size := by omega)
          (try have hb2z4 : w.heap.size + 1 + 1 + 1 + 1 < w2.heap.size := by omega)
          (try have hb2z5 : w.heap.size + 1 + 1 + 1 + 1 + 1 < w2.heap.size := by omega)
          go_wp2
          go_ret
          exact ⟨by rw [HEE.out]; rfl, HBR.out.trans (hb2.mono hszr)⟩
      · obtain rfl : k = N := by omega
        have HEE := Lib.hid (show E = true by
          rw [HE.out]
          refine decide_eq_true (List.ext_getElem? fun i => ?_)
          have hl : a.length = b.length := HN.out.symm.trans HM.out
          rcases Nat.lt_or_ge i a.length with h | h
          · have := HZ.out i (by rw [HN.out]; exact h)
            simpa [h, show i < b.length by omega] using this
          · rw [List.getElem?_eq_none h, List.getElem?_eq_none (by omega)])
        go_wp2
        go_ret
        exact ⟨by rw [HEE.out]; rfl, HBR.out⟩
  · have HEE := Lib.hid (show E = false by
      rw [HE.out]
      refine decide_eq_false (fun e => hnm ?_)
      rw [HN.out, HM.out, e])
    have hnm2 : ¬ (N : Int) = (M : Int) := by omega
    go_enter Tryz.func30, Tryz.ntmps30
    go_wp2
    go_ret
    exact ⟨by rw [HEE.out]; rfl, Below.refl _ _⟩
end Go.Proofs.YtadcmjnebjgijaaGreatDoor

/- A cheaper check that the order of the text may be taken in a region whose order is open (for great regions). -/
namespace Go.Proofs.YtadcmjnebjgijaaGreatDoor
open Go.RowKit

def backAt (ops : Array Oper) (k : Nat) : Bool := match ops[k]? with
  | some o => o.after.all fun e => !Region.binds .any e || decide (e.on < k)
  | none => false
def fastHead (ops : Array Oper) (n : Nat) : Bool :=
  (List.range n).all fun k => match ops[k]? with
  | some ok => (ok.after.all fun e => !Region.binds .any e || decide (e.on < k)) && ((List.range ops.size).all fun j => decide (j ≤ k) || match ops[j]? with
      | some oj => oj.after.any (fun e => Region.binds .any e && e.on == k) || ok.apart ops oj
      | none => true)
  | none => false
theorem fastHead_at {ops : Array Oper} {n : Nat} (h : fastHead ops n = true) (k : Nat) (hk : k < n) : ∃ ok, ops[k]? = some ok ∧ (∀ e ∈ ok.after, Region.binds .any e = true → e.on < k) ∧
    ∀ j oj, ops[j]? = some oj → k < j → oj.after.any (fun e => Region.binds .any e && e.on == k) = true ∨ ok.apart ops oj = true := by
  have h1 := List.all_eq_true.1 h k (List.mem_range.2 hk)
  cases ho : ops[k]? with
  | none => simp [ho] at h1
  | some ok =>
    simp only [ho, Bool.and_eq_true] at h1
    refine ⟨ok, rfl, fun e he hb => ?_, fun j oj hj hkj => ?_⟩
    · have := Array.all_eq_true'.1 h1.1 e he
      simpa [hb] using this
    · have h2 := List.all_eq_true.1 h1.2 j (List.mem_range.2 (Array.getElem?_eq_some_iff.1 hj).1)
      simp only [hj] at h2
      have hn : decide (j ≤ k) = false := by simp; omega
      rw [hn, Bool.false_or, Bool.or_eq_true] at h2
      exact h2
theorem lexHead_of_fast {ops : Array Oper} {n g : Nat} (hn : n ≤ ops.size) (h : fastHead ops n = true) :
    ∀ (f k : Nat) (listed : Array Bool), k + f = n → listed.size = ops.size → (∀ j, listed.getD j false = decide (j < k)) →
      (∀ L : Array Bool, L.size = ops.size → (∀ j, L.getD j false = decide (j < n)) → Region.seqB .any ops g n L = true) → Region.lexHead .any ops g f k listed = true
  | 0, k, listed, hk, hs, hl, hT => by
    obtain rfl : k = n := by omega
    exact hT listed hs hl
  | f + 1, k, listed, hk, hs, hl, hT => by
    obtain ⟨ok, hok, hb, hfr⟩ := fastHead_at h k (by omega)
    have hks : k < listed.size := by omega
    have htrue : ∀ j, j < listed.size → listed.getD j true = decide (j < k) := by
      intro j hj
      have := hl j
      simpa [Array.getD, hj] using this
    unfold Region.lexHead
    simp only [Bool.and_eq_true]
    refine ⟨⟨?_, ?_⟩, ?_⟩
    · rw [List.contains_iff_mem]
      refine mem_ready.2 ⟨by rw [htrue k hks]; simp, ok, hok, fun e he hbe => by rw [hl]; simpa using hb e he hbe⟩
    · unfold Region.free
      simp only [hok, List.all_eq_true, List.mem_range]
      intro j hj
      rw [htrue j (by omega)]
      rcases Nat.lt_trichotomy j k with h1 | h1 | h1
      · simp [h1]
      · simp [h1]
      · cases hoj : ops[j]? with
        | none => simp
        | some oj =>
          rcases hfr j oj hoj h1 with h2 | h2
          · simp only [h2, Bool.true_or, Bool.or_true]
          · simp only [h2, Bool.or_true]
    · refine lexHead_of_fast hn h f (k + 1) _ (by omega) (by simp [hs]) (fun j => ?_) hT
      by_cases hjk : j = k
      · subst hjk
        simp [Array.getD, hks]
      · have := hl j
        have e : (listed.setIfInBounds k true).getD j false = listed.getD j false := by
          simp only [Array.getD_eq_getD_getElem?, Array.getElem?_setIfInBounds_ne (Ne.symm hjk)]
        rw [e, this]
        by_cases h2 : j < k
        · simp [h2, Nat.lt_succ_of_lt h2]
        · simp [h2]; omega
/-- the last of all is the tail. -/
theorem lexTail_of_fast {ops : Array Oper} {n : Nat} (h1 : Region.noSelect ops = true) (h2 : decide (n < ops.size) = true) (h3 : Region.sinkB .any ops n = true) (h4 : Region.chainB .any ops n = true) (h5 : fastHead ops n = true)
    (h6 : Region.seqB .any ops (ops.size - n) n (((List.range ops.size).map fun j => decide (j < n)).toArray) = true) : Region.lexTailB .any ops n = true := by
  unfold Region.lexTailB
  simp only [Bool.and_eq_true]
  refine ⟨⟨⟨⟨h1, h2⟩, h3⟩, h4⟩, lexHead_of_fast (by simpa using Nat.le_of_lt (of_decide_eq_true h2)) h5 n 0 _ (by omega) (by simp) (fun j => ?_) (fun L hL hl => ?_)⟩
  · rw [getD_replicate_false]; simp
  · have e : L = ((List.range ops.size).map fun j => decide (j < n)).toArray := by
      apply Array.ext
      · simp [hL]
      · intro j hj1 hj2
        have := hl j
        simp only [Array.getD, hj1, dite_true] at this
        simpa using this
    rw [e]
    exact h6
end Go.Proofs.YtadcmjnebjgijaaGreatDoor
