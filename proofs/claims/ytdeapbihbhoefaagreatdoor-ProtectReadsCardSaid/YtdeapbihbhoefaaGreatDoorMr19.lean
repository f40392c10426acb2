/- Part 19 of the texts of the claim: AwK. -/
import Derived.Test.YtdeapbihbhoefaaGreatDoorMr17
import Derived.Test.YtdeapbihbhoefaaGreatDoorMr9

/- The example's guard, and what the program's functions answer for it. -/
namespace Go.Proofs.YtdeapbihbhoefaaGreatDoor
open Go.RowKit
open Calm (bcell Blk)

set_option maxRecDepth 100000 in
theorem usual_K (W : World) : Calls Tryz.prog 23 #[] W (KP (KGI 1 100 20 2 [1, 2] 3 [0, 8, 16]) W) := by
  go_enter Tryz.func23, Tryz.ntmps23
  go_wp2
  refine bodyPost_ret (v := .agg #[(.int .i64 1), (.int .i64 100), .slice (some ⟨W.heap.size + 1, 0, none⟩) 2 2, (.int .i64 20), .slice (some ⟨W.heap.size + 1 + 1, 0, none⟩) 3 3]) (by simp [results, Tryz.results23, go_sem]) rfl ?_
  refine ⟨_, rfl, ⟨_, _, _, _, rfl, ?_, ?_, fun p hp => ?_, fun p hp => ?_⟩, ?_⟩
  · exact blkc (zs := [1, 2]) (show Blk _ (W.heap.size + 1) #[(.int .i64 1), (.int .i64 2)] from by (repeat (first | ((with_reducible refine Blk.at_ ?_); focus (first | rfl | (simp; done) | (simp; omega))) | (with_reducible refine Blk.alloc ?_ _) | (with_reducible refine Blk.below ?_ (by with_reducible assumption)) | (with_reducible refine Blk.drew ?_))))
  · exact blkc (zs := [0, 8, 16]) (show Blk _ (W.heap.size + 1 + 1) #[(.int .i64 0), (.int .i64 8), (.int .i64 16)] from by (repeat (first | ((with_reducible refine Blk.at_ ?_); focus (first | rfl | (simp; done) | (simp; omega))) | (with_reducible refine Blk.alloc ?_ _) | (with_reducible refine Blk.below ?_ (by with_reducible assumption)) | (with_reducible refine Blk.drew ?_))))
  · cases hp; exact ⟨_, heap_old (by simp) (heap_new (by simp))⟩
  · cases hp; exact ⟨_, heap_new (by simp)⟩
  · (repeat (first | (with_reducible exact Below.refl _ _) | ((with_reducible refine Below.setCell ?_ ?_ _); rotate_left 1; focus (first | (simp; done) | (simp; omega) | (simp at *; omega))) | ((with_reducible refine Below.alloc ?_ ?_ _); rotate_left 1; focus (first | (simp; done) | (simp; omega) | (simp at *; omega))) | (with_reducible refine Below.drew ?_) | ((with_reducible refine Calm.step (by assumption) ?_ ?_); rotate_left 1; focus (first | (simp; done) | (simp; omega) | (simp at *; omega)))))
theorem aw_g : guardErr 1 100 20 [1, 2] [0, 8, 16] = 0 := by decide
theorem aw_b : behR 1 100 20 [1, 2] [0, 8, 16] 0 2 [0] 6 = ⟨36, 2, [6], 6, 0⟩ := by kernel_rfl
theorem aw_b2 : behR 1 100 20 [1, 2] [0, 8, 16] 0 2 [0] 11 = ⟨121, 2, [11], 11, 0⟩ := by kernel_rfl
theorem aw_t : tailR 1 100 20 [1, 2] [0, 8, 16] 36 2 [6] = [12] := by kernel_rfl
theorem aw_s : safeR 1 100 20 [1, 2] [0, 8, 16] 121 2 [11] = false := by kernel_rfl
theorem aw_st : stepR 1 100 20 [1, 2] [0, 8, 16] 0 2 [0] 12 = ⟨6, 36, 1, [6], 0⟩ := by kernel_rfl
theorem aw_e6 : runErr 1 100 20 [1, 2] [0, 8, 16] [6, 6, 6] = 0 := by kernel_rfl
theorem aw_e12 : runErr 1 100 20 [1, 2] [0, 8, 16] [12, 12] = 0 := by kernel_rfl
theorem aw_r : runR 1 100 20 [1, 2] [0, 8, 16] [6, 6, 6] = [6, 6, 6] := by kernel_rfl
theorem aw_p1 : pkHR 1 100 20 [1, 2] [0, 8, 16] [6, 6, 6] = 63 := by kernel_rfl
theorem aw_p2 : pkXR 1 100 20 [1, 2] [0, 8, 16] [6, 6, 6] = 18 := by kernel_rfl
theorem aw_l : lvsR 1 100 20 [1, 2] [0, 8, 16] [12, 12] = [1, 1] := by kernel_rfl
theorem aw_sd : stdR 1 100 20 [1, 2] [0, 8, 16] = 7 := by kernel_rfl
theorem aw_q : quiR 1 100 20 [1, 2] [0, 8, 16] = 6 := by kernel_rfl
theorem aw_c : coolE 1 100 20 [1, 2] [0, 8, 16] 100 10 = (4, 0) := by kernel_rfl
theorem aw_c2 : coolE 1 100 20 [1, 2] [0, 8, 16] 1 0 = (0, 24) := by kernel_rfl
theorem aw_rl : relR 1 100 20 [1, 2] [0, 8, 16] 0 0 [0] = (2, 0) := by kernel_rfl
theorem aw_lo : loudR 1 100 20 [1, 2] [0, 8, 16] [-10, 3, 9] 2 = [-10, 3] := by kernel_rfl
theorem aw_le : loudE 1 100 20 [1, 2] [0, 8, 16] [-10, 3, 9] 2 = 0 := by kernel_rfl
theorem aw_en : enR [-10, 3] = 109 := by kernel_rfl
theorem aw_es : sigErr [-10, 3] = 0 := by kernel_rfl
theorem aw_tx : textR 1 100 20 [1, 2] [0, 8, 16] = [103, 117, 97, 114, 100, 32, 49, 32, 49, 48, 48, 32, 50, 48, 32, 116, 97, 112, 115, 32, 49, 32, 50, 32, 103, 97, 105, 110, 115, 32, 48, 32, 56, 32, 49, 54] := by kernel_rfl
theorem aw_begin {u : Value} {W : World} (hu : (KG 1 100 20 2 [1, 2] 3 [0, 8, 16]) u W) : Calls Tryz.prog 22 #[u] W (KP (K2 (KTI 0 2 1 [0]) (KV (.int .i64 0))) W) := by
  have h := cBegin (ts := [1, 2]) (gs := [0, 8, 16]) (N := 1) rfl rfl (by decide) (by decide) hu (by rw [aw_g]; rfl)
  rw [aw_g] at h
  exact h
theorem aw_behind {u v : Value} {W : World} (hL : Lim W) (hu : (KG 1 100 20 2 [1, 2] 3 [0, 8, 16]) u W) (hv : KT 0 2 1 [0] v W) : Calls Tryz.prog 18 #[u, v, (.int .i64 6)] W (KP (K3 (KTI 36 2 1 [6]) (KV (.int .i64 6)) (KV (.int .i64 0))) W) := by
  have h := cBehind (ts := [1, 2]) (gs := [0, 8, 16]) (ps := [0]) (N2 := 1) (y := 6) rfl rfl rfl (by decide) (by decide) (by decide) hL hu hv (by rw [aw_b]; rfl)
  rw [aw_b] at h
  exact h
theorem aw_behind2 {u v : Value} {W : World} (hL : Lim W) (hu : (KG 1 100 20 2 [1, 2] 3 [0, 8, 16]) u W) (hv : KT 0 2 1 [0] v W) : Calls Tryz.prog 18 #[u, v, (.int .i64 11)] W (KP (K3 (KTI 121 2 1 [11]) (KV (.int .i64 11)) (KV (.int .i64 0))) W) := by
  have h := cBehind (ts := [1, 2]) (gs := [0, 8, 16]) (ps := [0]) (N2 := 1) (y := 11) rfl rfl rfl (by decide) (by decide) (by decide) hL hu hv (by rw [aw_b2]; rfl)
  rw [aw_b2] at h
  exact h
theorem aw_s0 : stErr 1 100 20 [1, 2] [0, 8, 16] 36 2 [6] = 0 := by decide
theorem aw_s1 : stErr 1 100 20 [1, 2] [0, 8, 16] 121 2 [11] = 0 := by decide
theorem aw_tails {u v : Value} {W : World} (hL : Lim W) (hu : (KG 1 100 20 2 [1, 2] 3 [0, 8, 16]) u W) (hv : KT 36 2 1 [6] v W) : Calls Tryz.prog 20 #[u, v] W (KP (K2 (KS 1 [12]) (KV (.int .i64 0))) W) := by
  have h := cTails (ts := [1, 2]) (gs := [0, 8, 16]) (ps := [6]) (N2 := 1) rfl rfl rfl (by decide) (by decide) (by decide) hL hu hv (by rw [aw_t]; rfl)
  rw [aw_t, aw_s0] at h
  exact h
theorem aw_safe {u v : Value} {W : World} (hL : Lim W) (hu : (KG 1 100 20 2 [1, 2] 3 [0, 8, 16]) u W) (hv : KT 121 2 1 [11] v W) : Calls Tryz.prog 19 #[u, v] W (KP (K2 (KV (.bool false)) (KV (.int .i64 0))) W) := by
  have h := cSafe (ts := [1, 2]) (gs := [0, 8, 16]) (ps := [11]) rfl rfl rfl (by decide) (by decide) (by decide) hL hu hv
  rw [aw_s, aw_s1] at h
  exact h
theorem aw_step {u v : Value} {W : World} (hL : Lim W) (hu : (KG 1 100 20 2 [1, 2] 3 [0, 8, 16]) u W) (hv : KT 0 2 1 [0] v W) : Calls Tryz.prog 24 #[u, v, (.int .i64 12)] W (KP (K3 (KV (.int .i64 6)) (KTI 36 1 1 [6]) (KV (.int .i64 0))) W) := by
  have h := cStep (ts := [1, 2]) (gs := [0, 8, 16]) (ps := [0]) (N2 := 1) (y := 12) rfl rfl rfl (by decide) (by decide) (by decide) hL hu hv (by rw [aw_st]; rfl)
  rw [aw_st] at h
  exact h
theorem aw_run {u v : Value} {W : World} (hL : Lim W) (hu : (KG 1 100 20 2 [1, 2] 3 [0, 8, 16]) u W) (hv : KS 3 [6, 6, 6] v W) : Calls Tryz.prog 25 #[u, v] W (KP (K2 (KS 3 [6, 6, 6]) (KV (.int .i64 0))) W) := by
  have h := cRun (ts := [1, 2]) (gs := [0, 8, 16]) (xs := [6, 6, 6]) (N2 := 3) rfl rfl rfl (by decide) (by decide) (by decide) hL hu hv (by rw [aw_r]; rfl)
  rw [aw_r, aw_e6] at h
  exact h
theorem aw_peaks {u v : Value} {W : World} (hu : (KG 1 100 20 2 [1, 2] 3 [0, 8, 16]) u W) (hv : KS 3 [6, 6, 6] v W) : Calls Tryz.prog 26 #[u, v] W (KP (K2 (KV (.agg #[(.int .i64 63), (.int .i64 18)])) (KV (.int .i64 0))) W) := by
  have h := cPeaks (ts := [1, 2]) (gs := [0, 8, 16]) (xs := [6, 6, 6]) rfl rfl rfl (by decide) (by decide) (by decide) hu hv
  rw [aw_p1, aw_p2, aw_e6] at h
  exact h
theorem aw_levels {u v : Value} {W : World} (hL : Lim W) (hu : (KG 1 100 20 2 [1, 2] 3 [0, 8, 16]) u W) (hv : KS 2 [12, 12] v W) : Calls Tryz.prog 27 #[u, v] W (KP (K2 (KS 2 [1, 1]) (KV (.int .i64 0))) W) := by
  have h := cLevels (ts := [1, 2]) (gs := [0, 8, 16]) (xs := [12, 12]) (N2 := 2) rfl rfl rfl (by decide) (by decide) (by decide) hL hu hv (by rw [aw_l]; rfl)
  rw [aw_l, aw_e12] at h
  exact h
theorem aw_steady {u : Value} {W : World} (hu : (KG 1 100 20 2 [1, 2] 3 [0, 8, 16]) u W) : Calls Tryz.prog 29 #[u] W (KP (K2 (KV (.int .i64 7)) (KV (.int .i64 0))) W) := by
  have h := cSteady (ts := [1, 2]) (gs := [0, 8, 16]) rfl rfl (by decide) (by decide) hu
  rw [aw_sd, aw_g] at h
  exact h
theorem aw_quiet {u : Value} {W : World} (hu : (KG 1 100 20 2 [1, 2] 3 [0, 8, 16]) u W) : Calls Tryz.prog 30 #[u] W (KP (K2 (KV (.int .i64 6)) (KV (.int .i64 0))) W) := by
  have h := cQuiet (ts := [1, 2]) (gs := [0, 8, 16]) rfl rfl (by decide) (by decide) hu
  rw [aw_q, aw_g] at h
  exact h
theorem aw_cool {u : Value} {W : World} (hu : (KG 1 100 20 2 [1, 2] 3 [0, 8, 16]) u W) : Calls Tryz.prog 31 #[u, (.int .i64 100), (.int .i64 10)] W (KP (K2 (KV (.int .i64 4)) (KV (.int .i64 0))) W) := by
  have h := cCool (ts := [1, 2]) (gs := [0, 8, 16]) (a := 100) (b := 10) rfl rfl (by decide) (by decide) hu
  rw [aw_c] at h
  exact h
theorem aw_cool2 {u : Value} {W : World} (hu : (KG 1 100 20 2 [1, 2] 3 [0, 8, 16]) u W) : Calls Tryz.prog 31 #[u, (.int .i64 1), (.int .i64 0)] W (KP (K2 (KV (.int .i64 0)) (KV (.int .i64 24))) W) := by
  have h := cCool (ts := [1, 2]) (gs := [0, 8, 16]) (a := 1) (b := 0) rfl rfl (by decide) (by decide) hu
  rw [aw_c2] at h
  exact h
theorem aw_release {u v : Value} {W : World} (hL : Lim W) (hu : (KG 1 100 20 2 [1, 2] 3 [0, 8, 16]) u W) (hv : KT 0 0 1 [0] v W) : Calls Tryz.prog 32 #[u, v] W (KP (K2 (KV (.int .i64 2)) (KV (.int .i64 0))) W) := by
  have h := cRelease (ts := [1, 2]) (gs := [0, 8, 16]) (ps := [0]) rfl rfl rfl (by decide) (by decide) (by decide) hL hu hv
  rw [aw_rl] at h
  exact h
theorem aw_loudest {u v : Value} {W : World} (hL : Lim W) (hu : (KG 1 100 20 2 [1, 2] 3 [0, 8, 16]) u W) (hv : KS 3 [-10, 3, 9] v W) : Calls Tryz.prog 33 #[u, v, (.int .i64 2)] W (KP (K2 (KS 2 [-10, 3]) (KV (.int .i64 0))) W) := by
  have h := cLoudest (ts := [1, 2]) (gs := [0, 8, 16]) (ls := [-10, 3, 9]) (N2 := 2) (n := 2) rfl rfl rfl (by decide) (by decide) (by decide) hL hu hv (by rw [aw_lo]; rfl)
  rw [aw_lo, aw_le] at h
  exact h
theorem aw_energy {v : Value} {W : World} (hv : KS 2 [-10, 3] v W) : Calls Tryz.prog 34 #[v] W (KP (K2 (KV (.int .i64 109)) (KV (.int .i64 0))) W) := by
  have h := cEnergy (xs := [-10, 3]) rfl (by decide) hv
  rw [aw_en, aw_es] at h
  exact h
theorem aw_print {u : Value} {W : World} (hTab : PTab W) (hu : (KG 1 100 20 2 [1, 2] 3 [0, 8, 16]) u W) : Calls Tryz.prog 7 #[u] W (KP (K2 (KV (.string ⟨#[103, 117, 97, 114, 100, 32, 49, 32, 49, 48, 48, 32, 50, 48, 32, 116, 97, 112, 115, 32, 49, 32, 50, 32, 103, 97, 105, 110, 115, 32, 48, 32, 56, 32, 49, 54]⟩)) (KV (.int .i64 0))) W) := by
  have h := cPrint (ts := [1, 2]) (gs := [0, 8, 16]) rfl rfl (by decide) (by decide) hTab hu
  rw [aw_tx, aw_g] at h
  exact h
/-- two slices held against each other. -/
theorem same_K {a b : List Int} {n m : Nat} {u v : Value} {W : World} (h1 : n = a.length) (h2 : m = b.length) (h3 : n ≤ 100000) (h4 : m ≤ 100000) (hu : KS n a u W) (hv : KS m b v W) : Calls Tryz.prog 28 #[u, v] W (KP (KV (.bool (decide (a = b)))) W) := by
  obtain ⟨A, c, rfl, hA⟩ := hu
  obtain ⟨B, d, rfl, hB⟩ := hv
  subst h1 h2
  exact (sameInts_any A B a b c d W hA hB h3 h4).mono fun e W' ⟨h, hb⟩ => ⟨_, h, rfl, hb⟩
theorem same_T {a b : List Int} {n m : Nat} {u v : Value} {W : World} (e : a = b) (h1 : n = a.length) (h2 : m = b.length) (h3 : n ≤ 100000) (hu : KS n a u W) (hv : KS m b v W) : Calls Tryz.prog 28 #[u, v] W (KP (KV (.bool true)) W) := by
  subst e
  have h := same_K h1 h2 h3 (by omega) hu hv
  rwa [decide_eq_true rfl] at h
theorem aw_pk (W : World) : Sem.run Tryz.prog (binOp BinOp.neq 62 (.agg #[(.int .i64 63), (.int .i64 18)]) (.agg #[(.int .i64 63), (.int .i64 18)])) W = .ok (.bool false) W := by kernel_rfl
end Go.Proofs.YtdeapbihbhoefaaGreatDoor
