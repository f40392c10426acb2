/- Part 15 of the texts of the claim: B8, It2. -/
import Derived.Test.YtpkldjlljoledaaDoorCx14
import Derived.Test.YtpkldjlljoledaaDoorCx10
import Derived.Laws.CopyOwn
import Derived.Laws.MakeOwn

/- Contracts of 'explains' and 'Explains'. -/
namespace Go.Proofs.YtpkldjlljoledaaDoor
open Go.RowKit
open Calm (bcell Blk)

/-- does a driver explain all readings. -/
def explB (re le bl ma st lo : Int) (zs : List (Int × Int × Int)) : Bool := zs.all fun r => fitB re le bl ma st lo r.1 r.2.1 r.2.2
theorem explB_len (re le bl ma st lo : Int) (zs : List (Int × Int × Int)) : explB re le bl ma st lo zs = decide ((keptFit re le bl ma st lo zs).length = zs.length) := by
  unfold explB keptFit
  by_cases h : (zs.filter fun r => fitB re le bl ma st lo r.1 r.2.1 r.2.2).length = zs.length
  · rw [decide_eq_true h, List.all_eq_true]
    exact List.length_filter_eq_length_iff.1 h
  · rw [decide_eq_false h, Bool.eq_false_iff]
    intro h2
    exact h (List.length_filter_eq_length_iff.2 (List.all_eq_true.1 h2))
set_option maxHeartbeats 1000000 in
theorem explains_any (re le bl ma st lo : Int) (A : Option Addr) (zs : List (Int × Int × Int)) (c : Nat) (w : World) (hd : drvErr re le bl ma st lo = 0) (hC : RCells w A zs) (hn : zs.length ≤ 1000) (hz : ∀ k, k < zs.length → readErr (zs.getD k (0, 0, 0)).1 (zs.getD k (0, 0, 0)).2.1 (zs.getD k (0, 0, 0)).2.2 = 0) :
    Calls Tryd.prog 102 #[.agg #[(.int .i64 (re)), (.int .i64 (le)), (.int .i64 (bl)), (.int .i64 (ma)), (.int .i64 (st)), (.int .i64 (lo))], .slice A zs.length c] w fun r w' => r = .returned (.bool (explB re le bl ma st lo zs)) ∧ Below w.heap.size w w' := by
  have hle := keptFit_le re le bl ma st lo zs zs.length
  rw [List.take_length] at hle
  rw [explB_len]
  have HZ := Lib.hid hz
  have HC := Lib.hid hC
  have HD := Lib.hid hd
  clear hz hC hd
  obtain ⟨m, hm⟩ : ∃ m, m = (keptFit re le bl ma st lo zs).length := ⟨_, rfl⟩
  have HM := Lib.hid hm
  rw [← hm] at hle ⊢
  clear hm
  by_cases hq : m = zs.length
  · rw [decide_eq_true hq]
    go_enter Tryd.func102, Tryd.ntmps102
    go_wp2_with (go_at_call 116; refine (keptFit_any re le bl ma st lo A zs c _ HD.out (HC.out.below (by (repeat (first | (with_reducible exact Below.refl _ _) | ((with_reducible refine Below.setCell ?_ ?_ _); rotate_left 1; focus (first | (simp; done) | (simp; omega) | (simp at *; omega))) | ((with_reducible refine Below.alloc ?_ ?_ _); rotate_left 1; focus (first | (simp; done) | (simp; omega) | (simp at *; omega))) | (with_reducible refine Below.drew ?_) | ((with_reducible refine Calm.step (by assumption) ?_ ?_); rotate_left 1; focus (first | (simp; done) | (simp; omega) | (simp at *; omega))))))) hn HZ.out).mono ?_; rw [← HM.out]; rintro r w1 ⟨A1, c1, rfl, hb⟩; obtain ⟨hc, hff⟩ := bcell hb)
    go_ret
    refine ⟨by first | rfl | (simp; done), ?_⟩
    repeat (first | (with_reducible exact Below.refl _ _) | ((with_reducible refine Below.setCell ?_ ?_ _); rotate_left 1; focus (first | (simp; done) | (simp; omega) | (simp at *; omega))) | ((with_reducible refine Below.alloc ?_ ?_ _); rotate_left 1; focus (first | (simp; done) | (simp; omega) | (simp at *; omega))) | (with_reducible refine Below.drew ?_) | ((with_reducible refine Calm.step (by assumption) ?_ ?_); rotate_left 1; focus (first | (simp; done) | (simp; omega) | (simp at *; omega))))
  · rw [decide_eq_false hq]
    go_enter Tryd.func102, Tryd.ntmps102
    go_wp2_with (go_at_call 116; refine (keptFit_any re le bl ma st lo A zs c _ HD.out (HC.out.below (by (repeat (first | (with_reducible exact Below.refl _ _) | ((with_reducible refine Below.setCell ?_ ?_ _); rotate_left 1; focus (first | (simp; done) | (simp; omega) | (simp at *; omega))) | ((with_reducible refine Below.alloc ?_ ?_ _); rotate_left 1; focus (first | (simp; done) | (simp; omega) | (simp at *; omega))) | (with_reducible refine Below.drew ?_) | ((with_reducible refine Calm.step (by assumption) ?_ ?_); rotate_left 1; focus (first | (simp; done) | (simp; omega) | (simp at *; omega))))))) hn HZ.out).mono ?_; rw [← HM.out]; rintro r w1 ⟨A1, c1, rfl, hb⟩; obtain ⟨hc, hff⟩ := bcell hb)
    go_ret
    refine ⟨by first | rfl | (simp; omega), ?_⟩
    repeat (first | (with_reducible exact Below.refl _ _) | ((with_reducible refine Below.setCell ?_ ?_ _); rotate_left 1; focus (first | (simp; done) | (simp; omega) | (simp at *; omega))) | ((with_reducible refine Below.alloc ?_ ?_ _); rotate_left 1; focus (first | (simp; done) | (simp; omega) | (simp at *; omega))) | (with_reducible refine Below.drew ?_) | ((with_reducible refine Calm.step (by assumption) ?_ ?_); rotate_left 1; focus (first | (simp; done) | (simp; omega) | (simp at *; omega))))
set_option maxHeartbeats 1000000 in
theorem readErrs_all {zs : List (Int × Int × Int)} (h : firstOf (readErrs zs) = 0) : ∀ k, k < zs.length → readErr (zs.getD k (0, 0, 0)).1 (zs.getD k (0, 0, 0)).2.1 (zs.getD k (0, 0, 0)).2.2 = 0 := by
  intro k hk
  have h1 := firstOf_eq_zero.1 h
  rw [List.getD_eq_getElem?_getD, List.getElem?_eq_getElem hk]
  exact h1 _ (List.mem_map.2 ⟨zs[k], List.getElem_mem hk, rfl⟩)
/-- the first error of a driver and readings. -/
def explErr (re le bl ma st lo : Int) (zs : List (Int × Int × Int)) : Int := firstOf [drvErr re le bl ma st lo, readsErr zs]
theorem checkReadings_any (A : Option Addr) (zs : List (Int × Int × Int)) (c : Nat) (w : World) (hC : RCells w A zs) (hn : zs.length ≤ 1000) :
    Calls Tryd.prog 100 #[.slice A zs.length c] w fun r w' => r = .returned (.int .i64 (readsErr zs)) ∧ Below w.heap.size w w' := by
  unfold readsErr
  by_cases h : 32 < zs.length
  · rw [if_pos h]
    refine (checkReadings_long A zs.length c w h (by omega)).mono ?_
    rintro r w' ⟨rfl, rfl⟩
    exact ⟨rfl, Below.refl _ _⟩
  · rw [if_neg h]
    exact checkReadings_len A zs c w hC (by omega)
theorem Explains_ok (re le bl ma st lo : Int) (A : Option Addr) (zs : List (Int × Int × Int)) (c : Nat) (w : World) (hL : Lim w) (hC : RCells w A zs) (hn : zs.length ≤ 1000) (h : explErr re le bl ma st lo zs = 0) :
    Calls Tryd.prog 65 #[.agg #[(.int .i64 (re)), (.int .i64 (le)), (.int .i64 (bl)), (.int .i64 (ma)), (.int .i64 (st)), (.int .i64 (lo))], .slice A zs.length c] w fun r w' => r = .returned (.tuple #[.bool (explB re le bl ma st lo zs), (.int .i64 (0))]) ∧ Below w.heap.size w w' := by
  have h1 := firstOf_eq_zero.1 h
  simp only [List.mem_cons, List.not_mem_nil, or_false, forall_eq_or_imp, forall_eq] at h1
  obtain ⟨h1, h2⟩ := h1
  have h3 : firstOf (readErrs zs) = 0 := by
    unfold readsErr at h2
    by_cases hl : 32 < zs.length
    · rw [if_pos hl] at h2; omega
    · rwa [if_neg hl] at h2
  have HA := Lib.hid (readErrs_all h3)
  have HC := Lib.hid hC
  have HD := Lib.hid h1
  have HE : firstOf [drvErr re le bl ma st lo, readsErr zs] = 0 := h
  clear h h1 h2 h3 hC
  go_enter Tryd.func65, Tryd.ntmps65
  go_wp2_with (first | (go_at_call 23; refine (checkDriver_any _ _ _ _ _ _ _ (hL.below (by repeat (first | (with_reducible exact Below.refl _ _) | ((with_reducible refine Below.setCell ?_ ?_ _); rotate_left 1; focus (first | (simp; done) | (simp; omega) | (simp at *; omega))) | ((with_reducible refine Below.alloc ?_ ?_ _); rotate_left 1; focus (first | (simp; done) | (simp; omega) | (simp at *; omega))) | (with_reducible refine Below.drew ?_) | ((with_reducible refine Calm.step (by assumption) ?_ ?_); rotate_left 1; focus (first | (simp; done) | (simp; omega) | (simp at *; omega))))))).mono ?_; rintro r w1 ⟨rfl, hb⟩; obtain ⟨hc, hf⟩ := bcell hb; have hz := hb.size; (try simp at hz); (try have hz0 : w.heap.size < w1.heap.size := by omega); (try have hz1 : w.heap.size + 1 < w1.heap.size := by omega); (try have hz2 : w.heap.size + 1 + 1 < w1.heap.size := by omega); (try have hz3 : w.heap.size + 1 + 1 + 1 < w1.heap.size := by omega); (try have hz4 : w.heap.size + 1 + 1 + 1 + 1 < w1.heap.size := by omega); (try have hz5 : w.heap.size + 1 + 1 + 1 + 1 + 1 < w1.heap.size := by omega); (try have hz6 : w.heap.size + 1 + 1 + 1 + 1 + 1 + 1 < w1.heap.size := by omega)) | (go_at_call 100; refine (checkReadings_any A zs c _ (HC.out.below (by (repeat (first | (with_reducible exact Below.refl _ _) | ((with_reducible refine Below.setCell ?_ ?_ _); rotate_left 1; focus (first | (simp; done) | (simp; omega) | (simp at *; omega))) | ((with_reducible refine Below.alloc ?_ ?_ _); rotate_left 1; focus (first | (simp; done) | (simp; omega) | (simp at *; omega))) | (with_reducible refine Below.drew ?_) | ((with_reducible refine Calm.step (by assumption) ?_ ?_); rotate_left 1; focus (first | (simp; done) | (simp; omega) | (simp at *; omega))))))) hn).mono ?_; rintro r w1 ⟨rfl, hb⟩; obtain ⟨hc, hf⟩ := bcell hb; have hz := hb.size; (try simp at hz); (try have hz0 : w.heap.size < w1.heap.size := by omega); (try have hz1 : w.heap.size + 1 < w1.heap.size := by omega); (try have hz2 : w.heap.size + 1 + 1 < w1.heap.size := by omega); (try have hz3 : w.heap.size + 1 + 1 + 1 < w1.heap.size := by omega); (try have hz4 : w.heap.size + 1 + 1 + 1 + 1 < w1.heap.size := by omega); (try have hz5 : w.heap.size + 1 + 1 + 1 + 1 + 1 < w1.heap.size := by omega); (try have hz6 : w.heap.size + 1 + 1 + 1 + 1 + 1 + 1 < w1.heap.size := by omega)) | (go_at_call 86; refine (first2_any _ _ _).mono ?_; rintro r w1 ⟨rfl, rfl⟩) | (go_at_call 102; refine (explains_any re le bl ma st lo A zs c _ HD.out (HC.out.below (by (repeat (first | (with_reducible exact Below.refl _ _) | ((with_reducible refine Below.setCell ?_ ?_ _); rotate_left 1; focus (first | (simp; done) | (simp; omega) | (simp at *; omega))) | ((with_reducible refine Below.alloc ?_ ?_ _); rotate_left 1; focus (first | (simp; done) | (simp; omega) | (simp at *; omega))) | (with_reducible refine Below.drew ?_) | ((with_reducible refine Calm.step (by assumption) ?_ ?_); rotate_left 1; focus (first | (simp; done) | (simp; omega) | (simp at *; omega))))))) hn HA.out).mono ?_; rintro r w1 ⟨rfl, hb⟩; obtain ⟨hc, hf⟩ := bcell hb; have hz := hb.size; (try simp at hz); (try have hz0 : w.heap.size < w1.heap.size := by omega); (try have hz1 : w.heap.size + 1 < w1.heap.size := by omega); (try have hz2 : w.heap.size + 1 + 1 < w1.heap.size := by omega); (try have hz3 : w.heap.size + 1 + 1 + 1 < w1.heap.size := by omega); (try have hz4 : w.heap.size + 1 + 1 + 1 + 1 < w1.heap.size := by omega); (try have hz5 : w.heap.size + 1 + 1 + 1 + 1 + 1 < w1.heap.size := by omega); (try have hz6 : w.heap.size + 1 + 1 + 1 + 1 + 1 + 1 < w1.heap.size := by omega)))
  go_ret2
  refine ⟨by first | rfl | (simp; done), ?_⟩
  repeat (first | (with_reducible exact Below.refl _ _) | ((with_reducible refine Below.setCell ?_ ?_ _); rotate_left 1; focus (first | (simp; done) | (simp; omega) | (simp at *; omega))) | ((with_reducible refine Below.alloc ?_ ?_ _); rotate_left 1; focus (first | (simp; done) | (simp; omega) | (simp at *; omega))) | (with_reducible refine Below.drew ?_) | ((with_reducible refine Calm.step (by assumption) ?_ ?_); rotate_left 1; focus (first | (simp; done) | (simp; omega) | (simp at *; omega))))
theorem Explains_bad (re le bl ma st lo : Int) (A : Option Addr) (zs : List (Int × Int × Int)) (c : Nat) (w : World) (hL : Lim w) (hC : RCells w A zs) (hn : zs.length ≤ 1000) (h : explErr re le bl ma st lo zs ≠ 0) :
    Calls Tryd.prog 65 #[.agg #[(.int .i64 (re)), (.int .i64 (le)), (.int .i64 (bl)), (.int .i64 (ma)), (.int .i64 (st)), (.int .i64 (lo))], .slice A zs.length c] w fun r w' => r = .returned (.tuple #[.bool false, (.int .i64 (explErr re le bl ma st lo zs))]) ∧ Below w.heap.size w w' := by
  have HC := Lib.hid hC
  have HE : firstOf [drvErr re le bl ma st lo, readsErr zs] ≠ 0 := h
  clear h hC
  go_enter Tryd.func65, Tryd.ntmps65
  go_wp2_with (first | (go_at_call 23; refine (checkDriver_any _ _ _ _ _ _ _ (hL.below (by repeat (first | (with_reducible exact Below.refl _ _) | ((with_reducible refine Below.setCell ?_ ?_ _); rotate_left 1; focus (first | (simp; done) | (simp; omega) | (simp at *; omega))) | ((with_reducible refine Below.alloc ?_ ?_ _); rotate_left 1; focus (first | (simp; done) | (simp; omega) | (simp at *; omega))) | (with_reducible refine Below.drew ?_) | ((with_reducible refine Calm.step (by assumption) ?_ ?_); rotate_left 1; focus (first | (simp; done) | (simp; omega) | (simp at *; omega))))))).mono ?_; rintro r w1 ⟨rfl, hb⟩; obtain ⟨hc, hf⟩ := bcell hb; have hz := hb.size; (try simp at hz); (try have hz0 : w.heap.size < w1.heap.size := by omega); (try have hz1 : w.heap.size + 1 < w1.heap.size := by omega); (try have hz2 : w.heap.size + 1 + 1 < w1.heap.size := by omega); (try have hz3 : w.heap.size + 1 + 1 + 1 < w1.heap.size := by omega); (try have hz4 : w.heap.size + 1 + 1 + 1 + 1 < w1.heap.size := by omega); (try have hz5 : w.heap.size + 1 + 1 + 1 + 1 + 1 < w1.heap.size := by omega); (try have hz6 : w.heap.size + 1 + 1 + 1 + 1 + 1 + 1 < w1.heap.size := by omega)) | (go_at_call 100; refine (checkReadings_any A zs c _ (HC.out.below (by (repeat (first | (with_reducible exact Below.refl _ _) | ((with_reducible refine Below.setCell ?_ ?_ _); rotate_left 1; focus (first | (simp; done) | (simp; omega) | (simp at *; omega))) | ((with_reducible refine Below.alloc ?_ ?_ _); rotate_left 1; focus (first | (simp; done) | (simp; omega) | (simp at *; omega))) | (with_reducible refine Below.drew ?_) | ((with_reducible refine Calm.step (by assumption) ?_ ?_); rotate_left 1; focus (first | (simp; done) | (simp; omega) | (simp at *; omega))))))) hn).mono ?_; rintro r w1 ⟨rfl, hb⟩; obtain ⟨hc, hf⟩ := bcell hb; have hz := hb.size; (try simp at hz); (try have hz0 : w.heap.size < w1.heap.size := by omega); (try have hz1 : w.heap.size + 1 < w1.heap.size := by omega); (try have hz2 : w.heap.size + 1 + 1 < w1.heap.size := by omega); (try have hz3 : w.heap.size + 1 + 1 + 1 < w1.heap.size := by omega); (try have hz4 : w.heap.size + 1 + 1 + 1 + 1 < w1.heap.size := by omega); (try have hz5 : w.heap.size + 1 + 1 + 1 + 1 + 1 < w1.heap.size := by omega); (try have hz6 : w.heap.size + 1 + 1 + 1 + 1 + 1 + 1 < w1.heap.size := by omega)) | (go_at_call 86; refine (first2_any _ _ _).mono ?_; rintro r w1 ⟨rfl, rfl⟩))
  go_ret2
  refine ⟨by first | rfl | (simp; done), ?_⟩
  repeat (first | (with_reducible exact Below.refl _ _) | ((with_reducible refine Below.setCell ?_ ?_ _); rotate_left 1; focus (first | (simp; done) | (simp; omega) | (simp at *; omega))) | ((with_reducible refine Below.alloc ?_ ?_ _); rotate_left 1; focus (first | (simp; done) | (simp; omega) | (simp at *; omega))) | (with_reducible refine Below.drew ?_) | ((with_reducible refine Calm.step (by assumption) ?_ ?_); rotate_left 1; focus (first | (simp; done) | (simp; omega) | (simp at *; omega))))
end Go.Proofs.YtpkldjlljoledaaDoor

/- The law of copy between slices of readings; contracts of Region's closure and of Region's error. %still -/
namespace Go.Proofs.YtpkldjlljoledaaDoor
open Go.RowKit
open Calm (bcell Blk)

theorem flat3_get : ∀ (zs : List (Int × Int × Int)) (j : Nat) (v : Value), (flat3 zs)[j]? = some v →
    ∃ k, k < zs.length ∧ (j = k * 3 ∧ v = (.int .i64 ((zs.getD k (0, 0, 0)).1)) ∨ j = k * 3 + 1 ∧ v = (.int .i64 ((zs.getD k (0, 0, 0)).2.1)) ∨ j = k * 3 + 2 ∧ v = (.int .i64 ((zs.getD k (0, 0, 0)).2.2)))
  | [], j, v, h => by simp [flat3] at h
  | z :: zs, 0, v, h => ⟨0, by simp, .inl ⟨rfl, by simpa [flat3] using h.symm⟩⟩
  | z :: zs, 1, v, h => ⟨0, by simp, .inr (.inl ⟨rfl, by simpa [flat3] using h.symm⟩)⟩
  | z :: zs, 2, v, h => ⟨0, by simp, .inr (.inr ⟨rfl, by simpa [flat3] using h.symm⟩)⟩
  | z :: zs, j + 3, v, h => by
    obtain ⟨k, hk, hv⟩ := flat3_get zs j v (by simpa [flat3] using h)
    refine ⟨k + 1, by simpa using hk, ?_⟩
    simp only [List.getD_cons_succ]
    rcases hv with ⟨h1, h2⟩ | ⟨h1, h2⟩ | ⟨h1, h2⟩
    · exact .inl ⟨by omega, h2⟩
    · exact .inr (.inl ⟨by omega, h2⟩)
    · exact .inr (.inr ⟨by omega, h2⟩)
theorem flat3_at : ∀ (zs : List (Int × Int × Int)) (k : Nat), k < zs.length →
    (flat3 zs)[k * 3]? = some (.int .i64 ((zs.getD k (0, 0, 0)).1)) ∧ (flat3 zs)[k * 3 + 1]? = some (.int .i64 ((zs.getD k (0, 0, 0)).2.1)) ∧ (flat3 zs)[k * 3 + 2]? = some (.int .i64 ((zs.getD k (0, 0, 0)).2.2))
  | [], k, h => by simp at h
  | z :: zs, 0, h => by simp [flat3]
  | z :: zs, k + 1, h => by
    have := flat3_at zs k (by simpa using h)
    rw [show (k + 1) * 3 = k * 3 + 3 by omega, show k * 3 + 3 + 1 = (k * 3 + 1) + 3 by omega, show k * 3 + 3 + 2 = (k * 3 + 2) + 3 by omega]
    simpa [flat3] using this
theorem flat3_len (zs : List (Int × Int × Int)) : (flat3 zs).length = zs.length * 3 := by
  induction zs with
  | nil => rfl
  | cons z zs ih => simp [flat3] at ih ⊢; omega
theorem flat3_one (zs : List (Int × Int × Int)) : ∀ v ∈ flat3 zs, v.oneCell' = true := by
  intro v hv
  simp only [flat3, List.mem_flatMap, List.mem_cons, List.not_mem_nil, or_false] at hv
  obtain ⟨x, _, rfl | rfl | rfl⟩ := hv <;> rfl
theorem RCells.src {w : World} {b off : Nat} {zs : List (Int × Int × Int)} (hC : ∀ k, k < zs.length → w.cell? ⟨b, off + k * 3, none⟩ = some (.int .i64 ((zs.getD k (0, 0, 0)).1)) ∧ w.cell? ⟨b, off + k * 3 + 1, none⟩ = some (.int .i64 ((zs.getD k (0, 0, 0)).2.1)) ∧ w.cell? ⟨b, off + k * 3 + 2, none⟩ = some (.int .i64 ((zs.getD k (0, 0, 0)).2.2)))
    (j : Nat) (v : Value) (h : (flat3 zs)[j]? = some v) : w.cell? ((⟨b, off, none⟩ : Addr).add j) = some v := by
  obtain ⟨k, hk, hv⟩ := flat3_get zs j v h
  have hadd : (⟨b, off, none⟩ : Addr).add j = ⟨b, off + j, none⟩ := by unfold Addr.add; split <;> simp_all
  rw [hadd]
  obtain ⟨h1, h2, h3⟩ := hC k hk
  rcases hv with ⟨rfl, rfl⟩ | ⟨rfl, rfl⟩ | ⟨rfl, rfl⟩
  · exact h1
  · exact h2
  · exact h3

theorem run_copy3 {P : Program} (w : World) (dT sT ty elem : TypeId) (g : Nat) (A : Option Addr) (zs : List (Int × Int × Int)) (n cap c : Nat) (cur : Array Value) (t : TypeId)
    (hu : P.underlying dT = some (.slice elem)) (hs : (P.info? elem).map (·.size) = some 3) (hn : zs.length = n)
    (hg : w.heap[g]? = some (.cells cur t (0, 0))) (hcur : cur.size = n * 3) (hC : RCells w A zs) :
    (Builtin.copy_ #[dT, sT] ty #[.slice (some ⟨g, 0, none⟩) n cap, .slice A n c]).run P w = .ok (goInt n) (w.setRow g (flat3 zs).toArray) := by
  cases hq : P.info? elem with
  | none => simp [hq] at hs
  | some i =>
    have hi : i.size = 3 := by simpa [hq] using hs
    by_cases h0 : n = 0
    · subst h0
      obtain rfl : zs = [] := List.eq_nil_of_length_eq_zero hn
      obtain rfl : cur = #[] := Array.eq_empty_of_size_eq_zero (by omega)
      have hl : ∀ (x : Addr), (loadCells x 0).run P w = .ok #[] w := fun x => by simpa using run_loadCells_list (P := P) w x [] (by simp)
      have hsr : w.setRow g #[] = w := setRow_self w g _ t _ hg
      cases A <;> simp [Builtin.copy_, run_underlying hu, Builtin.lenOf, Builtin.firstCells, sizeOf, typeInfo, hq, hi, storeCells, hl, flat3, hsr]
    · obtain ⟨b, off, rfl, hl, hc⟩ := hC (by omega)
      have hld := run_loadCells_list (P := P) w ⟨b, off, none⟩ (flat3 zs) (RCells.src hc)
      rw [flat3_len, hn] at hld
      have hst := run_storeCells_at P g 0 t (flat3 zs) 0 cur w hg (by rw [flat3_len]; omega) (flat3_one zs)
      have e : (cur.toList.take (0 + 0) ++ flat3 zs ++ cur.toList.drop (0 + 0 + (flat3 zs).length)).toArray = (flat3 zs).toArray := by
        rw [List.drop_eq_nil_of_le (by rw [flat3_len]; simp; omega)]; simp
      rw [e] at hst
      simp [Builtin.copy_, run_underlying hu, Builtin.lenOf, Builtin.firstCells, sizeOf, typeInfo, hq, hi, hld, hst]
theorem RCells.row {w : World} {g : Nat} {zs : List (Int × Int × Int)} {t : TypeId} (h : w.heap[g]? = some (.cells (flat3 zs).toArray t (0, 0))) : RCells w (some ⟨g, 0, none⟩) zs := by
  intro h0
  refine ⟨g, 0, rfl, (Array.getElem?_eq_some_iff.1 h).1, fun k hk => ?_⟩
  obtain ⟨h1, h2, h3⟩ := flat3_at zs k hk
  have e : ∀ i, w.cell? ⟨g, i, none⟩ = (flat3 zs)[i]? := fun i => by simp [World.cell?, h]
  rw [e, e, e]
  simpa using ⟨h1, h2, h3⟩
theorem wpListIn_copy3 {F : Fence} {nF : Nat} {P : Program} {w : World} {ops : Array Oper} {rest : List Oper} {o : Oper} {a : Act} {Q : Exit → Act → World → Prop} (hgd : o.guard = none) (d s : Operand) (dT sT : TypeId)
    (ho : o.op = .call { callee := .builtin .copy, args := #[d, s], argTypes := #[dT, sT] }) (elem : TypeId) (hu : P.underlying dT = some (.slice elem)) (hsz : (P.info? elem).map (·.size) = some 3)
    (g n cap c : Nat) (A : Option Addr) (zs : List (Int × Int × Int)) (hn : zs.length = n) (hd : a.eval d = .slice (some ⟨g, 0, none⟩) n cap) (hs : a.eval s = .slice A n c)
    (cur : Array Value) (t : TypeId) (hg : w.heap[g]? = some (.cells cur t (0, 0))) (hcur : cur.size = n * 3) (hC : RCells w A zs)
    (h : ∀ w', w'.heap.size = w.heap.size → Below g w w' → (∀ k, k ≠ g → w'.heap[k]? = w.heap[k]?) → RCells w' (some ⟨g, 0, none⟩) zs → wpListIn F nF P ops Q rest (a.put o.dst (goInt n)) w') : wpListIn F nF P ops Q (o :: rest) a w := by
  refine wpListIn_plain hgd fun K hK => ?_
  have hrun := run_copy3 (P := P) w dT sT o.type elem g A zs n cap c cur t hu hsz hn hg hcur hC
  unfold Oper.wpIn
  refine ⟨by simp [Oper.about, ho, resolve, Target.leads, Sem.run_pure], ?_⟩
  rw [Oper.semAt_plain F _ _ (by rw [ho]; intro c hc; cases hc)]
  simp [execOp, ho, resolve, invoke, builtin, hd, hs, hrun, Result.andThen]
  exact hK _ _ (h _ (by simp [World.setRow]) (below_setRow (Below.refl _ _) (Nat.le_refl _) _) (fun k hk => setRow_other w g k _ hk) (RCells.row (setRow_heap w g _ _ t _ hg)))

set_option maxRecDepth 100000 in
set_option maxHeartbeats 4000000 in
theorem region1_any (re le bl ma st lo : Int) (B : Nat) (A : Option Addr) (zs : List (Int × Int × Int)) (c : Nat) (w : World) (hd : drvErr re le bl ma st lo = 0) (hB : w.cell? ⟨B, 0, none⟩ = some (.slice A zs.length c)) (hBl : B < w.heap.size) (hC : RCells w A zs) (hn : zs.length ≤ 1000)
    (hz : ∀ k, k < zs.length → readErr (zs.getD k (0, 0, 0)).1 (zs.getD k (0, 0, 0)).2.1 (zs.getD k (0, 0, 0)).2.2 = 0) :
    Calls Tryd.prog 101 #[.agg #[(.int .i64 (re)), (.int .i64 (le)), (.int .i64 (bl)), (.int .i64 (ma)), (.int .i64 (st)), (.int .i64 (lo))], .pointer (some ⟨B, 0, none⟩)] w fun r w' => r = .returned (.bool (explB re le bl ma st lo zs)) ∧ Below w.heap.size w w' := by
  have HA := Lib.hid hz
  have HC := Lib.hid hC
  have HD := Lib.hid hd
  have hBn : ¬ B = w.heap.size := by omega
  have hBn2 : ¬ w.heap.size = B := by omega
  obtain ⟨E, hE⟩ : ∃ E, E = explB re le bl ma st lo zs := ⟨_, rfl⟩
  have HE := Lib.hid hE
  rw [← hE]
  clear hz hC hd hE
  go_enter Tryd.func101, Tryd.ntmps101
  go_wp2_with (go_at_call 102; refine (explains_any re le bl ma st lo A zs c _ HD.out (HC.out.below (by (repeat (first | (with_reducible exact Below.refl _ _) | ((with_reducible refine Below.setCell ?_ ?_ _); rotate_left 1; focus (first | (simp; done) | (simp; omega) | (simp at *; omega))) | ((with_reducible refine Below.alloc ?_ ?_ _); rotate_left 1; focus (first | (simp; done) | (simp; omega) | (simp at *; omega))) | (with_reducible refine Below.drew ?_) | ((with_reducible refine Calm.step (by assumption) ?_ ?_); rotate_left 1; focus (first | (simp; done) | (simp; omega) | (simp at *; omega))))))) hn HA.out).mono ?_; rw [← HE.out]; rintro r w1 ⟨rfl, hb⟩)
  go_ret
  refine ⟨by first | rfl | (simp; done), ?_⟩
  repeat (first | (with_reducible exact Below.refl _ _) | ((with_reducible refine Below.setCell ?_ ?_ _); rotate_left 1; focus (first | (simp; done) | (simp; omega) | (simp at *; omega))) | ((with_reducible refine Below.alloc ?_ ?_ _); rotate_left 1; focus (first | (simp; done) | (simp; omega) | (simp at *; omega))) | (with_reducible refine Below.drew ?_) | ((with_reducible refine Calm.step (by assumption) ?_ ?_); rotate_left 1; focus (first | (simp; done) | (simp; omega) | (simp at *; omega))))
theorem checkClass_any (re le bl ma st lo m k r : Int) (w : World) (hL : Lim w) :
    Calls Tryd.prog 99 #[.agg #[(.int .i64 (re)), (.int .i64 (le)), (.int .i64 (bl)), (.int .i64 (ma)), (.int .i64 (st)), (.int .i64 (lo)), (.int .i64 (m)), (.int .i64 (k)), (.int .i64 (r))]] w fun x w' => x = .returned (.int .i64 (classErr re le bl ma st lo m k r)) ∧ Below w.heap.size w w' := by
  unfold classErr
  by_cases h : classPre re le bl ma st lo m k r = 0
  · rw [if_pos h]; exact checkClass_ok re le bl ma st lo m k r w hL h
  · rw [if_neg h]; exact checkClass_bad re le bl ma st lo m k r w hL h
end Go.Proofs.YtpkldjlljoledaaDoor
