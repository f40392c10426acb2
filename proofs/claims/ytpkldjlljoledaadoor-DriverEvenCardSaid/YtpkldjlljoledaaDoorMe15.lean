/- Part 15 of the texts of the claim: B11, B3, Aw0, Aw1, Fast. -/
import Derived.Test.YtpkldjlljoledaaDoorMe12
import Derived.Test.YtpkldjlljoledaaDoorMe8
import Derived.Test.YtpkldjlljoledaaDoorMe10
import Derived.Test.YtpkldjlljoledaaDoorMe3
import Derived.Test.YtpkldjlljoledaaDoorMe14
import Derived.Test.YtpkldjlljoledaaDoorMe5
import Derived.Test.YtpkldjlljoledaaDoorMe6

/- Contract of Sweep. %still -/
namespace Go.Proofs.YtpkldjlljoledaaDoor
open Go.RowKit
open Calm (bcell Blk)

/-- the reading of a level, with an error in percent. -/
def sweep1 (re le bl ma st lo p x : Int) : Int × Int × Int := (x, vN re le bl ma st lo x * (100 - p) / (vD ma st lo x * 100), (vN re le bl ma st lo x * (100 + p) + vD ma st lo x * 100 - 1) / (vD ma st lo x * 100))
def sweepL (re le bl ma st lo p : Int) (zs : List Int) : List (Int × Int × Int) := zs.map (sweep1 re le bl ma st lo p)
theorem sweepL_succ (re le bl ma st lo p : Int) {zs : List Int} {k : Nat} (hk : k < zs.length) : sweepL re le bl ma st lo p (zs.take (k + 1)) = sweepL re le bl ma st lo p (zs.take k) ++ [sweep1 re le bl ma st lo p (zs.getD k 0)] := by
  unfold sweepL
  rw [List.take_succ_eq_append_getElem hk, List.map_append, List.map_singleton, List.getD_eq_getElem?_getD, List.getElem?_eq_getElem hk]
  rfl
theorem sweepL_len (re le bl ma st lo p : Int) (zs : List Int) : (sweepL re le bl ma st lo p zs).length = zs.length := by simp [sweepL]
theorem keptBad_nil {zs : List Int} (h : ∀ x ∈ zs, 1 ≤ x ∧ x ≤ 8) : keptBad zs = [] := by
  unfold keptBad
  rw [List.filter_eq_nil_iff]
  intro x hx
  simp [rangeErr_zero.2 (h x hx)]

set_option maxRecDepth 100000 in
set_option maxHeartbeats 4000000 in
theorem Sweep_ok (re le bl ma st lo p : Int) (A : Option Addr) (zs : List Int) (c : Nat) (w : World) (hL : Lim w) (hC : Cells w A zs) (hd : drvErr re le bl ma st lo = 0) (hn : zs.length ≤ 32) (hz : ∀ x ∈ zs, 1 ≤ x ∧ x ≤ 8) (hp : 0 ≤ p ∧ p ≤ 50) :
    Calls Tryd.prog 61 #[.agg #[(.int .i64 (re)), (.int .i64 (le)), (.int .i64 (bl)), (.int .i64 (ma)), (.int .i64 (st)), (.int .i64 (lo))], .slice A zs.length c, (.int .i64 (p))] w fun r w' => ∃ v, r = .returned (.tuple #[v, (.int .i64 (0))]) ∧ w'.ownsRow (w.heap.size + 1) 126 3 v zs.length (flat3 (sweepL re le bl ma st lo p zs)) ∧ Below w.heap.size w w' := by
  obtain ⟨i0, hi, iz0, iz1, iz2⟩ := info_parts Tryd.infoR
  have HZ := Lib.hid hz
  have HC := Lib.hid hC
  have hk : (keptBad zs).length = 0 := by rw [keptBad_nil hz]; rfl
  have HK := Lib.hid hk
  have HP := Lib.hid hp
  have hpe : rangeErr p 0 50 = 0 := rangeErr_zero.2 hp
  obtain ⟨N, hN⟩ : ∃ N, N = zs.length := ⟨_, rfl⟩
  have HN := Lib.hid hN
  have hKB : ∀ W : World, Cells W A zs → Calls Tryd.prog 95 #[.slice A N c, .func (.func 96) #[] #[]] W (SomeLen 0 W) := by
    intro W k1
    have := keptBad_any A zs c W k1 (by omega)
    rwa [hk, ← hN] at this
  have HKB := Lib.hid hKB
  rw [← hN] at hn ⊢
  clear hz hC hk hp hN hKB
  have e1 : firstOf [drvErr re le bl ma st lo, 0] = 0 := firstOf_eq_zero.2 (by simp [hd])
  have e2 : firstOf [0, rangeErr p 0 50] = 0 := firstOf_eq_zero.2 (by simp [hpe])
  have HD := Lib.hid hd
  have HPE := Lib.hid hpe
  clear hd hpe
  go_enter Tryd.func61, Tryd.ntmps61
  go_wp2_with (first
    | (go_at_call 23; refine (checkDriver_any _ _ _ _ _ _ _ (hL.below (by repeat (first | (with_reducible exact Below.refl _ _) | ((with_reducible refine Below.setCell ?_ ?_ _); rotate_left 1; focus (first | (simp; done) | (simp; omega) | (simp at *; omega))) | ((with_reducible refine Below.alloc ?_ ?_ _); rotate_left 1; focus (first | (simp; done) | (simp; omega) | (simp at *; omega))) | (with_reducible refine Below.drew ?_) | ((with_reducible refine Calm.step (by assumption) ?_ ?_); rotate_left 1; focus (first | (simp; done) | (simp; omega) | (simp at *; omega))))))).mono ?_; rintro r w1 ⟨rfl, hb⟩; obtain ⟨hc, hf⟩ := bcell hb; have hz := hb.size; (try simp at hz); have hz0 : w.heap.size < w1.heap.size := by omega)
    | (go_at_call 87; refine (when_any _ _ _).mono ?_; rintro r w2 ⟨rfl, rfl⟩)
    | (go_at_call 86; refine (first2_any _ _ _).mono ?_; rintro r w3 ⟨rfl, rfl⟩)
    | (go_at_call 80; refine (within_any _ _ _ _).mono ?_; rintro r w4 ⟨rfl, rfl⟩)
    | (go_at_call 95; refine (HKB.out _ (HC.out.below (by (repeat (first | (with_reducible exact Below.refl _ _) | ((with_reducible refine Below.setCell ?_ ?_ _); rotate_left 1; focus (first | (simp; done) | (simp; omega) | (simp at *; omega))) | ((with_reducible refine Below.alloc ?_ ?_ _); rotate_left 1; focus (first | (simp; done) | (simp; omega) | (simp at *; omega))) | (with_reducible refine Below.drew ?_) | ((with_reducible refine Calm.step (by assumption) ?_ ?_); rotate_left 1; focus (first | (simp; done) | (simp; omega) | (simp at *; omega)))))))).mono ?_; rintro r w5 ⟨A5, c5, rfl, hb5⟩; obtain ⟨hc5, hf5⟩ := bcell hb5; have hz5 := hb5.size; (try simp at hz5); have hz50 : w.heap.size < w5.heap.size := by omega))
  go_loopw [10, 40] (fun v i wr => ∃ k : Nat, k ≤ N ∧ i = (.int .i64 (k)) ∧ wr.ownsRow (w.heap.size + 1) 126 3 v k (flat3 (sweepL re le bl ma st lo p (zs.take k))) ∧ Below w.heap.size w wr ∧ Blk wr w.heap.size #[(.int .i64 (re)), (.int .i64 (le)), (.int .i64 (bl)), (.int .i64 (ma)), (.int .i64 (st)), (.int .i64 (lo))]) (fun _ i _ => N - (intOf i).toNat)
  case atStart => exact ⟨0, Nat.zero_le _, rfl, World.ownsRow_nil _ _ _ _, by (repeat (first | (with_reducible exact Below.refl _ _) | ((with_reducible refine Below.setCell ?_ ?_ _); rotate_left 1; focus (first | (simp; done) | (simp; omega) | (simp at *; omega))) | ((with_reducible refine Below.alloc ?_ ?_ _); rotate_left 1; focus (first | (simp; done) | (simp; omega) | (simp at *; omega))) | (with_reducible refine Below.drew ?_) | ((with_reducible refine Calm.step (by assumption) ?_ ?_); rotate_left 1; focus (first | (simp; done) | (simp; omega) | (simp at *; omega))))), by (repeat (first | ((with_reducible refine Blk.at_ ?_); focus (first | rfl | (simp; done) | (simp; omega))) | (with_reducible refine Blk.alloc ?_ _) | (with_reducible refine Blk.below ?_ (by with_reducible assumption)) | (with_reducible refine Blk.drew ?_)))⟩
  case round =>
    clear hc hf hc5 hf5
    obtain ⟨k, hk, rfl, hown, hB, K⟩ := hrel
    have hsz := hB.size
    have hKlt := K.lt
    have d0 := K.cell 0 (.int .i64 (re)) rfl
    have d1 := K.cell 1 (.int .i64 (le)) rfl
    have d2 := K.cell 2 (.int .i64 (bl)) rfl
    have d3 := K.cell 3 (.int .i64 (ma)) rfl
    have d4 := K.cell 4 (.int .i64 (st)) rfl
    have d5 := K.cell 5 (.int .i64 (lo)) rfl
    have HO := Lib.hid hown
    clear hown
    by_cases hlt : k < N
    · have hlt2 : k < zs.length := by rw [← HN.out]; exact hlt
      obtain ⟨b, o, rfl, l1, k1⟩ := HC.out (by omega)
      have x1 := (hB.cell (p := ⟨b, o + k, none⟩) l1).trans (k1 k hlt2)
      have hx8 := HZ.out _ (getD_mem hlt2)
      have HS := Lib.hid (sweepL_succ re le bl ma st lo p hlt2)
      clear k1 hlt2
      obtain ⟨x, hx⟩ : ∃ x, x = zs.getD k 0 := ⟨_, rfl⟩
      rw [← hx] at x1 hx8
      have HX := Lib.hid hx
      clear hx
      have hF := fit_of HD.out hx8
      obtain ⟨⟨v1, v2⟩, v3, v4⟩ := v_bds hF
      obtain ⟨p1, p2⟩ := HP.out
      have q1 : Bd 34426880000000000 (vN re le bl ma st lo x) := ⟨by omega, by omega⟩
      obtain ⟨u1, u2⟩ := q1.mul (show Bd 100 (100 - p) from ⟨by omega, by omega⟩) (by omega)
      obtain ⟨u3, u4⟩ := q1.mul (show Bd 150 (100 + p) from ⟨by omega, by omega⟩) (by omega)
      have u5 : 0 ≤ vN re le bl ma st lo x * (100 + p) := Int.mul_nonneg v1 (by omega)
      have u6 : 0 ≤ vN re le bl ma st lo x * (100 - p) := Int.mul_nonneg v1 (by omega)
      have z1 : ¬ vD ma st lo x * 100 = 0 := by omega
      obtain ⟨y1, y2⟩ := IntWalk.tdiv_le (vN re le bl ma st lo x * (100 - p)) (vD ma st lo x * 100) (by omega) (by omega)
      obtain ⟨y3, y4⟩ := IntWalk.tdiv_le (vN re le bl ma st lo x * (100 + p) + vD ma st lo x * 100 - 1) (vD ma st lo x * 100) (by omega) (by omega)
      clear q1
      go_wp2_with (go_at_call 98; refine (level_any _ _ _ _ _ _ _ _ hF).mono ?_; rintro r w6 ⟨rfl, hb6⟩; obtain ⟨hc6, hf6⟩ := bcell hb6)
      refine Rel.region2 19 (by kernel_rfl) (by kernel_rfl) (by kernel_rfl) (by kernel_rfl) ?_
      simp only [List.take_succ_cons, List.take_zero, List.drop_succ_cons, List.drop_zero, List.filterMap_cons, List.filterMap_nil]
      repeat (first | (apply Rel.op; (focus rfl); (focus (intro a W hb hd hbase; obtain ⟨hc, hf⟩ := bcell hb; clear hb hf; simp [Rel.deps, Rel.dep1, Act.eval] at hd; simp only [Act.eval, List.mem_cons, List.not_mem_nil, not_or, and_imp, or_false, Array.getD_eq_getD_getElem?] at hbase; go_simp; (try go_bits); (try rfl); done)); (try simp only [List.nil_append, List.cons_append])) | (apply Rel.alloc; (focus rfl); (focus (intro a W; go_simp; refine ⟨?_, ?_⟩; rfl; rfl)); (try simp only [List.nil_append, List.cons_append])) | (apply Rel.alloc; (focus rfl); (focus (intro a W; go_simp; rfl)); (try simp only [List.nil_append, List.cons_append])) | (apply Rel.build; (focus rfl); (focus (intro a W hb hd hbase; obtain ⟨hc, hf⟩ := bcell hb; clear hb hf; simp [Rel.deps, Rel.dep1, Act.eval] at hd; simp only [Act.eval, List.mem_cons, List.not_mem_nil, not_or, and_imp, or_false, Array.getD_eq_getD_getElem?] at hbase; go_simp; (first | rfl | (refine ⟨⟨?_, ?_⟩, ?_⟩; rfl; rfl; rfl) | (refine ⟨?_, ?_⟩; rfl; rfl)))); (try simp only [List.nil_append, List.cons_append])))
      refine Rel.done ?_
      intro x w7 hb7 hx
      simp only [Rel.facts, Nat.zero_add, Nat.reduceAdd] at hx
      obtain ⟨e0, e1, e2, e3, e4, e5, e6, e7, e8, e9, e10, e11, e12, e13, e14, e15, e16, e17, ⟨sl, e18, slB, slk⟩, _⟩ := hx
      simp only [Rel.fill, Nat.zero_add, Nat.reduceAdd, e0, e1, e2, e3, e4, e5, e6, e7, e8, e9, e10, e11, e12, e13, e14, e15, e16, e17, e18]
      simp only [Act.put, List.setIfInBounds_toArray, List.set_cons_zero, List.set_cons_succ]
      clear e0 e1 e2 e3 e4 e5 e6 e7 e8 e9 e10 e11 e12 e13 e14 e15 e16 e17 e18
      clear x
      obtain ⟨hb7c, hb7f⟩ := bcell hb7
      have hb7z := hb7.size
      (try simp at hb7z)
      (try have hb7z0 : w.heap.size < w7.heap.size := by omega)
      (try have hb7z1 : w.heap.size + 1 < w7.heap.size := by omega)
      (try have hb7z2 : w.heap.size + 1 + 1 < w7.heap.size := by omega)
      (try have hb7z3 : w.heap.size + 1 + 1 + 1 < w7.heap.size := by omega)
      (try have hb7z4 : w.heap.size + 1 + 1 + 1 + 1 < w7.heap.size := by omega)
      (try have hb7z5 : w.heap.size + 1 + 1 + 1 + 1 + 1 < w7.heap.size := by omega)
      have ho1 := ownsRow_below HO.out (hb6.trans (Below.mono hb7 hb6.size))
      have s0 := slk.cell 0 (.int .i64 (x)) rfl
      have s1 := slk.cell 1 (.int .i64 (vN re le bl ma st lo x * (100 - p) / (vD ma st lo x * 100))) rfl
      have s2 := slk.cell 2 (.int .i64 ((vN re le bl ma st lo x * (100 + p) + vD ma st lo x * 100 - 1) / (vD ma st lo x * 100))) rfl
      refine wpList_append_own _ rfl _ _ 110 rfl (w.heap.size + 1) 126 i0 _ 3 24 Tryd.underlying110 hi iz0 iz1 iz2 rfl (by decide) _ _ _ rfl ho1 ⟨sl, 0, none⟩ 1 1 [(.int .i64 (x)), (.int .i64 (vN re le bl ma st lo x * (100 - p) / (vD ma st lo x * 100))), (.int .i64 ((vN re le bl ma st lo x * (100 + p) + vD ma st lo x * 100 - 1) / (vD ma st lo x * 100)))] rfl rfl ?c1 ?c2 ?c3 ?c4 ?c5 ?_
      case c1 =>
        intro j u hj
        match j, hj with
        | 0, hj => simp at hj; subst hj; exact s0
        | 1, hj => simp at hj; subst hj; exact s1
        | 2, hj => simp at hj; subst hj; exact s2
      case c2 => intro u hu; simp at hu; rcases hu with rfl | rfl | rfl <;> rfl
      case c3 => unfold maxLen; omega
      case c4 => omega
      case c5 => have := hb6.size; omega
      intro v' w8 hown' hgrow _
      have hB7 : Below w.heap.size w w7 := hB.trans (Below.mono (hb6.trans (Below.mono hb7 hb6.size)) hsz)
      have hB8 : Below (w.heap.size + 1) w7 w8 := (Below.refl _ _).grown hgrow (by have := hb6.size; omega) (fun j hj => (HO.out.lt j hj).1)
      have K8 := ((K.below hb6).below hb7).of (Nat.lt_succ_self _) hB8
      clear hgrow
      have HO8 := Lib.hid hown'
      clear hown'
      go_wp2
      go_roundw
      case rel => exact ⟨k + 1, by omega, by go_num, by rw [HS.out, flat3_append, ← HX.out]; simpa [flat3, sweep1] using HO8.out, hB7.trans (Below.mono hB8 (by omega)), K8⟩
      case measure => simp [intOf]; omega
    · obtain rfl : k = N := by omega
      have e : zs.take k = zs := by rw [HN.out]; exact List.take_length
      have hown := HO.out
      rw [e] at hown
      have HO2 := Lib.hid hown
      clear hown e
      go_wp2
      go_ret2
      exact ⟨_, rfl, HO2.out, hB⟩
end Go.Proofs.YtpkldjlljoledaaDoor

/- The text of the example's driver. -/
namespace Go.Proofs.YtpkldjlljoledaaDoor
open Go.RowKit
open Calm (bcell Blk)

theorem itoa0 (w : World) : Calls Tryd.prog 107 #[(.int .i64 (0))] w fun r w' => r = .returned (.string ⟨#[48]⟩) ∧ w = w' := by
  go_enter Tryd.func107, Tryd.ntmps107
  go_wp2
  go_ret
  exact ⟨rfl, rfl⟩
theorem itoa1 (w : World) : Calls Tryd.prog 107 #[(.int .i64 (1))] w fun r w' => r = .returned (.string ⟨#[49]⟩) ∧ w = w' := by
  go_enter Tryd.func107, Tryd.ntmps107
  go_wp2
  go_ret
  exact ⟨rfl, rfl⟩
theorem itoa2 (w : World) : Calls Tryd.prog 107 #[(.int .i64 (2))] w fun r w' => r = .returned (.string ⟨#[50]⟩) ∧ w = w' := by
  go_enter Tryd.func107, Tryd.ntmps107
  go_wp2
  go_ret
  exact ⟨rfl, rfl⟩
theorem itoa4 (w : World) : Calls Tryd.prog 107 #[(.int .i64 (4))] w fun r w' => r = .returned (.string ⟨#[52]⟩) ∧ w = w' := by
  go_enter Tryd.func107, Tryd.ntmps107
  go_wp2
  go_ret
  exact ⟨rfl, rfl⟩
theorem itoa6 (w : World) : Calls Tryd.prog 107 #[(.int .i64 (6))] w fun r w' => r = .returned (.string ⟨#[54]⟩) ∧ w = w' := by
  go_enter Tryd.func107, Tryd.ntmps107
  go_wp2
  go_ret
  exact ⟨rfl, rfl⟩
def preB (k : Int) : Array UInt8 := if k = 0 then #[100, 114, 105, 118, 101, 114] else if k = 1 then #[100, 114, 105, 118, 101, 114, 32, 54] else if k = 2 then #[100, 114, 105, 118, 101, 114, 32, 54, 32, 48] else if k = 3 then #[100, 114, 105, 118, 101, 114, 32, 54, 32, 48, 32, 50] else if k = 4 then #[100, 114, 105, 118, 101, 114, 32, 54, 32, 48, 32, 50, 32, 49] else if k = 5 then #[100, 114, 105, 118, 101, 114, 32, 54, 32, 48, 32, 50, 32, 49, 32, 52] else #[100, 114, 105, 118, 101, 114, 32, 54, 32, 48, 32, 50, 32, 49, 32, 52, 32, 49]
theorem pindex0 : ∀ w : World, (Instr.index 138 (.agg #[(.int .i64 (6)), (.int .i64 (0)), (.int .i64 (2)), (.int .i64 (1)), (.int .i64 (4)), (.int .i64 (1))]) (.int .i64 0)).run Tryd.prog w = .ok (.int .i64 (6)) w := fun _ => by kernel_rfl
theorem pindex1 : ∀ w : World, (Instr.index 138 (.agg #[(.int .i64 (6)), (.int .i64 (0)), (.int .i64 (2)), (.int .i64 (1)), (.int .i64 (4)), (.int .i64 (1))]) (.int .i64 1)).run Tryd.prog w = .ok (.int .i64 (0)) w := fun _ => by kernel_rfl
theorem pindex2 : ∀ w : World, (Instr.index 138 (.agg #[(.int .i64 (6)), (.int .i64 (0)), (.int .i64 (2)), (.int .i64 (1)), (.int .i64 (4)), (.int .i64 (1))]) (.int .i64 2)).run Tryd.prog w = .ok (.int .i64 (2)) w := fun _ => by kernel_rfl
theorem pindex3 : ∀ w : World, (Instr.index 138 (.agg #[(.int .i64 (6)), (.int .i64 (0)), (.int .i64 (2)), (.int .i64 (1)), (.int .i64 (4)), (.int .i64 (1))]) (.int .i64 3)).run Tryd.prog w = .ok (.int .i64 (1)) w := fun _ => by kernel_rfl
theorem pindex4 : ∀ w : World, (Instr.index 138 (.agg #[(.int .i64 (6)), (.int .i64 (0)), (.int .i64 (2)), (.int .i64 (1)), (.int .i64 (4)), (.int .i64 (1))]) (.int .i64 4)).run Tryd.prog w = .ok (.int .i64 (4)) w := fun _ => by kernel_rfl
theorem pindex5 : ∀ w : World, (Instr.index 138 (.agg #[(.int .i64 (6)), (.int .i64 (0)), (.int .i64 (2)), (.int .i64 (1)), (.int .i64 (4)), (.int .i64 (1))]) (.int .i64 5)).run Tryd.prog w = .ok (.int .i64 (1)) w := fun _ => by kernel_rfl
theorem sample_err : drvErr 6 0 2 1 4 1 = 0 := by decide
set_option maxRecDepth 100000 in
set_option maxHeartbeats 2000000 in
theorem print_sample (w : World) (hL : Lim w) :
    Calls Tryd.prog 70 #[.agg #[(.int .i64 (6)), (.int .i64 (0)), (.int .i64 (2)), (.int .i64 (1)), (.int .i64 (4)), (.int .i64 (1))]] w fun r w' => r = .returned (.tuple #[.string ⟨#[100, 114, 105, 118, 101, 114, 32, 54, 32, 48, 32, 50, 32, 49, 32, 52, 32, 49]⟩, (.int .i64 (0))]) ∧ Below w.heap.size w w' := by
  have h := sample_err
  go_enter Tryd.func70, Tryd.ntmps70
  go_wp2_with (first | (go_at_call 23; refine (checkDriver_any _ _ _ _ _ _ _ (hL.below (by repeat (first | (with_reducible exact Below.refl _ _) | ((with_reducible refine Below.setCell ?_ ?_ _); rotate_left 1; focus (first | (simp; done) | (simp; omega) | (simp at *; omega))) | ((with_reducible refine Below.alloc ?_ ?_ _); rotate_left 1; focus (first | (simp; done) | (simp; omega) | (simp at *; omega))) | (with_reducible refine Below.drew ?_) | ((with_reducible refine Calm.step (by assumption) ?_ ?_); rotate_left 1; focus (first | (simp; done) | (simp; omega) | (simp at *; omega))))))).mono ?_; rintro r w1 ⟨rfl, hb⟩; obtain ⟨hc, hf⟩ := bcell hb; have hz := hb.size; (try simp at hz); (try have hz0 : w.heap.size < w1.heap.size := by omega); (try have hz1 : w.heap.size + 1 < w1.heap.size := by omega); (try have hz2 : w.heap.size + 1 + 1 < w1.heap.size := by omega); (try have hz3 : w.heap.size + 1 + 1 + 1 < w1.heap.size := by omega); (try have hz4 : w.heap.size + 1 + 1 + 1 + 1 < w1.heap.size := by omega); (try have hz5 : w.heap.size + 1 + 1 + 1 + 1 + 1 < w1.heap.size := by omega); (try have hz6 : w.heap.size + 1 + 1 + 1 + 1 + 1 + 1 < w1.heap.size := by omega)) | (go_at_call 79; refine (numbers_any _ _ _ _ _ _ _).mono ?_; rintro r w1 ⟨rfl, hb⟩; obtain ⟨hc, hf⟩ := bcell hb; have hz := hb.size; (try simp at hz); (try have hz0 : w.heap.size < w1.heap.size := by omega); (try have hz1 : w.heap.size + 1 < w1.heap.size := by omega); (try have hz2 : w.heap.size + 1 + 1 < w1.heap.size := by omega); (try have hz3 : w.heap.size + 1 + 1 + 1 < w1.heap.size := by omega); (try have hz4 : w.heap.size + 1 + 1 + 1 + 1 < w1.heap.size := by omega); (try have hz5 : w.heap.size + 1 + 1 + 1 + 1 + 1 < w1.heap.size := by omega); (try have hz6 : w.heap.size + 1 + 1 + 1 + 1 + 1 + 1 < w1.heap.size := by omega)))
  clear h
  have kb : Below w.heap.size w w1 := by (repeat (first | (with_reducible exact Below.refl _ _) | ((with_reducible refine Below.setCell ?_ ?_ _); rotate_left 1; focus (first | (simp; done) | (simp; omega) | (simp at *; omega))) | ((with_reducible refine Below.alloc ?_ ?_ _); rotate_left 1; focus (first | (simp; done) | (simp; omega) | (simp at *; omega))) | (with_reducible refine Below.drew ?_) | ((with_reducible refine Calm.step (by assumption) ?_ ?_); rotate_left 1; focus (first | (simp; done) | (simp; omega) | (simp at *; omega)))))
  go_loop [5, 15] (fun t i => ∃ k : Int, 0 ≤ k ∧ k ≤ 6 ∧ i = (.int .i64 (k)) ∧ t = .string ⟨preB k⟩) (fun _ i => 6 - (intOf i).toNat)
  case atStart => exact ⟨0, by omega, by omega, rfl, by simp [preB]⟩
  case round =>
    obtain ⟨k, hk0, hk, rfl, rfl⟩ := hrel
    have hkk : k = 0 ∨ k = 1 ∨ k = 2 ∨ k = 3 ∨ k = 4 ∨ k = 5 ∨ k = 6 := by omega
    rcases hkk with rfl | rfl | rfl | rfl | rfl | rfl | rfl
    · have ix := pindex0
      rw [show preB 0 = #[100, 114, 105, 118, 101, 114] from by simp [preB]]
      go_wp2_with (go_at_call 107; refine (itoa6 _).mono ?_; rintro r w2 ⟨rfl, rfl⟩)
      go_round
      case rel => exact ⟨1, by omega, by omega, rfl, by simp [preB]; kernel_rfl⟩
      case measure => simp [intOf]
    · have ix := pindex1
      rw [show preB 1 = #[100, 114, 105, 118, 101, 114, 32, 54] from by simp [preB]]
      go_wp2_with (go_at_call 107; refine (itoa0 _).mono ?_; rintro r w2 ⟨rfl, rfl⟩)
      go_round
      case rel => exact ⟨2, by omega, by omega, rfl, by simp [preB]; kernel_rfl⟩
      case measure => simp [intOf]
    · have ix := pindex2
      rw [show preB 2 = #[100, 114, 105, 118, 101, 114, 32, 54, 32, 48] from by simp [preB]]
      go_wp2_with (go_at_call 107; refine (itoa2 _).mono ?_; rintro r w2 ⟨rfl, rfl⟩)
      go_round
      case rel => exact ⟨3, by omega, by omega, rfl, by simp [preB]; kernel_rfl⟩
      case measure => simp [intOf]
    · have ix := pindex3
      rw [show preB 3 = #[100, 114, 105, 118, 101, 114, 32, 54, 32, 48, 32, 50] from by simp [preB]]
      go_wp2_with (go_at_call 107; refine (itoa1 _).mono ?_; rintro r w2 ⟨rfl, rfl⟩)
      go_round
      case rel => exact ⟨4, by omega, by omega, rfl, by simp [preB]; kernel_rfl⟩
      case measure => simp [intOf]
    · have ix := pindex4
      rw [show preB 4 = #[100, 114, 105, 118, 101, 114, 32, 54, 32, 48, 32, 50, 32, 49] from by simp [preB]]
      go_wp2_with (go_at_call 107; refine (itoa4 _).mono ?_; rintro r w2 ⟨rfl, rfl⟩)
      go_round
      case rel => exact ⟨5, by omega, by omega, rfl, by simp [preB]; kernel_rfl⟩
      case measure => simp [intOf]
    · have ix := pindex5
      rw [show preB 5 = #[100, 114, 105, 118, 101, 114, 32, 54, 32, 48, 32, 50, 32, 49, 32, 52] from by simp [preB]]
      go_wp2_with (go_at_call 107; refine (itoa1 _).mono ?_; rintro r w2 ⟨rfl, rfl⟩)
      go_round
      case rel => exact ⟨6, by omega, by omega, rfl, by simp [preB]; kernel_rfl⟩
      case measure => simp [intOf]
    · rw [show preB 6 = #[100, 114, 105, 118, 101, 114, 32, 54, 32, 48, 32, 50, 32, 49, 32, 52, 32, 49] from by simp [preB]]
      go_wp2
      go_ret2
      exact ⟨rfl, kb⟩
end Go.Proofs.YtpkldjlljoledaaDoor

/- What awake() calls, at the document's numbers. -/
namespace Go.Proofs.YtpkldjlljoledaaDoor
open Go.RowKit
open Calm (bcell Blk)

theorem aw_mech (w : World) (hL : Lim w) : Calls Tryd.prog 12 #[.agg #[(.int .i64 (6)), (.int .i64 (0)), (.int .i64 (2)), (.int .i64 (1)), (.int .i64 (4)), (.int .i64 (1))], (.int .i64 (2))] w fun r w' => r = .returned (.tuple #[.agg #[(.int .i64 (0)), (.int .i64 (2))], (.int .i64 (0))]) ∧ Below w.heap.size w w' :=
  Mechanics_ok 6 0 2 1 4 1 2 w hL (by decide)
theorem aw_imp2 (w : World) (hL : Lim w) : Calls Tryd.prog 13 #[.agg #[(.int .i64 (6)), (.int .i64 (0)), (.int .i64 (2)), (.int .i64 (1)), (.int .i64 (4)), (.int .i64 (1))], (.int .i64 (2))] w fun r w' => r = .returned (.tuple #[.agg #[(.int .i64 (0)), (.int .i64 (20)), (.int .i64 (0)), (.int .i64 (2))], (.int .i64 (0))]) ∧ Below w.heap.size w w' :=
  Impedance_ok 6 0 2 1 4 1 2 w hL (by decide)
theorem aw_exc (w : World) (hL : Lim w) : Calls Tryd.prog 14 #[.agg #[(.int .i64 (6)), (.int .i64 (0)), (.int .i64 (2)), (.int .i64 (1)), (.int .i64 (4)), (.int .i64 (1))], (.int .i64 (2))] w fun r w' => r = .returned (.tuple #[.agg #[(.int .i64 (2)), (.int .i64 (0)), (.int .i64 (0)), (.int .i64 (20))], (.int .i64 (0))]) ∧ Below w.heap.size w w' :=
  Excursion_ok 6 0 2 1 4 1 2 w hL (by decide)
theorem aw_out (w : World) (hL : Lim w) : Calls Tryd.prog 15 #[.agg #[(.int .i64 (6)), (.int .i64 (0)), (.int .i64 (2)), (.int .i64 (1)), (.int .i64 (4)), (.int .i64 (1))], (.int .i64 (2))] w fun r w' => r = .returned (.tuple #[.agg #[(.int .i64 (-8)), (.int .i64 (0)), (.int .i64 (0)), (.int .i64 (20))], (.int .i64 (0))]) ∧ Below w.heap.size w w' :=
  Output_ok 6 0 2 1 4 1 2 w hL (by decide)
theorem aw_imp1 (w : World) (hL : Lim w) : Calls Tryd.prog 13 #[.agg #[(.int .i64 (6)), (.int .i64 (0)), (.int .i64 (2)), (.int .i64 (1)), (.int .i64 (4)), (.int .i64 (1))], (.int .i64 (1))] w fun r w' => r = .returned (.tuple #[.agg #[(.int .i64 (18)), (.int .i64 (10)), (.int .i64 (3)), (.int .i64 (1))], (.int .i64 (0))]) ∧ Below w.heap.size w w' :=
  Impedance_ok 6 0 2 1 4 1 1 w hL (by decide)
theorem aw_res (w : World) (hL : Lim w) : Calls Tryd.prog 37 #[.agg #[(.int .i64 (6)), (.int .i64 (0)), (.int .i64 (2)), (.int .i64 (1)), (.int .i64 (4)), (.int .i64 (1))]] w fun r w' => r = .returned (.tuple #[.agg #[(.int .i64 (4)), (.int .i64 (1))], (.int .i64 (0))]) ∧ Below w.heap.size w w' :=
  resonance_ok 6 0 2 1 4 1 w hL (by decide)
theorem aw_qual (w : World) (hL : Lim w) : Calls Tryd.prog 38 #[.agg #[(.int .i64 (6)), (.int .i64 (0)), (.int .i64 (2)), (.int .i64 (1)), (.int .i64 (4)), (.int .i64 (1))]] w fun r w' => r = .returned (.tuple #[.agg #[(.int .i64 (4)), (.int .i64 (1)), (.int .i64 (9)), (.int .i64 (1)), (.int .i64 (36)), (.int .i64 (25))], (.int .i64 (0))]) ∧ Below w.heap.size w w' :=
  quality_ok 6 0 2 1 4 1 w hL (by decide)
theorem aw_box (w : World) (hL : Lim w) : Calls Tryd.prog 25 #[.agg #[(.int .i64 (6)), (.int .i64 (0)), (.int .i64 (2)), (.int .i64 (1)), (.int .i64 (4)), (.int .i64 (1))], .agg #[(.int .i64 (2)), (.int .i64 (1)), (.int .i64 (0)), (.int .i64 (1))], (.int .i64 (1))] w fun r w' => r = .returned (.tuple #[.agg #[(.int .i64 (-4)), (.int .i64 (40)), (.int .i64 (0)), (.int .i64 (6))], (.int .i64 (0))]) ∧ Below w.heap.size w w' :=
  Boxed_port 6 0 2 1 4 1 2 1 0 1 1 w hL (by decide) (by decide)
theorem aw_mov (w : World) (hL : Lim w) : Calls Tryd.prog 27 #[.agg #[(.int .i64 (6)), (.int .i64 (0)), (.int .i64 (2)), (.int .i64 (1)), (.int .i64 (4)), (.int .i64 (1))], .agg #[(.int .i64 (2)), (.int .i64 (1)), (.int .i64 (0)), (.int .i64 (1))], (.int .i64 (1))] w fun r w' => r = .returned (.tuple #[.agg #[(.int .i64 (2)), (.int .i64 (2)), (.int .i64 (-4)), (.int .i64 (40)), (.int .i64 (4)), (.int .i64 (0)), (.int .i64 (-4)), (.int .i64 (40))], (.int .i64 (0))]) ∧ Below w.heap.size w w' :=
  Moved_port 6 0 2 1 4 1 2 1 0 1 1 w hL (by decide) (by decide)
theorem aw_rad (w : World) (hL : Lim w) : Calls Tryd.prog 26 #[.agg #[(.int .i64 (6)), (.int .i64 (0)), (.int .i64 (2)), (.int .i64 (1)), (.int .i64 (4)), (.int .i64 (1))], .agg #[(.int .i64 (2)), (.int .i64 (1)), (.int .i64 (0)), (.int .i64 (1))], (.int .i64 (1))] w fun r w' => r = .returned (.tuple #[.agg #[(.int .i64 (2)), (.int .i64 (-2)), (.int .i64 (-4)), (.int .i64 (40))], (.int .i64 (0))]) ∧ Below w.heap.size w w' :=
  Radiated_port 6 0 2 1 4 1 2 1 0 1 1 w hL (by decide) (by decide)
theorem aw_tun (w : World) : Calls Tryd.prog 28 #[.agg #[(.int .i64 (2)), (.int .i64 (1)), (.int .i64 (0)), (.int .i64 (1))]] w fun r w' => r = .returned (.tuple #[.agg #[(.int .i64 (2)), (.int .i64 (1))], (.int .i64 (0))]) ∧ Below w.heap.size w w' :=
  tuning_ok 2 1 0 1 w (by decide) (by decide)
theorem aw_clo (w : World) (hL : Lim w) : Calls Tryd.prog 36 #[.agg #[(.int .i64 (6)), (.int .i64 (0)), (.int .i64 (2)), (.int .i64 (1)), (.int .i64 (4)), (.int .i64 (1))], (.int .i64 (5))] w fun r w' => r = .returned (.tuple #[.agg #[(.int .i64 (6)), (.int .i64 (0)), (.int .i64 (2)), (.int .i64 (1)), (.int .i64 (9)), (.int .i64 (1))], (.int .i64 (0))]) ∧ Below w.heap.size w w' :=
  closed_ok 6 0 2 1 4 1 5 w hL (by decide) (by decide)
theorem aw_box2 (w : World) (hL : Lim w) : Calls Tryd.prog 25 #[.agg #[(.int .i64 (6)), (.int .i64 (0)), (.int .i64 (2)), (.int .i64 (1)), (.int .i64 (4)), (.int .i64 (1))], .agg #[(.int .i64 (5)), (.int .i64 (0)), (.int .i64 (0)), (.int .i64 (0))], (.int .i64 (3))] w fun r w' => r = .returned (.tuple #[.agg #[(.int .i64 (0)), (.int .i64 (30)), (.int .i64 (0)), (.int .i64 (3))], (.int .i64 (0))]) ∧ Below w.heap.size w w' :=
  Boxed_shut 6 0 2 1 4 1 5 3 w hL (by decide)
theorem aw_wei (w : World) : Calls Tryd.prog 39 #[.agg #[(.int .i64 (4)), (.int .i64 (1))], .agg #[(.int .i64 (1)), (.int .i64 (1))], (.int .i64 (3))] w fun r w' => r = .returned (.tuple #[.agg #[(.int .i64 (1)), (.int .i64 (1))], .agg #[(.int .i64 (4)), (.int .i64 (1))], (.int .i64 (0))]) ∧ Below w.heap.size w w' :=
  weighed_ok 4 1 1 1 3 w (by decide) (by decide)
theorem aw_swe (w : World) (hL : Lim w) (A : Option Addr) (c : Nat) (hC : Cells w A [2]) : Calls Tryd.prog 61 #[.agg #[(.int .i64 (6)), (.int .i64 (0)), (.int .i64 (2)), (.int .i64 (1)), (.int .i64 (4)), (.int .i64 (1))], .slice A 1 c, (.int .i64 (10))] w fun r w' => ∃ v, r = .returned (.tuple #[v, (.int .i64 (0))]) ∧ w'.ownsRow (w.heap.size + 1) 126 3 v 1 (flat3 [(2, 90, 110)]) ∧ Below w.heap.size w w' :=
  Sweep_ok 6 0 2 1 4 1 10 A [2] c w hL hC (by decide) (by decide) (by decide) (by decide)
end Go.Proofs.YtpkldjlljoledaaDoor

/- SameInts; what awake() calls, at the document's numbers. -/
namespace Go.Proofs.YtpkldjlljoledaaDoor
open Go.RowKit
open Calm (bcell Blk)

theorem aw_reg (w : World) (hL : Lim w) (A : Option Addr) (c : Nat) (hC : RCells w A [(2, 90, 110)]) : Calls Tryd.prog 63 #[.agg #[(.int .i64 (6)), (.int .i64 (0)), (.int .i64 (2)), (.int .i64 (1)), (.int .i64 (4)), (.int .i64 (1)), (.int .i64 (2)), (.int .i64 (4)), (.int .i64 (1))], .slice A 1 c] w fun r w' => ∃ v, r = .returned (.tuple #[v, (.int .i64 (0))]) ∧ w'.ownsRow w.heap.size 30 6 v 1 (flat6 6 0 2 [(1, 4, 1)]) ∧ Below w.heap.size w w' := by
  have e : regD 6 0 2 1 4 1 2 4 1 [(2, 90, 110)] = [(1, 4, 1)] := by decide
  refine (Region_ok 6 0 2 1 4 1 2 4 1 A [(2, 90, 110)] c w hL hC (by decide) (by decide)).mono ?_
  rintro r w' ⟨h, hb⟩
  rw [e, if_neg (by decide)] at h
  obtain ⟨v, h1, h2⟩ := h
  exact ⟨v, h1, h2, hb⟩
theorem aw_con (w : World) (hL : Lim w) (A : Option Addr) (c : Nat) (hC : RCells w A [(2, 90, 110), (2, 0, 50)]) : Calls Tryd.prog 67 #[.agg #[(.int .i64 (6)), (.int .i64 (0)), (.int .i64 (2)), (.int .i64 (1)), (.int .i64 (4)), (.int .i64 (1)), (.int .i64 (2)), (.int .i64 (4)), (.int .i64 (1))], .slice A 2 c] w fun r w' => ∃ v, r = .returned (.tuple #[v, (.int .i64 (0))]) ∧ w'.ownsRow w.heap.size 3 1 v 2 (ints [0, 1]) ∧ Below w.heap.size w w' := by
  have e : confF 6 0 2 [(2, 90, 110), (2, 0, 50)] (drvs 1 4 1 2 4 1) (2 ^ [((2 : Int), (90 : Int), (110 : Int)), (2, 0, 50)].length) = some 3 := by decide
  refine (Conflict_ok 6 0 2 1 4 1 2 4 1 A [(2, 90, 110), (2, 0, 50)] c w hL hC (by decide) (by decide)).mono ?_
  rintro r w' ⟨v, h, hv, hb⟩
  rw [e] at h hv
  exact ⟨v, h, hv.2, hb⟩
theorem aw_lin1 (w : World) (A1 A2 : Option Addr) (c1 c2 : Nat) (h1 : Cells w A1 [60, 90, 100, 95, 70]) (h2 : Cells w A2 [30, 12, 10, 11, 25]) : Calls Tryd.prog 46 #[.agg #[.slice A1 5 c1, .slice A2 5 c2], (.int .i64 (82)), (.int .i64 (150))] w fun r w' => r = .returned (.tuple #[(.int .i64 (1)), (.int .i64 (0))]) ∧ Below w.heap.size w w' :=
  Linear_ok [60, 90, 100, 95, 70] [30, 12, 10, 11, 25] 82 150 A1 A2 c1 c2 w h1 h2 (by decide) (by decide) (by decide)
theorem aw_lin2 (w : World) (A1 A2 : Option Addr) (c1 c2 : Nat) (h1 : Cells w A1 [60, 90, 100, 95, 70]) (h2 : Cells w A2 [30, 12, 10, 11, 25]) : Calls Tryd.prog 46 #[.agg #[.slice A1 5 c1, .slice A2 5 c2], (.int .i64 (92)), (.int .i64 (150))] w fun r w' => r = .returned (.tuple #[(.int .i64 (0)), (.int .i64 (0))]) ∧ Below w.heap.size w w' :=
  Linear_ok [60, 90, 100, 95, 70] [30, 12, 10, 11, 25] 92 150 A1 A2 c1 c2 w h1 h2 (by decide) (by decide) (by decide)

set_option maxRecDepth 100000 in
set_option maxHeartbeats 4000000 in
theorem sameInts_any (A B : Option Addr) (a b : List Int) (ca cb : Nat) (w : World) (hA : Cells w A a) (hB : Cells w B b) (h1 : a.length ≤ 1000) (h2 : b.length ≤ 1000) :
    Calls Tryd.prog 71 #[.slice A a.length ca, .slice B b.length cb] w fun x w' => x = .returned (.bool (decide (a = b))) ∧ Below w.heap.size w w' := by
  obtain ⟨E, hE⟩ : ∃ E, E = decide (a = b) := ⟨_, rfl⟩
  have HE := Lib.hid hE
  have HCA := Lib.hid hA
  have HCB := Lib.hid hB
  obtain ⟨N, hN⟩ : ∃ N, N = a.length := ⟨_, rfl⟩
  obtain ⟨M, hM⟩ : ∃ M, M = b.length := ⟨_, rfl⟩
  have HN := Lib.hid hN
  have HM := Lib.hid hM
  rw [← hE]
  rw [← hN] at h1 ⊢
  rw [← hM] at h2 ⊢
  clear hE hA hB hN hM
  by_cases hnm : N = M
  · have HNM := Lib.hid hnm
    subst hnm
    go_enter Tryd.func71, Tryd.ntmps71
    go_wp2
    go_loopw [5] (fun i wr => ∃ k : Nat, k ≤ N ∧ i = (.int .i64 ((k : Nat))) ∧ (∀ j, j < k → a.getD j 0 = b.getD j 0) ∧ Below w.heap.size w wr) (fun i _ => N - (intOf i).toNat)
    case atStart => exact ⟨0, by omega, rfl, fun j hj => by omega, Below.refl _ _⟩
    case round =>
      obtain ⟨k, hk, rfl, hz, hBr⟩ := hrel
      have HZ := Lib.hid hz
      have HBR := Lib.hid hBr
      have hszr := hBr.size
      clear hz hBr
      by_cases hlt : k < N
      · have l1 : k < a.length := by rw [← HN.out]; exact hlt
        have l2 : k < b.length := by rw [← HM.out]; exact hlt
        obtain ⟨g, o, rfl, q1, k1⟩ := (HCA.out.below HBR.out) (by omega)
        obtain ⟨g', o', rfl, q2, k2⟩ := (HCB.out.below HBR.out) (by omega)
        have y1 := k1 k l1
        have y2 := k2 k l2
        obtain ⟨x, hx⟩ : ∃ x, x = a.getD k 0 := ⟨_, rfl⟩
        obtain ⟨y, hy⟩ : ∃ y, y = b.getD k 0 := ⟨_, rfl⟩
        rw [← hx] at y1
        rw [← hy] at y2
        have HX := Lib.hid hx
        have HY := Lib.hid hy
        clear k1 k2 hx hy l1 l2
        by_cases hxy : x = y
        · subst hxy
          go_wp2
          refine Calm.tail_below 8 (by kernel_rfl) (by kernel_rfl) ?_
          simp only [List.take_succ_cons, List.take_zero, List.drop_succ_cons, List.drop_zero]
          repeat (first | (apply Calm.op_move; (focus rfl); (focus (first | exact .inl rfl | exact .inr rfl)); (focus ((try simp only [Act.eval, Array.getD_eq_getD_getElem?, List.getElem?_toArray, List.getElem?_cons_succ, List.getElem?_cons_zero, Option.getD_some]); rfl)); (try simp only [Act.put, List.setIfInBounds_toArray, List.set_cons_zero, List.set_cons_succ])) | (apply Calm.op_not; (focus rfl); (try simp only [Act.put, List.setIfInBounds_toArray, List.set_cons_zero, List.set_cons_succ])) | (apply Calm.op; (focus rfl); (focus (intro W hb; obtain ⟨hc, hf⟩ := bcell hb; clear hb hf; go_simp; (try go_bits); (try rfl); done)); (try simp only [Act.put, List.setIfInBounds_toArray, List.set_cons_zero, List.set_cons_succ])))
          refine wpQuiet_nil ?_
          intro w2 hb2
          obtain ⟨hb2c, hb2f⟩ := bcell hb2
          have hb2z := hb2.size
          (try simp at hb2z)
          (try have hb2z0 : w.heap.size < w2.heap.size := by omega)
          (try have hb2z1 : w.heap.size + 1 < w2.heap.size := by omega)
          (try have hb2z2 : w.heap.size + 1 + 1 < w2.heap.size := by omega)
          (try have hb2z3 : w.heap.size + 1 + 1 + 1 < w2.heap.size := by omega)
          (try have hb2z4 : w.heap.size + 1 + 1 + 1 + 1 < w2.heap.size := by omega)
          (try have hb2z5 : w.heap.size + 1 + 1 + 1 + 1 + 1 < w2.heap.size := by omega)
          go_wp2
          go_roundw
          case rel =>
            refine ⟨k + 1, by omega, by go_num, fun j hj => ?_, HBR.out.trans (hb2.mono hszr)⟩
            rcases Nat.lt_or_ge j k with h | h
            · exact HZ.out j h
            · obtain rfl : j = k := by omega
              rw [← HX.out, ← HY.out]
          case measure => simp [intOf]; omega
        · have HEE := Lib.hid (show E = false by
            rw [HE.out]
            refine decide_eq_false (fun e => hxy ?_)
            rw [HX.out, HY.out, e])
          go_wp2
          refine Calm.tail_below 8 (by kernel_rfl) (by kernel_rfl) ?_
          simp only [List.take_succ_cons, List.take_zero, List.drop_succ_cons, List.drop_zero]
          repeat (first | (apply Calm.op_move; (focus rfl); (focus (first | exact .inl rfl | exact .inr rfl)); (focus ((try simp only [Act.eval, Array.getD_eq_getD_getElem?, List.getElem?_toArray, List.getElem?_cons_succ, List.getElem?_cons_zero, Option.getD_some]); rfl)); (try simp only [Act.put, List.setIfInBounds_toArray, List.set_cons_zero, List.set_cons_succ])) | (apply Calm.op_not; (focus rfl); (try simp only [Act.put, List.setIfInBounds_toArray, List.set_cons_zero, List.set_cons_succ])) | (apply Calm.op; (focus rfl); (focus (intro W hb; obtain ⟨hc, hf⟩ := bcell hb; clear hb hf; go_simp; (try go_bits); (try rfl); done)); (try simp only [Act.put, List.setIfInBounds_toArray, List.set_cons_zero, List.set_cons_succ])))
          refine wpQuiet_nil ?_
          intro w2 hb2
          obtain ⟨hb2c, hb2f⟩ := bcell hb2
          have hb2z := hb2.size
          (try simp at hb2z)
          (try have hb2z0 : w.heap.size < w2.heap.size := by omega)
          (try have hb2z1 : w.heap.size + 1 < w2.heap.size := by omega)
          (try have hb2z2 : w.heap.size + 1 + 1 < w2.heap.size := by omega)
          (try have hb2z3 : w.heap.size + 1 + 1 + 1 < w2.heap.size := by omega)
          (try have hb2z4 : w.heap.size + 1 + 1 + 1 + 1 < w2.heap.size := by omega)
          (try have hb2z5 : w.heap.size + 1 + 1 + 1 + 1 + 1 < w2.heap.size := by omega)
          go_wp2
          go_ret
          exact ⟨by rw [HEE.out]; rfl, HBR.out.trans (hb2.mono hszr)⟩
      · obtain rfl : k = N := by omega
        have HEE := Lib.hid (show E = true by
          rw [HE.out]
          refine decide_eq_true (List.ext_getElem? fun i => ?_)
          have hl : a.length = b.length := HN.out.symm.trans HM.out
          rcases Nat.lt_or_ge i a.length with h | h
          · have := HZ.out i (by rw [HN.out]; exact h)
            simpa [h, show i < b.length by omega] using this
          · rw [List.getElem?_eq_none h, List.getElem?_eq_none (by omega)])
        go_wp2
        go_ret
        exact ⟨by rw [HEE.out]; rfl, HBR.out⟩
  · have HEE := Lib.hid (show E = false by
      rw [HE.out]
      refine decide_eq_false (fun e => hnm ?_)
      rw [HN.out, HM.out, e])
    have hnm2 : ¬ (N : Int) = (M : Int) := by omega
    go_enter Tryd.func71, Tryd.ntmps71
    go_wp2
    go_ret
    exact ⟨by rw [HEE.out]; rfl, Below.refl _ _⟩
end Go.Proofs.YtpkldjlljoledaaDoor

/- A cheaper check that the order of the text may be taken in a region whose order is open (for great regions). -/
namespace Go.Proofs.YtpkldjlljoledaaDoor
open Go.RowKit

def backAt (ops : Array Oper) (k : Nat) : Bool := match ops[k]? with
  | some o => o.after.all fun e => !Region.binds .any e || decide (e.on < k)
  | none => false
def fastHead (ops : Array Oper) (n : Nat) : Bool :=
  (List.range n).all fun k => match ops[k]? with
  | some ok => (ok.after.all fun e => !Region.binds .any e || decide (e.on < k)) && ((List.range ops.size).all fun j => decide (j ≤ k) || match ops[j]? with
      | some oj => oj.after.any (fun e => Region.binds .any e && e.on == k) || ok.apart ops oj
      | none => true)
  | none => false
theorem fastHead_at {ops : Array Oper} {n : Nat} (h : fastHead ops n = true) (k : Nat) (hk : k < n) : ∃ ok, ops[k]? = some ok ∧ (∀ e ∈ ok.after, Region.binds .any e = true → e.on < k) ∧
    ∀ j oj, ops[j]? = some oj → k < j → oj.after.any (fun e => Region.binds .any e && e.on == k) = true ∨ ok.apart ops oj = true := by
  have h1 := List.all_eq_true.1 h k (List.mem_range.2 hk)
  cases ho : ops[k]? with
  | none => simp [ho] at h1
  | some ok =>
    simp only [ho, Bool.and_eq_true] at h1
    refine ⟨ok, rfl, fun e he hb => ?_, fun j oj hj hkj => ?_⟩
    · have := Array.all_eq_true'.1 h1.1 e he
      simpa [hb] using this
    · have h2 := List.all_eq_true.1 h1.2 j (List.mem_range.2 (Array.getElem?_eq_some_iff.1 hj).1)
      simp only [hj] at h2
      have hn : decide (j ≤ k) = false := by simp; omega
      rw [hn, Bool.false_or, Bool.or_eq_true] at h2
      exact h2
theorem lexHead_of_fast {ops : Array Oper} {n g : Nat} (hn : n ≤ ops.size) (h : fastHead ops n = true) :
    ∀ (f k : Nat) (listed : Array Bool), k + f = n → listed.size = ops.size → (∀ j, listed.getD j false = decide (j < k)) →
      (∀ L : Array Bool, L.size = ops.size → (∀ j, L.getD j false = decide (j < n)) → Region.seqB .any ops g n L = true) → Region.lexHead .any ops g f k listed = true
  | 0, k, listed, hk, hs, hl, hT => by
    obtain rfl : k = n := by omega
    exact hT listed hs hl
  | f + 1, k, listed, hk, hs, hl, hT => by
    obtain ⟨ok, hok, hb, hfr⟩ := fastHead_at h k (by omega)
    have hks : k < listed.size := by omega
    have htrue : ∀ j, j < listed.size → listed.getD j true = decide (j < k) := by
      intro j hj
      have := hl j
      simpa [Array.getD, hj] using this
    unfold Region.lexHead
    simp only [Bool.and_eq_true]
    refine ⟨⟨?_, ?_⟩, ?_⟩
    · rw [List.contains_iff_mem]
      refine mem_ready.2 ⟨by rw [htrue k hks]; simp, ok, hok, fun e he hbe => by rw [hl]; simpa using hb e he hbe⟩
    · unfold Region.free
      simp only [hok, List.all_eq_true, List.mem_range]
      intro j hj
      rw [htrue j (by omega)]
      rcases Nat.lt_trichotomy j k with h1 | h1 | h1
      · simp [h1]
      · simp [h1]
      · cases hoj : ops[j]? with
        | none => simp
        | some oj =>
          rcases hfr j oj hoj h1 with h2 | h2
          · simp only [h2, Bool.true_or, Bool.or_true]
          · simp only [h2, Bool.or_true]
    · refine lexHead_of_fast hn h f (k + 1) _ (by omega) (by simp [hs]) (fun j => ?_) hT
      by_cases hjk : j = k
      · subst hjk
        simp [Array.getD, hks]
      · have := hl j
        have e : (listed.setIfInBounds k true).getD j false = listed.getD j false := by
          simp only [Array.getD_eq_getD_getElem?, Array.getElem?_setIfInBounds_ne (Ne.symm hjk)]
        rw [e, this]
        by_cases h2 : j < k
        · simp [h2, Nat.lt_succ_of_lt h2]
        · simp [h2]; omega
/-- the last of all is the tail. -/
theorem lexTail_of_fast {ops : Array Oper} {n : Nat} (h1 : Region.noSelect ops = true) (h2 : decide (n < ops.size) = true) (h3 : Region.sinkB .any ops n = true) (h4 : Region.chainB .any ops n = true) (h5 : fastHead ops n = true)
    (h6 : Region.seqB .any ops (ops.size - n) n (((List.range ops.size).map fun j => decide (j < n)).toArray) = true) : Region.lexTailB .any ops n = true := by
  unfold Region.lexTailB
  simp only [Bool.and_eq_true]
  refine ⟨⟨⟨⟨h1, h2⟩, h3⟩, h4⟩, lexHead_of_fast (by simpa using Nat.le_of_lt (of_decide_eq_true h2)) h5 n 0 _ (by omega) (by simp) (fun j => ?_) (fun L hL hl => ?_)⟩
  · rw [getD_replicate_false]; simp
  · have e : L = ((List.range ops.size).map fun j => decide (j < n)).toArray := by
      apply Array.ext
      · simp [hL]
      · intro j hj1 hj2
        have := hl j
        simp only [Array.getD, hj1, dite_true] at this
        simpa using this
    rw [e]
    exact h6
end Go.Proofs.YtpkldjlljoledaaDoor
