/- Part 11 of the texts of the claim: B2, B4, K3, EvR, Opn, Iter, Drv. -/
import Derived.Test.YtpkldjlljoledaaDoorMe7
import Derived.Test.YtpkldjlljoledaaDoorMe10
import Derived.Test.YtpkldjlljoledaaDoorMe8
import Derived.Test.YtpkldjlljoledaaDoorMe9
import Derived.Test.YtpkldjlljoledaaDoorMe1
import Derived.RangeFuncNested
import Derived.RangeFuncBound
import Derived.RangeFuncCalls
import Derived.RangeFuncLeaves

/- Contracts of package driver's readings: levels, and whether a driver fits one. -/
namespace Go.Proofs.YtpkldjlljoledaaDoor
open Go.RowKit
open Calm (bcell Blk)

def sq (a b : Int) : Int := a * a + b * b
theorem mul_self_nonneg (a : Int) : 0 ≤ a * a := by
  rcases Int.le_total 0 a with h | h
  · exact Int.mul_nonneg h h
  · exact Int.mul_nonneg_of_nonpos_of_nonpos h h
theorem sq_bd {M a b : Int} (h1 : Bd M a) (h2 : Bd M b) (hM : 0 ≤ M) : 0 ≤ sq a b ∧ sq a b ≤ 2 * (M * M) := by
  obtain ⟨_, e1⟩ := h1.mul h1 hM
  obtain ⟨_, e2⟩ := h2.mul h2 hM
  have p1 := mul_self_nonneg a
  have p2 := mul_self_nonneg b
  unfold sq
  omega
theorem square_any (a b : Int) (w : World) (h1 : Bd 1000000000 a) (h2 : Bd 1000000000 b) :
    Calls Tryd.prog 114 #[.agg #[(.int .i64 (a)), (.int .i64 (b))]] w fun r w' => r = .returned (.int .i64 (sq a b)) ∧ Below w.heap.size w w' := by
  obtain ⟨e1, e2⟩ := h1.mul h1 (by omega)
  obtain ⟨e3, e4⟩ := h2.mul h2 (by omega)
  have p1 := mul_self_nonneg a
  have p2 := mul_self_nonneg b
  go_enter Tryd.func114, Tryd.ntmps114
  go_wp2
  go_ret
  refine ⟨rfl, ?_⟩
  repeat (first | (with_reducible exact Below.refl _ _) | ((with_reducible refine Below.setCell ?_ ?_ _); rotate_left 1; focus (first | (simp; done) | (simp; omega) | (simp at *; omega))) | ((with_reducible refine Below.alloc ?_ ?_ _); rotate_left 1; focus (first | (simp; done) | (simp; omega) | (simp at *; omega))) | (with_reducible refine Below.drew ?_) | ((with_reducible refine Calm.step (by assumption) ?_ ?_); rotate_left 1; focus (first | (simp; done) | (simp; omega) | (simp at *; omega))))

/-- the squared absolute value of an impedance, as a quotient. -/
def vN (re le bl ma st lo w : Int) : Int := sq (nRe re le bl ma st lo w) (nIm re le bl ma st lo w)
def vD (ma st lo w : Int) : Int := sq (mRe st ma w) (mIm lo w)
theorem v_bds {re le bl ma st lo w0 : Int} (hF : Fit re le bl ma st lo w0) : (0 ≤ vN re le bl ma st lo w0 ∧ vN re le bl ma st lo w0 ≤ 34426880000000000) ∧ 1 ≤ vD ma st lo w0 ∧ vD ma st lo w0 ≤ 800000000 := by
  obtain ⟨m1, m2⟩ := hF.mech
  obtain ⟨n1, n2⟩ := hF.num
  have h1 := sq_bd n1 n2 (by omega)
  have h2 := sq_bd m1 m2 (by omega)
  refine ⟨⟨h1.1, by have := h1.2; unfold vN; omega⟩, ?_, by have := h2.2; unfold vD; omega⟩
  have p : 1 ≤ mIm lo w0 := by
    have := Int.mul_pos (show 0 < w0 by have := hF.w; omega) (show 0 < lo by have := hF.lo; omega)
    unfold mIm
    omega
  have q : 0 < mIm lo w0 * mIm lo w0 := Int.mul_pos (by omega) (by omega)
  have r := mul_self_nonneg (mRe st ma w0)
  unfold vD sq
  omega
theorem level_any (re le bl ma st lo w0 : Int) (w : World) (hF : Fit re le bl ma st lo w0) :
    Calls Tryd.prog 98 #[.agg #[(.int .i64 (re)), (.int .i64 (le)), (.int .i64 (bl)), (.int .i64 (ma)), (.int .i64 (st)), (.int .i64 (lo))], (.int .i64 (w0))] w fun r w' => r = .returned (.tuple #[(.int .i64 (vN re le bl ma st lo w0)), (.int .i64 (vD ma st lo w0))]) ∧ Below w.heap.size w w' := by
  obtain ⟨⟨m1, m2⟩, ⟨m3, m4⟩⟩ := hF.mech
  obtain ⟨⟨n1, n2⟩, ⟨n3, n4⟩⟩ := hF.num
  go_enter Tryd.func98, Tryd.ntmps98
  go_wp2_with (first | (go_at_call 75; refine (impedance_any _ _ _ _ _ _ _ _ hF).mono ?_; rintro r w1 ⟨rfl, hb⟩; obtain ⟨hc, hf⟩ := bcell hb; have hz := hb.size; (try simp at hz); (try have hz0 : w.heap.size < w1.heap.size := by omega); (try have hz1 : w.heap.size + 1 < w1.heap.size := by omega); (try have hz2 : w.heap.size + 1 + 1 < w1.heap.size := by omega); (try have hz3 : w.heap.size + 1 + 1 + 1 < w1.heap.size := by omega); (try have hz4 : w.heap.size + 1 + 1 + 1 + 1 < w1.heap.size := by omega); (try have hz5 : w.heap.size + 1 + 1 + 1 + 1 + 1 < w1.heap.size := by omega); (try have hz6 : w.heap.size + 1 + 1 + 1 + 1 + 1 + 1 < w1.heap.size := by omega)))
  refine Calm.all_below (by kernel_rfl) (by kernel_rfl) ?_
  repeat (first | (first | (apply Calm.op_move; (focus rfl); (focus (first | exact .inl rfl | exact .inr rfl)); (focus ((try simp only [Act.eval, Array.getD_eq_getD_getElem?, List.getElem?_toArray, List.getElem?_cons_succ, List.getElem?_cons_zero, Option.getD_some]); rfl)); (try simp only [Act.put, List.setIfInBounds_toArray, List.set_cons_zero, List.set_cons_succ])) | (apply Calm.op_not; (focus rfl); (try simp only [Act.put, List.setIfInBounds_toArray, List.set_cons_zero, List.set_cons_succ])) | (apply Calm.op; (focus rfl); (focus (intro W hb; obtain ⟨hc, hf⟩ := bcell hb; clear hb hf; go_simp; (try go_bits); (try rfl); done)); (try simp only [Act.put, List.setIfInBounds_toArray, List.set_cons_zero, List.set_cons_succ]))) | (apply Calm.op_call; (focus rfl); (focus (intro W hb; obtain ⟨hc, hf⟩ := bcell hb; clear hb hf; go_simp; refine ⟨?_, ?_⟩; rfl; rfl)); (focus (intro W hb; first | (go_at_call 114; exact Calm.call_below hb (square_any _ _ _ ⟨by omega, by omega⟩ ⟨by omega, by omega⟩)))); (try simp only [Act.put, List.setIfInBounds_toArray, List.set_cons_zero, List.set_cons_succ])))
  refine wpQuiet_nil ?_
  intro w2 hb2
  obtain ⟨hb2c, hb2f⟩ := bcell hb2
  have hb2z := hb2.size
  (try simp at hb2z)
  (try have hb2z0 : w.heap.size < w2.heap.size := by omega)
  (try have hb2z1 : w.heap.size + 1 < w2.heap.size := by omega)
  (try have hb2z2 : w.heap.size + 1 + 1 < w2.heap.size := by omega)
  (try have hb2z3 : w.heap.size + 1 + 1 + 1 < w2.heap.size := by omega)
  (try have hb2z4 : w.heap.size + 1 + 1 + 1 + 1 < w2.heap.size := by omega)
  (try have hb2z5 : w.heap.size + 1 + 1 + 1 + 1 + 1 < w2.heap.size := by omega)
  go_wp2
  go_ret2
  refine ⟨by simp [vN, vD], ?_⟩
  repeat (first | (with_reducible exact Below.refl _ _) | ((with_reducible refine Below.setCell ?_ ?_ _); rotate_left 1; focus (first | (simp; done) | (simp; omega) | (simp at *; omega))) | ((with_reducible refine Below.alloc ?_ ?_ _); rotate_left 1; focus (first | (simp; done) | (simp; omega) | (simp at *; omega))) | (with_reducible refine Below.drew ?_) | ((with_reducible refine Calm.step (by assumption) ?_ ?_); rotate_left 1; focus (first | (simp; done) | (simp; omega) | (simp at *; omega))))

/-- does a driver fit a reading. -/
def fitB (re le bl ma st lo w a b : Int) : Bool := decide (a * vD ma st lo w ≤ vN re le bl ma st lo w ∧ vN re le bl ma st lo w ≤ b * vD ma st lo w)
set_option maxHeartbeats 1000000 in
theorem fits_any (re le bl ma st lo w0 a b : Int) (w : World) (hF : Fit re le bl ma st lo w0) (ha : 0 ≤ a ∧ a ≤ 1000000) (hb' : 0 ≤ b ∧ b ≤ 1000000) :
    Calls Tryd.prog 117 #[.agg #[(.int .i64 (re)), (.int .i64 (le)), (.int .i64 (bl)), (.int .i64 (ma)), (.int .i64 (st)), (.int .i64 (lo))], .agg #[(.int .i64 (w0)), (.int .i64 (a)), (.int .i64 (b))]] w fun r w' => r = .returned (.bool (fitB re le bl ma st lo w0 a b)) ∧ Below w.heap.size w w' := by
  obtain ⟨⟨v1, v2⟩, v3, v4⟩ := v_bds hF
  have qa : Bd 1000000 a := ⟨by omega, by omega⟩
  have qb : Bd 1000000 b := ⟨by omega, by omega⟩
  have qd : Bd 800000000 (vD ma st lo w0) := ⟨by omega, by omega⟩
  obtain ⟨e1, e2⟩ := qa.mul qd (by omega)
  obtain ⟨e3, e4⟩ := qb.mul qd (by omega)
  clear qa qb qd ha hb'
  by_cases h1 : a * vD ma st lo w0 ≤ vN re le bl ma st lo w0
  · by_cases h2 : vN re le bl ma st lo w0 ≤ b * vD ma st lo w0
    · have hR : fitB re le bl ma st lo w0 a b = true := decide_eq_true ⟨h1, h2⟩
      rw [hR]
      clear hR
      go_enter Tryd.func117, Tryd.ntmps117
      go_wp2_with (first | (go_at_call 98; refine (level_any _ _ _ _ _ _ _ _ hF).mono ?_; rintro r w1 ⟨rfl, hb⟩; obtain ⟨hc, hf⟩ := bcell hb; have hz := hb.size; (try simp at hz); (try have hz0 : w.heap.size < w1.heap.size := by omega); (try have hz1 : w.heap.size + 1 < w1.heap.size := by omega); (try have hz2 : w.heap.size + 1 + 1 < w1.heap.size := by omega); (try have hz3 : w.heap.size + 1 + 1 + 1 < w1.heap.size := by omega); (try have hz4 : w.heap.size + 1 + 1 + 1 + 1 < w1.heap.size := by omega); (try have hz5 : w.heap.size + 1 + 1 + 1 + 1 + 1 < w1.heap.size := by omega); (try have hz6 : w.heap.size + 1 + 1 + 1 + 1 + 1 + 1 < w1.heap.size := by omega)))
      go_ret
      refine ⟨by first | rfl | (simp; omega), ?_⟩
      repeat (first | (with_reducible exact Below.refl _ _) | ((with_reducible refine Below.setCell ?_ ?_ _); rotate_left 1; focus (first | (simp; done) | (simp; omega) | (simp at *; omega))) | ((with_reducible refine Below.alloc ?_ ?_ _); rotate_left 1; focus (first | (simp; done) | (simp; omega) | (simp at *; omega))) | (with_reducible refine Below.drew ?_) | ((with_reducible refine Calm.step (by assumption) ?_ ?_); rotate_left 1; focus (first | (simp; done) | (simp; omega) | (simp at *; omega))))
    · have hR : fitB re le bl ma st lo w0 a b = false := decide_eq_false (fun h => h2 h.2)
      rw [hR]
      clear hR
      go_enter Tryd.func117, Tryd.ntmps117
      go_wp2_with (first | (go_at_call 98; refine (level_any _ _ _ _ _ _ _ _ hF).mono ?_; rintro r w1 ⟨rfl, hb⟩; obtain ⟨hc, hf⟩ := bcell hb; have hz := hb.size; (try simp at hz); (try have hz0 : w.heap.size < w1.heap.size := by omega); (try have hz1 : w.heap.size + 1 < w1.heap.size := by omega); (try have hz2 : w.heap.size + 1 + 1 < w1.heap.size := by omega); (try have hz3 : w.heap.size + 1 + 1 + 1 < w1.heap.size := by omega); (try have hz4 : w.heap.size + 1 + 1 + 1 + 1 < w1.heap.size := by omega); (try have hz5 : w.heap.size + 1 + 1 + 1 + 1 + 1 < w1.heap.size := by omega); (try have hz6 : w.heap.size + 1 + 1 + 1 + 1 + 1 + 1 < w1.heap.size := by omega)))
      go_ret
      refine ⟨by first | rfl | (simp; omega), ?_⟩
      repeat (first | (with_reducible exact Below.refl _ _) | ((with_reducible refine Below.setCell ?_ ?_ _); rotate_left 1; focus (first | (simp; done) | (simp; omega) | (simp at *; omega))) | ((with_reducible refine Below.alloc ?_ ?_ _); rotate_left 1; focus (first | (simp; done) | (simp; omega) | (simp at *; omega))) | (with_reducible refine Below.drew ?_) | ((with_reducible refine Calm.step (by assumption) ?_ ?_); rotate_left 1; focus (first | (simp; done) | (simp; omega) | (simp at *; omega))))
  · have hR : fitB re le bl ma st lo w0 a b = false := decide_eq_false (fun h => h1 h.1)
    rw [hR]
    clear hR
    go_enter Tryd.func117, Tryd.ntmps117
    go_wp2_with (first | (go_at_call 98; refine (level_any _ _ _ _ _ _ _ _ hF).mono ?_; rintro r w1 ⟨rfl, hb⟩; obtain ⟨hc, hf⟩ := bcell hb; have hz := hb.size; (try simp at hz); (try have hz0 : w.heap.size < w1.heap.size := by omega); (try have hz1 : w.heap.size + 1 < w1.heap.size := by omega); (try have hz2 : w.heap.size + 1 + 1 < w1.heap.size := by omega); (try have hz3 : w.heap.size + 1 + 1 + 1 < w1.heap.size := by omega); (try have hz4 : w.heap.size + 1 + 1 + 1 + 1 < w1.heap.size := by omega); (try have hz5 : w.heap.size + 1 + 1 + 1 + 1 + 1 < w1.heap.size := by omega); (try have hz6 : w.heap.size + 1 + 1 + 1 + 1 + 1 + 1 < w1.heap.size := by omega)))
    go_ret
    refine ⟨by first | rfl | (simp; omega), ?_⟩
    repeat (first | (with_reducible exact Below.refl _ _) | ((with_reducible refine Below.setCell ?_ ?_ _); rotate_left 1; focus (first | (simp; done) | (simp; omega) | (simp at *; omega))) | ((with_reducible refine Below.alloc ?_ ?_ _); rotate_left 1; focus (first | (simp; done) | (simp; omega) | (simp at *; omega))) | (with_reducible refine Below.drew ?_) | ((with_reducible refine Calm.step (by assumption) ?_ ?_); rotate_left 1; focus (first | (simp; done) | (simp; omega) | (simp at *; omega))))
end Go.Proofs.YtpkldjlljoledaaDoor

/- Contracts of package driver's 'kept', as it is used. -/
namespace Go.Proofs.YtpkldjlljoledaaDoor
open Go.RowKit
open Calm (bcell Blk)

theorem Tryd.infoI : (Tryd.prog.info? 3).map (fun i => (i.zero, i.size, i.bytes)) = some (some (.int .i64 0), 1, 8) := by kernel_rfl

theorem sweepBad_no (x : Int) (w : World) (h : rangeErr x 1 8 = 0) : Calls Tryd.prog 96 #[(.int .i64 (x))] w fun r w' => r = .returned (.bool false) ∧ w = w' := by
  go_enter Tryd.func96, Tryd.ntmps96
  go_wp2_with (first | (go_at_call 97; refine (checkW_any _ _).mono ?_; rintro r w1 ⟨rfl, rfl⟩))
  go_ret
  exact ⟨rfl, rfl⟩
theorem sweepBad_yes (x : Int) (w : World) (h : rangeErr x 1 8 = 3) : Calls Tryd.prog 96 #[(.int .i64 (x))] w fun r w' => r = .returned (.bool true) ∧ w = w' := by
  go_enter Tryd.func96, Tryd.ntmps96
  go_wp2_with (first | (go_at_call 97; refine (checkW_any _ _).mono ?_; rintro r w1 ⟨rfl, rfl⟩))
  go_ret
  exact ⟨rfl, rfl⟩

/-- a slice of n elements is handed back. -/
def SomeLen (n : Nat) (w : World) (e : Ending) (w' : World) : Prop := ∃ A c, e = .returned (.slice A n c) ∧ Below w.heap.size w w'
def keptBad (zs : List Int) : List Int := zs.filter (fun x => rangeErr x 1 8 != 0)
theorem keptBad_succ {zs : List Int} {k : Nat} (hk : k < zs.length) : keptBad (zs.take (k + 1)) = keptBad (zs.take k) ++ (if rangeErr (zs.getD k 0) 1 8 = 0 then [] else [zs.getD k 0]) := by
  rw [List.take_succ_eq_append_getElem hk]
  simp only [keptBad, List.filter_append, List.getD_eq_getElem?_getD, List.getElem?_eq_getElem hk, Option.getD_some]
  by_cases h : rangeErr zs[k] 1 8 = 0 <;> simp [h]
theorem keptBad_le (zs : List Int) (k : Nat) : (keptBad (zs.take k)).length ≤ k := Nat.le_trans (List.length_filter_le _ _) (List.length_take_le _ _)

set_option maxHeartbeats 2000000 in
set_option maxRecDepth 100000 in
theorem keptBad_any (A : Option Addr) (zs : List Int) (c : Nat) (w : World) (hC : Cells w A zs) (hn : zs.length ≤ 100000) :
    Calls Tryd.prog 95 #[.slice A zs.length c, .func (.func 96) #[] #[]] w (SomeLen (keptBad zs).length w) := by
  obtain ⟨i0, hi, hz0, hz1, hz2⟩ := info_parts Tryd.infoI
  go_enter Tryd.func95, Tryd.ntmps95
  go_wp2
  go_loopw [5, 10] (fun v i wr => ∃ k : Nat, k ≤ zs.length ∧ i = (.int .i64 (k)) ∧ wr.ownsRow w.heap.size 3 1 v (keptBad (zs.take k)).length ((keptBad (zs.take k)).map (Value.int .i64)) ∧ Below w.heap.size w wr) (fun _ i _ => zs.length - (intOf i).toNat)
  case atStart => exact ⟨0, Nat.zero_le _, rfl, World.ownsRow_nil _ _ _ _, Below.refl _ _⟩
  case round =>
    obtain ⟨k, hk, rfl, hown, hB⟩ := hrel
    have hle := keptBad_le zs k
    by_cases hlt : k < zs.length
    · obtain ⟨b, o, rfl, l1, k1⟩ := hC (by omega)
      have x1 : wr.cell? ⟨b, o + k, none⟩ = some (.int .i64 (zs.getD k 0)) := (hB.cell (p := ⟨b, o + k, none⟩) l1).trans (k1 k hlt)
      have hs := keptBad_succ hlt
      clear k1 hC
      obtain ⟨x, hx⟩ : ∃ x, x = zs.getD k 0 := ⟨_, rfl⟩
      rw [← hx] at x1 hs
      clear hx
      rcases rangeErr_cases x 1 8 with ⟨h0, _, _⟩ | ⟨h0, _⟩
      · rw [if_pos h0, List.append_nil] at hs
        have HS := Lib.hid hs
        clear hs
        go_wp2_with (go_at_call 96; refine (sweepBad_no _ _ h0).mono ?_; rintro r w2 ⟨rfl, rfl⟩)
        go_roundw
        case rel => exact ⟨k + 1, by omega, by go_num, by rw [HS.out]; exact hown, hB⟩
        case measure => simp [intOf]; omega
      · rw [if_neg (by omega)] at hs
        have HS := Lib.hid hs
        clear hs
        go_wp2_with (first
          | (go_at_call 96; refine (sweepBad_yes _ _ h0).mono ?_; rintro r w2 ⟨rfl, rfl⟩)
          | (at_builtin; refine wpList_append_own _ rfl _ _ 38 rfl w.heap.size 3 i0 (.int .i64 0) 1 8 Tryd.underlying38 hi hz0 hz1 hz2 rfl (by decide) _ _ _ rfl (hown.alloc _) ⟨wr.heap.size, 0, none⟩ 1 1 [.int .i64 x] rfl rfl ?c1 ?c2 ?c3 ?c4 ?c5 ?_))
        case c1 =>
          intro j u hj
          match j, hj with
          | 0, hj => simp at hj; subst hj; simp [Addr.add]
        case c2 => intro u hu; simp at hu; subst hu; rfl
        case c3 => unfold maxLen; omega
        case c4 => omega
        case c5 => have := hB.size; simp; omega
        intro v' w1 hown' hgrow _
        have hsz := hB.size
        have hB' : Below w.heap.size w w1 := (hB.alloc hsz _).grown hgrow (by simp; omega) (fun j hj => (hown.lt j hj).1)
        clear hgrow
        go_wp2
        go_roundw
        case rel => exact ⟨k + 1, by omega, by go_num, by rw [HS.out]; simpa using hown', hB'⟩
        case measure => simp [intOf]; omega
    · obtain rfl : k = zs.length := by omega
      have e : zs.take zs.length = zs := List.take_length
      rw [e] at hown
      go_wp2
      go_ret
      rcases hown.2 with ⟨rfl, h⟩ | ⟨g, cap, cur, rfl, _⟩
      · have h1 := hown.1
        have : (keptBad zs).length = 0 := by simp [h]
        exact ⟨none, 0, by rw [this]; rfl, hB⟩
      · exact ⟨_, _, rfl, hB⟩
end Go.Proofs.YtpkldjlljoledaaDoor

/- Contract of the statements' curve: both slices copied. -/
namespace Go.Proofs.YtpkldjlljoledaaDoor
open Go.RowKit
open Calm (bcell Blk)

theorem own_ints {W : World} {base n : Nat} {v : Value} {xs : List Int} (h : W.ownsRow base 3 1 v n (xs.map fun z => (.int .i64 (z)))) (hn : n = xs.length) : ∃ A c, v = .slice A n c ∧ (∀ p, A = some p → base ≤ p.block) ∧ Cells W A xs := by
  rcases h.2 with ⟨h1, h2⟩ | ⟨g, cap, cur, h1, h2, h3, h4, h5, h6, h7⟩
  · exact ⟨none, 0, by rw [h1, h2], by simp, fun h0 => by omega⟩
  · refine ⟨some ⟨g, 0, none⟩, cap, h1, by rintro p ⟨⟩; exact h2, fun h0 => ⟨g, 0, rfl, (Array.getElem?_eq_some_iff.1 h3).1, fun k hk => ?_⟩⟩
    rw [Nat.zero_add, cell_of_row W g k cur _ _ h3]
    have hj : (xs.map fun z => ((.int .i64 (z)) : Value))[k]? = some ((.int .i64 (xs.getD k 0)) : Value) := by
      rw [List.getElem?_map, List.getElem?_eq_getElem hk]
      simp [List.getD_eq_getElem?_getD, List.getElem?_eq_getElem hk]
    rw [← h7, List.getElem?_take] at hj
    split at hj
    · rw [← hj]; simp
    · cases hj

theorem Cells.set {W : World} {A : Option Addr} {xs : List Int} (h : Cells W A xs) {q : Addr} (hq : ∀ p, A = some p → q.block ≠ p.block) (v : Value) : Cells (W.setCell q v) A xs := by
  intro h0
  obtain ⟨b, off, hA, hlt, hc⟩ := h h0
  have hne : q.block ≠ b := hq _ hA
  exact ⟨b, off, hA, by simpa using hlt, fun k hk => (World.cell?_setCell_far W q ⟨b, off + k, none⟩ v hne).trans (hc k hk)⟩

theorem cells_at {W : World} {A : Option Addr} {xs : List Int} (h : Cells W A xs) (n : Nat) (hn : n = xs.length) : 0 < n → ∃ ad, A = some ad ∧ ∀ j u, (xs.map fun z => ((.int .i64 (z)) : Value))[j]? = some u → W.cell? (ad.add j) = some u := by
  intro h0
  obtain ⟨b, off, hA, _, hc⟩ := h (by omega)
  refine ⟨_, hA, fun j u hj => ?_⟩
  rw [List.getElem?_map] at hj
  obtain ⟨z, hz, rfl⟩ := Option.map_eq_some_iff.1 hj
  have hlt : j < xs.length := (List.getElem?_eq_some_iff.1 hz).1
  have := hc j hlt
  rw [List.getD_eq_getElem?_getD, hz] at this
  rw [show (⟨b, off, none⟩ : Addr).add j = ⟨b, off + j, none⟩ by unfold Addr.add; split <;> simp_all]
  exact this

set_option maxRecDepth 100000 in
set_option maxHeartbeats 4000000 in
theorem curve_any (xs ys : List Int) (A1 A2 : Option Addr) (c1 c2 : Nat) (w : World) (hC1 : Cells w A1 xs) (hC2 : Cells w A2 ys) (h1 : xs.length ≤ 100000) (h2 : ys.length ≤ 100000) :
    Calls Tryd.prog 47 #[.agg #[.slice A1 xs.length c1, .slice A2 ys.length c2]] w fun r w' => ∃ B1 e1 B2 e2, r = .returned (.agg #[.slice B1 xs.length e1, .slice B2 ys.length e2]) ∧ Cells w' B1 xs ∧ Cells w' B2 ys ∧ Below w.heap.size w w' := by
  have HC1 := Lib.hid hC1
  have HC2 := Lib.hid hC2
  clear hC1 hC2
  obtain ⟨n, hn⟩ : ∃ n, n = xs.length := ⟨_, rfl⟩
  obtain ⟨m, hm⟩ : ∃ m, m = ys.length := ⟨_, rfl⟩
  rw [← hn] at h1 ⊢
  rw [← hm] at h2 ⊢
  have HN := Lib.hid hn
  have HM := Lib.hid hm
  clear hn hm
  obtain ⟨i1, hi1, jz0, jz1, jz2⟩ := info_parts Tryd.infoI
  go_enter Tryd.func47, Tryd.ntmps47
  go_wp2
  have K0 : Blk ((w.alloc (.cells #[.slice A1 n c1, .slice A2 m c2] 85)).alloc (.cells #[.slice none 0 0, .slice none 0 0] 88)) w.heap.size #[.slice A1 n c1, .slice A2 m c2] := by (repeat (first | ((with_reducible refine Blk.at_ ?_); focus (first | rfl | (simp; done) | (simp; omega))) | (with_reducible refine Blk.alloc ?_ _) | (with_reducible refine Blk.below ?_ (by with_reducible assumption)) | (with_reducible refine Blk.drew ?_)))
  have B0 : Below w.heap.size w ((w.alloc (.cells #[.slice A1 n c1, .slice A2 m c2] 85)).alloc (.cells #[.slice none 0 0, .slice none 0 0] 88)) := by (repeat (first | (with_reducible exact Below.refl _ _) | ((with_reducible refine Below.setCell ?_ ?_ _); rotate_left 1; focus (first | (simp; done) | (simp; omega) | (simp at *; omega))) | ((with_reducible refine Below.alloc ?_ ?_ _); rotate_left 1; focus (first | (simp; done) | (simp; omega) | (simp at *; omega))) | (with_reducible refine Below.drew ?_) | ((with_reducible refine Calm.step (by assumption) ?_ ?_); rotate_left 1; focus (first | (simp; done) | (simp; omega) | (simp at *; omega)))))
  have d0 := K0.cell 0 _ rfl
  have d1 := K0.cell 1 _ rfl
  have dl := K0.lt
  refine Rel.region3 8 (by kernel_rfl) (by kernel_rfl) (by kernel_rfl) ?_
  simp only [List.take_succ_cons, List.take_zero, List.drop_succ_cons, List.drop_zero, List.filterMap_cons, List.filterMap_nil]
  (apply Rel.empty3 3 1; (focus (first | exact Rel.gno rfl | exact Rel.gyes _ true _ rfl rfl rfl)); (focus (intro a W; go_simp; (first | done | rfl | (refine ⟨?_, ?_⟩ <;> rfl)))); (try simp only [List.nil_append, List.cons_append]))
  (apply Rel.op3; (focus (first | exact Rel.gno rfl | exact Rel.gyes _ true _ rfl rfl rfl)); (focus (intro a W hb hd hbase; obtain ⟨hc, hf⟩ := bcell hb; clear hb hf; simp [Rel.deps, Rel.dep1, Rel.ons, Region.binds, Act.eval] at hd; simp only [Act.eval, List.mem_cons, List.not_mem_nil, not_or, and_imp, or_false, Array.getD_eq_getD_getElem?] at hbase; go_simp; (try go_bits); (try rfl); done)); (try simp only [List.nil_append, List.cons_append]))
  (apply Rel.op3; (focus (first | exact Rel.gno rfl | exact Rel.gyes _ true _ rfl rfl rfl)); (focus (intro a W hb hd hbase; obtain ⟨hc, hf⟩ := bcell hb; clear hb hf; simp [Rel.deps, Rel.dep1, Rel.ons, Region.binds, Act.eval] at hd; simp only [Act.eval, List.mem_cons, List.not_mem_nil, not_or, and_imp, or_false, Array.getD_eq_getD_getElem?] at hbase; go_simp; (try go_bits); (try rfl); done)); (try simp only [List.nil_append, List.cons_append]))
  refine Rel.app3 (.tmp 3) (.tmp 5) 38 rfl 3 i1 _ 1 8 Tryd.underlying38 hi1 jz0 jz1 jz2 rfl (by decide) n (xs.map fun z => (.int .i64 (z))) (by rw [List.length_map, HN.out, Nat.mul_one]) (by intro u hu; obtain ⟨z, _, rfl⟩ := List.mem_map.1 hu; rfl) (by unfold maxLen; omega) (by omega) (Rel.gno rfl) ?_ ?_
  · intro a W hb hd hbase
    simp [Rel.deps, Rel.dep1, Rel.ons, Region.binds] at hd
    obtain ⟨hs, hx⟩ := hd
    exact ⟨⟨_, rfl, by simpa using hs⟩, _, _, hx, cells_at (HC1.out.below (B0.trans (hb.mono B0.size))) n HN.out⟩
  (try simp only [List.nil_append, List.cons_append])
  (apply Rel.empty3 3 1; (focus (first | exact Rel.gno rfl | exact Rel.gyes _ true _ rfl rfl rfl)); (focus (intro a W; go_simp; (first | done | rfl | (refine ⟨?_, ?_⟩ <;> rfl)))); (try simp only [List.nil_append, List.cons_append]))
  (apply Rel.op3; (focus (first | exact Rel.gno rfl | exact Rel.gyes _ true _ rfl rfl rfl)); (focus (intro a W hb hd hbase; obtain ⟨hc, hf⟩ := bcell hb; clear hb hf; simp [Rel.deps, Rel.dep1, Rel.ons, Region.binds, Act.eval] at hd; simp only [Act.eval, List.mem_cons, List.not_mem_nil, not_or, and_imp, or_false, Array.getD_eq_getD_getElem?] at hbase; go_simp; (try go_bits); (try rfl); done)); (try simp only [List.nil_append, List.cons_append]))
  (apply Rel.op3; (focus (first | exact Rel.gno rfl | exact Rel.gyes _ true _ rfl rfl rfl)); (focus (intro a W hb hd hbase; obtain ⟨hc, hf⟩ := bcell hb; clear hb hf; simp [Rel.deps, Rel.dep1, Rel.ons, Region.binds, Act.eval] at hd; simp only [Act.eval, List.mem_cons, List.not_mem_nil, not_or, and_imp, or_false, Array.getD_eq_getD_getElem?] at hbase; go_simp; (try go_bits); (try rfl); done)); (try simp only [List.nil_append, List.cons_append]))
  refine Rel.app3 (.tmp 7) (.tmp 9) 38 rfl 3 i1 _ 1 8 Tryd.underlying38 hi1 jz0 jz1 jz2 rfl (by decide) m (ys.map fun z => (.int .i64 (z))) (by rw [List.length_map, HM.out, Nat.mul_one]) (by intro u hu; obtain ⟨z, _, rfl⟩ := List.mem_map.1 hu; rfl) (by unfold maxLen; omega) (by omega) (Rel.gno rfl) ?_ ?_
  · intro a W hb hd hbase
    simp [Rel.deps, Rel.dep1, Rel.ons, Region.binds] at hd
    obtain ⟨hs, hx, _⟩ := hd
    exact ⟨⟨_, rfl, by simpa using hs⟩, _, _, hx, cells_at (HC2.out.below (B0.trans (hb.mono B0.size))) m HM.out⟩
  (try simp only [List.nil_append, List.cons_append])
  refine Rel.done3 ?_
  intro x wR hR hx
  simp only [Rel.facts, Nat.zero_add, Nat.reduceAdd] at hx
  obtain ⟨_, e1, e2, o3, _, e5, e6, o7, _⟩ := hx
  obtain ⟨B1, q1, f3, u3, z3⟩ := own_ints o3 HN.out
  obtain ⟨B2, q2, f7, u7, z7⟩ := own_ints o7 HM.out
  simp only [Rel.fill, Nat.zero_add, Nat.reduceAdd, e1, e2, e5, e6, f3, f7]
  simp only [Act.put, List.setIfInBounds_toArray, List.set_cons_zero, List.set_cons_succ]
  have K1 := ((Blk.at_ rfl : Blk ((w.alloc (.cells #[.slice A1 n c1, .slice A2 m c2] 85)).alloc (.cells #[.slice none 0 0, .slice none 0 0] 88)) (w.alloc (.cells #[.slice A1 n c1, .slice A2 m c2] 85)).heap.size #[.slice none 0 0, .slice none 0 0])).below hR
  have BR := B0.trans (hR.mono B0.size)
  clear e1 e2 e5 e6 f3 f7 o3 o7 d0 d1 dl hR K0 B0
  rw [show (w.alloc (.cells #[.slice A1 n c1, .slice A2 m c2] 85)).heap.size = w.heap.size + 1 by simp] at K1
  have k0 := K1.cell 0 _ rfl
  have k1 := K1.cell 1 _ rfl
  have kl := K1.lt
  have l0 := K1.f 0
  have l1 := K1.f 1
  go_wp2
  refine bodyPost_ret (v := .agg #[.slice B1 n q1, .slice B2 m q2]) (by simp [results, Tryd.results47, go_sem, *]) rfl ⟨B1, q1, B2, q2, rfl, ?_, ?_, ?_⟩
  · exact ((z3.set (fun p hp => by have := u3 p hp; simp at this; show w.heap.size + 1 ≠ p.block; omega) _).set (fun p hp => by have := u3 p hp; simp at this; show w.heap.size + 1 ≠ p.block; omega) _)
  · exact ((z7.set (fun p hp => by have := u7 p hp; simp at this; show w.heap.size + 1 ≠ p.block; omega) _).set (fun p hp => by have := u7 p hp; simp at this; show w.heap.size + 1 ≠ p.block; omega) _)
  · exact (BR.setCell (p := ⟨w.heap.size + 1, 0, none⟩) (Nat.le_succ _) _).setCell (p := ⟨w.heap.size + 1, 1, none⟩) (Nat.le_succ _) _
end Go.Proofs.YtpkldjlljoledaaDoor

/- Several slices of integers, each in a row of its own; two of them grow in one drawn region. No function of the program. -/
namespace Go.Proofs.YtpkldjlljoledaaDoor
open Go.RowKit
open Calm (bcell Blk)
def Apt (u v : Value) : Prop := ∀ k, u.ownBlock = some k → v.ownBlock ≠ some k
theorem Apt.symm {u v : Value} (h : Apt u v) : Apt v u := fun k hv hu => h k hu hv
def OwnI (W : World) (base : Nat) (p : Value × List Int) : Prop := W.ownsRow base 3 1 p.1 p.2.length (p.2.map fun z => (.int .i64 (z)))
/-- slices of integers, no two of them in one row. -/
def Rows (W : World) (base : Nat) (ps : List (Value × List Int)) : Prop := (∀ p ∈ ps, OwnI W base p) ∧ ps.Pairwise (fun p q => Apt p.1 q.1)
theorem Rows.kept {W W' : World} {base : Nat} {ps : List (Value × List Int)} (h : Rows W base ps) (hb : ∀ p ∈ ps, ∀ k, p.1.ownBlock = some k → W'.heap[k]? = W.heap[k]?) : Rows W' base ps :=
  ⟨fun p hp => ownsRow_block (h.1 p hp) (hb p hp), h.2⟩
theorem Rows.below {W W' : World} {base : Nat} {ps : List (Value × List Int)} (h : Rows W base ps) (hb : Below W.heap.size W W') : Rows W' base ps :=
  h.kept fun p hp k hk => hb.block k ((h.1 p hp).lt k hk).2
theorem Rows.setCell {W : World} {base : Nat} {ps : List (Value × List Int)} (h : Rows W base ps) {q : Addr} (hq : q.block < base) (v : Value) : Rows (W.setCell q v) base ps :=
  h.kept fun p hp k hk => Below.heap_setCell _ _ _ _ (by have := ((h.1 p hp).lt k hk).1; omega)
theorem Rows.rot {W : World} {base : Nat} {a b c d e f : Value × List Int} (h : Rows W base [a, b, c, d, e, f]) : Rows W base [c, d, e, f, a, b] := by
  obtain ⟨h1, h2⟩ := h
  refine ⟨fun p hp => h1 p (by simp at hp ⊢; rcases hp with h | h | h | h | h | h <;> simp [h]), ?_⟩
  simp only [List.pairwise_cons, List.mem_cons, List.not_mem_nil, or_false, forall_eq_or_imp, forall_eq, List.Pairwise.nil, and_true, false_implies, implies_true] at h2 ⊢
  obtain ⟨⟨a1, a2, a3, a4, a5⟩, ⟨b1, b2, b3, b4⟩, ⟨c1, c2, c3⟩, ⟨d1, d2⟩, e1⟩ := h2
  exact ⟨⟨c1, c2, c3, a2.symm, b1.symm⟩, ⟨d1, d2, a3.symm, b2.symm⟩, ⟨e1, a4.symm, b3.symm⟩, ⟨a5.symm, b4.symm⟩, a1⟩
theorem Rows.nil (W : World) (base : Nat) : Rows W base [(.slice Option.none 0 0, []), (.slice Option.none 0 0, []), (.slice Option.none 0 0, []), (.slice Option.none 0 0, []), (.slice Option.none 0 0, []), (.slice Option.none 0 0, [])] := by
  have hn : ∀ v : Value, Apt (.slice Option.none 0 0) v := fun v k hk => by cases hk
  refine ⟨fun p hp => ?_, ?_⟩
  · have hp' : p = (.slice Option.none 0 0, []) := by simpa using hp
    subst hp'
    exact World.ownsRow_nil _ _ _ _
  · simp [hn]
theorem pair_grw (base : Nat) (u1 u2 : Value) (l1 l2 : List Int) (ps : List (Value × List Int)) (x1 x2 : Int) (W0 : World) (hR : Rows W0 base ((u1, l1) :: (u2, l2) :: ps)) (hb : base ≤ W0.heap.size) (h1 : l1.length ≤ 1000) (h2 : l2.length ≤ 1000) :
    ∃ (T : Nat → Obj → Prop) (R1 : Value → World → Prop) (R2 : Value → Value → World → Prop), (∀ k o, T k o → base ≤ k ∧ k < W0.heap.size) ∧
      (∀ v W W', R1 v W → Grw T W W' → R1 v W') ∧ (∀ v1 v W W', R2 v1 v W → Grw T W W' → R2 v1 v W') ∧
      (∀ W, Grw T W0 W → ∀ b c, W.cell? ⟨b, 0, none⟩ = some (.int .i64 (x1)) → ∃ v' W', (Builtin.append_ #[38, 38] 38 #[u1, .slice (some ⟨b, 0, none⟩) 1 c]).run Tryd.prog W = .ok v' W' ∧ R1 v' W' ∧ Grw T W W') ∧
      (∀ W v1, Grw T W0 W → R1 v1 W → ∀ b c, W.cell? ⟨b, 0, none⟩ = some (.int .i64 (x2)) → ∃ v' W', (Builtin.append_ #[38, 38] 38 #[u2, .slice (some ⟨b, 0, none⟩) 1 c]).run Tryd.prog W = .ok v' W' ∧ R2 v1 v' W' ∧ Grw T W W') ∧
      (∀ W v1 v2, Grw T W0 W → R1 v1 W → R2 v1 v2 W → Rows W base ((v1, l1 ++ [x1]) :: (v2, l2 ++ [x2]) :: ps)) := by
  obtain ⟨i1, hi1, jz0, jz1, jz2⟩ := info_parts Tryd.infoI
  obtain ⟨hO, hP⟩ := hR
  have hO1 := hO (u1, l1) (by simp)
  have hO2 := hO (u2, l2) (by simp)
  simp only [List.pairwise_cons, List.mem_cons, forall_eq_or_imp] at hP
  obtain ⟨⟨p12, p1⟩, p2, pp⟩ := hP
  obtain ⟨g1, o1, q1, s1⟩ := append_grw (P := Tryd.prog) base 38 38 3 i1 _ 8 Tryd.underlying38 hi1 jz0 jz1 jz2 rfl u1 l1.length _ (.int .i64 (x1)) rfl W0 hO1 hb (by unfold maxLen; omega) (by omega)
  obtain ⟨g2, o2, q2, s2⟩ := append_grw (P := Tryd.prog) base 38 38 3 i1 _ 8 Tryd.underlying38 hi1 jz0 jz1 jz2 rfl u2 l2.length _ (.int .i64 (x2)) rfl W0 hO2 hb (by unfold maxLen; omega) (by omega)
  have n12 : ∀ k, g1 = some k → g2 ≠ some k := fun k h h' => p12 k (q1 k h).1 (q2 k h').1
  refine ⟨fun k o => g1 = some k ∧ o = o1 ∨ g2 = some k ∧ o = o2, RowAt base 3 g1 o1 W0.heap.size (l1.length + 1) (l1.map (fun z => ((.int .i64 (z)) : Value)) ++ [(.int .i64 (x1))]), fun v1 v W => RowAt base 3 g2 o2 W0.heap.size (l2.length + 1) (l2.map (fun z => ((.int .i64 (z)) : Value)) ++ [(.int .i64 (x2))]) v W ∧ Apt v1 v, ?_, ?_, ?_, ?_, ?_, ?_⟩
  · rintro k o (⟨h, _⟩ | ⟨h, _⟩)
    · exact (q1 k h).2
    · exact (q2 k h).2
  · refine fun v W W' h hS => RowAt.stable ?_ ?_ v W W' h hS
    · rintro k o (⟨h, _⟩ | ⟨h, _⟩)
      · exact (q1 k h).2.2
      · exact (q2 k h).2.2
    · rintro k o hk (⟨_, h⟩ | ⟨h, _⟩)
      · exact h
      · exact absurd h (n12 k hk)
  · refine fun v1 v W W' h hS => ⟨RowAt.stable ?_ ?_ v W W' h.1 hS, h.2⟩
    · rintro k o (⟨h, _⟩ | ⟨h, _⟩)
      · exact (q1 k h).2.2
      · exact (q2 k h).2.2
    · rintro k o hk (⟨h, _⟩ | ⟨_, h⟩)
      · exact absurd hk (n12 k h)
      · exact h
  · intro W hS b c hx
    obtain ⟨v', W', r1, r2, r3, _⟩ := s1 (fun k o => g1 = some k ∧ o = o1 ∨ g2 = some k ∧ o = o2) (fun k hk o => ⟨fun h => h.elim id (fun h => absurd (q2 k h.1).1 (p12 k hk)), fun h => .inl h⟩) W hS b c hx
    exact ⟨v', W', r1, r2, r3⟩
  · intro W v1 hS hv1 b c hx
    obtain ⟨v', W', r1, r2, r3, r4⟩ := s2 (fun k o => g1 = some k ∧ o = o1 ∨ g2 = some k ∧ o = o2) (fun k hk o => ⟨fun h => h.elim (fun h => absurd hk (p12 k (q1 k h.1).1)) id, fun h => .inr h⟩) W hS b c hx
    refine ⟨v', W', r1, ⟨r2, fun k hk hk' => ?_⟩, r3⟩
    have hlt := (hv1.1.lt k hk).2
    rcases r4 with ⟨r5, r6⟩ | r6
    · rw [hk'] at r6
      have e2 := q2 k r6.symm
      rcases hv1.2 with ⟨k1, e3, e4, _⟩ | ⟨k1, e4, e5⟩
      · rw [hk] at e4; cases e4
        exact n12 k e3 r6.symm
      · rw [hk] at e4; cases e4
        omega
    · rw [hk'] at r6; cases r6
      omega
  · intro W v1 v2 hS hv1 hv2
    have old : ∀ p ∈ ps, ∀ k, p.1.ownBlock = some k → k < W0.heap.size ∧ W.heap[k]? = W0.heap[k]? := by
      intro p hp k hk
      have hlt := ((hO p (by simp [hp])).lt k hk).2
      refine ⟨hlt, (hS.block k hlt).elim id ?_⟩
      rintro ⟨o, ⟨h, _⟩ | ⟨h, _⟩, _⟩
      · exact absurd hk (p1 p hp k (q1 k h).1)
      · exact absurd hk (p2 p hp k (q2 k h).1)
    refine ⟨fun p hp => ?_, ?_⟩
    · simp only [List.mem_cons] at hp
      rcases hp with rfl | rfl | hp
      · unfold OwnI; simpa using hv1.1
      · unfold OwnI; simpa using hv2.1.1
      · exact ownsRow_block (hO p (by simp [hp])) (fun k hk => (old p hp k hk).2)
    · simp only [List.pairwise_cons, List.mem_cons, forall_eq_or_imp]
      refine ⟨⟨hv2.2, fun p hp k hk hk' => ?_⟩, fun p hp k hk hk' => ?_, pp⟩
      · rcases hv1.2 with ⟨k1, e3, e4, _⟩ | ⟨k1, e4, e5⟩
        · rw [hk] at e4; cases e4
          exact p1 p hp k (q1 k e3).1 hk'
        · rw [hk] at e4; cases e4
          have := (old p hp k hk').1
          omega
      · rcases hv2.1.2 with ⟨k1, e3, e4, _⟩ | ⟨k1, e4, e5⟩
        · rw [hk] at e4; cases e4
          exact p2 p hp k (q2 k e3).1 hk'
        · rw [hk] at e4; cases e4
          have := (old p hp k hk').1
          omega
/-- a curve's numbers backwards, as far as k. -/
def backL (xs : List Int) (k : Nat) : List Int := (List.range k).map fun i => xs.getD (xs.length - 1 - i) 0
theorem backL_succ (xs : List Int) (k : Nat) : backL xs (k + 1) = backL xs k ++ [xs.getD (xs.length - 1 - k) 0] := by simp [backL, List.range_succ]
theorem backL_len (xs : List Int) (k : Nat) : (backL xs k).length = k := by simp [backL]
theorem backL_all (xs : List Int) : backL xs xs.length = xs.reverse := by
  refine List.ext_getElem (by simp [backL]) fun i h1 h2 => ?_
  have hi : i < xs.length := by simpa [backL] using h1
  simp [backL, List.getElem_reverse, List.getD_eq_getElem?_getD, List.getElem?_eq_getElem (show xs.length - 1 - i < xs.length by omega)]
def twL (xs : List Int) (k : Nat) : List Int := (xs.take k).map (2 * ·)
theorem twL_succ {xs : List Int} {k : Nat} (hk : k < xs.length) : twL xs (k + 1) = twL xs k ++ [2 * xs.getD k 0] := by
  unfold twL
  rw [List.take_succ_eq_append_getElem hk, List.map_append, List.getD_eq_getElem?_getD, List.getElem?_eq_getElem hk]
  rfl
theorem twL_len {xs : List Int} {k : Nat} (hk : k ≤ xs.length) : (twL xs k).length = k := by simp [twL]; omega
theorem twL_all (xs : List Int) : twL xs xs.length = xs.map (2 * ·) := by simp [twL]
theorem rep_succ (k : Nat) (x : Int) : List.replicate (k + 1) x = List.replicate k x ++ [x] := List.replicate_succ'
end Go.Proofs.YtpkldjlljoledaaDoor

/- A block known whole, opened: its cells, its place, its marks. No program. -/
namespace Go.Proofs.YtpkldjlljoledaaDoor.Calm
theorem Blk.o1 {w : World} {g : Nat} {a0 : Value} (h : Blk w g #[a0]) : w.cell? ⟨g, 0, none⟩ = some a0 ∧ g < w.heap.size ∧ ∀ i, w.frozen? ⟨g, i, none⟩ = false :=
  ⟨h.cell 0 _ rfl, h.lt, h.f⟩
theorem Blk.o2 {w : World} {g : Nat} {a0 a1 : Value} (h : Blk w g #[a0, a1]) : w.cell? ⟨g, 0, none⟩ = some a0 ∧ w.cell? ⟨g, 1, none⟩ = some a1 ∧ g < w.heap.size ∧ ∀ i, w.frozen? ⟨g, i, none⟩ = false :=
  ⟨h.cell 0 _ rfl, h.cell 1 _ rfl, h.lt, h.f⟩
theorem Blk.o3 {w : World} {g : Nat} {a0 a1 a2 : Value} (h : Blk w g #[a0, a1, a2]) : w.cell? ⟨g, 0, none⟩ = some a0 ∧ w.cell? ⟨g, 1, none⟩ = some a1 ∧ w.cell? ⟨g, 2, none⟩ = some a2 ∧ g < w.heap.size ∧ ∀ i, w.frozen? ⟨g, i, none⟩ = false :=
  ⟨h.cell 0 _ rfl, h.cell 1 _ rfl, h.cell 2 _ rfl, h.lt, h.f⟩
theorem Blk.o4 {w : World} {g : Nat} {a0 a1 a2 a3 : Value} (h : Blk w g #[a0, a1, a2, a3]) : w.cell? ⟨g, 0, none⟩ = some a0 ∧ w.cell? ⟨g, 1, none⟩ = some a1 ∧ w.cell? ⟨g, 2, none⟩ = some a2 ∧ w.cell? ⟨g, 3, none⟩ = some a3 ∧ g < w.heap.size ∧ ∀ i, w.frozen? ⟨g, i, none⟩ = false :=
  ⟨h.cell 0 _ rfl, h.cell 1 _ rfl, h.cell 2 _ rfl, h.cell 3 _ rfl, h.lt, h.f⟩
theorem Blk.o5 {w : World} {g : Nat} {a0 a1 a2 a3 a4 : Value} (h : Blk w g #[a0, a1, a2, a3, a4]) : w.cell? ⟨g, 0, none⟩ = some a0 ∧ w.cell? ⟨g, 1, none⟩ = some a1 ∧ w.cell? ⟨g, 2, none⟩ = some a2 ∧ w.cell? ⟨g, 3, none⟩ = some a3 ∧ w.cell? ⟨g, 4, none⟩ = some a4 ∧ g < w.heap.size ∧ ∀ i, w.frozen? ⟨g, i, none⟩ = false :=
  ⟨h.cell 0 _ rfl, h.cell 1 _ rfl, h.cell 2 _ rfl, h.cell 3 _ rfl, h.cell 4 _ rfl, h.lt, h.f⟩
theorem Blk.o6 {w : World} {g : Nat} {a0 a1 a2 a3 a4 a5 : Value} (h : Blk w g #[a0, a1, a2, a3, a4, a5]) : w.cell? ⟨g, 0, none⟩ = some a0 ∧ w.cell? ⟨g, 1, none⟩ = some a1 ∧ w.cell? ⟨g, 2, none⟩ = some a2 ∧ w.cell? ⟨g, 3, none⟩ = some a3 ∧ w.cell? ⟨g, 4, none⟩ = some a4 ∧ w.cell? ⟨g, 5, none⟩ = some a5 ∧ g < w.heap.size ∧ ∀ i, w.frozen? ⟨g, i, none⟩ = false :=
  ⟨h.cell 0 _ rfl, h.cell 1 _ rfl, h.cell 2 _ rfl, h.cell 3 _ rfl, h.cell 4 _ rfl, h.cell 5 _ rfl, h.lt, h.f⟩
theorem Blk.o7 {w : World} {g : Nat} {a0 a1 a2 a3 a4 a5 a6 : Value} (h : Blk w g #[a0, a1, a2, a3, a4, a5, a6]) : w.cell? ⟨g, 0, none⟩ = some a0 ∧ w.cell? ⟨g, 1, none⟩ = some a1 ∧ w.cell? ⟨g, 2, none⟩ = some a2 ∧ w.cell? ⟨g, 3, none⟩ = some a3 ∧ w.cell? ⟨g, 4, none⟩ = some a4 ∧ w.cell? ⟨g, 5, none⟩ = some a5 ∧ w.cell? ⟨g, 6, none⟩ = some a6 ∧ g < w.heap.size ∧ ∀ i, w.frozen? ⟨g, i, none⟩ = false :=
  ⟨h.cell 0 _ rfl, h.cell 1 _ rfl, h.cell 2 _ rfl, h.cell 3 _ rfl, h.cell 4 _ rfl, h.cell 5 _ rfl, h.cell 6 _ rfl, h.lt, h.f⟩
theorem Blk.o8 {w : World} {g : Nat} {a0 a1 a2 a3 a4 a5 a6 a7 : Value} (h : Blk w g #[a0, a1, a2, a3, a4, a5, a6, a7]) : w.cell? ⟨g, 0, none⟩ = some a0 ∧ w.cell? ⟨g, 1, none⟩ = some a1 ∧ w.cell? ⟨g, 2, none⟩ = some a2 ∧ w.cell? ⟨g, 3, none⟩ = some a3 ∧ w.cell? ⟨g, 4, none⟩ = some a4 ∧ w.cell? ⟨g, 5, none⟩ = some a5 ∧ w.cell? ⟨g, 6, none⟩ = some a6 ∧ w.cell? ⟨g, 7, none⟩ = some a7 ∧ g < w.heap.size ∧ ∀ i, w.frozen? ⟨g, i, none⟩ = false :=
  ⟨h.cell 0 _ rfl, h.cell 1 _ rfl, h.cell 2 _ rfl, h.cell 3 _ rfl, h.cell 4 _ rfl, h.cell 5 _ rfl, h.cell 6 _ rfl, h.cell 7 _ rfl, h.lt, h.f⟩
theorem Blk.o9 {w : World} {g : Nat} {a0 a1 a2 a3 a4 a5 a6 a7 a8 : Value} (h : Blk w g #[a0, a1, a2, a3, a4, a5, a6, a7, a8]) : w.cell? ⟨g, 0, none⟩ = some a0 ∧ w.cell? ⟨g, 1, none⟩ = some a1 ∧ w.cell? ⟨g, 2, none⟩ = some a2 ∧ w.cell? ⟨g, 3, none⟩ = some a3 ∧ w.cell? ⟨g, 4, none⟩ = some a4 ∧ w.cell? ⟨g, 5, none⟩ = some a5 ∧ w.cell? ⟨g, 6, none⟩ = some a6 ∧ w.cell? ⟨g, 7, none⟩ = some a7 ∧ w.cell? ⟨g, 8, none⟩ = some a8 ∧ g < w.heap.size ∧ ∀ i, w.frozen? ⟨g, i, none⟩ = false :=
  ⟨h.cell 0 _ rfl, h.cell 1 _ rfl, h.cell 2 _ rfl, h.cell 3 _ rfl, h.cell 4 _ rfl, h.cell 5 _ rfl, h.cell 6 _ rfl, h.cell 7 _ rfl, h.cell 8 _ rfl, h.lt, h.f⟩
theorem Blk.o10 {w : World} {g : Nat} {a0 a1 a2 a3 a4 a5 a6 a7 a8 a9 : Value} (h : Blk w g #[a0, a1, a2, a3, a4, a5, a6, a7, a8, a9]) : w.cell? ⟨g, 0, none⟩ = some a0 ∧ w.cell? ⟨g, 1, none⟩ = some a1 ∧ w.cell? ⟨g, 2, none⟩ = some a2 ∧ w.cell? ⟨g, 3, none⟩ = some a3 ∧ w.cell? ⟨g, 4, none⟩ = some a4 ∧ w.cell? ⟨g, 5, none⟩ = some a5 ∧ w.cell? ⟨g, 6, none⟩ = some a6 ∧ w.cell? ⟨g, 7, none⟩ = some a7 ∧ w.cell? ⟨g, 8, none⟩ = some a8 ∧ w.cell? ⟨g, 9, none⟩ = some a9 ∧ g < w.heap.size ∧ ∀ i, w.frozen? ⟨g, i, none⟩ = false :=
  ⟨h.cell 0 _ rfl, h.cell 1 _ rfl, h.cell 2 _ rfl, h.cell 3 _ rfl, h.cell 4 _ rfl, h.cell 5 _ rfl, h.cell 6 _ rfl, h.cell 7 _ rfl, h.cell 8 _ rfl, h.cell 9 _ rfl, h.lt, h.f⟩
end Go.Proofs.YtpkldjlljoledaaDoor.Calm

/- The law of 'for x := range seq' over an iterator that keeps a variable of its own in cells; the body never leaves the loop. -/
namespace Go.Proofs.YtpkldjlljoledaaDoor
open Go.RowKit

/-- Whatever lies in a block of S lies as it lay. -/
def Same (S : Nat → Prop) (W W' : World) : Prop := ∀ k o, S k → W.heap[k]? = some o → W'.heap[k]? = some o
theorem Same.refl (S : Nat → Prop) (W : World) : Same S W W := fun _ _ _ h => h
theorem Same.trans {S : Nat → Prop} {A B C : World} (h : Same S A B) (k : Same S B C) : Same S A C := fun i o hi ho => k i o hi (h i o hi ho)
theorem Same.alloc {S : Nat → Prop} {W W' : World} (h : Same S W W') (o : Obj) : Same S W (W'.alloc o) := fun k o1 hk ho => by
  have h1 := h k o1 hk ho
  exact (Below.heap_alloc _ _ _ (Array.getElem?_eq_some_iff.1 h1).1).trans h1
theorem Same.setCell {S : Nat → Prop} {W W' : World} (h : Same S W W') {p : Addr} (hp : ¬ S p.block) (u : Value) : Same S W (W'.setCell p u) := fun k o1 hk ho =>
  (Below.heap_setCell _ _ _ _ (fun e => hp (e ▸ hk))).trans (h k o1 hk ho)
theorem Same.drew {S : Nat → Prop} {W W' : World} (h : Same S W W') : Same S W W'.drew := h
theorem Same.below {S : Nat → Prop} {W W' W2 : World} (h : Same S W W') {B : Nat} (hb : Below B W' W2) (hS : ∀ k, S k → k < B) : Same S W W2 := fun k o1 hk ho =>
  (hb.block k (hS k hk)).trans (h k o1 hk ho)
theorem Same.grown {S : Nat → Prop} {W W' W2 : World} {row : Option Nat} (h : Same S W W') (hg : W'.grownBy W2 row) (hr : ∀ k, row = some k → ¬ S k) : Same S W W2 := fun k o1 hk ho => by
  have h1 := h k o1 hk ho
  exact (hg.block k (Array.getElem?_eq_some_iff.1 h1).1 (fun e => hr k e.symm hk)).trans h1
theorem Same.eq {S : Nat → Prop} {W W' : World} (h : Same S W W') {k : Nat} (hk : S k) (hl : k < W.heap.size) : W'.heap[k]? = W.heap[k]? := by
  have e := Array.getElem?_eq_getElem hl
  rw [h k _ hk e, e]

/-- The contract of an iterator that is entered with a heap of the size W.heap.size and lays its own block there; block Cb is read. -/
def Iter {α : Type} (F : Fence) (n : Nat) (P : Program) (g : Nat) (lb : Array Value) (enc : α → Value) (all : List α) (Cb : Nat) (w : World) : Prop :=
  ∀ (l : Nat) (J : List α → World → Prop) (W : World), W.heap[Cb]? = w.heap[Cb]? → Cb < w.heap.size → w.heap.size ≤ W.heap.size →
    (∀ pre W1 o, J pre W1 → J pre (W1.alloc o)) →
    (∀ pre W1 i v, J pre W1 → J pre (W1.setCell ⟨W.heap.size, i, none⟩ v)) →
    (∀ pre x W1, J pre W1 → W.heap.size < W1.heap.size → W1.heap[Cb]? = w.heap[Cb]? → (∃ post, all = pre ++ x :: post) →
      YieldAt F (n - 1) P l #[enc x] W1 fun e W' => e = .returned (.bool true) ∧ J (pre ++ [x]) W' ∧ W'.heap[W.heap.size]? = W1.heap[W.heap.size]? ∧ W'.heap[Cb]? = W1.heap[Cb]?) →
    J [] W →
    CallsIn F n P g (#[.func (.yield l) #[] #[]] ++ lb) W fun e W' => (∃ v, e = .returned v) ∧ J all W'

/-- How a body that never leaves the loop may end. -/
def iterPost (S : Nat → Prop) (W : World) (I : World → Prop) : Exit → Act → World → Prop
  | .normal, _, W' => Same S W W' ∧ I W'
  | _, _, _ => False

/-- the blocks that a round must leave alone: the three of the loop, from B on, and Cb. -/
def roundS (Cb B : Nat) (k : Nat) : Prop := k = Cb ∨ k = B ∨ k = B + 1 ∨ k = B + 2

theorem range_iter {F : Fence} {n : Nat} {P : Program} {α : Type} {g : Operand} {ps : Array Tmp} {assign body : Code} {Q : Exit → Act → World → Prop} {a : Act} {w : World}
    (hro : F.round = none) (h1 : 1 ≤ n) {gf : Nat} {lb : Array Value} (hg : a.eval g = .func (.func gf) #[] lb) (hFg : F.fn gf) (eg : ∀ args w, (callFunc gf args).run P w = .ok (.enter gf args) w)
    {enc : α → Value} {all : List α} {Cb : Nat} (hC : Cb < w.heap.size) (hseq : Iter F (n - 1) P gf lb enc all Cb w) (hps : ps.size = 1)
    (I : List α → World → Prop) (hI : OwnFrom w.heap.size I) (hIs : ∀ pre W i v, I pre W → I pre (W.setCell ⟨w.heap.size + 2, i, none⟩ v)) (h0 : I [] w)
    (Ax : List α → α → Act → World → Prop) (hAx : ∀ pre x a', OwnFrom w.heap.size (fun (_ : Unit) W => Ax pre x a' W))
    (hassign : ∀ (l : Nat) (pre : List α) (x : α) (W : World), I pre W → (∃ post, all = pre ++ x :: post) → w.heap.size + 2 < W.heap.size → W.heap[Cb]? = w.heap[Cb]? →
      assign.wpIn (F.inRound l) (n - 1 - 1) P (Exit.then (fun a' W' => Same (roundS Cb w.heap.size) W W' ∧ Ax pre x a' W') (fun _ _ _ => False)) { tmps := (ps.zip #[enc x]).foldl (fun t (p, v) => t.setIfInBounds p v) a.tmps, defers := [] } W)
    (hbody : ∀ (l : Nat) (pre : List α) (x : α) (a' : Act) (W : World), Ax pre x a' W → (∃ post, all = pre ++ x :: post) → w.heap.size + 2 < W.heap.size → W.heap[Cb]? = w.heap[Cb]? →
      body.wpIn (F.inRound l) (n - 1 - 1) P (iterPost (roundS Cb w.heap.size) W (I (pre ++ [x]))) a' W)
    (hdone : ∀ (W : World), I all W → W.heap[w.heap.size]? = some (.deferred (some [])) → Q .normal { a with defers := { target := .collected w.heap.size, args := #[] } :: a.defers } W) :
    (Code.rangeFunc g ps assign body).wpIn F n P Q a w := by
  refine wpIn_rangeFunc ?_
  intro fn hfn
  rw [hro]
  obtain ⟨rec, hrec⟩ : ∃ rec : LoopState → Option Code → Loop, rec = fun st pe => { state := st, pending := pe, fn, tmps := a.tmps, params := ps, assign, body, defers := w.heap.size } := ⟨_, rfl⟩
  obtain ⟨W1, hW1⟩ : ∃ W1, (w.alloc (.deferred (some []))).alloc (.loop (rec .ready none)) = W1 := ⟨_, rfl⟩
  have hL1 : W1.heap[w.heap.size + 1]? = some (.loop (rec .ready none)) := by
    rw [← hW1]; have := World.alloc_heap_new (w.alloc (.deferred (some []))) (.loop (rec .ready none)); rwa [World.size_alloc] at this
  have hK1 : W1.heap[w.heap.size]? = some (.deferred (some [])) := by
    rw [← hW1]; exact (Below.heap_alloc _ _ _ (by simp)).trans (World.alloc_heap_new w _)
  have hI1 : I [] W1 := by rw [← hW1]; exact hI.alloc _ (hI.alloc _ h0)
  have hC1 : W1.heap[Cb]? = w.heap[Cb]? := by
    rw [← hW1, Below.heap_alloc _ _ _ (by simp; omega), Below.heap_alloc _ _ _ hC]
  have hs1 : W1.heap.size = w.heap.size + 2 := by rw [← hW1]; simp
  refine ⟨w.heap.size + 1, [{ target := .collected w.heap.size, args := #[] }], W1, { target := .fn (.func gf) lb, args := #[.func (.yield (w.heap.size + 1)) #[] #[]] }, W1, gf,
    #[.func (.yield (w.heap.size + 1)) #[] #[]] ++ lb, W1, ?_, ?_, ?_, ?_, fun _ => h1, ?_⟩
  · rw [← hW1, hrec]; exact run_enterLoop_outer _ _ _ _ _
  · simp only [resolve, hg]
    simp [go_sem]
  · intro f' hf'; simp [Target.leads] at hf'; subst hf'; exact hFg
  · simp [invoke, go_sem, eg]
  · refine (hseq (w.heap.size + 1)
      (fun pre W => I pre W ∧ W.heap[w.heap.size + 1]? = some (.loop (rec .ready none)) ∧ W.heap[w.heap.size]? = some (.deferred (some [])))
      W1 hC1 hC (by omega)
      (fun pre A o hs => ⟨hI.alloc _ hs.1, (Below.heap_alloc _ _ _ (Array.getElem?_eq_some_iff.1 hs.2.1).1).trans hs.2.1, (Below.heap_alloc _ _ _ (Array.getElem?_eq_some_iff.1 hs.2.2).1).trans hs.2.2⟩)
      (fun pre A i v hs => ⟨by rw [hs1]; exact hIs _ _ _ _ hs.1, (Below.heap_setCell _ _ _ _ (by rw [hs1]; intro e; simp at e)).trans hs.2.1, (Below.heap_setCell _ _ _ _ (by rw [hs1]; intro e; simp at e)).trans hs.2.2⟩)
      ?_ ⟨hI1, hL1, hK1⟩).mono ?_
    · -- ONE ROUND
      rintro pre x W ⟨hi, hl, hk⟩ hsz hcb hpost
      rw [hs1] at hsz ⊢
      have hlt : w.heap.size + 1 < W.heap.size := by omega
      have hy := run_yield (P := P) (args := #[enc x]) hl (by rw [hrec]; simp [hps])
      rw [hrec] at hy
      refine ⟨fn, _, assign, body, hy, roundIn_of_wpIn hfn (wpIn_mono (hassign _ pre x W hi hpost hsz hcb) ?_)⟩
      clear hy
      rintro e a' Wa hq
      cases e with
      | normal =>
        obtain ⟨hS, hax⟩ := hq
        have hl' := hS _ _ (.inr (.inr (.inl rfl))) hl
        have hk' := hS _ _ (.inr (.inl rfl)) hk
        have hsz' : w.heap.size + 2 < Wa.heap.size := by
          have := hS (w.heap.size + 2) _ (.inr (.inr (.inr rfl))) (Array.getElem?_eq_getElem hsz)
          exact (Array.getElem?_eq_some_iff.1 this).1
        have hcl : Cb < W.heap.size := by omega
        have hcb' : Wa.heap[Cb]? = w.heap[Cb]? := (hS.eq (.inl rfl) hcl).trans hcb
        have hD' : Wa.heap[w.heap.size + 2]? = W.heap[w.heap.size + 2]? := hS.eq (.inr (.inr (.inr rfl))) hsz
        refine ⟨_, run_beginRound hl' (by rw [hrec]), ?_⟩
        obtain ⟨Wb, hWb⟩ : ∃ Wb, Wa.putObj (w.heap.size + 1) (.loop { rec .ready none with state := .busy }) = Wb := ⟨_, rfl⟩
        have hl2 : Wb.heap[w.heap.size + 1]? = some (.loop { rec .ready none with state := .busy }) := by rw [← hWb]; exact World.putObj_heap_same (by omega)
        have hk2 : Wb.heap[w.heap.size]? = some (.deferred (some [])) := by rw [← hWb]; exact (World.putObj_heap_other (by omega)).trans hk'
        have hcb2 : Wb.heap[Cb]? = w.heap[Cb]? := by rw [← hWb]; exact (World.putObj_heap_other (by omega)).trans hcb'
        have hD2 : Wb.heap[w.heap.size + 2]? = W.heap[w.heap.size + 2]? := by rw [← hWb]; exact (World.putObj_heap_other (by omega)).trans hD'
        have hsz2 : w.heap.size + 2 < Wb.heap.size := by rw [← hWb]; simpa using hsz'
        have hax2 : Ax pre x a' Wb := by rw [← hWb]; exact (hAx pre x a').putObj (s := ()) _ hax (by omega) hl' rfl
        show body.wpIn _ _ _ _ _ (Wa.putObj (w.heap.size + 1) (.loop { rec .ready none with state := .busy }))
        rw [hWb]
        refine wpIn_mono (hbody _ pre x a' Wb hax2 hpost hsz2 hcb2) ?_
        rintro e a3 W3 hp
        cases e with
        | normal =>
          obtain ⟨hS3, hi3⟩ := hp
          have hl3 := hS3 _ _ (.inr (.inr (.inl rfl))) hl2
          have hk3 := hS3 _ _ (.inr (.inl rfl)) hk2
          have hr := run_endRound (P := P) none hl3
          have hC3 : W3.heap[Cb]? = W.heap[Cb]? := ((hS3.eq (.inl rfl) (by omega)).trans hcb2).trans hcb.symm
          have hD3 : W3.heap[w.heap.size + 2]? = W.heap[w.heap.size + 2]? := (hS3.eq (.inr (.inr (.inr rfl))) hsz2).trans hD2
          rw [hrec] at hr
          refine ⟨_, _, hr, rfl, ⟨hI.putObj _ hi3 (by omega) hl3 rfl, ?_, ?_⟩, ?_, ?_⟩
          · rw [hrec]; exact World.putObj_heap_same (Array.getElem?_eq_some_iff.1 hl3).1
          · exact (World.putObj_heap_other (by omega)).trans hk3
          · exact (World.putObj_heap_other (by omega)).trans hD3
          · exact (World.putObj_heap_other (by omega)).trans hC3
        | exit id => exact hp.elim
        | goto t => exact hp.elim
        | ret => exact hp.elim
        | panic ch => exact hp.elim
        | outgrown => exact hp.elim
      | exit id => exact hq.elim
      | goto t => exact hq.elim
      | ret => exact hq.elim
      | panic ch => exact hq.elim
      | outgrown => exact hq.elim
    · -- BEHIND THE ITERATOR
      rintro e W2 ⟨⟨v, rfl⟩, hi, hl, hk⟩
      exact ⟨none, _, by have := run_endLoop (P := P) hl (by rw [hrec]; simp); rw [hrec] at this; exact this, hdone _ (hI.putObj _ hi (by omega) hl rfl) ((World.putObj_heap_other (by omega)).trans hk)⟩
end Go.Proofs.YtpkldjlljoledaaDoor

/- The drivers of a class as a list: plain. -/
namespace Go.Proofs.YtpkldjlljoledaaDoor
open Go.RowKit

def rowL (ma st lo : Int) (k : Nat) : List (Int × Int × Int) := (List.range k).map fun (i : Nat) => (ma, st, lo + i)
def rowS (ma st lo : Int) (L k : Nat) : List (Int × Int × Int) := (List.range k).flatMap fun (j : Nat) => rowL ma (st + j) lo L
def rowM (ma st lo : Int) (S L k : Nat) : List (Int × Int × Int) := (List.range k).flatMap fun (i : Nat) => rowS (ma + i) st lo L S
theorem rowL_succ (ma st lo : Int) (k : Nat) : rowL ma st lo (k + 1) = rowL ma st lo k ++ [(ma, st, lo + k)] := by simp [rowL, List.range_succ]
theorem rowS_succ (ma st lo : Int) (L k : Nat) : rowS ma st lo L (k + 1) = rowS ma st lo L k ++ rowL ma (st + k) lo L := by simp [rowS, List.range_succ]
theorem rowM_succ (ma st lo : Int) (S L k : Nat) : rowM ma st lo S L (k + 1) = rowM ma st lo S L k ++ rowS (ma + k) st lo L S := by simp [rowM, List.range_succ]
theorem pre_of_succ {f : Nat → List (Int × Int × Int)} (h : ∀ k, ∃ t, f (k + 1) = f k ++ t) {a b : Nat} (hab : a ≤ b) : ∃ t, f b = f a ++ t := by
  induction hab with
  | refl => exact ⟨[], by simp⟩
  | step _ ih =>
    obtain ⟨t, ht⟩ := ih
    obtain ⟨t', ht'⟩ := h _
    exact ⟨t ++ t', by rw [ht', ht, List.append_assoc]⟩
theorem row_next (ma st lo : Int) (M S L i j k : Nat) (hi : i < M) (hj : j < S) (hk : k < L) :
    ∃ post, rowM ma st lo S L M = (rowM ma st lo S L i ++ rowS (ma + i) st lo L j ++ rowL (ma + i) (st + j) lo k) ++ (ma + i, st + j, lo + k) :: post := by
  obtain ⟨t1, h1⟩ := pre_of_succ (f := rowM ma st lo S L) (fun k => ⟨_, rowM_succ _ _ _ _ _ _⟩) (show i + 1 ≤ M from hi)
  obtain ⟨t2, h2⟩ := pre_of_succ (f := rowS (ma + i) st lo L) (fun k => ⟨_, rowS_succ _ _ _ _ _⟩) (show j + 1 ≤ S from hj)
  obtain ⟨t3, h3⟩ := pre_of_succ (f := rowL (ma + i) (st + j) lo) (fun k => ⟨_, rowL_succ _ _ _ _⟩) (show k + 1 ≤ L from hk)
  refine ⟨t3 ++ (t2 ++ t1), ?_⟩
  rw [h1, rowM_succ, h2, rowS_succ, h3, rowL_succ]
  simp
/-- the drivers of a class, in the order of the program. -/
def drvs (ma st lo m k r : Int) : List (Int × Int × Int) := rowM ma st lo (k + 1 - st).toNat (r + 1 - lo).toNat (m + 1 - ma).toNat
theorem mem_drvs {ma st lo m k r : Int} {x : Int × Int × Int} (h : x ∈ drvs ma st lo m k r) : (ma ≤ x.1 ∧ x.1 ≤ m) ∧ (st ≤ x.2.1 ∧ x.2.1 ≤ k) ∧ (lo ≤ x.2.2 ∧ x.2.2 ≤ r) := by
  simp only [drvs, rowM, rowS, rowL, List.mem_flatMap, List.mem_map, List.mem_range] at h
  obtain ⟨i, hi, j, hj, l, hl, rfl⟩ := h
  simp only
  omega
theorem drvs_len (ma st lo m k r : Int) : (drvs ma st lo m k r).length = (m + 1 - ma).toNat * ((k + 1 - st).toNat * (r + 1 - lo).toNat) := by
  have e : ∀ (l : List Nat) (n : Nat), (l.map fun _ => n).sum = l.length * n := by
    intro l n
    induction l with
    | nil => simp
    | cons a l ih => simp [ih, Nat.succ_mul, Nat.add_comm]
  simp [drvs, rowM, rowS, rowL, List.length_flatMap, e]
end Go.Proofs.YtpkldjlljoledaaDoor
