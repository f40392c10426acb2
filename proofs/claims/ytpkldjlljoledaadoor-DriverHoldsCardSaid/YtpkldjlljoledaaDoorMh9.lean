/- Part 9 of the texts of the claim: B2, B4, B7, B8, Calm2, It2. -/
import Derived.Test.YtpkldjlljoledaaDoorMh7
import Derived.Test.YtpkldjlljoledaaDoorMh8
import Derived.Test.YtpkldjlljoledaaDoorMh1
import Derived.Laws.CopyOwn
import Derived.Laws.MakeOwn

/- Contracts of package driver's readings: levels, and whether a driver fits one. -/
namespace Go.Proofs.YtpkldjlljoledaaDoor
open Go.RowKit
open Calm (bcell Blk)

def sq (a b : Int) : Int := a * a + b * b
theorem mul_self_nonneg (a : Int) : 0 ≤ a * a := by
  rcases Int.le_total 0 a with h | h
  · exact Int.mul_nonneg h h
  · exact Int.mul_nonneg_of_nonpos_of_nonpos h h
theorem sq_bd {M a b : Int} (h1 : Bd M a) (h2 : Bd M b) (hM : 0 ≤ M) : 0 ≤ sq a b ∧ sq a b ≤ 2 * (M * M) := by
  obtain ⟨_, e1⟩ := h1.mul h1 hM
  obtain ⟨_, e2⟩ := h2.mul h2 hM
  have p1 := mul_self_nonneg a
  have p2 := mul_self_nonneg b
  unfold sq
  omega
theorem square_any (a b : Int) (w : World) (h1 : Bd 1000000000 a) (h2 : Bd 1000000000 b) :
    Calls Tryd.prog 114 #[.agg #[(.int .i64 (a)), (.int .i64 (b))]] w fun r w' => r = .returned (.int .i64 (sq a b)) ∧ Below w.heap.size w w' := by
  obtain ⟨e1, e2⟩ := h1.mul h1 (by omega)
  obtain ⟨e3, e4⟩ := h2.mul h2 (by omega)
  have p1 := mul_self_nonneg a
  have p2 := mul_self_nonneg b
  go_enter Tryd.func114, Tryd.ntmps114
  go_wp2
  go_ret
  refine ⟨rfl, ?_⟩
  repeat (first | (with_reducible exact Below.refl _ _) | ((with_reducible refine Below.setCell ?_ ?_ _); rotate_left 1; focus (first | (simp; done) | (simp; omega) | (simp at *; omega))) | ((with_reducible refine Below.alloc ?_ ?_ _); rotate_left 1; focus (first | (simp; done) | (simp; omega) | (simp at *; omega))) | (with_reducible refine Below.drew ?_) | ((with_reducible refine Calm.step (by assumption) ?_ ?_); rotate_left 1; focus (first | (simp; done) | (simp; omega) | (simp at *; omega))))

/-- the squared absolute value of an impedance, as a quotient. -/
def vN (re le bl ma st lo w : Int) : Int := sq (nRe re le bl ma st lo w) (nIm re le bl ma st lo w)
def vD (ma st lo w : Int) : Int := sq (mRe st ma w) (mIm lo w)
theorem v_bds {re le bl ma st lo w0 : Int} (hF : Fit re le bl ma st lo w0) : (0 ≤ vN re le bl ma st lo w0 ∧ vN re le bl ma st lo w0 ≤ 34426880000000000) ∧ 1 ≤ vD ma st lo w0 ∧ vD ma st lo w0 ≤ 800000000 := by
  obtain ⟨m1, m2⟩ := hF.mech
  obtain ⟨n1, n2⟩ := hF.num
  have h1 := sq_bd n1 n2 (by omega)
  have h2 := sq_bd m1 m2 (by omega)
  refine ⟨⟨h1.1, by have := h1.2; unfold vN; omega⟩, ?_, by have := h2.2; unfold vD; omega⟩
  have p : 1 ≤ mIm lo w0 := by
    have := Int.mul_pos (show 0 < w0 by have := hF.w; omega) (show 0 < lo by have := hF.lo; omega)
    unfold mIm
    omega
  have q : 0 < mIm lo w0 * mIm lo w0 := Int.mul_pos (by omega) (by omega)
  have r := mul_self_nonneg (mRe st ma w0)
  unfold vD sq
  omega
theorem level_any (re le bl ma st lo w0 : Int) (w : World) (hF : Fit re le bl ma st lo w0) :
    Calls Tryd.prog 98 #[.agg #[(.int .i64 (re)), (.int .i64 (le)), (.int .i64 (bl)), (.int .i64 (ma)), (.int .i64 (st)), (.int .i64 (lo))], (.int .i64 (w0))] w fun r w' => r = .returned (.tuple #[(.int .i64 (vN re le bl ma st lo w0)), (.int .i64 (vD ma st lo w0))]) ∧ Below w.heap.size w w' := by
  obtain ⟨⟨m1, m2⟩, ⟨m3, m4⟩⟩ := hF.mech
  obtain ⟨⟨n1, n2⟩, ⟨n3, n4⟩⟩ := hF.num
  go_enter Tryd.func98, Tryd.ntmps98
  go_wp2_with (first | (go_at_call 75; refine (impedance_any _ _ _ _ _ _ _ _ hF).mono ?_; rintro r w1 ⟨rfl, hb⟩; obtain ⟨hc, hf⟩ := bcell hb; have hz := hb.size; (try simp at hz); (try have hz0 : w.heap.size < w1.heap.size := by omega); (try have hz1 : w.heap.size + 1 < w1.heap.size := by omega); (try have hz2 : w.heap.size + 1 + 1 < w1.heap.size := by omega); (try have hz3 : w.heap.size + 1 + 1 + 1 < w1.heap.size := by omega); (try have hz4 : w.heap.size + 1 + 1 + 1 + 1 < w1.heap.size := by omega); (try have hz5 : w.heap.size + 1 + 1 + 1 + 1 + 1 < w1.heap.size := by omega); (try have hz6 : w.heap.size + 1 + 1 + 1 + 1 + 1 + 1 < w1.heap.size := by omega)))
  refine Calm.all_below (by kernel_rfl) (by kernel_rfl) ?_
  repeat (first | (first | (apply Calm.op_move; (focus rfl); (focus (first | exact .inl rfl | exact .inr rfl)); (focus ((try simp only [Act.eval, Array.getD_eq_getD_getElem?, List.getElem?_toArray, List.getElem?_cons_succ, List.getElem?_cons_zero, Option.getD_some]); rfl)); (try simp only [Act.put, List.setIfInBounds_toArray, List.set_cons_zero, List.set_cons_succ])) | (apply Calm.op_not; (focus rfl); (try simp only [Act.put, List.setIfInBounds_toArray, List.set_cons_zero, List.set_cons_succ])) | (apply Calm.op; (focus rfl); (focus (intro W hb; obtain ⟨hc, hf⟩ := bcell hb; clear hb hf; go_simp; (try go_bits); (try rfl); done)); (try simp only [Act.put, List.setIfInBounds_toArray, List.set_cons_zero, List.set_cons_succ]))) | (apply Calm.op_call; (focus rfl); (focus (intro W hb; obtain ⟨hc, hf⟩ := bcell hb; clear hb hf; go_simp; refine ⟨?_, ?_⟩; rfl; rfl)); (focus (intro W hb; first | (go_at_call 114; exact Calm.call_below hb (square_any _ _ _ ⟨by omega, by omega⟩ ⟨by omega, by omega⟩)))); (try simp only [Act.put, List.setIfInBounds_toArray, List.set_cons_zero, List.set_cons_succ])))
  refine wpQuiet_nil ?_
  intro w2 hb2
  obtain ⟨hb2c, hb2f⟩ := bcell hb2
  have hb2z := hb2.size
  (try simp at hb2z)
  (try have hb2z0 : w.heap.size < w2.heap.size := by omega)
  (try have hb2z1 : w.heap.size + 1 < w2.heap.size := by omega)
  (try have hb2z2 : w.heap.size + 1 + 1 < w2.heap.size := by omega)
  (try have hb2z3 : w.heap.size + 1 + 1 + 1 < w2.heap.size := by omega)
  (try have hb2z4 : w.heap.size + 1 + 1 + 1 + 1 < w2.heap.size := by omega)
  (try have hb2z5 : w.heap.size + 1 + 1 + 1 + 1 + 1 < w2.heap.size := by omega)
  go_wp2
  go_ret2
  refine ⟨by simp [vN, vD], ?_⟩
  repeat (first | (with_reducible exact Below.refl _ _) | ((with_reducible refine Below.setCell ?_ ?_ _); rotate_left 1; focus (first | (simp; done) | (simp; omega) | (simp at *; omega))) | ((with_reducible refine Below.alloc ?_ ?_ _); rotate_left 1; focus (first | (simp; done) | (simp; omega) | (simp at *; omega))) | (with_reducible refine Below.drew ?_) | ((with_reducible refine Calm.step (by assumption) ?_ ?_); rotate_left 1; focus (first | (simp; done) | (simp; omega) | (simp at *; omega))))

/-- does a driver fit a reading. -/
def fitB (re le bl ma st lo w a b : Int) : Bool := decide (a * vD ma st lo w ≤ vN re le bl ma st lo w ∧ vN re le bl ma st lo w ≤ b * vD ma st lo w)
set_option maxHeartbeats 1000000 in
theorem fits_any (re le bl ma st lo w0 a b : Int) (w : World) (hF : Fit re le bl ma st lo w0) (ha : 0 ≤ a ∧ a ≤ 1000000) (hb' : 0 ≤ b ∧ b ≤ 1000000) :
    Calls Tryd.prog 117 #[.agg #[(.int .i64 (re)), (.int .i64 (le)), (.int .i64 (bl)), (.int .i64 (ma)), (.int .i64 (st)), (.int .i64 (lo))], .agg #[(.int .i64 (w0)), (.int .i64 (a)), (.int .i64 (b))]] w fun r w' => r = .returned (.bool (fitB re le bl ma st lo w0 a b)) ∧ Below w.heap.size w w' := by
  obtain ⟨⟨v1, v2⟩, v3, v4⟩ := v_bds hF
  have qa : Bd 1000000 a := ⟨by omega, by omega⟩
  have qb : Bd 1000000 b := ⟨by omega, by omega⟩
  have qd : Bd 800000000 (vD ma st lo w0) := ⟨by omega, by omega⟩
  obtain ⟨e1, e2⟩ := qa.mul qd (by omega)
  obtain ⟨e3, e4⟩ := qb.mul qd (by omega)
  clear qa qb qd ha hb'
  by_cases h1 : a * vD ma st lo w0 ≤ vN re le bl ma st lo w0
  · by_cases h2 : vN re le bl ma st lo w0 ≤ b * vD ma st lo w0
    · have hR : fitB re le bl ma st lo w0 a b = true := decide_eq_true ⟨h1, h2⟩
      rw [hR]
      clear hR
      go_enter Tryd.func117, Tryd.ntmps117
      go_wp2_with (first | (go_at_call 98; refine (level_any _ _ _ _ _ _ _ _ hF).mono ?_; rintro r w1 ⟨rfl, hb⟩; obtain ⟨hc, hf⟩ := bcell hb; have hz := hb.size; (try simp at hz); (try have hz0 : w.heap.size < w1.heap.size := by omega); (try have hz1 : w.heap.size + 1 < w1.heap.size := by omega); (try have hz2 : w.heap.size + 1 + 1 < w1.heap.size := by omega); (try have hz3 : w.heap.size + 1 + 1 + 1 < w1.heap.size := by omega); (try have hz4 : w.heap.size + 1 + 1 + 1 + 1 < w1.heap.size := by omega); (try have hz5 : w.heap.size + 1 + 1 + 1 + 1 + 1 < w1.heap.size := by omega); (try have hz6 : w.heap.size + 1 + 1 + 1 + 1 + 1 + 1 < w1.heap.size := by omega)))
      go_ret
      refine ⟨by first | rfl | (simp; omega), ?_⟩
      repeat (first | (with_reducible exact Below.refl _ _) | ((with_reducible refine Below.setCell ?_ ?_ _); rotate_left 1; focus (first | (simp; done) | (simp; omega) | (simp at *; omega))) | ((with_reducible refine Below.alloc ?_ ?_ _); rotate_left 1; focus (first | (simp; done) | (simp; omega) | (simp at *; omega))) | (with_reducible refine Below.drew ?_) | ((with_reducible refine Calm.step (by assumption) ?_ ?_); rotate_left 1; focus (first | (simp; done) | (simp; omega) | (simp at *; omega))))
    · have hR : fitB re le bl ma st lo w0 a b = false := decide_eq_false (fun h => h2 h.2)
      rw [hR]
      clear hR
      go_enter Tryd.func117, Tryd.ntmps117
      go_wp2_with (first | (go_at_call 98; refine (level_any _ _ _ _ _ _ _ _ hF).mono ?_; rintro r w1 ⟨rfl, hb⟩; obtain ⟨hc, hf⟩ := bcell hb; have hz := hb.size; (try simp at hz); (try have hz0 : w.heap.size < w1.heap.size := by omega); (try have hz1 : w.heap.size + 1 < w1.heap.size := by omega); (try have hz2 : w.heap.size + 1 + 1 < w1.heap.size := by omega); (try have hz3 : w.heap.size + 1 + 1 + 1 < w1.heap.size := by omega); (try have hz4 : w.heap.size + 1 + 1 + 1 + 1 < w1.heap.size := by omega); (try have hz5 : w.heap.size + 1 + 1 + 1 + 1 + 1 < w1.heap.size := by omega); (try have hz6 : w.heap.size + 1 + 1 + 1 + 1 + 1 + 1 < w1.heap.size := by omega)))
      go_ret
      refine ⟨by first | rfl | (simp; omega), ?_⟩
      repeat (first | (with_reducible exact Below.refl _ _) | ((with_reducible refine Below.setCell ?_ ?_ _); rotate_left 1; focus (first | (simp; done) | (simp; omega) | (simp at *; omega))) | ((with_reducible refine Below.alloc ?_ ?_ _); rotate_left 1; focus (first | (simp; done) | (simp; omega) | (simp at *; omega))) | (with_reducible refine Below.drew ?_) | ((with_reducible refine Calm.step (by assumption) ?_ ?_); rotate_left 1; focus (first | (simp; done) | (simp; omega) | (simp at *; omega))))
  · have hR : fitB re le bl ma st lo w0 a b = false := decide_eq_false (fun h => h1 h.1)
    rw [hR]
    clear hR
    go_enter Tryd.func117, Tryd.ntmps117
    go_wp2_with (first | (go_at_call 98; refine (level_any _ _ _ _ _ _ _ _ hF).mono ?_; rintro r w1 ⟨rfl, hb⟩; obtain ⟨hc, hf⟩ := bcell hb; have hz := hb.size; (try simp at hz); (try have hz0 : w.heap.size < w1.heap.size := by omega); (try have hz1 : w.heap.size + 1 < w1.heap.size := by omega); (try have hz2 : w.heap.size + 1 + 1 < w1.heap.size := by omega); (try have hz3 : w.heap.size + 1 + 1 + 1 < w1.heap.size := by omega); (try have hz4 : w.heap.size + 1 + 1 + 1 + 1 < w1.heap.size := by omega); (try have hz5 : w.heap.size + 1 + 1 + 1 + 1 + 1 < w1.heap.size := by omega); (try have hz6 : w.heap.size + 1 + 1 + 1 + 1 + 1 + 1 < w1.heap.size := by omega)))
    go_ret
    refine ⟨by first | rfl | (simp; omega), ?_⟩
    repeat (first | (with_reducible exact Below.refl _ _) | ((with_reducible refine Below.setCell ?_ ?_ _); rotate_left 1; focus (first | (simp; done) | (simp; omega) | (simp at *; omega))) | ((with_reducible refine Below.alloc ?_ ?_ _); rotate_left 1; focus (first | (simp; done) | (simp; omega) | (simp at *; omega))) | (with_reducible refine Below.drew ?_) | ((with_reducible refine Calm.step (by assumption) ?_ ?_); rotate_left 1; focus (first | (simp; done) | (simp; omega) | (simp at *; omega))))
end Go.Proofs.YtpkldjlljoledaaDoor

/- Contracts of package driver's 'kept', as it is used. -/
namespace Go.Proofs.YtpkldjlljoledaaDoor
open Go.RowKit
open Calm (bcell Blk)

theorem Tryd.infoI : (Tryd.prog.info? 3).map (fun i => (i.zero, i.size, i.bytes)) = some (some (.int .i64 0), 1, 8) := by kernel_rfl

theorem sweepBad_no (x : Int) (w : World) (h : rangeErr x 1 8 = 0) : Calls Tryd.prog 96 #[(.int .i64 (x))] w fun r w' => r = .returned (.bool false) ∧ w = w' := by
  go_enter Tryd.func96, Tryd.ntmps96
  go_wp2_with (first | (go_at_call 97; refine (checkW_any _ _).mono ?_; rintro r w1 ⟨rfl, rfl⟩))
  go_ret
  exact ⟨rfl, rfl⟩
theorem sweepBad_yes (x : Int) (w : World) (h : rangeErr x 1 8 = 3) : Calls Tryd.prog 96 #[(.int .i64 (x))] w fun r w' => r = .returned (.bool true) ∧ w = w' := by
  go_enter Tryd.func96, Tryd.ntmps96
  go_wp2_with (first | (go_at_call 97; refine (checkW_any _ _).mono ?_; rintro r w1 ⟨rfl, rfl⟩))
  go_ret
  exact ⟨rfl, rfl⟩

/-- a slice of n elements is handed back. -/
def SomeLen (n : Nat) (w : World) (e : Ending) (w' : World) : Prop := ∃ A c, e = .returned (.slice A n c) ∧ Below w.heap.size w w'
def keptBad (zs : List Int) : List Int := zs.filter (fun x => rangeErr x 1 8 != 0)
theorem keptBad_succ {zs : List Int} {k : Nat} (hk : k < zs.length) : keptBad (zs.take (k + 1)) = keptBad (zs.take k) ++ (if rangeErr (zs.getD k 0) 1 8 = 0 then [] else [zs.getD k 0]) := by
  rw [List.take_succ_eq_append_getElem hk]
  simp only [keptBad, List.filter_append, List.getD_eq_getElem?_getD, List.getElem?_eq_getElem hk, Option.getD_some]
  by_cases h : rangeErr zs[k] 1 8 = 0 <;> simp [h]
theorem keptBad_le (zs : List Int) (k : Nat) : (keptBad (zs.take k)).length ≤ k := Nat.le_trans (List.length_filter_le _ _) (List.length_take_le _ _)

set_option maxHeartbeats 2000000 in
set_option maxRecDepth 100000 in
theorem keptBad_any (A : Option Addr) (zs : List Int) (c : Nat) (w : World) (hC : Cells w A zs) (hn : zs.length ≤ 100000) :
    Calls Tryd.prog 95 #[.slice A zs.length c, .func (.func 96) #[] #[]] w (SomeLen (keptBad zs).length w) := by
  obtain ⟨i0, hi, hz0, hz1, hz2⟩ := info_parts Tryd.infoI
  go_enter Tryd.func95, Tryd.ntmps95
  go_wp2
  go_loopw [5, 10] (fun v i wr => ∃ k : Nat, k ≤ zs.length ∧ i = (.int .i64 (k)) ∧ wr.ownsRow w.heap.size 3 1 v (keptBad (zs.take k)).length ((keptBad (zs.take k)).map (Value.int .i64)) ∧ Below w.heap.size w wr) (fun _ i _ => zs.length - (intOf i).toNat)
  case atStart => exact ⟨0, Nat.zero_le _, rfl, World.ownsRow_nil _ _ _ _, Below.refl _ _⟩
  case round =>
    obtain ⟨k, hk, rfl, hown, hB⟩ := hrel
    have hle := keptBad_le zs k
    by_cases hlt : k < zs.length
    · obtain ⟨b, o, rfl, l1, k1⟩ := hC (by omega)
      have x1 : wr.cell? ⟨b, o + k, none⟩ = some (.int .i64 (zs.getD k 0)) := (hB.cell (p := ⟨b, o + k, none⟩) l1).trans (k1 k hlt)
      have hs := keptBad_succ hlt
      clear k1 hC
      obtain ⟨x, hx⟩ : ∃ x, x = zs.getD k 0 := ⟨_, rfl⟩
      rw [← hx] at x1 hs
      clear hx
      rcases rangeErr_cases x 1 8 with ⟨h0, _, _⟩ | ⟨h0, _⟩
      · rw [if_pos h0, List.append_nil] at hs
        have HS := Lib.hid hs
        clear hs
        go_wp2_with (go_at_call 96; refine (sweepBad_no _ _ h0).mono ?_; rintro r w2 ⟨rfl, rfl⟩)
        go_roundw
        case rel => exact ⟨k + 1, by omega, by go_num, by rw [HS.out]; exact hown, hB⟩
        case measure => simp [intOf]; omega
      · rw [if_neg (by omega)] at hs
        have HS := Lib.hid hs
        clear hs
        go_wp2_with (first
          | (go_at_call 96; refine (sweepBad_yes _ _ h0).mono ?_; rintro r w2 ⟨rfl, rfl⟩)
          | (at_builtin; refine wpList_append_own _ rfl _ _ 38 rfl w.heap.size 3 i0 (.int .i64 0) 1 8 Tryd.underlying38 hi hz0 hz1 hz2 rfl (by decide) _ _ _ rfl (hown.alloc _) ⟨wr.heap.size, 0, none⟩ 1 1 [.int .i64 x] rfl rfl ?c1 ?c2 ?c3 ?c4 ?c5 ?_))
        case c1 =>
          intro j u hj
          match j, hj with
          | 0, hj => simp at hj; subst hj; simp [Addr.add]
        case c2 => intro u hu; simp at hu; subst hu; rfl
        case c3 => unfold maxLen; omega
        case c4 => omega
        case c5 => have := hB.size; simp; omega
        intro v' w1 hown' hgrow _
        have hsz := hB.size
        have hB' : Below w.heap.size w w1 := (hB.alloc hsz _).grown hgrow (by simp; omega) (fun j hj => (hown.lt j hj).1)
        clear hgrow
        go_wp2
        go_roundw
        case rel => exact ⟨k + 1, by omega, by go_num, by rw [HS.out]; simpa using hown', hB'⟩
        case measure => simp [intOf]; omega
    · obtain rfl : k = zs.length := by omega
      have e : zs.take zs.length = zs := List.take_length
      rw [e] at hown
      go_wp2
      go_ret
      rcases hown.2 with ⟨rfl, h⟩ | ⟨g, cap, cur, rfl, _⟩
      · have h1 := hown.1
        have : (keptBad zs).length = 0 := by simp [h]
        exact ⟨none, 0, by rw [this]; rfl, hB⟩
      · exact ⟨_, _, rfl, hB⟩
end Go.Proofs.YtpkldjlljoledaaDoor

/- Contracts of package driver's 'kept' over readings, and of 'explains'. -/
namespace Go.Proofs.YtpkldjlljoledaaDoor
open Go.RowKit
open Calm (bcell Blk)

theorem ownsRow_below {w w' : World} {B e size n : Nat} {v : Value} {xs : List Value} (h : w.ownsRow B e size v n xs) (hb : Below w.heap.size w w') : w'.ownsRow B e size v n xs := by
  refine ⟨h.1, ?_⟩
  rcases h.2 with hn | ⟨g, cap, cur, rfl, hg, hgg, rest⟩
  · exact .inl hn
  · exact .inr ⟨g, cap, cur, rfl, hg, by rw [hb.block g (Array.getElem?_eq_some_iff.1 hgg).1]; exact hgg, rest⟩

theorem readErr_zero {a b c : Int} (h : readErr a b c = 0) : (1 ≤ a ∧ a ≤ 8) ∧ (0 ≤ b ∧ b ≤ 1000000) ∧ (0 ≤ c ∧ c ≤ 1000000) ∧ b ≤ c := by
  unfold readErr at h
  have h1 := firstOf_eq_zero.1 h
  simp only [List.mem_cons, List.not_mem_nil, or_false, forall_eq_or_imp, forall_eq, rangeErr_zero] at h1
  obtain ⟨h1, h2, h3, h4⟩ := h1
  refine ⟨h1, h2, h3, ?_⟩
  by_cases hh : c < b
  · rw [if_pos hh] at h4; omega
  · omega
theorem fit_of {re le bl ma st lo w0 : Int} (hd : drvErr re le bl ma st lo = 0) (hw : 1 ≤ w0 ∧ w0 ≤ 8) : Fit re le bl ma st lo w0 := by
  refine drvn_fit ?_
  unfold drvnErr
  refine firstOf_eq_zero.2 ?_
  simp only [List.mem_cons, List.not_mem_nil, or_false, forall_eq_or_imp, forall_eq, rangeErr_zero]
  exact ⟨hd, hw⟩

theorem Tryd.infoR : (Tryd.prog.info? 126).map (fun i => (i.zero, i.size, i.bytes)) = some (some (.agg #[.int .i64 0, .int .i64 0, .int .i64 0]), 3, 24) := by kernel_rfl

/-- the readings that a driver fits. -/
def keptFit (re le bl ma st lo : Int) (zs : List (Int × Int × Int)) : List (Int × Int × Int) := zs.filter (fun r => fitB re le bl ma st lo r.1 r.2.1 r.2.2)
def flat3 (zs : List (Int × Int × Int)) : List Value := zs.flatMap fun r => [(.int .i64 (r.1)), (.int .i64 (r.2.1)), (.int .i64 (r.2.2))]
theorem flat3_append (a b : List (Int × Int × Int)) : flat3 (a ++ b) = flat3 a ++ flat3 b := by simp [flat3]
theorem keptFit_succ (re le bl ma st lo : Int) {zs : List (Int × Int × Int)} {k : Nat} (hk : k < zs.length) : keptFit re le bl ma st lo (zs.take (k + 1)) = keptFit re le bl ma st lo (zs.take k) ++ (if fitB re le bl ma st lo (zs.getD k (0, 0, 0)).1 (zs.getD k (0, 0, 0)).2.1 (zs.getD k (0, 0, 0)).2.2 = true then [zs.getD k (0, 0, 0)] else []) := by
  rw [List.take_succ_eq_append_getElem hk]
  simp only [keptFit, List.filter_append, List.getD_eq_getElem?_getD, List.getElem?_eq_getElem hk, Option.getD_some]
  by_cases h : fitB re le bl ma st lo zs[k].1 zs[k].2.1 zs[k].2.2 = true <;> simp [h]
theorem keptFit_le (re le bl ma st lo : Int) (zs : List (Int × Int × Int)) (k : Nat) : (keptFit re le bl ma st lo (zs.take k)).length ≤ k := Nat.le_trans (List.length_filter_le _ _) (List.length_take_le _ _)

set_option maxHeartbeats 4000000 in
set_option maxRecDepth 100000 in
theorem keptFit_any (re le bl ma st lo : Int) (A : Option Addr) (zs : List (Int × Int × Int)) (c : Nat) (w : World) (hd : drvErr re le bl ma st lo = 0) (hC : RCells w A zs) (hn : zs.length ≤ 1000) (hz : ∀ k, k < zs.length → readErr (zs.getD k (0, 0, 0)).1 (zs.getD k (0, 0, 0)).2.1 (zs.getD k (0, 0, 0)).2.2 = 0) :
    Calls Tryd.prog 116 #[.slice A zs.length c, .func (.func 117) #[.agg #[(.int .i64 (re)), (.int .i64 (le)), (.int .i64 (bl)), (.int .i64 (ma)), (.int .i64 (st)), (.int .i64 (lo))]] #[]] w (SomeLen (keptFit re le bl ma st lo zs).length w) := by
  obtain ⟨i0, hi, hz0, hz1, hz2⟩ := info_parts Tryd.infoR
  have HZ := Lib.hid hz
  have HC := Lib.hid hC
  have HD := Lib.hid hd
  clear hz hC hd
  go_enter Tryd.func116, Tryd.ntmps116
  go_wp2
  go_loopw [5, 10] (fun v i wr => ∃ k : Nat, k ≤ zs.length ∧ i = (.int .i64 (k)) ∧ wr.ownsRow w.heap.size 126 3 v (keptFit re le bl ma st lo (zs.take k)).length (flat3 (keptFit re le bl ma st lo (zs.take k))) ∧ Below w.heap.size w wr) (fun _ i _ => zs.length - (intOf i).toNat)
  case atStart => exact ⟨0, Nat.zero_le _, rfl, World.ownsRow_nil _ _ _ _, Below.refl _ _⟩
  case round =>
    obtain ⟨k, hk, rfl, hown, hB⟩ := hrel
    have hle := keptFit_le re le bl ma st lo zs k
    have hsz := hB.size
    by_cases hlt : k < zs.length
    · have hE := HZ.out k hlt
      obtain ⟨b, o, rfl, l1, k1⟩ := HC.out (by omega)
      obtain ⟨x1, x2, x3⟩ := k1 k hlt
      have x1 := (hB.cell (p := ⟨b, o + k * 3, none⟩) l1).trans x1
      have x2 := (hB.cell (p := ⟨b, o + k * 3 + 1, none⟩) l1).trans x2
      have x3 := (hB.cell (p := ⟨b, o + k * 3 + 2, none⟩) l1).trans x3
      have hs := keptFit_succ re le bl ma st lo hlt
      clear k1
      obtain ⟨⟨x, y, z⟩, hx⟩ : ∃ x, x = zs.getD k (0, 0, 0) := ⟨_, rfl⟩
      rw [← hx] at x1 x2 x3 hE hs
      clear hx
      simp only [] at x1 x2 x3 hE hs
      obtain ⟨q1, q2, q3, _⟩ := readErr_zero hE
      have hF := fit_of HD.out q1
      clear hE
      cases hf : fitB re le bl ma st lo x y z
      · rw [hf, if_neg (by simp), List.append_nil] at hs
        have HS := Lib.hid hs
        have HO := Lib.hid hown
        clear hs hown
        go_wp2_with (go_at_call 117; refine (fits_any re le bl ma st lo x y z _ hF q2 q3).mono ?_; rw [hf]; rintro r w1 ⟨rfl, hb⟩; obtain ⟨hc, hff⟩ := bcell hb; have hz := hb.size; (try simp at hz))
        go_roundw
        case rel => exact ⟨k + 1, by omega, by go_num, by rw [HS.out]; exact ownsRow_below HO.out (Below.trans ((Below.refl _ _).alloc (Nat.le_refl _) _) (Below.mono hb (by simp))), hB.trans (Below.mono (by (repeat (first | (with_reducible exact Below.refl _ _) | ((with_reducible refine Below.setCell ?_ ?_ _); rotate_left 1; focus (first | (simp; done) | (simp; omega) | (simp at *; omega))) | ((with_reducible refine Below.alloc ?_ ?_ _); rotate_left 1; focus (first | (simp; done) | (simp; omega) | (simp at *; omega))) | (with_reducible refine Below.drew ?_) | ((with_reducible refine Calm.step (by assumption) ?_ ?_); rotate_left 1; focus (first | (simp; done) | (simp; omega) | (simp at *; omega)))))) hsz)⟩
        case measure => simp [intOf]; omega
      · rw [hf, if_pos rfl] at hs
        have HS := Lib.hid hs
        have HO := Lib.hid hown
        clear hs hown
        go_wp2_with (first
          | (go_at_call 117; refine (fits_any re le bl ma st lo x y z _ hF q2 q3).mono ?_; rw [hf]; rintro r w1 ⟨rfl, hb⟩; obtain ⟨hc, hff⟩ := bcell hb; have hz := hb.size; (try simp at hz); have ho1 := ownsRow_below HO.out (Below.trans ((Below.refl _ _).alloc (Nat.le_refl _) _) (Below.mono hb (by simp))))
          | (at_builtin; refine wpList_append_own _ rfl _ _ 110 rfl w.heap.size 126 i0 _ 3 24 Tryd.underlying110 hi hz0 hz1 hz2 rfl (by decide) _ _ _ rfl (ho1.alloc _) ⟨w1.heap.size, 0, none⟩ 1 1 [(.int .i64 (x)), (.int .i64 (y)), (.int .i64 (z))] rfl rfl ?c1 ?c2 ?c3 ?c4 ?c5 ?_))
        case c1 =>
          intro j u hj
          match j, hj with
          | 0, hj => simp at hj; subst hj; simp [Addr.add]
          | 1, hj => simp at hj; subst hj; simp [Addr.add]
          | 2, hj => simp at hj; subst hj; simp [Addr.add]
        case c2 => intro u hu; simp at hu; rcases hu with rfl | rfl | rfl <;> rfl
        case c3 => unfold maxLen; omega
        case c4 => omega
        case c5 => simp; omega
        intro v' w2 hown' hgrow _
        have hB1 : Below w.heap.size w w1 := hB.trans (Below.mono (by (repeat (first | (with_reducible exact Below.refl _ _) | ((with_reducible refine Below.setCell ?_ ?_ _); rotate_left 1; focus (first | (simp; done) | (simp; omega) | (simp at *; omega))) | ((with_reducible refine Below.alloc ?_ ?_ _); rotate_left 1; focus (first | (simp; done) | (simp; omega) | (simp at *; omega))) | (with_reducible refine Below.drew ?_) | ((with_reducible refine Calm.step (by assumption) ?_ ?_); rotate_left 1; focus (first | (simp; done) | (simp; omega) | (simp at *; omega)))))) hsz)
        have hB' : Below w.heap.size w w2 := (hB1.alloc (by omega) _).grown hgrow (by simp; omega) (fun j hj => (HO.out.lt j hj).1)
        clear hgrow
        go_wp2
        go_roundw
        case rel => exact ⟨k + 1, by omega, by go_num, by rw [HS.out, flat3_append]; simpa [flat3] using hown', hB'⟩
        case measure => simp [intOf]; omega
    · obtain rfl : k = zs.length := by omega
      have e : zs.take zs.length = zs := List.take_length
      rw [e] at hown
      go_wp2
      go_ret
      rcases hown.2 with ⟨rfl, h⟩ | ⟨g, cap, cur, rfl, _⟩
      · have h1 := hown.1
        exact ⟨none, 0, by rw [h]; rfl, hB⟩
      · exact ⟨_, _, rfl, hB⟩
end Go.Proofs.YtpkldjlljoledaaDoor

/- Contracts of 'explains' and 'Explains'. -/
namespace Go.Proofs.YtpkldjlljoledaaDoor
open Go.RowKit
open Calm (bcell Blk)

/-- does a driver explain all readings. -/
def explB (re le bl ma st lo : Int) (zs : List (Int × Int × Int)) : Bool := zs.all fun r => fitB re le bl ma st lo r.1 r.2.1 r.2.2
theorem explB_len (re le bl ma st lo : Int) (zs : List (Int × Int × Int)) : explB re le bl ma st lo zs = decide ((keptFit re le bl ma st lo zs).length = zs.length) := by
  unfold explB keptFit
  by_cases h : (zs.filter fun r => fitB re le bl ma st lo r.1 r.2.1 r.2.2).length = zs.length
  · rw [decide_eq_true h, List.all_eq_true]
    exact List.length_filter_eq_length_iff.1 h
  · rw [decide_eq_false h, Bool.eq_false_iff]
    intro h2
    exact h (List.length_filter_eq_length_iff.2 (List.all_eq_true.1 h2))
set_option maxHeartbeats 1000000 in
theorem explains_any (re le bl ma st lo : Int) (A : Option Addr) (zs : List (Int × Int × Int)) (c : Nat) (w : World) (hd : drvErr re le bl ma st lo = 0) (hC : RCells w A zs) (hn : zs.length ≤ 1000) (hz : ∀ k, k < zs.length → readErr (zs.getD k (0, 0, 0)).1 (zs.getD k (0, 0, 0)).2.1 (zs.getD k (0, 0, 0)).2.2 = 0) :
    Calls Tryd.prog 102 #[.agg #[(.int .i64 (re)), (.int .i64 (le)), (.int .i64 (bl)), (.int .i64 (ma)), (.int .i64 (st)), (.int .i64 (lo))], .slice A zs.length c] w fun r w' => r = .returned (.bool (explB re le bl ma st lo zs)) ∧ Below w.heap.size w w' := by
  have hle := keptFit_le re le bl ma st lo zs zs.length
  rw [List.take_length] at hle
  rw [explB_len]
  have HZ := Lib.hid hz
  have HC := Lib.hid hC
  have HD := Lib.hid hd
  clear hz hC hd
  obtain ⟨m, hm⟩ : ∃ m, m = (keptFit re le bl ma st lo zs).length := ⟨_, rfl⟩
  have HM := Lib.hid hm
  rw [← hm] at hle ⊢
  clear hm
  by_cases hq : m = zs.length
  · rw [decide_eq_true hq]
    go_enter Tryd.func102, Tryd.ntmps102
    go_wp2_with (go_at_call 116; refine (keptFit_any re le bl ma st lo A zs c _ HD.out (HC.out.below (by (repeat (first | (with_reducible exact Below.refl _ _) | ((with_reducible refine Below.setCell ?_ ?_ _); rotate_left 1; focus (first | (simp; done) | (simp; omega) | (simp at *; omega))) | ((with_reducible refine Below.alloc ?_ ?_ _); rotate_left 1; focus (first | (simp; done) | (simp; omega) | (simp at *; omega))) | (with_reducible refine Below.drew ?_) | ((with_reducible refine Calm.step (by assumption) ?_ ?_); rotate_left 1; focus (first | (simp; done) | (simp; omega) | (simp at *; omega))))))) hn HZ.out).mono ?_; rw [← HM.out]; rintro r w1 ⟨A1, c1, rfl, hb⟩; obtain ⟨hc, hff⟩ := bcell hb)
    go_ret
    refine ⟨by first | rfl | (simp; done), ?_⟩
    repeat (first | (with_reducible exact Below.refl _ _) | ((with_reducible refine Below.setCell ?_ ?_ _); rotate_left 1; focus (first | (simp; done) | (simp; omega) | (simp at *; omega))) | ((with_reducible refine Below.alloc ?_ ?_ _); rotate_left 1; focus (first | (simp; done) | (simp; omega) | (simp at *; omega))) | (with_reducible refine Below.drew ?_) | ((with_reducible refine Calm.step (by assumption) ?_ ?_); rotate_left 1; focus (first | (simp; done) | (simp; omega) | (simp at *; omega))))
  · rw [decide_eq_false hq]
    go_enter Tryd.func102, Tryd.ntmps102
    go_wp2_with (go_at_call 116; refine (keptFit_any re le bl ma st lo A zs c _ HD.out (HC.out.below (by (repeat (first | (with_reducible exact Below.refl _ _) | ((with_reducible refine Below.setCell ?_ ?_ _); rotate_left 1; focus (first | (simp; done) | (simp; omega) | (simp at *; omega))) | ((with_reducible refine Below.alloc ?_ ?_ _); rotate_left 1; focus (first | (simp; done) | (simp; omega) | (simp at *; omega))) | (with_reducible refine Below.drew ?_) | ((with_reducible refine Calm.step (by assumption) ?_ ?_); rotate_left 1; focus (first | (simp; done) | (simp; omega) | (simp at *; omega))))))) hn HZ.out).mono ?_; rw [← HM.out]; rintro r w1 ⟨A1, c1, rfl, hb⟩; obtain ⟨hc, hff⟩ := bcell hb)
    go_ret
    refine ⟨by first | rfl | (simp; omega), ?_⟩
    repeat (first | (with_reducible exact Below.refl _ _) | ((with_reducible refine Below.setCell ?_ ?_ _); rotate_left 1; focus (first | (simp; done) | (simp; omega) | (simp at *; omega))) | ((with_reducible refine Below.alloc ?_ ?_ _); rotate_left 1; focus (first | (simp; done) | (simp; omega) | (simp at *; omega))) | (with_reducible refine Below.drew ?_) | ((with_reducible refine Calm.step (by assumption) ?_ ?_); rotate_left 1; focus (first | (simp; done) | (simp; omega) | (simp at *; omega))))
set_option maxHeartbeats 1000000 in
theorem readErrs_all {zs : List (Int × Int × Int)} (h : firstOf (readErrs zs) = 0) : ∀ k, k < zs.length → readErr (zs.getD k (0, 0, 0)).1 (zs.getD k (0, 0, 0)).2.1 (zs.getD k (0, 0, 0)).2.2 = 0 := by
  intro k hk
  have h1 := firstOf_eq_zero.1 h
  rw [List.getD_eq_getElem?_getD, List.getElem?_eq_getElem hk]
  exact h1 _ (List.mem_map.2 ⟨zs[k], List.getElem_mem hk, rfl⟩)
/-- the first error of a driver and readings. -/
def explErr (re le bl ma st lo : Int) (zs : List (Int × Int × Int)) : Int := firstOf [drvErr re le bl ma st lo, readsErr zs]
theorem checkReadings_any (A : Option Addr) (zs : List (Int × Int × Int)) (c : Nat) (w : World) (hC : RCells w A zs) (hn : zs.length ≤ 1000) :
    Calls Tryd.prog 100 #[.slice A zs.length c] w fun r w' => r = .returned (.int .i64 (readsErr zs)) ∧ Below w.heap.size w w' := by
  unfold readsErr
  by_cases h : 32 < zs.length
  · rw [if_pos h]
    refine (checkReadings_long A zs.length c w h (by omega)).mono ?_
    rintro r w' ⟨rfl, rfl⟩
    exact ⟨rfl, Below.refl _ _⟩
  · rw [if_neg h]
    exact checkReadings_len A zs c w hC (by omega)
theorem Explains_ok (re le bl ma st lo : Int) (A : Option Addr) (zs : List (Int × Int × Int)) (c : Nat) (w : World) (hL : Lim w) (hC : RCells w A zs) (hn : zs.length ≤ 1000) (h : explErr re le bl ma st lo zs = 0) :
    Calls Tryd.prog 65 #[.agg #[(.int .i64 (re)), (.int .i64 (le)), (.int .i64 (bl)), (.int .i64 (ma)), (.int .i64 (st)), (.int .i64 (lo))], .slice A zs.length c] w fun r w' => r = .returned (.tuple #[.bool (explB re le bl ma st lo zs), (.int .i64 (0))]) ∧ Below w.heap.size w w' := by
  have h1 := firstOf_eq_zero.1 h
  simp only [List.mem_cons, List.not_mem_nil, or_false, forall_eq_or_imp, forall_eq] at h1
  obtain ⟨h1, h2⟩ := h1
  have h3 : firstOf (readErrs zs) = 0 := by
    unfold readsErr at h2
    by_cases hl : 32 < zs.length
    · rw [if_pos hl] at h2; omega
    · rwa [if_neg hl] at h2
  have HA := Lib.hid (readErrs_all h3)
  have HC := Lib.hid hC
  have HD := Lib.hid h1
  have HE : firstOf [drvErr re le bl ma st lo, readsErr zs] = 0 := h
  clear h h1 h2 h3 hC
  go_enter Tryd.func65, Tryd.ntmps65
  go_wp2_with (first | (go_at_call 23; refine (checkDriver_any _ _ _ _ _ _ _ (hL.below (by repeat (first | (with_reducible exact Below.refl _ _) | ((with_reducible refine Below.setCell ?_ ?_ _); rotate_left 1; focus (first | (simp; done) | (simp; omega) | (simp at *; omega))) | ((with_reducible refine Below.alloc ?_ ?_ _); rotate_left 1; focus (first | (simp; done) | (simp; omega) | (simp at *; omega))) | (with_reducible refine Below.drew ?_) | ((with_reducible refine Calm.step (by assumption) ?_ ?_); rotate_left 1; focus (first | (simp; done) | (simp; omega) | (simp at *; omega))))))).mono ?_; rintro r w1 ⟨rfl, hb⟩; obtain ⟨hc, hf⟩ := bcell hb; have hz := hb.size; (try simp at hz); (try have hz0 : w.heap.size < w1.heap.size := by omega); (try have hz1 : w.heap.size + 1 < w1.heap.size := by omega); (try have hz2 : w.heap.size + 1 + 1 < w1.heap.size := by omega); (try have hz3 : w.heap.size + 1 + 1 + 1 < w1.heap.size := by omega); (try have hz4 : w.heap.size + 1 + 1 + 1 + 1 < w1.heap.size := by omega); (try have hz5 : w.heap.size + 1 + 1 + 1 + 1 + 1 < w1.heap.size := by omega); (try have hz6 : w.heap.size + 1 + 1 + 1 + 1 + 1 + 1 < w1.heap.size := by omega)) | (go_at_call 100; refine (checkReadings_any A zs c _ (HC.out.below (by (repeat (first | (with_reducible exact Below.refl _ _) | ((with_reducible refine Below.setCell ?_ ?_ _); rotate_left 1; focus (first | (simp; done) | (simp; omega) | (simp at *; omega))) | ((with_reducible refine Below.alloc ?_ ?_ _); rotate_left 1; focus (first | (simp; done) | (simp; omega) | (simp at *; omega))) | (with_reducible refine Below.drew ?_) | ((with_reducible refine Calm.step (by assumption) ?_ ?_); rotate_left 1; focus (first | (simp; done) | (simp; omega) | (simp at *; omega))))))) hn).mono ?_; rintro r w1 ⟨rfl, hb⟩; obtain ⟨hc, hf⟩ := bcell hb; have hz := hb.size; (try simp at hz); (try have hz0 : w.heap.size < w1.heap.size := by omega); (try have hz1 : w.heap.size + 1 < w1.heap.size := by omega); (try have hz2 : w.heap.size + 1 + 1 < w1.heap.size := by omega); (try have hz3 : w.heap.size + 1 + 1 + 1 < w1.heap.size := by omega); (try have hz4 : w.heap.size + 1 + 1 + 1 + 1 < w1.heap.size := by omega); (try have hz5 : w.heap.size + 1 + 1 + 1 + 1 + 1 < w1.heap.size := by omega); (try have hz6 : w.heap.size + 1 + 1 + 1 + 1 + 1 + 1 < w1.heap.size := by omega)) | (go_at_call 86; refine (first2_any _ _ _).mono ?_; rintro r w1 ⟨rfl, rfl⟩) | (go_at_call 102; refine (explains_any re le bl ma st lo A zs c _ HD.out (HC.out.below (by (repeat (first | (with_reducible exact Below.refl _ _) | ((with_reducible refine Below.setCell ?_ ?_ _); rotate_left 1; focus (first | (simp; done) | (simp; omega) | (simp at *; omega))) | ((with_reducible refine Below.alloc ?_ ?_ _); rotate_left 1; focus (first | (simp; done) | (simp; omega) | (simp at *; omega))) | (with_reducible refine Below.drew ?_) | ((with_reducible refine Calm.step (by assumption) ?_ ?_); rotate_left 1; focus (first | (simp; done) | (simp; omega) | (simp at *; omega))))))) hn HA.out).mono ?_; rintro r w1 ⟨rfl, hb⟩; obtain ⟨hc, hf⟩ := bcell hb; have hz := hb.size; (try simp at hz); (try have hz0 : w.heap.size < w1.heap.size := by omega); (try have hz1 : w.heap.size + 1 < w1.heap.size := by omega); (try have hz2 : w.heap.size + 1 + 1 < w1.heap.size := by omega); (try have hz3 : w.heap.size + 1 + 1 + 1 < w1.heap.size := by omega); (try have hz4 : w.heap.size + 1 + 1 + 1 + 1 < w1.heap.size := by omega); (try have hz5 : w.heap.size + 1 + 1 + 1 + 1 + 1 < w1.heap.size := by omega); (try have hz6 : w.heap.size + 1 + 1 + 1 + 1 + 1 + 1 < w1.heap.size := by omega)))
  go_ret2
  refine ⟨by first | rfl | (simp; done), ?_⟩
  repeat (first | (with_reducible exact Below.refl _ _) | ((with_reducible refine Below.setCell ?_ ?_ _); rotate_left 1; focus (first | (simp; done) | (simp; omega) | (simp at *; omega))) | ((with_reducible refine Below.alloc ?_ ?_ _); rotate_left 1; focus (first | (simp; done) | (simp; omega) | (simp at *; omega))) | (with_reducible refine Below.drew ?_) | ((with_reducible refine Calm.step (by assumption) ?_ ?_); rotate_left 1; focus (first | (simp; done) | (simp; omega) | (simp at *; omega))))
theorem Explains_bad (re le bl ma st lo : Int) (A : Option Addr) (zs : List (Int × Int × Int)) (c : Nat) (w : World) (hL : Lim w) (hC : RCells w A zs) (hn : zs.length ≤ 1000) (h : explErr re le bl ma st lo zs ≠ 0) :
    Calls Tryd.prog 65 #[.agg #[(.int .i64 (re)), (.int .i64 (le)), (.int .i64 (bl)), (.int .i64 (ma)), (.int .i64 (st)), (.int .i64 (lo))], .slice A zs.length c] w fun r w' => r = .returned (.tuple #[.bool false, (.int .i64 (explErr re le bl ma st lo zs))]) ∧ Below w.heap.size w w' := by
  have HC := Lib.hid hC
  have HE : firstOf [drvErr re le bl ma st lo, readsErr zs] ≠ 0 := h
  clear h hC
  go_enter Tryd.func65, Tryd.ntmps65
  go_wp2_with (first | (go_at_call 23; refine (checkDriver_any _ _ _ _ _ _ _ (hL.below (by repeat (first | (with_reducible exact Below.refl _ _) | ((with_reducible refine Below.setCell ?_ ?_ _); rotate_left 1; focus (first | (simp; done) | (simp; omega) | (simp at *; omega))) | ((with_reducible refine Below.alloc ?_ ?_ _); rotate_left 1; focus (first | (simp; done) | (simp; omega) | (simp at *; omega))) | (with_reducible refine Below.drew ?_) | ((with_reducible refine Calm.step (by assumption) ?_ ?_); rotate_left 1; focus (first | (simp; done) | (simp; omega) | (simp at *; omega))))))).mono ?_; rintro r w1 ⟨rfl, hb⟩; obtain ⟨hc, hf⟩ := bcell hb; have hz := hb.size; (try simp at hz); (try have hz0 : w.heap.size < w1.heap.size := by omega); (try have hz1 : w.heap.size + 1 < w1.heap.size := by omega); (try have hz2 : w.heap.size + 1 + 1 < w1.heap.size := by omega); (try have hz3 : w.heap.size + 1 + 1 + 1 < w1.heap.size := by omega); (try have hz4 : w.heap.size + 1 + 1 + 1 + 1 < w1.heap.size := by omega); (try have hz5 : w.heap.size + 1 + 1 + 1 + 1 + 1 < w1.heap.size := by omega); (try have hz6 : w.heap.size + 1 + 1 + 1 + 1 + 1 + 1 < w1.heap.size := by omega)) | (go_at_call 100; refine (checkReadings_any A zs c _ (HC.out.below (by (repeat (first | (with_reducible exact Below.refl _ _) | ((with_reducible refine Below.setCell ?_ ?_ _); rotate_left 1; focus (first | (simp; done) | (simp; omega) | (simp at *; omega))) | ((with_reducible refine Below.alloc ?_ ?_ _); rotate_left 1; focus (first | (simp; done) | (simp; omega) | (simp at *; omega))) | (with_reducible refine Below.drew ?_) | ((with_reducible refine Calm.step (by assumption) ?_ ?_); rotate_left 1; focus (first | (simp; done) | (simp; omega) | (simp at *; omega))))))) hn).mono ?_; rintro r w1 ⟨rfl, hb⟩; obtain ⟨hc, hf⟩ := bcell hb; have hz := hb.size; (try simp at hz); (try have hz0 : w.heap.size < w1.heap.size := by omega); (try have hz1 : w.heap.size + 1 < w1.heap.size := by omega); (try have hz2 : w.heap.size + 1 + 1 < w1.heap.size := by omega); (try have hz3 : w.heap.size + 1 + 1 + 1 < w1.heap.size := by omega); (try have hz4 : w.heap.size + 1 + 1 + 1 + 1 < w1.heap.size := by omega); (try have hz5 : w.heap.size + 1 + 1 + 1 + 1 + 1 < w1.heap.size := by omega); (try have hz6 : w.heap.size + 1 + 1 + 1 + 1 + 1 + 1 < w1.heap.size := by omega)) | (go_at_call 86; refine (first2_any _ _ _).mono ?_; rintro r w1 ⟨rfl, rfl⟩))
  go_ret2
  refine ⟨by first | rfl | (simp; done), ?_⟩
  repeat (first | (with_reducible exact Below.refl _ _) | ((with_reducible refine Below.setCell ?_ ?_ _); rotate_left 1; focus (first | (simp; done) | (simp; omega) | (simp at *; omega))) | ((with_reducible refine Below.alloc ?_ ?_ _); rotate_left 1; focus (first | (simp; done) | (simp; omega) | (simp at *; omega))) | (with_reducible refine Below.drew ?_) | ((with_reducible refine Calm.step (by assumption) ?_ ?_); rotate_left 1; focus (first | (simp; done) | (simp; omega) | (simp at *; omega))))
end Go.Proofs.YtpkldjlljoledaaDoor

/- The walk of Calm, its goal behind a name of its own: a goal 'wpQuiet ..' unfolds by itself over operations that are passed over, which is slow. -/
namespace Go.Proofs.YtpkldjlljoledaaDoor.Calm
open Go.RowKit

section
variable {P : Program} {ops : Array Oper} {C : World → Prop}
structure Still (P : Program) (ops : Array Oper) (C : World → Prop) (Q : Act → Prop) (rest : List Oper) (a : Act) : Prop where
  h : wpQuiet P ops C Q rest a
theorem still_op {Q : Act → Prop} {a : Act} {o : Oper} {rest : List Oper} (v : Value) (hw : Region.wanted o (yielded ops a.tmps) = true) (h : ∀ w, C w → (execOp a.eval o).run P w = .ok (.value v) w)
    (hn : Still P ops C Q rest (a.put o.dst v)) : Still P ops C Q (o :: rest) a := ⟨op v hw h hn.h⟩
theorem still_op_move {Q : Act → Prop} {a : Act} {o : Oper} {rest : List Oper} (v : Value) (x : Operand) (hw : Region.wanted o (yielded ops a.tmps) = true) (ho : o.op = .move x ∨ o.op = .assign x) (hv : a.eval x = v)
    (hn : Still P ops C Q rest (a.put o.dst v)) : Still P ops C Q (o :: rest) a := ⟨op_move v x hw ho hv hn.h⟩
theorem still_op_not {Q : Act → Prop} {a : Act} {o : Oper} {rest : List Oper} (hw : Region.wanted o (yielded ops a.tmps) = false) (hn : Still P ops C Q rest (a.put o.dst undef)) : Still P ops C Q (o :: rest) a := ⟨op_not hw hn.h⟩
theorem still_op_call {Q : Act → Prop} {a : Act} {o : Oper} {rest : List Oper} (v : Value) (f : FuncId) (args : Array Value) (hw : Region.wanted o (yielded ops a.tmps) = true) (h : ∀ w, C w → (execOp a.eval o).run P w = .ok (.enter f args) w)
    (hc : ∀ w, C w → Calls P f args w fun e w' => e = .returned v ∧ C w') (hn : Still P ops C Q rest (a.put o.dst v)) : Still P ops C Q (o :: rest) a := ⟨op_call v f args hw h hc hn.h⟩
theorem still_nil {Q : Act → Prop} {a : Act} (h : Q a) : Still P ops C Q [] a := ⟨wpQuiet_nil h⟩
theorem still_tail {id : Nat} {Q : Exit → Act → World → Prop} {a : Act} {w : World} {l : List Oper} (n : Nat) (hm : P.follows .mixedOrders = true) (hB : Region.lexTailB .any l.toArray n = true)
    (h : Still P l.toArray (fun W => Below w.heap.size w W) (fun a' => ∀ w', Below w.heap.size w w' → wpList P l.toArray Q (l.drop n) a' w') (l.take n) a) : (Code.region id l.toArray true).wp P Q a w :=
  tail_below n hm hB h.h
theorem still_all {id : Nat} {Q : Exit → Act → World → Prop} {a : Act} {w : World} {l : List Oper} (hm : P.follows .mixedOrders = true) (hB : Region.lexB .any l.toArray = true)
    (h : Still P l.toArray (fun W => Below w.heap.size w W) (fun a' => ∀ w', Below w.heap.size w w' → Q .normal a' w') l a) : (Code.region id l.toArray true).wp P Q a w :=
  all_below hm hB h.h
end
end Go.Proofs.YtpkldjlljoledaaDoor.Calm

/- The law of copy between slices of readings; contracts of Region's closure and of Region's error. %still -/
namespace Go.Proofs.YtpkldjlljoledaaDoor
open Go.RowKit
open Calm (bcell Blk)

theorem flat3_get : ∀ (zs : List (Int × Int × Int)) (j : Nat) (v : Value), (flat3 zs)[j]? = some v →
    ∃ k, k < zs.length ∧ (j = k * 3 ∧ v = (.int .i64 ((zs.getD k (0, 0, 0)).1)) ∨ j = k * 3 + 1 ∧ v = (.int .i64 ((zs.getD k (0, 0, 0)).2.1)) ∨ j = k * 3 + 2 ∧ v = (.int .i64 ((zs.getD k (0, 0, 0)).2.2)))
  | [], j, v, h => by simp [flat3] at h
  | z :: zs, 0, v, h => ⟨0, by simp, .inl ⟨rfl, by simpa [flat3] using h.symm⟩⟩
  | z :: zs, 1, v, h => ⟨0, by simp, .inr (.inl ⟨rfl, by simpa [flat3] using h.symm⟩)⟩
  | z :: zs, 2, v, h => ⟨0, by simp, .inr (.inr ⟨rfl, by simpa [flat3] using h.symm⟩)⟩
  | z :: zs, j + 3, v, h => by
    obtain ⟨k, hk, hv⟩ := flat3_get zs j v (by simpa [flat3] using h)
    refine ⟨k + 1, by simpa using hk, ?_⟩
    simp only [List.getD_cons_succ]
    rcases hv with ⟨h1, h2⟩ | ⟨h1, h2⟩ | ⟨h1, h2⟩
    · exact .inl ⟨by omega, h2⟩
    · exact .inr (.inl ⟨by omega, h2⟩)
    · exact .inr (.inr ⟨by omega, h2⟩)
theorem flat3_at : ∀ (zs : List (Int × Int × Int)) (k : Nat), k < zs.length →
    (flat3 zs)[k * 3]? = some (.int .i64 ((zs.getD k (0, 0, 0)).1)) ∧ (flat3 zs)[k * 3 + 1]? = some (.int .i64 ((zs.getD k (0, 0, 0)).2.1)) ∧ (flat3 zs)[k * 3 + 2]? = some (.int .i64 ((zs.getD k (0, 0, 0)).2.2))
  | [], k, h => by simp at h
  | z :: zs, 0, h => by simp [flat3]
  | z :: zs, k + 1, h => by
    have := flat3_at zs k (by simpa using h)
    rw [show (k + 1) * 3 = k * 3 + 3 by omega, show k * 3 + 3 + 1 = (k * 3 + 1) + 3 by omega, show k * 3 + 3 + 2 = (k * 3 + 2) + 3 by omega]
    simpa [flat3] using this
theorem flat3_len (zs : List (Int × Int × Int)) : (flat3 zs).length = zs.length * 3 := by
  induction zs with
  | nil => rfl
  | cons z zs ih => simp [flat3] at ih ⊢; omega
theorem flat3_one (zs : List (Int × Int × Int)) : ∀ v ∈ flat3 zs, v.oneCell' = true := by
  intro v hv
  simp only [flat3, List.mem_flatMap, List.mem_cons, List.not_mem_nil, or_false] at hv
  obtain ⟨x, _, rfl | rfl | rfl⟩ := hv <;> rfl
theorem RCells.src {w : World} {b off : Nat} {zs : List (Int × Int × Int)} (hC : ∀ k, k < zs.length → w.cell? ⟨b, off + k * 3, none⟩ = some (.int .i64 ((zs.getD k (0, 0, 0)).1)) ∧ w.cell? ⟨b, off + k * 3 + 1, none⟩ = some (.int .i64 ((zs.getD k (0, 0, 0)).2.1)) ∧ w.cell? ⟨b, off + k * 3 + 2, none⟩ = some (.int .i64 ((zs.getD k (0, 0, 0)).2.2)))
    (j : Nat) (v : Value) (h : (flat3 zs)[j]? = some v) : w.cell? ((⟨b, off, none⟩ : Addr).add j) = some v := by
  obtain ⟨k, hk, hv⟩ := flat3_get zs j v h
  have hadd : (⟨b, off, none⟩ : Addr).add j = ⟨b, off + j, none⟩ := by unfold Addr.add; split <;> simp_all
  rw [hadd]
  obtain ⟨h1, h2, h3⟩ := hC k hk
  rcases hv with ⟨rfl, rfl⟩ | ⟨rfl, rfl⟩ | ⟨rfl, rfl⟩
  · exact h1
  · exact h2
  · exact h3

theorem run_copy3 {P : Program} (w : World) (dT sT ty elem : TypeId) (g : Nat) (A : Option Addr) (zs : List (Int × Int × Int)) (n cap c : Nat) (cur : Array Value) (t : TypeId)
    (hu : P.underlying dT = some (.slice elem)) (hs : (P.info? elem).map (·.size) = some 3) (hn : zs.length = n)
    (hg : w.heap[g]? = some (.cells cur t (0, 0))) (hcur : cur.size = n * 3) (hC : RCells w A zs) :
    (Builtin.copy_ #[dT, sT] ty #[.slice (some ⟨g, 0, none⟩) n cap, .slice A n c]).run P w = .ok (goInt n) (w.setRow g (flat3 zs).toArray) := by
  cases hq : P.info? elem with
  | none => simp [hq] at hs
  | some i =>
    have hi : i.size = 3 := by simpa [hq] using hs
    by_cases h0 : n = 0
    · subst h0
      obtain rfl : zs = [] := List.eq_nil_of_length_eq_zero hn
      obtain rfl : cur = #[] := Array.eq_empty_of_size_eq_zero (by omega)
      have hl : ∀ (x : Addr), (loadCells x 0).run P w = .ok #[] w := fun x => by simpa using run_loadCells_list (P := P) w x [] (by simp)
      have hsr : w.setRow g #[] = w := setRow_self w g _ t _ hg
      cases A <;> simp [Builtin.copy_, run_underlying hu, Builtin.lenOf, Builtin.firstCells, sizeOf, typeInfo, hq, hi, storeCells, hl, flat3, hsr]
    · obtain ⟨b, off, rfl, hl, hc⟩ := hC (by omega)
      have hld := run_loadCells_list (P := P) w ⟨b, off, none⟩ (flat3 zs) (RCells.src hc)
      rw [flat3_len, hn] at hld
      have hst := run_storeCells_at P g 0 t (flat3 zs) 0 cur w hg (by rw [flat3_len]; omega) (flat3_one zs)
      have e : (cur.toList.take (0 + 0) ++ flat3 zs ++ cur.toList.drop (0 + 0 + (flat3 zs).length)).toArray = (flat3 zs).toArray := by
        rw [List.drop_eq_nil_of_le (by rw [flat3_len]; simp; omega)]; simp
      rw [e] at hst
      simp [Builtin.copy_, run_underlying hu, Builtin.lenOf, Builtin.firstCells, sizeOf, typeInfo, hq, hi, hld, hst]
theorem RCells.row {w : World} {g : Nat} {zs : List (Int × Int × Int)} {t : TypeId} (h : w.heap[g]? = some (.cells (flat3 zs).toArray t (0, 0))) : RCells w (some ⟨g, 0, none⟩) zs := by
  intro h0
  refine ⟨g, 0, rfl, (Array.getElem?_eq_some_iff.1 h).1, fun k hk => ?_⟩
  obtain ⟨h1, h2, h3⟩ := flat3_at zs k hk
  have e : ∀ i, w.cell? ⟨g, i, none⟩ = (flat3 zs)[i]? := fun i => by simp [World.cell?, h]
  rw [e, e, e]
  simpa using ⟨h1, h2, h3⟩
theorem wpListIn_copy3 {F : Fence} {nF : Nat} {P : Program} {w : World} {ops : Array Oper} {rest : List Oper} {o : Oper} {a : Act} {Q : Exit → Act → World → Prop} (hgd : o.guard = none) (d s : Operand) (dT sT : TypeId)
    (ho : o.op = .call { callee := .builtin .copy, args := #[d, s], argTypes := #[dT, sT] }) (elem : TypeId) (hu : P.underlying dT = some (.slice elem)) (hsz : (P.info? elem).map (·.size) = some 3)
    (g n cap c : Nat) (A : Option Addr) (zs : List (Int × Int × Int)) (hn : zs.length = n) (hd : a.eval d = .slice (some ⟨g, 0, none⟩) n cap) (hs : a.eval s = .slice A n c)
    (cur : Array Value) (t : TypeId) (hg : w.heap[g]? = some (.cells cur t (0, 0))) (hcur : cur.size = n * 3) (hC : RCells w A zs)
    (h : ∀ w', w'.heap.size = w.heap.size → Below g w w' → (∀ k, k ≠ g → w'.heap[k]? = w.heap[k]?) → RCells w' (some ⟨g, 0, none⟩) zs → wpListIn F nF P ops Q rest (a.put o.dst (goInt n)) w') : wpListIn F nF P ops Q (o :: rest) a w := by
  refine wpListIn_plain hgd fun K hK => ?_
  have hrun := run_copy3 (P := P) w dT sT o.type elem g A zs n cap c cur t hu hsz hn hg hcur hC
  unfold Oper.wpIn
  refine ⟨by simp [Oper.about, ho, resolve, Target.leads, Sem.run_pure], ?_⟩
  rw [Oper.semAt_plain F _ _ (by rw [ho]; intro c hc; cases hc)]
  simp [execOp, ho, resolve, invoke, builtin, hd, hs, hrun, Result.andThen]
  exact hK _ _ (h _ (by simp [World.setRow]) (below_setRow (Below.refl _ _) (Nat.le_refl _) _) (fun k hk => setRow_other w g k _ hk) (RCells.row (setRow_heap w g _ _ t _ hg)))

set_option maxRecDepth 100000 in
set_option maxHeartbeats 4000000 in
theorem region1_any (re le bl ma st lo : Int) (B : Nat) (A : Option Addr) (zs : List (Int × Int × Int)) (c : Nat) (w : World) (hd : drvErr re le bl ma st lo = 0) (hB : w.cell? ⟨B, 0, none⟩ = some (.slice A zs.length c)) (hBl : B < w.heap.size) (hC : RCells w A zs) (hn : zs.length ≤ 1000)
    (hz : ∀ k, k < zs.length → readErr (zs.getD k (0, 0, 0)).1 (zs.getD k (0, 0, 0)).2.1 (zs.getD k (0, 0, 0)).2.2 = 0) :
    Calls Tryd.prog 101 #[.agg #[(.int .i64 (re)), (.int .i64 (le)), (.int .i64 (bl)), (.int .i64 (ma)), (.int .i64 (st)), (.int .i64 (lo))], .pointer (some ⟨B, 0, none⟩)] w fun r w' => r = .returned (.bool (explB re le bl ma st lo zs)) ∧ Below w.heap.size w w' := by
  have HA := Lib.hid hz
  have HC := Lib.hid hC
  have HD := Lib.hid hd
  have hBn : ¬ B = w.heap.size := by omega
  have hBn2 : ¬ w.heap.size = B := by omega
  obtain ⟨E, hE⟩ : ∃ E, E = explB re le bl ma st lo zs := ⟨_, rfl⟩
  have HE := Lib.hid hE
  rw [← hE]
  clear hz hC hd hE
  go_enter Tryd.func101, Tryd.ntmps101
  go_wp2_with (go_at_call 102; refine (explains_any re le bl ma st lo A zs c _ HD.out (HC.out.below (by (repeat (first | (with_reducible exact Below.refl _ _) | ((with_reducible refine Below.setCell ?_ ?_ _); rotate_left 1; focus (first | (simp; done) | (simp; omega) | (simp at *; omega))) | ((with_reducible refine Below.alloc ?_ ?_ _); rotate_left 1; focus (first | (simp; done) | (simp; omega) | (simp at *; omega))) | (with_reducible refine Below.drew ?_) | ((with_reducible refine Calm.step (by assumption) ?_ ?_); rotate_left 1; focus (first | (simp; done) | (simp; omega) | (simp at *; omega))))))) hn HA.out).mono ?_; rw [← HE.out]; rintro r w1 ⟨rfl, hb⟩)
  go_ret
  refine ⟨by first | rfl | (simp; done), ?_⟩
  repeat (first | (with_reducible exact Below.refl _ _) | ((with_reducible refine Below.setCell ?_ ?_ _); rotate_left 1; focus (first | (simp; done) | (simp; omega) | (simp at *; omega))) | ((with_reducible refine Below.alloc ?_ ?_ _); rotate_left 1; focus (first | (simp; done) | (simp; omega) | (simp at *; omega))) | (with_reducible refine Below.drew ?_) | ((with_reducible refine Calm.step (by assumption) ?_ ?_); rotate_left 1; focus (first | (simp; done) | (simp; omega) | (simp at *; omega))))
theorem checkClass_any (re le bl ma st lo m k r : Int) (w : World) (hL : Lim w) :
    Calls Tryd.prog 99 #[.agg #[(.int .i64 (re)), (.int .i64 (le)), (.int .i64 (bl)), (.int .i64 (ma)), (.int .i64 (st)), (.int .i64 (lo)), (.int .i64 (m)), (.int .i64 (k)), (.int .i64 (r))]] w fun x w' => x = .returned (.int .i64 (classErr re le bl ma st lo m k r)) ∧ Below w.heap.size w w' := by
  unfold classErr
  by_cases h : classPre re le bl ma st lo m k r = 0
  · rw [if_pos h]; exact checkClass_ok re le bl ma st lo m k r w hL h
  · rw [if_neg h]; exact checkClass_bad re le bl ma st lo m k r w hL h
end Go.Proofs.YtpkldjlljoledaaDoor
