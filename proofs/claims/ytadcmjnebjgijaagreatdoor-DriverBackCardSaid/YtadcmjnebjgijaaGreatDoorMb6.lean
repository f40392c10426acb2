/- Part 6 of the texts of the claim: It1, A7, A8. -/
import Derived.Test.YtadcmjnebjgijaaGreatDoorMb5
import Derived.Test.YtadcmjnebjgijaaGreatDoorMb1
import Derived.Lib.Hide
import Derived.Shelf.Abstract
import Derived.WalkKit
import Derived.OwnWalkIn
import Derived.TacticsInMore
import Derived.LoopNIn
import Derived.LoopIn
import Derived.Test.YtadcmjnebjgijaaGreatDoorMb4

/- Contracts of (Class).drivers and of the iterator that it hands out. -/
namespace Go.Proofs.YtadcmjnebjgijaaGreatDoor
open Go.RowKit
open Calm (bcell Blk)

theorem Calm.Blk.set {w : World} {g : Nat} {cs : Array Value} (h : Blk w g cs) {i : Nat} (hi : i < cs.size) (v : Value) : Blk (w.setCell ⟨g, i, none⟩ v) g (cs.setIfInBounds i v) := by
  refine ⟨by simpa using h.lt, fun j => ?_, fun j => by rw [World.frozen?_setCell]; exact h.f j⟩
  by_cases hj : j = i
  · subst hj
    rw [World.cell?_setCell_same' _ _ _ (by rw [h.c]; simp [hi])]
    simp [hi]
  · rw [World.cell?_setCell_other _ _ _ _ (by intro e; cases e; exact hj rfl), h.c]
    rw [Array.getElem?_setIfInBounds_ne (by omega)]
theorem Calm.Blk.of_block {w w' : World} {g : Nat} {cs : Array Value} (h : Blk w g cs) (e : w'.heap[g]? = w.heap[g]?) : Blk w' g cs := by
  refine ⟨?_, fun i => ?_, fun i => ?_⟩
  · have h1 := Array.getElem?_eq_getElem h.lt
    rw [h1] at e
    exact (Array.getElem?_eq_some_iff.1 e).1
  · exact (World.cell?_of_block (w := w) (a := ⟨g, i, none⟩) e).trans (h.c i)
  · exact (World.frozen?_of_block (w := w) (a := ⟨g, i, none⟩) e).trans (h.f i)

theorem drivers_any (re le bl ma st lo m k r : Int) (w : World) :
    Calls Tryz.prog 66 #[.agg #[(.int .i64 (re)), (.int .i64 (le)), (.int .i64 (bl)), (.int .i64 (ma)), (.int .i64 (st)), (.int .i64 (lo)), (.int .i64 (m)), (.int .i64 (k)), (.int .i64 (r))]] w fun e w' => e = .returned (.func (.func 84) #[] #[.pointer (some ⟨w.heap.size, 0, none⟩)]) ∧
      Below w.heap.size w w' ∧ Blk w' w.heap.size #[(.int .i64 (re)), (.int .i64 (le)), (.int .i64 (bl)), (.int .i64 (ma)), (.int .i64 (st)), (.int .i64 (lo)), (.int .i64 (m)), (.int .i64 (k)), (.int .i64 (r))] := by
  go_enter Tryz.func66, Tryz.ntmps66
  go_wp2
  go_ret
  exact ⟨by first | rfl | (simp; done), by (repeat (first | (with_reducible exact Below.refl _ _) | ((with_reducible refine Below.setCell ?_ ?_ _); rotate_left 1; focus (first | (simp; done) | (simp; omega) | (simp at *; omega))) | ((with_reducible refine Below.alloc ?_ ?_ _); rotate_left 1; focus (first | (simp; done) | (simp; omega) | (simp at *; omega))) | (with_reducible refine Below.drew ?_) | ((with_reducible refine Calm.step (by assumption) ?_ ?_); rotate_left 1; focus (first | (simp; done) | (simp; omega) | (simp at *; omega))))), by (repeat (first | ((with_reducible refine Blk.at_ ?_); focus (first | rfl | (simp; done) | (simp; omega))) | (with_reducible refine Blk.alloc ?_ _) | (with_reducible refine Blk.below ?_ (by with_reducible assumption)) | (with_reducible refine Blk.drew ?_)))⟩

/-- a driver of the class as the program hands it over. -/
def encD (re le bl : Int) (x : Int × Int × Int) : Value := .agg #[(.int .i64 (re)), (.int .i64 (le)), (.int .i64 (bl)), (.int .i64 (x.1)), (.int .i64 (x.2.1)), (.int .i64 (x.2.2))]

set_option maxRecDepth 100000 in
set_option maxHeartbeats 4000000 in
theorem drivers1_iter (re le bl ma st lo m k r : Int) (Cb : Nat) (w : World) (n : Nat) (h1 : (1 ≤ ma ∧ ma ≤ 100) ∧ (1 ≤ st ∧ st ≤ 5000) ∧ (1 ≤ lo ∧ lo ≤ 100)) (h2 : m ≤ 100 ∧ k ≤ 5000 ∧ r ≤ 100)
    (hK : Blk w Cb #[(.int .i64 (re)), (.int .i64 (le)), (.int .i64 (bl)), (.int .i64 (ma)), (.int .i64 (st)), (.int .i64 (lo)), (.int .i64 (m)), (.int .i64 (k)), (.int .i64 (r))]) :
    Iter Fence.wide n Tryz.prog 84 #[.pointer (some ⟨Cb, 0, none⟩)] (encD re le bl) (drvs ma st lo m k r) Cb w := by
  intro l J W hCW hCl hle hJa hJs hY h0
  have K := Calm.Blk.of_block hK hCW
  have hne : ¬ W.heap.size = Cb := by omega
  have hne2 : ¬ Cb = W.heap.size := by omega
  have hlt : Cb < W.heap.size := by omega
  have HCW := Lib.hid hCW
  have HJA := Lib.hid hJa
  have HJS := Lib.hid hJs
  have HK := Lib.hid hK
  clear hCW hJa hJs hK
  have c0 := K.cell 0 (.int .i64 (re)) rfl
  have c1 := K.cell 1 (.int .i64 (le)) rfl
  have c2 := K.cell 2 (.int .i64 (bl)) rfl
  have c3 := K.cell 3 (.int .i64 (ma)) rfl
  have c4 := K.cell 4 (.int .i64 (st)) rfl
  have c5 := K.cell 5 (.int .i64 (lo)) rfl
  have c6 := K.cell 6 (.int .i64 (m)) rfl
  have c7 := K.cell 7 (.int .i64 (k)) rfl
  have c8 := K.cell 8 (.int .i64 (r)) rfl
  refine callsIn_of_wp Tryz.func84 rfl trivial ?_ rfl
  simp only [Tryz.ntmps84, List.size_toArray, List.length_cons, List.length_nil, Nat.reduceAdd, Nat.reduceSub, Array.replicate_succ, Array.replicate_zero, List.push_toArray, List.append_toArray, List.nil_append, List.cons_append]
  obtain ⟨M, hM⟩ : ∃ M, M = (m + 1 - ma).toNat := ⟨_, rfl⟩
  obtain ⟨S, hS⟩ : ∃ S, S = (k + 1 - st).toNat := ⟨_, rfl⟩
  obtain ⟨L, hL⟩ : ∃ L, L = (r + 1 - lo).toNat := ⟨_, rfl⟩
  have hall : drvs ma st lo m k r = rowM ma st lo S L M := by rw [hM, hS, hL]; rfl
  rw [hall] at hY ⊢
  have HY := Lib.hid hY
  have HM := Lib.hid hM
  have HS := Lib.hid hS
  have HL := Lib.hid hL
  clear hall hM hS hL hY
  obtain ⟨⟨a1, a2⟩, ⟨a3, a4⟩, ⟨a5, a6⟩⟩ := h1
  obtain ⟨a7, a8, a9⟩ := h2
  have hM2 : (M : Int) ≤ 100 := by have := HM.out; omega
  have hS2 : (S : Int) ≤ 5000 := by have := HS.out; omega
  have hL2 : (L : Int) ≤ 100 := by have := HL.out; omega
  gi_wp2
  gi_loopw [10] (fun _ wr => ∃ (i : Nat) (x y : Int), i ≤ M ∧ Blk wr W.heap.size #[(.int .i64 (re)), (.int .i64 (le)), (.int .i64 (bl)), (.int .i64 (ma + i)), (.int .i64 (x)), (.int .i64 (y))] ∧ J (rowM ma st lo S L i) wr ∧ wr.heap[Cb]? = w.heap[Cb]?) (fun _ wr => (m + 1 - intOf ((wr.cell? ⟨W.heap.size, 3, none⟩).getD undef)).toNat)
  case atStart =>
    exact ⟨0, st, lo, Nat.zero_le _, by simpa using Blk.new _ _ _, by show J [] _; exact HJA.out _ _ _ h0, (Below.heap_alloc _ _ _ hlt).trans HCW.out⟩
  case round =>
    obtain ⟨i, x, y, hi, K1, hJ1, hC1⟩ := hrel
    have Kc1 := Calm.Blk.of_block HK.out hC1
    clear c0 c1 c2 c3 c4 c5 c6 c7 c8
    have d0 := K1.cell 0 (.int .i64 (re)) rfl
    have d1 := K1.cell 1 (.int .i64 (le)) rfl
    have d2 := K1.cell 2 (.int .i64 (bl)) rfl
    have d3 := K1.cell 3 (.int .i64 (ma + i)) rfl
    have d4 := K1.cell 4 (.int .i64 (x)) rfl
    have d5 := K1.cell 5 (.int .i64 (y)) rfl
    have c3 := Kc1.cell 3 (.int .i64 (ma)) rfl
    have c4 := Kc1.cell 4 (.int .i64 (st)) rfl
    have c5 := Kc1.cell 5 (.int .i64 (lo)) rfl
    have c6 := Kc1.cell 6 (.int .i64 (m)) rfl
    have c7 := Kc1.cell 7 (.int .i64 (k)) rfl
    have c8 := Kc1.cell 8 (.int .i64 (r)) rfl
    have df := K1.f
    by_cases hi2 : i < M
    · have hi3 : ma + i ≤ m := by have := HM.out; omega
      gi_wp2
      gi_loopw [23] (fun _ wr => ∃ (j : Nat) (y : Int), j ≤ S ∧ Blk wr W.heap.size #[(.int .i64 (re)), (.int .i64 (le)), (.int .i64 (bl)), (.int .i64 (ma + i)), (.int .i64 (st + j)), (.int .i64 (y))] ∧ J (rowM ma st lo S L i ++ rowS (ma + i) st lo L j) wr ∧ wr.heap[Cb]? = w.heap[Cb]?) (fun _ wr => (k + 1 - intOf ((wr.cell? ⟨W.heap.size, 4, none⟩).getD undef)).toNat)
      case atStart =>
        exact ⟨0, y, Nat.zero_le _, by simpa using K1.set (i := 4) (by simp) (.int .i64 (st)), by have := HJS.out _ _ 4 (.int .i64 (st)) hJ1; simpa [rowS] using this, (Below.heap_setCell _ _ _ _ hne2).trans hC1⟩
      case round =>
        obtain ⟨j, y2, hj, K2, hJ2, hC2⟩ := hrel
        have Kc2 := Calm.Blk.of_block HK.out hC2
        clear d0 d1 d2 d3 d4 d5 df c3 c4 c5 c6 c7 c8
        have d0 := K2.cell 0 (.int .i64 (re)) rfl
        have d1 := K2.cell 1 (.int .i64 (le)) rfl
        have d2 := K2.cell 2 (.int .i64 (bl)) rfl
        have d3 := K2.cell 3 (.int .i64 (ma + i)) rfl
        have d4 := K2.cell 4 (.int .i64 (st + j)) rfl
        have d5 := K2.cell 5 (.int .i64 (y2)) rfl
        have c3 := Kc2.cell 3 (.int .i64 (ma)) rfl
        have c4 := Kc2.cell 4 (.int .i64 (st)) rfl
        have c5 := Kc2.cell 5 (.int .i64 (lo)) rfl
        have c6 := Kc2.cell 6 (.int .i64 (m)) rfl
        have c7 := Kc2.cell 7 (.int .i64 (k)) rfl
        have c8 := Kc2.cell 8 (.int .i64 (r)) rfl
        have df := K2.f
        by_cases hj2 : j < S
        · have hj3 : st + j ≤ k := by have := HS.out; omega
          gi_wp2
          gi_loopw [36] (fun _ wr => ∃ kk : Nat, kk ≤ L ∧ Blk wr W.heap.size #[(.int .i64 (re)), (.int .i64 (le)), (.int .i64 (bl)), (.int .i64 (ma + i)), (.int .i64 (st + j)), (.int .i64 (lo + kk))] ∧ J (rowM ma st lo S L i ++ rowS (ma + i) st lo L j ++ rowL (ma + i) (st + j) lo kk) wr ∧ wr.heap[Cb]? = w.heap[Cb]?) (fun _ wr => (r + 1 - intOf ((wr.cell? ⟨W.heap.size, 5, none⟩).getD undef)).toNat)
          case atStart =>
            exact ⟨0, Nat.zero_le _, by simpa using K2.set (i := 5) (by simp) (.int .i64 (lo)), by have := HJS.out _ _ 5 (.int .i64 (lo)) hJ2; simpa [rowL] using this, (Below.heap_setCell _ _ _ _ hne2).trans hC2⟩
          case round =>
            obtain ⟨kk, hk, K3, hJ3, hC3⟩ := hrel
            have Kc3 := Calm.Blk.of_block HK.out hC3
            clear d0 d1 d2 d3 d4 d5 df c3 c4 c5 c6 c7 c8
            have d0 := K3.cell 0 (.int .i64 (re)) rfl
            have d1 := K3.cell 1 (.int .i64 (le)) rfl
            have d2 := K3.cell 2 (.int .i64 (bl)) rfl
            have d3 := K3.cell 3 (.int .i64 (ma + i)) rfl
            have d4 := K3.cell 4 (.int .i64 (st + j)) rfl
            have d5 := K3.cell 5 (.int .i64 (lo + kk)) rfl
            have c3 := Kc3.cell 3 (.int .i64 (ma)) rfl
            have c4 := Kc3.cell 4 (.int .i64 (st)) rfl
            have c5 := Kc3.cell 5 (.int .i64 (lo)) rfl
            have c6 := Kc3.cell 6 (.int .i64 (m)) rfl
            have c7 := Kc3.cell 7 (.int .i64 (k)) rfl
            have c8 := Kc3.cell 8 (.int .i64 (r)) rfl
            have df := K3.f
            by_cases hk2 : kk < L
            · have hk3 : lo + kk ≤ r := by have := HL.out; omega
              obtain ⟨fn, tmps, assign, body, hy, hR⟩ := HY.out _ (ma + i, st + j, lo + kk) wr hJ3 K3.lt hC3 (row_next ma st lo M S L i j kk hi2 hj2 hk2)
              dsimp only [encD] at hy
              gi_wp2
              refine ⟨fun h => by simp [Fence.wide] at h, hR.mono ?_⟩
              rintro e W3 ⟨rfl, hJ4, hD4, hC4⟩
              have K4 := Calm.Blk.of_block K3 hD4
              have hC5 := hC4.trans hC3
              have e1 : lo + ((kk + 1 : Nat) : Int) = lo + kk + 1 := by omega
              have HE1 := Lib.hid e1
              clear e1 d0 d1 d2 d3 d4 d5 df c3 c4 c5 c6 c7 c8
              have d5 := K4.cell 5 (.int .i64 (lo + kk)) rfl
              have df := K4.f
              gi_wp2
              go_roundw
              case rel =>
                refine ⟨kk + 1, by omega, ?_, ?_, (Below.heap_setCell _ _ _ _ hne2).trans hC5⟩
                · rw [HE1.out]; exact K4.set (i := 5) (by simp) (.int .i64 (lo + kk + 1))
                · rw [rowL_succ, ← List.append_assoc]; exact HJS.out _ _ _ _ hJ4
              case measure =>
                rw [(K4.set (i := 5) (by simp) (.int .i64 (lo + kk + 1))).c 5, K3.c 5]; simp [intOf]; omega
            · obtain rfl : kk = L := by omega
              have hk3 : ¬ lo + kk ≤ r := by have := HL.out; omega
              have e1 : st + ((j + 1 : Nat) : Int) = st + j + 1 := by omega
              have HE1 := Lib.hid e1
              clear e1
              gi_wp2
              go_roundw
              case rel =>
                refine ⟨j + 1, lo + kk, by omega, ?_, ?_, (Below.heap_setCell _ _ _ _ hne2).trans hC3⟩
                · rw [HE1.out]; exact K3.set (i := 4) (by simp) (.int .i64 (st + j + 1))
                · rw [rowS_succ, ← List.append_assoc]; exact HJS.out _ _ _ _ hJ3
              case measure =>
                rw [(K3.set (i := 4) (by simp) (.int .i64 (st + j + 1))).c 4, K2.c 4]; simp [intOf]; omega
        · obtain rfl : j = S := by omega
          have hj3 : ¬ st + j ≤ k := by have := HS.out; omega
          have e1 : ma + ((i + 1 : Nat) : Int) = ma + i + 1 := by omega
          have HE1 := Lib.hid e1
          clear e1
          gi_wp2
          go_roundw
          case rel =>
            refine ⟨i + 1, st + j, y2, by omega, ?_, ?_, (Below.heap_setCell _ _ _ _ hne2).trans hC2⟩
            · rw [HE1.out]; exact K2.set (i := 3) (by simp) (.int .i64 (ma + i + 1))
            · rw [rowM_succ]; exact HJS.out _ _ _ _ hJ2
          case measure =>
            rw [(K2.set (i := 3) (by simp) (.int .i64 (ma + i + 1))).c 3, K1.c 3]; simp [intOf]; omega
    · obtain rfl : i = M := by omega
      have hi3 : ¬ ma + i ≤ m := by have := HM.out; omega
      gi_wp2
      go_end0
      exact ⟨⟨_, rfl⟩, hJ1⟩
end Go.Proofs.YtadcmjnebjgijaaGreatDoor

/- Contracts of package driver's boxes. -/
namespace Go.Proofs.YtadcmjnebjgijaaGreatDoor
open Go.RowKit
open Calm (bcell Blk)

/-- the first error of a driver, a box and a frequency. -/
def drvbErr (re le bl ma st lo air bm bs bo w : Int) : Int := firstOf [drvErr re le bl ma st lo, boxErr air bm bs bo, rangeErr w 1 8]
theorem checkBoxed_any (re le bl ma st lo air bm bs bo w0 : Int) (w : World) (hL : Lim w) :
    Calls Tryz.prog 48 #[.agg #[(.int .i64 (re)), (.int .i64 (le)), (.int .i64 (bl)), (.int .i64 (ma)), (.int .i64 (st)), (.int .i64 (lo))], .agg #[(.int .i64 (air)), (.int .i64 (bm)), (.int .i64 (bs)), (.int .i64 (bo))], (.int .i64 (w0))] w
      fun r w' => r = .returned (.int .i64 (drvbErr re le bl ma st lo air bm bs bo w0)) ∧ Below w.heap.size w w' := by
  go_enter Tryz.func48, Tryz.ntmps48
  go_wp2
  refine Calm.tail_below 6 (by kernel_rfl) (by kernel_rfl) ?_
  simp only [List.take_succ_cons, List.take_zero, List.drop_succ_cons, List.drop_zero]
  repeat (first | (first | (apply Calm.op_move; (focus rfl); (focus (first | exact .inl rfl | exact .inr rfl)); (focus ((try simp only [Act.eval, Array.getD_eq_getD_getElem?, List.getElem?_toArray, List.getElem?_cons_succ, List.getElem?_cons_zero, Option.getD_some]); rfl)); (try simp only [Act.put, List.setIfInBounds_toArray, List.set_cons_zero, List.set_cons_succ])) | (apply Calm.op_not; (focus rfl); (try simp only [Act.put, List.setIfInBounds_toArray, List.set_cons_zero, List.set_cons_succ])) | (apply Calm.op; (focus rfl); (focus (intro W hb; obtain ⟨hc, hf⟩ := bcell hb; clear hb hf; go_simp; (try go_bits); (try rfl); done)); (try simp only [Act.put, List.setIfInBounds_toArray, List.set_cons_zero, List.set_cons_succ]))) | (apply Calm.op_call; (focus rfl); (focus (intro W hb; obtain ⟨hc, hf⟩ := bcell hb; clear hb hf; go_simp; refine ⟨?_, ?_⟩; rfl; rfl)); (focus (intro W hb; first | (go_at_call 31; exact Calm.call_below hb (checkDriver_any _ _ _ _ _ _ _ (hL.below (by repeat (first | (with_reducible exact Below.refl _ _) | ((with_reducible refine Below.setCell ?_ ?_ _); rotate_left 1; focus (first | (simp; done) | (simp; omega) | (simp at *; omega))) | ((with_reducible refine Below.alloc ?_ ?_ _); rotate_left 1; focus (first | (simp; done) | (simp; omega) | (simp at *; omega))) | (with_reducible refine Below.drew ?_) | ((with_reducible refine Calm.step (by assumption) ?_ ?_); rotate_left 1; focus (first | (simp; done) | (simp; omega) | (simp at *; omega)))))))) | (go_at_call 54; exact Calm.call_below hb (checkBox_any _ _ _ _ _)) | (go_at_call 60; exact Calm.call_same hb (checkW_any _ _)))); (try simp only [Act.put, List.setIfInBounds_toArray, List.set_cons_zero, List.set_cons_succ])))
  refine wpQuiet_nil ?_
  intro w1 hb
  obtain ⟨hbc, hbf⟩ := bcell hb
  have hbz := hb.size
  (try simp at hbz)
  (try have hbz0 : w.heap.size < w1.heap.size := by omega)
  (try have hbz1 : w.heap.size + 1 < w1.heap.size := by omega)
  (try have hbz2 : w.heap.size + 1 + 1 < w1.heap.size := by omega)
  (try have hbz3 : w.heap.size + 1 + 1 + 1 < w1.heap.size := by omega)
  (try have hbz4 : w.heap.size + 1 + 1 + 1 + 1 < w1.heap.size := by omega)
  (try have hbz5 : w.heap.size + 1 + 1 + 1 + 1 + 1 < w1.heap.size := by omega)
  go_wp2_with (first | (go_at_call 53; refine (first3_any _ _ _ _).mono ?_; rintro r w1 ⟨rfl, rfl⟩))
  go_ret
  refine ⟨rfl, ?_⟩
  repeat (first | (with_reducible exact Below.refl _ _) | ((with_reducible refine Below.setCell ?_ ?_ _); rotate_left 1; focus (first | (simp; done) | (simp; omega) | (simp at *; omega))) | ((with_reducible refine Below.alloc ?_ ?_ _); rotate_left 1; focus (first | (simp; done) | (simp; omega) | (simp at *; omega))) | (with_reducible refine Below.drew ?_) | ((with_reducible refine Calm.step (by assumption) ?_ ?_); rotate_left 1; focus (first | (simp; done) | (simp; omega) | (simp at *; omega))))

/-- the numbers of a box with a port are in their ranges. -/
structure FitB (air bm bs bo : Int) : Prop where
  air : 1 ≤ air ∧ air ≤ 5000
  ma : 1 ≤ bm ∧ bm ≤ 100
  st : 0 ≤ bs ∧ bs ≤ 5000
  lo : 1 ≤ bo ∧ bo ≤ 100

def aRe (air bm bs w : Int) : Int := pl air (mRe bs bm w)
def aIm (bo w : Int) : Int := pl 0 (mIm bo w)
def lRe (ma st lo air bm bs bo w : Int) : Int := pl (tRe (mRe st ma w) (mIm lo w) (aRe air bm bs w) (aIm bo w)) (tRe air 0 (mRe bs bm w) (mIm bo w))
def lIm (ma st lo air bm bs bo w : Int) : Int := pl (tIm (mRe st ma w) (mIm lo w) (aRe air bm bs w) (aIm bo w)) (tIm air 0 (mRe bs bm w) (mIm bo w))
def wRe (re le bl ma st lo air bm bs bo w : Int) : Int := eRe re le bl (lRe ma st lo air bm bs bo w) (lIm ma st lo air bm bs bo w) (aRe air bm bs w) (aIm bo w) w
def wIm (re le bl ma st lo air bm bs bo w : Int) : Int := eIm re le bl (lRe ma st lo air bm bs bo w) (lIm ma st lo air bm bs bo w) (aRe air bm bs w) (aIm bo w) w

theorem box_bds {re le bl ma st lo air bm bs bo w0 : Int} (hF : Fit re le bl ma st lo w0) (hB : FitB air bm bs bo) :
    Bd 20000 (mRe bs bm w0) ∧ Bd 20000 (mIm bo w0) ∧ Bd 25000 (aRe air bm bs w0) ∧ Bd 25000 (aIm bo w0) ∧
    Bd 1000000000 (tRe (mRe st ma w0) (mIm lo w0) (aRe air bm bs w0) (aIm bo w0)) ∧ Bd 1000000000 (tIm (mRe st ma w0) (mIm lo w0) (aRe air bm bs w0) (aIm bo w0)) ∧
    Bd 1000000000 (tRe air 0 (mRe bs bm w0) (mIm bo w0)) ∧ Bd 1000000000 (tIm air 0 (mRe bs bm w0) (mIm bo w0)) ∧
    Bd 2000000000 (lRe ma st lo air bm bs bo w0) ∧ Bd 2000000000 (lIm ma st lo air bm bs bo w0) := by
  obtain ⟨m1, m2⟩ := hF.mech
  have p1 : Bd 20000 (mRe bs bm w0) := mRe_bd ⟨hB.st.1, by have := hB.st.2; omega⟩ hB.ma hF.w
  have p2 : Bd 20000 (mIm bo w0) := mIm_bd hB.lo hF.w
  have ha := hB.air
  have a1 : Bd 25000 (aRe air bm bs w0) := by unfold aRe pl; unfold Bd at *; omega
  have a2 : Bd 25000 (aIm bo w0) := by unfold aIm pl; unfold Bd at *; omega
  have t1 := tRe_bd m1 m2 a1 a2 (by omega)
  have t2 := tIm_bd m1 m2 a1 a2 (by omega)
  have z1 : Bd 5000 air := ⟨by omega, by omega⟩
  have z2 : Bd 5000 0 := ⟨by omega, by omega⟩
  have t3 := tRe_bd z1 z2 p1 p2 (by omega)
  have t4 := tIm_bd z1 z2 p1 p2 (by omega)
  refine ⟨p1, p2, a1, a2, ?_, ?_, ?_, ?_, ?_, ?_⟩
  all_goals (try unfold lRe pl); (try unfold lIm pl); unfold Bd at *; omega

set_option maxRecDepth 100000 in
set_option maxHeartbeats 2000000 in
theorem cabinet_any (re le bl ma st lo air bm bs bo w0 : Int) (w : World) (hF : Fit re le bl ma st lo w0) (hB : FitB air bm bs bo) :
    Calls Tryz.prog 50 #[.agg #[(.int .i64 (re)), (.int .i64 (le)), (.int .i64 (bl)), (.int .i64 (ma)), (.int .i64 (st)), (.int .i64 (lo))], .agg #[(.int .i64 (air)), (.int .i64 (bm)), (.int .i64 (bs)), (.int .i64 (bo))], (.int .i64 (w0))] w
      fun r w' => r = .returned (.agg #[(.int .i64 (mRe bs bm w0)), (.int .i64 (mIm bo w0)), (.int .i64 (aRe air bm bs w0)), (.int .i64 (aIm bo w0)), (.int .i64 (lRe ma st lo air bm bs bo w0)), (.int .i64 (lIm ma st lo air bm bs bo w0)), (.int .i64 (wRe re le bl ma st lo air bm bs bo w0)), (.int .i64 (wIm re le bl ma st lo air bm bs bo w0))]) ∧ Below w.heap.size w w' := by
  obtain ⟨⟨p1, p2⟩, ⟨p3, p4⟩, ⟨p5, p6⟩, ⟨p7, p8⟩, ⟨p9, p10⟩, ⟨p11, p12⟩, ⟨p13, p14⟩, ⟨p15, p16⟩, ⟨p17, p18⟩, ⟨p19, p20⟩⟩ := box_bds hF hB
  obtain ⟨⟨m1, m2⟩, ⟨m3, m4⟩⟩ := hF.mech
  obtain ⟨⟨g1, g2⟩, ⟨g3, g4⟩, ⟨g5, g6⟩, ⟨g7, g8⟩, ⟨g9, g10⟩, ⟨g11, g12⟩, ⟨g13, g14⟩⟩ := id hF
  obtain ⟨⟨b1, b2⟩, ⟨b3, b4⟩, ⟨b5, b6⟩, ⟨b7, b8⟩⟩ := id hB
  simp only [lRe, lIm, aRe, aIm] at p5 p6 p7 p8 p9 p10 p11 p12 p13 p14 p15 p16 p17 p18 p19 p20
  go_enter Tryz.func50, Tryz.ntmps50
  go_wp2_with (first | (go_at_call 75; refine (swing_any _ _ _ _ _ ⟨by omega, by omega⟩ ⟨by omega, by omega⟩ ⟨by omega, by omega⟩ ⟨by omega, by omega⟩).mono ?_; rintro r w1 ⟨rfl, hb⟩; obtain ⟨hc, hf⟩ := bcell hb; have hz := hb.size; (try simp at hz); (try have hz0 : w.heap.size < w1.heap.size := by omega); (try have hz1 : w.heap.size + 1 < w1.heap.size := by omega); (try have hz2 : w.heap.size + 1 + 1 < w1.heap.size := by omega); (try have hz3 : w.heap.size + 1 + 1 + 1 < w1.heap.size := by omega); (try have hz4 : w.heap.size + 1 + 1 + 1 + 1 < w1.heap.size := by omega); (try have hz5 : w.heap.size + 1 + 1 + 1 + 1 + 1 < w1.heap.size := by omega); (try have hz6 : w.heap.size + 1 + 1 + 1 + 1 + 1 + 1 < w1.heap.size := by omega)))
  refine Rel.region2 6 (by kernel_rfl) (by kernel_rfl) (by kernel_rfl) (by kernel_rfl) ?_
  simp only [List.take_succ_cons, List.take_zero, List.drop_succ_cons, List.drop_zero, List.filterMap_cons, List.filterMap_nil]
  repeat (first | (apply Rel.op; (focus rfl); (focus (intro a W hb hd hbase; obtain ⟨hc, hf⟩ := bcell hb; clear hb hf; simp [Rel.deps, Rel.dep1, Act.eval] at hd; simp only [Act.eval, List.mem_cons, List.not_mem_nil, not_or, and_imp, or_false, Array.getD_eq_getD_getElem?] at hbase; go_simp; (try go_bits); (try rfl); done)); (try simp only [List.nil_append, List.cons_append])) | (apply Rel.alloc; (focus rfl); (focus (intro a W; go_simp; refine ⟨?_, ?_⟩; rfl; rfl)); (try simp only [List.nil_append, List.cons_append])) | (apply Rel.alloc; (focus rfl); (focus (intro a W; go_simp; rfl)); (try simp only [List.nil_append, List.cons_append])) | (apply Rel.call_eq; (focus rfl); (focus (intro a W hb hd hbase; obtain ⟨hc, hf⟩ := bcell hb; clear hb hf; simp [Rel.deps, Rel.dep1, Act.eval] at hd; simp only [Act.eval, List.mem_cons, List.not_mem_nil, not_or, and_imp, or_false, Array.getD_eq_getD_getElem?] at hbase; go_simp; refine ⟨?_, ?_⟩; rfl; rfl)); (focus (intro W hb; first | (go_at_call 51; exact (number_any _ _ _)) | (go_at_call 77; exact (plus_any _ _ _ _ _ ⟨by omega, by omega⟩ ⟨by omega, by omega⟩ ⟨by omega, by omega⟩ ⟨by omega, by omega⟩)))); (try simp only [List.nil_append, List.cons_append])))
  refine Rel.done ?_
  intro x w2 hb2 hx
  simp only [Rel.facts, Nat.zero_add, Nat.reduceAdd] at hx
  obtain ⟨e0, e1, e2, e3, e4, ⟨g, e5, gB, gk⟩, _⟩ := hx
  simp only [Rel.fill, Nat.zero_add, Nat.reduceAdd, e0, e1, e2, e3, e4, e5]
  simp only [Act.put, List.setIfInBounds_toArray, List.set_cons_zero, List.set_cons_succ]
  clear e0 e1 e2 e3 e4 e5
  clear x
  obtain ⟨hb2c, hb2f⟩ := bcell hb2
  have hb2z := hb2.size
  (try simp at hb2z)
  (try have hb2z0 : w.heap.size < w2.heap.size := by omega)
  (try have hb2z1 : w.heap.size + 1 < w2.heap.size := by omega)
  (try have hb2z2 : w.heap.size + 1 + 1 < w2.heap.size := by omega)
  (try have hb2z3 : w.heap.size + 1 + 1 + 1 < w2.heap.size := by omega)
  (try have hb2z4 : w.heap.size + 1 + 1 + 1 + 1 < w2.heap.size := by omega)
  (try have hb2z5 : w.heap.size + 1 + 1 + 1 + 1 + 1 < w2.heap.size := by omega)
  have gc := gk.c
  have gf := gk.f
  have gl := gk.lt
  simp at gB
  have gn0 : ¬ g = w.heap.size := by omega
  have gn1 : ¬ g = w.heap.size + 1 := by omega
  have gn2 : ¬ g = w.heap.size + 1 + 1 := by omega
  have gn3 : ¬ g = w1.heap.size := by omega
  have gm0 : ¬ w.heap.size = g := by omega
  have gm1 : ¬ w.heap.size + 1 = g := by omega
  have gm2 : ¬ w.heap.size + 1 + 1 = g := by omega
  have gm3 : ¬ w1.heap.size = g := by omega
  have h2z0 : w.heap.size < w2.heap.size := by omega
  have h2z1 : w.heap.size + 1 < w2.heap.size := by omega
  have h2z2 : w.heap.size + 1 + 1 < w2.heap.size := by omega
  have h2z3 : w1.heap.size < w2.heap.size := by omega
  go_wp2
  refine Rel.region2 12 (by kernel_rfl) (by kernel_rfl) (by kernel_rfl) (by kernel_rfl) ?_
  simp only [List.take_succ_cons, List.take_zero, List.drop_succ_cons, List.drop_zero, List.filterMap_cons, List.filterMap_nil]
  repeat (first | (apply Rel.op; (focus rfl); (focus (intro a W hb hd hbase; obtain ⟨hc, hf⟩ := bcell hb; clear hb hf; simp [Rel.deps, Rel.dep1, Act.eval] at hd; simp only [Act.eval, List.mem_cons, List.not_mem_nil, not_or, and_imp, or_false, Array.getD_eq_getD_getElem?] at hbase; go_simp; (try go_bits); (try rfl); done)); (try simp only [List.nil_append, List.cons_append])) | (apply Rel.alloc; (focus rfl); (focus (intro a W; go_simp; refine ⟨?_, ?_⟩; rfl; rfl)); (try simp only [List.nil_append, List.cons_append])) | (apply Rel.alloc; (focus rfl); (focus (intro a W; go_simp; rfl)); (try simp only [List.nil_append, List.cons_append])) | (apply Rel.call_eq; (focus rfl); (focus (intro a W hb hd hbase; obtain ⟨hc, hf⟩ := bcell hb; clear hb hf; simp [Rel.deps, Rel.dep1, Act.eval] at hd; simp only [Act.eval, List.mem_cons, List.not_mem_nil, not_or, and_imp, or_false, Array.getD_eq_getD_getElem?] at hbase; go_simp; refine ⟨?_, ?_⟩; rfl; rfl)); (focus (intro W hb; first | (go_at_call 42; exact (mechanics_any _ _ _ _ _ _ _ _ hF)) | (go_at_call 78; exact (times_any _ _ _ _ _ ⟨by omega, by omega⟩ ⟨by omega, by omega⟩ ⟨by omega, by omega⟩ ⟨by omega, by omega⟩)) | (go_at_call 51; exact (number_any _ _ _)) | (go_at_call 77; exact (plus_any _ _ _ _ _ ⟨by omega, by omega⟩ ⟨by omega, by omega⟩ ⟨by omega, by omega⟩ ⟨by omega, by omega⟩)))); (try simp only [List.nil_append, List.cons_append])))
  refine Rel.done ?_
  intro x w3 hb3 hx
  simp only [Rel.facts, Nat.zero_add, Nat.reduceAdd] at hx
  obtain ⟨e0, e1, e2, e3, e4, e5, e6, e7, e8, e9, e10, ⟨q, e11, qB, qk⟩, _⟩ := hx
  simp only [Rel.fill, Nat.zero_add, Nat.reduceAdd, e0, e1, e2, e3, e4, e5, e6, e7, e8, e9, e10, e11]
  simp only [Act.put, List.setIfInBounds_toArray, List.set_cons_zero, List.set_cons_succ]
  clear e0 e1 e2 e3 e4 e5 e6 e7 e8 e9 e10 e11
  clear x
  obtain ⟨hb3c, hb3f⟩ := bcell hb3
  have hb3z := hb3.size
  (try simp at hb3z)
  (try have hb3z0 : w.heap.size < w3.heap.size := by omega)
  (try have hb3z1 : w.heap.size + 1 < w3.heap.size := by omega)
  (try have hb3z2 : w.heap.size + 1 + 1 < w3.heap.size := by omega)
  (try have hb3z3 : w.heap.size + 1 + 1 + 1 < w3.heap.size := by omega)
  (try have hb3z4 : w.heap.size + 1 + 1 + 1 + 1 < w3.heap.size := by omega)
  (try have hb3z5 : w.heap.size + 1 + 1 + 1 + 1 + 1 < w3.heap.size := by omega)
  have qc := qk.c
  have qf := qk.f
  have ql := qk.lt
  simp at qB
  have qn0 : ¬ q = w.heap.size := by omega
  have qn1 : ¬ q = w.heap.size + 1 := by omega
  have qn2 : ¬ q = w.heap.size + 1 + 1 := by omega
  have qn3 : ¬ q = w1.heap.size := by omega
  have qn4 : ¬ q = g := by omega
  have qm0 : ¬ w.heap.size = q := by omega
  have qm1 : ¬ w.heap.size + 1 = q := by omega
  have qm2 : ¬ w.heap.size + 1 + 1 = q := by omega
  have qm3 : ¬ w1.heap.size = q := by omega
  have qm4 : ¬ g = q := by omega
  have h3z0 : w.heap.size < w3.heap.size := by omega
  have h3z1 : w.heap.size + 1 < w3.heap.size := by omega
  have h3z2 : w.heap.size + 1 + 1 < w3.heap.size := by omega
  have h3z3 : w1.heap.size < w3.heap.size := by omega
  have h3z4 : g < w3.heap.size := by omega
  go_wp2
  refine Calm.tail_below 9 (by kernel_rfl) (by kernel_rfl) ?_
  simp only [List.take_succ_cons, List.take_zero, List.drop_succ_cons, List.drop_zero]
  repeat (first | (first | (apply Calm.op_move; (focus rfl); (focus (first | exact .inl rfl | exact .inr rfl)); (focus ((try simp only [Act.eval, Array.getD_eq_getD_getElem?, List.getElem?_toArray, List.getElem?_cons_succ, List.getElem?_cons_zero, Option.getD_some]); rfl)); (try simp only [Act.put, List.setIfInBounds_toArray, List.set_cons_zero, List.set_cons_succ])) | (apply Calm.op_not; (focus rfl); (try simp only [Act.put, List.setIfInBounds_toArray, List.set_cons_zero, List.set_cons_succ])) | (apply Calm.op; (focus rfl); (focus (intro W hb; obtain ⟨hc, hf⟩ := bcell hb; clear hb hf; go_simp; (try go_bits); (try rfl); done)); (try simp only [Act.put, List.setIfInBounds_toArray, List.set_cons_zero, List.set_cons_succ]))) | (apply Calm.op_call; (focus rfl); (focus (intro W hb; obtain ⟨hc, hf⟩ := bcell hb; clear hb hf; go_simp; refine ⟨?_, ?_⟩; rfl; rfl)); (focus (intro W hb; first | (go_at_call 79; exact Calm.call_below hb (electric_any _ _ _ _ _ _ _ _ _ _ _ _ ⟨by omega, by omega⟩ ⟨by omega, by omega⟩ ⟨by omega, by omega⟩ ⟨by omega, by omega⟩ ⟨by omega, by omega⟩ ⟨by omega, by omega⟩ ⟨by omega, by omega⟩ ⟨by omega, by omega⟩)))); (try simp only [Act.put, List.setIfInBounds_toArray, List.set_cons_zero, List.set_cons_succ])))
  refine wpQuiet_nil ?_
  intro w4 hb4
  obtain ⟨hb4c, hb4f⟩ := bcell hb4
  have hb4z := hb4.size
  (try simp at hb4z)
  (try have hb4z0 : w.heap.size < w4.heap.size := by omega)
  (try have hb4z1 : w.heap.size + 1 < w4.heap.size := by omega)
  (try have hb4z2 : w.heap.size + 1 + 1 < w4.heap.size := by omega)
  (try have hb4z3 : w.heap.size + 1 + 1 + 1 < w4.heap.size := by omega)
  (try have hb4z4 : w.heap.size + 1 + 1 + 1 + 1 < w4.heap.size := by omega)
  (try have hb4z5 : w.heap.size + 1 + 1 + 1 + 1 + 1 < w4.heap.size := by omega)
  have h4z2 : w.heap.size + 1 + 1 < w4.heap.size := by omega
  go_wp2
  refine bodyPost_ret (v := .agg #[(.int .i64 (mRe bs bm w0)), (.int .i64 (mIm bo w0)), (.int .i64 (aRe air bm bs w0)), (.int .i64 (aIm bo w0)), (.int .i64 (lRe ma st lo air bm bs bo w0)), (.int .i64 (lIm ma st lo air bm bs bo w0)), (.int .i64 (wRe re le bl ma st lo air bm bs bo w0)), (.int .i64 (wIm re le bl ma st lo air bm bs bo w0))]) (by simp [results, Tryz.results50, go_sem, wRe, wIm, lRe, lIm, aRe, aIm, *]) rfl ⟨rfl, ?_⟩
  repeat (first | (with_reducible exact Below.refl _ _) | ((with_reducible refine Below.setCell ?_ ?_ _); rotate_left 1; focus (first | (simp; done) | (simp; omega) | (simp at *; omega))) | ((with_reducible refine Below.alloc ?_ ?_ _); rotate_left 1; focus (first | (simp; done) | (simp; omega) | (simp at *; omega))) | (with_reducible refine Below.drew ?_) | ((with_reducible refine Calm.step (by assumption) ?_ ?_); rotate_left 1; focus (first | (simp; done) | (simp; omega) | (simp at *; omega))))
end Go.Proofs.YtadcmjnebjgijaaGreatDoor

/- Contracts of package driver's ratios. -/
namespace Go.Proofs.YtadcmjnebjgijaaGreatDoor
open Go.RowKit
open Calm (bcell Blk)

/-- a quotient in lowest terms. -/
def lowN (num den : Int) : Int := num / (Int.gcd num den : Int)
def lowD (num den : Int) : Int := den / (Int.gcd num den : Int)

set_option maxHeartbeats 1000000 in
theorem lowest_nat (n m : Nat) (w : World) (h1 : 1 ≤ n) (h2 : 1 ≤ m) (h3 : n ≤ 1000000000000000) (h4 : m ≤ 1000000000000000) :
    Calls Tryz.prog 47 #[(.int .i64 (n)), (.int .i64 (m))] w fun r w' => r = .returned (.agg #[(.int .i64 (lowN n m)), (.int .i64 (lowD n m))]) ∧ Below w.heap.size w w' := by
  go_enter Tryz.func47, Tryz.ntmps47
  go_wp2
  have hb0 : Below w.heap.size w (w.alloc (.cells #[(.int .i64 (0)), (.int .i64 (0))] 46)) := (Below.refl _ _).alloc (Nat.le_refl _) _
  have k0 : Blk (w.alloc (.cells #[(.int .i64 (0)), (.int .i64 (0))] 46)) w.heap.size #[(.int .i64 (0)), (.int .i64 (0))] := Blk.at_ rfl
  go_loopw [5, 6] (fun x y wr => ∃ a b : Nat, x = (.int .i64 (a)) ∧ y = (.int .i64 (b)) ∧ Nat.gcd a b = Nat.gcd n m ∧ 1 ≤ a ∧ a ≤ 1000000000000000 ∧ b ≤ 1000000000000000 ∧ Below w.heap.size w wr ∧ Blk wr w.heap.size #[(.int .i64 (0)), (.int .i64 (0))]) (fun _ y _ => (intOf y).toNat)
  case atStart => exact ⟨n, m, rfl, rfl, rfl, h1, h3, h4, hb0, k0⟩
  case round =>
    clear hb0 k0
    obtain ⟨a, b, rfl, rfl, hg, ha, ha2, hb2, hB, hk⟩ := hrel
    have HG := Lib.hid hg
    clear hg
    have hkl := hk.lt
    by_cases hb0 : b = 0
    · subst hb0
      have hga : a = Nat.gcd n m := by have := HG.out; simpa using this
      have e : (Int.gcd (n : Int) (m : Int) : Int) = (a : Int) := by rw [hga]; rfl
      have HE := Lib.hid e
      clear e HG hga
      have hne : ¬ a = 0 := by omega
      have hne2 : ((a : Int) == 0) = false := by simp [hne]
      obtain ⟨q1, q2⟩ := IntWalk.tdiv_le n a (by omega) (by omega)
      obtain ⟨q3, q4⟩ := IntWalk.tdiv_le m a (by omega) (by omega)
      have c0 := hk.cell 0 _ rfl
      have c1 := hk.cell 1 _ rfl
      have f := hk.f
      go_wp2
      refine Calm.tail_below 7 (by kernel_rfl) (by kernel_rfl) ?_
      simp only [List.take_succ_cons, List.take_zero, List.drop_succ_cons, List.drop_zero]
      repeat (first | (apply Calm.op_move; (focus rfl); (focus (first | exact .inl rfl | exact .inr rfl)); (focus ((try simp only [Act.eval, Array.getD_eq_getD_getElem?, List.getElem?_toArray, List.getElem?_cons_succ, List.getElem?_cons_zero, Option.getD_some]); rfl)); (try simp only [Act.put, List.setIfInBounds_toArray, List.set_cons_zero, List.set_cons_succ])) | (apply Calm.op_not; (focus rfl); (try simp only [Act.put, List.setIfInBounds_toArray, List.set_cons_zero, List.set_cons_succ])) | (apply Calm.op; (focus rfl); (focus (intro W hb; obtain ⟨hc, hf⟩ := bcell hb; clear hb hf; go_simp; (try go_bits); (try rfl); done)); (try simp only [Act.put, List.setIfInBounds_toArray, List.set_cons_zero, List.set_cons_succ])))
      refine wpQuiet_nil ?_
      intro w1 hb
      obtain ⟨hbc, hbf⟩ := bcell hb
      have hbz := hb.size
      (try simp at hbz)
      (try have hbz0 : w.heap.size < w1.heap.size := by omega)
      (try have hbz1 : w.heap.size + 1 < w1.heap.size := by omega)
      (try have hbz2 : w.heap.size + 1 + 1 < w1.heap.size := by omega)
      (try have hbz3 : w.heap.size + 1 + 1 + 1 < w1.heap.size := by omega)
      (try have hbz4 : w.heap.size + 1 + 1 + 1 + 1 < w1.heap.size := by omega)
      (try have hbz5 : w.heap.size + 1 + 1 + 1 + 1 + 1 < w1.heap.size := by omega)
      go_wp2
      refine bodyPost_ret (v := .agg #[(.int .i64 (lowN n m)), (.int .i64 (lowD n m))]) ?_ rfl ⟨rfl, ?_⟩
      · rw [lowN, lowD, HE.out]
        simp [results, Tryz.results47, go_sem, *]
      · repeat (first | (with_reducible exact Below.refl _ _) | ((with_reducible refine Below.setCell ?_ ?_ _); rotate_left 1; focus (first | (simp; done) | (simp; omega) | (simp at *; omega))) | ((with_reducible refine Below.alloc ?_ ?_ _); rotate_left 1; focus (first | (simp; done) | (simp; omega) | (simp at *; omega))) | (with_reducible refine Below.drew ?_) | ((with_reducible refine Calm.step (by assumption) ?_ ?_); rotate_left 1; focus (first | (simp; done) | (simp; omega) | (simp at *; omega))))
    · have hb1 : 1 ≤ b := by omega
      have hne2 : ((b : Int) == 0) = false := by simp [hb0]
      have hne3 : ((b : Int) != 0) = true := by simp [hb0]
      have hm : a % b < b := Nat.mod_lt _ (by omega)
      go_wp2
      refine Calm.all_below (by kernel_rfl) (by kernel_rfl) ?_
      repeat (first | (apply Calm.op_move; (focus rfl); (focus (first | exact .inl rfl | exact .inr rfl)); (focus ((try simp only [Act.eval, Array.getD_eq_getD_getElem?, List.getElem?_toArray, List.getElem?_cons_succ, List.getElem?_cons_zero, Option.getD_some]); rfl)); (try simp only [Act.put, List.setIfInBounds_toArray, List.set_cons_zero, List.set_cons_succ])) | (apply Calm.op_not; (focus rfl); (try simp only [Act.put, List.setIfInBounds_toArray, List.set_cons_zero, List.set_cons_succ])) | (apply Calm.op; (focus rfl); (focus (intro W hb; obtain ⟨hc, hf⟩ := bcell hb; clear hb hf; go_simp; (try go_bits); (try rfl); done)); (try simp only [Act.put, List.setIfInBounds_toArray, List.set_cons_zero, List.set_cons_succ])))
      refine wpQuiet_nil ?_
      intro w1 hb
      obtain ⟨hbc, hbf⟩ := bcell hb
      have hbz := hb.size
      (try simp at hbz)
      (try have hbz0 : w.heap.size < w1.heap.size := by omega)
      (try have hbz1 : w.heap.size + 1 < w1.heap.size := by omega)
      (try have hbz2 : w.heap.size + 1 + 1 < w1.heap.size := by omega)
      (try have hbz3 : w.heap.size + 1 + 1 + 1 < w1.heap.size := by omega)
      (try have hbz4 : w.heap.size + 1 + 1 + 1 + 1 < w1.heap.size := by omega)
      (try have hbz5 : w.heap.size + 1 + 1 + 1 + 1 + 1 < w1.heap.size := by omega)
      go_wp2
      go_roundw
      case rel => exact ⟨b, a % b, rfl, by go_num, by rw [← HG.out]; exact (Nat.gcd_comm b (a % b)).trans ((Nat.gcd_rec b a).symm.trans (Nat.gcd_comm b a)), by omega, by omega, by omega, hB.trans (hb.mono hB.size), hk.below hb⟩
      case measure => simp [intOf]; omega
theorem lowest_any (num den : Int) (w : World) (h1 : 1 ≤ num) (h2 : 1 ≤ den) (h3 : num ≤ 1000000000000000) (h4 : den ≤ 1000000000000000) :
    Calls Tryz.prog 47 #[(.int .i64 (num)), (.int .i64 (den))] w fun r w' => r = .returned (.agg #[(.int .i64 (lowN num den)), (.int .i64 (lowD num den))]) ∧ Below w.heap.size w w' := by
  obtain ⟨n, rfl⟩ := Int.eq_ofNat_of_zero_le (show 0 ≤ num by omega)
  obtain ⟨m, rfl⟩ := Int.eq_ofNat_of_zero_le (show 0 ≤ den by omega)
  exact lowest_nat n m w (by omega) (by omega) (by omega) (by omega)

theorem resonance_ok (re le bl ma st lo : Int) (w : World) (hL : Lim w) (h : drvErr re le bl ma st lo = 0) :
    Calls Tryz.prog 16 #[.agg #[(.int .i64 (re)), (.int .i64 (le)), (.int .i64 (bl)), (.int .i64 (ma)), (.int .i64 (st)), (.int .i64 (lo))]] w fun r w' => r = .returned (.tuple #[.agg #[(.int .i64 (lowN st ma)), (.int .i64 (lowD st ma))], (.int .i64 (0))]) ∧ Below w.heap.size w w' := by
  obtain ⟨⟨g1, g2⟩, ⟨g3, g4⟩, ⟨g5, g6⟩, ⟨g7, g8⟩, ⟨g9, g10⟩, ⟨g11, g12⟩⟩ := drvErr_zero h
  go_enter Tryz.func16, Tryz.ntmps16
  go_wp2_with (first | (go_at_call 31; refine (checkDriver_any _ _ _ _ _ _ _ (hL.below (by repeat (first | (with_reducible exact Below.refl _ _) | ((with_reducible refine Below.setCell ?_ ?_ _); rotate_left 1; focus (first | (simp; done) | (simp; omega) | (simp at *; omega))) | ((with_reducible refine Below.alloc ?_ ?_ _); rotate_left 1; focus (first | (simp; done) | (simp; omega) | (simp at *; omega))) | (with_reducible refine Below.drew ?_) | ((with_reducible refine Calm.step (by assumption) ?_ ?_); rotate_left 1; focus (first | (simp; done) | (simp; omega) | (simp at *; omega))))))).mono ?_; rintro r w1 ⟨rfl, hb⟩; obtain ⟨hc, hf⟩ := bcell hb; have hz := hb.size; (try simp at hz); (try have hz0 : w.heap.size < w1.heap.size := by omega); (try have hz1 : w.heap.size + 1 < w1.heap.size := by omega); (try have hz2 : w.heap.size + 1 + 1 < w1.heap.size := by omega); (try have hz3 : w.heap.size + 1 + 1 + 1 < w1.heap.size := by omega); (try have hz4 : w.heap.size + 1 + 1 + 1 + 1 < w1.heap.size := by omega); (try have hz5 : w.heap.size + 1 + 1 + 1 + 1 + 1 < w1.heap.size := by omega); (try have hz6 : w.heap.size + 1 + 1 + 1 + 1 + 1 + 1 < w1.heap.size := by omega)) | (go_at_call 47; refine (lowest_any _ _ _ (by omega) (by omega) (by omega) (by omega)).mono ?_; rintro r w1 ⟨rfl, hb⟩; obtain ⟨hc, hf⟩ := bcell hb; have hz := hb.size; (try simp at hz); (try have hz0 : w.heap.size < w1.heap.size := by omega); (try have hz1 : w.heap.size + 1 < w1.heap.size := by omega); (try have hz2 : w.heap.size + 1 + 1 < w1.heap.size := by omega); (try have hz3 : w.heap.size + 1 + 1 + 1 < w1.heap.size := by omega); (try have hz4 : w.heap.size + 1 + 1 + 1 + 1 < w1.heap.size := by omega); (try have hz5 : w.heap.size + 1 + 1 + 1 + 1 + 1 < w1.heap.size := by omega); (try have hz6 : w.heap.size + 1 + 1 + 1 + 1 + 1 + 1 < w1.heap.size := by omega)))
  refine bodyPost_ret (v := .tuple #[.agg #[(.int .i64 (lowN st ma)), (.int .i64 (lowD st ma))], (.int .i64 (0))]) (by simp [results, Tryz.results16, go_sem, *]) rfl ⟨rfl, ?_⟩
  repeat (first | (with_reducible exact Below.refl _ _) | ((with_reducible refine Below.setCell ?_ ?_ _); rotate_left 1; focus (first | (simp; done) | (simp; omega) | (simp at *; omega))) | ((with_reducible refine Below.alloc ?_ ?_ _); rotate_left 1; focus (first | (simp; done) | (simp; omega) | (simp at *; omega))) | (with_reducible refine Below.drew ?_) | ((with_reducible refine Calm.step (by assumption) ?_ ?_); rotate_left 1; focus (first | (simp; done) | (simp; omega) | (simp at *; omega))))
theorem resonance_bad (re le bl ma st lo : Int) (w : World) (hL : Lim w) (h : drvErr re le bl ma st lo ≠ 0) :
    Calls Tryz.prog 16 #[.agg #[(.int .i64 (re)), (.int .i64 (le)), (.int .i64 (bl)), (.int .i64 (ma)), (.int .i64 (st)), (.int .i64 (lo))]] w fun r w' => r = .returned (.tuple #[.agg #[(.int .i64 (0)), (.int .i64 (0))], (.int .i64 (drvErr re le bl ma st lo))]) ∧ Below w.heap.size w w' := by
  go_enter Tryz.func16, Tryz.ntmps16
  go_wp2_with (first | (go_at_call 31; refine (checkDriver_any _ _ _ _ _ _ _ (hL.below (by repeat (first | (with_reducible exact Below.refl _ _) | ((with_reducible refine Below.setCell ?_ ?_ _); rotate_left 1; focus (first | (simp; done) | (simp; omega) | (simp at *; omega))) | ((with_reducible refine Below.alloc ?_ ?_ _); rotate_left 1; focus (first | (simp; done) | (simp; omega) | (simp at *; omega))) | (with_reducible refine Below.drew ?_) | ((with_reducible refine Calm.step (by assumption) ?_ ?_); rotate_left 1; focus (first | (simp; done) | (simp; omega) | (simp at *; omega))))))).mono ?_; rintro r w1 ⟨rfl, hb⟩; obtain ⟨hc, hf⟩ := bcell hb; have hz := hb.size; (try simp at hz); (try have hz0 : w.heap.size < w1.heap.size := by omega); (try have hz1 : w.heap.size + 1 < w1.heap.size := by omega); (try have hz2 : w.heap.size + 1 + 1 < w1.heap.size := by omega); (try have hz3 : w.heap.size + 1 + 1 + 1 < w1.heap.size := by omega); (try have hz4 : w.heap.size + 1 + 1 + 1 + 1 < w1.heap.size := by omega); (try have hz5 : w.heap.size + 1 + 1 + 1 + 1 + 1 < w1.heap.size := by omega); (try have hz6 : w.heap.size + 1 + 1 + 1 + 1 + 1 + 1 < w1.heap.size := by omega)))
  refine bodyPost_ret (v := .tuple #[.agg #[(.int .i64 (0)), (.int .i64 (0))], (.int .i64 (drvErr re le bl ma st lo))]) (by simp [results, Tryz.results16, go_sem, *]) rfl ⟨rfl, ?_⟩
  repeat (first | (with_reducible exact Below.refl _ _) | ((with_reducible refine Below.setCell ?_ ?_ _); rotate_left 1; focus (first | (simp; done) | (simp; omega) | (simp at *; omega))) | ((with_reducible refine Below.alloc ?_ ?_ _); rotate_left 1; focus (first | (simp; done) | (simp; omega) | (simp at *; omega))) | (with_reducible refine Below.drew ?_) | ((with_reducible refine Calm.step (by assumption) ?_ ?_); rotate_left 1; focus (first | (simp; done) | (simp; omega) | (simp at *; omega))))

/-- the first error of a driver and a stiffness; then that of their sum. -/
def closedErr (re le bl ma st lo k : Int) : Int := firstOf [drvErr re le bl ma st lo, rangeErr k 0 5000]
set_option maxHeartbeats 1000000 in
theorem closed_bad (re le bl ma st lo k : Int) (w : World) (hL : Lim w) (h : closedErr re le bl ma st lo k ≠ 0) :
    Calls Tryz.prog 23 #[.agg #[(.int .i64 (re)), (.int .i64 (le)), (.int .i64 (bl)), (.int .i64 (ma)), (.int .i64 (st)), (.int .i64 (lo))], (.int .i64 (k))] w fun r w' => r = .returned (.tuple #[.agg #[(.int .i64 (0)), (.int .i64 (0)), (.int .i64 (0)), (.int .i64 (0)), (.int .i64 (0)), (.int .i64 (0))], (.int .i64 (closedErr re le bl ma st lo k))]) ∧ Below w.heap.size w w' := by
  unfold closedErr at *
  go_enter Tryz.func23, Tryz.ntmps23
  go_wp2_with (first | (go_at_call 31; refine (checkDriver_any _ _ _ _ _ _ _ (hL.below (by repeat (first | (with_reducible exact Below.refl _ _) | ((with_reducible refine Below.setCell ?_ ?_ _); rotate_left 1; focus (first | (simp; done) | (simp; omega) | (simp at *; omega))) | ((with_reducible refine Below.alloc ?_ ?_ _); rotate_left 1; focus (first | (simp; done) | (simp; omega) | (simp at *; omega))) | (with_reducible refine Below.drew ?_) | ((with_reducible refine Calm.step (by assumption) ?_ ?_); rotate_left 1; focus (first | (simp; done) | (simp; omega) | (simp at *; omega))))))).mono ?_; rintro r w1 ⟨rfl, hb⟩; obtain ⟨hc, hf⟩ := bcell hb; have hz := hb.size; (try simp at hz); (try have hz0 : w.heap.size < w1.heap.size := by omega); (try have hz1 : w.heap.size + 1 < w1.heap.size := by omega); (try have hz2 : w.heap.size + 1 + 1 < w1.heap.size := by omega); (try have hz3 : w.heap.size + 1 + 1 + 1 < w1.heap.size := by omega); (try have hz4 : w.heap.size + 1 + 1 + 1 + 1 < w1.heap.size := by omega); (try have hz5 : w.heap.size + 1 + 1 + 1 + 1 + 1 < w1.heap.size := by omega); (try have hz6 : w.heap.size + 1 + 1 + 1 + 1 + 1 + 1 < w1.heap.size := by omega)) | (go_at_call 56; refine (within_any _ _ _ _).mono ?_; rintro r w1 ⟨rfl, rfl⟩) | (go_at_call 53; refine (first2_any _ _ _).mono ?_; rintro r w1 ⟨rfl, rfl⟩))
  refine bodyPost_ret (v := .tuple #[.agg #[(.int .i64 (0)), (.int .i64 (0)), (.int .i64 (0)), (.int .i64 (0)), (.int .i64 (0)), (.int .i64 (0))], (.int .i64 (firstOf [drvErr re le bl ma st lo, rangeErr k 0 5000]))]) (by simp [results, Tryz.results23, go_sem, *]) rfl ⟨rfl, ?_⟩
  repeat (first | (with_reducible exact Below.refl _ _) | ((with_reducible refine Below.setCell ?_ ?_ _); rotate_left 1; focus (first | (simp; done) | (simp; omega) | (simp at *; omega))) | ((with_reducible refine Below.alloc ?_ ?_ _); rotate_left 1; focus (first | (simp; done) | (simp; omega) | (simp at *; omega))) | (with_reducible refine Below.drew ?_) | ((with_reducible refine Calm.step (by assumption) ?_ ?_); rotate_left 1; focus (first | (simp; done) | (simp; omega) | (simp at *; omega))))
set_option maxHeartbeats 1000000 in
theorem closed_ok (re le bl ma st lo k : Int) (w : World) (hL : Lim w) (h : closedErr re le bl ma st lo k = 0) (hs : st + k ≤ 5000) :
    Calls Tryz.prog 23 #[.agg #[(.int .i64 (re)), (.int .i64 (le)), (.int .i64 (bl)), (.int .i64 (ma)), (.int .i64 (st)), (.int .i64 (lo))], (.int .i64 (k))] w fun r w' => r = .returned (.tuple #[.agg #[(.int .i64 (re)), (.int .i64 (le)), (.int .i64 (bl)), (.int .i64 (ma)), (.int .i64 (st + k)), (.int .i64 (lo))], (.int .i64 (0))]) ∧ Below w.heap.size w w' := by
  have h1 := firstOf_eq_zero.1 h
  simp only [List.mem_cons, List.not_mem_nil, or_false, forall_eq_or_imp, forall_eq, rangeErr_zero] at h1
  obtain ⟨⟨g1, g2⟩, ⟨g3, g4⟩, ⟨g5, g6⟩, ⟨g7, g8⟩, ⟨g9, g10⟩, ⟨g11, g12⟩⟩ := drvErr_zero h1.1
  obtain ⟨h1a, g13, g14⟩ := h1
  clear h1a
  unfold closedErr at h
  go_enter Tryz.func23, Tryz.ntmps23
  go_wp2_with (first | (go_at_call 31; refine (checkDriver_any _ _ _ _ _ _ _ (hL.below (by repeat (first | (with_reducible exact Below.refl _ _) | ((with_reducible refine Below.setCell ?_ ?_ _); rotate_left 1; focus (first | (simp; done) | (simp; omega) | (simp at *; omega))) | ((with_reducible refine Below.alloc ?_ ?_ _); rotate_left 1; focus (first | (simp; done) | (simp; omega) | (simp at *; omega))) | (with_reducible refine Below.drew ?_) | ((with_reducible refine Calm.step (by assumption) ?_ ?_); rotate_left 1; focus (first | (simp; done) | (simp; omega) | (simp at *; omega))))))).mono ?_; rintro r w1 ⟨rfl, hb⟩; obtain ⟨hc, hf⟩ := bcell hb; have hz := hb.size; (try simp at hz); (try have hz0 : w.heap.size < w1.heap.size := by omega); (try have hz1 : w.heap.size + 1 < w1.heap.size := by omega); (try have hz2 : w.heap.size + 1 + 1 < w1.heap.size := by omega); (try have hz3 : w.heap.size + 1 + 1 + 1 < w1.heap.size := by omega); (try have hz4 : w.heap.size + 1 + 1 + 1 + 1 < w1.heap.size := by omega); (try have hz5 : w.heap.size + 1 + 1 + 1 + 1 + 1 < w1.heap.size := by omega); (try have hz6 : w.heap.size + 1 + 1 + 1 + 1 + 1 + 1 < w1.heap.size := by omega)) | (go_at_call 56; refine (within_any _ _ _ _).mono ?_; rintro r w1 ⟨rfl, rfl⟩) | (go_at_call 53; refine (first2_any _ _ _).mono ?_; rintro r w1 ⟨rfl, rfl⟩) | (go_at_call 49; refine (stiffer_any _ _ _ _ _ _ _ _ ⟨by omega, by omega⟩ ⟨by omega, by omega⟩).mono ?_; rintro r w1 ⟨rfl, hb⟩; obtain ⟨hc, hf⟩ := bcell hb; have hz := hb.size; (try simp at hz); (try have hz0 : w.heap.size < w1.heap.size := by omega); (try have hz1 : w.heap.size + 1 < w1.heap.size := by omega); (try have hz2 : w.heap.size + 1 + 1 < w1.heap.size := by omega); (try have hz3 : w.heap.size + 1 + 1 + 1 < w1.heap.size := by omega); (try have hz4 : w.heap.size + 1 + 1 + 1 + 1 < w1.heap.size := by omega); (try have hz5 : w.heap.size + 1 + 1 + 1 + 1 + 1 < w1.heap.size := by omega); (try have hz6 : w.heap.size + 1 + 1 + 1 + 1 + 1 + 1 < w1.heap.size := by omega)))
  refine bodyPost_ret (v := .tuple #[.agg #[(.int .i64 (re)), (.int .i64 (le)), (.int .i64 (bl)), (.int .i64 (ma)), (.int .i64 (st + k)), (.int .i64 (lo))], (.int .i64 (0))]) (by simp [results, Tryz.results23, go_sem, *]) rfl ⟨rfl, ?_⟩
  repeat (first | (with_reducible exact Below.refl _ _) | ((with_reducible refine Below.setCell ?_ ?_ _); rotate_left 1; focus (first | (simp; done) | (simp; omega) | (simp at *; omega))) | ((with_reducible refine Below.alloc ?_ ?_ _); rotate_left 1; focus (first | (simp; done) | (simp; omega) | (simp at *; omega))) | (with_reducible refine Below.drew ?_) | ((with_reducible refine Calm.step (by assumption) ?_ ?_); rotate_left 1; focus (first | (simp; done) | (simp; omega) | (simp at *; omega))))
set_option maxHeartbeats 1000000 in
theorem closed_far (re le bl ma st lo k : Int) (w : World) (hL : Lim w) (h : closedErr re le bl ma st lo k = 0) (hs : 5000 < st + k) :
    Calls Tryz.prog 23 #[.agg #[(.int .i64 (re)), (.int .i64 (le)), (.int .i64 (bl)), (.int .i64 (ma)), (.int .i64 (st)), (.int .i64 (lo))], (.int .i64 (k))] w fun r w' => r = .returned (.tuple #[.agg #[(.int .i64 (0)), (.int .i64 (0)), (.int .i64 (0)), (.int .i64 (0)), (.int .i64 (0)), (.int .i64 (0))], (.int .i64 (3))]) ∧ Below w.heap.size w w' := by
  have h1 := firstOf_eq_zero.1 h
  simp only [List.mem_cons, List.not_mem_nil, or_false, forall_eq_or_imp, forall_eq, rangeErr_zero] at h1
  obtain ⟨⟨g1, g2⟩, ⟨g3, g4⟩, ⟨g5, g6⟩, ⟨g7, g8⟩, ⟨g9, g10⟩, ⟨g11, g12⟩⟩ := drvErr_zero h1.1
  obtain ⟨h1a, g13, g14⟩ := h1
  clear h1a
  unfold closedErr at h
  go_enter Tryz.func23, Tryz.ntmps23
  go_wp2_with (first | (go_at_call 31; refine (checkDriver_any _ _ _ _ _ _ _ (hL.below (by repeat (first | (with_reducible exact Below.refl _ _) | ((with_reducible refine Below.setCell ?_ ?_ _); rotate_left 1; focus (first | (simp; done) | (simp; omega) | (simp at *; omega))) | ((with_reducible refine Below.alloc ?_ ?_ _); rotate_left 1; focus (first | (simp; done) | (simp; omega) | (simp at *; omega))) | (with_reducible refine Below.drew ?_) | ((with_reducible refine Calm.step (by assumption) ?_ ?_); rotate_left 1; focus (first | (simp; done) | (simp; omega) | (simp at *; omega))))))).mono ?_; rintro r w1 ⟨rfl, hb⟩; obtain ⟨hc, hf⟩ := bcell hb; have hz := hb.size; (try simp at hz); (try have hz0 : w.heap.size < w1.heap.size := by omega); (try have hz1 : w.heap.size + 1 < w1.heap.size := by omega); (try have hz2 : w.heap.size + 1 + 1 < w1.heap.size := by omega); (try have hz3 : w.heap.size + 1 + 1 + 1 < w1.heap.size := by omega); (try have hz4 : w.heap.size + 1 + 1 + 1 + 1 < w1.heap.size := by omega); (try have hz5 : w.heap.size + 1 + 1 + 1 + 1 + 1 < w1.heap.size := by omega); (try have hz6 : w.heap.size + 1 + 1 + 1 + 1 + 1 + 1 < w1.heap.size := by omega)) | (go_at_call 56; refine (within_any _ _ _ _).mono ?_; rintro r w1 ⟨rfl, rfl⟩) | (go_at_call 53; refine (first2_any _ _ _).mono ?_; rintro r w1 ⟨rfl, rfl⟩) | (go_at_call 49; refine (stiffer_any _ _ _ _ _ _ _ _ ⟨by omega, by omega⟩ ⟨by omega, by omega⟩).mono ?_; rintro r w1 ⟨rfl, hb⟩; obtain ⟨hc, hf⟩ := bcell hb; have hz := hb.size; (try simp at hz); (try have hz0 : w.heap.size < w1.heap.size := by omega); (try have hz1 : w.heap.size + 1 < w1.heap.size := by omega); (try have hz2 : w.heap.size + 1 + 1 < w1.heap.size := by omega); (try have hz3 : w.heap.size + 1 + 1 + 1 < w1.heap.size := by omega); (try have hz4 : w.heap.size + 1 + 1 + 1 + 1 < w1.heap.size := by omega); (try have hz5 : w.heap.size + 1 + 1 + 1 + 1 + 1 < w1.heap.size := by omega); (try have hz6 : w.heap.size + 1 + 1 + 1 + 1 + 1 + 1 < w1.heap.size := by omega)))
  refine bodyPost_ret (v := .tuple #[.agg #[(.int .i64 (0)), (.int .i64 (0)), (.int .i64 (0)), (.int .i64 (0)), (.int .i64 (0)), (.int .i64 (0))], (.int .i64 (3))]) (by simp [results, Tryz.results23, go_sem, *]) rfl ⟨rfl, ?_⟩
  repeat (first | (with_reducible exact Below.refl _ _) | ((with_reducible refine Below.setCell ?_ ?_ _); rotate_left 1; focus (first | (simp; done) | (simp; omega) | (simp at *; omega))) | ((with_reducible refine Below.alloc ?_ ?_ _); rotate_left 1; focus (first | (simp; done) | (simp; omega) | (simp at *; omega))) | (with_reducible refine Below.drew ?_) | ((with_reducible refine Calm.step (by assumption) ?_ ?_); rotate_left 1; focus (first | (simp; done) | (simp; omega) | (simp at *; omega))))
end Go.Proofs.YtadcmjnebjgijaaGreatDoor
