/- Part 4 of the texts of the claim: It1, A5, A6. -/
import Derived.Test.YtpkldjlljoledaaDoorLw3
import Derived.Test.YtpkldjlljoledaaDoorLw1
import Derived.Lib.Hide
import Derived.Shelf.Abstract
import Derived.WalkKit
import Derived.OwnWalkIn
import Derived.TacticsInMore
import Derived.LoopNIn
import Derived.LoopIn
import Derived.Test.YtpkldjlljoledaaDoorLw2

/- Contracts of (Class).drivers and of the iterator that it hands out. -/
namespace Go.Proofs.YtpkldjlljoledaaDoor
open Go.RowKit
open Calm (bcell Blk)

theorem Calm.Blk.set {w : World} {g : Nat} {cs : Array Value} (h : Blk w g cs) {i : Nat} (hi : i < cs.size) (v : Value) : Blk (w.setCell ⟨g, i, none⟩ v) g (cs.setIfInBounds i v) := by
  refine ⟨by simpa using h.lt, fun j => ?_, fun j => by rw [World.frozen?_setCell]; exact h.f j⟩
  by_cases hj : j = i
  · subst hj
    rw [World.cell?_setCell_same' _ _ _ (by rw [h.c]; simp [hi])]
    simp [hi]
  · rw [World.cell?_setCell_other _ _ _ _ (by intro e; cases e; exact hj rfl), h.c]
    rw [Array.getElem?_setIfInBounds_ne (by omega)]
theorem Calm.Blk.of_block {w w' : World} {g : Nat} {cs : Array Value} (h : Blk w g cs) (e : w'.heap[g]? = w.heap[g]?) : Blk w' g cs := by
  refine ⟨?_, fun i => ?_, fun i => ?_⟩
  · have h1 := Array.getElem?_eq_getElem h.lt
    rw [h1] at e
    exact (Array.getElem?_eq_some_iff.1 e).1
  · exact (World.cell?_of_block (w := w) (a := ⟨g, i, none⟩) e).trans (h.c i)
  · exact (World.frozen?_of_block (w := w) (a := ⟨g, i, none⟩) e).trans (h.f i)

theorem drivers_any (re le bl ma st lo m k r : Int) (w : World) :
    Calls Tryd.prog 103 #[.agg #[(.int .i64 (re)), (.int .i64 (le)), (.int .i64 (bl)), (.int .i64 (ma)), (.int .i64 (st)), (.int .i64 (lo)), (.int .i64 (m)), (.int .i64 (k)), (.int .i64 (r))]] w fun e w' => e = .returned (.func (.func 118) #[] #[.pointer (some ⟨w.heap.size, 0, none⟩)]) ∧
      Below w.heap.size w w' ∧ Blk w' w.heap.size #[(.int .i64 (re)), (.int .i64 (le)), (.int .i64 (bl)), (.int .i64 (ma)), (.int .i64 (st)), (.int .i64 (lo)), (.int .i64 (m)), (.int .i64 (k)), (.int .i64 (r))] := by
  go_enter Tryd.func103, Tryd.ntmps103
  go_wp2
  go_ret
  exact ⟨by first | rfl | (simp; done), by (repeat (first | (with_reducible exact Below.refl _ _) | ((with_reducible refine Below.setCell ?_ ?_ _); rotate_left 1; focus (first | (simp; done) | (simp; omega) | (simp at *; omega))) | ((with_reducible refine Below.alloc ?_ ?_ _); rotate_left 1; focus (first | (simp; done) | (simp; omega) | (simp at *; omega))) | (with_reducible refine Below.drew ?_) | ((with_reducible refine Calm.step (by assumption) ?_ ?_); rotate_left 1; focus (first | (simp; done) | (simp; omega) | (simp at *; omega))))), by (repeat (first | ((with_reducible refine Blk.at_ ?_); focus (first | rfl | (simp; done) | (simp; omega))) | (with_reducible refine Blk.alloc ?_ _) | (with_reducible refine Blk.below ?_ (by with_reducible assumption)) | (with_reducible refine Blk.drew ?_)))⟩

/-- a driver of the class as the program hands it over. -/
def encD (re le bl : Int) (x : Int × Int × Int) : Value := .agg #[(.int .i64 (re)), (.int .i64 (le)), (.int .i64 (bl)), (.int .i64 (x.1)), (.int .i64 (x.2.1)), (.int .i64 (x.2.2))]

set_option maxRecDepth 100000 in
set_option maxHeartbeats 4000000 in
theorem drivers1_iter (re le bl ma st lo m k r : Int) (Cb : Nat) (w : World) (n : Nat) (h1 : (1 ≤ ma ∧ ma ≤ 100) ∧ (1 ≤ st ∧ st ≤ 5000) ∧ (1 ≤ lo ∧ lo ≤ 100)) (h2 : m ≤ 100 ∧ k ≤ 5000 ∧ r ≤ 100)
    (hK : Blk w Cb #[(.int .i64 (re)), (.int .i64 (le)), (.int .i64 (bl)), (.int .i64 (ma)), (.int .i64 (st)), (.int .i64 (lo)), (.int .i64 (m)), (.int .i64 (k)), (.int .i64 (r))]) :
    Iter Fence.wide n Tryd.prog 118 #[.pointer (some ⟨Cb, 0, none⟩)] (encD re le bl) (drvs ma st lo m k r) Cb w := by
  intro l J W hCW hCl hle hJa hJs hY h0
  have K := Calm.Blk.of_block hK hCW
  have hne : ¬ W.heap.size = Cb := by omega
  have hne2 : ¬ Cb = W.heap.size := by omega
  have hlt : Cb < W.heap.size := by omega
  have HCW := Lib.hid hCW
  have HJA := Lib.hid hJa
  have HJS := Lib.hid hJs
  have HK := Lib.hid hK
  clear hCW hJa hJs hK
  have c0 := K.cell 0 (.int .i64 (re)) rfl
  have c1 := K.cell 1 (.int .i64 (le)) rfl
  have c2 := K.cell 2 (.int .i64 (bl)) rfl
  have c3 := K.cell 3 (.int .i64 (ma)) rfl
  have c4 := K.cell 4 (.int .i64 (st)) rfl
  have c5 := K.cell 5 (.int .i64 (lo)) rfl
  have c6 := K.cell 6 (.int .i64 (m)) rfl
  have c7 := K.cell 7 (.int .i64 (k)) rfl
  have c8 := K.cell 8 (.int .i64 (r)) rfl
  refine callsIn_of_wp Tryd.func118 rfl trivial ?_ rfl
  simp only [Tryd.ntmps118, List.size_toArray, List.length_cons, List.length_nil, Nat.reduceAdd, Nat.reduceSub, Array.replicate_succ, Array.replicate_zero, List.push_toArray, List.append_toArray, List.nil_append, List.cons_append]
  obtain ⟨M, hM⟩ : ∃ M, M = (m + 1 - ma).toNat := ⟨_, rfl⟩
  obtain ⟨S, hS⟩ : ∃ S, S = (k + 1 - st).toNat := ⟨_, rfl⟩
  obtain ⟨L, hL⟩ : ∃ L, L = (r + 1 - lo).toNat := ⟨_, rfl⟩
  have hall : drvs ma st lo m k r = rowM ma st lo S L M := by rw [hM, hS, hL]; rfl
  rw [hall] at hY ⊢
  have HY := Lib.hid hY
  have HM := Lib.hid hM
  have HS := Lib.hid hS
  have HL := Lib.hid hL
  clear hall hM hS hL hY
  obtain ⟨⟨a1, a2⟩, ⟨a3, a4⟩, ⟨a5, a6⟩⟩ := h1
  obtain ⟨a7, a8, a9⟩ := h2
  have hM2 : (M : Int) ≤ 100 := by have := HM.out; omega
  have hS2 : (S : Int) ≤ 5000 := by have := HS.out; omega
  have hL2 : (L : Int) ≤ 100 := by have := HL.out; omega
  gi_wp2
  gi_loopw [10] (fun _ wr => ∃ (i : Nat) (x y : Int), i ≤ M ∧ Blk wr W.heap.size #[(.int .i64 (re)), (.int .i64 (le)), (.int .i64 (bl)), (.int .i64 (ma + i)), (.int .i64 (x)), (.int .i64 (y))] ∧ J (rowM ma st lo S L i) wr ∧ wr.heap[Cb]? = w.heap[Cb]?) (fun _ wr => (m + 1 - intOf ((wr.cell? ⟨W.heap.size, 3, none⟩).getD undef)).toNat)
  case atStart =>
    exact ⟨0, st, lo, Nat.zero_le _, by simpa using Blk.new _ _ _, by show J [] _; exact HJA.out _ _ _ h0, (Below.heap_alloc _ _ _ hlt).trans HCW.out⟩
  case round =>
    obtain ⟨i, x, y, hi, K1, hJ1, hC1⟩ := hrel
    have Kc1 := Calm.Blk.of_block HK.out hC1
    clear c0 c1 c2 c3 c4 c5 c6 c7 c8
    have d0 := K1.cell 0 (.int .i64 (re)) rfl
    have d1 := K1.cell 1 (.int .i64 (le)) rfl
    have d2 := K1.cell 2 (.int .i64 (bl)) rfl
    have d3 := K1.cell 3 (.int .i64 (ma + i)) rfl
    have d4 := K1.cell 4 (.int .i64 (x)) rfl
    have d5 := K1.cell 5 (.int .i64 (y)) rfl
    have c3 := Kc1.cell 3 (.int .i64 (ma)) rfl
    have c4 := Kc1.cell 4 (.int .i64 (st)) rfl
    have c5 := Kc1.cell 5 (.int .i64 (lo)) rfl
    have c6 := Kc1.cell 6 (.int .i64 (m)) rfl
    have c7 := Kc1.cell 7 (.int .i64 (k)) rfl
    have c8 := Kc1.cell 8 (.int .i64 (r)) rfl
    have df := K1.f
    by_cases hi2 : i < M
    · have hi3 : ma + i ≤ m := by have := HM.out; omega
      gi_wp2
      gi_loopw [23] (fun _ wr => ∃ (j : Nat) (y : Int), j ≤ S ∧ Blk wr W.heap.size #[(.int .i64 (re)), (.int .i64 (le)), (.int .i64 (bl)), (.int .i64 (ma + i)), (.int .i64 (st + j)), (.int .i64 (y))] ∧ J (rowM ma st lo S L i ++ rowS (ma + i) st lo L j) wr ∧ wr.heap[Cb]? = w.heap[Cb]?) (fun _ wr => (k + 1 - intOf ((wr.cell? ⟨W.heap.size, 4, none⟩).getD undef)).toNat)
      case atStart =>
        exact ⟨0, y, Nat.zero_le _, by simpa using K1.set (i := 4) (by simp) (.int .i64 (st)), by have := HJS.out _ _ 4 (.int .i64 (st)) hJ1; simpa [rowS] using this, (Below.heap_setCell _ _ _ _ hne2).trans hC1⟩
      case round =>
        obtain ⟨j, y2, hj, K2, hJ2, hC2⟩ := hrel
        have Kc2 := Calm.Blk.of_block HK.out hC2
        clear d0 d1 d2 d3 d4 d5 df c3 c4 c5 c6 c7 c8
        have d0 := K2.cell 0 (.int .i64 (re)) rfl
        have d1 := K2.cell 1 (.int .i64 (le)) rfl
        have d2 := K2.cell 2 (.int .i64 (bl)) rfl
        have d3 := K2.cell 3 (.int .i64 (ma + i)) rfl
        have d4 := K2.cell 4 (.int .i64 (st + j)) rfl
        have d5 := K2.cell 5 (.int .i64 (y2)) rfl
        have c3 := Kc2.cell 3 (.int .i64 (ma)) rfl
        have c4 := Kc2.cell 4 (.int .i64 (st)) rfl
        have c5 := Kc2.cell 5 (.int .i64 (lo)) rfl
        have c6 := Kc2.cell 6 (.int .i64 (m)) rfl
        have c7 := Kc2.cell 7 (.int .i64 (k)) rfl
        have c8 := Kc2.cell 8 (.int .i64 (r)) rfl
        have df := K2.f
        by_cases hj2 : j < S
        · have hj3 : st + j ≤ k := by have := HS.out; omega
          gi_wp2
          gi_loopw [36] (fun _ wr => ∃ kk : Nat, kk ≤ L ∧ Blk wr W.heap.size #[(.int .i64 (re)), (.int .i64 (le)), (.int .i64 (bl)), (.int .i64 (ma + i)), (.int .i64 (st + j)), (.int .i64 (lo + kk))] ∧ J (rowM ma st lo S L i ++ rowS (ma + i) st lo L j ++ rowL (ma + i) (st + j) lo kk) wr ∧ wr.heap[Cb]? = w.heap[Cb]?) (fun _ wr => (r + 1 - intOf ((wr.cell? ⟨W.heap.size, 5, none⟩).getD undef)).toNat)
          case atStart =>
            exact ⟨0, Nat.zero_le _, by simpa using K2.set (i := 5) (by simp) (.int .i64 (lo)), by have := HJS.out _ _ 5 (.int .i64 (lo)) hJ2; simpa [rowL] using this, (Below.heap_setCell _ _ _ _ hne2).trans hC2⟩
          case round =>
            obtain ⟨kk, hk, K3, hJ3, hC3⟩ := hrel
            have Kc3 := Calm.Blk.of_block HK.out hC3
            clear d0 d1 d2 d3 d4 d5 df c3 c4 c5 c6 c7 c8
            have d0 := K3.cell 0 (.int .i64 (re)) rfl
            have d1 := K3.cell 1 (.int .i64 (le)) rfl
            have d2 := K3.cell 2 (.int .i64 (bl)) rfl
            have d3 := K3.cell 3 (.int .i64 (ma + i)) rfl
            have d4 := K3.cell 4 (.int .i64 (st + j)) rfl
            have d5 := K3.cell 5 (.int .i64 (lo + kk)) rfl
            have c3 := Kc3.cell 3 (.int .i64 (ma)) rfl
            have c4 := Kc3.cell 4 (.int .i64 (st)) rfl
            have c5 := Kc3.cell 5 (.int .i64 (lo)) rfl
            have c6 := Kc3.cell 6 (.int .i64 (m)) rfl
            have c7 := Kc3.cell 7 (.int .i64 (k)) rfl
            have c8 := Kc3.cell 8 (.int .i64 (r)) rfl
            have df := K3.f
            by_cases hk2 : kk < L
            · have hk3 : lo + kk ≤ r := by have := HL.out; omega
              obtain ⟨fn, tmps, assign, body, hy, hR⟩ := HY.out _ (ma + i, st + j, lo + kk) wr hJ3 K3.lt hC3 (row_next ma st lo M S L i j kk hi2 hj2 hk2)
              dsimp only [encD] at hy
              gi_wp2
              refine ⟨fun h => by simp [Fence.wide] at h, hR.mono ?_⟩
              rintro e W3 ⟨rfl, hJ4, hD4, hC4⟩
              have K4 := Calm.Blk.of_block K3 hD4
              have hC5 := hC4.trans hC3
              have e1 : lo + ((kk + 1 : Nat) : Int) = lo + kk + 1 := by omega
              have HE1 := Lib.hid e1
              clear e1 d0 d1 d2 d3 d4 d5 df c3 c4 c5 c6 c7 c8
              have d5 := K4.cell 5 (.int .i64 (lo + kk)) rfl
              have df := K4.f
              gi_wp2
              go_roundw
              case rel =>
                refine ⟨kk + 1, by omega, ?_, ?_, (Below.heap_setCell _ _ _ _ hne2).trans hC5⟩
                · rw [HE1.out]; exact K4.set (i := 5) (by simp) (.int .i64 (lo + kk + 1))
                · rw [rowL_succ, ← List.append_assoc]; exact HJS.out _ _ _ _ hJ4
              case measure =>
                rw [(K4.set (i := 5) (by simp) (.int .i64 (lo + kk + 1))).c 5, K3.c 5]; simp [intOf]; omega
            · obtain rfl : kk = L := by omega
              have hk3 : ¬ lo + kk ≤ r := by have := HL.out; omega
              have e1 : st + ((j + 1 : Nat) : Int) = st + j + 1 := by omega
              have HE1 := Lib.hid e1
              clear e1
              gi_wp2
              go_roundw
              case rel =>
                refine ⟨j + 1, lo + kk, by omega, ?_, ?_, (Below.heap_setCell _ _ _ _ hne2).trans hC3⟩
                · rw [HE1.out]; exact K3.set (i := 4) (by simp) (.int .i64 (st + j + 1))
                · rw [rowS_succ, ← List.append_assoc]; exact HJS.out _ _ _ _ hJ3
              case measure =>
                rw [(K3.set (i := 4) (by simp) (.int .i64 (st + j + 1))).c 4, K2.c 4]; simp [intOf]; omega
        · obtain rfl : j = S := by omega
          have hj3 : ¬ st + j ≤ k := by have := HS.out; omega
          have e1 : ma + ((i + 1 : Nat) : Int) = ma + i + 1 := by omega
          have HE1 := Lib.hid e1
          clear e1
          gi_wp2
          go_roundw
          case rel =>
            refine ⟨i + 1, st + j, y2, by omega, ?_, ?_, (Below.heap_setCell _ _ _ _ hne2).trans hC2⟩
            · rw [HE1.out]; exact K2.set (i := 3) (by simp) (.int .i64 (ma + i + 1))
            · rw [rowM_succ]; exact HJS.out _ _ _ _ hJ2
          case measure =>
            rw [(K2.set (i := 3) (by simp) (.int .i64 (ma + i + 1))).c 3, K1.c 3]; simp [intOf]; omega
    · obtain rfl : i = M := by omega
      have hi3 : ¬ ma + i ≤ m := by have := HM.out; omega
      gi_wp2
      go_end0
      exact ⟨⟨_, rfl⟩, hJ1⟩
end Go.Proofs.YtpkldjlljoledaaDoor

/- Contracts of package driver's checks, continued, and its exported quotients. -/
namespace Go.Proofs.YtpkldjlljoledaaDoor
open Go.RowKit
open Calm (bcell)

theorem first2_any (a b : Int) (W : World) : Calls Tryd.prog 86 #[.slice (some ⟨W.heap.size, 0, none⟩) 2 2] (W.alloc (.cells #[(.int .i64 (a)), (.int .i64 (b))] 27)) fun r w' => r = .returned (.int .i64 (firstOf [a, b])) ∧ W.alloc (.cells #[(.int .i64 (a)), (.int .i64 (b))] 27) = w' :=
  first_any [a, b] W.heap.size 0 2 _ (by simp) fun k hk => by
    have : k = 0 ∨ k = 1 := by simp at hk; omega
    rcases this with rfl | rfl <;> simp
theorem first3_any (a b c : Int) (W : World) : Calls Tryd.prog 86 #[.slice (some ⟨W.heap.size, 0, none⟩) 3 3] (W.alloc (.cells #[(.int .i64 (a)), (.int .i64 (b)), (.int .i64 (c))] 27)) fun r w' => r = .returned (.int .i64 (firstOf [a, b, c])) ∧ W.alloc (.cells #[(.int .i64 (a)), (.int .i64 (b)), (.int .i64 (c))] 27) = w' :=
  first_any [a, b, c] W.heap.size 0 3 _ (by simp) fun k hk => by
    have : k = 0 ∨ k = 1 ∨ k = 2 := by simp at hk; omega
    rcases this with rfl | rfl | rfl <;> simp
theorem first4_any (a b c d : Int) (W : World) : Calls Tryd.prog 86 #[.slice (some ⟨W.heap.size, 0, none⟩) 4 4] (W.alloc (.cells #[(.int .i64 (a)), (.int .i64 (b)), (.int .i64 (c)), (.int .i64 (d))] 27)) fun r w' => r = .returned (.int .i64 (firstOf [a, b, c, d])) ∧ W.alloc (.cells #[(.int .i64 (a)), (.int .i64 (b)), (.int .i64 (c)), (.int .i64 (d))] 27) = w' :=
  first_any [a, b, c, d] W.heap.size 0 4 _ (by simp) fun k hk => by
    have : k = 0 ∨ k = 1 ∨ k = 2 ∨ k = 3 := by simp at hk; omega
    rcases this with rfl | rfl | rfl | rfl <;> simp

/-- the first error of a driver and a frequency. -/
def drvnErr (re le bl ma st lo w : Int) : Int := firstOf [drvErr re le bl ma st lo, rangeErr w 1 8]
theorem checkDriven_any (re le bl ma st lo w0 : Int) (w : World) (hL : Lim w) :
    Calls Tryd.prog 72 #[.agg #[(.int .i64 (re)), (.int .i64 (le)), (.int .i64 (bl)), (.int .i64 (ma)), (.int .i64 (st)), (.int .i64 (lo))], (.int .i64 (w0))] w fun r w' => r = .returned (.int .i64 (drvnErr re le bl ma st lo w0)) ∧ Below w.heap.size w w' := by
  go_enter Tryd.func72, Tryd.ntmps72
  go_wp2_with (first | (go_at_call 23; refine (checkDriver_any _ _ _ _ _ _ _ (hL.below (by repeat (first | (with_reducible exact Below.refl _ _) | ((with_reducible refine Below.setCell ?_ ?_ _); rotate_left 1; focus (first | (simp; done) | (simp; omega) | (simp at *; omega))) | ((with_reducible refine Below.alloc ?_ ?_ _); rotate_left 1; focus (first | (simp; done) | (simp; omega) | (simp at *; omega))) | (with_reducible refine Below.drew ?_) | ((with_reducible refine Calm.step (by assumption) ?_ ?_); rotate_left 1; focus (first | (simp; done) | (simp; omega) | (simp at *; omega))))))).mono ?_; rintro r w1 ⟨rfl, hb⟩; obtain ⟨hc, hf⟩ := bcell hb; have hz := hb.size; (try simp at hz); (try have hz0 : w.heap.size < w1.heap.size := by omega); (try have hz1 : w.heap.size + 1 < w1.heap.size := by omega); (try have hz2 : w.heap.size + 1 + 1 < w1.heap.size := by omega); (try have hz3 : w.heap.size + 1 + 1 + 1 < w1.heap.size := by omega); (try have hz4 : w.heap.size + 1 + 1 + 1 + 1 < w1.heap.size := by omega); (try have hz5 : w.heap.size + 1 + 1 + 1 + 1 + 1 < w1.heap.size := by omega); (try have hz6 : w.heap.size + 1 + 1 + 1 + 1 + 1 + 1 < w1.heap.size := by omega)) | (go_at_call 97; refine (checkW_any _ _).mono ?_; rintro r w1 ⟨rfl, rfl⟩) | (go_at_call 86; refine (first2_any _ _ _).mono ?_; rintro r w1 ⟨rfl, rfl⟩))
  go_ret
  refine ⟨rfl, ?_⟩
  repeat (first | (with_reducible exact Below.refl _ _) | ((with_reducible refine Below.setCell ?_ ?_ _); rotate_left 1; focus (first | (simp; done) | (simp; omega) | (simp at *; omega))) | ((with_reducible refine Below.alloc ?_ ?_ _); rotate_left 1; focus (first | (simp; done) | (simp; omega) | (simp at *; omega))) | (with_reducible refine Below.drew ?_) | ((with_reducible refine Calm.step (by assumption) ?_ ?_); rotate_left 1; focus (first | (simp; done) | (simp; omega) | (simp at *; omega))))

/-- the first error of a box. -/
def boxErr (air ma st lo : Int) : Int :=
  if rangeErr air 1 5000 = 0 then (if ma = 0 then (if st = 0 ∧ lo = 0 then 0 else 2) else firstOf [rangeErr ma 1 100, rangeErr st 0 5000, rangeErr lo 1 100]) else rangeErr air 1 5000
theorem checkBox_any (air ma st lo : Int) (w : World) :
    Calls Tryd.prog 34 #[.agg #[(.int .i64 (air)), (.int .i64 (ma)), (.int .i64 (st)), (.int .i64 (lo))]] w fun r w' => r = .returned (.int .i64 (boxErr air ma st lo)) ∧ Below w.heap.size w w' := by
  rcases rangeErr_cases air 1 5000 with ⟨h0, _, _⟩ | ⟨h0, _⟩
  · by_cases hm : ma = 0
    · subst hm
      by_cases hs : st = 0
      · subst hs
        by_cases hl : lo = 0
        · subst hl
          go_enter Tryd.func34, Tryd.ntmps34
          go_wp2_with (first | (go_at_call 80; refine (within_any _ _ _ _).mono ?_; rintro r w1 ⟨rfl, rfl⟩) | (go_at_call 87; refine (when_any _ _ _).mono ?_; rintro r w2 ⟨rfl, rfl⟩))
          go_ret
          refine ⟨ret_i (by simp [boxErr, h0]), ?_⟩
          repeat (first | (with_reducible exact Below.refl _ _) | ((with_reducible refine Below.setCell ?_ ?_ _); rotate_left 1; focus (first | (simp; done) | (simp; omega) | (simp at *; omega))) | ((with_reducible refine Below.alloc ?_ ?_ _); rotate_left 1; focus (first | (simp; done) | (simp; omega) | (simp at *; omega))) | (with_reducible refine Below.drew ?_) | ((with_reducible refine Calm.step (by assumption) ?_ ?_); rotate_left 1; focus (first | (simp; done) | (simp; omega) | (simp at *; omega))))
        · go_enter Tryd.func34, Tryd.ntmps34
          go_wp2_with (first | (go_at_call 80; refine (within_any _ _ _ _).mono ?_; rintro r w1 ⟨rfl, rfl⟩) | (go_at_call 87; refine (when_any _ _ _).mono ?_; rintro r w2 ⟨rfl, rfl⟩))
          go_ret
          refine ⟨ret_i (by simp [boxErr, h0, hl]), ?_⟩
          repeat (first | (with_reducible exact Below.refl _ _) | ((with_reducible refine Below.setCell ?_ ?_ _); rotate_left 1; focus (first | (simp; done) | (simp; omega) | (simp at *; omega))) | ((with_reducible refine Below.alloc ?_ ?_ _); rotate_left 1; focus (first | (simp; done) | (simp; omega) | (simp at *; omega))) | (with_reducible refine Below.drew ?_) | ((with_reducible refine Calm.step (by assumption) ?_ ?_); rotate_left 1; focus (first | (simp; done) | (simp; omega) | (simp at *; omega))))
      · go_enter Tryd.func34, Tryd.ntmps34
        go_wp2_with (first | (go_at_call 80; refine (within_any _ _ _ _).mono ?_; rintro r w1 ⟨rfl, rfl⟩) | (go_at_call 87; refine (when_any _ _ _).mono ?_; rintro r w2 ⟨rfl, rfl⟩))
        go_ret
        refine ⟨ret_i (by simp [boxErr, h0, hs]), ?_⟩
        repeat (first | (with_reducible exact Below.refl _ _) | ((with_reducible refine Below.setCell ?_ ?_ _); rotate_left 1; focus (first | (simp; done) | (simp; omega) | (simp at *; omega))) | ((with_reducible refine Below.alloc ?_ ?_ _); rotate_left 1; focus (first | (simp; done) | (simp; omega) | (simp at *; omega))) | (with_reducible refine Below.drew ?_) | ((with_reducible refine Calm.step (by assumption) ?_ ?_); rotate_left 1; focus (first | (simp; done) | (simp; omega) | (simp at *; omega))))
    · go_enter Tryd.func34, Tryd.ntmps34
      go_wp2_with (first | (go_at_call 80; refine (within_any _ _ _ _).mono ?_; rintro r w1 ⟨rfl, rfl⟩))
      refine Calm.tail_below 9 (by kernel_rfl) (by kernel_rfl) ?_
      simp only [List.take_succ_cons, List.take_zero, List.drop_succ_cons, List.drop_zero]
      repeat (first | (first | (apply Calm.op_move; (focus rfl); (focus (first | exact .inl rfl | exact .inr rfl)); (focus ((try simp only [Act.eval, Array.getD_eq_getD_getElem?, List.getElem?_toArray, List.getElem?_cons_succ, List.getElem?_cons_zero, Option.getD_some]); rfl)); (try simp only [Act.put, List.setIfInBounds_toArray, List.set_cons_zero, List.set_cons_succ])) | (apply Calm.op_not; (focus rfl); (try simp only [Act.put, List.setIfInBounds_toArray, List.set_cons_zero, List.set_cons_succ])) | (apply Calm.op; (focus rfl); (focus (intro W hb; obtain ⟨hc, hf⟩ := bcell hb; clear hb hf; go_simp; (try go_bits); (try rfl); done)); (try simp only [Act.put, List.setIfInBounds_toArray, List.set_cons_zero, List.set_cons_succ]))) | (apply Calm.op_call; (focus rfl); (focus (intro W hb; obtain ⟨hc, hf⟩ := bcell hb; clear hb hf; go_simp; refine ⟨?_, ?_⟩; rfl; rfl)); (focus (intro W hb; first | (go_at_call 80; exact Calm.call_same hb (within_any _ _ _ _)))); (try simp only [Act.put, List.setIfInBounds_toArray, List.set_cons_zero, List.set_cons_succ])))
      refine wpQuiet_nil ?_
      intro w1 hb
      obtain ⟨hbc, hbf⟩ := bcell hb
      have hbz := hb.size
      (try simp at hbz)
      (try have hbz0 : w.heap.size < w1.heap.size := by omega)
      (try have hbz1 : w.heap.size + 1 < w1.heap.size := by omega)
      (try have hbz2 : w.heap.size + 1 + 1 < w1.heap.size := by omega)
      (try have hbz3 : w.heap.size + 1 + 1 + 1 < w1.heap.size := by omega)
      (try have hbz4 : w.heap.size + 1 + 1 + 1 + 1 < w1.heap.size := by omega)
      (try have hbz5 : w.heap.size + 1 + 1 + 1 + 1 + 1 < w1.heap.size := by omega)
      go_wp2_with (go_at_call 86; refine (first3_any _ _ _ _).mono ?_; rintro r w2 ⟨rfl, rfl⟩)
      go_ret
      refine ⟨ret_i (by simp [boxErr, h0, hm]), ?_⟩
      repeat (first | (with_reducible exact Below.refl _ _) | ((with_reducible refine Below.setCell ?_ ?_ _); rotate_left 1; focus (first | (simp; done) | (simp; omega) | (simp at *; omega))) | ((with_reducible refine Below.alloc ?_ ?_ _); rotate_left 1; focus (first | (simp; done) | (simp; omega) | (simp at *; omega))) | (with_reducible refine Below.drew ?_) | ((with_reducible refine Calm.step (by assumption) ?_ ?_); rotate_left 1; focus (first | (simp; done) | (simp; omega) | (simp at *; omega))))
  · go_enter Tryd.func34, Tryd.ntmps34
    go_wp2_with (first | (go_at_call 80; refine (within_any _ _ _ _).mono ?_; rintro r w1 ⟨rfl, rfl⟩))
    go_ret
    refine ⟨ret_i (by simp [boxErr, h0]), ?_⟩
    repeat (first | (with_reducible exact Below.refl _ _) | ((with_reducible refine Below.setCell ?_ ?_ _); rotate_left 1; focus (first | (simp; done) | (simp; omega) | (simp at *; omega))) | ((with_reducible refine Below.alloc ?_ ?_ _); rotate_left 1; focus (first | (simp; done) | (simp; omega) | (simp at *; omega))) | (with_reducible refine Below.drew ?_) | ((with_reducible refine Calm.step (by assumption) ?_ ?_); rotate_left 1; focus (first | (simp; done) | (simp; omega) | (simp at *; omega))))
end Go.Proofs.YtpkldjlljoledaaDoor

/- Contracts of package driver's exported quotients. -/
namespace Go.Proofs.YtpkldjlljoledaaDoor
open Go.RowKit
open Calm (bcell)

theorem firstOf_eq_zero {l : List Int} : firstOf l = 0 ↔ ∀ x ∈ l, x = 0 := by
  induction l with
  | nil => simp [firstOf]
  | cons x l ih =>
    by_cases h : x = 0
    · subst h
      rw [show firstOf (0 :: l) = firstOf l from by simp [firstOf], ih]
      simp
    · rw [show firstOf (x :: l) = x from by simp [firstOf, h]]
      simp [h]
theorem drvErr_zero {re le bl ma st lo : Int} (h : drvErr re le bl ma st lo = 0) : (1 ≤ re ∧ re ≤ 50) ∧ (0 ≤ le ∧ le ≤ 10) ∧ (1 ≤ bl ∧ bl ≤ 20) ∧ (1 ≤ ma ∧ ma ≤ 100) ∧ (1 ≤ st ∧ st ≤ 5000) ∧ (1 ≤ lo ∧ lo ≤ 100) := by
  have h1 := firstOf_eq_zero.1 h
  simp only [drvErrs, List.mem_cons, List.not_mem_nil, or_false, forall_eq_or_imp, forall_eq, rangeErr_zero] at h1
  exact h1
theorem drvErr_of {re le bl ma st lo : Int} (h : (1 ≤ re ∧ re ≤ 50) ∧ (0 ≤ le ∧ le ≤ 10) ∧ (1 ≤ bl ∧ bl ≤ 20) ∧ (1 ≤ ma ∧ ma ≤ 100) ∧ (1 ≤ st ∧ st ≤ 5000) ∧ (1 ≤ lo ∧ lo ≤ 100)) : drvErr re le bl ma st lo = 0 := by
  refine firstOf_eq_zero.2 ?_
  simp only [drvErrs, List.mem_cons, List.not_mem_nil, or_false, forall_eq_or_imp, forall_eq, rangeErr_zero]
  exact h
theorem drvn_zero {re le bl ma st lo w0 : Int} (h : drvnErr re le bl ma st lo w0 = 0) : drvErr re le bl ma st lo = 0 ∧ 1 ≤ w0 ∧ w0 ≤ 8 := by
  have h1 := firstOf_eq_zero.1 h
  simp only [List.mem_cons, List.not_mem_nil, or_false, forall_eq_or_imp, forall_eq, rangeErr_zero] at h1
  exact h1
theorem drvn_fit {re le bl ma st lo w0 : Int} (h : drvnErr re le bl ma st lo w0 = 0) : Fit re le bl ma st lo w0 := by
  obtain ⟨h1, h2⟩ := drvn_zero h
  obtain ⟨a1, a2, a3, a4, a5, a6⟩ := drvErr_zero h1
  exact ⟨a1, a2, a3, a4, ⟨a5.1, by omega⟩, a6, h2⟩

theorem Mechanics_ok (re le bl ma st lo w0 : Int) (w : World) (hL : Lim w) (h : drvnErr re le bl ma st lo w0 = 0) :
    Calls Tryd.prog 12 #[.agg #[(.int .i64 (re)), (.int .i64 (le)), (.int .i64 (bl)), (.int .i64 (ma)), (.int .i64 (st)), (.int .i64 (lo))], (.int .i64 (w0))] w fun r w' => r = .returned (.tuple #[.agg #[(.int .i64 (mRe st ma w0)), (.int .i64 (mIm lo w0))], (.int .i64 (0))]) ∧ Below w.heap.size w w' := by
  have hF := drvn_fit h
  go_enter Tryd.func12, Tryd.ntmps12
  go_wp2_with (first | (go_at_call 72; refine (checkDriven_any _ _ _ _ _ _ _ _ (hL.below (by repeat (first | (with_reducible exact Below.refl _ _) | ((with_reducible refine Below.setCell ?_ ?_ _); rotate_left 1; focus (first | (simp; done) | (simp; omega) | (simp at *; omega))) | ((with_reducible refine Below.alloc ?_ ?_ _); rotate_left 1; focus (first | (simp; done) | (simp; omega) | (simp at *; omega))) | (with_reducible refine Below.drew ?_) | ((with_reducible refine Calm.step (by assumption) ?_ ?_); rotate_left 1; focus (first | (simp; done) | (simp; omega) | (simp at *; omega))))))).mono ?_; rintro r w1 ⟨rfl, hb⟩; obtain ⟨hc, hf⟩ := bcell hb; have hz := hb.size; (try simp at hz); (try have hz0 : w.heap.size < w1.heap.size := by omega); (try have hz1 : w.heap.size + 1 < w1.heap.size := by omega); (try have hz2 : w.heap.size + 1 + 1 < w1.heap.size := by omega); (try have hz3 : w.heap.size + 1 + 1 + 1 < w1.heap.size := by omega); (try have hz4 : w.heap.size + 1 + 1 + 1 + 1 < w1.heap.size := by omega); (try have hz5 : w.heap.size + 1 + 1 + 1 + 1 + 1 < w1.heap.size := by omega); (try have hz6 : w.heap.size + 1 + 1 + 1 + 1 + 1 + 1 < w1.heap.size := by omega)) | (go_at_call 73; refine (mechanics_any _ _ _ _ _ _ _ _ hF).mono ?_; rintro r w1 ⟨rfl, hb⟩; obtain ⟨hc, hf⟩ := bcell hb; have hz := hb.size; (try simp at hz); (try have hz0 : w.heap.size < w1.heap.size := by omega); (try have hz1 : w.heap.size + 1 < w1.heap.size := by omega); (try have hz2 : w.heap.size + 1 + 1 < w1.heap.size := by omega); (try have hz3 : w.heap.size + 1 + 1 + 1 < w1.heap.size := by omega); (try have hz4 : w.heap.size + 1 + 1 + 1 + 1 < w1.heap.size := by omega); (try have hz5 : w.heap.size + 1 + 1 + 1 + 1 + 1 < w1.heap.size := by omega); (try have hz6 : w.heap.size + 1 + 1 + 1 + 1 + 1 + 1 < w1.heap.size := by omega)))
  refine bodyPost_ret (v := .tuple #[.agg #[(.int .i64 (mRe st ma w0)), (.int .i64 (mIm lo w0))], (.int .i64 (0))]) (by simp [results, Tryd.results12, go_sem, *]) rfl ⟨rfl, ?_⟩
  repeat (first | (with_reducible exact Below.refl _ _) | ((with_reducible refine Below.setCell ?_ ?_ _); rotate_left 1; focus (first | (simp; done) | (simp; omega) | (simp at *; omega))) | ((with_reducible refine Below.alloc ?_ ?_ _); rotate_left 1; focus (first | (simp; done) | (simp; omega) | (simp at *; omega))) | (with_reducible refine Below.drew ?_) | ((with_reducible refine Calm.step (by assumption) ?_ ?_); rotate_left 1; focus (first | (simp; done) | (simp; omega) | (simp at *; omega))))
theorem Mechanics_bad (re le bl ma st lo w0 : Int) (w : World) (hL : Lim w) (h : drvnErr re le bl ma st lo w0 ≠ 0) :
    Calls Tryd.prog 12 #[.agg #[(.int .i64 (re)), (.int .i64 (le)), (.int .i64 (bl)), (.int .i64 (ma)), (.int .i64 (st)), (.int .i64 (lo))], (.int .i64 (w0))] w fun r w' => r = .returned (.tuple #[.agg #[(.int .i64 (0)), (.int .i64 (0))], (.int .i64 (drvnErr re le bl ma st lo w0))]) ∧ Below w.heap.size w w' := by
  go_enter Tryd.func12, Tryd.ntmps12
  go_wp2_with (first | (go_at_call 72; refine (checkDriven_any _ _ _ _ _ _ _ _ (hL.below (by repeat (first | (with_reducible exact Below.refl _ _) | ((with_reducible refine Below.setCell ?_ ?_ _); rotate_left 1; focus (first | (simp; done) | (simp; omega) | (simp at *; omega))) | ((with_reducible refine Below.alloc ?_ ?_ _); rotate_left 1; focus (first | (simp; done) | (simp; omega) | (simp at *; omega))) | (with_reducible refine Below.drew ?_) | ((with_reducible refine Calm.step (by assumption) ?_ ?_); rotate_left 1; focus (first | (simp; done) | (simp; omega) | (simp at *; omega))))))).mono ?_; rintro r w1 ⟨rfl, hb⟩; obtain ⟨hc, hf⟩ := bcell hb; have hz := hb.size; (try simp at hz); (try have hz0 : w.heap.size < w1.heap.size := by omega); (try have hz1 : w.heap.size + 1 < w1.heap.size := by omega); (try have hz2 : w.heap.size + 1 + 1 < w1.heap.size := by omega); (try have hz3 : w.heap.size + 1 + 1 + 1 < w1.heap.size := by omega); (try have hz4 : w.heap.size + 1 + 1 + 1 + 1 < w1.heap.size := by omega); (try have hz5 : w.heap.size + 1 + 1 + 1 + 1 + 1 < w1.heap.size := by omega); (try have hz6 : w.heap.size + 1 + 1 + 1 + 1 + 1 + 1 < w1.heap.size := by omega)))
  refine bodyPost_ret (v := .tuple #[.agg #[(.int .i64 (0)), (.int .i64 (0))], (.int .i64 (drvnErr re le bl ma st lo w0))]) (by simp [results, Tryd.results12, go_sem, *]) rfl ⟨rfl, ?_⟩
  repeat (first | (with_reducible exact Below.refl _ _) | ((with_reducible refine Below.setCell ?_ ?_ _); rotate_left 1; focus (first | (simp; done) | (simp; omega) | (simp at *; omega))) | ((with_reducible refine Below.alloc ?_ ?_ _); rotate_left 1; focus (first | (simp; done) | (simp; omega) | (simp at *; omega))) | (with_reducible refine Below.drew ?_) | ((with_reducible refine Calm.step (by assumption) ?_ ?_); rotate_left 1; focus (first | (simp; done) | (simp; omega) | (simp at *; omega))))
theorem asked_bad (re le bl ma st lo w0 : Int) (f : FuncId) (w : World) (hL : Lim w) (h : drvnErr re le bl ma st lo w0 ≠ 0) :
    Calls Tryd.prog 74 #[.agg #[(.int .i64 (re)), (.int .i64 (le)), (.int .i64 (bl)), (.int .i64 (ma)), (.int .i64 (st)), (.int .i64 (lo))], (.int .i64 (w0)), .func (.func f) #[.agg #[(.int .i64 (re)), (.int .i64 (le)), (.int .i64 (bl)), (.int .i64 (ma)), (.int .i64 (st)), (.int .i64 (lo))]] #[]] w fun r w' => r = .returned (.tuple #[.agg #[(.int .i64 (0)), (.int .i64 (0)), (.int .i64 (0)), (.int .i64 (0))], (.int .i64 (drvnErr re le bl ma st lo w0))]) ∧ Below w.heap.size w w' := by
  go_enter Tryd.func74, Tryd.ntmps74
  go_wp2_with (first | (go_at_call 72; refine (checkDriven_any _ _ _ _ _ _ _ _ (hL.below (by repeat (first | (with_reducible exact Below.refl _ _) | ((with_reducible refine Below.setCell ?_ ?_ _); rotate_left 1; focus (first | (simp; done) | (simp; omega) | (simp at *; omega))) | ((with_reducible refine Below.alloc ?_ ?_ _); rotate_left 1; focus (first | (simp; done) | (simp; omega) | (simp at *; omega))) | (with_reducible refine Below.drew ?_) | ((with_reducible refine Calm.step (by assumption) ?_ ?_); rotate_left 1; focus (first | (simp; done) | (simp; omega) | (simp at *; omega))))))).mono ?_; rintro r w1 ⟨rfl, hb⟩; obtain ⟨hc, hf⟩ := bcell hb; have hz := hb.size; (try simp at hz); (try have hz0 : w.heap.size < w1.heap.size := by omega); (try have hz1 : w.heap.size + 1 < w1.heap.size := by omega); (try have hz2 : w.heap.size + 1 + 1 < w1.heap.size := by omega); (try have hz3 : w.heap.size + 1 + 1 + 1 < w1.heap.size := by omega); (try have hz4 : w.heap.size + 1 + 1 + 1 + 1 < w1.heap.size := by omega); (try have hz5 : w.heap.size + 1 + 1 + 1 + 1 + 1 < w1.heap.size := by omega); (try have hz6 : w.heap.size + 1 + 1 + 1 + 1 + 1 + 1 < w1.heap.size := by omega)))
  refine bodyPost_ret (v := .tuple #[.agg #[(.int .i64 (0)), (.int .i64 (0)), (.int .i64 (0)), (.int .i64 (0))], (.int .i64 (drvnErr re le bl ma st lo w0))]) (by simp [results, Tryd.results74, go_sem, *]) rfl ⟨rfl, ?_⟩
  repeat (first | (with_reducible exact Below.refl _ _) | ((with_reducible refine Below.setCell ?_ ?_ _); rotate_left 1; focus (first | (simp; done) | (simp; omega) | (simp at *; omega))) | ((with_reducible refine Below.alloc ?_ ?_ _); rotate_left 1; focus (first | (simp; done) | (simp; omega) | (simp at *; omega))) | (with_reducible refine Below.drew ?_) | ((with_reducible refine Calm.step (by assumption) ?_ ?_); rotate_left 1; focus (first | (simp; done) | (simp; omega) | (simp at *; omega))))
theorem askedImpedance_ok (re le bl ma st lo w0 : Int) (w : World) (hL : Lim w) (h : drvnErr re le bl ma st lo w0 = 0) :
    Calls Tryd.prog 74 #[.agg #[(.int .i64 (re)), (.int .i64 (le)), (.int .i64 (bl)), (.int .i64 (ma)), (.int .i64 (st)), (.int .i64 (lo))], (.int .i64 (w0)), .func (.func 75) #[.agg #[(.int .i64 (re)), (.int .i64 (le)), (.int .i64 (bl)), (.int .i64 (ma)), (.int .i64 (st)), (.int .i64 (lo))]] #[]] w fun r w' => r = .returned (.tuple #[.agg #[(.int .i64 (nRe re le bl ma st lo w0)), (.int .i64 (nIm re le bl ma st lo w0)), (.int .i64 (mRe st ma w0)), (.int .i64 (mIm lo w0))], (.int .i64 (0))]) ∧ Below w.heap.size w w' := by
  have hF := drvn_fit h
  go_enter Tryd.func74, Tryd.ntmps74
  go_wp2_with (first | (go_at_call 72; refine (checkDriven_any _ _ _ _ _ _ _ _ (hL.below (by repeat (first | (with_reducible exact Below.refl _ _) | ((with_reducible refine Below.setCell ?_ ?_ _); rotate_left 1; focus (first | (simp; done) | (simp; omega) | (simp at *; omega))) | ((with_reducible refine Below.alloc ?_ ?_ _); rotate_left 1; focus (first | (simp; done) | (simp; omega) | (simp at *; omega))) | (with_reducible refine Below.drew ?_) | ((with_reducible refine Calm.step (by assumption) ?_ ?_); rotate_left 1; focus (first | (simp; done) | (simp; omega) | (simp at *; omega))))))).mono ?_; rintro r w1 ⟨rfl, hb⟩; obtain ⟨hc, hf⟩ := bcell hb; have hz := hb.size; (try simp at hz); (try have hz0 : w.heap.size < w1.heap.size := by omega); (try have hz1 : w.heap.size + 1 < w1.heap.size := by omega); (try have hz2 : w.heap.size + 1 + 1 < w1.heap.size := by omega); (try have hz3 : w.heap.size + 1 + 1 + 1 < w1.heap.size := by omega); (try have hz4 : w.heap.size + 1 + 1 + 1 + 1 < w1.heap.size := by omega); (try have hz5 : w.heap.size + 1 + 1 + 1 + 1 + 1 < w1.heap.size := by omega); (try have hz6 : w.heap.size + 1 + 1 + 1 + 1 + 1 + 1 < w1.heap.size := by omega)) | (go_at_call 75; refine (impedance_any _ _ _ _ _ _ _ _ hF).mono ?_; rintro r w1 ⟨rfl, hb⟩; obtain ⟨hc, hf⟩ := bcell hb; have hz := hb.size; (try simp at hz); (try have hz0 : w.heap.size < w1.heap.size := by omega); (try have hz1 : w.heap.size + 1 < w1.heap.size := by omega); (try have hz2 : w.heap.size + 1 + 1 < w1.heap.size := by omega); (try have hz3 : w.heap.size + 1 + 1 + 1 < w1.heap.size := by omega); (try have hz4 : w.heap.size + 1 + 1 + 1 + 1 < w1.heap.size := by omega); (try have hz5 : w.heap.size + 1 + 1 + 1 + 1 + 1 < w1.heap.size := by omega); (try have hz6 : w.heap.size + 1 + 1 + 1 + 1 + 1 + 1 < w1.heap.size := by omega)))
  refine bodyPost_ret (v := .tuple #[.agg #[(.int .i64 (nRe re le bl ma st lo w0)), (.int .i64 (nIm re le bl ma st lo w0)), (.int .i64 (mRe st ma w0)), (.int .i64 (mIm lo w0))], (.int .i64 (0))]) (by simp [results, Tryd.results74, go_sem, *]) rfl ⟨rfl, ?_⟩
  repeat (first | (with_reducible exact Below.refl _ _) | ((with_reducible refine Below.setCell ?_ ?_ _); rotate_left 1; focus (first | (simp; done) | (simp; omega) | (simp at *; omega))) | ((with_reducible refine Below.alloc ?_ ?_ _); rotate_left 1; focus (first | (simp; done) | (simp; omega) | (simp at *; omega))) | (with_reducible refine Below.drew ?_) | ((with_reducible refine Calm.step (by assumption) ?_ ?_); rotate_left 1; focus (first | (simp; done) | (simp; omega) | (simp at *; omega))))
theorem Impedance_ok (re le bl ma st lo w0 : Int) (w : World) (hL : Lim w) (h : drvnErr re le bl ma st lo w0 = 0) :
    Calls Tryd.prog 13 #[.agg #[(.int .i64 (re)), (.int .i64 (le)), (.int .i64 (bl)), (.int .i64 (ma)), (.int .i64 (st)), (.int .i64 (lo))], (.int .i64 (w0))] w fun r w' => r = .returned (.tuple #[.agg #[(.int .i64 (nRe re le bl ma st lo w0)), (.int .i64 (nIm re le bl ma st lo w0)), (.int .i64 (mRe st ma w0)), (.int .i64 (mIm lo w0))], (.int .i64 (0))]) ∧ Below w.heap.size w w' := by
  go_enter Tryd.func13, Tryd.ntmps13
  go_wp2_with (first | (go_at_call 74; refine (askedImpedance_ok _ _ _ _ _ _ _ _ (hL.below (by repeat (first | (with_reducible exact Below.refl _ _) | ((with_reducible refine Below.setCell ?_ ?_ _); rotate_left 1; focus (first | (simp; done) | (simp; omega) | (simp at *; omega))) | ((with_reducible refine Below.alloc ?_ ?_ _); rotate_left 1; focus (first | (simp; done) | (simp; omega) | (simp at *; omega))) | (with_reducible refine Below.drew ?_) | ((with_reducible refine Calm.step (by assumption) ?_ ?_); rotate_left 1; focus (first | (simp; done) | (simp; omega) | (simp at *; omega)))))) h).mono ?_; rintro r w1 ⟨rfl, hb⟩; obtain ⟨hc, hf⟩ := bcell hb; have hz := hb.size; (try simp at hz); (try have hz0 : w.heap.size < w1.heap.size := by omega); (try have hz1 : w.heap.size + 1 < w1.heap.size := by omega); (try have hz2 : w.heap.size + 1 + 1 < w1.heap.size := by omega); (try have hz3 : w.heap.size + 1 + 1 + 1 < w1.heap.size := by omega); (try have hz4 : w.heap.size + 1 + 1 + 1 + 1 < w1.heap.size := by omega); (try have hz5 : w.heap.size + 1 + 1 + 1 + 1 + 1 < w1.heap.size := by omega); (try have hz6 : w.heap.size + 1 + 1 + 1 + 1 + 1 + 1 < w1.heap.size := by omega)))
  refine bodyPost_ret (v := .tuple #[.agg #[(.int .i64 (nRe re le bl ma st lo w0)), (.int .i64 (nIm re le bl ma st lo w0)), (.int .i64 (mRe st ma w0)), (.int .i64 (mIm lo w0))], (.int .i64 (0))]) (by simp [results, Tryd.results13, go_sem, *]) rfl ⟨rfl, ?_⟩
  repeat (first | (with_reducible exact Below.refl _ _) | ((with_reducible refine Below.setCell ?_ ?_ _); rotate_left 1; focus (first | (simp; done) | (simp; omega) | (simp at *; omega))) | ((with_reducible refine Below.alloc ?_ ?_ _); rotate_left 1; focus (first | (simp; done) | (simp; omega) | (simp at *; omega))) | (with_reducible refine Below.drew ?_) | ((with_reducible refine Calm.step (by assumption) ?_ ?_); rotate_left 1; focus (first | (simp; done) | (simp; omega) | (simp at *; omega))))
theorem Impedance_bad (re le bl ma st lo w0 : Int) (w : World) (hL : Lim w) (h : drvnErr re le bl ma st lo w0 ≠ 0) :
    Calls Tryd.prog 13 #[.agg #[(.int .i64 (re)), (.int .i64 (le)), (.int .i64 (bl)), (.int .i64 (ma)), (.int .i64 (st)), (.int .i64 (lo))], (.int .i64 (w0))] w fun r w' => r = .returned (.tuple #[.agg #[(.int .i64 (0)), (.int .i64 (0)), (.int .i64 (0)), (.int .i64 (0))], (.int .i64 (drvnErr re le bl ma st lo w0))]) ∧ Below w.heap.size w w' := by
  go_enter Tryd.func13, Tryd.ntmps13
  go_wp2_with (first | (go_at_call 74; refine (asked_bad _ _ _ _ _ _ _ _ _ (hL.below (by repeat (first | (with_reducible exact Below.refl _ _) | ((with_reducible refine Below.setCell ?_ ?_ _); rotate_left 1; focus (first | (simp; done) | (simp; omega) | (simp at *; omega))) | ((with_reducible refine Below.alloc ?_ ?_ _); rotate_left 1; focus (first | (simp; done) | (simp; omega) | (simp at *; omega))) | (with_reducible refine Below.drew ?_) | ((with_reducible refine Calm.step (by assumption) ?_ ?_); rotate_left 1; focus (first | (simp; done) | (simp; omega) | (simp at *; omega)))))) h).mono ?_; rintro r w1 ⟨rfl, hb⟩; obtain ⟨hc, hf⟩ := bcell hb; have hz := hb.size; (try simp at hz); (try have hz0 : w.heap.size < w1.heap.size := by omega); (try have hz1 : w.heap.size + 1 < w1.heap.size := by omega); (try have hz2 : w.heap.size + 1 + 1 < w1.heap.size := by omega); (try have hz3 : w.heap.size + 1 + 1 + 1 < w1.heap.size := by omega); (try have hz4 : w.heap.size + 1 + 1 + 1 + 1 < w1.heap.size := by omega); (try have hz5 : w.heap.size + 1 + 1 + 1 + 1 + 1 < w1.heap.size := by omega); (try have hz6 : w.heap.size + 1 + 1 + 1 + 1 + 1 + 1 < w1.heap.size := by omega)))
  refine bodyPost_ret (v := .tuple #[.agg #[(.int .i64 (0)), (.int .i64 (0)), (.int .i64 (0)), (.int .i64 (0))], (.int .i64 (drvnErr re le bl ma st lo w0))]) (by simp [results, Tryd.results13, go_sem, *]) rfl ⟨rfl, ?_⟩
  repeat (first | (with_reducible exact Below.refl _ _) | ((with_reducible refine Below.setCell ?_ ?_ _); rotate_left 1; focus (first | (simp; done) | (simp; omega) | (simp at *; omega))) | ((with_reducible refine Below.alloc ?_ ?_ _); rotate_left 1; focus (first | (simp; done) | (simp; omega) | (simp at *; omega))) | (with_reducible refine Below.drew ?_) | ((with_reducible refine Calm.step (by assumption) ?_ ?_); rotate_left 1; focus (first | (simp; done) | (simp; omega) | (simp at *; omega))))
theorem askedExcursion_ok (re le bl ma st lo w0 : Int) (w : World) (hL : Lim w) (h : drvnErr re le bl ma st lo w0 = 0) :
    Calls Tryd.prog 74 #[.agg #[(.int .i64 (re)), (.int .i64 (le)), (.int .i64 (bl)), (.int .i64 (ma)), (.int .i64 (st)), (.int .i64 (lo))], (.int .i64 (w0)), .func (.func 76) #[.agg #[(.int .i64 (re)), (.int .i64 (le)), (.int .i64 (bl)), (.int .i64 (ma)), (.int .i64 (st)), (.int .i64 (lo))]] #[]] w fun r w' => r = .returned (.tuple #[.agg #[(.int .i64 (bl)), (.int .i64 (0)), (.int .i64 (nRe re le bl ma st lo w0)), (.int .i64 (nIm re le bl ma st lo w0))], (.int .i64 (0))]) ∧ Below w.heap.size w w' := by
  have hF := drvn_fit h
  go_enter Tryd.func74, Tryd.ntmps74
  go_wp2_with (first | (go_at_call 72; refine (checkDriven_any _ _ _ _ _ _ _ _ (hL.below (by repeat (first | (with_reducible exact Below.refl _ _) | ((with_reducible refine Below.setCell ?_ ?_ _); rotate_left 1; focus (first | (simp; done) | (simp; omega) | (simp at *; omega))) | ((with_reducible refine Below.alloc ?_ ?_ _); rotate_left 1; focus (first | (simp; done) | (simp; omega) | (simp at *; omega))) | (with_reducible refine Below.drew ?_) | ((with_reducible refine Calm.step (by assumption) ?_ ?_); rotate_left 1; focus (first | (simp; done) | (simp; omega) | (simp at *; omega))))))).mono ?_; rintro r w1 ⟨rfl, hb⟩; obtain ⟨hc, hf⟩ := bcell hb; have hz := hb.size; (try simp at hz); (try have hz0 : w.heap.size < w1.heap.size := by omega); (try have hz1 : w.heap.size + 1 < w1.heap.size := by omega); (try have hz2 : w.heap.size + 1 + 1 < w1.heap.size := by omega); (try have hz3 : w.heap.size + 1 + 1 + 1 < w1.heap.size := by omega); (try have hz4 : w.heap.size + 1 + 1 + 1 + 1 < w1.heap.size := by omega); (try have hz5 : w.heap.size + 1 + 1 + 1 + 1 + 1 < w1.heap.size := by omega); (try have hz6 : w.heap.size + 1 + 1 + 1 + 1 + 1 + 1 < w1.heap.size := by omega)) | (go_at_call 76; refine (excursion_any _ _ _ _ _ _ _ _ hF).mono ?_; rintro r w1 ⟨rfl, hb⟩; obtain ⟨hc, hf⟩ := bcell hb; have hz := hb.size; (try simp at hz); (try have hz0 : w.heap.size < w1.heap.size := by omega); (try have hz1 : w.heap.size + 1 < w1.heap.size := by omega); (try have hz2 : w.heap.size + 1 + 1 < w1.heap.size := by omega); (try have hz3 : w.heap.size + 1 + 1 + 1 < w1.heap.size := by omega); (try have hz4 : w.heap.size + 1 + 1 + 1 + 1 < w1.heap.size := by omega); (try have hz5 : w.heap.size + 1 + 1 + 1 + 1 + 1 < w1.heap.size := by omega); (try have hz6 : w.heap.size + 1 + 1 + 1 + 1 + 1 + 1 < w1.heap.size := by omega)))
  refine bodyPost_ret (v := .tuple #[.agg #[(.int .i64 (bl)), (.int .i64 (0)), (.int .i64 (nRe re le bl ma st lo w0)), (.int .i64 (nIm re le bl ma st lo w0))], (.int .i64 (0))]) (by simp [results, Tryd.results74, go_sem, *]) rfl ⟨rfl, ?_⟩
  repeat (first | (with_reducible exact Below.refl _ _) | ((with_reducible refine Below.setCell ?_ ?_ _); rotate_left 1; focus (first | (simp; done) | (simp; omega) | (simp at *; omega))) | ((with_reducible refine Below.alloc ?_ ?_ _); rotate_left 1; focus (first | (simp; done) | (simp; omega) | (simp at *; omega))) | (with_reducible refine Below.drew ?_) | ((with_reducible refine Calm.step (by assumption) ?_ ?_); rotate_left 1; focus (first | (simp; done) | (simp; omega) | (simp at *; omega))))
theorem Excursion_ok (re le bl ma st lo w0 : Int) (w : World) (hL : Lim w) (h : drvnErr re le bl ma st lo w0 = 0) :
    Calls Tryd.prog 14 #[.agg #[(.int .i64 (re)), (.int .i64 (le)), (.int .i64 (bl)), (.int .i64 (ma)), (.int .i64 (st)), (.int .i64 (lo))], (.int .i64 (w0))] w fun r w' => r = .returned (.tuple #[.agg #[(.int .i64 (bl)), (.int .i64 (0)), (.int .i64 (nRe re le bl ma st lo w0)), (.int .i64 (nIm re le bl ma st lo w0))], (.int .i64 (0))]) ∧ Below w.heap.size w w' := by
  go_enter Tryd.func14, Tryd.ntmps14
  go_wp2_with (first | (go_at_call 74; refine (askedExcursion_ok _ _ _ _ _ _ _ _ (hL.below (by repeat (first | (with_reducible exact Below.refl _ _) | ((with_reducible refine Below.setCell ?_ ?_ _); rotate_left 1; focus (first | (simp; done) | (simp; omega) | (simp at *; omega))) | ((with_reducible refine Below.alloc ?_ ?_ _); rotate_left 1; focus (first | (simp; done) | (simp; omega) | (simp at *; omega))) | (with_reducible refine Below.drew ?_) | ((with_reducible refine Calm.step (by assumption) ?_ ?_); rotate_left 1; focus (first | (simp; done) | (simp; omega) | (simp at *; omega)))))) h).mono ?_; rintro r w1 ⟨rfl, hb⟩; obtain ⟨hc, hf⟩ := bcell hb; have hz := hb.size; (try simp at hz); (try have hz0 : w.heap.size < w1.heap.size := by omega); (try have hz1 : w.heap.size + 1 < w1.heap.size := by omega); (try have hz2 : w.heap.size + 1 + 1 < w1.heap.size := by omega); (try have hz3 : w.heap.size + 1 + 1 + 1 < w1.heap.size := by omega); (try have hz4 : w.heap.size + 1 + 1 + 1 + 1 < w1.heap.size := by omega); (try have hz5 : w.heap.size + 1 + 1 + 1 + 1 + 1 < w1.heap.size := by omega); (try have hz6 : w.heap.size + 1 + 1 + 1 + 1 + 1 + 1 < w1.heap.size := by omega)))
  refine bodyPost_ret (v := .tuple #[.agg #[(.int .i64 (bl)), (.int .i64 (0)), (.int .i64 (nRe re le bl ma st lo w0)), (.int .i64 (nIm re le bl ma st lo w0))], (.int .i64 (0))]) (by simp [results, Tryd.results14, go_sem, *]) rfl ⟨rfl, ?_⟩
  repeat (first | (with_reducible exact Below.refl _ _) | ((with_reducible refine Below.setCell ?_ ?_ _); rotate_left 1; focus (first | (simp; done) | (simp; omega) | (simp at *; omega))) | ((with_reducible refine Below.alloc ?_ ?_ _); rotate_left 1; focus (first | (simp; done) | (simp; omega) | (simp at *; omega))) | (with_reducible refine Below.drew ?_) | ((with_reducible refine Calm.step (by assumption) ?_ ?_); rotate_left 1; focus (first | (simp; done) | (simp; omega) | (simp at *; omega))))
theorem Excursion_bad (re le bl ma st lo w0 : Int) (w : World) (hL : Lim w) (h : drvnErr re le bl ma st lo w0 ≠ 0) :
    Calls Tryd.prog 14 #[.agg #[(.int .i64 (re)), (.int .i64 (le)), (.int .i64 (bl)), (.int .i64 (ma)), (.int .i64 (st)), (.int .i64 (lo))], (.int .i64 (w0))] w fun r w' => r = .returned (.tuple #[.agg #[(.int .i64 (0)), (.int .i64 (0)), (.int .i64 (0)), (.int .i64 (0))], (.int .i64 (drvnErr re le bl ma st lo w0))]) ∧ Below w.heap.size w w' := by
  go_enter Tryd.func14, Tryd.ntmps14
  go_wp2_with (first | (go_at_call 74; refine (asked_bad _ _ _ _ _ _ _ _ _ (hL.below (by repeat (first | (with_reducible exact Below.refl _ _) | ((with_reducible refine Below.setCell ?_ ?_ _); rotate_left 1; focus (first | (simp; done) | (simp; omega) | (simp at *; omega))) | ((with_reducible refine Below.alloc ?_ ?_ _); rotate_left 1; focus (first | (simp; done) | (simp; omega) | (simp at *; omega))) | (with_reducible refine Below.drew ?_) | ((with_reducible refine Calm.step (by assumption) ?_ ?_); rotate_left 1; focus (first | (simp; done) | (simp; omega) | (simp at *; omega)))))) h).mono ?_; rintro r w1 ⟨rfl, hb⟩; obtain ⟨hc, hf⟩ := bcell hb; have hz := hb.size; (try simp at hz); (try have hz0 : w.heap.size < w1.heap.size := by omega); (try have hz1 : w.heap.size + 1 < w1.heap.size := by omega); (try have hz2 : w.heap.size + 1 + 1 < w1.heap.size := by omega); (try have hz3 : w.heap.size + 1 + 1 + 1 < w1.heap.size := by omega); (try have hz4 : w.heap.size + 1 + 1 + 1 + 1 < w1.heap.size := by omega); (try have hz5 : w.heap.size + 1 + 1 + 1 + 1 + 1 < w1.heap.size := by omega); (try have hz6 : w.heap.size + 1 + 1 + 1 + 1 + 1 + 1 < w1.heap.size := by omega)))
  refine bodyPost_ret (v := .tuple #[.agg #[(.int .i64 (0)), (.int .i64 (0)), (.int .i64 (0)), (.int .i64 (0))], (.int .i64 (drvnErr re le bl ma st lo w0))]) (by simp [results, Tryd.results14, go_sem, *]) rfl ⟨rfl, ?_⟩
  repeat (first | (with_reducible exact Below.refl _ _) | ((with_reducible refine Below.setCell ?_ ?_ _); rotate_left 1; focus (first | (simp; done) | (simp; omega) | (simp at *; omega))) | ((with_reducible refine Below.alloc ?_ ?_ _); rotate_left 1; focus (first | (simp; done) | (simp; omega) | (simp at *; omega))) | (with_reducible refine Below.drew ?_) | ((with_reducible refine Calm.step (by assumption) ?_ ?_); rotate_left 1; focus (first | (simp; done) | (simp; omega) | (simp at *; omega))))
theorem askedOutput_ok (re le bl ma st lo w0 : Int) (w : World) (hL : Lim w) (h : drvnErr re le bl ma st lo w0 = 0) :
    Calls Tryd.prog 74 #[.agg #[(.int .i64 (re)), (.int .i64 (le)), (.int .i64 (bl)), (.int .i64 (ma)), (.int .i64 (st)), (.int .i64 (lo))], (.int .i64 (w0)), .func (.func 77) #[.agg #[(.int .i64 (re)), (.int .i64 (le)), (.int .i64 (bl)), (.int .i64 (ma)), (.int .i64 (st)), (.int .i64 (lo))]] #[]] w fun r w' => r = .returned (.tuple #[.agg #[(.int .i64 (oRe bl w0)), (.int .i64 (0)), (.int .i64 (nRe re le bl ma st lo w0)), (.int .i64 (nIm re le bl ma st lo w0))], (.int .i64 (0))]) ∧ Below w.heap.size w w' := by
  have hF := drvn_fit h
  go_enter Tryd.func74, Tryd.ntmps74
  go_wp2_with (first | (go_at_call 72; refine (checkDriven_any _ _ _ _ _ _ _ _ (hL.below (by repeat (first | (with_reducible exact Below.refl _ _) | ((with_reducible refine Below.setCell ?_ ?_ _); rotate_left 1; focus (first | (simp; done) | (simp; omega) | (simp at *; omega))) | ((with_reducible refine Below.alloc ?_ ?_ _); rotate_left 1; focus (first | (simp; done) | (simp; omega) | (simp at *; omega))) | (with_reducible refine Below.drew ?_) | ((with_reducible refine Calm.step (by assumption) ?_ ?_); rotate_left 1; focus (first | (simp; done) | (simp; omega) | (simp at *; omega))))))).mono ?_; rintro r w1 ⟨rfl, hb⟩; obtain ⟨hc, hf⟩ := bcell hb; have hz := hb.size; (try simp at hz); (try have hz0 : w.heap.size < w1.heap.size := by omega); (try have hz1 : w.heap.size + 1 < w1.heap.size := by omega); (try have hz2 : w.heap.size + 1 + 1 < w1.heap.size := by omega); (try have hz3 : w.heap.size + 1 + 1 + 1 < w1.heap.size := by omega); (try have hz4 : w.heap.size + 1 + 1 + 1 + 1 < w1.heap.size := by omega); (try have hz5 : w.heap.size + 1 + 1 + 1 + 1 + 1 < w1.heap.size := by omega); (try have hz6 : w.heap.size + 1 + 1 + 1 + 1 + 1 + 1 < w1.heap.size := by omega)) | (go_at_call 77; refine (output_any _ _ _ _ _ _ _ _ hF).mono ?_; rintro r w1 ⟨rfl, hb⟩; obtain ⟨hc, hf⟩ := bcell hb; have hz := hb.size; (try simp at hz); (try have hz0 : w.heap.size < w1.heap.size := by omega); (try have hz1 : w.heap.size + 1 < w1.heap.size := by omega); (try have hz2 : w.heap.size + 1 + 1 < w1.heap.size := by omega); (try have hz3 : w.heap.size + 1 + 1 + 1 < w1.heap.size := by omega); (try have hz4 : w.heap.size + 1 + 1 + 1 + 1 < w1.heap.size := by omega); (try have hz5 : w.heap.size + 1 + 1 + 1 + 1 + 1 < w1.heap.size := by omega); (try have hz6 : w.heap.size + 1 + 1 + 1 + 1 + 1 + 1 < w1.heap.size := by omega)))
  refine bodyPost_ret (v := .tuple #[.agg #[(.int .i64 (oRe bl w0)), (.int .i64 (0)), (.int .i64 (nRe re le bl ma st lo w0)), (.int .i64 (nIm re le bl ma st lo w0))], (.int .i64 (0))]) (by simp [results, Tryd.results74, go_sem, *]) rfl ⟨rfl, ?_⟩
  repeat (first | (with_reducible exact Below.refl _ _) | ((with_reducible refine Below.setCell ?_ ?_ _); rotate_left 1; focus (first | (simp; done) | (simp; omega) | (simp at *; omega))) | ((with_reducible refine Below.alloc ?_ ?_ _); rotate_left 1; focus (first | (simp; done) | (simp; omega) | (simp at *; omega))) | (with_reducible refine Below.drew ?_) | ((with_reducible refine Calm.step (by assumption) ?_ ?_); rotate_left 1; focus (first | (simp; done) | (simp; omega) | (simp at *; omega))))
theorem Output_ok (re le bl ma st lo w0 : Int) (w : World) (hL : Lim w) (h : drvnErr re le bl ma st lo w0 = 0) :
    Calls Tryd.prog 15 #[.agg #[(.int .i64 (re)), (.int .i64 (le)), (.int .i64 (bl)), (.int .i64 (ma)), (.int .i64 (st)), (.int .i64 (lo))], (.int .i64 (w0))] w fun r w' => r = .returned (.tuple #[.agg #[(.int .i64 (oRe bl w0)), (.int .i64 (0)), (.int .i64 (nRe re le bl ma st lo w0)), (.int .i64 (nIm re le bl ma st lo w0))], (.int .i64 (0))]) ∧ Below w.heap.size w w' := by
  go_enter Tryd.func15, Tryd.ntmps15
  go_wp2_with (first | (go_at_call 74; refine (askedOutput_ok _ _ _ _ _ _ _ _ (hL.below (by repeat (first | (with_reducible exact Below.refl _ _) | ((with_reducible refine Below.setCell ?_ ?_ _); rotate_left 1; focus (first | (simp; done) | (simp; omega) | (simp at *; omega))) | ((with_reducible refine Below.alloc ?_ ?_ _); rotate_left 1; focus (first | (simp; done) | (simp; omega) | (simp at *; omega))) | (with_reducible refine Below.drew ?_) | ((with_reducible refine Calm.step (by assumption) ?_ ?_); rotate_left 1; focus (first | (simp; done) | (simp; omega) | (simp at *; omega)))))) h).mono ?_; rintro r w1 ⟨rfl, hb⟩; obtain ⟨hc, hf⟩ := bcell hb; have hz := hb.size; (try simp at hz); (try have hz0 : w.heap.size < w1.heap.size := by omega); (try have hz1 : w.heap.size + 1 < w1.heap.size := by omega); (try have hz2 : w.heap.size + 1 + 1 < w1.heap.size := by omega); (try have hz3 : w.heap.size + 1 + 1 + 1 < w1.heap.size := by omega); (try have hz4 : w.heap.size + 1 + 1 + 1 + 1 < w1.heap.size := by omega); (try have hz5 : w.heap.size + 1 + 1 + 1 + 1 + 1 < w1.heap.size := by omega); (try have hz6 : w.heap.size + 1 + 1 + 1 + 1 + 1 + 1 < w1.heap.size := by omega)))
  refine bodyPost_ret (v := .tuple #[.agg #[(.int .i64 (oRe bl w0)), (.int .i64 (0)), (.int .i64 (nRe re le bl ma st lo w0)), (.int .i64 (nIm re le bl ma st lo w0))], (.int .i64 (0))]) (by simp [results, Tryd.results15, go_sem, *]) rfl ⟨rfl, ?_⟩
  repeat (first | (with_reducible exact Below.refl _ _) | ((with_reducible refine Below.setCell ?_ ?_ _); rotate_left 1; focus (first | (simp; done) | (simp; omega) | (simp at *; omega))) | ((with_reducible refine Below.alloc ?_ ?_ _); rotate_left 1; focus (first | (simp; done) | (simp; omega) | (simp at *; omega))) | (with_reducible refine Below.drew ?_) | ((with_reducible refine Calm.step (by assumption) ?_ ?_); rotate_left 1; focus (first | (simp; done) | (simp; omega) | (simp at *; omega))))
theorem Output_bad (re le bl ma st lo w0 : Int) (w : World) (hL : Lim w) (h : drvnErr re le bl ma st lo w0 ≠ 0) :
    Calls Tryd.prog 15 #[.agg #[(.int .i64 (re)), (.int .i64 (le)), (.int .i64 (bl)), (.int .i64 (ma)), (.int .i64 (st)), (.int .i64 (lo))], (.int .i64 (w0))] w fun r w' => r = .returned (.tuple #[.agg #[(.int .i64 (0)), (.int .i64 (0)), (.int .i64 (0)), (.int .i64 (0))], (.int .i64 (drvnErr re le bl ma st lo w0))]) ∧ Below w.heap.size w w' := by
  go_enter Tryd.func15, Tryd.ntmps15
  go_wp2_with (first | (go_at_call 74; refine (asked_bad _ _ _ _ _ _ _ _ _ (hL.below (by repeat (first | (with_reducible exact Below.refl _ _) | ((with_reducible refine Below.setCell ?_ ?_ _); rotate_left 1; focus (first | (simp; done) | (simp; omega) | (simp at *; omega))) | ((with_reducible refine Below.alloc ?_ ?_ _); rotate_left 1; focus (first | (simp; done) | (simp; omega) | (simp at *; omega))) | (with_reducible refine Below.drew ?_) | ((with_reducible refine Calm.step (by assumption) ?_ ?_); rotate_left 1; focus (first | (simp; done) | (simp; omega) | (simp at *; omega)))))) h).mono ?_; rintro r w1 ⟨rfl, hb⟩; obtain ⟨hc, hf⟩ := bcell hb; have hz := hb.size; (try simp at hz); (try have hz0 : w.heap.size < w1.heap.size := by omega); (try have hz1 : w.heap.size + 1 < w1.heap.size := by omega); (try have hz2 : w.heap.size + 1 + 1 < w1.heap.size := by omega); (try have hz3 : w.heap.size + 1 + 1 + 1 < w1.heap.size := by omega); (try have hz4 : w.heap.size + 1 + 1 + 1 + 1 < w1.heap.size := by omega); (try have hz5 : w.heap.size + 1 + 1 + 1 + 1 + 1 < w1.heap.size := by omega); (try have hz6 : w.heap.size + 1 + 1 + 1 + 1 + 1 + 1 < w1.heap.size := by omega)))
  refine bodyPost_ret (v := .tuple #[.agg #[(.int .i64 (0)), (.int .i64 (0)), (.int .i64 (0)), (.int .i64 (0))], (.int .i64 (drvnErr re le bl ma st lo w0))]) (by simp [results, Tryd.results15, go_sem, *]) rfl ⟨rfl, ?_⟩
  repeat (first | (with_reducible exact Below.refl _ _) | ((with_reducible refine Below.setCell ?_ ?_ _); rotate_left 1; focus (first | (simp; done) | (simp; omega) | (simp at *; omega))) | ((with_reducible refine Below.alloc ?_ ?_ _); rotate_left 1; focus (first | (simp; done) | (simp; omega) | (simp at *; omega))) | (with_reducible refine Below.drew ?_) | ((with_reducible refine Calm.step (by assumption) ?_ ?_); rotate_left 1; focus (first | (simp; done) | (simp; omega) | (simp at *; omega))))
end Go.Proofs.YtpkldjlljoledaaDoor
