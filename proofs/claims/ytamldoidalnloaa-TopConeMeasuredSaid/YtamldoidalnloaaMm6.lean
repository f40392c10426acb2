/- Part 6 of the texts of the claim: S5, S6, Tc8, Tc9. -/
import Derived.Test.YtamldoidalnloaaMm5
import Derived.Test.YtamldoidalnloaaMm4
import Derived.Shelf.Abstract
import Derived.OwnWalkIn
import Derived.TacticsInMore
import Derived.LoopNIn
import Derived.LoopIn
import Derived.RangeFuncBox
import Derived.BigRegion

/- Contracts of (Section).outputs and of the iterator that it hands out. -/
namespace Go.Proofs.Ytamldoidalnloaa
open Go.RowKit
open Calm (bcell Blk)

abbrev XS := Int × Int × Int × Int
/-- the states of a section's run, and its outputs. -/
def ssAt (b0 b1 b2 a1 a2 sh : Int) (st : XS) (xs : List Int) : Nat → XS
  | 0 => st
  | k + 1 => let s := ssAt b0 b1 b2 a1 a2 sh st xs k; (xs.getD k 0, s.1, outS b0 b1 b2 a1 a2 sh s.1 s.2.1 s.2.2.1 s.2.2.2 (xs.getD k 0), s.2.2.1)
def soAt (b0 b1 b2 a1 a2 sh : Int) (st : XS) (xs : List Int) (k : Nat) : Int := let s := ssAt b0 b1 b2 a1 a2 sh st xs k; outS b0 b1 b2 a1 a2 sh s.1 s.2.1 s.2.2.1 s.2.2.2 (xs.getD k 0)
def allS (b0 b1 b2 a1 a2 sh : Int) (st : XS) (xs : List Int) (n : Nat) : List (Int × XS) := (List.range n).map fun k => (soAt b0 b1 b2 a1 a2 sh st xs k, ssAt b0 b1 b2 a1 a2 sh st xs (k + 1))
theorem allS_succ (b0 b1 b2 a1 a2 sh : Int) (st : XS) (xs : List Int) (k : Nat) : allS b0 b1 b2 a1 a2 sh st xs (k + 1) = allS b0 b1 b2 a1 a2 sh st xs k ++ [(soAt b0 b1 b2 a1 a2 sh st xs k, ssAt b0 b1 b2 a1 a2 sh st xs (k + 1))] := by simp [allS, List.range_succ]
theorem allS_post (b0 b1 b2 a1 a2 sh : Int) (st : XS) (xs : List Int) {k n : Nat} (h : k < n) : ∃ post, allS b0 b1 b2 a1 a2 sh st xs n = allS b0 b1 b2 a1 a2 sh st xs k ++ (soAt b0 b1 b2 a1 a2 sh st xs k, ssAt b0 b1 b2 a1 a2 sh st xs (k + 1)) :: post := by
  obtain ⟨m, rfl⟩ : ∃ m, n = k + 1 + m := ⟨n - (k + 1), by omega⟩
  refine ⟨(List.range m).map fun j => (soAt b0 b1 b2 a1 a2 sh st xs (k + 1 + j), ssAt b0 b1 b2 a1 a2 sh st xs (k + 1 + j + 1)), ?_⟩
  have : allS b0 b1 b2 a1 a2 sh st xs (k + 1 + m) = allS b0 b1 b2 a1 a2 sh st xs (k + 1) ++ (List.range m).map fun j => (soAt b0 b1 b2 a1 a2 sh st xs (k + 1 + j), ssAt b0 b1 b2 a1 a2 sh st xs (k + 1 + j + 1)) := by
    simp [allS, List.range_add]
  rw [this, allS_succ]
  simp
def okX (s : XS) : Prop := bd15 s.1 ∧ bd15 s.2.1 ∧ bd15 s.2.2.1 ∧ bd15 s.2.2.2
theorem ssAt_ok {b0 b1 b2 a1 a2 sh : Int} {st : XS} {xs : List Int} (hs : okX st) (hx : inB 32767 xs) : ∀ k, okX (ssAt b0 b1 b2 a1 a2 sh st xs k)
  | 0 => hs
  | k + 1 => by
    have h := ssAt_ok (b0 := b0) (b1 := b1) (b2 := b2) (a1 := a1) (a2 := a2) (sh := sh) hs hx k
    exact ⟨inB_get hx (by omega) k, h.1, limF_bd _, h.2.2.1⟩
/-- what the iterator hands to the loop. -/
def encO (x : Int × XS) : Array Value := #[(.int .i64 (x.1)), .agg #[(.int .i64 (x.2.1)), (.int .i64 (x.2.2.1)), (.int .i64 (x.2.2.2.1)), (.int .i64 (x.2.2.2.2))]]
theorem outputs_any (b0 b1 b2 a1 a2 sh x1 x2 y1 y2 : Int) (A : Option Addr) (n c : Nat) (w : World) :
    Calls Try.prog 86 #[.agg #[(.int .i64 b0), (.int .i64 b1), (.int .i64 b2), (.int .i64 a1), (.int .i64 a2), (.int .i64 sh)], .agg #[(.int .i64 x1), (.int .i64 x2), (.int .i64 y1), (.int .i64 y2)], .slice A n c] w fun e w' => e = .returned (.func (.func 101) #[] #[.pointer (some ⟨w.heap.size + 1, 0, none⟩), .pointer (some ⟨w.heap.size + 1 + 1, 0, none⟩), .pointer (some ⟨w.heap.size, 0, none⟩)]) ∧
      Below w.heap.size w w' ∧ Blk w' w.heap.size #[(.int .i64 b0), (.int .i64 b1), (.int .i64 b2), (.int .i64 a1), (.int .i64 a2), (.int .i64 sh)] ∧ Blk w' (w.heap.size + 1) #[(.int .i64 x1), (.int .i64 x2), (.int .i64 y1), (.int .i64 y2)] ∧ Blk w' (w.heap.size + 1 + 1) #[.slice A n c] := by
  go_enter Try.func86, Try.ntmps86
  go_wp2
  go_ret
  exact ⟨by first | rfl | (simp; done), by (repeat (first | (with_reducible exact Below.refl _ _) | ((with_reducible refine Below.setCell ?_ ?_ _); rotate_left 1; focus (first | (simp; done) | (simp; omega) | (simp at *; omega))) | ((with_reducible refine Below.alloc ?_ ?_ _); rotate_left 1; focus (first | (simp; done) | (simp; omega) | (simp at *; omega))) | (with_reducible refine Below.drew ?_) | ((with_reducible refine Calm.step (by assumption) ?_ ?_); rotate_left 1; focus (first | (simp; done) | (simp; omega) | (simp at *; omega))))), by (repeat (first | ((with_reducible refine Blk.at_ ?_); focus (first | rfl | (simp; done) | (simp; omega))) | (with_reducible refine Blk.alloc ?_ _) | (with_reducible refine Blk.below ?_ (by with_reducible assumption)) | (with_reducible refine Blk.drew ?_))), by (repeat (first | ((with_reducible refine Blk.at_ ?_); focus (first | rfl | (simp; done) | (simp; omega))) | (with_reducible refine Blk.alloc ?_ _) | (with_reducible refine Blk.below ?_ (by with_reducible assumption)) | (with_reducible refine Blk.drew ?_))), by (repeat (first | ((with_reducible refine Blk.at_ ?_); focus (first | rfl | (simp; done) | (simp; omega))) | (with_reducible refine Blk.alloc ?_ _) | (with_reducible refine Blk.below ?_ (by with_reducible assumption)) | (with_reducible refine Blk.drew ?_)))⟩
def blks (a b c d : Nat) (k : Nat) : Prop := k = a ∨ k = b ∨ k = c ∨ k = d

set_option maxRecDepth 100000 in
set_option maxHeartbeats 4000000 in
theorem outputs1_iter (b0 b1 b2 a1 a2 sh x1 x2 y1 y2 : Int) (xs : List Int) (Sb Xb Lb Db : Nat) (A : Option Addr) (c : Nat) (w : World) (n : Nat) (h0 : bd15 b0) (h1 : bd15 b1) (h2 : bd15 b2) (h3 : bd15 a1) (h4 : bd15 a2) (h5 : 0 ≤ sh ∧ sh ≤ 15)
    (hst : okX (x1, x2, y1, y2)) (hx : inB 32767 xs) (hn : xs.length ≤ 5000) (hS : Blk w Sb #[(.int .i64 b0), (.int .i64 b1), (.int .i64 b2), (.int .i64 a1), (.int .i64 a2), (.int .i64 sh)]) (hX : Blk w Xb #[(.int .i64 x1), (.int .i64 x2), (.int .i64 y1), (.int .i64 y2)]) (hL : Blk w Lb #[.slice A xs.length c]) (hC : Cells w A xs) (hD : 0 < xs.length → ∃ o, A = some ⟨Db, o, none⟩) :
    IterM Fence.wide n Try.prog 101 #[.pointer (some ⟨Xb, 0, none⟩), .pointer (some ⟨Lb, 0, none⟩), .pointer (some ⟨Sb, 0, none⟩)] encO (allS b0 b1 b2 a1 a2 sh (x1, x2, y1, y2) xs xs.length) (blks Sb Xb Lb Db) w := by
  intro l J W hCW hCl hle hJb hJs hY h00
  have KS := Calm.Blk.of_block hS (hCW _ (.inl rfl))
  have KX := Calm.Blk.of_block hX (hCW _ (.inr (.inl rfl)))
  have KL := Calm.Blk.of_block hL (hCW _ (.inr (.inr (.inl rfl))))
  have lS : Sb < W.heap.size := Nat.lt_of_lt_of_le hS.lt hle
  have lX : Xb < W.heap.size := Nat.lt_of_lt_of_le hX.lt hle
  have lL : Lb < W.heap.size := Nat.lt_of_lt_of_le hL.lt hle
  have lD : Db < W.heap.size := Nat.lt_of_lt_of_le (hCl Db (.inr (.inr (.inr rfl)))) hle
  have HCD : Hid (∀ (W' : World) (k : Nat), (∀ j, blks Sb Xb Lb Db j → W'.heap[j]? = w.heap[j]?) → k < xs.length → ∃ o, A = some ⟨Db, o, none⟩ ∧ W'.cell? ⟨Db, o + k, none⟩ = some (.int .i64 (xs.getD k 0))) := Lib.hid (fun W' k hW hk => by
    obtain ⟨o, hA⟩ := hD (by omega)
    obtain ⟨b, off, hA2, hl, hc⟩ := hC (by omega)
    rw [hA] at hA2
    cases hA2
    exact ⟨o, hA, (World.cell?_of_block (w := w) (a := ⟨Db, o + k, none⟩) (hW Db (.inr (.inr (.inr rfl))))).trans (hc k hk)⟩)
  have HCW := Lib.hid hCW
  have HJB := Lib.hid hJb
  have HJS := Lib.hid hJs
  have HSS := Lib.hid hS
  have HOK := Lib.hid (ssAt_ok (b0 := b0) (b1 := b1) (b2 := b2) (a1 := a1) (a2 := a2) (sh := sh) hst hx)
  have HXI := Lib.hid (fun k => inB_get hx (by omega) k)
  have HST : Hid (∀ (k : Nat) (W' : World), Calls Try.prog 102 #[.agg #[(.int .i64 b0), (.int .i64 b1), (.int .i64 b2), (.int .i64 a1), (.int .i64 a2), (.int .i64 sh)], .agg #[(.int .i64 ((ssAt b0 b1 b2 a1 a2 sh (x1, x2, y1, y2) xs k).1)), (.int .i64 ((ssAt b0 b1 b2 a1 a2 sh (x1, x2, y1, y2) xs k).2.1)), (.int .i64 ((ssAt b0 b1 b2 a1 a2 sh (x1, x2, y1, y2) xs k).2.2.1)), (.int .i64 ((ssAt b0 b1 b2 a1 a2 sh (x1, x2, y1, y2) xs k).2.2.2))], (.int .i64 (xs.getD k 0))] W' fun r w' =>
      r = .returned (.tuple #[(.int .i64 (soAt b0 b1 b2 a1 a2 sh (x1, x2, y1, y2) xs k)), .agg #[(.int .i64 ((ssAt b0 b1 b2 a1 a2 sh (x1, x2, y1, y2) xs (k + 1)).1)), (.int .i64 ((ssAt b0 b1 b2 a1 a2 sh (x1, x2, y1, y2) xs (k + 1)).2.1)), (.int .i64 ((ssAt b0 b1 b2 a1 a2 sh (x1, x2, y1, y2) xs (k + 1)).2.2.1)), (.int .i64 ((ssAt b0 b1 b2 a1 a2 sh (x1, x2, y1, y2) xs (k + 1)).2.2.2))]]) ∧ Below W'.heap.size W' w') :=
    Lib.hid (fun k W' => by
      obtain ⟨q1, q2, q3, q4⟩ := HOK.out k
      exact sStep_any b0 b1 b2 a1 a2 sh _ _ _ _ _ W' h0 h1 h2 h3 h4 h5 q1 q2 q3 q4 (HXI.out k))
  have HAS := Lib.hid (fun k => allS_succ b0 b1 b2 a1 a2 sh (x1, x2, y1, y2) xs k)
  have HAP := Lib.hid (fun k (hk : k < xs.length) => allS_post b0 b1 b2 a1 a2 sh (x1, x2, y1, y2) xs hk)
  obtain ⟨N, hN⟩ : ∃ N, N = xs.length := ⟨_, rfl⟩
  rw [← hN] at KL hY HCD HAP hn ⊢
  have HY := Lib.hid hY
  obtain ⟨Z, hZ⟩ : ∃ Z : Nat → XS, Z = ssAt b0 b1 b2 a1 a2 sh (x1, x2, y1, y2) xs := ⟨_, rfl⟩
  have HZ0 : Hid (Z 0 = (x1, x2, y1, y2)) := Lib.hid (by rw [hZ]; rfl)
  rw [← hZ] at HST HAS HAP
  obtain ⟨x00, x01, x02, xl, xf, xff⟩ := KX.o4
  obtain ⟨l00, ll, lf⟩ := KL.o1
  have HKS := Lib.hid KS
  clear hCW hJb hJs hS hX hL hC hD hst hx hN hY hZ h0 h1 h2 h3 h4 h5 KS KX KL
  refine callsIn_of_wp Try.func101 rfl trivial ?_ rfl
  simp only [Try.ntmps101, List.size_toArray, List.length_cons, List.length_nil, Nat.reduceAdd, Nat.reduceSub, Array.replicate_succ, Array.replicate_zero, List.push_toArray, List.append_toArray, List.nil_append, List.cons_append]
  gi_wp2
  gi_loopw [13] (fun i wr => ∃ k : Nat, k ≤ N ∧ i = (.int .i64 ((k : Int))) ∧ Blk wr W.heap.size #[(.int .i64 ((Z k).1)), (.int .i64 ((Z k).2.1)), (.int .i64 ((Z k).2.2.1)), (.int .i64 ((Z k).2.2.2))] ∧ J (allS b0 b1 b2 a1 a2 sh (x1, x2, y1, y2) xs k) wr ∧ ∀ j, blks Sb Xb Lb Db j → wr.heap[j]? = w.heap[j]?) (fun i _ => N - (intOf i).toNat)
  case atStart =>
    exact ⟨0, Nat.zero_le _, rfl, by rw [HZ0.out]; exact Blk.new _ _ _, HJB.out _ _ _ h00 ((Below.refl _ _).alloc (Nat.le_refl _) _), fun j hj => (Below.heap_alloc _ _ _ (by rcases hj with rfl | rfl | rfl | rfl <;> assumption)).trans (HCW.out j hj)⟩
  case round =>
    obtain ⟨k, hk, rfl, K1, hJ1, hC1⟩ := hrel
    have KSr := Calm.Blk.of_block HSS.out (hC1 _ (.inl rfl))
    have hlw : W.heap.size < wr.heap.size := K1.lt
    clear x00 x01 x02 xl xf xff l00 ll lf
    by_cases hk2 : k < N
    · obtain ⟨o, rfl, hin⟩ := HCD.out wr k hC1 hk2
      obtain ⟨s0, s1, s2, s3, s4, s5, sl, sf⟩ := KSr.o6
      obtain ⟨d0, d1, d2, d3, dl, df⟩ := K1.o4
      have HS1 := HST.out k
      obtain ⟨X, hX⟩ : ∃ X, X = xs.getD k 0 := ⟨_, rfl⟩
      obtain ⟨O, hO⟩ : ∃ O, O = soAt b0 b1 b2 a1 a2 sh (x1, x2, y1, y2) xs k := ⟨_, rfl⟩
      have HA1 := Lib.hid (HAS.out k)
      have HP1 := HAP.out k hk2
      rw [← hX] at hin HS1
      rw [← hO] at HS1 HA1 HP1
      have HSS1 := Lib.hid HS1
      have HK1 := Lib.hid K1
      have HJ1 := Lib.hid hJ1
      have HC1 := Lib.hid hC1
      have HPP := Lib.hid HP1
      clear KSr hX hO HS1 K1 hJ1 hC1 HP1
      gi_wp2_with fail
      refine ⟨trivial, fun h => by simp [Fence.wide] at h, ?_⟩
      refine (callsIn_wide.2 (HSS1.out _)).mono ?_
      rintro r w2 ⟨rfl, hb2⟩
      refine Hid.out ?_
      have hs2 := hb2.size
      have K2 := HK1.out.below hb2
      have hC2 : ∀ j, blks Sb Xb Lb Db j → w2.heap[j]? = w.heap[j]? := fun j hj => (hb2.block j (by have : j < W.heap.size := (by rcases hj with rfl | rfl | rfl | rfl <;> assumption); omega)).trans (HC1.out j hj)
      have hJ2 := HJB.out _ _ _ HJ1.out hb2
      obtain ⟨W4, hW4⟩ : ∃ W4, W4 = (((((w2.setCell ⟨W.heap.size, 0, none⟩ (.int .i64 ((Z (k + 1)).1))).setCell ⟨W.heap.size, 1, none⟩ (.int .i64 ((Z (k + 1)).2.1))).setCell ⟨W.heap.size, 2, none⟩ (.int .i64 ((Z (k + 1)).2.2.1))).setCell ⟨W.heap.size, 3, none⟩ (.int .i64 ((Z (k + 1)).2.2.2))).alloc (.cells #[(.int .i64 ((Z (k + 1)).1)), (.int .i64 ((Z (k + 1)).2.1)), (.int .i64 ((Z (k + 1)).2.2.1)), (.int .i64 ((Z (k + 1)).2.2.2))] 93)) := ⟨_, rfl⟩
      have hC4 : ∀ j, blks Sb Xb Lb Db j → W4.heap[j]? = w.heap[j]? := fun j hj => by
        have hjl : j < W.heap.size := (by rcases hj with rfl | rfl | rfl | rfl <;> assumption)
        rw [hW4, Below.heap_alloc _ _ _ (by simp; omega), Below.heap_setCell _ _ _ _ (by simp; omega), Below.heap_setCell _ _ _ _ (by simp; omega), Below.heap_setCell _ _ _ _ (by simp; omega), Below.heap_setCell _ _ _ _ (by simp; omega)]
        exact hC2 j hj
      have hJ4 : J (allS b0 b1 b2 a1 a2 sh (x1, x2, y1, y2) xs k) W4 := by
        rw [hW4]
        exact HJB.out _ _ _ (HJS.out _ _ _ _ (HJS.out _ _ _ _ (HJS.out _ _ _ _ (HJS.out _ _ _ _ hJ2)))) ((Below.refl _ _).alloc (Nat.le_refl _) _)
      have hl4 : W.heap.size < W4.heap.size := by rw [hW4]; simp; omega
      have K4 : Blk W4 W.heap.size #[(.int .i64 ((Z (k + 1)).1)), (.int .i64 ((Z (k + 1)).2.1)), (.int .i64 ((Z (k + 1)).2.2.1)), (.int .i64 ((Z (k + 1)).2.2.2))] := by
        rw [hW4]
        exact ((((K2.set (i := 0) (by simp) _).set (i := 1) (by simp) _).set (i := 2) (by simp) _).set (i := 3) (by simp) _).alloc _
      obtain ⟨fn, tmps, assign, body, hy, hR⟩ := HY.out _ (O, Z (k + 1)) W4 hJ4 hl4 hC4 HPP.out
      dsimp only [encO] at hy
      rw [hW4] at hy
      obtain ⟨e0, e1, e2, e3, el, ef⟩ := K2.o4
      have HK4 := Lib.hid K4
      have HW4 := Lib.hid hW4
      have HR := Lib.hid hR
      have HC4 := Lib.hid hC4
      have ne1 : ¬ w2.heap.size = W.heap.size := by omega
      have ne2 : ¬ W.heap.size = w2.heap.size := by omega
      clear hb2 K2 hC2 hJ2 hC4 hJ4 K4 hW4 hR d0 d1 d2 d3 dl df s0 s1 s2 s3 s4 s5 sl sf hin
      unfold Hid
      gi_wp2
      rw [← HW4.out]
      refine ⟨fun h => by simp [Fence.wide] at h, HR.out.mono ?_⟩
      rintro e W5 ⟨rfl, hJ5, hD5, hC5⟩
      have K5 := Calm.Blk.of_block HK4.out hD5
      have hC6 : ∀ j, blks Sb Xb Lb Db j → W5.heap[j]? = w.heap[j]? := fun j hj => (hC5 j hj).trans (HC4.out j hj)
      have HK5 := Lib.hid K5
      have HC6 := Lib.hid hC6
      have HJ5 := Lib.hid hJ5
      clear hJ5 hD5 hC5 K5 hC6 HW4 hy HR e0 e1 e2 e3 el ef
      gi_wp2
      go_roundw
      case rel => exact ⟨k + 1, by omega, by go_num, HK5.out, by rw [HA1.out]; exact HJ5.out, HC6.out⟩
      case measure => simp [intOf]; omega
    · obtain rfl : k = N := by omega
      clear KSr
      gi_wp2
      go_end0
      exact ⟨⟨_, rfl⟩, hJ1⟩
end Go.Proofs.Ytamldoidalnloaa

/- Contract of (Section).from. -/
namespace Go.Proofs.Ytamldoidalnloaa
open Go.RowKit
open Calm (bcell Blk)

def encX (s : XS) : Array Value := #[(.int .i64 (s.1)), (.int .i64 (s.2.1)), (.int .i64 (s.2.2.1)), (.int .i64 (s.2.2.2))]
def lastX (st : XS) (pre : List (Int × XS)) : XS := (pre.getLast?.map Prod.snd).getD st
theorem lastX_snoc (st : XS) (pre : List (Int × XS)) (x : Int × XS) : lastX st (pre ++ [x]) = x.2 := by simp [lastX]
theorem lastX_all (b0 b1 b2 a1 a2 sh : Int) (st : XS) (xs : List Int) : ∀ n, lastX st (allS b0 b1 b2 a1 a2 sh st xs n) = ssAt b0 b1 b2 a1 a2 sh st xs n
  | 0 => rfl
  | k + 1 => by rw [allS_succ, lastX_snoc]
def soK (b0 b1 b2 a1 a2 sh : Int) (st : XS) (xs : List Int) (n : Nat) : List Int := (List.range n).map fun k => soAt b0 b1 b2 a1 a2 sh st xs k
theorem soK_all (b0 b1 b2 a1 a2 sh : Int) (st : XS) (xs : List Int) (n : Nat) : (allS b0 b1 b2 a1 a2 sh st xs n).map Prod.fst = soK b0 b1 b2 a1 a2 sh st xs n := by simp [allS, soK]
theorem soK_len (b0 b1 b2 a1 a2 sh : Int) (st : XS) (xs : List Int) (n : Nat) : (soK b0 b1 b2 a1 a2 sh st xs n).length = n := by simp [soK]
theorem allS_len (b0 b1 b2 a1 a2 sh : Int) (st : XS) (xs : List Int) (n : Nat) : (allS b0 b1 b2 a1 a2 sh st xs n).length = n := by simp [allS]
/-- a block that lies, and may be written. -/
def Unf (w : World) (b : Nat) : Prop := b < w.heap.size ∧ ∀ i, w.frozen? ⟨b, i, none⟩ = false
theorem own_unf {W : World} {base e size n c k : Nat} {p : Addr} {xs : List Value} (h : W.ownsRow base e size (.slice (some p) n c) k xs) : Unf W p.block := by
  rcases h.2 with ⟨h1, h2⟩ | ⟨g, cap, cur, h1, h2, h3, h4, h5, h6, h7⟩
  · cases h1
  · cases h1
    exact ⟨(Array.getElem?_eq_some_iff.1 h3).1, fun i => by unfold World.frozen?; rw [h3]; simp⟩
theorem kbS_own {β : Type} (w5 : World) (S : Nat → Prop) : OwnFrom w5.heap.size (fun (_ : β) W => ∀ k, k < w5.heap.size → ¬ S k → W.heap[k]? = w5.heap[k]?) := fun s X Y row hs hg hrow k hk hne => by
  have hX := hs k hk hne
  have hlt : k < X.heap.size := by
    rw [Array.getElem?_eq_getElem hk] at hX
    exact (Array.getElem?_eq_some_iff.1 hX).1
  exact (hg.block k hlt (fun e => by have := (hrow k e.symm).1; omega)).trans hX
theorem heapRow_own {β : Type} (B : Nat) (cs : β → Array Value) (t : TypeId) : Own (fun (s : β) W => W.heap[B]? = some (.cells (cs s) t (0, 0))) := fun s X Y row hs hg hrow =>
  (hg.block B (Array.getElem?_eq_some_iff.1 hs).1 (fun e' => by obtain ⟨o, ho, hc⟩ := hrow B e'.symm; rw [hs] at ho; cases ho; cases hc)).trans hs
theorem blk_own {β : Type} (B n : Nat) (hB : B < n) (f : β → Array Value) : OwnFrom n (fun s W => Blk W B (f s)) := fun s X Y row hs hg hrow =>
  Calm.Blk.of_block hs (hg.block B hs.lt (fun e => by have := (hrow B e.symm).1; omega))

set_option maxRecDepth 100000 in
set_option maxHeartbeats 4000000 in
theorem from_any (b0 b1 b2 a1 a2 sh x1 x2 y1 y2 : Int) (xs : List Int) (A : Option Addr) (c : Nat) (w : World) (h0 : bd15 b0) (h1 : bd15 b1) (h2 : bd15 b2) (h3 : bd15 a1) (h4 : bd15 a2) (h5 : 0 ≤ sh ∧ sh ≤ 15)
    (hst : okX (x1, x2, y1, y2)) (hx : inB 32767 xs) (hn : xs.length ≤ 5000) (hC : Cells w A xs) :
    Calls Try.prog 50 #[.agg #[(.int .i64 b0), (.int .i64 b1), (.int .i64 b2), (.int .i64 a1), (.int .i64 a2), (.int .i64 sh)], .agg #[(.int .i64 x1), (.int .i64 x2), (.int .i64 y1), (.int .i64 y2)], .slice A xs.length c] w fun r w' => (∃ B d, r = .returned (.tuple #[.slice B xs.length d, .agg (encX (ssAt b0 b1 b2 a1 a2 sh (x1, x2, y1, y2) xs xs.length))]) ∧ (∀ p, B = some p → w.heap.size ≤ p.block ∧ Unf w' p.block) ∧ Cells w' B (soK b0 b1 b2 a1 a2 sh (x1, x2, y1, y2) xs xs.length)) ∧ Below w.heap.size w w' := by
  have hfn : ∀ f, Fence.wide.fn f = True := fun _ => rfl
  obtain ⟨i0, hi, iz0, iz1, iz2⟩ := info_parts Try.infoI
  have HO : Hid (∀ (n : Nat) (W : World), Calls Try.prog 86 #[.agg #[(.int .i64 b0), (.int .i64 b1), (.int .i64 b2), (.int .i64 a1), (.int .i64 a2), (.int .i64 sh)], .agg #[(.int .i64 x1), (.int .i64 x2), (.int .i64 y1), (.int .i64 y2)], .slice A n c] W fun e w' => e = .returned (.func (.func 101) #[] #[.pointer (some ⟨W.heap.size + 1, 0, none⟩), .pointer (some ⟨W.heap.size + 1 + 1, 0, none⟩), .pointer (some ⟨W.heap.size, 0, none⟩)]) ∧
      Below W.heap.size W w' ∧ Blk w' W.heap.size #[(.int .i64 b0), (.int .i64 b1), (.int .i64 b2), (.int .i64 a1), (.int .i64 a2), (.int .i64 sh)] ∧ Blk w' (W.heap.size + 1) #[(.int .i64 x1), (.int .i64 x2), (.int .i64 y1), (.int .i64 y2)] ∧ Blk w' (W.heap.size + 1 + 1) #[.slice A n c]) := Lib.hid (fun n W => outputs_any b0 b1 b2 a1 a2 sh x1 x2 y1 y2 A n c W)
  obtain ⟨Db, hDb, hD⟩ : ∃ Db, Db < w.heap.size + 1 ∧ (0 < xs.length → ∃ o, A = some ⟨Db, o, none⟩ ∧ Db < w.heap.size) := by
    by_cases hl : 0 < xs.length
    · obtain ⟨b, off, hA, hb, _⟩ := hC hl
      exact ⟨b, by omega, fun _ => ⟨off, hA, hb⟩⟩
    · exact ⟨w.heap.size, by omega, fun h => absurd h hl⟩
  obtain ⟨N, hN⟩ : ∃ N, N = xs.length := ⟨_, rfl⟩
  have HN := Lib.hid hN
  have HC := Lib.hid hC
  have HI : Hid (∀ (W : World) (Sb Xb Lb : Nat) (n : Nat), Blk W Sb #[(.int .i64 b0), (.int .i64 b1), (.int .i64 b2), (.int .i64 a1), (.int .i64 a2), (.int .i64 sh)] → Blk W Xb #[(.int .i64 x1), (.int .i64 x2), (.int .i64 y1), (.int .i64 y2)] → Blk W Lb #[.slice A N c] → Cells W A xs → IterM Fence.wide n Try.prog 101 #[.pointer (some ⟨Xb, 0, none⟩), .pointer (some ⟨Lb, 0, none⟩), .pointer (some ⟨Sb, 0, none⟩)] encO (allS b0 b1 b2 a1 a2 sh (x1, x2, y1, y2) xs N) (blks Sb Xb Lb Db) W) :=
    Lib.hid (fun W Sb Xb Lb n k1 k2 k3 k4 => by rw [hN] at k3 ⊢; exact outputs1_iter b0 b1 b2 a1 a2 sh x1 x2 y1 y2 xs Sb Xb Lb Db A c W n h0 h1 h2 h3 h4 h5 hst hx hn k1 k2 k3 k4 (fun h => by obtain ⟨o, e, _⟩ := hD h; exact ⟨o, e⟩))
  rw [← hN] at hn ⊢
  have HLS := Lib.hid (lastX_all b0 b1 b2 a1 a2 sh (x1, x2, y1, y2) xs N)
  have HSK := Lib.hid (soK_all b0 b1 b2 a1 a2 sh (x1, x2, y1, y2) xs N)
  have HAL := Lib.hid (allS_len b0 b1 b2 a1 a2 sh (x1, x2, y1, y2) xs N)
  obtain ⟨AL, hAL⟩ : ∃ AL, AL = allS b0 b1 b2 a1 a2 sh (x1, x2, y1, y2) xs N := ⟨_, rfl⟩
  obtain ⟨LX, hLX⟩ : ∃ LX, LX = ssAt b0 b1 b2 a1 a2 sh (x1, x2, y1, y2) xs N := ⟨_, rfl⟩
  obtain ⟨SK, hSK⟩ : ∃ SK, SK = soK b0 b1 b2 a1 a2 sh (x1, x2, y1, y2) xs N := ⟨_, rfl⟩
  rw [← hAL] at HI HLS HSK HAL
  rw [← hLX] at HLS ⊢
  rw [← hSK] at HSK ⊢
  clear hC hN h0 h1 h2 h3 h4 h5 hst hx hAL hLX hSK
  have HD := Lib.hid hD
  clear hD
  refine (callsIn_wide (n := 10)).1 ?_
  refine callsIn_of_wp_marks Try.func50 rfl trivial ?_ rfl
  simp only [Try.ntmps50, List.size_toArray, List.length_cons, List.length_nil, Nat.reduceAdd, Nat.reduceSub, Array.replicate_succ, Array.replicate_zero, List.push_toArray, List.append_toArray, List.nil_append, List.cons_append]
  gi_wp2_with (gi_at_call 86; refine (callsIn_wide.2 (HO.out N _)).mono ?_; rintro r w5 ⟨rfl, hb5, K0, K1, K2⟩; obtain ⟨hc5, hf5⟩ := bcell hb5)
  simp only [World.size_alloc] at K0 K1 K2
  have hz5 := K2.lt
  have hO5 : Boxed w5 (w.heap.size + 1 + 1 + 1) 22 (.slice none 0 0) := (hb5.block _ (by simp)).trans (heap_new (by simp))
  have KX : Blk w5 (w.heap.size + 1) #[(.int .i64 x1), (.int .i64 x2), (.int .i64 y1), (.int .i64 y2)] := Blk.below (by (repeat (first | ((with_reducible refine Blk.at_ ?_); focus (first | rfl | (simp; done) | (simp; omega))) | (with_reducible refine Blk.alloc ?_ _) | (with_reducible refine Blk.below ?_ (by with_reducible assumption)) | (with_reducible refine Blk.drew ?_)))) hb5
  have KR : Blk w5 (w.heap.size + 1 + 1) #[(.int .i64 0), (.int .i64 0), (.int .i64 0), (.int .i64 0)] := Blk.below (by (repeat (first | ((with_reducible refine Blk.at_ ?_); focus (first | rfl | (simp; done) | (simp; omega))) | (with_reducible refine Blk.alloc ?_ _) | (with_reducible refine Blk.below ?_ (by with_reducible assumption)) | (with_reducible refine Blk.drew ?_)))) hb5
  have HB5 := Lib.hid (show Below w.heap.size w w5 from Below.trans (by (repeat (first | (with_reducible exact Below.refl _ _) | ((with_reducible refine Below.setCell ?_ ?_ _); rotate_left 1; focus (first | (simp; done) | (simp; omega) | (simp at *; omega))) | ((with_reducible refine Below.alloc ?_ ?_ _); rotate_left 1; focus (first | (simp; done) | (simp; omega) | (simp at *; omega))) | (with_reducible refine Below.drew ?_) | ((with_reducible refine Calm.step (by assumption) ?_ ?_); rotate_left 1; focus (first | (simp; done) | (simp; omega) | (simp at *; omega)))))) (hb5.mono (by simp; omega)))
  have HIT := Lib.hid (HI.out w5 _ _ _ (10 - 1) K0 K1 K2 (HC.out.below (Below.trans (by (repeat (first | (with_reducible exact Below.refl _ _) | ((with_reducible refine Below.setCell ?_ ?_ _); rotate_left 1; focus (first | (simp; done) | (simp; omega) | (simp at *; omega))) | ((with_reducible refine Below.alloc ?_ ?_ _); rotate_left 1; focus (first | (simp; done) | (simp; omega) | (simp at *; omega))) | (with_reducible refine Below.drew ?_) | ((with_reducible refine Calm.step (by assumption) ?_ ?_); rotate_left 1; focus (first | (simp; done) | (simp; omega) | (simp at *; omega)))))) (hb5.mono (by simp; omega)))))
  have HKR := Lib.hid KR
  clear hb5 hc5 hf5 K0 K1 K2 HI HO KR
  have hIO : OwnFrom w5.heap.size (fun (pre : List (Int × XS)) W => ((∃ v, Boxed W (w.heap.size + 1 + 1 + 1) 22 v ∧ W.ownsRow (w5.heap.size + 3) 3 1 v pre.length ((pre.map Prod.fst).map (Value.int .i64)) ∧ True) ∧ Blk W (w.heap.size + 1) (encX (lastX (x1, x2, y1, y2) pre)) ∧ ((∀ k, k < w5.heap.size → ¬ (k = w.heap.size + 1 ∨ k = w.heap.size + 1 + 1 + 1) → W.heap[k]? = w5.heap[k]?) ∧ Below w.heap.size w W))) :=
    OwnFrom.and ((holdsRow_own _ _ _ _ _ _ _ _).from _) (OwnFrom.and (blk_own _ _ (by omega) _) (OwnFrom.and (kbS_own w5 _) (ownFrom_below (Nat.le_refl _) (by omega))))
  have HIO := Lib.hid hIO
  refine range_iterM (F := Fence.wide) (n := 10) rfl (by decide) (gf := 101) (lb := #[.pointer (some ⟨w.heap.size + 1 + 1 + 1 + 1 + 1, 0, none⟩), .pointer (some ⟨w.heap.size + 1 + 1 + 1 + 1 + 1 + 1, 0, none⟩), .pointer (some ⟨w.heap.size + 1 + 1 + 1 + 1, 0, none⟩)]) rfl trivial (enters_of Try.func101 (by kernel_rfl) rfl)
    (enc := encO) (all := AL) (C := blks (w.heap.size + 1 + 1 + 1 + 1) (w.heap.size + 1 + 1 + 1 + 1 + 1) (w.heap.size + 1 + 1 + 1 + 1 + 1 + 1) Db) (by rintro k (rfl | rfl | rfl | rfl) <;> omega) HIT.out (fun _ => rfl)
    _
    hIO ?his ⟨⟨_, hO5, World.ownsRow_nil _ _ _ _, trivial⟩, KX, fun _ _ _ => rfl, HB5.out⟩
    (fun (pre : List (Int × XS)) (x : Int × XS) (a' : Act) (W : World) => ((∃ v, Boxed W (w.heap.size + 1 + 1 + 1) 22 v ∧ W.ownsRow (w5.heap.size + 3) 3 1 v pre.length ((pre.map Prod.fst).map (Value.int .i64)) ∧ True) ∧ Blk W (w.heap.size + 1) (encX (lastX (x1, x2, y1, y2) pre)) ∧ ((∀ k, k < w5.heap.size → ¬ (k = w.heap.size + 1 ∨ k = w.heap.size + 1 + 1 + 1) → W.heap[k]? = w5.heap[k]?) ∧ Below w.heap.size w W)) ∧
      ∃ Bx, w5.heap.size + 2 < Bx ∧ W.heap[Bx]? = some (.cells (encX x.2) 93 (0, 0)) ∧ a' = { tmps := #[.agg #[(.int .i64 b0), (.int .i64 b1), (.int .i64 b2), (.int .i64 a1), (.int .i64 a2), (.int .i64 sh)], .agg #[(.int .i64 x1), (.int .i64 x2), (.int .i64 y1), (.int .i64 y2)], .slice A N c, .pointer (some ⟨w.heap.size, 0, none⟩), .pointer (some ⟨w.heap.size + 1, 0, none⟩), undef, .slice none 0 0, .pointer (some ⟨w.heap.size + 1 + 1, 0, none⟩), .pointer (some ⟨w.heap.size + 1 + 1 + 1, 0, none⟩), (.int .i64 (x.1)), .pointer (some ⟨Bx, 0, none⟩), .agg #[(.int .i64 b0), (.int .i64 b1), (.int .i64 b2), (.int .i64 a1), (.int .i64 a2), (.int .i64 sh)], .agg #[(.int .i64 x1), (.int .i64 x2), (.int .i64 y1), (.int .i64 y2)], .slice A N c, .func (.func 101) #[] #[.pointer (some ⟨w.heap.size + 1 + 1 + 1 + 1 + 1, 0, none⟩), .pointer (some ⟨w.heap.size + 1 + 1 + 1 + 1 + 1 + 1, 0, none⟩), .pointer (some ⟨w.heap.size + 1 + 1 + 1 + 1, 0, none⟩)], (.int .i64 (x.1)), .agg (encX x.2), undef, undef, undef, undef, undef, undef, undef], defers := [] })
    ?hax ?assign ?body ?done
  case his =>
    rintro pre W i v ⟨⟨v0, hv, ho, _⟩, hkx, hk, hB⟩
    exact ⟨⟨v0, (Below.heap_setCell _ _ _ _ (by simp; omega)).trans hv, ownsRow_setCell_below ho (by simp) v, trivial⟩, Blk.far hkx (by simp; omega) v, fun k h1 h2 => (Below.heap_setCell _ _ _ _ (by simp; omega)).trans (hk k h1 h2), hB.setCell (by simp; omega) v⟩
  case hax =>
    rintro pre x a' s X Y row ⟨hi, Bx, h1, h2, h3⟩ hg hrow
    exact ⟨hIO pre X Y row hi hg hrow, Bx, h1, heapRow_own Bx (fun x : Int × XS => encX x.2) _ x X Y row h2 hg (fun r e => (hrow r e).2), h3⟩
  case assign =>
    rintro l pre x W hi ⟨post, hpost⟩ hsz hcb
    have hsem : ∀ (ρ : Operand → Value) (o : Oper), (∀ c, o.op ≠ .defer c) → Oper.semAt (some l) ρ o = execOp ρ o := Oper.semAt_some l
    have HI := Lib.hid hi
    clear hi hIO hpost hcb
    dsimp only [encO]
    gi_wp2
    exact ⟨(Same.refl _ _).alloc _, HIO.out.alloc _ HI.out, W.heap.size, hsz, World.alloc_heap_new W _, rfl⟩
  case body =>
    rintro l pre ⟨y, s1, s2, s3, s4⟩ a' W ⟨⟨⟨v, hv, ho, _⟩, hkx, hk, hB⟩, Bx, hBx, hx, rfl⟩ ⟨post, hpost⟩ hsz hcb
    have hsem : ∀ (ρ : Operand → Value) (o : Oper), (∀ c, o.op ≠ .defer c) → Oper.semAt (some l) ρ o = execOp ρ o := Oper.semAt_some l
    have hlen : pre.length + 1 ≤ 5000 := by have h1 := HAL.out; rw [hpost] at h1; simp at h1; omega
    obtain ⟨_, _, _, _, hxl, hxf⟩ := (Calm.Blk.row hx).o4
    have KX1 := Calm.Blk.row hx
    have hnx : ∀ k, v.ownBlock = some k → k ≠ Bx := by
      rintro k e rfl
      rcases ho.2 with ⟨rfl, _⟩ | ⟨g, cap, cur, rfl, h1, h2, _⟩
      · cases e
      · cases e
        rw [hx] at h2
        cases h2
    have vc := hv.cell
    have vl := hv.lt
    have HV := Lib.hid hv
    have HK := Lib.hid hk
    have HB := Lib.hid hB
    have HO := Lib.hid ho
    have HKX := Lib.hid hkx
    have HX := Lib.hid KX1
    clear hv hk hB ho hkx hx hIO hpost hcb KX1
    dsimp only [encX]
    gi_wp2_with (gi_at_builtin; refine wpListIn_append_own _ rfl _ _ 22 rfl (w5.heap.size + 3) 3 i0 _ 1 8 Try.underlying22 hi iz0 iz1 iz2 rfl (by decide) _ _ _ rfl (HO.out.alloc _) ⟨W.heap.size, 0, none⟩ 1 1 [(.int .i64 y)] rfl rfl ?c1 ?c2 ?c3 ?c4 ?c5 ?_)
    case c2 => rfl
    case c3 => unfold maxLen; omega
    case c4 => omega
    case c5 => have h1 := HB5.out.size; simp; omega
    intro v' w7 hown' hgrow _
    have hv6 : Boxed (W.alloc (.cells #[(.int .i64 y)] 3)) (w.heap.size + 1 + 1 + 1) 22 v := heap_old (by omega) HV.out
    have hne : ∀ k, v.ownBlock = some k → w5.heap.size + 3 ≤ k := fun k e => (HO.out.lt k e).1
    have hv7 : Boxed w7 (w.heap.size + 1 + 1 + 1) 22 v := hv6.kept hgrow (fun e => by have := hne _ e.symm; omega)
    have hb7 : ∀ k, k < W.heap.size → k < w5.heap.size + 3 → w7.heap[k]? = W.heap[k]? := fun k h1 h2 => (hgrow.block k (by simp; omega) (fun e => by have := hne k e.symm; omega)).trans (heap_old h1 rfl)
    have hX7 : Blk w7 Bx (encX (s1, s2, s3, s4)) := grown_blk (HX.out.alloc _) hgrow hnx
    have hs7 : W.heap.size < w7.heap.size := by have := hgrow.size; simp at this; omega
    have vc7 := hv7.cell
    have vf7 := hv7.frozen
    have HOW := Lib.hid hown'
    have HGR := Lib.hid hgrow
    have HNE := Lib.hid hne
    have HV7 := Lib.hid hv7
    obtain ⟨d0, d1, d2, d3, dl, df⟩ := hX7.o4
    have K7 : Blk w7 (w.heap.size + 1) (encX (lastX (x1, x2, y1, y2) pre)) := Calm.Blk.of_block HKX.out (hb7 _ (by omega) (by omega))
    obtain ⟨_, _, _, _, ql, qf⟩ := K7.o4
    have HK7 := Lib.hid K7
    have HB7 := Lib.hid hb7
    have ql1 : w.heap.size + 1 < w7.heap.size := by omega
    have ql2 : w.heap.size + 1 + 1 + 1 < w7.heap.size := by omega
    obtain ⟨g', cap', rfl⟩ := ownsRow_succ hown'
    clear hgrow hne hown' K7 hb7 hv7 hv6 hX7
    gi_wp2
    refine ⟨?same, ⟨⟨.slice (some ⟨g', 0, none⟩) (pre.length + 1) cap', ?bx, ?own⟩, ?kx, ?kb, ?blw⟩⟩
    case same =>
      refine Same.setCell (Same.setCell (Same.setCell (Same.setCell (Same.setCell (p := ⟨w.heap.size + 1 + 1 + 1, 0, none⟩) (Same.grown ((Same.refl _ _).alloc _) HGR.out (fun k e hk => by have := HNE.out k e; rcases hk with (rfl | rfl | rfl | rfl) | rfl | rfl | rfl <;> omega)) ?_ _) ?_ _) ?_ _) ?_ _) ?_ _ <;>
        (rintro ((h | h | h | h) | h | h | h) <;> simp at h <;> omega)
    case bx => exact (Below.heap_setCell _ _ _ _ (by simp <;> omega)).trans ((Below.heap_setCell _ _ _ _ (by simp <;> omega)).trans ((Below.heap_setCell _ _ _ _ (by simp <;> omega)).trans ((Below.heap_setCell _ _ _ _ (by simp <;> omega)).trans (HV7.out.set _))))
    case own =>
      refine ownsRow_setCell_below (ownsRow_setCell_below (ownsRow_setCell_below (ownsRow_setCell_below (ownsRow_setCell_below ?_ (by simp; omega) _) (by simp; omega) _) (by simp; omega) _) (by simp; omega) _) (by simp; omega) _
      have := HOW.out
      simpa using this
    case kx =>
      rw [lastX_snoc]
      exact ((((HK7.out.far (by simp <;> omega) _).set (i := 0) (by simp [encX]) _).set (i := 1) (by simp [encX]) _).set (i := 2) (by simp [encX]) _).set (i := 3) (by simp [encX]) _
    case kb =>
      intro k h1 h2 h3
      rw [Below.heap_setCell _ _ _ _ (by simpa using h2), Below.heap_setCell _ _ _ _ (by simpa using h2), Below.heap_setCell _ _ _ _ (by simpa using h2), Below.heap_setCell _ _ _ _ (by simpa using h2), Below.heap_setCell _ _ _ _ (by simpa using h3)]
      exact (HB7.out k (by omega) (by omega)).trans (HK.out k h1 (by rintro (h | h) <;> omega))
    case blw =>
      refine ((((Below.setCell ((HB.out.alloc (by omega) _).grown HGR.out (by simp <;> omega) (fun k e => by have := HNE.out k e; omega)) (by simp <;> omega) _).setCell (by simp <;> omega) _).setCell (by simp <;> omega) _).setCell (by simp <;> omega) _).setCell (by simp <;> omega) _
  case done =>
    rintro W ⟨⟨v, hv, ho, _⟩, hkx, hk, hB⟩ hdef
    rw [HLS.out] at hkx
    rw [HSK.out, HAL.out] at ho
    obtain ⟨a, c', rfl⟩ := own_slice ho
    have vc := hv.cell
    have vl := hv.lt
    have HO := Lib.hid ho
    have HB := Lib.hid hB
    have HDEF := Lib.hid hdef
    have KR := HKR.out.of_block (hk _ (by omega) (by omega))
    obtain ⟨e0, e1, e2, e3, el, ef⟩ := hkx.o4
    obtain ⟨f0, f1, f2, f3, fl, ff⟩ := KR.o4
    have HKRW := Lib.hid KR
    have hDl := (Array.getElem?_eq_some_iff.1 hdef).1
    clear hIO ho hv hk hdef hB hkx KR
    gi_wp2
    refine wpIn_wide.2 ?_
    refine Calm.tail_below 3 (by kernel_rfl) (by kernel_rfl) ?_
    simp only [List.take_succ_cons, List.take_zero, List.drop_succ_cons, List.drop_zero]
    repeat (first | (apply Calm.op_move; (focus rfl); (focus (first | exact .inl rfl | exact .inr rfl)); (focus ((try simp only [Act.eval, Array.getD_eq_getD_getElem?, List.getElem?_toArray, List.getElem?_cons_succ, List.getElem?_cons_zero, Option.getD_some]); rfl)); (try simp only [Act.put, List.setIfInBounds_toArray, List.set_cons_zero, List.set_cons_succ])) | (apply Calm.op_not; (focus rfl); (try simp only [Act.put, List.setIfInBounds_toArray, List.set_cons_zero, List.set_cons_succ])) | (apply Calm.op; (focus rfl); (focus (intro W hb; obtain ⟨hc, hf⟩ := bcell hb; clear hb hf; go_simp; (try go_bits); (try rfl); done)); (try simp only [Act.put, List.setIfInBounds_toArray, List.set_cons_zero, List.set_cons_succ])))
    refine wpQuiet_nil ?_
    intro w6 hb6
    obtain ⟨hb6c, hb6f⟩ := bcell hb6
    have hb6z := hb6.size
    (try simp at hb6z)
    (try have hb6z0 : w.heap.size < w6.heap.size := by omega)
    (try have hb6z1 : w.heap.size + 1 < w6.heap.size := by omega)
    (try have hb6z2 : w.heap.size + 1 + 1 < w6.heap.size := by omega)
    (try have hb6z3 : w.heap.size + 1 + 1 + 1 < w6.heap.size := by omega)
    (try have hb6z4 : w.heap.size + 1 + 1 + 1 + 1 < w6.heap.size := by omega)
    (try have hb6z5 : w.heap.size + 1 + 1 + 1 + 1 + 1 < w6.heap.size := by omega)
    have HB6 := Lib.hid (HB.out.trans (hb6.mono HB.out.size))
    have hown6 := ownsRow_below HO.out hb6
    have hdef6 := (hb6.block _ hDl).trans HDEF.out
    have hDl6 : w5.heap.size < w6.heap.size := (Array.getElem?_eq_some_iff.1 hdef6).1
    have HO6 := Lib.hid hown6
    have HD6 := Lib.hid hdef6
    have KR6 := HKRW.out.below hb6
    have HKR6 := Lib.hid KR6
    obtain ⟨g0, g1, g2, g3, gl, gf⟩ := KR6.o4
    clear hown6 hdef6 hb6 hb6c hb6f f0 f1 f2 f3 fl ff KR6
    go_wp2
    gi_wp2
    obtain ⟨W8, hW8⟩ : ∃ W8, W8 = ((((w6.setCell ⟨w.heap.size + 1 + 1, 0, none⟩ (.int .i64 (LX.1))).setCell ⟨w.heap.size + 1 + 1, 1, none⟩ (.int .i64 (LX.2.1))).setCell ⟨w.heap.size + 1 + 1, 2, none⟩ (.int .i64 (LX.2.2.1))).setCell ⟨w.heap.size + 1 + 1, 3, none⟩ (.int .i64 (LX.2.2.2))) := ⟨_, rfl⟩
    have K8 : Blk W8 (w.heap.size + 1 + 1) (encX LX) := by
      rw [hW8]
      exact (((HKR6.out.set (i := 0) (by simp) _).set (i := 1) (by simp) _).set (i := 2) (by simp) _).set (i := 3) (by simp) _
    have D8 : W8.heap[w5.heap.size]? = some (.deferred (some [])) := by
      rw [hW8, Below.heap_setCell _ _ _ _ (by simp <;> omega), Below.heap_setCell _ _ _ _ (by simp <;> omega), Below.heap_setCell _ _ _ _ (by simp <;> omega), Below.heap_setCell _ _ _ _ (by simp <;> omega)]
      exact HD6.out
    have B8 : Below w.heap.size w W8 := by
      rw [hW8]
      exact (((HB6.out.setCell (by simp <;> omega) _).setCell (by simp <;> omega) _).setCell (by simp <;> omega) _).setCell (by simp <;> omega) _
    have O8 : W8.ownsRow (w5.heap.size + 3) 3 1 (.slice a N c') N (SK.map (Value.int .i64)) := by
      rw [hW8]
      exact ownsRow_setCell_below (ownsRow_setCell_below (ownsRow_setCell_below (ownsRow_setCell_below HO6.out (by simp <;> omega) _) (by simp <;> omega) _) (by simp <;> omega) _) (by simp <;> omega) _
    rw [← hW8]
    clear hW8 g0 g1 g2 g3 gl gf
    refine ⟨by simp, .inl ⟨_, _, rfl, run_takeDeferred D8, ?_⟩⟩
    have K9 : Blk (W8.putObj w5.heap.size (.deferred none)) (w.heap.size + 1 + 1) (encX LX) := K8.of_block (World.putObj_heap_other (by omega))
    have O9 := ownsRow_putObj O8 (.deferred none) D8 rfl
    have B9 := B8.trans (belowK_b (w := w) (Nat.le_refl _) W8 w5.heap.size (.deferred (some [])) (.deferred none) (by omega) D8 rfl rfl)
    obtain ⟨A9, c9, hv9, hf9, hC9⟩ := own_ints O9 (by rw [← HSK.out, List.length_map, HAL.out])
    cases hv9
    clear K8 D8 B8 O8
    obtain ⟨k0, k1, k2, k3, _, _⟩ := Blk.o4 K9
    refine ⟨.tuple #[.slice a N c', .agg (encX LX)], ?_, ⟨a, c', rfl, fun p e => ?_, hC9⟩, B9⟩
    · simp [results, Try.results50, go_sem, encX, k0, k1, k2, k3]
    · have h1 := hf9 p e
      subst e
      exact ⟨by omega, own_unf O9⟩
end Go.Proofs.Ytamldoidalnloaa

/- chamber's pair and Answers. -/
namespace Go.Proofs.Ytamldoidalnloaa
open Go.RowKit
open Calm (bcell Blk)
set_option maxRecDepth 100000 in
set_option maxHeartbeats 1000000 in
theorem cPair_any (e : Nat) (he : e ≤ 6) (w : World) : Calls Try.prog 26 #[(.int .i64 (((2 ^ e : Nat) : Int)))] w fun r w' => ∃ u v, r = .returned (.tuple #[.agg #[u, v], (.int .i64 0)]) ∧ FS w.heap.size (gol e).1 u w' ∧ FS w.heap.size (gol e).2 v w' ∧ Below w.heap.size w w' := by
  have HP := Lib.hid (fun W => pair_any e he W)
  obtain ⟨n, hn⟩ : ∃ n, n = 2 ^ e := ⟨_, rfl⟩
  obtain ⟨G1, hG1⟩ : ∃ G1, G1 = (gol e).1 := ⟨_, rfl⟩
  obtain ⟨G2, hG2⟩ : ∃ G2, G2 = (gol e).2 := ⟨_, rfl⟩
  rw [← hn, ← hG1, ← hG2] at HP
  rw [← hn, ← hG1, ← hG2]
  clear hn hG1 hG2
  go_enter Try.func26, Try.ntmps26
  go_wp2_with (go_at_call 14; refine name_calls ?_; intro w1 e1; refine Hid.out ?_)
  unfold Hid
  have h1 : Below w.heap.size w w1 := by rw [e1]; exact bel
  have K1 : Blk w1 w.heap.size #[.slice none 0 0, .slice none 0 0] := by rw [e1]; (repeat (first | ((with_reducible refine Blk.at_ ?_); focus (first | rfl | (simp; done) | (simp; omega))) | (with_reducible refine Blk.alloc ?_ _) | (with_reducible refine Blk.below ?_ (by with_reducible assumption)) | (with_reducible refine Blk.drew ?_)))
  refine (HP.out w1).mono ?_
  rintro r w2 ⟨u, v, rfl, ⟨A, a, rfl, hA, fA⟩, ⟨B, b, rfl, hB, fB⟩, h2⟩
  have K2 := Lib.hid (K1.below h2)
  have HB2 := Lib.hid (h1.trans (h2.mono h1.size))
  have HA := Lib.hid hA
  have HBB := Lib.hid hB
  have FA : Hid (∀ p, A = some p → w.heap.size < p.block) := Lib.hid (fun p hp => by have := fA p hp; have := K1.lt; omega)
  have FB : Hid (∀ p, B = some p → w.heap.size < p.block) := Lib.hid (fun p hp => by have := fB p hp; have := K1.lt; omega)
  obtain ⟨f0, f1, fl, ff⟩ := K2.out.o2
  clear e1 h1 h2 K1 hA hB fA fB
  go_wp2
  refine name_post ?_
  intro wz ez
  have KZ : Blk wz w.heap.size #[.slice A G1.length a, .slice B G2.length b] := by rw [ez]; exact (K2.out.set (i := 0) (by simp) _).set (i := 1) (by simp) _
  have hbz : But w.heap.size w2 wz := by rw [ez]; exact (But.put _ 0 _).trans (But.put _ 1 _)
  have hB : Below w.heap.size w wz := by rw [ez]; exact (HB2.out.setCell (by simp) _).setCell (by simp) _
  clear ez f0 f1 fl ff
  obtain ⟨k0, k1, -, -⟩ := KZ.o2
  refine bodyPost_ret (v := .tuple #[.agg #[.slice A G1.length a, .slice B G2.length b], (.int .i64 0)]) (by simp [results, Try.results26, go_sem, k0, k1]) rfl ⟨_, _, rfl, ⟨A, a, rfl, HA.out.but (fun p hp => by have := FA.out p hp; omega) hbz, fun p hp => Nat.le_of_lt (FA.out p hp)⟩, ⟨B, b, rfl, HBB.out.but (fun p hp => by have := FB.out p hp; omega) hbz, fun p hp => Nat.le_of_lt (FB.out p hp)⟩, hB⟩
theorem Cells.of_blocks {w w' : World} {A : Option Addr} {zs : List Int} (h : Cells w A zs) (hW : ∀ p, A = some p → w'.heap[p.block]? = w.heap[p.block]?) : Cells w' A zs := fun h0 => by
  obtain ⟨b, off, rfl, hl, hc⟩ := h h0
  have e := hW _ rfl
  refine ⟨b, off, rfl, ?_, fun k hk => (World.cell?_of_block (w := w) (a := ⟨b, off + k, none⟩) e).trans (hc k hk)⟩
  have e' : w'.heap[b]? = w.heap[b]? := e
  rw [Array.getElem?_eq_getElem hl] at e'
  exact (Array.getElem?_eq_some_iff.1 e').1
theorem pre_of {pre : List Nat} {x : Nat} (h : ∃ post, List.range 2 = pre ++ x :: post) : (pre = [] ∧ x = 0) ∨ (pre = [0] ∧ x = 1) := by
  obtain ⟨post, h⟩ := h
  have h' : ([0, 1] : List Nat) = pre ++ x :: post := h
  match pre, h' with
  | [], h' => injection h' with h1 _; exact .inl ⟨rfl, h1.symm⟩
  | [y], h' => injection h' with h1 h2; injection h2 with h3 _; subst h1; exact .inr ⟨rfl, h3.symm⟩
  | y :: z :: r, h' =>
    have := congrArg List.length h'
    simp at this
end Go.Proofs.Ytamldoidalnloaa

/- chamber's sums. -/
namespace Go.Proofs.Ytamldoidalnloaa
open Go.RowKit
open Calm (bcell Blk)
/-- the sum at j of two answers with a pair, as far as the first i elements. -/
def smAt (p0 p1 a b : List Int) (j : Nat) : Nat → Int
  | 0 => 0
  | i + 1 => smAt p0 p1 a b j i + (p0.getD i 0 * a.getD (i + j) 0 + p1.getD i 0 * b.getD (i + j) 0)
def smL (p0 p1 a b : List Int) (n k : Nat) : List Int := (List.range k).map fun j => smAt p0 p1 a b j n
def pms (l : List Int) : Prop := ∀ k, -1 ≤ l.getD k 0 ∧ l.getD k 0 ≤ 1
theorem pms_of {l : List Int} (h : ∀ x ∈ l, x = 1 ∨ x = -1) : pms l := fun k => by
  rcases Nat.lt_or_ge k l.length with hk | hk
  · rw [List.getD_eq_getElem?_getD, List.getElem?_eq_getElem hk]
    have := h _ (List.getElem_mem hk)
    show -1 ≤ l[k] ∧ l[k] ≤ 1
    omega
  · rw [List.getD_eq_getElem?_getD, List.getElem?_eq_none hk]
    exact ⟨by decide, by decide⟩
theorem pm_bd {x y : Int} (hx : -1 ≤ x ∧ x ≤ 1) (hy : -1048576 ≤ y ∧ y ≤ 1048576) : -1048576 ≤ x * y ∧ x * y ≤ 1048576 := by
  rcases (by omega : x = -1 ∨ x = 0 ∨ x = 1) with rfl | rfl | rfl <;> omega
theorem smAt_bd {p0 p1 a b : List Int} (h0 : pms p0) (h1 : pms p1) (ha : lvls a) (hb : lvls b) (j : Nat) : ∀ i : Nat, -2097152 * (i : Int) ≤ smAt p0 p1 a b j i ∧ smAt p0 p1 a b j i ≤ 2097152 * (i : Int)
  | 0 => by simp [smAt]
  | i + 1 => by
    have q := smAt_bd h0 h1 ha hb j i
    have q0 := pm_bd (h0 i) (lvl_get ha (i + j))
    have q1 := pm_bd (h1 i) (lvl_get hb (i + j))
    simp only [smAt]
    omega
theorem smL_len (p0 p1 a b : List Int) (n k : Nat) : (smL p0 p1 a b n k).length = k := by simp [smL]
theorem smL_succ (p0 p1 a b : List Int) (n k : Nat) : smL p0 p1 a b n (k + 1) = smL p0 p1 a b n k ++ [smAt p0 p1 a b k n] := by simp [smL, List.range_succ]
set_option maxRecDepth 100000 in
set_option maxHeartbeats 8000000 in
theorem sums_ok (a b : List Int) (e : Nat) (he : e ≤ 6) (A B : Option Addr) (ca cb L : Nat) (w : World) (hLa : L = a.length) (hLb : L = b.length) (hL1 : 2 ^ e ≤ L) (hL2 : L ≤ 2 ^ e + 255) (ha : lvls a) (hb : lvls b) (hA : Cells w A a) (hB : Cells w B b) :
    Calls Try.prog 32 #[.slice A L ca, .slice B L cb, (.int .i64 (((2 ^ e : Nat) : Int)))] w fun r w' => ∃ s u v, r = .returned (.tuple #[s, .agg #[u, v], (.int .i64 0)]) ∧ FS w.heap.size (smL (gol e).1 (gol e).2 a b (2 ^ e) (L - 2 ^ e + 1)) s w' ∧ FS w.heap.size (gol e).1 u w' ∧ FS w.heap.size (gol e).2 v w' ∧ Below w.heap.size w w' := by
  obtain ⟨g1, g2⟩ := gol_len e
  obtain ⟨m1, m2⟩ := gol_pm e
  have hp64 := pow_le_64 he
  have HP := Lib.hid (fun W => cPair_any e he W)
  have hpm1 := pms_of m1
  have hpm2 := pms_of m2
  obtain ⟨M, hM⟩ : ∃ M, M = 2 ^ e := ⟨_, rfl⟩
  obtain ⟨P0, hP0⟩ : ∃ P0, P0 = (gol e).1 := ⟨_, rfl⟩
  obtain ⟨P1, hP1⟩ : ∃ P1, P1 = (gol e).2 := ⟨_, rfl⟩
  rw [← hM, ← hP0, ← hP1] at HP
  rw [← hP0, ← hM] at g1
  rw [← hP1, ← hM] at g2
  rw [← hP0] at hpm1
  rw [← hP1] at hpm2
  rw [← hM] at hp64 hL1 hL2
  rw [← hM, ← hP0, ← hP1]
  have HSB := Lib.hid (fun j i => smAt_bd hpm1 hpm2 ha hb j i)
  have HPB1 := Lib.hid hpm1
  have HPB2 := Lib.hid hpm2
  have HAB := Lib.hid (fun k => lvl_get ha k)
  have HBB := Lib.hid (fun k => lvl_get hb k)
  have HSA : Hid (∀ W, Cells W A a → Calls Try.prog 54 #[.slice A L ca] W fun r w' => r = .returned (.int .i64 0) ∧ Below W.heap.size W w') := Lib.hid (fun W q => gSequence_ok a A ca L W hLa q (by omega) ha)
  have HSBB : Hid (∀ W, Cells W B b → Calls Try.prog 54 #[.slice B L cb] W fun r w' => r = .returned (.int .i64 0) ∧ Below W.heap.size W w') := Lib.hid (fun W q => gSequence_ok b B cb L W hLb q (by omega) hb)
  have HF5 : Hid (∀ (W : World), Calls Try.prog 27 #[.slice (some ⟨W.heap.size, 0, none⟩) 5 5] (W.alloc (.cells #[(.int .i64 0), (.int .i64 0), (.int .i64 0), (.int .i64 0), (.int .i64 0)] 24)) fun r w' => r = .returned (.int .i64 0) ∧ (W.alloc (.cells #[(.int .i64 0), (.int .i64 0), (.int .i64 0), (.int .i64 0), (.int .i64 0)] 24)) = w') := Lib.hid (fun W => cFirst_cells [0, 0, 0, 0, 0] W (by simp))
  have HG1 := Lib.hid g1
  have HG2 := Lib.hid g2
  have HLA := Lib.hid hLa
  have HLB := Lib.hid hLb
  have HA := Lib.hid hA
  have HB := Lib.hid hB
  obtain ⟨K, hK⟩ : ∃ K, K = L - M + 1 := ⟨_, rfl⟩
  rw [← hK]
  have hKi : (L : Int) - (M : Int) + 1 = (K : Int) := by omega
  have HK := Lib.hid hK
  have c1 : ((L : Int) != (L : Int)) = false := by simp
  have c2 : 0 < (L : Int) := by omega
  have c3 : decide ((L : Int) < (M : Int)) = false := decide_eq_false (by omega)
  have c4 : decide ((M : Int) + 256 - 1 < (L : Int)) = false := decide_eq_false (by omega)
  have c5 : ((L : Int) == 0) = false := by simp; omega
  clear ha hb hA hB hLa hLb hpm1 hpm2 m1 m2 g1 g2 hP0 hP1 hM hK
  go_enter Try.func32, Try.ntmps32
  go_wp2_with (go_at_call 26; refine name_calls ?_; intro w1 e1; refine Hid.out ?_)
  unfold Hid
  have h1 : Below w.heap.size w w1 := by rw [e1]; exact bel
  have R1 : Blk w1 w.heap.size #[.slice none 0 0, .slice none 0 0] := by rw [e1]; (repeat (first | ((with_reducible refine Blk.at_ ?_); focus (first | rfl | (simp; done) | (simp; omega))) | (with_reducible refine Blk.alloc ?_ _) | (with_reducible refine Blk.below ?_ (by with_reducible assumption)) | (with_reducible refine Blk.drew ?_)))
  refine (HP.out w1).mono ?_
  rintro r w2 ⟨u, v, rfl, ⟨A1, a1, rfl, hA1, f1⟩, ⟨A2, a2, rfl, hA2, f2⟩, h2⟩
  have HB2 := Lib.hid (h1.trans (h2.mono h1.size))
  have HR2 := Lib.hid (R1.below h2)
  have HC1 := Lib.hid hA1
  have HC2 := Lib.hid hA2
  have F1 : Hid (∀ p, A1 = some p → w.heap.size < p.block) := Lib.hid (fun p hp => by have := f1 p hp; have := R1.lt; omega)
  have F2 : Hid (∀ p, A2 = some p → w.heap.size < p.block) := Lib.hid (fun p hp => by have := f2 p hp; have := R1.lt; omega)
  rw [HG1.out, HG2.out]
  clear e1 h1 R1 h2 hA1 hA2 f1 f2 HP
  go_wp2_with (go_at_call 54; refine name_calls ?_; intro w3 e3; refine Hid.out ?_)
  unfold Hid
  have h3 : Below w2.heap.size w2 w3 := by rw [e3]; exact bel
  have K9 : Blk w3 w2.heap.size #[.slice A1 M a1, .slice A2 M a2] := by rw [e3]; (repeat (first | ((with_reducible refine Blk.at_ ?_); focus (first | rfl | (simp; done) | (simp; omega))) | (with_reducible refine Blk.alloc ?_ _) | (with_reducible refine Blk.below ?_ (by with_reducible assumption)) | (with_reducible refine Blk.drew ?_)))
  have HB3 := Lib.hid (HB2.out.trans (h3.mono HB2.out.size))
  have HR3 := Lib.hid (HR2.out.below h3)
  have HC13 := Lib.hid (HC1.out.below h3)
  have HC23 := Lib.hid (HC2.out.below h3)
  clear e3 h3
  refine (HSA.out w3 (HA.out.below HB3.out)).mono ?_
  rintro r w4 ⟨rfl, h4⟩
  have HB4 := Lib.hid (HB3.out.trans (h4.mono HB3.out.size))
  have HR4 := Lib.hid (HR3.out.below h4)
  have K94 := Lib.hid (K9.below h4)
  have HC14 := Lib.hid (HC13.out.below h4)
  have HC24 := Lib.hid (HC23.out.below h4)
  clear h4 K9
  go_wp2_with (go_at_call 54; refine (HSBB.out w4 (HB.out.below HB4.out)).mono ?_; rintro r w6 ⟨rfl, h6⟩; refine Hid.out ?_)
  unfold Hid
  have HB6 := Lib.hid (HB4.out.trans (h6.mono HB4.out.size))
  have HR6 := Lib.hid (HR4.out.below h6)
  have K96 := Lib.hid (K94.out.below h6)
  have HC16 := Lib.hid (HC14.out.below h6)
  have HC26 := Lib.hid (HC24.out.below h6)
  clear h6
  go_wp2_with (first
    | (go_at_call 37; refine (cWhen_any _ _ _).mono ?_; rintro r w' ⟨rfl, rfl⟩)
    | (go_at_call 27; refine (HF5.out _).mono ?_; rintro r wx ⟨rfl, rfl⟩; refine Hid.out ?_))
  unfold Hid
  go_wp2
  refine name_world ?_
  intro w7 e7
  have h7 : Below w6.heap.size w6 w7 := by rw [e7]; exact bel
  have HB7 := Lib.hid (HB6.out.trans (h7.mono HB6.out.size))
  have HR7 := Lib.hid (HR6.out.below h7)
  have K97 := Lib.hid (K96.out.below h7)
  have HC17 := Lib.hid (HC16.out.below h7)
  have HC27 := Lib.hid (HC26.out.below h7)
  have HA7 := Lib.hid (HA.out.below HB7.out)
  have HBB7 := Lib.hid (HB.out.below HB7.out)
  have hz2 : w.heap.size < w2.heap.size := HR2.out.lt
  have hz7 : w2.heap.size < w7.heap.size := K97.out.lt
  clear e7 h7 c1 c2 c3 c4 c5
  go_loopw [67, 13] (fun z s wr => ∃ j : Nat, j ≤ K ∧ z = (.int .i64 ((j : Int))) ∧ wr.ownsRow w7.heap.size 3 1 s (smL P0 P1 a b M j).length ((smL P0 P1 a b M j).map (Value.int .i64)) ∧ Below w7.heap.size w7 wr) (fun z _ _ => K - (intOf z).toNat)
  case atStart => exact ⟨0, Nat.zero_le _, rfl, World.ownsRow_nil _ _ _ _, Below.refl _ _⟩
  case round =>
    obtain ⟨j, hj, rfl, ho, hb⟩ := hrel
    obtain ⟨S, d, rfl⟩ := own_slice ho
    have HO := Lib.hid ho
    have HBR := Lib.hid hb
    have hzr := hb.size
    clear ho hb
    by_cases hlt : j < K
    · have hjl : j + M ≤ L := by have := HK.out; omega
      go_wp2
      go_loopw [71, 15] (fun z s wq => ∃ i : Nat, i ≤ M ∧ z = (.int .i64 ((i : Int))) ∧ s = (.int .i64 (smAt P0 P1 a b j i)) ∧ Below wr.heap.size wr wq) (fun z _ _ => M - (intOf z).toNat)
      case atStart => exact ⟨0, Nat.zero_le _, rfl, rfl, Below.refl _ _⟩
      case round =>
        rename World => wq
        obtain ⟨i, hi, rfl, rfl, hbq⟩ := hrel
        have HBQ := Lib.hid hbq
        have hzq := hbq.size
        have HB7Q := Lib.hid (HBR.out.trans (hbq.mono HBR.out.size))
        clear hbq
        by_cases hil : i < M
        · have KQ := K97.out.below HB7Q.out
          obtain ⟨f0, f1, fl, ff⟩ := KQ.o2
          obtain ⟨b1, o1, rfl, l1, q1⟩ := (HC17.out.below HB7Q.out) (by rw [HG1.out]; omega)
          obtain ⟨b2, o2, rfl, l2, q2⟩ := (HC27.out.below HB7Q.out) (by rw [HG2.out]; omega)
          obtain ⟨b3, o3, rfl, l3, q3⟩ := (HA7.out.below HB7Q.out) (by rw [← HLA.out]; omega)
          obtain ⟨b4, o4, rfl, l4, q4⟩ := (HBB7.out.below HB7Q.out) (by rw [← HLB.out]; omega)
          have x1 := q1 i (by rw [HG1.out]; exact hil)
          have x2 := q2 i (by rw [HG2.out]; exact hil)
          have x3 := q3 (i + j) (by rw [← HLA.out]; omega)
          have x4 := q4 (i + j) (by rw [← HLB.out]; omega)
          have bs := HSB.out j i
          have bp := pm_bd (HPB1.out i) (HAB.out (i + j))
          have bq := pm_bd (HPB2.out i) (HBB.out (i + j))
          have HST : Hid (smAt P0 P1 a b j (i + 1) = smAt P0 P1 a b j i + (P0.getD i 0 * a.getD (i + j) 0 + P1.getD i 0 * b.getD (i + j) 0)) := Lib.hid rfl
          obtain ⟨y1, hy1⟩ : ∃ y, y = P0.getD i 0 := ⟨_, rfl⟩
          obtain ⟨y2, hy2⟩ : ∃ y, y = P1.getD i 0 := ⟨_, rfl⟩
          obtain ⟨y3, hy3⟩ : ∃ y, y = a.getD (i + j) 0 := ⟨_, rfl⟩
          obtain ⟨y4, hy4⟩ : ∃ y, y = b.getD (i + j) 0 := ⟨_, rfl⟩
          obtain ⟨s0, hs0⟩ : ∃ s, s = smAt P0 P1 a b j i := ⟨_, rfl⟩
          rw [← hy1] at x1
          rw [← hy2] at x2
          rw [← hy3] at x3
          rw [← hy4] at x4
          rw [← hs0] at bs
          rw [← hy1, ← hy3] at bp
          rw [← hy2, ← hy4] at bq
          rw [← hy1, ← hy2, ← hy3, ← hy4, ← hs0] at HST
          rw [← hs0]
          obtain ⟨X, hX⟩ : ∃ X, X = y1 * y3 := ⟨_, rfl⟩
          obtain ⟨Y, hY⟩ : ∃ Y, Y = y2 * y4 := ⟨_, rfl⟩
          rw [← hX] at bp
          rw [← hY] at bq
          rw [← hX, ← hY] at HST
          have hwx : wrap64 (y1 * y3) = X := by rw [← hX]; exact Go.IntWalk.wrap64_in _ (by omega)
          have hwy : wrap64 (y2 * y4) = Y := by rw [← hY]; exact Go.IntWalk.wrap64_in _ (by omega)
          have hii : (i : Int) < (M : Int) := by omega
          have hij : (i : Int) + (j : Int) < (L : Int) := by omega
          clear q1 q2 q3 q4 hy1 hy2 hy3 hy4 hs0 hX hY KQ
          go_wp2
          go_region
          go_wp2
          go_roundw
          case rel => exact ⟨i + 1, by omega, by go_num, by rw [HST.out], HBQ.out.drew⟩
          case measure => simp [intOf]; omega
        · obtain rfl : i = M := by omega
          have HSQ : Hid (smL P0 P1 a b i (j + 1) = smL P0 P1 a b i j ++ [smAt P0 P1 a b j i]) := Lib.hid (smL_succ _ _ _ _ _ _)
          obtain ⟨s0, hs0⟩ : ∃ s, s = smAt P0 P1 a b j i := ⟨_, rfl⟩
          rw [← hs0] at HSQ ⊢
          clear hs0
          have hle : (smL P0 P1 a b i j).length = j := smL_len _ _ _ _ _ _
          have HOQ := Lib.hid (ownsRow_below HO.out HBQ.out)
          go_wp2_with (at_builtin; refine name_list ?_; intro w8 e8; refine Hid.out ?_)
          unfold Hid
          have h8 : Below wq.heap.size wq w8 := by rw [e8]; exact bel
          have K8 : Blk w8 wq.heap.size #[(.int .i64 s0)] := by rw [e8]; exact Calm.Blk.new _ _ _
          have HO8 := Lib.hid (ownsRow_below HOQ.out h8)
          have HB8 := Lib.hid (HB7Q.out.trans (h8.mono HB7Q.out.size))
          have hC8 : Cells w8 (some ⟨wq.heap.size, 0, none⟩) [s0] := Cells.blk K8 rfl
          have hs8 := HB8.out.size
          clear e8 h8 K8
          refine wpList_appS rfl _ _ rfl w7.heap.size _ (smL P0 P1 a b i j) rfl HO8.out _ 1 1 [s0] rfl rfl hC8 (by omega) hs8 ?_
          intro v' w9 hown hgrow
          have HB9 := Lib.hid (HB8.out.grown hgrow hs8 (fun q hq => (HO8.out.lt q hq).1))
          have HO9 := Lib.hid hown
          clear hown hgrow hC8 hle
          go_wp2
          go_roundw
          case rel => exact ⟨j + 1, by omega, by go_num, by rw [HSQ.out]; exact HO9.out, HB9.out⟩
          case measure => simp [intOf]; omega
    · obtain rfl : j = K := by omega
      have HBW := Lib.hid (HB7.out.trans (HBR.out.mono HB7.out.size))
      have KR := HR7.out.below HBR.out
      have K9r := K97.out.below HBR.out
      have HKR := Lib.hid KR
      obtain ⟨f0, f1, fl, ff⟩ := K9r.o2
      obtain ⟨r0, r1, rl, rf⟩ := KR.o2
      have hle : (smL P0 P1 a b M j).length = j := smL_len _ _ _ _ _ _
      obtain ⟨B9, d9, hv9, hn9, hc9⟩ := own_ints (zs := smL P0 P1 a b M j) HO.out rfl
      cases hv9
      have HC9 := Lib.hid hc9
      clear KR K9r hc9
      go_wp2
      go_region
      go_wp2
      refine name_post ?_
      intro wz ez
      have KZ : Blk wz w.heap.size #[.slice A1 M a1, .slice A2 M a2] := by rw [ez]; exact Blk.drew ((HKR.out.set (i := 0) (by simp) _).set (i := 1) (by simp) _)
      have hbz : But w.heap.size wr wz := by rw [ez]; exact ((But.put _ 0 _).trans (But.put _ 1 _)).trans (But.drawn _)
      have hBz : Below w.heap.size w wz := by rw [ez]; exact ((HBW.out.setCell (by simp) _).setCell (by simp) _).drew
      clear ez f0 f1 fl ff r0 r1 rl rf
      obtain ⟨k0, k1, -, -⟩ := KZ.o2
      have hwz := HB7.out.size
      rw [hle]
      refine bodyPost_ret (v := .tuple #[.slice S j d, .agg #[.slice A1 M a1, .slice A2 M a2], (.int .i64 0)]) (by simp [results, Try.results32, go_sem, k0, k1]) rfl ⟨_, _, _, rfl, ⟨S, d, by rw [hle], HC9.out.but (fun p hp => by have := hn9 p hp; omega) hbz, fun p hp => by have := hn9 p hp; omega⟩, ⟨A1, a1, by rw [HG1.out], (HC17.out.below HBR.out).but (fun p hp => by have := F1.out p hp; omega) hbz, fun p hp => Nat.le_of_lt (F1.out p hp)⟩, ⟨A2, a2, by rw [HG2.out], (HC27.out.below HBR.out).but (fun p hp => by have := F2.out p hp; omega) hbz, fun p hp => Nat.le_of_lt (F2.out p hp)⟩, hBz⟩
end Go.Proofs.Ytamldoidalnloaa
