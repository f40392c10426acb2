/- Part 8 of the texts of the claim: Tc13, Tc14, Td0, Td1. -/
import Derived.Test.YtamldoidalnloaaMc7
import Derived.Test.YtamldoidalnloaaMc1
import Derived.WalkMore
import Derived.Test.YtamldoidalnloaaMc2
import Derived.Laws.RangeAny

/- slices.Backward as an iterator; chamber's decay and Decay. -/
namespace Go.Proofs.Ytamldoidalnloaa
open Go.RowKit
open Calm (bcell Blk)
theorem range_split {k N : Nat} (h : k < N) : List.range N = List.range k ++ k :: (List.range N).drop (k + 1) := by
  conv => lhs; rw [← List.take_append_drop k (List.range N)]
  congr 1
  · rw [List.take_range, Nat.min_eq_left (by omega)]
  · rw [List.drop_eq_getElem_cons (by simpa using h)]
    simp
/-- what is handed out in round k: an index, from the last one on, and the element. -/
def BackR (l : List Int) (N k : Nat) (v : Array Value) (_ : World) : Prop := v = #[(.int .i64 (((N - 1 - k : Nat) : Int))), (.int .i64 (l.getD (N - 1 - k) 0))]
def blk2 (a b k : Nat) : Prop := k = a ∨ k = b
theorem back_any (A : Option Addr) (N c : Nat) (w : World) : Calls Try.prog 75 #[.slice A N c] w fun e w' => e = .returned (.func (.func 96) #[] #[.pointer (some ⟨w.heap.size, 0, none⟩)]) ∧ Below w.heap.size w w' ∧ Blk w' w.heap.size #[.slice A N c] ∧ w'.heap.size = w.heap.size + 1 := by
  go_enter Try.func75, Try.ntmps75
  go_wp2
  go_ret
  exact ⟨by first | rfl | (simp; done), by (repeat (first | (with_reducible exact Below.refl _ _) | ((with_reducible refine Below.setCell ?_ ?_ _); rotate_left 1; focus (first | (simp; done) | (simp; omega) | (simp at *; omega))) | ((with_reducible refine Below.alloc ?_ ?_ _); rotate_left 1; focus (first | (simp; done) | (simp; omega) | (simp at *; omega))) | (with_reducible refine Below.drew ?_) | ((with_reducible refine Calm.step (by assumption) ?_ ?_); rotate_left 1; focus (first | (simp; done) | (simp; omega) | (simp at *; omega))))), by (repeat (first | ((with_reducible refine Blk.at_ ?_); focus (first | rfl | (simp; done) | (simp; omega))) | (with_reducible refine Blk.alloc ?_ _) | (with_reducible refine Blk.below ?_ (by with_reducible assumption)) | (with_reducible refine Blk.drew ?_))), by simp⟩
set_option maxRecDepth 100000 in
set_option maxHeartbeats 4000000 in
theorem back1_iter (l : List Int) (b o c N Bb : Nat) (w : World) (n : Nat) (hN : N = l.length) (hN5 : N ≤ 5000) (hb : b < w.heap.size) (hC : ∀ k, k < N → w.cell? ⟨b, o + k, none⟩ = some (.int .i64 (l.getD k 0))) (kB : Blk w Bb #[.slice (some ⟨b, o, none⟩) N c]) (h1n : 1 ≤ n) :
    IterR Fence.wide n Try.prog 96 #[.pointer (some ⟨Bb, 0, none⟩)] 2 (BackR l N) (List.range N) (blk2 Bb b) w := by
  intro r J W hCW hCl hle hJb hY h00
  have hfn : ∀ f, Fence.wide.fn f = True := fun _ => rfl
  have HE : Hid (∀ W' : World, (∀ k, blk2 Bb b k → W'.heap[k]? = w.heap[k]?) → Blk W' Bb #[.slice (some ⟨b, o, none⟩) N c] ∧ b < W'.heap.size ∧ ∀ k, k < N → W'.cell? ⟨b, o + k, none⟩ = some (.int .i64 (l.getD k 0))) := Lib.hid (fun W' hW => by
    have e := hW b (.inr rfl)
    refine ⟨kB.of_block (hW _ (.inl rfl)), ?_, fun k hk => (World.cell?_of_block (w := w) (a := ⟨b, o + k, none⟩) e).trans (hC k hk)⟩
    rw [Array.getElem?_eq_getElem hb] at e
    exact (Array.getElem?_eq_some_iff.1 e).1)
  have HCW := Lib.hid hCW
  have HJB := Lib.hid hJb
  have HY := Lib.hid hY
  obtain ⟨k0, bl0, x0⟩ := HE.out W HCW.out
  obtain ⟨l0, ll, lf⟩ := k0.o1
  clear hCW hCl hJb hY hC kB hN k0 x0
  refine callsIn_of_wp Try.func96 rfl trivial ?_ rfl
  simp only [Try.ntmps96, List.size_toArray, List.length_cons, List.length_nil, Nat.reduceAdd, Nat.reduceSub, Array.replicate_succ, Array.replicate_zero, List.push_toArray, List.append_toArray, List.nil_append, List.cons_append]
  gi_wp2
  gi_loopw [3] (fun i wr => ∃ k : Nat, k ≤ N ∧ i = (.int .i64 ((N : Int) - 1 - (k : Int))) ∧ J (List.range k) wr ∧ (∀ j, blk2 Bb b j → wr.heap[j]? = w.heap[j]?)) (fun i _ => ((intOf i) + 1).toNat)
  case atStart => exact ⟨0, Nat.zero_le _, by simp, h00, HCW.out⟩
  case round =>
    obtain ⟨k, hk, rfl, hJ1, hC1⟩ := hrel
    have HJ1 := Lib.hid hJ1
    have HC1 := Lib.hid hC1
    obtain ⟨kB1, bl1, x1⟩ := HE.out wr hC1
    clear l0 ll lf bl0
    by_cases hlt : k < N
    · have y1 := x1 (N - 1 - k) (by omega)
      obtain ⟨l0, ll, lf⟩ := kB1.o1
      obtain ⟨m, hm⟩ : ∃ m, m = N - 1 - k := ⟨_, rfl⟩
      have hmi : (N : Int) - 1 - (k : Int) = (m : Int) := by omega
      have hR := HY.out (List.range k) k #[(.int .i64 ((m : Int))), (.int .i64 (l.getD m 0))] wr hJ1 hC1 ⟨(List.range N).drop (k + 1), range_split hlt⟩ rfl (by unfold BackR; rw [hm])
      rw [← hm] at y1
      have hmN : (m : Int) < (N : Int) := by omega
      have hmk : m + k + 1 = N := by omega
      obtain ⟨x, hx⟩ : ∃ x, x = l.getD m 0 := ⟨_, rfl⟩
      rw [← hx] at y1 hR
      obtain ⟨fn, tmps, assign, body, hy, hRR⟩ := hR
      have HR := Lib.hid hRR
      rw [hmi]
      clear x1 hJ1 hC1 hRR hm hx kB1
      gi_wp2
      refine HR.out.mono ?_
      rintro e W5 ⟨rfl, hJ5, hC5⟩
      have HC6 : Hid (∀ j, blk2 Bb b j → W5.heap[j]? = w.heap[j]?) := Lib.hid (fun j hj => (hC5 j hj).trans (HC1.out j hj))
      have HJ5 := Lib.hid hJ5
      clear hJ5 hC5 hy HR l0 ll lf
      gi_wp2
      go_roundw
      case rel => exact ⟨k + 1, by omega, by first | rfl | (simp; done) | (simp; omega), by rw [List.range_succ]; exact HJ5.out, HC6.out⟩
      case measure => simp [intOf] <;> omega
    · obtain rfl : k = N := by omega
      gi_wp2
      go_end0
      exact ⟨⟨_, rfl⟩, HJ1.out⟩
/-- the sum of the squares of the last k elements. -/
def dK (l : List Int) : Nat → Int
  | 0 => 0
  | k + 1 => dK l k + l.getD (l.length - 1 - k) 0 * l.getD (l.length - 1 - k) 0
def decL (l : List Int) : List Int := (List.range l.length).map fun i => dK l (l.length - i)
def dcA (l : List Int) (k : Nat) : Array Value := ((List.range l.length).map fun t => ((.int .i64 (if l.length - k ≤ t then dK l (l.length - t) else 0)) : Value)).toArray
theorem dK_bd {l : List Int} (h : lvls l) : ∀ k : Nat, 0 ≤ dK l k ∧ dK l k ≤ 1099511627776 * (k : Int)
  | 0 => by simp [dK]
  | k + 1 => by
    have h1 := dK_bd h k
    have h2 := prod_bd (lvl_get h (l.length - 1 - k)) (lvl_get h (l.length - 1 - k))
    have h3 : 0 ≤ l.getD (l.length - 1 - k) 0 * l.getD (l.length - 1 - k) 0 := by
      rcases Int.le_total 0 (l.getD (l.length - 1 - k) 0) with q | q
      · exact Int.mul_nonneg q q
      · exact Int.mul_nonneg_of_nonpos_of_nonpos q q
    simp only [dK]
    omega
theorem dcA_zero (l : List Int) : dcA l 0 = (zerosA l.length).toArray := by
  unfold dcA zerosA
  congr 1
  apply List.ext_getElem?
  intro t
  rcases Nat.lt_or_ge t l.length with ht | ht
  · simp [ht]; intro h; omega
  · simp [ht]
theorem range_pre {N x : Nat} {pre : List Nat} (h : ∃ post, List.range N = pre ++ x :: post) : x < N ∧ pre.length = x := by
  obtain ⟨post, h⟩ := h
  have h1 : (List.range N)[pre.length]? = some x := by rw [h]; simp
  have h2 : pre.length < N := by
    rcases Nat.lt_or_ge pre.length N with q | q
    · exact q
    · rw [List.getElem?_eq_none (by simpa using q)] at h1; cases h1
  rw [List.getElem?_range h2] at h1
  cases h1
  exact ⟨h2, rfl⟩
theorem dcA_set (l : List Int) (k : Nat) (hk : k < l.length) : (dcA l k).setIfInBounds (l.length - 1 - k) (.int .i64 (dK l (k + 1))) = dcA l (k + 1) := by
  apply Array.ext_getElem?
  intro t
  have hs : ∀ k, (dcA l k).size = l.length := fun k => by simp [dcA]
  have hg : ∀ k t, t < l.length → (dcA l k)[t]? = some (.int .i64 (if l.length - k ≤ t then dK l (l.length - t) else 0)) := fun k t ht => by simp [dcA, ht]
  rcases Nat.lt_or_ge t l.length with ht | ht
  · rw [Array.getElem?_setIfInBounds, hg _ _ ht, hg _ _ ht, hs]
    by_cases hq : l.length - 1 - k = t
    · rw [if_pos hq, if_pos (by omega), if_pos (by omega), show l.length - t = k + 1 by omega]
    · rw [if_neg hq]
      congr 2
      by_cases hc : l.length - k ≤ t
      · rw [if_pos hc, if_pos (by omega)]
      · rw [if_neg hc, if_neg (by omega)]
  · rw [Array.getElem?_eq_none (by rw [Array.size_setIfInBounds, hs]; exact ht), Array.getElem?_eq_none (by rw [hs]; exact ht)]
theorem dcA_end (l : List Int) : dcA l l.length = ((decL l).map (Value.int .i64)).toArray := by
  unfold dcA decL
  rw [List.map_map]
  congr 1
  refine List.map_congr_left fun t _ => ?_
  rw [if_pos (by omega)]
  rfl
theorem decL_len (l : List Int) : (decL l).length = l.length := by simp [decL]
set_option maxRecDepth 100000 in
set_option maxHeartbeats 8000000 in
theorem decay_any (l : List Int) (A : Option Addr) (c N : Nat) (w : World) (hN : N = l.length) (hN1 : 1 ≤ N) (hN5 : N ≤ 256) (hl : lvls l) (hC : Cells w A l) :
    Calls Try.prog 39 #[.slice A N c] w fun r w' => ∃ v, r = .returned v ∧ FS w.heap.size (decL l) v w' ∧ Below w.heap.size w w' := by
  have hfn : ∀ f, Fence.wide.fn f = True := fun _ => rfl
  obtain ⟨b, o, rfl, hbl, hcc⟩ := hC (by omega)
  have HMK : ∀ W : World, Sem.run Try.prog (Instr.makeSlice 22 (.int .i64 ((N : Int))) (.int .i64 ((N : Int)))) W = .ok (.slice (some ⟨W.heap.size, 0, none⟩) N N) (W.alloc (.cells (dcA l 0) 3)) := fun W => by rw [dcA_zero, hN]; rw [hN] at hN5; exact mk_ints l.length (by omega) W
  have HIT : Hid (∀ (W : World) (Bb m : Nat), b < W.heap.size → (∀ k, k < N → W.cell? ⟨b, o + k, none⟩ = some (.int .i64 (l.getD k 0))) → Blk W Bb #[.slice (some ⟨b, o, none⟩) N c] → 1 ≤ m → IterR Fence.wide m Try.prog 96 #[.pointer (some ⟨Bb, 0, none⟩)] 2 (BackR l N) (List.range N) (blk2 Bb b) W) := Lib.hid (fun W Bb m q1 q2 q3 q4 => back1_iter l b o c N Bb W m hN (by omega) q1 q2 q3 q4)
  have HDB := Lib.hid (dK_bd hl)
  have HLB := Lib.hid (fun k => lvl_get hl k)
  have HDS : Hid (∀ k, k < N → dK l (k + 1) = dK l k + l.getD (N - 1 - k) 0 * l.getD (N - 1 - k) 0) := Lib.hid (fun k hk => by rw [hN]; rfl)
  have HAS : Hid (∀ k, k < N → (dcA l k).setIfInBounds (N - 1 - k) (.int .i64 (dK l (k + 1))) = dcA l (k + 1)) := Lib.hid (fun k hk => by rw [hN]; exact dcA_set l k (by omega))
  have HEND : Hid (dcA l N = ((decL l).map (Value.int .i64)).toArray) := Lib.hid (by rw [hN]; exact dcA_end l)
  have HASZ : Hid (∀ k, (dcA l k).size = N) := Lib.hid (fun k => by simp [dcA, hN])
  have HCC : Hid (∀ k, k < N → w.cell? ⟨b, o + k, none⟩ = some (.int .i64 (l.getD k 0))) := Lib.hid (fun k hk => hcc k (by omega))
  have HN := Lib.hid hN
  clear hC hcc hl hN
  refine (callsIn_wide (n := 10)).1 ?_
  refine callsIn_of_wp_marks Try.func39 rfl trivial ?_ rfl
  simp only [Try.ntmps39, List.size_toArray, List.length_cons, List.length_nil, Nat.reduceAdd, Nat.reduceSub, Array.replicate_succ, Array.replicate_zero, List.push_toArray, List.append_toArray, List.nil_append, List.cons_append]
  gi_wp2_with (gi_at_call 75; refine callsIn_wide.2 ?_; refine name_calls ?_; intro w1 e1; refine Hid.out ?_)
  unfold Hid
  have h1 : Below w.heap.size w w1 := by rw [e1]; exact bel
  have KO : Blk w1 w.heap.size (dcA l 0) := by rw [e1]; (repeat (first | ((with_reducible refine Blk.at_ ?_); focus (first | rfl | (simp; done) | (simp; omega))) | (with_reducible refine Blk.alloc ?_ _) | (with_reducible refine Blk.below ?_ (by with_reducible assumption)) | (with_reducible refine Blk.drew ?_)))
  have KV : Blk w1 (w.heap.size + 1) #[.slice (some ⟨w.heap.size, 0, none⟩) N N] := by rw [e1]; (repeat (first | ((with_reducible refine Blk.at_ ?_); focus (first | rfl | (simp; done) | (simp; omega))) | (with_reducible refine Blk.alloc ?_ _) | (with_reducible refine Blk.below ?_ (by with_reducible assumption)) | (with_reducible refine Blk.drew ?_)))
  have KS : Blk w1 (w.heap.size + 2) #[(.int .i64 0)] := by rw [e1]; (repeat (first | ((with_reducible refine Blk.at_ ?_); focus (first | rfl | (simp; done) | (simp; omega))) | (with_reducible refine Blk.alloc ?_ _) | (with_reducible refine Blk.below ?_ (by with_reducible assumption)) | (with_reducible refine Blk.drew ?_)))
  have HK1 := Lib.hid (show Blk w1 w.heap.size (dcA l 0) ∧ Blk w1 (w.heap.size + 1) #[.slice (some ⟨w.heap.size, 0, none⟩) N N] ∧ Blk w1 (w.heap.size + 2) #[(.int .i64 0)] from ⟨KO, KV, KS⟩)
  have HB1 := Lib.hid h1
  have hz1 : w.heap.size + 2 < w1.heap.size := KS.lt
  clear e1 h1 KO KV KS
  refine (back_any (some ⟨b, o, none⟩) N c w1).mono ?_
  rintro r w2 ⟨rfl, h2, kB, hz2⟩
  have HB2 := Lib.hid (HB1.out.trans (h2.mono HB1.out.size))
  have HK2 := Lib.hid (show Blk w2 w.heap.size (dcA l 0) ∧ Blk w2 (w.heap.size + 1) #[.slice (some ⟨w.heap.size, 0, none⟩) N N] ∧ Blk w2 (w.heap.size + 2) #[(.int .i64 0)] from ⟨HK1.out.1.below h2, HK1.out.2.1.below h2, HK1.out.2.2.below h2⟩)
  have hbl2 : b < w2.heap.size := by omega
  have HIT2 := Lib.hid (HIT.out w2 w1.heap.size (10 - 1) hbl2 (fun k hk => (HB2.out.cell (p := ⟨b, o + k, none⟩) hbl).trans (HCC.out k hk)) kB (by decide))
  have hkBl : w1.heap.size < w2.heap.size := kB.lt
  clear h2 kB HIT
  gi_wp2
  have hIO : OwnFrom w2.heap.size (fun (pre : List Nat) W => Blk W (w.heap.size + 2) #[(.int .i64 (dK l pre.length))] ∧ (Blk W w.heap.size (dcA l pre.length) ∧ (Blk W (w.heap.size + 1) #[.slice (some ⟨w.heap.size, 0, none⟩) N N] ∧ Below w.heap.size w W))) :=
    OwnFrom.and (blk_own _ _ (by omega) _) (OwnFrom.and (blk_own _ _ (by omega) _) (OwnFrom.and (blk_own _ _ (by omega) _) (ownFrom_below (Nat.le_refl _) (by omega))))
  have HIO := Lib.hid hIO
  refine range_iterR (F := Fence.wide) (n := 10) rfl (by decide) (gf := 96) (lb := #[.pointer (some ⟨w1.heap.size, 0, none⟩)]) rfl trivial (enters_of Try.func96 (by kernel_rfl) rfl)
    (all := List.range N) (R := BackR l N) (C := blk2 w1.heap.size b) (by rintro k (rfl | rfl) <;> assumption) HIT2.out
    _ hIO ⟨HK2.out.2.2, HK2.out.1, HK2.out.2.1, HB2.out⟩
    (fun (pre : List Nat) (x : Nat) (a' : Act) (W : World) => (Blk W (w.heap.size + 2) #[(.int .i64 (dK l pre.length))] ∧ (Blk W w.heap.size (dcA l pre.length) ∧ (Blk W (w.heap.size + 1) #[.slice (some ⟨w.heap.size, 0, none⟩) N N] ∧ Below w.heap.size w W))) ∧ ∃ m y, m = N - 1 - x ∧ y = l.getD (N - 1 - x) 0 ∧ a' = { tmps := #[.slice (some ⟨b, o, none⟩) N c, undef, .slice none 0 0, .pointer (some ⟨w.heap.size + 1, 0, none⟩), .pointer (some ⟨w.heap.size + 1 + 1, 0, none⟩), (.int .i64 ((m : Int))), (.int .i64 y), .slice (some ⟨b, o, none⟩) N c, (.int .i64 ((N : Int))), .slice (some ⟨w.heap.size, 0, none⟩) N N, .slice (some ⟨b, o, none⟩) N c, .func (.func 96) #[] #[.pointer (some ⟨w1.heap.size, 0, none⟩)], (.int .i64 ((m : Int))), (.int .i64 y), undef, undef, undef, undef, undef, undef, undef, undef, undef, undef], defers := [] })
    ?hax ?assign ?body ?done
  case assign =>
    rintro r pre x v W hi hpost hsz hcb hvs hbr
    have hbr' : v = #[(.int .i64 (((N - 1 - x : Nat) : Int))), (.int .i64 (l.getD (N - 1 - x) 0))] := hbr
    obtain ⟨m, hm⟩ : ∃ m, m = N - 1 - x := ⟨_, rfl⟩
    obtain ⟨y, hy⟩ : ∃ y, y = l.getD (N - 1 - x) 0 := ⟨_, rfl⟩
    rw [← hy, ← hm] at hbr'
    subst hbr'
    have HM := Lib.hid hm
    have HY := Lib.hid hy
    have hsem : ∀ (ρ : Operand → Value) (o : Oper), (∀ c, o.op ≠ .defer c) → Oper.semAt (some r) ρ o = execOp ρ o := Oper.semAt_some r
    have HI := Lib.hid hi
    clear hi hIO hcb hm hy hbr hvs
    gi_wp2
    exact ⟨Same.refl _ _, HI.out, m, y, HM.out, HY.out, rfl⟩
  case hax =>
    rintro pre x a' u X Y row ⟨hi, m, y, h1, h2, h3⟩ hg hrow
    exact ⟨HIO.out pre X Y row hi hg hrow, m, y, h1, h2, h3⟩
  case body =>
    rintro r pre x a' W ⟨⟨kS, kO, kV, hB⟩, m, y, hm, hy, rfl⟩ hpost hsz hcb
    have hsem : ∀ (ρ : Operand → Value) (o : Oper), (∀ c, o.op ≠ .defer c) → Oper.semAt (some r) ρ o = execOp ρ o := Oper.semAt_some r
    obtain ⟨hx, hpl⟩ := range_pre hpost
    rw [hpl] at kS kO
    have hd0 := HDB.out x
    have hyb := HLB.out (N - 1 - x)
    rw [← hy] at hyb
    have hp := prod_bd hyb hyb
    have HDS1 := HDS.out x hx
    have HAS1 := HAS.out x hx
    rw [← hm] at HAS1
    rw [← hy] at HDS1
    obtain ⟨D, hD⟩ : ∃ D, D = dK l x := ⟨_, rfl⟩
    obtain ⟨D1, hD1⟩ : ∃ D1, D1 = dK l (x + 1) := ⟨_, rfl⟩
    obtain ⟨Y, hY⟩ : ∃ Y, Y = y * y := ⟨_, rfl⟩
    rw [← hY] at hp HDS1
    rw [← hD] at kS hd0 HDS1
    rw [← hD1] at HDS1 HAS1
    have hwy : wrap64 (y * y) = Y := by rw [← hY]; exact Go.IntWalk.wrap64_in _ (by omega)
    have hmN : m < N := by omega
    have hmi : (m : Int) < (N : Int) := by omega
    obtain ⟨v0, hv0⟩ : ∃ v0, W.cell? ⟨w.heap.size, m, none⟩ = some v0 := by
      rw [kO.c]
      exact ⟨_, Array.getElem?_eq_getElem (by rw [HASZ.out]; exact hmN)⟩
    have kol := kO.lt
    have kof := kO.f
    obtain ⟨s0, sl, sf⟩ := kS.o1
    obtain ⟨q0, ql, qf⟩ := kV.o1
    have HKS := Lib.hid kS
    have HKO := Lib.hid kO
    have HKV := Lib.hid kV
    have HBW := Lib.hid hB
    have HAS2 := Lib.hid HAS1
    have HDS2 := Lib.hid HDS1
    have hDD : D + Y = D1 := HDS1.symm
    have HPL : Hid ((pre ++ [x]).length = x + 1) := Lib.hid (by simp [hpl])
    have HD1 := Lib.hid hD1
    clear kS kO kV hB hpost hcb hIO hm hy hD hD1 hY HAS1 HDS1 hpl
    gi_wp2
    refine ⟨fun j o' hj ho => ?_, ?_, ?_, ?_, ?_⟩
    · have hj0 : j ≠ w.heap.size ∧ j ≠ w.heap.size + 1 + 1 := by
        rcases hj with (rfl | rfl) | rfl | rfl <;> omega
      rw [Below.heap_setCell _ _ _ _ hj0.1, Below.heap_setCell _ _ _ _ hj0.2]
      exact ho
    · rw [HPL.out, ← HD1.out]
      exact (HKS.out.set (i := 0) (by simp) _).far (by simp) _
    · rw [HPL.out]
      have := (HKO.out.far (p := ⟨w.heap.size + 1 + 1, 0, none⟩) (by simp <;> omega) (.int .i64 D1)).set (i := m) (by rw [HASZ.out]; exact hmN) (.int .i64 D1)
      rw [HAS2.out] at this
      exact this
    · exact (HKV.out.far (by simp) _).far (by simp) _
    · exact (HBW.out.setCell (by simp; omega) _).setCell (by simp) _
  case done =>
    rintro W ⟨kS, kO, kV, hB⟩ hdef
    rw [List.length_range] at kO
    rw [HEND.out] at kO
    have HCO := Lib.hid (Cells.blk kO rfl)
    have HBW := Lib.hid hB
    have HDEF := Lib.hid hdef
    obtain ⟨q0, ql, qf⟩ := kV.o1
    clear kS kO kV hB hdef hIO
    gi_wp2
    refine ⟨by simp, .inl ⟨_, _, rfl, run_takeDeferred HDEF.out, ?_⟩⟩
    have B9 := HBW.out.trans (belowK_b (w := w) (Nat.le_refl _) W w2.heap.size (.deferred (some [])) (.deferred none) (by omega) HDEF.out rfl rfl)
    refine ⟨.slice (some ⟨w.heap.size, 0, none⟩) N N, by simp [results, Try.results39, go_sem], _, rfl, ⟨_, N, by rw [decL_len, ← HN.out], HCO.out.undefer HDEF.out, by rintro p ⟨⟩; exact Nat.le_refl _⟩, B9⟩
set_option maxRecDepth 100000 in
theorem Decay_ok (l : List Int) (A : Option Addr) (c N : Nat) (w : World) (hN : N = l.length) (hN1 : 1 ≤ N) (hN5 : N ≤ 256) (hl : lvls l) (hC : Cells w A l) :
    Calls Try.prog 10 #[.slice A N c] w fun r w' => ∃ v, r = .returned (.tuple #[v, (.int .i64 0)]) ∧ FS w.heap.size (decL l) v w' ∧ Below w.heap.size w w' := by
  have HD : Hid (∀ W, Cells W A l → Calls Try.prog 39 #[.slice A N c] W fun r w' => ∃ v, r = .returned v ∧ FS W.heap.size (decL l) v w' ∧ Below W.heap.size W w') := Lib.hid (fun W q => decay_any l A c N W hN hN1 hN5 hl q)
  have HCR : Hid (Calls Try.prog 28 #[.slice A N c] w fun r w' => r = .returned (.int .i64 0) ∧ Below w.heap.size w w') := Lib.hid (cResponse_ok l A c N w hN hC hN5 hl)
  have HC := Lib.hid hC
  clear hC hl hN
  go_enter Try.func10, Try.ntmps10
  go_wp2_with (go_at_call 28; refine HCR.out.mono ?_; rintro r w1 ⟨rfl, h1⟩; refine Hid.out ?_)
  unfold Hid
  have HB1 := Lib.hid h1
  go_wp2_with (go_at_call 39; refine (HD.out w1 (HC.out.below h1)).mono ?_; rintro r w2 ⟨v, rfl, ⟨B, d, rfl, q1, q2⟩, h2⟩; refine Hid.out ?_)
  unfold Hid
  go_wp2
  refine bodyPost_ret (v := .tuple #[.slice B (decL l).length d, (.int .i64 0)]) (by simp [results, Try.results10, go_sem]) rfl ⟨_, rfl, ⟨B, d, rfl, q1, fun p hp => Nat.le_trans h1.size (q2 p hp)⟩, h1.trans (h2.mono h1.size)⟩
end Go.Proofs.Ytamldoidalnloaa

/- chamber's find and Reflection. -/
namespace Go.Proofs.Ytamldoidalnloaa
open Go.RowKit
open Calm (bcell Blk)
/-- the first index at which two lists differ by more than 0. -/
def firstD (a b : List Int) : Nat → Option Nat
  | 0 => none
  | n + 1 => match firstD a b n with
    | some i => some i
    | none => if a.getD n 0 = b.getD n 0 then none else some n
set_option maxRecDepth 100000 in
set_option maxHeartbeats 4000000 in
theorem refl1_any (a b : List Int) (A B : Option Addr) (ca cb N b1 b2 b3 i : Nat) (w : World) (hN : N = a.length) (hM : N = b.length) (hi : i < N) (ha : lvls a) (hb : lvls b) (hA : Cells w A a) (hB : Cells w B b) (g1 : b1 < w.heap.size) (g2 : b2 < w.heap.size) (g3 : b3 < w.heap.size) (k1 : w.cell? ⟨b1, 0, none⟩ = some (.slice A N ca)) (k2 : w.cell? ⟨b2, 0, none⟩ = some (.slice B N cb)) (k3 : w.cell? ⟨b3, 0, none⟩ = some (.int .i64 0)) :
    Calls Try.prog 42 #[(.int .i64 ((i : Int))), .pointer (some ⟨b1, 0, none⟩), .pointer (some ⟨b2, 0, none⟩), .pointer (some ⟨b3, 0, none⟩)] w fun r w' => r = .returned (.bool (decide (a.getD i 0 ≠ b.getD i 0))) ∧ Below w.heap.size w w' := by
  obtain ⟨ba, oa, rfl, la, qa⟩ := hA (by omega)
  obtain ⟨bb, ob, rfl, lb, qb⟩ := hB (by omega)
  have x1 := qa i (by omega)
  have x2 := qb i (by omega)
  have hx := lvl_get ha i
  have hy := lvl_get hb i
  obtain ⟨x, hx0⟩ : ∃ x, x = a.getD i 0 := ⟨_, rfl⟩
  obtain ⟨y, hy0⟩ : ∃ y, y = b.getD i 0 := ⟨_, rfl⟩
  rw [← hx0] at x1 hx ⊢
  rw [← hy0] at x2 hy ⊢
  have hiN : (i : Int) < (N : Int) := by omega
  obtain ⟨D, hD⟩ : ∃ D, D = mx (x - y) (y - x) := ⟨_, rfl⟩
  have hmax : ∀ (ts : Array TypeId) (t : TypeId) (W : World), (Builtin.max_ ts t #[(.int .i64 (x - y)), (.int .i64 (y - x))]).run Try.prog W = .ok (.int .i64 D) W := fun ts t W => by rw [hD]; exact max2_any ts t _ _ W
  obtain ⟨E, hE⟩ : ∃ E, E = decide (x ≠ y) := ⟨_, rfl⟩
  have hDE : decide (0 < D) = E := by
    rw [hD, hE]
    unfold mx
    by_cases hxy : x = y
    · rw [decide_eq_false (by split <;> omega), decide_eq_false (by simp [hxy])]
    · rw [decide_eq_true (by split <;> omega), decide_eq_true hxy]
  rw [← hE]
  clear hD hE
  clear qa qb hx0 hy0 ha hb hA hB hN hM
  go_enter Try.func42, Try.ntmps42
  go_wp2
  refine Rel.region3 21 (by kernel_rfl) (by kernel_rfl) (by kernel_rfl) ?_
  simp only [List.take_succ_cons, List.take_zero, List.drop_succ_cons, List.drop_zero, List.filterMap_cons, List.filterMap_nil]
  repeat (apply Rel.op3; (focus (first | exact Rel.gno rfl | exact Rel.gyes _ true _ rfl rfl rfl | exact Rel.gyes _ false _ rfl rfl rfl)); (focus (intro a W hb hd hbase; obtain ⟨hc, hf⟩ := bcell hb; clear hb hf; simp [Rel.deps, Rel.dep1, Rel.ons, Region.binds, Act.eval] at hd; simp only [Act.eval, List.mem_cons, List.not_mem_nil, not_or, and_imp, or_false, Array.getD_eq_getD_getElem?] at hbase; go_simp; (try go_bits); (try rfl); done)); (try simp only [List.nil_append, List.cons_append]))
  refine Rel.done3 ?_
  intro x w4 hb4 hx
  simp only [Rel.facts, Nat.zero_add, Nat.reduceAdd] at hx
  obtain ⟨e0, e1, e2, e3, e4, e5, e6, e7, e8, e9, e10, e11, e12, e13, e14, e15, e16, e17, e18, e19, e20, _⟩ := hx
  simp only [Rel.fill, Nat.zero_add, Nat.reduceAdd, e0, e1, e2, e3, e4, e5, e6, e7, e8, e9, e10, e11, e12, e13, e14, e15, e16, e17, e18, e19, e20]
  simp only [Act.put, List.setIfInBounds_toArray, List.set_cons_zero, List.set_cons_succ]
  clear e0 e1 e2 e3 e4 e5 e6 e7 e8 e9 e10 e11 e12 e13 e14 e15 e16 e17 e18 e19 e20
  go_wp2
  go_ret
  exact ⟨by first | rfl | (simp; done), hb4⟩
theorem firstD_none {a b : List Int} {n : Nat} (h : firstD a b n = none) (e : a.getD n 0 = b.getD n 0) : firstD a b (n + 1) = none := by
  unfold firstD; rw [h]; simp only []; rw [if_pos e]
theorem firstD_some {a b : List Int} {n : Nat} (h : firstD a b n = none) (e : ¬ a.getD n 0 = b.getD n 0) : firstD a b (n + 1) = some n := by
  unfold firstD; rw [h]; simp only []; rw [if_neg e]
theorem firstD_more {a b : List Int} {n i : Nat} (h : firstD a b n = some i) : ∀ k, firstD a b (n + k) = some i
  | 0 => h
  | k + 1 => by
    show firstD a b (n + k + 1) = some i
    unfold firstD
    rw [firstD_more h k]
/-- what find tells. -/
def findV (a b : List Int) (N : Nat) : Value := match firstD a b N with
  | some i => .tuple #[(.int .i64 ((i : Int))), (.int .i64 0)]
  | none => .tuple #[(.int .i64 0), (.int .i64 7)]
set_option maxRecDepth 100000 in
set_option maxHeartbeats 4000000 in
theorem find_any (a b : List Int) (A B : Option Addr) (ca cb N b1 b2 b3 : Nat) (w : World) (hN : N = a.length) (hM : N = b.length) (hN5 : N ≤ 256) (ha : lvls a) (hb : lvls b) (hA : Cells w A a) (hB : Cells w B b) (g1 : b1 < w.heap.size) (g2 : b2 < w.heap.size) (g3 : b3 < w.heap.size) (k1 : w.cell? ⟨b1, 0, none⟩ = some (.slice A N ca)) (k2 : w.cell? ⟨b2, 0, none⟩ = some (.slice B N cb)) (k3 : w.cell? ⟨b3, 0, none⟩ = some (.int .i64 0)) :
    Calls Try.prog 41 #[(.int .i64 ((N : Int))), .func (.func 42) #[] #[.pointer (some ⟨b1, 0, none⟩), .pointer (some ⟨b2, 0, none⟩), .pointer (some ⟨b3, 0, none⟩)]] w fun r w' => r = .returned (findV a b N) ∧ Below w.heap.size w w' := by
  have HCL : Hid (∀ (W : World) (i : Nat), i < N → Below w.heap.size w W → Calls Try.prog 42 #[(.int .i64 ((i : Int))), .pointer (some ⟨b1, 0, none⟩), .pointer (some ⟨b2, 0, none⟩), .pointer (some ⟨b3, 0, none⟩)] W fun r w' => r = .returned (.bool (decide (a.getD i 0 ≠ b.getD i 0))) ∧ Below W.heap.size W w') := Lib.hid (fun W i hi hb' =>
    refl1_any a b A B ca cb N b1 b2 b3 i W hN hM hi ha hb (hA.below hb') (hB.below hb') (Nat.lt_of_lt_of_le g1 hb'.size) (Nat.lt_of_lt_of_le g2 hb'.size) (Nat.lt_of_lt_of_le g3 hb'.size) ((hb'.cell (p := ⟨b1, 0, none⟩) g1).trans k1) ((hb'.cell (p := ⟨b2, 0, none⟩) g2).trans k2) ((hb'.cell (p := ⟨b3, 0, none⟩) g3).trans k3))
  clear hN hM ha hb hA hB k1 k2 k3 g1 g2 g3
  go_enter Try.func41, Try.ntmps41
  go_wp2
  go_step3
  go_wp2
  go_step3
  go_wp2
  go_loopw [6, 7, 10] (fun x y z wr => ∃ k : Nat, k ≤ N ∧ z = (.int .i64 ((k : Int))) ∧ x = (.int .i64 0) ∧ y = (.int .i64 7) ∧ firstD a b k = none ∧ Below w.heap.size w wr) (fun _ _ z _ => N - (intOf z).toNat)
  case atStart => exact ⟨0, Nat.zero_le _, rfl, rfl, rfl, rfl, Below.refl _ _⟩
  case round =>
    obtain ⟨k, hk, rfl, rfl, rfl, hf, hbr⟩ := hrel
    have HBR := Lib.hid hbr
    have HF := Lib.hid hf
    have hsz := hbr.size
    clear hbr hf
    by_cases hlt : k < N
    · have HC1 := Lib.hid (HCL.out wr k hlt HBR.out)
      have hkN : (k : Int) < (N : Int) := by omega
      by_cases he : a.getD k 0 = b.getD k 0
      · have HF1 := Lib.hid (firstD_none HF.out he)
        rw [decide_eq_false (by simpa using he)] at HC1
        clear he
        go_wp2_with (go_at_call 42; refine HC1.out.mono ?_; rintro r w2 ⟨rfl, h2⟩; refine Hid.out ?_)
        unfold Hid
        have HB2 := Lib.hid (HBR.out.trans (h2.mono hsz))
        clear h2
        go_wp2
        go_roundw
        case rel => exact ⟨k + 1, by omega, by go_num, rfl, rfl, HF1.out, HB2.out⟩
        case measure => simp [intOf]; omega
      · have HFV : Hid (findV a b N = .tuple #[(.int .i64 ((k : Int))), (.int .i64 0)]) := Lib.hid (by
          have h1 := firstD_more (firstD_some HF.out he) (N - (k + 1))
          rw [show k + 1 + (N - (k + 1)) = N by omega] at h1
          unfold findV; rw [h1])
        rw [decide_eq_true (by simpa using he)] at HC1
        clear he
        go_wp2_with (go_at_call 42; refine HC1.out.mono ?_; rintro r w2 ⟨rfl, h2⟩; refine Hid.out ?_)
        unfold Hid
        have HB2 := Lib.hid (HBR.out.trans (h2.mono hsz))
        clear h2
        go_wp2
        rw [Exit.noGoto_ret]
        refine bodyPost_ret (v := .tuple #[(.int .i64 ((k : Int))), (.int .i64 0)]) (by simp [results, Try.results41, go_sem]) rfl ⟨by rw [HFV.out], HB2.out⟩
    · obtain rfl : k = N := by omega
      have HFV : Hid (findV a b k = .tuple #[(.int .i64 0), (.int .i64 7)]) := Lib.hid (by unfold findV; rw [HF.out])
      go_wp2
      rw [Exit.noGoto_ret]
      refine bodyPost_ret (v := .tuple #[(.int .i64 0), (.int .i64 7)]) (by simp [results, Try.results41, go_sem]) rfl ⟨by rw [HFV.out], HBR.out⟩
set_option maxRecDepth 100000 in
set_option maxHeartbeats 4000000 in
theorem Reflection_ok (a b : List Int) (A B : Option Addr) (ca cb N : Nat) (w : World) (hN : N = a.length) (hM : N = b.length) (hN5 : N ≤ 256) (ha : lvls a) (hb : lvls b) (hA : Cells w A a) (hB : Cells w B b) :
    Calls Try.prog 11 #[.slice A N ca, .slice B N cb, (.int .i64 0)] w fun r w' => r = .returned (findV a b N) ∧ Below w.heap.size w w' := by
  have HCA : Hid (∀ W, Cells W A a → Calls Try.prog 28 #[.slice A N ca] W fun r w' => r = .returned (.int .i64 0) ∧ Below W.heap.size W w') := Lib.hid (fun W q => cResponse_ok a A ca N W hN q hN5 ha)
  have HCB : Hid (∀ W, Cells W B b → Calls Try.prog 28 #[.slice B N cb] W fun r w' => r = .returned (.int .i64 0) ∧ Below W.heap.size W w') := Lib.hid (fun W q => cResponse_ok b B cb N W hM q hN5 hb)
  have HWI : Hid (∀ W, Calls Try.prog 40 #[(.int .i64 0), (.int .i64 0), (.int .i64 1048576)] W fun r w' => r = .returned (.int .i64 0) ∧ Below W.heap.size W w') := Lib.hid (fun W => (cWithin_any 0 0 1048576 W).mono fun _ _ ⟨he, h2⟩ => ⟨he, h2 ▸ Below.refl _ _⟩)
  have HWH : Hid (∀ W, Calls Try.prog 37 #[.bool false, (.int .i64 2)] W fun r w' => r = .returned (.int .i64 0) ∧ Below W.heap.size W w') := Lib.hid (fun W => (cWhen_any false 2 W).mono fun _ _ ⟨he, h2⟩ => ⟨he, h2 ▸ Below.refl _ _⟩)
  have HF4 : Hid (∀ (W : World), Calls Try.prog 27 #[.slice (some ⟨W.heap.size, 0, none⟩) 4 4] (W.alloc (.cells #[(.int .i64 0), (.int .i64 0), (.int .i64 0), (.int .i64 0)] 24)) fun r w' => r = .returned (.int .i64 0) ∧ (W.alloc (.cells #[(.int .i64 0), (.int .i64 0), (.int .i64 0), (.int .i64 0)] 24)) = w') := Lib.hid (fun W => cFirst_cells [0, 0, 0, 0] W (by simp))
  have HFI : Hid (∀ (W : World) (b1 b2 b3 : Nat), Cells W A a → Cells W B b → b1 < W.heap.size → b2 < W.heap.size → b3 < W.heap.size → W.cell? ⟨b1, 0, none⟩ = some (.slice A N ca) → W.cell? ⟨b2, 0, none⟩ = some (.slice B N cb) → W.cell? ⟨b3, 0, none⟩ = some (.int .i64 0) → Calls Try.prog 41 #[(.int .i64 ((N : Int))), .func (.func 42) #[] #[.pointer (some ⟨b1, 0, none⟩), .pointer (some ⟨b2, 0, none⟩), .pointer (some ⟨b3, 0, none⟩)]] W fun r w' => r = .returned (findV a b N) ∧ Below W.heap.size W w') := Lib.hid (fun W b1 b2 b3 q1 q2 g1 g2 g3 k1 k2 k3 =>
    find_any a b A B ca cb N b1 b2 b3 W hN hM hN5 ha hb q1 q2 g1 g2 g3 k1 k2 k3)
  have HA := Lib.hid hA
  have HB := Lib.hid hB
  obtain ⟨FX, FE, hFV⟩ : ∃ FX FE : Int, findV a b N = .tuple #[(.int .i64 FX), (.int .i64 FE)] := by
    unfold findV
    split
    · exact ⟨_, _, rfl⟩
    · exact ⟨_, _, rfl⟩
  rw [hFV] at HFI ⊢
  have c1 : ((N : Int) != (N : Int)) = false := by simp
  clear ha hb hA hB hN hM hFV
  go_enter Try.func11, Try.ntmps11
  go_wp2
  refine name_world ?_
  intro w1 e1
  have h1 : Below w.heap.size w w1 := by rw [e1]; exact bel
  have K0 : Blk w1 w.heap.size #[.slice A N ca] := by rw [e1]; (repeat (first | ((with_reducible refine Blk.at_ ?_); focus (first | rfl | (simp; done) | (simp; omega))) | (with_reducible refine Blk.alloc ?_ _) | (with_reducible refine Blk.below ?_ (by with_reducible assumption)) | (with_reducible refine Blk.drew ?_)))
  have K1 : Blk w1 (w.heap.size + 1) #[.slice B N cb] := by rw [e1]; (repeat (first | ((with_reducible refine Blk.at_ ?_); focus (first | rfl | (simp; done) | (simp; omega))) | (with_reducible refine Blk.alloc ?_ _) | (with_reducible refine Blk.below ?_ (by with_reducible assumption)) | (with_reducible refine Blk.drew ?_)))
  have K2 : Blk w1 (w.heap.size + 1 + 1) #[(.int .i64 0)] := by rw [e1]; (repeat (first | ((with_reducible refine Blk.at_ ?_); focus (first | rfl | (simp; done) | (simp; omega))) | (with_reducible refine Blk.alloc ?_ _) | (with_reducible refine Blk.below ?_ (by with_reducible assumption)) | (with_reducible refine Blk.drew ?_)))
  have HB1 := Lib.hid h1
  have HA1 := Lib.hid (HA.out.below h1)
  have HBB1 := Lib.hid (HB.out.below h1)
  have HK0 := Lib.hid K0
  have HK1 := Lib.hid K1
  have HK2 := Lib.hid K2
  obtain ⟨a0, al, af⟩ := K0.o1
  obtain ⟨b0, bl, bf⟩ := K1.o1
  obtain ⟨c0, cl, cf⟩ := K2.o1
  clear e1 h1 K0 K1 K2
  refine Rel.region3 12 (by kernel_rfl) (by kernel_rfl) (by kernel_rfl) ?_
  simp only [List.take_succ_cons, List.take_zero, List.drop_succ_cons, List.drop_zero, List.filterMap_cons, List.filterMap_nil]
  iterate 1 (apply Rel.op3; (focus (first | exact Rel.gno rfl | exact Rel.gyes _ true _ rfl rfl rfl | exact Rel.gyes _ false _ rfl rfl rfl)); (focus (intro a W hb hd hbase; obtain ⟨hc, hf⟩ := bcell hb; clear hb hf; simp [Rel.deps, Rel.dep1, Rel.ons, Region.binds, Act.eval] at hd; simp only [Act.eval, List.mem_cons, List.not_mem_nil, not_or, and_imp, or_false, Array.getD_eq_getD_getElem?] at hbase; go_simp; (try go_bits); (try rfl); done)); (try simp only [List.nil_append, List.cons_append]))
  (apply Rel.call3; (focus (first | exact Rel.gno rfl | exact Rel.gyes _ true _ rfl rfl rfl | exact Rel.gyes _ false _ rfl rfl rfl)); (focus (intro a W hb hd hbase; obtain ⟨hc, hf⟩ := bcell hb; clear hb hf; simp [Rel.deps, Rel.dep1, Rel.ons, Region.binds, Act.eval] at hd; simp only [Act.eval, List.mem_cons, List.not_mem_nil, not_or, and_imp, or_false, Array.getD_eq_getD_getElem?] at hbase; go_simp; refine ⟨?_, ?_⟩; rfl; rfl)); (focus (intro W hb; go_at_call 28; exact HCA.out W (HA1.out.below hb))); (try simp only [List.nil_append, List.cons_append]))
  iterate 1 (apply Rel.op3; (focus (first | exact Rel.gno rfl | exact Rel.gyes _ true _ rfl rfl rfl | exact Rel.gyes _ false _ rfl rfl rfl)); (focus (intro a W hb hd hbase; obtain ⟨hc, hf⟩ := bcell hb; clear hb hf; simp [Rel.deps, Rel.dep1, Rel.ons, Region.binds, Act.eval] at hd; simp only [Act.eval, List.mem_cons, List.not_mem_nil, not_or, and_imp, or_false, Array.getD_eq_getD_getElem?] at hbase; go_simp; (try go_bits); (try rfl); done)); (try simp only [List.nil_append, List.cons_append]))
  (apply Rel.call3; (focus (first | exact Rel.gno rfl | exact Rel.gyes _ true _ rfl rfl rfl | exact Rel.gyes _ false _ rfl rfl rfl)); (focus (intro a W hb hd hbase; obtain ⟨hc, hf⟩ := bcell hb; clear hb hf; simp [Rel.deps, Rel.dep1, Rel.ons, Region.binds, Act.eval] at hd; simp only [Act.eval, List.mem_cons, List.not_mem_nil, not_or, and_imp, or_false, Array.getD_eq_getD_getElem?] at hbase; go_simp; refine ⟨?_, ?_⟩; rfl; rfl)); (focus (intro W hb; go_at_call 28; exact HCB.out W (HBB1.out.below hb))); (try simp only [List.nil_append, List.cons_append]))
  iterate 1 (apply Rel.op3; (focus (first | exact Rel.gno rfl | exact Rel.gyes _ true _ rfl rfl rfl | exact Rel.gyes _ false _ rfl rfl rfl)); (focus (intro a W hb hd hbase; obtain ⟨hc, hf⟩ := bcell hb; clear hb hf; simp [Rel.deps, Rel.dep1, Rel.ons, Region.binds, Act.eval] at hd; simp only [Act.eval, List.mem_cons, List.not_mem_nil, not_or, and_imp, or_false, Array.getD_eq_getD_getElem?] at hbase; go_simp; (try go_bits); (try rfl); done)); (try simp only [List.nil_append, List.cons_append]))
  (apply Rel.call3; (focus (first | exact Rel.gno rfl | exact Rel.gyes _ true _ rfl rfl rfl | exact Rel.gyes _ false _ rfl rfl rfl)); (focus (intro a W hb hd hbase; obtain ⟨hc, hf⟩ := bcell hb; clear hb hf; simp [Rel.deps, Rel.dep1, Rel.ons, Region.binds, Act.eval] at hd; simp only [Act.eval, List.mem_cons, List.not_mem_nil, not_or, and_imp, or_false, Array.getD_eq_getD_getElem?] at hbase; go_simp; refine ⟨?_, ?_⟩; rfl; rfl)); (focus (intro W hb; go_at_call 40; exact HWI.out W)); (try simp only [List.nil_append, List.cons_append]))
  iterate 5 (apply Rel.op3; (focus (first | exact Rel.gno rfl | exact Rel.gyes _ true _ rfl rfl rfl | exact Rel.gyes _ false _ rfl rfl rfl)); (focus (intro a W hb hd hbase; obtain ⟨hc, hf⟩ := bcell hb; clear hb hf; simp [Rel.deps, Rel.dep1, Rel.ons, Region.binds, Act.eval] at hd; simp only [Act.eval, List.mem_cons, List.not_mem_nil, not_or, and_imp, or_false, Array.getD_eq_getD_getElem?] at hbase; go_simp; (try go_bits); (try rfl); done)); (try simp only [List.nil_append, List.cons_append]))
  (apply Rel.call3; (focus (first | exact Rel.gno rfl | exact Rel.gyes _ true _ rfl rfl rfl | exact Rel.gyes _ false _ rfl rfl rfl)); (focus (intro a W hb hd hbase; obtain ⟨hc, hf⟩ := bcell hb; clear hb hf; simp [Rel.deps, Rel.dep1, Rel.ons, Region.binds, Act.eval] at hd; simp only [Act.eval, List.mem_cons, List.not_mem_nil, not_or, and_imp, or_false, Array.getD_eq_getD_getElem?] at hbase; go_simp; refine ⟨?_, ?_⟩; rfl; rfl)); (focus (intro W hb; go_at_call 37; exact HWH.out W)); (try simp only [List.nil_append, List.cons_append]))
  refine Rel.done3 ?_
  intro x w2 hb2 hx
  simp only [Rel.facts, Nat.zero_add, Nat.reduceAdd] at hx
  obtain ⟨e0, e1, e2, e3, e4, e5, e6, e7, e8, e9, e10, e11, _⟩ := hx
  simp only [Rel.fill, Nat.zero_add, Nat.reduceAdd, e0, e1, e2, e3, e4, e5, e6, e7, e8, e9, e10, e11]
  simp only [Act.put, List.setIfInBounds_toArray, List.set_cons_zero, List.set_cons_succ]
  clear e0 e1 e2 e3 e4 e5 e6 e7 e8 e9 e10 e11
  have HB2 := Lib.hid (HB1.out.trans (hb2.mono HB1.out.size))
  have K02 := Lib.hid (HK0.out.below hb2)
  have K12 := Lib.hid (HK1.out.below hb2)
  have K22 := Lib.hid (HK2.out.below hb2)
  have HA2 := Lib.hid (HA1.out.below hb2)
  have HBB2 := Lib.hid (HBB1.out.below hb2)
  clear hb2 a0 al af b0 bl bf c0 cl cf
  go_wp2_with (go_at_call 27; refine (HF4.out _).mono ?_; rintro r wx ⟨rfl, rfl⟩; refine Hid.out ?_)
  unfold Hid
  obtain ⟨a0, al, af⟩ := (K02.out.alloc (.cells #[(.int .i64 0), (.int .i64 0), (.int .i64 0), (.int .i64 0)] 24)).o1
  go_wp2_with (go_at_call 41; refine name_calls ?_; intro w3 e3; refine Hid.out ?_)
  unfold Hid
  have h3 : Below w2.heap.size w2 w3 := by rw [e3]; exact bel
  have HB3 := Lib.hid (HB2.out.trans (h3.mono HB2.out.size))
  have K03 := K02.out.below h3
  have K13 := K12.out.below h3
  have K23 := K22.out.below h3
  have HA3 := HA2.out.below h3
  have HBB3 := HBB2.out.below h3
  clear e3 h3 a0 al af
  refine (HFI.out w3 _ _ _ HA3 HBB3 K03.lt K13.lt K23.lt (by rw [K03.c]; rfl) (by rw [K13.c]; rfl) (by rw [K23.c]; rfl)).mono ?_
  rintro r w4 ⟨rfl, h4⟩
  have HB4 := Lib.hid (HB3.out.trans (h4.mono HB3.out.size))
  clear h4 K03 K13 K23 HA3 HBB3
  go_wp2
  refine bodyPost_ret (v := .tuple #[(.int .i64 FX), (.int .i64 FE)]) (by simp [results, Try.results11, go_sem]) rfl ⟨rfl, HB4.out⟩
end Go.Proofs.Ytamldoidalnloaa

/- Contracts of the small functions of the package line. -/
namespace Go.Proofs.Ytamldoidalnloaa
open Go.RowKit
open Calm (bcell Blk)
theorem lnWhen_any (b : Bool) (e : Int) (w : World) : Calls Try.prog 71 #[.bool b, (.int .i64 e)] w fun r w' => r = .returned (.int .i64 (if b then e else 0)) ∧ w = w' := by
  cases b <;>
  · go_enter Try.func71, Try.ntmps71
    go_wp2
    go_ret
    exact ⟨rfl, rfl⟩

theorem lnWithin_any (n lo hi : Int) (w : World) : Calls Try.prog 115 #[(.int .i64 n), (.int .i64 lo), (.int .i64 hi)] w fun r w' => r = .returned (.int .i64 (rangeErr n lo hi)) ∧ w = w' := by
  rcases Int.lt_or_le n lo with h | h
  · go_enter Try.func115, Try.ntmps115
    go_wp2_with (go_at_call 71; refine (lnWhen_any _ _ _).mono ?_; rintro r w' ⟨rfl, rfl⟩)
    go_ret
    exact ⟨ret_i (rangeErr_lo h).symm, rfl⟩
  · rcases Int.lt_or_le hi n with h' | h'
    · go_enter Try.func115, Try.ntmps115
      go_wp2_with (go_at_call 71; refine (lnWhen_any _ _ _).mono ?_; rintro r w' ⟨rfl, rfl⟩)
      go_ret
      exact ⟨ret_i (rangeErr_hi h').symm, rfl⟩
    · go_enter Try.func115, Try.ntmps115
      go_wp2_with (go_at_call 71; refine (lnWhen_any _ _ _).mono ?_; rintro r w' ⟨rfl, rfl⟩)
      go_ret
      exact ⟨ret_i (rangeErr_in (by omega) (by omega)).symm, rfl⟩

theorem lnFirst_any (l : List Int) (A : Option Addr) (c : Nat) (w : World) (hl : l.length ≤ 5000) (hC : Cells w A l) :
    Calls Try.prog 69 #[.slice A l.length c] w fun r w' => r = .returned (.int .i64 (firstOf l)) ∧ w = w' := by
  go_enter Try.func69, Try.ntmps69
  go_wp2
  go_loop [4, 7] (fun _ i => ∃ k : Nat, k ≤ l.length ∧ i = (.int .i64 k) ∧ ∀ j, j < k → l.getD j 0 = 0) (fun _ i => l.length - (intOf i).toNat)
  case atStart => exact ⟨0, Nat.zero_le _, rfl, fun j hj => by omega⟩
  case round =>
    obtain ⟨k, hk, rfl, hz⟩ := hrel
    have HZ := Lib.hid hz
    clear hz
    by_cases hlt : k < l.length
    · obtain ⟨b, off, rfl, hbl, hc⟩ := hC (by omega)
      have hck := hc k hlt
      clear hc hC
      by_cases h0 : l.getD k 0 = 0
      · rw [h0] at hck
        have H0 := Lib.hid h0
        clear h0
        go_wp2
        go_round
        case rel => exact ⟨k + 1, by omega, by go_num, fun j hj => by
          rcases Nat.lt_or_ge j k with hjk | hjk
          · exact HZ.out j hjk
          · obtain rfl : j = k := by omega
            exact H0.out⟩
        case measure => simp [intOf]; omega
      · obtain ⟨x, hx⟩ : ∃ x, x = l.getD k 0 := ⟨_, rfl⟩
        rw [← hx] at hck h0
        have H0 := Lib.hid hx
        clear hx
        go_wp2
        go_ret
        exact ⟨ret_i (by rw [firstOf_take HZ.out hlt (by rw [← H0.out]; exact h0)]; exact H0.out), rfl⟩
    · clear hC
      go_wp2
      go_ret
      exact ⟨ret_i (by rw [firstOf_zero (fun j hj => HZ.out j (by omega))]), rfl⟩


theorem lnLevel_any (n : Int) (w : World) : Calls Try.prog 107 #[(.int .i64 n)] w fun r w' => r = .returned (.int .i64 (rangeErr n (-100000) 100000)) ∧ w = w' := by
  go_enter Try.func107, Try.ntmps107
  go_wp2_with (go_at_call 115; refine (lnWithin_any _ _ _ _).mono ?_; rintro r w1 ⟨rfl, rfl⟩)
  go_ret
  exact ⟨rfl, rfl⟩
set_option maxHeartbeats 1000000 in
theorem lnMapLev_any (A : Option Addr) (l : List Int) (c : Nat) (w : World) (hC : Cells w A l) (hn : l.length ≤ 5000) :
    Calls Try.prog 106 #[.slice A l.length c, .func (.func 107) #[] #[]] w fun r w' =>
      (∃ B d, r = .returned (.slice B l.length d) ∧ Cells w' B (l.map fun n => rangeErr n (-100000) 100000)) ∧ Below w.heap.size w w' := by
  obtain ⟨i0, hii, hz0, hz1, hz2⟩ := info_parts Try.infoE
  have HC := Lib.hid hC
  obtain ⟨N, hN⟩ : ∃ N, N = l.length := ⟨_, rfl⟩
  have HN := Lib.hid hN
  have HL : Hid (∀ k, k ≤ N → (errsK l (-100000) 100000 k).length = k) := Lib.hid (fun k hk => errsK_len (by rw [← hN]; exact hk))
  rw [← hN] at hn ⊢
  clear hN hC
  go_enter Try.func106, Try.ntmps106
  go_wp2
  go_loopw [5, 10] (fun v i wr => ∃ k : Nat, k ≤ N ∧ i = (.int .i64 ((k : Int))) ∧ wr.ownsRow w.heap.size 24 1 v (errsK l (-100000) 100000 k).length ((errsK l (-100000) 100000 k).map (Value.int .i64)) ∧ Below w.heap.size w wr) (fun _ i _ => N - (intOf i).toNat)
  case atStart => exact ⟨0, Nat.zero_le _, rfl, World.ownsRow_nil _ _ _ _, Below.refl _ _⟩
  case round =>
    obtain ⟨k, hk, rfl, hown, hB⟩ := hrel
    have HO := Lib.hid hown
    have hle := Lib.hid (HL.out k hk)
    have hsz := hB.size
    clear hown
    by_cases hlt : k < N
    · obtain ⟨b, o, rfl, l1, k1⟩ := HC.out (by rw [← HN.out]; omega)
      have x1 := (hB.cell (p := ⟨b, o + k, none⟩) l1).trans (k1 k (by rw [← HN.out]; exact hlt))
      have HS := Lib.hid (errsK_succ (lo := -100000) (hi := 100000) (show k < l.length by rw [← HN.out]; exact hlt))
      obtain ⟨x, hx⟩ : ∃ x, x = l.getD k 0 := ⟨_, rfl⟩
      rw [← hx] at x1 HS
      clear k1 hx
      go_wp2_with (first
        | (go_at_call 107; refine (lnLevel_any x _).mono ?_; rintro r w2 ⟨rfl, rfl⟩)
        | (at_builtin; refine wpList_append_own _ rfl _ _ 74 rfl w.heap.size 24 i0 (.int .i64 0) 1 8 Try.underlying74 hii hz0 hz1 hz2 rfl (by decide) _ _ _ rfl (HO.out.alloc _) ⟨wr.heap.size, 0, none⟩ 1 1 [.int .i64 (rangeErr x (-100000) 100000)] rfl rfl ?c1 ?c2 ?c3 ?c4 ?c5 ?_))
      case c1 =>
        intro j u hj
        match j, hj with
        | 0, hj => simp at hj; subst hj; simp [Addr.add]
      case c2 => intro u hu; simp at hu; subst hu; rfl
      case c3 => have := hle.out; unfold maxLen; omega
      case c4 => have := hle.out; omega
      case c5 => simp; omega
      intro v' w1 hown' hgrow _
      have hB' : Below w.heap.size w w1 := (hB.alloc hsz _).grown hgrow (by simp; omega) (fun j hj => (HO.out.lt j hj).1)
      have HO' := Lib.hid hown'
      clear hgrow hown'
      go_wp2
      go_roundw
      case rel => exact ⟨k + 1, by omega, by go_num, by rw [HS.out]; simpa using HO'.out, hB'⟩
      case measure => simp [intOf]; omega
    · obtain rfl : k = N := by omega
      have hown := HO.out
      have e : errsK l (-100000) 100000 k = l.map fun n => rangeErr n (-100000) 100000 := by rw [HN.out]; exact errsK_all _ _ _
      rw [hle.out, e] at hown
      obtain ⟨B, d, rfl, _, hr⟩ := own_ints hown (by simp [← HN.out])
      have HR := Lib.hid hr
      clear hown e hr
      go_wp2
      go_ret
      exact ⟨⟨B, d, rfl, HR.out⟩, hB⟩

theorem lnFirst_cells (l : List Int) (W : World) (hl : l.length ≤ 100) : Calls Try.prog 69 #[.slice (some ⟨W.heap.size, 0, none⟩) l.length l.length] (W.alloc (.cells (l.map (Value.int .i64)).toArray 24)) fun r w' => r = .returned (.int .i64 (firstOf l)) ∧ (W.alloc (.cells (l.map (Value.int .i64)).toArray 24)) = w' :=
  lnFirst_any l _ _ _ (by omega) (Cells.row (heap_new rfl))

end Go.Proofs.Ytamldoidalnloaa

/- Names of one letter; a unit by itself. -/
namespace Go.Proofs.Ytamldoidalnloaa
open Go.RowKit
open Calm (bcell Blk)
theorem iter_below (w : World) (s : ByteArray) (p : Nat) : Below w.heap.size w (w.iter s p) := (Below.refl _ _).alloc (Nat.le_refl _) _
set_option maxRecDepth 100000 in
set_option maxHeartbeats 4000000 in
theorem isName1 (c : UInt8) (w : World) (h1 : 97 ≤ c.toNat) (h2 : c.toNat ≤ 122) : Calls Try.prog 87 #[.string ⟨#[c]⟩] w fun r w' => r = .returned (.bool true) ∧ Below w.heap.size w w' := by
  obtain ⟨d, hd⟩ : ∃ d : ByteArray, d = ⟨#[c]⟩ := ⟨_, rfl⟩
  have hs : d.size = 1 := by rw [hd]; rfl
  have hc0 : ∀ h, d[0]'h = c := fun h => by subst hd; rfl
  have hne : (d.data.toList == ([] : List UInt8)) = false := by rw [hd]; rfl
  have hne2 : (d.data.toList != ([] : List UInt8)) = true := by rw [hd]; rfl
  have hem : d.toList.isEmpty = false := by rw [hd]; rw [ByteArray.toList]; simp [ByteArray.toList.loop, ByteArray.size]
  rw [← hd]
  clear hd
  obtain ⟨n, hn⟩ : ∃ n, n = c.toNat := ⟨_, rfl⟩
  rw [← hn] at h1 h2
  have e1 : decide ((65 : Int) ≤ (n : Int)) = true := decide_eq_true (by omega)
  have e2 : decide ((n : Int) ≤ 90) = false := decide_eq_false (by omega)
  have e3 : decide ((97 : Int) ≤ (n : Int)) = true := decide_eq_true (by omega)
  have e4 : decide ((n : Int) ≤ 122) = true := decide_eq_true (by omega)
  have e5 : decide ((48 : Int) ≤ (n : Int)) = true := decide_eq_true (by omega)
  have e6 : decide ((n : Int) ≤ 57) = false := decide_eq_false (by omega)
  have e7 : ((n : Int) == 95) = false := by simp; omega
  go_enter Try.func87, Try.ntmps87
  go_wp2
  go_loopw [3] (fun _ w' => ∃ k : Nat, k ≤ 1 ∧ w' = w.iter d k) (fun _ w' => 1 - w'.iterPos w.heap.size)
  case atStart => exact ⟨0, by omega, rfl⟩
  case round =>
    obtain ⟨k, hk, rfl⟩ := hrel
    rcases (by omega : k = 0 ∨ k = 1) with rfl | rfl
    · have hnx : ∀ ty, (Instr.next (.pointer (some ⟨w.heap.size, 0, none⟩)) true ty).run Try.prog (w.iter d 0) = _ := fun ty => run_next_ascii w d 0 ty (by omega) (by rw [hc0]; omega)
      rw [hc0, ← hn] at hnx
      go_wp2
      go_roundw
      case rel => exact ⟨1, by omega, rfl⟩
      case measure => simp
    · have hnx : ∀ ty, (Instr.next (.pointer (some ⟨w.heap.size, 0, none⟩)) true ty).run Try.prog (w.iter d 1) = _ := fun ty => run_next_end w d 1 ty (by omega)
      have hsi : (d.size : Int) ≤ 24 := by omega
      clear hs hc0
      go_wp2
      go_ret
      exact ⟨by first | rfl | (simp; done), iter_below _ _ _⟩
/-- a unit by itself: a name of one letter, one value. -/
def UnitV (c : UInt8) (v : Nat) : Value := .agg #[.string ⟨#[c]⟩, .slice (some ⟨v, 0, none⟩) 1 1]
set_option maxRecDepth 100000 in
set_option maxHeartbeats 4000000 in
theorem unitCheck (c : UInt8) (v : Nat) (x : Int) (w : World) (h1 : 97 ≤ c.toNat) (h2 : c.toNat ≤ 122) (hx : -100000 ≤ x ∧ x ≤ 100000) (hV : Blk w v #[(.int .i64 x)]) : Calls Try.prog 93 #[UnitV c v] w fun r w' => r = .returned (.int .i64 0) ∧ Below w.heap.size w w' := by
  have HIS : Hid (∀ W, Calls Try.prog 87 #[.string ⟨#[c]⟩] W fun r w' => r = .returned (.bool true) ∧ Below W.heap.size W w') := Lib.hid (fun W => isName1 c W h1 h2)
  have HWH : Hid (∀ (e : Int) W, Calls Try.prog 71 #[.bool false, (.int .i64 e)] W fun r w' => r = .returned (.int .i64 0) ∧ Below W.heap.size W w') := Lib.hid (fun e W => (lnWhen_any false e W).mono fun _ _ ⟨he, h2⟩ => ⟨he, h2 ▸ Below.refl _ _⟩)
  have HF3 : Hid (∀ (W : World), Calls Try.prog 69 #[.slice (some ⟨W.heap.size, 0, none⟩) 3 3] (W.alloc (.cells #[(.int .i64 0), (.int .i64 0), (.int .i64 0)] 24)) fun r w' => r = .returned (.int .i64 0) ∧ (W.alloc (.cells #[(.int .i64 0), (.int .i64 0), (.int .i64 0)] 24)) = w') := Lib.hid (fun W => lnFirst_cells [0, 0, 0] W (by simp))
  have HM : Hid (∀ W, Blk W v #[(.int .i64 x)] → Calls Try.prog 106 #[.slice (some ⟨v, 0, none⟩) 1 1, .func (.func 107) #[] #[]] W fun r w' => (∃ B d, r = .returned (.slice B 1 d) ∧ Cells w' B [0]) ∧ Below W.heap.size W w') := Lib.hid (fun W q => by
    have := lnMapLev_any (some ⟨v, 0, none⟩) [x] 1 W (Cells.blk q rfl) (by simp)
    simp only [List.map_cons, List.map_nil, rangeErr_in hx.1 hx.2] at this
    exact this)
  have HF1 : Hid (∀ W B d, Cells W B [0] → Calls Try.prog 69 #[.slice B 1 d] W fun r w' => r = .returned (.int .i64 0) ∧ W = w') := Lib.hid (fun W B d q => lnFirst_any [0] B d W (by simp) q)
  have HV := Lib.hid hV
  unfold UnitV
  obtain ⟨s, hs⟩ : ∃ s : ByteArray, s = ⟨#[c]⟩ := ⟨_, rfl⟩
  rw [← hs] at HIS ⊢
  clear hV hs hx h1 h2
  go_enter Try.func93, Try.ntmps93
  go_wp2
  refine name_world ?_
  intro w1 e1
  have K0 : Blk w1 w.heap.size #[.string s, .slice (some ⟨v, 0, none⟩) 1 1] := by rw [e1]; (repeat (first | ((with_reducible refine Blk.at_ ?_); focus (first | rfl | (simp; done) | (simp; omega))) | (with_reducible refine Blk.alloc ?_ _) | (with_reducible refine Blk.below ?_ (by with_reducible assumption)) | (with_reducible refine Blk.drew ?_)))
  have HB1 := Lib.hid (show Below w.heap.size w w1 by rw [e1]; exact bel)
  have HK0 := Lib.hid K0
  obtain ⟨a0, a1, al, af⟩ := K0.o2
  clear e1 K0
  refine Rel.region3 15 (by kernel_rfl) (by kernel_rfl) (by kernel_rfl) ?_
  simp only [List.take_succ_cons, List.take_zero, List.drop_succ_cons, List.drop_zero, List.filterMap_cons, List.filterMap_nil]
  iterate 2 (apply Rel.op3; (focus (first | exact Rel.gno rfl | exact Rel.gyes _ true _ rfl rfl rfl | exact Rel.gyes _ false _ rfl rfl rfl)); (focus (intro a W hb hd hbase; obtain ⟨hc, hf⟩ := bcell hb; clear hb hf; simp [Rel.deps, Rel.dep1, Rel.ons, Region.binds, Act.eval] at hd; simp only [Act.eval, List.mem_cons, List.not_mem_nil, not_or, and_imp, or_false, Array.getD_eq_getD_getElem?] at hbase; go_simp; (try go_bits); (try rfl); done)); (try simp only [List.nil_append, List.cons_append]))
  (apply Rel.call3; (focus (first | exact Rel.gno rfl | exact Rel.gyes _ true _ rfl rfl rfl | exact Rel.gyes _ false _ rfl rfl rfl)); (focus (intro a W hb hd hbase; obtain ⟨hc, hf⟩ := bcell hb; clear hb hf; simp [Rel.deps, Rel.dep1, Rel.ons, Region.binds, Act.eval] at hd; simp only [Act.eval, List.mem_cons, List.not_mem_nil, not_or, and_imp, or_false, Array.getD_eq_getD_getElem?] at hbase; go_simp; refine ⟨?_, ?_⟩; rfl; rfl)); (focus (intro W hb; go_at_call 87; exact HIS.out W)); (try simp only [List.nil_append, List.cons_append]))
  iterate 1 (apply Rel.op3; (focus (first | exact Rel.gno rfl | exact Rel.gyes _ true _ rfl rfl rfl | exact Rel.gyes _ false _ rfl rfl rfl)); (focus (intro a W hb hd hbase; obtain ⟨hc, hf⟩ := bcell hb; clear hb hf; simp [Rel.deps, Rel.dep1, Rel.ons, Region.binds, Act.eval] at hd; simp only [Act.eval, List.mem_cons, List.not_mem_nil, not_or, and_imp, or_false, Array.getD_eq_getD_getElem?] at hbase; go_simp; (try go_bits); (try rfl); done)); (try simp only [List.nil_append, List.cons_append]))
  (apply Rel.call3; (focus (first | exact Rel.gno rfl | exact Rel.gyes _ true _ rfl rfl rfl | exact Rel.gyes _ false _ rfl rfl rfl)); (focus (intro a W hb hd hbase; obtain ⟨hc, hf⟩ := bcell hb; clear hb hf; simp [Rel.deps, Rel.dep1, Rel.ons, Region.binds, Act.eval] at hd; simp only [Act.eval, List.mem_cons, List.not_mem_nil, not_or, and_imp, or_false, Array.getD_eq_getD_getElem?] at hbase; go_simp; refine ⟨?_, ?_⟩; rfl; rfl)); (focus (intro W hb; go_at_call 71; exact HWH.out 8 W)); (try simp only [List.nil_append, List.cons_append]))
  iterate 4 (apply Rel.op3; (focus (first | exact Rel.gno rfl | exact Rel.gyes _ true _ rfl rfl rfl | exact Rel.gyes _ false _ rfl rfl rfl)); (focus (intro a W hb hd hbase; obtain ⟨hc, hf⟩ := bcell hb; clear hb hf; simp [Rel.deps, Rel.dep1, Rel.ons, Region.binds, Act.eval] at hd; simp only [Act.eval, List.mem_cons, List.not_mem_nil, not_or, and_imp, or_false, Array.getD_eq_getD_getElem?] at hbase; go_simp; (try go_bits); (try rfl); done)); (try simp only [List.nil_append, List.cons_append]))
  (apply Rel.call3; (focus (first | exact Rel.gno rfl | exact Rel.gyes _ true _ rfl rfl rfl | exact Rel.gyes _ false _ rfl rfl rfl)); (focus (intro a W hb hd hbase; obtain ⟨hc, hf⟩ := bcell hb; clear hb hf; simp [Rel.deps, Rel.dep1, Rel.ons, Region.binds, Act.eval] at hd; simp only [Act.eval, List.mem_cons, List.not_mem_nil, not_or, and_imp, or_false, Array.getD_eq_getD_getElem?] at hbase; go_simp; refine ⟨?_, ?_⟩; rfl; rfl)); (focus (intro W hb; go_at_call 71; exact HWH.out 12 W)); (try simp only [List.nil_append, List.cons_append]))
  iterate 4 (apply Rel.op3; (focus (first | exact Rel.gno rfl | exact Rel.gyes _ true _ rfl rfl rfl | exact Rel.gyes _ false _ rfl rfl rfl)); (focus (intro a W hb hd hbase; obtain ⟨hc, hf⟩ := bcell hb; clear hb hf; simp [Rel.deps, Rel.dep1, Rel.ons, Region.binds, Act.eval] at hd; simp only [Act.eval, List.mem_cons, List.not_mem_nil, not_or, and_imp, or_false, Array.getD_eq_getD_getElem?] at hbase; go_simp; (try go_bits); (try rfl); done)); (try simp only [List.nil_append, List.cons_append]))
  (apply Rel.call3; (focus (first | exact Rel.gno rfl | exact Rel.gyes _ true _ rfl rfl rfl | exact Rel.gyes _ false _ rfl rfl rfl)); (focus (intro a W hb hd hbase; obtain ⟨hc, hf⟩ := bcell hb; clear hb hf; simp [Rel.deps, Rel.dep1, Rel.ons, Region.binds, Act.eval] at hd; simp only [Act.eval, List.mem_cons, List.not_mem_nil, not_or, and_imp, or_false, Array.getD_eq_getD_getElem?] at hbase; go_simp; refine ⟨?_, ?_⟩; rfl; rfl)); (focus (intro W hb; go_at_call 71; exact HWH.out 5 W)); (try simp only [List.nil_append, List.cons_append]))
  refine Rel.done3 ?_
  intro x w2 hb2 hx
  simp only [Rel.facts, Nat.zero_add, Nat.reduceAdd] at hx
  obtain ⟨e0, e1, e2, e3, e4, e5, e6, e7, e8, e9, e10, e11, e12, e13, e14, _⟩ := hx
  simp only [Rel.fill, Nat.zero_add, Nat.reduceAdd, e0, e1, e2, e3, e4, e5, e6, e7, e8, e9, e10, e11, e12, e13, e14]
  simp only [Act.put, List.setIfInBounds_toArray, List.set_cons_zero, List.set_cons_succ]
  clear e0 e1 e2 e3 e4 e5 e6 e7 e8 e9 e10 e11 e12 e13 e14
  have HB2 := Lib.hid (HB1.out.trans (hb2.mono HB1.out.size))
  have K02 := Lib.hid (HK0.out.below hb2)
  clear hb2 a0 a1 al af
  go_wp2_with (go_at_call 69; refine (HF3.out _).mono ?_; rintro r wx ⟨rfl, rfl⟩; refine Hid.out ?_)
  unfold Hid
  obtain ⟨a0, a1, al, af⟩ := (K02.out.alloc (.cells #[(.int .i64 0), (.int .i64 0), (.int .i64 0)] 24)).o2
  go_wp2_with (go_at_call 106; refine name_calls ?_; intro w3 e3; refine Hid.out ?_)
  unfold Hid
  have h3 : Below w2.heap.size w2 w3 := by rw [e3]; exact bel
  have HB3 := Lib.hid (HB2.out.trans (h3.mono HB2.out.size))
  clear e3 h3 a0 a1 al af
  refine (HM.out w3 (HV.out.below HB3.out)).mono ?_
  rintro r w4 ⟨⟨B, d, rfl, hc4⟩, h4⟩
  have HB4 := Lib.hid (HB3.out.trans (h4.mono HB3.out.size))
  clear h4
  go_wp2_with (go_at_call 69; refine (HF1.out _ _ _ hc4).mono ?_; rintro r wx ⟨rfl, rfl⟩; refine Hid.out ?_)
  unfold Hid
  go_wp2
  go_ret
  exact ⟨rfl, HB4.out⟩
end Go.Proofs.Ytamldoidalnloaa
