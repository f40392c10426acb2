/- Part 8 of the texts of the claim: S8, J1, J2, J3, X5, Y1, Y2, Y3, Y4, Y5, Y6, Y7, Y8, QC, QW, Y9, Y10, Y11, Td2. -/
import Derived.Test.YtamldoidalnloaaMm7
import Derived.Test.YtamldoidalnloaaMm3
import Derived.Test.YtamldoidalnloaaMm5
import Derived.ChangeKeysEq
import Derived.Maps.OwnOps
import Derived.Maps.OwnSet
import Derived.Maps.Views

/- Contract of Cascade (sections and a signal that hold). -/
namespace Go.Proofs.Ytamldoidalnloaa
open Go.RowKit
open Calm (bcell Blk)

/-- what a section makes of a signal, at rest. -/
def secOut (s : Sec) (ys : List Int) : List Int := soK s.b0 s.b1 s.b2 s.a1 s.a2 s.sh (0, 0, 0, 0) ys ys.length
theorem secOut_len (s : Sec) (ys : List Int) : (secOut s ys).length = ys.length := soK_len _ _ _ _ _ _ _ _ _
theorem secOut_in (s : Sec) (ys : List Int) : inB 32767 (secOut s ys) := by
  intro n hn
  simp only [secOut, soK, List.mem_map] at hn
  obtain ⟨k, _, rfl⟩ := hn
  exact limF_bd _
/-- the signal behind the first k sections. -/
def casc (l : List Sec) (xs : List Int) (k : Nat) : List Int := (l.take k).foldl (fun ys s => secOut s ys) xs
theorem casc_succ {l : List Sec} (xs : List Int) {k : Nat} (hk : k < l.length) : casc l xs (k + 1) = secOut (l.getD k Sec0) (casc l xs k) := by
  unfold casc
  rw [List.take_succ_eq_append_getElem hk, List.foldl_append, List.getD_eq_getElem?_getD, List.getElem?_eq_getElem hk]
  rfl
theorem casc_len {l : List Sec} (xs : List Int) : ∀ k, k ≤ l.length → (casc l xs k).length = xs.length
  | 0, _ => by simp [casc]
  | k + 1, h => by rw [casc_succ _ (by omega), secOut_len, casc_len xs k (by omega)]
theorem casc_in {l : List Sec} {xs : List Int} (hx : inB 32767 xs) : ∀ k, k ≤ l.length → inB 32767 (casc l xs k)
  | 0, _ => by simpa [casc] using hx
  | k + 1, h => by rw [casc_succ _ (by omega)]; exact secOut_in _ _
theorem eachErr_zero {l : List Int} {lo hi : Int} : eachErr l lo hi = 0 ↔ ∀ n ∈ l, lo ≤ n ∧ n ≤ hi := by
  unfold eachErr
  rw [firstOf_eq_zero]
  constructor
  · exact fun h n hn => rangeErr_zero.1 (h _ (List.mem_map.2 ⟨n, hn, rfl⟩))
  · rintro h x hx
    obtain ⟨n, hn, rfl⟩ := List.mem_map.1 hx
    exact rangeErr_zero.2 (h n hn)
theorem secErr_zero {b0 b1 b2 a1 a2 sh : Int} (h : secErr b0 b1 b2 a1 a2 sh = 0) : bd15 b0 ∧ bd15 b1 ∧ bd15 b2 ∧ bd15 a1 ∧ bd15 a2 ∧ 0 ≤ sh ∧ sh ≤ 15 := by
  have h2 := firstOf_eq_zero.1 h
  have h3 := eachErr_zero.1 (h2 _ (List.mem_cons_self ..))
  exact ⟨h3 _ (by simp), h3 _ (by simp), h3 _ (by simp), h3 _ (by simp), h3 _ (by simp), rangeErr_zero.1 (h2 _ (by simp))⟩
theorem secsErr_zero {l : List Sec} (h : secsErr l = 0) : l.length ≤ 8 ∧ ∀ k, k < l.length → secE (l.getD k Sec0) = 0 := by
  have h2 := firstOf_eq_zero.1 h
  refine ⟨?_, fun k hk => ?_⟩
  · have := h2 (if 8 < l.length then 5 else 0) (by simp)
    split at this
    · simp at this
    · omega
  · have h3 := firstOf_eq_zero.1 (h2 (firstOf (l.map secE)) (by simp))
    refine h3 _ (List.mem_map.2 ⟨_, ?_, rfl⟩)
    rw [List.getD_eq_getElem?_getD, List.getElem?_eq_getElem hk]
    exact List.getElem_mem hk
theorem ssigErr_zero {xs : List Int} (h : ssigErr xs = 0) : xs.length ≤ 4096 ∧ inB 32767 xs := by
  have h2 := firstOf_eq_zero.1 h
  refine ⟨?_, fun n hn => ?_⟩
  · have := h2 (if 4096 < xs.length then 5 else 0) (by simp)
    split at this
    · simp at this
    · omega
  · exact eachErr_zero.1 (h2 (eachErr xs (-32767) 32767) (by simp)) n hn

set_option maxRecDepth 100000 in
set_option maxHeartbeats 4000000 in
theorem Cascade_ok (l : List Sec) (xs : List Int) (A1 A : Option Addr) (c1 c : Nat) (w : World) (hS : SCells w A1 l) (hC : Cells w A xs) (hl : secsErr l = 0) (hx : ssigErr xs = 0) :
    Calls Try.prog 15 #[.slice A1 l.length c1, .slice A xs.length c] w fun r w' => (∃ B d, r = .returned (.tuple #[.slice B xs.length d, (.int .i64 0)]) ∧ (∀ p, B = some p → w.heap.size ≤ p.block ∧ Unf w' p.block) ∧ Cells w' B (casc l xs l.length)) ∧ Below w.heap.size w w' := by
  obtain ⟨l8, hsec⟩ := secsErr_zero hl
  obtain ⟨hn, hin⟩ := ssigErr_zero hx
  have HCS : Hid (∀ W, SCells W A1 l → Calls Try.prog 48 #[.slice A1 l.length c1] W fun r w' => r = .returned (.int .i64 0) ∧ Below W.heap.size W w') := Lib.hid (fun W q => by have := checkSections_any l A1 c1 W q (by omega); rwa [hl] at this)
  have HSG : Hid (∀ W, Cells W A xs → Calls Try.prog 49 #[.slice A xs.length c] W fun r w' => r = .returned (.int .i64 0) ∧ Below W.heap.size W w') := Lib.hid (fun W q => by have := sSignal_any xs A c W q (by omega); rwa [hx] at this)
  have HF2 : Hid (∀ (W : World), Calls Try.prog 47 #[.slice (some ⟨W.heap.size, 0, none⟩) 2 2] (W.alloc (.cells #[(.int .i64 0), (.int .i64 0)] 24)) fun r w' => r = .returned (.int .i64 0) ∧ (W.alloc (.cells #[(.int .i64 0), (.int .i64 0)] 24)) = w') := Lib.hid (fun W => sFirst_cells [0, 0] W (by simp))
  have HFR : Hid (∀ k, k < l.length → ∀ W B d, Cells W B (casc l xs k) → Calls Try.prog 50 #[(fun S : Sec => .agg #[(.int .i64 (S.b0)), (.int .i64 (S.b1)), (.int .i64 (S.b2)), (.int .i64 (S.a1)), (.int .i64 (S.a2)), (.int .i64 (S.sh))]) (l.getD k Sec0), .agg #[(.int .i64 0), (.int .i64 0), (.int .i64 0), (.int .i64 0)], .slice B xs.length d] W fun r w' => (∃ B' d' sx, r = .returned (.tuple #[.slice B' xs.length d', .agg (encX sx)]) ∧ (∀ p, B' = some p → W.heap.size ≤ p.block ∧ Unf w' p.block) ∧ Cells w' B' (casc l xs (k + 1))) ∧ Below W.heap.size W w') := Lib.hid (fun k hk W B d q => by
    obtain ⟨g0, g1, g2, g3, g4, g5⟩ := secErr_zero (hsec k hk)
    have hlen := casc_len (l := l) xs k (by omega)
    have := from_any _ _ _ _ _ _ 0 0 0 0 (casc l xs k) B d W g0 g1 g2 g3 g4 g5 (by unfold okX bd15; simp) (casc_in hin k (by omega)) (by omega) q
    rw [hlen] at this
    refine this.mono ?_
    rintro r w' ⟨⟨B', d', rfl, h2, h3⟩, hb⟩
    refine ⟨⟨B', d', _, rfl, h2, ?_⟩, hb⟩
    rw [casc_succ _ hk, secOut, hlen]
    exact h3)
  have HS := Lib.hid hS
  have HC := Lib.hid hC
  have HC0 : Hid (casc l xs 0 = xs) := Lib.hid (by simp [casc])
  obtain ⟨N, hN⟩ : ∃ N, N = xs.length := ⟨_, rfl⟩
  have HN := Lib.hid hN
  obtain ⟨M, hM⟩ : ∃ M, M = l.length := ⟨_, rfl⟩
  have HM := Lib.hid hM
  have HMK : Hid (∀ W : World, Sem.run Try.prog (Instr.makeSlice 22 (.int .i64 N) (.int .i64 N)) W = .ok (.slice (some ⟨W.heap.size, 0, none⟩) N N) (W.alloc (.cells (zerosA N).toArray 3))) := Lib.hid (fun W => mk_ints N (by omega) W)
  rw [← hN] at HSG HFR hn ⊢
  rw [← hM] at HCS HFR l8 ⊢
  clear hl hx hsec hin hN hM hS hC
  go_enter Try.func15, Try.ntmps15
  go_wp2_with (first
    | (go_at_call 48; refine (HCS.out _ HS.out).mono ?_; rintro r w1 ⟨rfl, hb1⟩; have HB1 := Lib.hid hb1; clear hb1)
    | (go_at_call 49; refine (HSG.out _ (HC.out.below HB1.out)).mono ?_; rintro r w2 ⟨rfl, hb2⟩; have HB2 := Lib.hid (HB1.out.trans (hb2.mono HB1.out.size)); clear hb2)
    | (go_at_call 47; refine (HF2.out _).mono ?_; rintro r w3 ⟨rfl, rfl⟩; have HB3 := Lib.hid (HB2.out.alloc HB2.out.size (.cells #[(.int .i64 0), (.int .i64 0)] 24)); refine Hid.out ?_))
  obtain ⟨w3, hw3⟩ : ∃ w3, w3 = w2.alloc (.cells #[(.int .i64 0), (.int .i64 0)] 24) := ⟨_, rfl⟩
  rw [← hw3] at HB3 ⊢
  have hmk := HMK.out w3
  clear hw3 HB1 HB2
  unfold Hid
  have hb3 : Below w.heap.size w (w3.alloc (.cells (zerosA N).toArray 3)) := HB3.out.alloc HB3.out.size _
  have hC3 := HC.out.below hb3
  have hcp := run_copyI (P := Try.prog) (w3.alloc (.cells (zerosA N).toArray 3)) 22 22 3 3 w3.heap.size A xs N N c (zerosA N).toArray 3 Try.underlying22 (by kernel_rfl) (by rw [← HN.out]; exact Nat.le_refl _) (heap_new rfl) (by simp [zerosA]) hC3
  rw [← HN.out] at hcp
  obtain ⟨w4, hw4⟩ : ∃ w4, w4 = (w3.alloc (.cells (zerosA N).toArray 3)).setRow w3.heap.size (xs.map (Value.int .i64) ++ (zerosA N).toArray.toList.drop N).toArray := ⟨_, rfl⟩
  rw [← hw4] at hcp
  have hz3 : w.heap.size ≤ w3.heap.size := HB3.out.size
  have HB4 : Hid (Below w.heap.size w w4) := Lib.hid (by rw [hw4]; exact below_setRow hb3 hz3 _)
  have HC4 : Hid (Cells w4 (some ⟨w3.heap.size, 0, none⟩) xs) := Lib.hid (by
    have h1 := setRow_heap (w3.alloc (.cells (zerosA N).toArray 3)) w3.heap.size (zerosA N).toArray (xs.map (Value.int .i64) ++ (zerosA N).toArray.toList.drop N).toArray 3 (0, 0) (heap_new rfl)
    rw [← hw4, List.drop_eq_nil_of_le (by simp [zerosA]), List.append_nil] at h1
    exact Cells.row h1)
  have HU4 : Hid (Unf w4 w3.heap.size) := Lib.hid (by
    have h1 := setRow_heap (w3.alloc (.cells (zerosA N).toArray 3)) w3.heap.size (zerosA N).toArray (xs.map (Value.int .i64) ++ (zerosA N).toArray.toList.drop N).toArray 3 (0, 0) (heap_new rfl)
    rw [← hw4] at h1
    exact ⟨(Array.getElem?_eq_some_iff.1 h1).1, fun i => by unfold World.frozen?; rw [h1]; simp⟩)
  have hz4 := HB4.out.size
  clear hw4 hb3 hC3
  go_wp2
  go_loopw [7, 27] (fun v i wr => ∃ (k : Nat) (B : Option Addr) (d : Nat), k ≤ M ∧ v = .slice B N d ∧ i = (.int .i64 ((k : Int))) ∧ (∀ p, B = some p → w.heap.size ≤ p.block ∧ Unf wr p.block) ∧ Cells wr B (casc l xs k) ∧ Below w.heap.size w wr) (fun _ i _ => M - (intOf i).toNat)
  case atStart => exact ⟨0, _, _, Nat.zero_le _, rfl, rfl, fun p e => by cases e; exact ⟨hz3, HU4.out⟩, by rw [HC0.out]; exact HC4.out, HB4.out⟩
  case round =>
    obtain ⟨k, B, d, hk, rfl, rfl, hf, hcc, hB⟩ := hrel
    have HCC := Lib.hid hcc
    have HFB := Lib.hid hf
    have hsz := hB.size
    clear hcc hf
    by_cases hlt : k < M
    · obtain ⟨b, o, rfl, l1, k1⟩ := HS.out (by rw [← HM.out]; omega)
      obtain ⟨q0, q1, q2, q3, q4, q5⟩ := k1 k (by rw [← HM.out]; exact hlt)
      have x0 := (hB.cell (p := ⟨b, o + k * 6, none⟩) l1).trans q0
      have x1 := (hB.cell (p := ⟨b, o + k * 6 + 1, none⟩) l1).trans q1
      have x2 := (hB.cell (p := ⟨b, o + k * 6 + 2, none⟩) l1).trans q2
      have x3 := (hB.cell (p := ⟨b, o + k * 6 + 3, none⟩) l1).trans q3
      have x4 := (hB.cell (p := ⟨b, o + k * 6 + 4, none⟩) l1).trans q4
      have x5 := (hB.cell (p := ⟨b, o + k * 6 + 5, none⟩) l1).trans q5
      have HF1 := Lib.hid (HFR.out k hlt)
      obtain ⟨S, hS⟩ : ∃ S, S = l.getD k Sec0 := ⟨_, rfl⟩
      rw [← hS] at x0 x1 x2 x3 x4 x5 HF1
      clear q0 q1 q2 q3 q4 q5 k1 hS
      go_wp2_with (go_at_call 50; refine (HF1.out _ _ _ (HCC.out.below ((Below.refl _ _).alloc (Nat.le_refl _) _))).mono ?_; rintro r w5 ⟨⟨B', d', sx, rfl, hf5, hc5⟩, hb5⟩; have HB5 := Lib.hid ((hB.alloc hsz _).trans (hb5.mono (by simp; omega))); have HC5 := Lib.hid hc5; have HF5 := Lib.hid hf5; clear hc5 hf5 hb5)
      go_roundw
      case rel => exact ⟨k + 1, _, _, by omega, rfl, by go_num, fun p e => by have := HF5.out p e; exact ⟨by have := this.1; simp at this; omega, this.2⟩, HC5.out, HB5.out⟩
      case measure => simp [intOf]; omega
    · obtain rfl : k = M := by omega
      go_wp2
      go_ret2
      exact ⟨⟨B, d, rfl, HFB.out, HCC.out⟩, hB⟩
end Go.Proofs.Ytamldoidalnloaa

/- Contracts of the references: First, CheckRange, SameInts, CheckInput, CheckValue, CheckSignal. -/
namespace Go.Proofs.Ytamldoidalnloaa
open Go.RowKit
open Calm (bcell Blk)

set_option maxRecDepth 100000 in
set_option maxHeartbeats 4000000 in
theorem sameInts_any (A B : Option Addr) (a b : List Int) (ca cb : Nat) (w : World) (hA : Cells w A a) (hB : Cells w B b) (h1 : a.length ≤ 100000) (h2 : b.length ≤ 100000) :
    Calls Try.prog 8 #[.slice A a.length ca, .slice B b.length cb] w fun x w' => x = .returned (.bool (decide (a = b))) ∧ Below w.heap.size w w' := by
  obtain ⟨E, hE⟩ : ∃ E, E = decide (a = b) := ⟨_, rfl⟩
  have HE := Lib.hid hE
  have HCA := Lib.hid hA
  have HCB := Lib.hid hB
  obtain ⟨N, hN⟩ : ∃ N, N = a.length := ⟨_, rfl⟩
  obtain ⟨M, hM⟩ : ∃ M, M = b.length := ⟨_, rfl⟩
  have HN := Lib.hid hN
  have HM := Lib.hid hM
  rw [← hE]
  rw [← hN] at h1 ⊢
  rw [← hM] at h2 ⊢
  clear hE hA hB hN hM
  by_cases hnm : N = M
  · have HNM := Lib.hid hnm
    subst hnm
    go_enter Try.func8, Try.ntmps8
    go_wp2
    go_loopw [5] (fun i wr => ∃ k : Nat, k ≤ N ∧ i = (.int .i64 ((k : Nat))) ∧ (∀ j, j < k → a.getD j 0 = b.getD j 0) ∧ Below w.heap.size w wr) (fun i _ => N - (intOf i).toNat)
    case atStart => exact ⟨0, by omega, rfl, fun j hj => by omega, Below.refl _ _⟩
    case round =>
      obtain ⟨k, hk, rfl, hz, hBr⟩ := hrel
      have HZ := Lib.hid hz
      have HBR := Lib.hid hBr
      have hszr := hBr.size
      clear hz hBr
      by_cases hlt : k < N
      · have l1 : k < a.length := by rw [← HN.out]; exact hlt
        have l2 : k < b.length := by rw [← HM.out]; exact hlt
        obtain ⟨g, o, rfl, q1, k1⟩ := (HCA.out.below HBR.out) (by omega)
        obtain ⟨g', o', rfl, q2, k2⟩ := (HCB.out.below HBR.out) (by omega)
        have y1 := k1 k l1
        have y2 := k2 k l2
        obtain ⟨x, hx⟩ : ∃ x, x = a.getD k 0 := ⟨_, rfl⟩
        obtain ⟨y, hy⟩ : ∃ y, y = b.getD k 0 := ⟨_, rfl⟩
        rw [← hx] at y1
        rw [← hy] at y2
        have HX := Lib.hid hx
        have HY := Lib.hid hy
        clear k1 k2 hx hy l1 l2
        by_cases hxy : x = y
        · subst hxy
          go_wp2
          refine Calm.tail_below 8 (by kernel_rfl) (by kernel_rfl) ?_
          simp only [List.take_succ_cons, List.take_zero, List.drop_succ_cons, List.drop_zero]
          repeat (first | (apply Calm.op_move; (focus rfl); (focus (first | exact .inl rfl | exact .inr rfl)); (focus ((try simp only [Act.eval, Array.getD_eq_getD_getElem?, List.getElem?_toArray, List.getElem?_cons_succ, List.getElem?_cons_zero, Option.getD_some]); rfl)); (try simp only [Act.put, List.setIfInBounds_toArray, List.set_cons_zero, List.set_cons_succ])) | (apply Calm.op_not; (focus rfl); (try simp only [Act.put, List.setIfInBounds_toArray, List.set_cons_zero, List.set_cons_succ])) | (apply Calm.op; (focus rfl); (focus (intro W hb; obtain ⟨hc, hf⟩ := bcell hb; clear hb hf; go_simp; (try go_bits); (try rfl); done)); (try simp only [Act.put, List.setIfInBounds_toArray, List.set_cons_zero, List.set_cons_succ])))
          refine wpQuiet_nil ?_
          intro w2 hb2
          obtain ⟨hb2c, hb2f⟩ := bcell hb2
          have hb2z := hb2.size
          (try simp at hb2z)
          (try have hb2z0 : w.heap.size < w2.heap.size := by omega)
          (try have hb2z1 : w.heap.size + 1 < w2.heap.size := by omega)
          (try have hb2z2 : w.heap.size + 1 + 1 < w2.heap.size := by omega)
          (try have hb2z3 : w.heap.size + 1 + 1 + 1 < w2.heap.size := by omega)
          (try have hb2z4 : w.heap.size + 1 + 1 + 1 + 1 < w2.heap.size := by omega)
          (try have hb2z5 : w.heap.size + 1 + 1 + 1 + 1 + 1 < w2.heap.size := by omega)
          go_wp2
          go_roundw
          case rel =>
            refine ⟨k + 1, by omega, by go_num, fun j hj => ?_, HBR.out.trans (hb2.mono hszr)⟩
            rcases Nat.lt_or_ge j k with h | h
            · exact HZ.out j h
            · obtain rfl : j = k := by omega
              rw [← HX.out, ← HY.out]
          case measure => simp [intOf]; omega
        · have HEE := Lib.hid (show E = false by
            rw [HE.out]
            refine decide_eq_false (fun e => hxy ?_)
            rw [HX.out, HY.out, e])
          go_wp2
          refine Calm.tail_below 8 (by kernel_rfl) (by kernel_rfl) ?_
          simp only [List.take_succ_cons, List.take_zero, List.drop_succ_cons, List.drop_zero]
          repeat (first | (apply Calm.op_move; (focus rfl); (focus (first | exact .inl rfl | exact .inr rfl)); (focus ((try simp only [Act.eval, Array.getD_eq_getD_getElem?, List.getElem?_toArray, List.getElem?_cons_succ, List.getElem?_cons_zero, Option.getD_some]); rfl)); (try simp only [Act.put, List.setIfInBounds_toArray, List.set_cons_zero, List.set_cons_succ])) | (apply Calm.op_not; (focus rfl); (try simp only [Act.put, List.setIfInBounds_toArray, List.set_cons_zero, List.set_cons_succ])) | (apply Calm.op; (focus rfl); (focus (intro W hb; obtain ⟨hc, hf⟩ := bcell hb; clear hb hf; go_simp; (try go_bits); (try rfl); done)); (try simp only [Act.put, List.setIfInBounds_toArray, List.set_cons_zero, List.set_cons_succ])))
          refine wpQuiet_nil ?_
          intro w2 hb2
          obtain ⟨hb2c, hb2f⟩ := bcell hb2
          have hb2z := hb2.size
          (try simp at hb2z)
          (try have hb2z0 : w.heap.size < w2.heap.size := by omega)
          (try have hb2z1 : w.heap.size + 1 < w2.heap.size := by omega)
          (try have hb2z2 : w.heap.size + 1 + 1 < w2.heap.size := by omega)
          (try have hb2z3 : w.heap.size + 1 + 1 + 1 < w2.heap.size := by omega)
          (try have hb2z4 : w.heap.size + 1 + 1 + 1 + 1 < w2.heap.size := by omega)
          (try have hb2z5 : w.heap.size + 1 + 1 + 1 + 1 + 1 < w2.heap.size := by omega)
          go_wp2
          go_ret
          exact ⟨by rw [HEE.out]; rfl, HBR.out.trans (hb2.mono hszr)⟩
      · obtain rfl : k = N := by omega
        have HEE := Lib.hid (show E = true by
          rw [HE.out]
          refine decide_eq_true (List.ext_getElem? fun i => ?_)
          have hl : a.length = b.length := HN.out.symm.trans HM.out
          rcases Nat.lt_or_ge i a.length with h | h
          · have := HZ.out i (by rw [HN.out]; exact h)
            simpa [h, show i < b.length by omega] using this
          · rw [List.getElem?_eq_none h, List.getElem?_eq_none (by omega)])
        go_wp2
        go_ret
        exact ⟨by rw [HEE.out]; rfl, HBR.out⟩
  · have HEE := Lib.hid (show E = false by
      rw [HE.out]
      refine decide_eq_false (fun e => hnm ?_)
      rw [HN.out, HM.out, e])
    have hnm2 : ¬ (N : Int) = (M : Int) := by omega
    go_enter Try.func8, Try.ntmps8
    go_wp2
    go_ret
    exact ⟨by rw [HEE.out]; rfl, Below.refl _ _⟩
end Go.Proofs.Ytamldoidalnloaa

/- Contracts of the reference's numbers, CheckSection, CheckSections. -/
namespace Go.Proofs.Ytamldoidalnloaa
open Go.RowKit
open Calm (bcell Blk)

end Go.Proofs.Ytamldoidalnloaa

/- A guard's error, number by number; a guard without error is valid. No walk. -/
namespace Go.Proofs.Ytamldoidalnloaa
open Go.RowKit

/-- the error, from the first number that is not yet known to be right. -/
def G1 (gs : List Int) (l : List Int) : Int := if firstOf l = 0 then guardErr2 gs else firstOf l
end Go.Proofs.Ytamldoidalnloaa

/- protect.Loudest. -/
namespace Go.Proofs.Ytamldoidalnloaa
open Go.RowKit
open Calm (bcell Blk)

end Go.Proofs.Ytamldoidalnloaa

/- Contracts of checkHeat, checkValue and CheckState. -/
namespace Go.Proofs.Ytamldoidalnloaa
open Go.RowKit
open Calm (bcell Blk)

end Go.Proofs.Ytamldoidalnloaa

/- Contracts of Begin, safe, Safe, Tails. -/
namespace Go.Proofs.Ytamldoidalnloaa
open Go.RowKit
open Calm (bcell Blk)

/-- a valid guard and state. -/
structure StV (lk ht rc : Int) (ts gs : List Int) (h lv : Int) (ps : List Int) : Prop where
  g : guardErr lk ht rc ts gs = 0
  v : Valid lk ht rc ts gs
  h : 0 ≤ h ∧ h ≤ 536870912
  lv : 0 ≤ lv ∧ lv < gs.length
  pl : ts.length = ps.length + 1
  pb : inB 2048 ps
end Go.Proofs.Ytamldoidalnloaa

/- Contracts of safe, Safe, Tails. -/
namespace Go.Proofs.Ytamldoidalnloaa
open Go.RowKit
open Calm (bcell Blk)

end Go.Proofs.Ytamldoidalnloaa

/- Contracts of Behind and Step. -/
namespace Go.Proofs.Ytamldoidalnloaa
open Go.RowKit
open Calm (bcell Blk)

end Go.Proofs.Ytamldoidalnloaa

/- Contract of Step. -/
namespace Go.Proofs.Ytamldoidalnloaa
open Go.RowKit
open Calm (bcell Blk)

end Go.Proofs.Ytamldoidalnloaa

/- Contract of Release. -/
namespace Go.Proofs.Ytamldoidalnloaa
open Go.RowKit
open Calm (bcell Blk)

end Go.Proofs.Ytamldoidalnloaa

/- Contracts of slices.Equal, Run, Levels, Peaks and CheckRun. -/
namespace Go.Proofs.Ytamldoidalnloaa
open Go.RowKit
open Calm (bcell Blk)

end Go.Proofs.Ytamldoidalnloaa

/- Contracts of CheckRun (with a right length), steady, Steady. -/
namespace Go.Proofs.Ytamldoidalnloaa
open Go.RowKit
open Calm (bcell Blk)

end Go.Proofs.Ytamldoidalnloaa

/- Plain laws: a heat that cools. -/
namespace Go.Proofs.Ytamldoidalnloaa
open Go.RowKit

end Go.Proofs.Ytamldoidalnloaa

/- Plain laws: the weight of the taps, the steady output, the quiet input. -/
namespace Go.Proofs.Ytamldoidalnloaa
open Go.RowKit

end Go.Proofs.Ytamldoidalnloaa

/- Contract of weight. -/
namespace Go.Proofs.Ytamldoidalnloaa
open Go.RowKit
open Calm (bcell Blk)

end Go.Proofs.Ytamldoidalnloaa

/- Contracts of Steady and Quiet. -/
namespace Go.Proofs.Ytamldoidalnloaa
open Go.RowKit
open Calm (bcell Blk)

end Go.Proofs.Ytamldoidalnloaa

/- Contract of Cool: a map that the call makes holds the heats that were seen. -/
namespace Go.Proofs.Ytamldoidalnloaa
open Go.RowKit
open Calm (bcell Blk)
open Go.Maps (Keyed)

theorem plainElem_bool_inv {H : Type} {P : Program} {e : TypeId} (he : P.underlying e = some .bool) {v : Value} {z : DataW H × List MemPlace} (h : plainElem P e v = some z) : ∃ b, v = .bool b ∧ z = (.lit (.bool b), []) := by
  unfold plainElem at h
  rw [he] at h
  cases v <;> simp at h
  exact ⟨_, rfl, h.symm⟩
theorem zeroB (w : World) : (zeroValue 4).run Try.prog w = .ok (.bool false) w := by kernel_rfl

end Go.Proofs.Ytamldoidalnloaa

/- CheckUnits of four units that are known. -/
namespace Go.Proofs.Ytamldoidalnloaa
open Go.RowKit
open Calm (bcell Blk)
/-- the four units: a 5, b 1, c 4, d 2. -/
structure US (W : World) (ub v0 v1 v2 v3 : Nat) : Prop where
  u : Blk W ub #[.string ⟨#[97]⟩, .slice (some ⟨v0, 0, none⟩) 1 1, .string ⟨#[98]⟩, .slice (some ⟨v1, 0, none⟩) 1 1, .string ⟨#[99]⟩, .slice (some ⟨v2, 0, none⟩) 1 1, .string ⟨#[100]⟩, .slice (some ⟨v3, 0, none⟩) 1 1]
  k0 : Blk W v0 #[(.int .i64 5)]
  k1 : Blk W v1 #[(.int .i64 1)]
  k2 : Blk W v2 #[(.int .i64 4)]
  k3 : Blk W v3 #[(.int .i64 2)]
theorem US.below {W W' : World} {ub v0 v1 v2 v3 : Nat} (h : US W ub v0 v1 v2 v3) (hb : Below W.heap.size W W') : US W' ub v0 v1 v2 v3 := ⟨h.u.below hb, h.k0.below hb, h.k1.below hb, h.k2.below hb, h.k3.below hb⟩
theorem US.cells {W : World} {ub v0 v1 v2 v3 : Nat} (h : US W ub v0 v1 v2 v3) : W.cell? ⟨ub, 0, none⟩ = some (.string ⟨#[97]⟩) ∧ W.cell? ⟨ub, 1, none⟩ = some (.slice (some ⟨v0, 0, none⟩) 1 1) ∧ W.cell? ⟨ub, 2, none⟩ = some (.string ⟨#[98]⟩) ∧ W.cell? ⟨ub, 3, none⟩ = some (.slice (some ⟨v1, 0, none⟩) 1 1) ∧ W.cell? ⟨ub, 4, none⟩ = some (.string ⟨#[99]⟩) ∧ W.cell? ⟨ub, 5, none⟩ = some (.slice (some ⟨v2, 0, none⟩) 1 1) ∧ W.cell? ⟨ub, 6, none⟩ = some (.string ⟨#[100]⟩) ∧ W.cell? ⟨ub, 7, none⟩ = some (.slice (some ⟨v3, 0, none⟩) 1 1) ∧ ub < W.heap.size :=
  ⟨h.u.c 0, h.u.c 1, h.u.c 2, h.u.c 3, h.u.c 4, h.u.c 5, h.u.c 6, h.u.c 7, h.u.lt⟩
theorem Try.keyS : Go.Maps.Keyed Try.prog 9 := Go.Maps.string_keyed Try.underlying9
theorem keyStr (s : ByteArray) (hs : s.size ≤ maxLen) : keyOf Try.prog 9 (.string s) = some (.string s.data.toList) := by
  rw [keyOf_string Try.underlying9]
  simp [mapKey, Try.underlying9]
  exact hs
def nmL : List (List UInt8) := [[97], [98], [99], [100]]
/-- a map of the first k names. -/
def NM (k B : Nat) (W : World) : Prop :=
  ∃ D : DataW Unit, W.ownsMap Try.prog 9 (plainElem Try.prog 4) B k D ∧ ∀ x : List UInt8, D.atKey (.string x) (.lit (.bool false)) = .lit (.bool (decide (x ∈ nmL.take k)))
theorem grownBy_below' {W W' : World} (h : Below W.heap.size W W') (row : Option Nat) : W.grownBy W' row := ⟨h.os, h.tape, h.output, h.size, fun k hk _ => h.block k hk⟩
theorem NM.below {k B : Nat} {W W' : World} (hs : NM k B W) (hb : Below W.heap.size W W') : NM k B W' := by
  obtain ⟨D, h1, h2⟩ := hs
  exact ⟨D, h1.kept (grownBy_below' hb none) (by simp), h2⟩
theorem NM.put {k B : Nat} {W : World} {D : DataW Unit} {y : List UInt8} (hk : nmL[k]? = some y) (h1 : W.ownsMap Try.prog 9 (plainElem Try.prog 4) B (k + 1) (D.put (.string y) (.lit (.bool true)))) (hD : Maps.IsMap D)
    (h2 : ∀ x : List UInt8, D.atKey (.string x) (.lit (.bool false)) = .lit (.bool (decide (x ∈ nmL.take k)))) : NM (k + 1) B W := by
  refine ⟨_, h1, fun x => ?_⟩
  have ht : nmL.take (k + 1) = nmL.take k ++ [y] := by rw [List.take_add_one, hk]; rfl
  by_cases hx : x = y
  · subst hx
    rw [Maps.atKey_put_same hD (by simp [WideAt.IsKeyLit]), decide_eq_true (by rw [ht]; simp)]
  · rw [Maps.atKey_put_other (by simpa using hx), h2, ht]
    congr 2
    rw [decide_eq_decide]
    simp [hx]
set_option maxRecDepth 100000 in
set_option maxHeartbeats 16000000 in
theorem checkUnits_ok (ub v0 v1 v2 v3 : Nat) (w : World) (hU : US w ub v0 v1 v2 v3) : Calls Try.prog 70 #[.slice (some ⟨ub, 0, none⟩) 4 4] w fun r w' => r = .returned (.int .i64 0) ∧ Below w.heap.size w w' := by
  have hmm := @run_makeMap Try.prog
  have HUC : Hid (∀ (c : UInt8) (v : Nat) (x : Int) (W : World), 97 ≤ c.toNat → c.toNat ≤ 122 → (-100000 ≤ x ∧ x ≤ 100000) → Blk W v #[(.int .i64 x)] → Calls Try.prog 93 #[.agg #[.string ⟨#[c]⟩, .slice (some ⟨v, 0, none⟩) 1 1]] W fun r w' => r = .returned (.int .i64 0) ∧ Below W.heap.size W w') := Lib.hid (fun c v x W h1 h2 hx hV => unitCheck c v x W h1 h2 hx hV)
  have HWH : Hid (∀ (e : Int) W, Calls Try.prog 71 #[.bool false, (.int .i64 e)] W fun r w' => r = .returned (.int .i64 0) ∧ Below W.heap.size W w') := Lib.hid (fun e W => (lnWhen_any false e W).mono fun _ _ ⟨he, h2⟩ => ⟨he, h2 ▸ Below.refl _ _⟩)
  have HWH2 : Hid (∀ (e : Int) W, Calls Try.prog 71 #[.bool false, (.int .i64 e)] W fun r w' => r = .returned (.int .i64 0) ∧ W = w') := Lib.hid (fun e W => lnWhen_any false e W)
  have HF3 : Hid (∀ (W : World), Calls Try.prog 69 #[.slice (some ⟨W.heap.size, 0, none⟩) 3 3] (W.alloc (.cells #[(.int .i64 0), (.int .i64 0), (.int .i64 0)] 24)) fun r w' => r = .returned (.int .i64 0) ∧ (W.alloc (.cells #[(.int .i64 0), (.int .i64 0), (.int .i64 0)] 24)) = w') := Lib.hid (fun W => lnFirst_cells [0, 0, 0] W (by simp))
  have HU := Lib.hid hU
  clear hU
  go_enter Try.func70, Try.ntmps70
  go_wp2
  refine name_world ?_
  intro w1 e1
  have HB1 := Lib.hid (show Below w.heap.size w w1 by rw [e1]; exact bel)
  have HM1 : Hid (NM 0 w.heap.size w1) := Lib.hid (by
    rw [e1]
    refine ⟨.map [], ?_, fun x => ?_⟩
    · have := World.ownsMap_made (H := Unit) w Try.prog 9 (plainElem Try.prog 4)
      simpa using this
    · rw [decide_eq_false (by simp)]
      rfl)
  clear e1 hmm
  go_loopw [13] (fun z wr => ∃ k : Nat, k ≤ 4 ∧ z = (.int .i64 ((k : Int))) ∧ NM k w.heap.size wr ∧ w.heap.size < wr.heap.size ∧ Below w.heap.size w wr) (fun z _ => 4 - (intOf z).toNat)
  case atStart => exact ⟨0, by omega, rfl, HM1.out, by obtain ⟨D, h1, _⟩ := HM1.out; exact h1.lt, HB1.out⟩
  case round =>
    obtain ⟨k, hk, rfl, hm, hwl, hb⟩ := hrel
    have HM := Lib.hid hm
    have HBR := Lib.hid hb
    have hus := HU.out.below hb
    have HUR := Lib.hid hus
    obtain ⟨a0, a1, a2, a3, a4, a5, a6, a7, al⟩ := hus.cells
    have hzr := hb.size
    clear hm hb hus
    rcases (by omega : k = 0 ∨ k = 1 ∨ k = 2 ∨ k = 3 ∨ k = 4) with rfl | rfl | rfl | rfl | rfl
    · have ek : ((0 : Nat) : Int) = 0 := rfl
      rw [ek]
      go_wp2
      refine name_world ?_
      intro w2 e2
      have h2 : Below wr.heap.size wr w2 := by rw [e2]; exact bel
      have K2 : Blk w2 wr.heap.size #[.string ⟨#[97]⟩, .slice (some ⟨v0, 0, none⟩) 1 1] := by rw [e2]; (repeat (first | ((with_reducible refine Blk.at_ ?_); focus (first | rfl | (simp; done) | (simp; omega))) | (with_reducible refine Blk.alloc ?_ _) | (with_reducible refine Blk.below ?_ (by with_reducible assumption)) | (with_reducible refine Blk.drew ?_)))
      have HB2 := Lib.hid (HBR.out.trans (h2.mono hzr))
      have HM2 := Lib.hid (HM.out.below h2)
      have hus := HUR.out.below h2
      have HU2 := Lib.hid hus
      have HK2 := Lib.hid K2
      clear a0 a1 a2 a3 a4 a5 a6 a7 al
      obtain ⟨a0, a1, a2, a3, a4, a5, a6, a7, al⟩ := hus.cells
      obtain ⟨c0, c1, cl, cf⟩ := K2.o2
      clear e2 h2 hus K2
      refine Rel.region3 16 (by kernel_rfl) (by kernel_rfl) (by kernel_rfl) ?_
      simp only [List.take_succ_cons, List.take_zero, List.drop_succ_cons, List.drop_zero, List.filterMap_cons, List.filterMap_nil]
      iterate 1 (apply Rel.op3; (focus (first | exact Rel.gno rfl | exact Rel.gyes _ true _ rfl rfl rfl | exact Rel.gyes _ false _ rfl rfl rfl)); (focus (intro a W hb hd hbase; obtain ⟨hc, hf⟩ := bcell hb; clear hb hf; simp [Rel.deps, Rel.dep1, Rel.ons, Region.binds, Act.eval] at hd; simp only [Act.eval, List.mem_cons, List.not_mem_nil, not_or, and_imp, or_false, Array.getD_eq_getD_getElem?] at hbase; go_simp; (try go_bits); (try rfl); done)); (try simp only [List.nil_append, List.cons_append]))
      (apply Rel.call3; (focus (first | exact Rel.gno rfl | exact Rel.gyes _ true _ rfl rfl rfl | exact Rel.gyes _ false _ rfl rfl rfl)); (focus (intro a W hb hd hbase; obtain ⟨hc, hf⟩ := bcell hb; clear hb hf; simp [Rel.deps, Rel.dep1, Rel.ons, Region.binds, Act.eval] at hd; simp only [Act.eval, List.mem_cons, List.not_mem_nil, not_or, and_imp, or_false, Array.getD_eq_getD_getElem?] at hbase; go_simp; refine ⟨?_, ?_⟩; rfl; rfl)); (focus (intro W hb; go_at_call 93; exact HUC.out 97 v0 5 W (by decide) (by decide) (by decide) (HU2.out.k0.below hb))); (try simp only [List.nil_append, List.cons_append]))
      iterate 9 (apply Rel.op3; (focus (first | exact Rel.gno rfl | exact Rel.gyes _ true _ rfl rfl rfl | exact Rel.gyes _ false _ rfl rfl rfl)); (focus (intro a W hb hd hbase; obtain ⟨hc, hf⟩ := bcell hb; clear hb hf; simp [Rel.deps, Rel.dep1, Rel.ons, Region.binds, Act.eval] at hd; simp only [Act.eval, List.mem_cons, List.not_mem_nil, not_or, and_imp, or_false, Array.getD_eq_getD_getElem?] at hbase; go_simp; (try go_bits); (try rfl); done)); (try simp only [List.nil_append, List.cons_append]))
      (apply Rel.call3; (focus (first | exact Rel.gno rfl | exact Rel.gyes _ true _ rfl rfl rfl | exact Rel.gyes _ false _ rfl rfl rfl)); (focus (intro a W hb hd hbase; obtain ⟨hc, hf⟩ := bcell hb; clear hb hf; simp [Rel.deps, Rel.dep1, Rel.ons, Region.binds, Act.eval] at hd; simp only [Act.eval, List.mem_cons, List.not_mem_nil, not_or, and_imp, or_false, Array.getD_eq_getD_getElem?] at hbase; go_simp; refine ⟨?_, ?_⟩; rfl; rfl)); (focus (intro W hb; go_at_call 71; exact HWH.out 2 W)); (try simp only [List.nil_append, List.cons_append]))
      iterate 3 (apply Rel.op3; (focus (first | exact Rel.gno rfl | exact Rel.gyes _ true _ rfl rfl rfl | exact Rel.gyes _ false _ rfl rfl rfl)); (focus (intro a W hb hd hbase; obtain ⟨hc, hf⟩ := bcell hb; clear hb hf; simp [Rel.deps, Rel.dep1, Rel.ons, Region.binds, Act.eval] at hd; simp only [Act.eval, List.mem_cons, List.not_mem_nil, not_or, and_imp, or_false, Array.getD_eq_getD_getElem?] at hbase; go_simp; (try go_bits); (try rfl); done)); (try simp only [List.nil_append, List.cons_append]))
      refine Rel.op3 (.bool false) (Rel.gno rfl) ?_ ?_
      · intro a W hb hd hbase
        obtain ⟨D, hown, hat⟩ := HM2.out.below hb
        obtain ⟨v, ps, hrun, hv⟩ := hown.lookup Try.keyS Try.underlying134 (zeroB _) (plainElem_bool Try.underlying4 false) (keyStr ⟨#[97]⟩ (by decide))
        obtain ⟨c, rfl, hc⟩ := plainElem_bool_inv Try.underlying4 hv
        obtain rfl : c = false := by
          have h1 := congrArg Prod.fst hc
          rw [show (D.atKey (.string (⟨#[97]⟩ : ByteArray).data.toList) (.lit (.bool false))) = _ from hat _] at h1
          simpa [nmL] using h1.symm
        clear hb hat hc hv hown
        simp [Rel.deps, Rel.dep1, Rel.ons, Region.binds, Act.eval] at hd
        simp only [Act.eval, List.mem_cons, List.not_mem_nil, not_or, and_imp, or_false, Array.getD_eq_getD_getElem?] at hbase
        go_simp
      simp only [List.nil_append, List.cons_append]
      refine Rel.done3 ?_
      intro x w3 hb3 hx
      simp only [Rel.facts, Nat.zero_add, Nat.reduceAdd] at hx
      obtain ⟨e0, e1, e2, e3, e4, e5, e6, e7, e8, e9, e10, e11, e12, e13, e14, e15, _⟩ := hx
      simp only [Rel.fill, Nat.zero_add, Nat.reduceAdd, e0, e1, e2, e3, e4, e5, e6, e7, e8, e9, e10, e11, e12, e13, e14, e15]
      simp only [Act.put, List.setIfInBounds_toArray, List.set_cons_zero, List.set_cons_succ]
      clear e0 e1 e2 e3 e4 e5 e6 e7 e8 e9 e10 e11 e12 e13 e14 e15
      have HB3 := Lib.hid (HB2.out.trans (hb3.mono HB2.out.size))
      have HK3 := Lib.hid (HK2.out.below hb3)
      have HM3 := HM2.out.below hb3
      obtain ⟨D, hown, hat⟩ := HM3
      have HOWN := Lib.hid hown
      have HAT := Lib.hid hat
      have hzw : w.heap.size < w3.heap.size := by have := hb3.size; have := HK2.out.lt; omega
      clear hb3 a0 a1 a2 a3 a4 a5 a6 a7 al c0 c1 cl cf hown hat
      go_wp2_with (first
        | (go_at_call 71; refine (HWH2.out _ _).mono ?_; rintro r wx ⟨rfl, rfl⟩)
        | (go_at_call 69; refine (HF3.out _).mono ?_; rintro r wx ⟨rfl, rfl⟩; refine Hid.out ?_))
      unfold Hid
      obtain ⟨c0, c1, cl, cf⟩ := (HK3.out.alloc (.cells #[(.int .i64 0), (.int .i64 0), (.int .i64 0)] 24)).o2
      have HOWN4 := Lib.hid (HOWN.out.kept (grownBy_below' ((Below.refl _ _).alloc (Nat.le_refl _) (.cells #[(.int .i64 0), (.int .i64 0), (.int .i64 0)] 24)) none) (by simp))
      go_wp2_with (at_mapUpdate; refine wpList_mapUpdate_own _ rfl _ _ _ 134 rfl 9 4 Try.keyS Try.underlying134 _ w.heap.size 0 _ rfl HOWN4.out (by decide) _ _ _ rfl rfl (keyStr ⟨#[97]⟩ (by decide)) _ [] (plainElem_bool Try.underlying4 true) ?_; intro w9 hown9 hgrow9; refine Hid.out ?_)
      unfold Hid
      have HM9 := Lib.hid (NM.put (y := [97]) rfl hown9 HOWN4.out.isMap HAT.out)
      have HB9 := Lib.hid ((HB3.out.alloc HB3.out.size _).grown hgrow9 (by simp; omega) (fun r e => by cases e; exact Nat.le_refl _))
      have hz9 : w.heap.size < w9.heap.size := by have := hgrow9.size; simp at this; omega
      clear hown9 hgrow9
      go_wp2
      go_roundw
      case rel => exact ⟨1, by omega, by go_num, HM9.out, hz9, HB9.out⟩
      case measure => simp [intOf]
    · have ek : ((1 : Nat) : Int) = 1 := rfl
      rw [ek]
      go_wp2
      refine name_world ?_
      intro w2 e2
      have h2 : Below wr.heap.size wr w2 := by rw [e2]; exact bel
      have K2 : Blk w2 wr.heap.size #[.string ⟨#[98]⟩, .slice (some ⟨v1, 0, none⟩) 1 1] := by rw [e2]; (repeat (first | ((with_reducible refine Blk.at_ ?_); focus (first | rfl | (simp; done) | (simp; omega))) | (with_reducible refine Blk.alloc ?_ _) | (with_reducible refine Blk.below ?_ (by with_reducible assumption)) | (with_reducible refine Blk.drew ?_)))
      have HB2 := Lib.hid (HBR.out.trans (h2.mono hzr))
      have HM2 := Lib.hid (HM.out.below h2)
      have hus := HUR.out.below h2
      have HU2 := Lib.hid hus
      have HK2 := Lib.hid K2
      clear a0 a1 a2 a3 a4 a5 a6 a7 al
      obtain ⟨a0, a1, a2, a3, a4, a5, a6, a7, al⟩ := hus.cells
      obtain ⟨c0, c1, cl, cf⟩ := K2.o2
      clear e2 h2 hus K2
      refine Rel.region3 16 (by kernel_rfl) (by kernel_rfl) (by kernel_rfl) ?_
      simp only [List.take_succ_cons, List.take_zero, List.drop_succ_cons, List.drop_zero, List.filterMap_cons, List.filterMap_nil]
      iterate 1 (apply Rel.op3; (focus (first | exact Rel.gno rfl | exact Rel.gyes _ true _ rfl rfl rfl | exact Rel.gyes _ false _ rfl rfl rfl)); (focus (intro a W hb hd hbase; obtain ⟨hc, hf⟩ := bcell hb; clear hb hf; simp [Rel.deps, Rel.dep1, Rel.ons, Region.binds, Act.eval] at hd; simp only [Act.eval, List.mem_cons, List.not_mem_nil, not_or, and_imp, or_false, Array.getD_eq_getD_getElem?] at hbase; go_simp; (try go_bits); (try rfl); done)); (try simp only [List.nil_append, List.cons_append]))
      (apply Rel.call3; (focus (first | exact Rel.gno rfl | exact Rel.gyes _ true _ rfl rfl rfl | exact Rel.gyes _ false _ rfl rfl rfl)); (focus (intro a W hb hd hbase; obtain ⟨hc, hf⟩ := bcell hb; clear hb hf; simp [Rel.deps, Rel.dep1, Rel.ons, Region.binds, Act.eval] at hd; simp only [Act.eval, List.mem_cons, List.not_mem_nil, not_or, and_imp, or_false, Array.getD_eq_getD_getElem?] at hbase; go_simp; refine ⟨?_, ?_⟩; rfl; rfl)); (focus (intro W hb; go_at_call 93; exact HUC.out 98 v1 1 W (by decide) (by decide) (by decide) (HU2.out.k1.below hb))); (try simp only [List.nil_append, List.cons_append]))
      iterate 9 (apply Rel.op3; (focus (first | exact Rel.gno rfl | exact Rel.gyes _ true _ rfl rfl rfl | exact Rel.gyes _ false _ rfl rfl rfl)); (focus (intro a W hb hd hbase; obtain ⟨hc, hf⟩ := bcell hb; clear hb hf; simp [Rel.deps, Rel.dep1, Rel.ons, Region.binds, Act.eval] at hd; simp only [Act.eval, List.mem_cons, List.not_mem_nil, not_or, and_imp, or_false, Array.getD_eq_getD_getElem?] at hbase; go_simp; (try go_bits); (try rfl); done)); (try simp only [List.nil_append, List.cons_append]))
      (apply Rel.call3; (focus (first | exact Rel.gno rfl | exact Rel.gyes _ true _ rfl rfl rfl | exact Rel.gyes _ false _ rfl rfl rfl)); (focus (intro a W hb hd hbase; obtain ⟨hc, hf⟩ := bcell hb; clear hb hf; simp [Rel.deps, Rel.dep1, Rel.ons, Region.binds, Act.eval] at hd; simp only [Act.eval, List.mem_cons, List.not_mem_nil, not_or, and_imp, or_false, Array.getD_eq_getD_getElem?] at hbase; go_simp; refine ⟨?_, ?_⟩; rfl; rfl)); (focus (intro W hb; go_at_call 71; exact HWH.out 2 W)); (try simp only [List.nil_append, List.cons_append]))
      iterate 3 (apply Rel.op3; (focus (first | exact Rel.gno rfl | exact Rel.gyes _ true _ rfl rfl rfl | exact Rel.gyes _ false _ rfl rfl rfl)); (focus (intro a W hb hd hbase; obtain ⟨hc, hf⟩ := bcell hb; clear hb hf; simp [Rel.deps, Rel.dep1, Rel.ons, Region.binds, Act.eval] at hd; simp only [Act.eval, List.mem_cons, List.not_mem_nil, not_or, and_imp, or_false, Array.getD_eq_getD_getElem?] at hbase; go_simp; (try go_bits); (try rfl); done)); (try simp only [List.nil_append, List.cons_append]))
      refine Rel.op3 (.bool false) (Rel.gno rfl) ?_ ?_
      · intro a W hb hd hbase
        obtain ⟨D, hown, hat⟩ := HM2.out.below hb
        obtain ⟨v, ps, hrun, hv⟩ := hown.lookup Try.keyS Try.underlying134 (zeroB _) (plainElem_bool Try.underlying4 false) (keyStr ⟨#[98]⟩ (by decide))
        obtain ⟨c, rfl, hc⟩ := plainElem_bool_inv Try.underlying4 hv
        obtain rfl : c = false := by
          have h1 := congrArg Prod.fst hc
          rw [show (D.atKey (.string (⟨#[98]⟩ : ByteArray).data.toList) (.lit (.bool false))) = _ from hat _] at h1
          simpa [nmL] using h1.symm
        clear hb hat hc hv hown
        simp [Rel.deps, Rel.dep1, Rel.ons, Region.binds, Act.eval] at hd
        simp only [Act.eval, List.mem_cons, List.not_mem_nil, not_or, and_imp, or_false, Array.getD_eq_getD_getElem?] at hbase
        go_simp
      simp only [List.nil_append, List.cons_append]
      refine Rel.done3 ?_
      intro x w3 hb3 hx
      simp only [Rel.facts, Nat.zero_add, Nat.reduceAdd] at hx
      obtain ⟨e0, e1, e2, e3, e4, e5, e6, e7, e8, e9, e10, e11, e12, e13, e14, e15, _⟩ := hx
      simp only [Rel.fill, Nat.zero_add, Nat.reduceAdd, e0, e1, e2, e3, e4, e5, e6, e7, e8, e9, e10, e11, e12, e13, e14, e15]
      simp only [Act.put, List.setIfInBounds_toArray, List.set_cons_zero, List.set_cons_succ]
      clear e0 e1 e2 e3 e4 e5 e6 e7 e8 e9 e10 e11 e12 e13 e14 e15
      have HB3 := Lib.hid (HB2.out.trans (hb3.mono HB2.out.size))
      have HK3 := Lib.hid (HK2.out.below hb3)
      have HM3 := HM2.out.below hb3
      obtain ⟨D, hown, hat⟩ := HM3
      have HOWN := Lib.hid hown
      have HAT := Lib.hid hat
      have hzw : w.heap.size < w3.heap.size := by have := hb3.size; have := HK2.out.lt; omega
      clear hb3 a0 a1 a2 a3 a4 a5 a6 a7 al c0 c1 cl cf hown hat
      go_wp2_with (first
        | (go_at_call 71; refine (HWH2.out _ _).mono ?_; rintro r wx ⟨rfl, rfl⟩)
        | (go_at_call 69; refine (HF3.out _).mono ?_; rintro r wx ⟨rfl, rfl⟩; refine Hid.out ?_))
      unfold Hid
      obtain ⟨c0, c1, cl, cf⟩ := (HK3.out.alloc (.cells #[(.int .i64 0), (.int .i64 0), (.int .i64 0)] 24)).o2
      have HOWN4 := Lib.hid (HOWN.out.kept (grownBy_below' ((Below.refl _ _).alloc (Nat.le_refl _) (.cells #[(.int .i64 0), (.int .i64 0), (.int .i64 0)] 24)) none) (by simp))
      go_wp2_with (at_mapUpdate; refine wpList_mapUpdate_own _ rfl _ _ _ 134 rfl 9 4 Try.keyS Try.underlying134 _ w.heap.size 1 _ rfl HOWN4.out (by decide) _ _ _ rfl rfl (keyStr ⟨#[98]⟩ (by decide)) _ [] (plainElem_bool Try.underlying4 true) ?_; intro w9 hown9 hgrow9; refine Hid.out ?_)
      unfold Hid
      have HM9 := Lib.hid (NM.put (y := [98]) rfl hown9 HOWN4.out.isMap HAT.out)
      have HB9 := Lib.hid ((HB3.out.alloc HB3.out.size _).grown hgrow9 (by simp; omega) (fun r e => by cases e; exact Nat.le_refl _))
      have hz9 : w.heap.size < w9.heap.size := by have := hgrow9.size; simp at this; omega
      clear hown9 hgrow9
      go_wp2
      go_roundw
      case rel => exact ⟨2, by omega, by go_num, HM9.out, hz9, HB9.out⟩
      case measure => simp [intOf]
    · have ek : ((2 : Nat) : Int) = 2 := rfl
      rw [ek]
      go_wp2
      refine name_world ?_
      intro w2 e2
      have h2 : Below wr.heap.size wr w2 := by rw [e2]; exact bel
      have K2 : Blk w2 wr.heap.size #[.string ⟨#[99]⟩, .slice (some ⟨v2, 0, none⟩) 1 1] := by rw [e2]; (repeat (first | ((with_reducible refine Blk.at_ ?_); focus (first | rfl | (simp; done) | (simp; omega))) | (with_reducible refine Blk.alloc ?_ _) | (with_reducible refine Blk.below ?_ (by with_reducible assumption)) | (with_reducible refine Blk.drew ?_)))
      have HB2 := Lib.hid (HBR.out.trans (h2.mono hzr))
      have HM2 := Lib.hid (HM.out.below h2)
      have hus := HUR.out.below h2
      have HU2 := Lib.hid hus
      have HK2 := Lib.hid K2
      clear a0 a1 a2 a3 a4 a5 a6 a7 al
      obtain ⟨a0, a1, a2, a3, a4, a5, a6, a7, al⟩ := hus.cells
      obtain ⟨c0, c1, cl, cf⟩ := K2.o2
      clear e2 h2 hus K2
      refine Rel.region3 16 (by kernel_rfl) (by kernel_rfl) (by kernel_rfl) ?_
      simp only [List.take_succ_cons, List.take_zero, List.drop_succ_cons, List.drop_zero, List.filterMap_cons, List.filterMap_nil]
      iterate 1 (apply Rel.op3; (focus (first | exact Rel.gno rfl | exact Rel.gyes _ true _ rfl rfl rfl | exact Rel.gyes _ false _ rfl rfl rfl)); (focus (intro a W hb hd hbase; obtain ⟨hc, hf⟩ := bcell hb; clear hb hf; simp [Rel.deps, Rel.dep1, Rel.ons, Region.binds, Act.eval] at hd; simp only [Act.eval, List.mem_cons, List.not_mem_nil, not_or, and_imp, or_false, Array.getD_eq_getD_getElem?] at hbase; go_simp; (try go_bits); (try rfl); done)); (try simp only [List.nil_append, List.cons_append]))
      (apply Rel.call3; (focus (first | exact Rel.gno rfl | exact Rel.gyes _ true _ rfl rfl rfl | exact Rel.gyes _ false _ rfl rfl rfl)); (focus (intro a W hb hd hbase; obtain ⟨hc, hf⟩ := bcell hb; clear hb hf; simp [Rel.deps, Rel.dep1, Rel.ons, Region.binds, Act.eval] at hd; simp only [Act.eval, List.mem_cons, List.not_mem_nil, not_or, and_imp, or_false, Array.getD_eq_getD_getElem?] at hbase; go_simp; refine ⟨?_, ?_⟩; rfl; rfl)); (focus (intro W hb; go_at_call 93; exact HUC.out 99 v2 4 W (by decide) (by decide) (by decide) (HU2.out.k2.below hb))); (try simp only [List.nil_append, List.cons_append]))
      iterate 9 (apply Rel.op3; (focus (first | exact Rel.gno rfl | exact Rel.gyes _ true _ rfl rfl rfl | exact Rel.gyes _ false _ rfl rfl rfl)); (focus (intro a W hb hd hbase; obtain ⟨hc, hf⟩ := bcell hb; clear hb hf; simp [Rel.deps, Rel.dep1, Rel.ons, Region.binds, Act.eval] at hd; simp only [Act.eval, List.mem_cons, List.not_mem_nil, not_or, and_imp, or_false, Array.getD_eq_getD_getElem?] at hbase; go_simp; (try go_bits); (try rfl); done)); (try simp only [List.nil_append, List.cons_append]))
      (apply Rel.call3; (focus (first | exact Rel.gno rfl | exact Rel.gyes _ true _ rfl rfl rfl | exact Rel.gyes _ false _ rfl rfl rfl)); (focus (intro a W hb hd hbase; obtain ⟨hc, hf⟩ := bcell hb; clear hb hf; simp [Rel.deps, Rel.dep1, Rel.ons, Region.binds, Act.eval] at hd; simp only [Act.eval, List.mem_cons, List.not_mem_nil, not_or, and_imp, or_false, Array.getD_eq_getD_getElem?] at hbase; go_simp; refine ⟨?_, ?_⟩; rfl; rfl)); (focus (intro W hb; go_at_call 71; exact HWH.out 2 W)); (try simp only [List.nil_append, List.cons_append]))
      iterate 3 (apply Rel.op3; (focus (first | exact Rel.gno rfl | exact Rel.gyes _ true _ rfl rfl rfl | exact Rel.gyes _ false _ rfl rfl rfl)); (focus (intro a W hb hd hbase; obtain ⟨hc, hf⟩ := bcell hb; clear hb hf; simp [Rel.deps, Rel.dep1, Rel.ons, Region.binds, Act.eval] at hd; simp only [Act.eval, List.mem_cons, List.not_mem_nil, not_or, and_imp, or_false, Array.getD_eq_getD_getElem?] at hbase; go_simp; (try go_bits); (try rfl); done)); (try simp only [List.nil_append, List.cons_append]))
      refine Rel.op3 (.bool false) (Rel.gno rfl) ?_ ?_
      · intro a W hb hd hbase
        obtain ⟨D, hown, hat⟩ := HM2.out.below hb
        obtain ⟨v, ps, hrun, hv⟩ := hown.lookup Try.keyS Try.underlying134 (zeroB _) (plainElem_bool Try.underlying4 false) (keyStr ⟨#[99]⟩ (by decide))
        obtain ⟨c, rfl, hc⟩ := plainElem_bool_inv Try.underlying4 hv
        obtain rfl : c = false := by
          have h1 := congrArg Prod.fst hc
          rw [show (D.atKey (.string (⟨#[99]⟩ : ByteArray).data.toList) (.lit (.bool false))) = _ from hat _] at h1
          simpa [nmL] using h1.symm
        clear hb hat hc hv hown
        simp [Rel.deps, Rel.dep1, Rel.ons, Region.binds, Act.eval] at hd
        simp only [Act.eval, List.mem_cons, List.not_mem_nil, not_or, and_imp, or_false, Array.getD_eq_getD_getElem?] at hbase
        go_simp
      simp only [List.nil_append, List.cons_append]
      refine Rel.done3 ?_
      intro x w3 hb3 hx
      simp only [Rel.facts, Nat.zero_add, Nat.reduceAdd] at hx
      obtain ⟨e0, e1, e2, e3, e4, e5, e6, e7, e8, e9, e10, e11, e12, e13, e14, e15, _⟩ := hx
      simp only [Rel.fill, Nat.zero_add, Nat.reduceAdd, e0, e1, e2, e3, e4, e5, e6, e7, e8, e9, e10, e11, e12, e13, e14, e15]
      simp only [Act.put, List.setIfInBounds_toArray, List.set_cons_zero, List.set_cons_succ]
      clear e0 e1 e2 e3 e4 e5 e6 e7 e8 e9 e10 e11 e12 e13 e14 e15
      have HB3 := Lib.hid (HB2.out.trans (hb3.mono HB2.out.size))
      have HK3 := Lib.hid (HK2.out.below hb3)
      have HM3 := HM2.out.below hb3
      obtain ⟨D, hown, hat⟩ := HM3
      have HOWN := Lib.hid hown
      have HAT := Lib.hid hat
      have hzw : w.heap.size < w3.heap.size := by have := hb3.size; have := HK2.out.lt; omega
      clear hb3 a0 a1 a2 a3 a4 a5 a6 a7 al c0 c1 cl cf hown hat
      go_wp2_with (first
        | (go_at_call 71; refine (HWH2.out _ _).mono ?_; rintro r wx ⟨rfl, rfl⟩)
        | (go_at_call 69; refine (HF3.out _).mono ?_; rintro r wx ⟨rfl, rfl⟩; refine Hid.out ?_))
      unfold Hid
      obtain ⟨c0, c1, cl, cf⟩ := (HK3.out.alloc (.cells #[(.int .i64 0), (.int .i64 0), (.int .i64 0)] 24)).o2
      have HOWN4 := Lib.hid (HOWN.out.kept (grownBy_below' ((Below.refl _ _).alloc (Nat.le_refl _) (.cells #[(.int .i64 0), (.int .i64 0), (.int .i64 0)] 24)) none) (by simp))
      go_wp2_with (at_mapUpdate; refine wpList_mapUpdate_own _ rfl _ _ _ 134 rfl 9 4 Try.keyS Try.underlying134 _ w.heap.size 2 _ rfl HOWN4.out (by decide) _ _ _ rfl rfl (keyStr ⟨#[99]⟩ (by decide)) _ [] (plainElem_bool Try.underlying4 true) ?_; intro w9 hown9 hgrow9; refine Hid.out ?_)
      unfold Hid
      have HM9 := Lib.hid (NM.put (y := [99]) rfl hown9 HOWN4.out.isMap HAT.out)
      have HB9 := Lib.hid ((HB3.out.alloc HB3.out.size _).grown hgrow9 (by simp; omega) (fun r e => by cases e; exact Nat.le_refl _))
      have hz9 : w.heap.size < w9.heap.size := by have := hgrow9.size; simp at this; omega
      clear hown9 hgrow9
      go_wp2
      go_roundw
      case rel => exact ⟨3, by omega, by go_num, HM9.out, hz9, HB9.out⟩
      case measure => simp [intOf]
    · have ek : ((3 : Nat) : Int) = 3 := rfl
      rw [ek]
      go_wp2
      refine name_world ?_
      intro w2 e2
      have h2 : Below wr.heap.size wr w2 := by rw [e2]; exact bel
      have K2 : Blk w2 wr.heap.size #[.string ⟨#[100]⟩, .slice (some ⟨v3, 0, none⟩) 1 1] := by rw [e2]; (repeat (first | ((with_reducible refine Blk.at_ ?_); focus (first | rfl | (simp; done) | (simp; omega))) | (with_reducible refine Blk.alloc ?_ _) | (with_reducible refine Blk.below ?_ (by with_reducible assumption)) | (with_reducible refine Blk.drew ?_)))
      have HB2 := Lib.hid (HBR.out.trans (h2.mono hzr))
      have HM2 := Lib.hid (HM.out.below h2)
      have hus := HUR.out.below h2
      have HU2 := Lib.hid hus
      have HK2 := Lib.hid K2
      clear a0 a1 a2 a3 a4 a5 a6 a7 al
      obtain ⟨a0, a1, a2, a3, a4, a5, a6, a7, al⟩ := hus.cells
      obtain ⟨c0, c1, cl, cf⟩ := K2.o2
      clear e2 h2 hus K2
      refine Rel.region3 16 (by kernel_rfl) (by kernel_rfl) (by kernel_rfl) ?_
      simp only [List.take_succ_cons, List.take_zero, List.drop_succ_cons, List.drop_zero, List.filterMap_cons, List.filterMap_nil]
      iterate 1 (apply Rel.op3; (focus (first | exact Rel.gno rfl | exact Rel.gyes _ true _ rfl rfl rfl | exact Rel.gyes _ false _ rfl rfl rfl)); (focus (intro a W hb hd hbase; obtain ⟨hc, hf⟩ := bcell hb; clear hb hf; simp [Rel.deps, Rel.dep1, Rel.ons, Region.binds, Act.eval] at hd; simp only [Act.eval, List.mem_cons, List.not_mem_nil, not_or, and_imp, or_false, Array.getD_eq_getD_getElem?] at hbase; go_simp; (try go_bits); (try rfl); done)); (try simp only [List.nil_append, List.cons_append]))
      (apply Rel.call3; (focus (first | exact Rel.gno rfl | exact Rel.gyes _ true _ rfl rfl rfl | exact Rel.gyes _ false _ rfl rfl rfl)); (focus (intro a W hb hd hbase; obtain ⟨hc, hf⟩ := bcell hb; clear hb hf; simp [Rel.deps, Rel.dep1, Rel.ons, Region.binds, Act.eval] at hd; simp only [Act.eval, List.mem_cons, List.not_mem_nil, not_or, and_imp, or_false, Array.getD_eq_getD_getElem?] at hbase; go_simp; refine ⟨?_, ?_⟩; rfl; rfl)); (focus (intro W hb; go_at_call 93; exact HUC.out 100 v3 2 W (by decide) (by decide) (by decide) (HU2.out.k3.below hb))); (try simp only [List.nil_append, List.cons_append]))
      iterate 9 (apply Rel.op3; (focus (first | exact Rel.gno rfl | exact Rel.gyes _ true _ rfl rfl rfl | exact Rel.gyes _ false _ rfl rfl rfl)); (focus (intro a W hb hd hbase; obtain ⟨hc, hf⟩ := bcell hb; clear hb hf; simp [Rel.deps, Rel.dep1, Rel.ons, Region.binds, Act.eval] at hd; simp only [Act.eval, List.mem_cons, List.not_mem_nil, not_or, and_imp, or_false, Array.getD_eq_getD_getElem?] at hbase; go_simp; (try go_bits); (try rfl); done)); (try simp only [List.nil_append, List.cons_append]))
      (apply Rel.call3; (focus (first | exact Rel.gno rfl | exact Rel.gyes _ true _ rfl rfl rfl | exact Rel.gyes _ false _ rfl rfl rfl)); (focus (intro a W hb hd hbase; obtain ⟨hc, hf⟩ := bcell hb; clear hb hf; simp [Rel.deps, Rel.dep1, Rel.ons, Region.binds, Act.eval] at hd; simp only [Act.eval, List.mem_cons, List.not_mem_nil, not_or, and_imp, or_false, Array.getD_eq_getD_getElem?] at hbase; go_simp; refine ⟨?_, ?_⟩; rfl; rfl)); (focus (intro W hb; go_at_call 71; exact HWH.out 2 W)); (try simp only [List.nil_append, List.cons_append]))
      iterate 3 (apply Rel.op3; (focus (first | exact Rel.gno rfl | exact Rel.gyes _ true _ rfl rfl rfl | exact Rel.gyes _ false _ rfl rfl rfl)); (focus (intro a W hb hd hbase; obtain ⟨hc, hf⟩ := bcell hb; clear hb hf; simp [Rel.deps, Rel.dep1, Rel.ons, Region.binds, Act.eval] at hd; simp only [Act.eval, List.mem_cons, List.not_mem_nil, not_or, and_imp, or_false, Array.getD_eq_getD_getElem?] at hbase; go_simp; (try go_bits); (try rfl); done)); (try simp only [List.nil_append, List.cons_append]))
      refine Rel.op3 (.bool false) (Rel.gno rfl) ?_ ?_
      · intro a W hb hd hbase
        obtain ⟨D, hown, hat⟩ := HM2.out.below hb
        obtain ⟨v, ps, hrun, hv⟩ := hown.lookup Try.keyS Try.underlying134 (zeroB _) (plainElem_bool Try.underlying4 false) (keyStr ⟨#[100]⟩ (by decide))
        obtain ⟨c, rfl, hc⟩ := plainElem_bool_inv Try.underlying4 hv
        obtain rfl : c = false := by
          have h1 := congrArg Prod.fst hc
          rw [show (D.atKey (.string (⟨#[100]⟩ : ByteArray).data.toList) (.lit (.bool false))) = _ from hat _] at h1
          simpa [nmL] using h1.symm
        clear hb hat hc hv hown
        simp [Rel.deps, Rel.dep1, Rel.ons, Region.binds, Act.eval] at hd
        simp only [Act.eval, List.mem_cons, List.not_mem_nil, not_or, and_imp, or_false, Array.getD_eq_getD_getElem?] at hbase
        go_simp
      simp only [List.nil_append, List.cons_append]
      refine Rel.done3 ?_
      intro x w3 hb3 hx
      simp only [Rel.facts, Nat.zero_add, Nat.reduceAdd] at hx
      obtain ⟨e0, e1, e2, e3, e4, e5, e6, e7, e8, e9, e10, e11, e12, e13, e14, e15, _⟩ := hx
      simp only [Rel.fill, Nat.zero_add, Nat.reduceAdd, e0, e1, e2, e3, e4, e5, e6, e7, e8, e9, e10, e11, e12, e13, e14, e15]
      simp only [Act.put, List.setIfInBounds_toArray, List.set_cons_zero, List.set_cons_succ]
      clear e0 e1 e2 e3 e4 e5 e6 e7 e8 e9 e10 e11 e12 e13 e14 e15
      have HB3 := Lib.hid (HB2.out.trans (hb3.mono HB2.out.size))
      have HK3 := Lib.hid (HK2.out.below hb3)
      have HM3 := HM2.out.below hb3
      obtain ⟨D, hown, hat⟩ := HM3
      have HOWN := Lib.hid hown
      have HAT := Lib.hid hat
      have hzw : w.heap.size < w3.heap.size := by have := hb3.size; have := HK2.out.lt; omega
      clear hb3 a0 a1 a2 a3 a4 a5 a6 a7 al c0 c1 cl cf hown hat
      go_wp2_with (first
        | (go_at_call 71; refine (HWH2.out _ _).mono ?_; rintro r wx ⟨rfl, rfl⟩)
        | (go_at_call 69; refine (HF3.out _).mono ?_; rintro r wx ⟨rfl, rfl⟩; refine Hid.out ?_))
      unfold Hid
      obtain ⟨c0, c1, cl, cf⟩ := (HK3.out.alloc (.cells #[(.int .i64 0), (.int .i64 0), (.int .i64 0)] 24)).o2
      have HOWN4 := Lib.hid (HOWN.out.kept (grownBy_below' ((Below.refl _ _).alloc (Nat.le_refl _) (.cells #[(.int .i64 0), (.int .i64 0), (.int .i64 0)] 24)) none) (by simp))
      go_wp2_with (at_mapUpdate; refine wpList_mapUpdate_own _ rfl _ _ _ 134 rfl 9 4 Try.keyS Try.underlying134 _ w.heap.size 3 _ rfl HOWN4.out (by decide) _ _ _ rfl rfl (keyStr ⟨#[100]⟩ (by decide)) _ [] (plainElem_bool Try.underlying4 true) ?_; intro w9 hown9 hgrow9; refine Hid.out ?_)
      unfold Hid
      have HM9 := Lib.hid (NM.put (y := [100]) rfl hown9 HOWN4.out.isMap HAT.out)
      have HB9 := Lib.hid ((HB3.out.alloc HB3.out.size _).grown hgrow9 (by simp; omega) (fun r e => by cases e; exact Nat.le_refl _))
      have hz9 : w.heap.size < w9.heap.size := by have := hgrow9.size; simp at this; omega
      clear hown9 hgrow9
      go_wp2
      go_roundw
      case rel => exact ⟨4, by omega, by go_num, HM9.out, hz9, HB9.out⟩
      case measure => simp [intOf]
    · go_wp2
      go_ret
      exact ⟨rfl, HBR.out⟩
end Go.Proofs.Ytamldoidalnloaa
