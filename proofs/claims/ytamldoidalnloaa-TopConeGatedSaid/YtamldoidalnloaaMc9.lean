/- Part 9 of the texts of the claim: S7, S8, J1, J2, J3, X5, Y1, Y2, Y3, Y4, Y5, Y6, Y7, Y8, QC, QW, Y9, Y10, Y11. -/
import Derived.Test.YtamldoidalnloaaMc6
import Derived.Test.YtamldoidalnloaaMc3
import Derived.Test.YtamldoidalnloaaMc5
import Derived.ChangeKeysEq
import Derived.Maps.OwnOps
import Derived.Maps.OwnSet
import Derived.Maps.Views

/- Contracts of From and Run (sections that hold). -/
namespace Go.Proofs.Ytamldoidalnloaa
open Go.RowKit
open Calm (bcell Blk)

set_option maxRecDepth 100000 in
set_option maxHeartbeats 4000000 in
theorem From_ok (b0 b1 b2 a1 a2 sh x1 x2 y1 y2 : Int) (xs : List Int) (A : Option Addr) (c : Nat) (w : World) (h0 : bd15 b0) (h1 : bd15 b1) (h2 : bd15 b2) (h3 : bd15 a1) (h4 : bd15 a2) (h5 : 0 ≤ sh ∧ sh ≤ 15)
    (hst : okX (x1, x2, y1, y2)) (hx : inB 32767 xs) (hn : xs.length ≤ 5000) (hC : Cells w A xs) (e1 : secErr b0 b1 b2 a1 a2 sh = 0) (e2 : sstErr x1 x2 y1 y2 = 0) (e3 : ssigErr xs = 0) :
    Calls Try.prog 68 #[.agg #[(.int .i64 b0), (.int .i64 b1), (.int .i64 b2), (.int .i64 a1), (.int .i64 a2), (.int .i64 sh)], .agg #[(.int .i64 x1), (.int .i64 x2), (.int .i64 y1), (.int .i64 y2)], .slice A xs.length c] w fun r w' => (∃ B d, r = .returned (.tuple #[.slice B xs.length d, .agg (encX (ssAt b0 b1 b2 a1 a2 sh (x1, x2, y1, y2) xs xs.length)), (.int .i64 0)]) ∧ (∀ p, B = some p → w.heap.size ≤ p.block) ∧ Cells w' B (soK b0 b1 b2 a1 a2 sh (x1, x2, y1, y2) xs xs.length)) ∧ Below w.heap.size w w' := by
  have HCK : Hid (∀ W, Calls Try.prog 83 #[.agg #[(.int .i64 b0), (.int .i64 b1), (.int .i64 b2), (.int .i64 a1), (.int .i64 a2), (.int .i64 sh)]] W fun r w' => r = .returned (.int .i64 0) ∧ Below W.heap.size W w') := Lib.hid (fun W => by have := checkSection_any b0 b1 b2 a1 a2 sh W; rwa [e1] at this)
  have HCT : Hid (∀ W, Calls Try.prog 92 #[.agg #[(.int .i64 x1), (.int .i64 x2), (.int .i64 y1), (.int .i64 y2)]] W fun r w' => r = .returned (.int .i64 0) ∧ Below W.heap.size W w') := Lib.hid (fun W => by have := sState_any x1 x2 y1 y2 W; rwa [e2] at this)
  have HSG : Hid (∀ W, Cells W A xs → Calls Try.prog 49 #[.slice A xs.length c] W fun r w' => r = .returned (.int .i64 0) ∧ Below W.heap.size W w') := Lib.hid (fun W q => by have := sSignal_any xs A c W q hn; rwa [e3] at this)
  have HF3 : Hid (∀ (W : World), Calls Try.prog 47 #[.slice (some ⟨W.heap.size, 0, none⟩) 3 3] (W.alloc (.cells #[(.int .i64 0), (.int .i64 0), (.int .i64 0)] 24)) fun r w' => r = .returned (.int .i64 0) ∧ (W.alloc (.cells #[(.int .i64 0), (.int .i64 0), (.int .i64 0)] 24)) = w') := Lib.hid (fun W => sFirst_cells [0, 0, 0] W (by simp))
  have HFR : Hid (∀ W, Cells W A xs → Calls Try.prog 50 #[.agg #[(.int .i64 b0), (.int .i64 b1), (.int .i64 b2), (.int .i64 a1), (.int .i64 a2), (.int .i64 sh)], .agg #[(.int .i64 x1), (.int .i64 x2), (.int .i64 y1), (.int .i64 y2)], .slice A xs.length c] W fun r w' => (∃ B d, r = .returned (.tuple #[.slice B xs.length d, .agg (encX (ssAt b0 b1 b2 a1 a2 sh (x1, x2, y1, y2) xs xs.length))]) ∧ (∀ p, B = some p → W.heap.size ≤ p.block ∧ Unf w' p.block) ∧ Cells w' B (soK b0 b1 b2 a1 a2 sh (x1, x2, y1, y2) xs xs.length)) ∧ Below W.heap.size W w') :=
    Lib.hid (fun W q => from_any b0 b1 b2 a1 a2 sh x1 x2 y1 y2 xs A c W h0 h1 h2 h3 h4 h5 hst hx hn q)
  have HC := Lib.hid hC
  obtain ⟨LX, hLX⟩ : ∃ LX, LX = ssAt b0 b1 b2 a1 a2 sh (x1, x2, y1, y2) xs xs.length := ⟨_, rfl⟩
  obtain ⟨SK, hSK⟩ : ∃ SK, SK = soK b0 b1 b2 a1 a2 sh (x1, x2, y1, y2) xs xs.length := ⟨_, rfl⟩
  obtain ⟨N, hN⟩ : ∃ N, N = xs.length := ⟨_, rfl⟩
  rw [← hLX, ← hSK] at HFR ⊢
  rw [← hN] at HFR HSG ⊢
  unfold encX at HFR
  clear hLX hSK hN hC h0 h1 h2 h3 h4 h5 hst hx hn e1 e2 e3
  go_enter Try.func68, Try.ntmps68
  go_wp2
  refine Calm.tail_below 5 (by kernel_rfl) (by kernel_rfl) ?_
  simp only [List.take_succ_cons, List.take_zero, List.drop_succ_cons, List.drop_zero]
  repeat (first | (first | (apply Calm.op_move; (focus rfl); (focus (first | exact .inl rfl | exact .inr rfl)); (focus ((try simp only [Act.eval, Array.getD_eq_getD_getElem?, List.getElem?_toArray, List.getElem?_cons_succ, List.getElem?_cons_zero, Option.getD_some]); rfl)); (try simp only [Act.put, List.setIfInBounds_toArray, List.set_cons_zero, List.set_cons_succ])) | (apply Calm.op_not; (focus rfl); (try simp only [Act.put, List.setIfInBounds_toArray, List.set_cons_zero, List.set_cons_succ])) | (apply Calm.op; (focus rfl); (focus (intro W hb; obtain ⟨hc, hf⟩ := bcell hb; clear hb hf; go_simp; (try go_bits); (try rfl); done)); (try simp only [Act.put, List.setIfInBounds_toArray, List.set_cons_zero, List.set_cons_succ]))) | (apply Calm.op_call; (focus rfl); (focus (intro W hb; obtain ⟨hc, hf⟩ := bcell hb; clear hb hf; go_simp; refine ⟨?_, ?_⟩; rfl; rfl)); (focus (intro W hb; first | (go_at_call 83; exact Calm.call_below hb (HCK.out _)) | (go_at_call 92; exact Calm.call_below hb (HCT.out _)))); (try simp only [Act.put, List.setIfInBounds_toArray, List.set_cons_zero, List.set_cons_succ])))
  refine wpQuiet_nil ?_
  intro w1 hb1
  obtain ⟨hb1c, hb1f⟩ := bcell hb1
  have hb1z := hb1.size
  (try simp at hb1z)
  (try have hb1z0 : w.heap.size < w1.heap.size := by omega)
  (try have hb1z1 : w.heap.size + 1 < w1.heap.size := by omega)
  (try have hb1z2 : w.heap.size + 1 + 1 < w1.heap.size := by omega)
  (try have hb1z3 : w.heap.size + 1 + 1 + 1 < w1.heap.size := by omega)
  (try have hb1z4 : w.heap.size + 1 + 1 + 1 + 1 < w1.heap.size := by omega)
  (try have hb1z5 : w.heap.size + 1 + 1 + 1 + 1 + 1 < w1.heap.size := by omega)
  have HB1 := Lib.hid (show Below w.heap.size w w1 from Below.trans (by (repeat (first | (with_reducible exact Below.refl _ _) | ((with_reducible refine Below.setCell ?_ ?_ _); rotate_left 1; focus (first | (simp; done) | (simp; omega) | (simp at *; omega))) | ((with_reducible refine Below.alloc ?_ ?_ _); rotate_left 1; focus (first | (simp; done) | (simp; omega) | (simp at *; omega))) | (with_reducible refine Below.drew ?_) | ((with_reducible refine Calm.step (by assumption) ?_ ?_); rotate_left 1; focus (first | (simp; done) | (simp; omega) | (simp at *; omega)))))) (hb1.mono (by simp; omega)))
  have K0 : Blk w1 w.heap.size #[(.int .i64 b0), (.int .i64 b1), (.int .i64 b2), (.int .i64 a1), (.int .i64 a2), (.int .i64 sh)] := Blk.below (by (repeat (first | ((with_reducible refine Blk.at_ ?_); focus (first | rfl | (simp; done) | (simp; omega))) | (with_reducible refine Blk.alloc ?_ _) | (with_reducible refine Blk.below ?_ (by with_reducible assumption)) | (with_reducible refine Blk.drew ?_)))) hb1
  have K1 : Blk w1 (w.heap.size + 1) #[(.int .i64 x1), (.int .i64 x2), (.int .i64 y1), (.int .i64 y2)] := Blk.below (by (repeat (first | ((with_reducible refine Blk.at_ ?_); focus (first | rfl | (simp; done) | (simp; omega))) | (with_reducible refine Blk.alloc ?_ _) | (with_reducible refine Blk.below ?_ (by with_reducible assumption)) | (with_reducible refine Blk.drew ?_)))) hb1
  have K2 : Blk w1 (w.heap.size + 1 + 1) #[(.int .i64 0), (.int .i64 0), (.int .i64 0), (.int .i64 0)] := Blk.below (by (repeat (first | ((with_reducible refine Blk.at_ ?_); focus (first | rfl | (simp; done) | (simp; omega))) | (with_reducible refine Blk.alloc ?_ _) | (with_reducible refine Blk.below ?_ (by with_reducible assumption)) | (with_reducible refine Blk.drew ?_)))) hb1
  have HK0 := Lib.hid K0
  have HK1 := Lib.hid K1
  have HK2 := Lib.hid K2
  clear hb1 hb1c hb1f K0 K1 K2
  go_wp2_with (first
    | (go_at_call 49; refine (HSG.out _ (HC.out.below HB1.out)).mono ?_; rintro r w2 ⟨rfl, hb2⟩; have HB2 := Lib.hid (HB1.out.trans (hb2.mono HB1.out.size)); obtain ⟨c0, c1, c2, c3, c4, c5, cl, cf⟩ := ((HK0.out.below hb2).alloc (.cells #[(.int .i64 0), (.int .i64 0), (.int .i64 0)] 24)).o6; obtain ⟨d0, d1, d2, d3, dl, df⟩ := ((HK1.out.below hb2).alloc (.cells #[(.int .i64 0), (.int .i64 0), (.int .i64 0)] 24)).o4; have HK22 := Lib.hid ((HK2.out.below hb2).alloc (.cells #[(.int .i64 0), (.int .i64 0), (.int .i64 0)] 24)); clear hb2)
    | (go_at_call 47; refine (HF3.out _).mono ?_; rintro r w3 ⟨rfl, rfl⟩; have HB3 := Lib.hid (HB2.out.alloc HB2.out.size (.cells #[(.int .i64 0), (.int .i64 0), (.int .i64 0)] 24)); refine Hid.out ?_))
  obtain ⟨w3, hw3⟩ : ∃ w3, w3 = w2.alloc (.cells #[(.int .i64 0), (.int .i64 0), (.int .i64 0)] 24) := ⟨_, rfl⟩
  rw [← hw3] at c0 c1 c2 c3 c4 c5 cl cf d0 d1 d2 d3 dl df HK22 HB3 ⊢
  clear hw3 HK0 HK1 HK2 HB1 HB2
  unfold Hid
  go_wp2_with (go_at_call 50; refine (HFR.out _ (HC.out.below HB3.out)).mono ?_; rintro r w4 ⟨⟨B, d, rfl, hf, hc4⟩, hb4⟩; have HB4 := Lib.hid (HB3.out.trans (hb4.mono HB3.out.size)); have HK24 := Lib.hid (HK22.out.below hb4); have HF4 := Lib.hid hf; have HC4 := Lib.hid hc4; have hs4 := hb4.size; clear hf hc4 hb4 c0 c1 c2 c3 c4 c5 cl cf d0 d1 d2 d3 dl df)
  have hz4 : w.heap.size < w4.heap.size := by have := HB4.out.size; have := HK24.out.lt; omega
  have hz41 : w.heap.size + 1 < w4.heap.size := by have := HK24.out.lt; omega
  have hz42 : w.heap.size + 1 + 1 < w4.heap.size := by have := HK24.out.lt; omega
  obtain ⟨d0, d1, d2, d3, dl, df⟩ := HK24.out.o4
  refine Calm.tail_below 3 (by kernel_rfl) (by kernel_rfl) ?_
  simp only [List.take_succ_cons, List.take_zero, List.drop_succ_cons, List.drop_zero]
  repeat (first | (apply Calm.op_move; (focus rfl); (focus (first | exact .inl rfl | exact .inr rfl)); (focus ((try simp only [Act.eval, Array.getD_eq_getD_getElem?, List.getElem?_toArray, List.getElem?_cons_succ, List.getElem?_cons_zero, Option.getD_some]); rfl)); (try simp only [Act.put, List.setIfInBounds_toArray, List.set_cons_zero, List.set_cons_succ])) | (apply Calm.op_not; (focus rfl); (try simp only [Act.put, List.setIfInBounds_toArray, List.set_cons_zero, List.set_cons_succ])) | (apply Calm.op; (focus rfl); (focus (intro W hb; obtain ⟨hc, hf⟩ := bcell hb; clear hb hf; go_simp; (try go_bits); (try rfl); done)); (try simp only [Act.put, List.setIfInBounds_toArray, List.set_cons_zero, List.set_cons_succ])))
  refine wpQuiet_nil ?_
  intro w6 hb6
  obtain ⟨hb6c, hb6f⟩ := bcell hb6
  have hb6z := hb6.size
  (try simp at hb6z)
  (try have hb6z0 : w.heap.size < w6.heap.size := by omega)
  (try have hb6z1 : w.heap.size + 1 < w6.heap.size := by omega)
  (try have hb6z2 : w.heap.size + 1 + 1 < w6.heap.size := by omega)
  (try have hb6z3 : w.heap.size + 1 + 1 + 1 < w6.heap.size := by omega)
  (try have hb6z4 : w.heap.size + 1 + 1 + 1 + 1 < w6.heap.size := by omega)
  (try have hb6z5 : w.heap.size + 1 + 1 + 1 + 1 + 1 < w6.heap.size := by omega)
  have HB6 := Lib.hid (show Below w.heap.size w w6 from Below.trans (HB4.out.alloc (by omega) _) (hb6.mono (by simp; omega)))
  have K6 := (HK24.out.alloc (.cells #[(.int .i64 (LX.1)), (.int .i64 (LX.2.1)), (.int .i64 (LX.2.2.1)), (.int .i64 (LX.2.2.2))] 93)).below hb6
  have HC6 := Lib.hid ((HC4.out.below ((Below.refl _ _).alloc (Nat.le_refl _) (.cells #[(.int .i64 (LX.1)), (.int .i64 (LX.2.1)), (.int .i64 (LX.2.2.1)), (.int .i64 (LX.2.2.2))] 93))).below hb6)
  obtain ⟨g0, g1, g2, g3, gl, gf⟩ := K6.o4
  have HK6 := Lib.hid K6
  clear hb6 hb6c hb6f K6 d0 d1 d2 d3 dl df
  go_wp2
  have hz3 : w.heap.size + 1 + 1 < w3.heap.size := HK22.out.lt
  have hne : 0 < SK.length → ∀ p, B = some p → p.block ≠ w.heap.size + 1 + 1 := fun _ p e => by have := (HF4.out p e).1; omega
  exact bodyPost_ret (v := .tuple #[.slice B N d, .agg (encX LX), (.int .i64 0)]) (by simp [results, Try.results68, go_sem, encX, *]) rfl
    ⟨⟨B, d, rfl, fun p e => by have := (HF4.out p e).1; omega, (((HC6.out.sets hne _ _).sets hne _ _).sets hne _ _).sets hne _ _⟩, (((HB6.out.setCell (by simp; omega) _).setCell (by simp; omega) _).setCell (by simp; omega) _).setCell (by simp; omega) _⟩
theorem Run_ok (b0 b1 b2 a1 a2 sh : Int) (xs : List Int) (A : Option Addr) (c : Nat) (w : World) (h0 : bd15 b0) (h1 : bd15 b1) (h2 : bd15 b2) (h3 : bd15 a1) (h4 : bd15 a2) (h5 : 0 ≤ sh ∧ sh ≤ 15)
    (hx : inB 32767 xs) (hn : xs.length ≤ 5000) (hC : Cells w A xs) (e1 : secErr b0 b1 b2 a1 a2 sh = 0) (e3 : ssigErr xs = 0) :
    Calls Try.prog 23 #[.agg #[(.int .i64 b0), (.int .i64 b1), (.int .i64 b2), (.int .i64 a1), (.int .i64 a2), (.int .i64 sh)], .slice A xs.length c] w fun r w' => (∃ B d, r = .returned (.tuple #[.slice B xs.length d, (.int .i64 0)]) ∧ (∀ p, B = some p → w.heap.size ≤ p.block) ∧ Cells w' B (soK b0 b1 b2 a1 a2 sh (0, 0, 0, 0) xs xs.length)) ∧ Below w.heap.size w w' := by
  have HFR : Hid (∀ W, Cells W A xs → Calls Try.prog 68 #[.agg #[(.int .i64 b0), (.int .i64 b1), (.int .i64 b2), (.int .i64 a1), (.int .i64 a2), (.int .i64 sh)], .agg #[(.int .i64 0), (.int .i64 0), (.int .i64 0), (.int .i64 0)], .slice A xs.length c] W fun r w' => (∃ B d, r = .returned (.tuple #[.slice B xs.length d, .agg (encX (ssAt b0 b1 b2 a1 a2 sh (0, 0, 0, 0) xs xs.length)), (.int .i64 0)]) ∧ (∀ p, B = some p → W.heap.size ≤ p.block) ∧ Cells w' B (soK b0 b1 b2 a1 a2 sh (0, 0, 0, 0) xs xs.length)) ∧ Below W.heap.size W w') :=
    Lib.hid (fun W q => From_ok b0 b1 b2 a1 a2 sh 0 0 0 0 xs A c W h0 h1 h2 h3 h4 h5 (by unfold okX bd15; simp) hx hn q e1 (by decide) e3)
  have HC := Lib.hid hC
  obtain ⟨LX, hLX⟩ : ∃ LX, LX = ssAt b0 b1 b2 a1 a2 sh (0, 0, 0, 0) xs xs.length := ⟨_, rfl⟩
  obtain ⟨SK, hSK⟩ : ∃ SK, SK = soK b0 b1 b2 a1 a2 sh (0, 0, 0, 0) xs xs.length := ⟨_, rfl⟩
  obtain ⟨N, hN⟩ : ∃ N, N = xs.length := ⟨_, rfl⟩
  rw [← hLX, ← hSK] at HFR
  rw [← hSK]
  rw [← hN] at HFR ⊢
  unfold encX at HFR
  clear hLX hSK hN hC h0 h1 h2 h3 h4 h5 hx hn e1 e3
  go_enter Try.func23, Try.ntmps23
  go_wp2_with (go_at_call 68; refine (HFR.out _ (HC.out.below (by (repeat (first | (with_reducible exact Below.refl _ _) | ((with_reducible refine Below.setCell ?_ ?_ _); rotate_left 1; focus (first | (simp; done) | (simp; omega) | (simp at *; omega))) | ((with_reducible refine Below.alloc ?_ ?_ _); rotate_left 1; focus (first | (simp; done) | (simp; omega) | (simp at *; omega))) | (with_reducible refine Below.drew ?_) | ((with_reducible refine Calm.step (by assumption) ?_ ?_); rotate_left 1; focus (first | (simp; done) | (simp; omega) | (simp at *; omega)))))))).mono ?_; rintro r w4 ⟨⟨B, d, rfl, hf, hc4⟩, hb4⟩; have HB4 := Lib.hid (show Below w.heap.size w w4 from Below.trans (by (repeat (first | (with_reducible exact Below.refl _ _) | ((with_reducible refine Below.setCell ?_ ?_ _); rotate_left 1; focus (first | (simp; done) | (simp; omega) | (simp at *; omega))) | ((with_reducible refine Below.alloc ?_ ?_ _); rotate_left 1; focus (first | (simp; done) | (simp; omega) | (simp at *; omega))) | (with_reducible refine Below.drew ?_) | ((with_reducible refine Calm.step (by assumption) ?_ ?_); rotate_left 1; focus (first | (simp; done) | (simp; omega) | (simp at *; omega)))))) (hb4.mono (by simp))); have HF4 := Lib.hid hf; have HC4 := Lib.hid hc4; have hs4 := hb4.size; clear hf hc4 hb4)
  simp only [World.size_alloc] at hs4
  go_ret2
  exact ⟨⟨B, d, rfl, fun p e => by have := HF4.out p e; simp at this; omega, HC4.out.below ((Below.refl _ _).alloc (Nat.le_refl _) _)⟩, HB4.out.alloc (by omega) _⟩
end Go.Proofs.Ytamldoidalnloaa

/- Contract of Cascade (sections and a signal that hold). -/
namespace Go.Proofs.Ytamldoidalnloaa
open Go.RowKit
open Calm (bcell Blk)

end Go.Proofs.Ytamldoidalnloaa

/- Contracts of the references: First, CheckRange, SameInts, CheckInput, CheckValue, CheckSignal. -/
namespace Go.Proofs.Ytamldoidalnloaa
open Go.RowKit
open Calm (bcell Blk)

set_option maxRecDepth 100000 in
set_option maxHeartbeats 4000000 in
theorem sameInts_any (A B : Option Addr) (a b : List Int) (ca cb : Nat) (w : World) (hA : Cells w A a) (hB : Cells w B b) (h1 : a.length ≤ 100000) (h2 : b.length ≤ 100000) :
    Calls Try.prog 8 #[.slice A a.length ca, .slice B b.length cb] w fun x w' => x = .returned (.bool (decide (a = b))) ∧ Below w.heap.size w w' := by
  obtain ⟨E, hE⟩ : ∃ E, E = decide (a = b) := ⟨_, rfl⟩
  have HE := Lib.hid hE
  have HCA := Lib.hid hA
  have HCB := Lib.hid hB
  obtain ⟨N, hN⟩ : ∃ N, N = a.length := ⟨_, rfl⟩
  obtain ⟨M, hM⟩ : ∃ M, M = b.length := ⟨_, rfl⟩
  have HN := Lib.hid hN
  have HM := Lib.hid hM
  rw [← hE]
  rw [← hN] at h1 ⊢
  rw [← hM] at h2 ⊢
  clear hE hA hB hN hM
  by_cases hnm : N = M
  · have HNM := Lib.hid hnm
    subst hnm
    go_enter Try.func8, Try.ntmps8
    go_wp2
    go_loopw [5] (fun i wr => ∃ k : Nat, k ≤ N ∧ i = (.int .i64 ((k : Nat))) ∧ (∀ j, j < k → a.getD j 0 = b.getD j 0) ∧ Below w.heap.size w wr) (fun i _ => N - (intOf i).toNat)
    case atStart => exact ⟨0, by omega, rfl, fun j hj => by omega, Below.refl _ _⟩
    case round =>
      obtain ⟨k, hk, rfl, hz, hBr⟩ := hrel
      have HZ := Lib.hid hz
      have HBR := Lib.hid hBr
      have hszr := hBr.size
      clear hz hBr
      by_cases hlt : k < N
      · have l1 : k < a.length := by rw [← HN.out]; exact hlt
        have l2 : k < b.length := by rw [← HM.out]; exact hlt
        obtain ⟨g, o, rfl, q1, k1⟩ := (HCA.out.below HBR.out) (by omega)
        obtain ⟨g', o', rfl, q2, k2⟩ := (HCB.out.below HBR.out) (by omega)
        have y1 := k1 k l1
        have y2 := k2 k l2
        obtain ⟨x, hx⟩ : ∃ x, x = a.getD k 0 := ⟨_, rfl⟩
        obtain ⟨y, hy⟩ : ∃ y, y = b.getD k 0 := ⟨_, rfl⟩
        rw [← hx] at y1
        rw [← hy] at y2
        have HX := Lib.hid hx
        have HY := Lib.hid hy
        clear k1 k2 hx hy l1 l2
        by_cases hxy : x = y
        · subst hxy
          go_wp2
          refine Calm.tail_below 8 (by kernel_rfl) (by kernel_rfl) ?_
          simp only [List.take_succ_cons, List.take_zero, List.drop_succ_cons, List.drop_zero]
          repeat (first | (apply Calm.op_move; (focus rfl); (focus (first | exact .inl rfl | exact .inr rfl)); (focus ((try simp only [Act.eval, Array.getD_eq_getD_getElem?, List.getElem?_toArray, List.getElem?_cons_succ, List.getElem?_cons_zero, Option.getD_some]); rfl)); (try simp only [Act.put, List.setIfInBounds_toArray, List.set_cons_zero, List.set_cons_succ])) | (apply Calm.op_not; (focus rfl); (try simp only [Act.put, List.setIfInBounds_toArray, List.set_cons_zero, List.set_cons_succ])) | (apply Calm.op; (focus rfl); (focus (intro W hb; obtain ⟨hc, hf⟩ := bcell hb; clear hb hf; go_simp; (try go_bits); (try rfl); done)); (try simp only [Act.put, List.setIfInBounds_toArray, List.set_cons_zero, List.set_cons_succ])))
          refine wpQuiet_nil ?_
          intro w2 hb2
          obtain ⟨hb2c, hb2f⟩ := bcell hb2
          have hb2z := hb2.size
          (try simp at hb2z)
          (try have hb2z0 : w.heap.size < w2.heap.size := by omega)
          (try have hb2z1 : w.heap.size + 1 < w2.heap.size := by omega)
          (try have hb2z2 : w.heap.size + 1 + 1 < w2.heap.size := by omega)
          (try have hb2z3 : w.heap.size + 1 + 1 + 1 < w2.heap.size := by omega)
          (try have hb2z4 : w.heap.size + 1 + 1 + 1 + 1 < w2.heap.size := by omega)
          (try have hb2z5 : w.heap.size + 1 + 1 + 1 + 1 + 1 < w2.heap.size := by omega)
          go_wp2
          go_roundw
          case rel =>
            refine ⟨k + 1, by omega, by go_num, fun j hj => ?_, HBR.out.trans (hb2.mono hszr)⟩
            rcases Nat.lt_or_ge j k with h | h
            · exact HZ.out j h
            · obtain rfl : j = k := by omega
              rw [← HX.out, ← HY.out]
          case measure => simp [intOf]; omega
        · have HEE := Lib.hid (show E = false by
            rw [HE.out]
            refine decide_eq_false (fun e => hxy ?_)
            rw [HX.out, HY.out, e])
          go_wp2
          refine Calm.tail_below 8 (by kernel_rfl) (by kernel_rfl) ?_
          simp only [List.take_succ_cons, List.take_zero, List.drop_succ_cons, List.drop_zero]
          repeat (first | (apply Calm.op_move; (focus rfl); (focus (first | exact .inl rfl | exact .inr rfl)); (focus ((try simp only [Act.eval, Array.getD_eq_getD_getElem?, List.getElem?_toArray, List.getElem?_cons_succ, List.getElem?_cons_zero, Option.getD_some]); rfl)); (try simp only [Act.put, List.setIfInBounds_toArray, List.set_cons_zero, List.set_cons_succ])) | (apply Calm.op_not; (focus rfl); (try simp only [Act.put, List.setIfInBounds_toArray, List.set_cons_zero, List.set_cons_succ])) | (apply Calm.op; (focus rfl); (focus (intro W hb; obtain ⟨hc, hf⟩ := bcell hb; clear hb hf; go_simp; (try go_bits); (try rfl); done)); (try simp only [Act.put, List.setIfInBounds_toArray, List.set_cons_zero, List.set_cons_succ])))
          refine wpQuiet_nil ?_
          intro w2 hb2
          obtain ⟨hb2c, hb2f⟩ := bcell hb2
          have hb2z := hb2.size
          (try simp at hb2z)
          (try have hb2z0 : w.heap.size < w2.heap.size := by omega)
          (try have hb2z1 : w.heap.size + 1 < w2.heap.size := by omega)
          (try have hb2z2 : w.heap.size + 1 + 1 < w2.heap.size := by omega)
          (try have hb2z3 : w.heap.size + 1 + 1 + 1 < w2.heap.size := by omega)
          (try have hb2z4 : w.heap.size + 1 + 1 + 1 + 1 < w2.heap.size := by omega)
          (try have hb2z5 : w.heap.size + 1 + 1 + 1 + 1 + 1 < w2.heap.size := by omega)
          go_wp2
          go_ret
          exact ⟨by rw [HEE.out]; rfl, HBR.out.trans (hb2.mono hszr)⟩
      · obtain rfl : k = N := by omega
        have HEE := Lib.hid (show E = true by
          rw [HE.out]
          refine decide_eq_true (List.ext_getElem? fun i => ?_)
          have hl : a.length = b.length := HN.out.symm.trans HM.out
          rcases Nat.lt_or_ge i a.length with h | h
          · have := HZ.out i (by rw [HN.out]; exact h)
            simpa [h, show i < b.length by omega] using this
          · rw [List.getElem?_eq_none h, List.getElem?_eq_none (by omega)])
        go_wp2
        go_ret
        exact ⟨by rw [HEE.out]; rfl, HBR.out⟩
  · have HEE := Lib.hid (show E = false by
      rw [HE.out]
      refine decide_eq_false (fun e => hnm ?_)
      rw [HN.out, HM.out, e])
    have hnm2 : ¬ (N : Int) = (M : Int) := by omega
    go_enter Try.func8, Try.ntmps8
    go_wp2
    go_ret
    exact ⟨by rw [HEE.out]; rfl, Below.refl _ _⟩
end Go.Proofs.Ytamldoidalnloaa

/- Contracts of the reference's numbers, CheckSection, CheckSections. -/
namespace Go.Proofs.Ytamldoidalnloaa
open Go.RowKit
open Calm (bcell Blk)

end Go.Proofs.Ytamldoidalnloaa

/- A guard's error, number by number; a guard without error is valid. No walk. -/
namespace Go.Proofs.Ytamldoidalnloaa
open Go.RowKit

/-- the error, from the first number that is not yet known to be right. -/
def G1 (gs : List Int) (l : List Int) : Int := if firstOf l = 0 then guardErr2 gs else firstOf l
end Go.Proofs.Ytamldoidalnloaa

/- protect.Loudest. -/
namespace Go.Proofs.Ytamldoidalnloaa
open Go.RowKit
open Calm (bcell Blk)

end Go.Proofs.Ytamldoidalnloaa

/- Contracts of checkHeat, checkValue and CheckState. -/
namespace Go.Proofs.Ytamldoidalnloaa
open Go.RowKit
open Calm (bcell Blk)

end Go.Proofs.Ytamldoidalnloaa

/- Contracts of Begin, safe, Safe, Tails. -/
namespace Go.Proofs.Ytamldoidalnloaa
open Go.RowKit
open Calm (bcell Blk)

/-- a valid guard and state. -/
structure StV (lk ht rc : Int) (ts gs : List Int) (h lv : Int) (ps : List Int) : Prop where
  g : guardErr lk ht rc ts gs = 0
  v : Valid lk ht rc ts gs
  h : 0 ≤ h ∧ h ≤ 536870912
  lv : 0 ≤ lv ∧ lv < gs.length
  pl : ts.length = ps.length + 1
  pb : inB 2048 ps
end Go.Proofs.Ytamldoidalnloaa

/- Contracts of safe, Safe, Tails. -/
namespace Go.Proofs.Ytamldoidalnloaa
open Go.RowKit
open Calm (bcell Blk)

end Go.Proofs.Ytamldoidalnloaa

/- Contracts of Behind and Step. -/
namespace Go.Proofs.Ytamldoidalnloaa
open Go.RowKit
open Calm (bcell Blk)

end Go.Proofs.Ytamldoidalnloaa

/- Contract of Step. -/
namespace Go.Proofs.Ytamldoidalnloaa
open Go.RowKit
open Calm (bcell Blk)

end Go.Proofs.Ytamldoidalnloaa

/- Contract of Release. -/
namespace Go.Proofs.Ytamldoidalnloaa
open Go.RowKit
open Calm (bcell Blk)

end Go.Proofs.Ytamldoidalnloaa

/- Contracts of slices.Equal, Run, Levels, Peaks and CheckRun. -/
namespace Go.Proofs.Ytamldoidalnloaa
open Go.RowKit
open Calm (bcell Blk)

end Go.Proofs.Ytamldoidalnloaa

/- Contracts of CheckRun (with a right length), steady, Steady. -/
namespace Go.Proofs.Ytamldoidalnloaa
open Go.RowKit
open Calm (bcell Blk)

end Go.Proofs.Ytamldoidalnloaa

/- Plain laws: a heat that cools. -/
namespace Go.Proofs.Ytamldoidalnloaa
open Go.RowKit

end Go.Proofs.Ytamldoidalnloaa

/- Plain laws: the weight of the taps, the steady output, the quiet input. -/
namespace Go.Proofs.Ytamldoidalnloaa
open Go.RowKit

end Go.Proofs.Ytamldoidalnloaa

/- Contract of weight. -/
namespace Go.Proofs.Ytamldoidalnloaa
open Go.RowKit
open Calm (bcell Blk)

end Go.Proofs.Ytamldoidalnloaa

/- Contracts of Steady and Quiet. -/
namespace Go.Proofs.Ytamldoidalnloaa
open Go.RowKit
open Calm (bcell Blk)

end Go.Proofs.Ytamldoidalnloaa

/- Contract of Cool: a map that the call makes holds the heats that were seen. -/
namespace Go.Proofs.Ytamldoidalnloaa
open Go.RowKit
open Calm (bcell Blk)
open Go.Maps (Keyed)

theorem plainElem_bool_inv {H : Type} {P : Program} {e : TypeId} (he : P.underlying e = some .bool) {v : Value} {z : DataW H × List MemPlace} (h : plainElem P e v = some z) : ∃ b, v = .bool b ∧ z = (.lit (.bool b), []) := by
  unfold plainElem at h
  rw [he] at h
  cases v <;> simp at h
  exact ⟨_, rfl, h.symm⟩
theorem zeroB (w : World) : (zeroValue 4).run Try.prog w = .ok (.bool false) w := by kernel_rfl

end Go.Proofs.Ytamldoidalnloaa
