/- Part 10 of the texts of the claim: S7, CopyI, S8, J1, J2. -/
import Derived.Test.YtleemphfkhbhaaaDoorMp9
import Derived.Test.YtleemphfkhbhaaaDoorMp3
import Derived.Laws.CopyRow

/- Contracts of From and Run (sections that hold). -/
namespace Go.Proofs.YtleemphfkhbhaaaDoor
open Go.RowKit
open Calm (bcell Blk)

set_option maxRecDepth 100000 in
set_option maxHeartbeats 4000000 in
theorem From_ok (b0 b1 b2 a1 a2 sh x1 x2 y1 y2 : Int) (xs : List Int) (A : Option Addr) (c : Nat) (w : World) (h0 : bd15 b0) (h1 : bd15 b1) (h2 : bd15 b2) (h3 : bd15 a1) (h4 : bd15 a2) (h5 : 0 ≤ sh ∧ sh ≤ 15)
    (hst : okX (x1, x2, y1, y2)) (hx : inB 32767 xs) (hn : xs.length ≤ 5000) (hC : Cells w A xs) (e1 : secErr b0 b1 b2 a1 a2 sh = 0) (e2 : sstErr x1 x2 y1 y2 = 0) (e3 : ssigErr xs = 0) :
    Calls Tryd.prog 30 #[.agg #[(.int .i64 (b0)), (.int .i64 (b1)), (.int .i64 (b2)), (.int .i64 (a1)), (.int .i64 (a2)), (.int .i64 (sh))], .agg #[(.int .i64 (x1)), (.int .i64 (x2)), (.int .i64 (y1)), (.int .i64 (y2))], .slice A xs.length c] w fun r w' => (∃ B d, r = .returned (.tuple #[.slice B xs.length d, .agg (encX (ssAt b0 b1 b2 a1 a2 sh (x1, x2, y1, y2) xs xs.length)), (.int .i64 (0))]) ∧ (∀ p, B = some p → w.heap.size ≤ p.block) ∧ Cells w' B (soK b0 b1 b2 a1 a2 sh (x1, x2, y1, y2) xs xs.length)) ∧ Below w.heap.size w w' := by
  have HCK : Hid (∀ W, Calls Tryd.prog 46 #[.agg #[(.int .i64 (b0)), (.int .i64 (b1)), (.int .i64 (b2)), (.int .i64 (a1)), (.int .i64 (a2)), (.int .i64 (sh))]] W fun r w' => r = .returned (.int .i64 (0)) ∧ Below W.heap.size W w') := Lib.hid (fun W => by have := checkSection_any b0 b1 b2 a1 a2 sh W; rwa [e1] at this)
  have HCT : Hid (∀ W, Calls Tryd.prog 51 #[.agg #[(.int .i64 (x1)), (.int .i64 (x2)), (.int .i64 (y1)), (.int .i64 (y2))]] W fun r w' => r = .returned (.int .i64 (0)) ∧ Below W.heap.size W w') := Lib.hid (fun W => by have := sState_any x1 x2 y1 y2 W; rwa [e2] at this)
  have HSG : Hid (∀ W, Cells W A xs → Calls Tryd.prog 25 #[.slice A xs.length c] W fun r w' => r = .returned (.int .i64 (0)) ∧ Below W.heap.size W w') := Lib.hid (fun W q => by have := sSignal_any xs A c W q hn; rwa [e3] at this)
  have HF3 : Hid (∀ (W : World), Calls Tryd.prog 23 #[.slice (some ⟨W.heap.size, 0, none⟩) 3 3] (W.alloc (.cells #[(.int .i64 (0)), (.int .i64 (0)), (.int .i64 (0))] 35)) fun r w' => r = .returned (.int .i64 (0)) ∧ (W.alloc (.cells #[(.int .i64 (0)), (.int .i64 (0)), (.int .i64 (0))] 35)) = w') := Lib.hid (fun W => sFirst_cells [0, 0, 0] W (by simp))
  have HFR : Hid (∀ W, Cells W A xs → Calls Tryd.prog 26 #[.agg #[(.int .i64 (b0)), (.int .i64 (b1)), (.int .i64 (b2)), (.int .i64 (a1)), (.int .i64 (a2)), (.int .i64 (sh))], .agg #[(.int .i64 (x1)), (.int .i64 (x2)), (.int .i64 (y1)), (.int .i64 (y2))], .slice A xs.length c] W fun r w' => (∃ B d, r = .returned (.tuple #[.slice B xs.length d, .agg (encX (ssAt b0 b1 b2 a1 a2 sh (x1, x2, y1, y2) xs xs.length))]) ∧ (∀ p, B = some p → W.heap.size ≤ p.block ∧ Unf w' p.block) ∧ Cells w' B (soK b0 b1 b2 a1 a2 sh (x1, x2, y1, y2) xs xs.length)) ∧ Below W.heap.size W w') :=
    Lib.hid (fun W q => from_any b0 b1 b2 a1 a2 sh x1 x2 y1 y2 xs A c W h0 h1 h2 h3 h4 h5 hst hx hn q)
  have HC := Lib.hid hC
  obtain ⟨LX, hLX⟩ : ∃ LX, LX = ssAt b0 b1 b2 a1 a2 sh (x1, x2, y1, y2) xs xs.length := ⟨_, rfl⟩
  obtain ⟨SK, hSK⟩ : ∃ SK, SK = soK b0 b1 b2 a1 a2 sh (x1, x2, y1, y2) xs xs.length := ⟨_, rfl⟩
  obtain ⟨N, hN⟩ : ∃ N, N = xs.length := ⟨_, rfl⟩
  rw [← hLX, ← hSK] at HFR ⊢
  rw [← hN] at HFR HSG ⊢
  unfold encX at HFR
  clear hLX hSK hN hC h0 h1 h2 h3 h4 h5 hst hx hn e1 e2 e3
  go_enter Tryd.func30, Tryd.ntmps30
  go_wp2
  refine Calm.tail_below 5 (by kernel_rfl) (by kernel_rfl) ?_
  simp only [List.take_succ_cons, List.take_zero, List.drop_succ_cons, List.drop_zero]
  repeat (first | (first | (apply Calm.op_move; (focus rfl); (focus (first | exact .inl rfl | exact .inr rfl)); (focus ((try simp only [Act.eval, Array.getD_eq_getD_getElem?, List.getElem?_toArray, List.getElem?_cons_succ, List.getElem?_cons_zero, Option.getD_some]); rfl)); (try simp only [Act.put, List.setIfInBounds_toArray, List.set_cons_zero, List.set_cons_succ])) | (apply Calm.op_not; (focus rfl); (try simp only [Act.put, List.setIfInBounds_toArray, List.set_cons_zero, List.set_cons_succ])) | (apply Calm.op; (focus rfl); (focus (intro W hb; obtain ⟨hc, hf⟩ := bcell hb; clear hb hf; go_simp; (try go_bits); (try rfl); done)); (try simp only [Act.put, List.setIfInBounds_toArray, List.set_cons_zero, List.set_cons_succ]))) | (apply Calm.op_call; (focus rfl); (focus (intro W hb; obtain ⟨hc, hf⟩ := bcell hb; clear hb hf; go_simp; refine ⟨?_, ?_⟩; rfl; rfl)); (focus (intro W hb; first | (go_at_call 46; exact Calm.call_below hb (HCK.out _)) | (go_at_call 51; exact Calm.call_below hb (HCT.out _)))); (try simp only [Act.put, List.setIfInBounds_toArray, List.set_cons_zero, List.set_cons_succ])))
  refine wpQuiet_nil ?_
  intro w1 hb1
  obtain ⟨hb1c, hb1f⟩ := bcell hb1
  have hb1z := hb1.size
  (try simp at hb1z)
  (try have hb1z0 : w.heap.size < w1.heap.size := by omega)
  (try have hb1z1 : w.heap.size + 1 < w1.heap.size := by omega)
  (try have hb1z2 : w.heap.size + 1 + 1 < w1.heap.size := by omega)
  (try have hb1z3 : w.heap.size + 1 + 1 + 1 < w1.heap.size := by omega)
  (try have hb1z4 : w.heap.size + 1 + 1 + 1 + 1 < w1.heap.size := by omega)
  (try have hb1z5 : w.heap.size + 1 + 1 + 1 + 1 + 1 < w1.heap.size := by omega)
  have HB1 := Lib.hid (show Below w.heap.size w w1 from Below.trans (by (repeat (first | (with_reducible exact Below.refl _ _) | ((with_reducible refine Below.setCell ?_ ?_ _); rotate_left 1; focus (first | (simp; done) | (simp; omega) | (simp at *; omega))) | ((with_reducible refine Below.alloc ?_ ?_ _); rotate_left 1; focus (first | (simp; done) | (simp; omega) | (simp at *; omega))) | (with_reducible refine Below.drew ?_) | ((with_reducible refine Calm.step (by assumption) ?_ ?_); rotate_left 1; focus (first | (simp; done) | (simp; omega) | (simp at *; omega)))))) (hb1.mono (by simp; omega)))
  have K0 : Blk w1 w.heap.size #[(.int .i64 (b0)), (.int .i64 (b1)), (.int .i64 (b2)), (.int .i64 (a1)), (.int .i64 (a2)), (.int .i64 (sh))] := Blk.below (by (repeat (first | ((with_reducible refine Blk.at_ ?_); focus (first | rfl | (simp; done) | (simp; omega))) | (with_reducible refine Blk.alloc ?_ _) | (with_reducible refine Blk.below ?_ (by with_reducible assumption)) | (with_reducible refine Blk.drew ?_)))) hb1
  have K1 : Blk w1 (w.heap.size + 1) #[(.int .i64 (x1)), (.int .i64 (x2)), (.int .i64 (y1)), (.int .i64 (y2))] := Blk.below (by (repeat (first | ((with_reducible refine Blk.at_ ?_); focus (first | rfl | (simp; done) | (simp; omega))) | (with_reducible refine Blk.alloc ?_ _) | (with_reducible refine Blk.below ?_ (by with_reducible assumption)) | (with_reducible refine Blk.drew ?_)))) hb1
  have K2 : Blk w1 (w.heap.size + 1 + 1) #[(.int .i64 (0)), (.int .i64 (0)), (.int .i64 (0)), (.int .i64 (0))] := Blk.below (by (repeat (first | ((with_reducible refine Blk.at_ ?_); focus (first | rfl | (simp; done) | (simp; omega))) | (with_reducible refine Blk.alloc ?_ _) | (with_reducible refine Blk.below ?_ (by with_reducible assumption)) | (with_reducible refine Blk.drew ?_)))) hb1
  have HK0 := Lib.hid K0
  have HK1 := Lib.hid K1
  have HK2 := Lib.hid K2
  clear hb1 hb1c hb1f K0 K1 K2
  go_wp2_with (first
    | (go_at_call 25; refine (HSG.out _ (HC.out.below HB1.out)).mono ?_; rintro r w2 ⟨rfl, hb2⟩; have HB2 := Lib.hid (HB1.out.trans (hb2.mono HB1.out.size)); obtain ⟨c0, c1, c2, c3, c4, c5, cl, cf⟩ := ((HK0.out.below hb2).alloc (.cells #[(.int .i64 (0)), (.int .i64 (0)), (.int .i64 (0))] 35)).o6; obtain ⟨d0, d1, d2, d3, dl, df⟩ := ((HK1.out.below hb2).alloc (.cells #[(.int .i64 (0)), (.int .i64 (0)), (.int .i64 (0))] 35)).o4; have HK22 := Lib.hid ((HK2.out.below hb2).alloc (.cells #[(.int .i64 (0)), (.int .i64 (0)), (.int .i64 (0))] 35)); clear hb2)
    | (go_at_call 23; refine (HF3.out _).mono ?_; rintro r w3 ⟨rfl, rfl⟩; have HB3 := Lib.hid (HB2.out.alloc HB2.out.size (.cells #[(.int .i64 (0)), (.int .i64 (0)), (.int .i64 (0))] 35)); refine Hid.out ?_))
  obtain ⟨w3, hw3⟩ : ∃ w3, w3 = w2.alloc (.cells #[(.int .i64 (0)), (.int .i64 (0)), (.int .i64 (0))] 35) := ⟨_, rfl⟩
  rw [← hw3] at c0 c1 c2 c3 c4 c5 cl cf d0 d1 d2 d3 dl df HK22 HB3 ⊢
  clear hw3 HK0 HK1 HK2 HB1 HB2
  unfold Hid
  go_wp2_with (go_at_call 26; refine (HFR.out _ (HC.out.below HB3.out)).mono ?_; rintro r w4 ⟨⟨B, d, rfl, hf, hc4⟩, hb4⟩; have HB4 := Lib.hid (HB3.out.trans (hb4.mono HB3.out.size)); have HK24 := Lib.hid (HK22.out.below hb4); have HF4 := Lib.hid hf; have HC4 := Lib.hid hc4; have hs4 := hb4.size; clear hf hc4 hb4 c0 c1 c2 c3 c4 c5 cl cf d0 d1 d2 d3 dl df)
  have hz4 : w.heap.size < w4.heap.size := by have := HB4.out.size; have := HK24.out.lt; omega
  have hz41 : w.heap.size + 1 < w4.heap.size := by have := HK24.out.lt; omega
  have hz42 : w.heap.size + 1 + 1 < w4.heap.size := by have := HK24.out.lt; omega
  obtain ⟨d0, d1, d2, d3, dl, df⟩ := HK24.out.o4
  refine Calm.tail_below 3 (by kernel_rfl) (by kernel_rfl) ?_
  simp only [List.take_succ_cons, List.take_zero, List.drop_succ_cons, List.drop_zero]
  repeat (first | (apply Calm.op_move; (focus rfl); (focus (first | exact .inl rfl | exact .inr rfl)); (focus ((try simp only [Act.eval, Array.getD_eq_getD_getElem?, List.getElem?_toArray, List.getElem?_cons_succ, List.getElem?_cons_zero, Option.getD_some]); rfl)); (try simp only [Act.put, List.setIfInBounds_toArray, List.set_cons_zero, List.set_cons_succ])) | (apply Calm.op_not; (focus rfl); (try simp only [Act.put, List.setIfInBounds_toArray, List.set_cons_zero, List.set_cons_succ])) | (apply Calm.op; (focus rfl); (focus (intro W hb; obtain ⟨hc, hf⟩ := bcell hb; clear hb hf; go_simp; (try go_bits); (try rfl); done)); (try simp only [Act.put, List.setIfInBounds_toArray, List.set_cons_zero, List.set_cons_succ])))
  refine wpQuiet_nil ?_
  intro w6 hb6
  obtain ⟨hb6c, hb6f⟩ := bcell hb6
  have hb6z := hb6.size
  (try simp at hb6z)
  (try have hb6z0 : w.heap.size < w6.heap.size := by omega)
  (try have hb6z1 : w.heap.size + 1 < w6.heap.size := by omega)
  (try have hb6z2 : w.heap.size + 1 + 1 < w6.heap.size := by omega)
  (try have hb6z3 : w.heap.size + 1 + 1 + 1 < w6.heap.size := by omega)
  (try have hb6z4 : w.heap.size + 1 + 1 + 1 + 1 < w6.heap.size := by omega)
  (try have hb6z5 : w.heap.size + 1 + 1 + 1 + 1 + 1 < w6.heap.size := by omega)
  have HB6 := Lib.hid (show Below w.heap.size w w6 from Below.trans (HB4.out.alloc (by omega) _) (hb6.mono (by simp; omega)))
  have K6 := (HK24.out.alloc (.cells #[(.int .i64 (LX.1)), (.int .i64 (LX.2.1)), (.int .i64 (LX.2.2.1)), (.int .i64 (LX.2.2.2))] 61)).below hb6
  have HC6 := Lib.hid ((HC4.out.below ((Below.refl _ _).alloc (Nat.le_refl _) (.cells #[(.int .i64 (LX.1)), (.int .i64 (LX.2.1)), (.int .i64 (LX.2.2.1)), (.int .i64 (LX.2.2.2))] 61))).below hb6)
  obtain ⟨g0, g1, g2, g3, gl, gf⟩ := K6.o4
  have HK6 := Lib.hid K6
  clear hb6 hb6c hb6f K6 d0 d1 d2 d3 dl df
  go_wp2
  have hz3 : w.heap.size + 1 + 1 < w3.heap.size := HK22.out.lt
  have hne : 0 < SK.length → ∀ p, B = some p → p.block ≠ w.heap.size + 1 + 1 := fun _ p e => by have := (HF4.out p e).1; omega
  exact bodyPost_ret (v := .tuple #[.slice B N d, .agg (encX LX), (.int .i64 (0))]) (by simp [results, Tryd.results30, go_sem, encX, *]) rfl
    ⟨⟨B, d, rfl, fun p e => by have := (HF4.out p e).1; omega, (((HC6.out.sets hne _ _).sets hne _ _).sets hne _ _).sets hne _ _⟩, (((HB6.out.setCell (by simp; omega) _).setCell (by simp; omega) _).setCell (by simp; omega) _).setCell (by simp; omega) _⟩
theorem Run_ok (b0 b1 b2 a1 a2 sh : Int) (xs : List Int) (A : Option Addr) (c : Nat) (w : World) (h0 : bd15 b0) (h1 : bd15 b1) (h2 : bd15 b2) (h3 : bd15 a1) (h4 : bd15 a2) (h5 : 0 ≤ sh ∧ sh ≤ 15)
    (hx : inB 32767 xs) (hn : xs.length ≤ 5000) (hC : Cells w A xs) (e1 : secErr b0 b1 b2 a1 a2 sh = 0) (e3 : ssigErr xs = 0) :
    Calls Tryd.prog 15 #[.agg #[(.int .i64 (b0)), (.int .i64 (b1)), (.int .i64 (b2)), (.int .i64 (a1)), (.int .i64 (a2)), (.int .i64 (sh))], .slice A xs.length c] w fun r w' => (∃ B d, r = .returned (.tuple #[.slice B xs.length d, (.int .i64 (0))]) ∧ (∀ p, B = some p → w.heap.size ≤ p.block) ∧ Cells w' B (soK b0 b1 b2 a1 a2 sh (0, 0, 0, 0) xs xs.length)) ∧ Below w.heap.size w w' := by
  have HFR : Hid (∀ W, Cells W A xs → Calls Tryd.prog 30 #[.agg #[(.int .i64 (b0)), (.int .i64 (b1)), (.int .i64 (b2)), (.int .i64 (a1)), (.int .i64 (a2)), (.int .i64 (sh))], .agg #[(.int .i64 (0)), (.int .i64 (0)), (.int .i64 (0)), (.int .i64 (0))], .slice A xs.length c] W fun r w' => (∃ B d, r = .returned (.tuple #[.slice B xs.length d, .agg (encX (ssAt b0 b1 b2 a1 a2 sh (0, 0, 0, 0) xs xs.length)), (.int .i64 (0))]) ∧ (∀ p, B = some p → W.heap.size ≤ p.block) ∧ Cells w' B (soK b0 b1 b2 a1 a2 sh (0, 0, 0, 0) xs xs.length)) ∧ Below W.heap.size W w') :=
    Lib.hid (fun W q => From_ok b0 b1 b2 a1 a2 sh 0 0 0 0 xs A c W h0 h1 h2 h3 h4 h5 (by unfold okX bd15; simp) hx hn q e1 (by decide) e3)
  have HC := Lib.hid hC
  obtain ⟨LX, hLX⟩ : ∃ LX, LX = ssAt b0 b1 b2 a1 a2 sh (0, 0, 0, 0) xs xs.length := ⟨_, rfl⟩
  obtain ⟨SK, hSK⟩ : ∃ SK, SK = soK b0 b1 b2 a1 a2 sh (0, 0, 0, 0) xs xs.length := ⟨_, rfl⟩
  obtain ⟨N, hN⟩ : ∃ N, N = xs.length := ⟨_, rfl⟩
  rw [← hLX, ← hSK] at HFR
  rw [← hSK]
  rw [← hN] at HFR ⊢
  unfold encX at HFR
  clear hLX hSK hN hC h0 h1 h2 h3 h4 h5 hx hn e1 e3
  go_enter Tryd.func15, Tryd.ntmps15
  go_wp2_with (go_at_call 30; refine (HFR.out _ (HC.out.below (by (repeat (first | (with_reducible exact Below.refl _ _) | ((with_reducible refine Below.setCell ?_ ?_ _); rotate_left 1; focus (first | (simp; done) | (simp; omega) | (simp at *; omega))) | ((with_reducible refine Below.alloc ?_ ?_ _); rotate_left 1; focus (first | (simp; done) | (simp; omega) | (simp at *; omega))) | (with_reducible refine Below.drew ?_) | ((with_reducible refine Calm.step (by assumption) ?_ ?_); rotate_left 1; focus (first | (simp; done) | (simp; omega) | (simp at *; omega)))))))).mono ?_; rintro r w4 ⟨⟨B, d, rfl, hf, hc4⟩, hb4⟩; have HB4 := Lib.hid (show Below w.heap.size w w4 from Below.trans (by (repeat (first | (with_reducible exact Below.refl _ _) | ((with_reducible refine Below.setCell ?_ ?_ _); rotate_left 1; focus (first | (simp; done) | (simp; omega) | (simp at *; omega))) | ((with_reducible refine Below.alloc ?_ ?_ _); rotate_left 1; focus (first | (simp; done) | (simp; omega) | (simp at *; omega))) | (with_reducible refine Below.drew ?_) | ((with_reducible refine Calm.step (by assumption) ?_ ?_); rotate_left 1; focus (first | (simp; done) | (simp; omega) | (simp at *; omega)))))) (hb4.mono (by simp))); have HF4 := Lib.hid hf; have HC4 := Lib.hid hc4; have hs4 := hb4.size; clear hf hc4 hb4)
  simp only [World.size_alloc] at hs4
  go_ret2
  exact ⟨⟨B, d, rfl, fun p e => by have := HF4.out p e; simp at this; omega, HC4.out.below ((Below.refl _ _).alloc (Nat.le_refl _) _)⟩, HB4.out.alloc (by omega) _⟩
end Go.Proofs.YtleemphfkhbhaaaDoor

/- The law of copy between slices of integers, as contracts speak of them. -/
namespace Go.Proofs.YtleemphfkhbhaaaDoor
open Go.RowKit

theorem run_copyI {P : Program} (w : World) (dT sT ty elem : TypeId) (g : Nat) (A : Option Addr) (xs : List Int) (n cap c : Nat) (cur : Array Value) (t : TypeId)
    (hu : P.underlying dT = some (.slice elem)) (hs : (P.info? elem).map (·.size) = some 1) (hn : xs.length ≤ n)
    (hg : w.heap[g]? = some (.cells cur t (0, 0))) (hcur : cur.size = n) (hC : Cells w A xs) :
    (Builtin.copy_ #[dT, sT] ty #[.slice (some ⟨g, 0, none⟩) n cap, .slice A xs.length c]).run P w = .ok (goInt xs.length) (w.setRow g (xs.map (Value.int .i64) ++ cur.toList.drop xs.length).toArray) := by
  have hmin : Nat.min xs.length n = xs.length := Nat.min_eq_left hn
  cases A with
  | some a =>
    have := run_copy_row (P := P) w dT sT ty elem g 0 n cap a xs.length c cur t (xs.map (Value.int .i64)) hu hs hg (by rw [hmin]; simp) (fun j v hj => by
      have hj' : j < xs.length := by
        have := (List.getElem?_eq_some_iff.1 hj).1
        simpa using this
      obtain ⟨b, o, hA, hl, hc⟩ := hC (by omega)
      cases hA
      exact cells_src hc j v hj) (by simp; omega) (fun v hv => by obtain ⟨_, _, rfl⟩ := List.mem_map.1 hv; rfl)
    simpa using this
  | none =>
    have h0 : xs = [] := by
      cases xs with
      | nil => rfl
      | cons x xs => obtain ⟨b, o, hA, _⟩ := hC (by simp); cases hA
    subst h0
    have hself : w.setRow g cur = w := setRow_self w g cur t _ hg
    cases hq : P.info? elem with
    | none => simp [hq] at hs
    | some i => simp [Builtin.copy_, run_underlying hu, Builtin.lenOf, Builtin.firstCells, sizeOf, typeInfo, hq, storeCells, hself]
theorem wpList_copyI {P : Program} {w : World} {ops : Array Oper} {rest : List Oper} {o : Oper} {a : Act} {Q : Exit → Act → World → Prop} (hgd : o.guard = none) (d s : Operand) (dT sT : TypeId)
    (ho : o.op = .call { callee := .builtin .copy, args := #[d, s], argTypes := #[dT, sT] }) (elem : TypeId) (hu : P.underlying dT = some (.slice elem)) (hsz : (P.info? elem).map (·.size) = some 1)
    (g n m cap c : Nat) (A : Option Addr) (xs : List Int) (hm : xs.length = m) (hn : m ≤ n) (hd : a.eval d = .slice (some ⟨g, 0, none⟩) n cap) (hs : a.eval s = .slice A m c)
    (cur : Array Value) (t : TypeId) (hg : w.heap[g]? = some (.cells cur t (0, 0))) (hcur : cur.size = n) (hC : Cells w A xs)
    (h : ∀ w', w'.heap.size = w.heap.size → Below g w w' → (∀ k, k ≠ g → w'.heap[k]? = w.heap[k]?) → w'.heap[g]? = some (.cells (xs.map (Value.int .i64) ++ cur.toList.drop m).toArray t (0, 0)) → wpList P ops Q rest (a.put o.dst (goInt m)) w') : wpList P ops Q (o :: rest) a w := by
  subst hm
  refine wpList_plain hgd fun K hK => ?_
  have hrun := run_copyI (P := P) w dT sT o.type elem g A xs n cap c cur t hu hsz hn hg hcur hC
  unfold Oper.wp
  simp [execOp, ho, resolve, invoke, builtin, hd, hs, hrun, Result.andThen]
  exact hK _ _ (h _ (by simp [World.setRow]) (below_setRow (Below.refl _ _) (Nat.le_refl _) _) (fun k hk => setRow_other w g k _ hk) (setRow_heap w g _ _ t _ hg))
end Go.Proofs.YtleemphfkhbhaaaDoor

/- Contract of Cascade (sections and a signal that hold). -/
namespace Go.Proofs.YtleemphfkhbhaaaDoor
open Go.RowKit
open Calm (bcell Blk)

/-- what a section makes of a signal, at rest. -/
def secOut (s : Sec) (ys : List Int) : List Int := soK s.b0 s.b1 s.b2 s.a1 s.a2 s.sh (0, 0, 0, 0) ys ys.length
theorem secOut_len (s : Sec) (ys : List Int) : (secOut s ys).length = ys.length := soK_len _ _ _ _ _ _ _ _ _
theorem secOut_in (s : Sec) (ys : List Int) : inB 32767 (secOut s ys) := by
  intro n hn
  simp only [secOut, soK, List.mem_map] at hn
  obtain ⟨k, _, rfl⟩ := hn
  exact limF_bd _
/-- the signal behind the first k sections. -/
def casc (l : List Sec) (xs : List Int) (k : Nat) : List Int := (l.take k).foldl (fun ys s => secOut s ys) xs
theorem casc_succ {l : List Sec} (xs : List Int) {k : Nat} (hk : k < l.length) : casc l xs (k + 1) = secOut (l.getD k Sec0) (casc l xs k) := by
  unfold casc
  rw [List.take_succ_eq_append_getElem hk, List.foldl_append, List.getD_eq_getElem?_getD, List.getElem?_eq_getElem hk]
  rfl
theorem casc_len {l : List Sec} (xs : List Int) : ∀ k, k ≤ l.length → (casc l xs k).length = xs.length
  | 0, _ => by simp [casc]
  | k + 1, h => by rw [casc_succ _ (by omega), secOut_len, casc_len xs k (by omega)]
theorem casc_in {l : List Sec} {xs : List Int} (hx : inB 32767 xs) : ∀ k, k ≤ l.length → inB 32767 (casc l xs k)
  | 0, _ => by simpa [casc] using hx
  | k + 1, h => by rw [casc_succ _ (by omega)]; exact secOut_in _ _
theorem eachErr_zero {l : List Int} {lo hi : Int} : eachErr l lo hi = 0 ↔ ∀ n ∈ l, lo ≤ n ∧ n ≤ hi := by
  unfold eachErr
  rw [firstOf_eq_zero]
  constructor
  · exact fun h n hn => rangeErr_zero.1 (h _ (List.mem_map.2 ⟨n, hn, rfl⟩))
  · rintro h x hx
    obtain ⟨n, hn, rfl⟩ := List.mem_map.1 hx
    exact rangeErr_zero.2 (h n hn)
theorem secErr_zero {b0 b1 b2 a1 a2 sh : Int} (h : secErr b0 b1 b2 a1 a2 sh = 0) : bd15 b0 ∧ bd15 b1 ∧ bd15 b2 ∧ bd15 a1 ∧ bd15 a2 ∧ 0 ≤ sh ∧ sh ≤ 15 := by
  have h2 := firstOf_eq_zero.1 h
  have h3 := eachErr_zero.1 (h2 _ (List.mem_cons_self ..))
  exact ⟨h3 _ (by simp), h3 _ (by simp), h3 _ (by simp), h3 _ (by simp), h3 _ (by simp), rangeErr_zero.1 (h2 _ (by simp))⟩
theorem secsErr_zero {l : List Sec} (h : secsErr l = 0) : l.length ≤ 8 ∧ ∀ k, k < l.length → secE (l.getD k Sec0) = 0 := by
  have h2 := firstOf_eq_zero.1 h
  refine ⟨?_, fun k hk => ?_⟩
  · have := h2 (if 8 < l.length then 5 else 0) (by simp)
    split at this
    · simp at this
    · omega
  · have h3 := firstOf_eq_zero.1 (h2 (firstOf (l.map secE)) (by simp))
    refine h3 _ (List.mem_map.2 ⟨_, ?_, rfl⟩)
    rw [List.getD_eq_getElem?_getD, List.getElem?_eq_getElem hk]
    exact List.getElem_mem hk
theorem ssigErr_zero {xs : List Int} (h : ssigErr xs = 0) : xs.length ≤ 4096 ∧ inB 32767 xs := by
  have h2 := firstOf_eq_zero.1 h
  refine ⟨?_, fun n hn => ?_⟩
  · have := h2 (if 4096 < xs.length then 5 else 0) (by simp)
    split at this
    · simp at this
    · omega
  · exact eachErr_zero.1 (h2 (eachErr xs (-32767) 32767) (by simp)) n hn

set_option maxRecDepth 100000 in
set_option maxHeartbeats 4000000 in
theorem Cascade_ok (l : List Sec) (xs : List Int) (A1 A : Option Addr) (c1 c : Nat) (w : World) (hS : SCells w A1 l) (hC : Cells w A xs) (hl : secsErr l = 0) (hx : ssigErr xs = 0) :
    Calls Tryd.prog 10 #[.slice A1 l.length c1, .slice A xs.length c] w fun r w' => (∃ B d, r = .returned (.tuple #[.slice B xs.length d, (.int .i64 (0))]) ∧ (∀ p, B = some p → w.heap.size ≤ p.block ∧ Unf w' p.block) ∧ Cells w' B (casc l xs l.length)) ∧ Below w.heap.size w w' := by
  obtain ⟨l8, hsec⟩ := secsErr_zero hl
  obtain ⟨hn, hin⟩ := ssigErr_zero hx
  have HCS : Hid (∀ W, SCells W A1 l → Calls Tryd.prog 24 #[.slice A1 l.length c1] W fun r w' => r = .returned (.int .i64 (0)) ∧ Below W.heap.size W w') := Lib.hid (fun W q => by have := checkSections_any l A1 c1 W q (by omega); rwa [hl] at this)
  have HSG : Hid (∀ W, Cells W A xs → Calls Tryd.prog 25 #[.slice A xs.length c] W fun r w' => r = .returned (.int .i64 (0)) ∧ Below W.heap.size W w') := Lib.hid (fun W q => by have := sSignal_any xs A c W q (by omega); rwa [hx] at this)
  have HF2 : Hid (∀ (W : World), Calls Tryd.prog 23 #[.slice (some ⟨W.heap.size, 0, none⟩) 2 2] (W.alloc (.cells #[(.int .i64 (0)), (.int .i64 (0))] 35)) fun r w' => r = .returned (.int .i64 (0)) ∧ (W.alloc (.cells #[(.int .i64 (0)), (.int .i64 (0))] 35)) = w') := Lib.hid (fun W => sFirst_cells [0, 0] W (by simp))
  have HFR : Hid (∀ k, k < l.length → ∀ W B d, Cells W B (casc l xs k) → Calls Tryd.prog 26 #[(fun S : Sec => .agg #[(.int .i64 (S.b0)), (.int .i64 (S.b1)), (.int .i64 (S.b2)), (.int .i64 (S.a1)), (.int .i64 (S.a2)), (.int .i64 (S.sh))]) (l.getD k Sec0), .agg #[(.int .i64 (0)), (.int .i64 (0)), (.int .i64 (0)), (.int .i64 (0))], .slice B xs.length d] W fun r w' => (∃ B' d' sx, r = .returned (.tuple #[.slice B' xs.length d', .agg (encX sx)]) ∧ (∀ p, B' = some p → W.heap.size ≤ p.block ∧ Unf w' p.block) ∧ Cells w' B' (casc l xs (k + 1))) ∧ Below W.heap.size W w') := Lib.hid (fun k hk W B d q => by
    obtain ⟨g0, g1, g2, g3, g4, g5⟩ := secErr_zero (hsec k hk)
    have hlen := casc_len (l := l) xs k (by omega)
    have := from_any _ _ _ _ _ _ 0 0 0 0 (casc l xs k) B d W g0 g1 g2 g3 g4 g5 (by unfold okX bd15; simp) (casc_in hin k (by omega)) (by omega) q
    rw [hlen] at this
    refine this.mono ?_
    rintro r w' ⟨⟨B', d', rfl, h2, h3⟩, hb⟩
    refine ⟨⟨B', d', _, rfl, h2, ?_⟩, hb⟩
    rw [casc_succ _ hk, secOut, hlen]
    exact h3)
  have HS := Lib.hid hS
  have HC := Lib.hid hC
  have HC0 : Hid (casc l xs 0 = xs) := Lib.hid (by simp [casc])
  obtain ⟨N, hN⟩ : ∃ N, N = xs.length := ⟨_, rfl⟩
  have HN := Lib.hid hN
  obtain ⟨M, hM⟩ : ∃ M, M = l.length := ⟨_, rfl⟩
  have HM := Lib.hid hM
  have HMK : Hid (∀ W : World, Sem.run Tryd.prog (Instr.makeSlice 22 (.int .i64 (N)) (.int .i64 (N))) W = .ok (.slice (some ⟨W.heap.size, 0, none⟩) N N) (W.alloc (.cells (zerosA N).toArray 3))) := Lib.hid (fun W => mk_ints N (by omega) W)
  rw [← hN] at HSG HFR hn ⊢
  rw [← hM] at HCS HFR l8 ⊢
  clear hl hx hsec hin hN hM hS hC
  go_enter Tryd.func10, Tryd.ntmps10
  go_wp2_with (first
    | (go_at_call 24; refine (HCS.out _ HS.out).mono ?_; rintro r w1 ⟨rfl, hb1⟩; have HB1 := Lib.hid hb1; clear hb1)
    | (go_at_call 25; refine (HSG.out _ (HC.out.below HB1.out)).mono ?_; rintro r w2 ⟨rfl, hb2⟩; have HB2 := Lib.hid (HB1.out.trans (hb2.mono HB1.out.size)); clear hb2)
    | (go_at_call 23; refine (HF2.out _).mono ?_; rintro r w3 ⟨rfl, rfl⟩; have HB3 := Lib.hid (HB2.out.alloc HB2.out.size (.cells #[(.int .i64 (0)), (.int .i64 (0))] 35)); refine Hid.out ?_))
  obtain ⟨w3, hw3⟩ : ∃ w3, w3 = w2.alloc (.cells #[(.int .i64 (0)), (.int .i64 (0))] 35) := ⟨_, rfl⟩
  rw [← hw3] at HB3 ⊢
  have hmk := HMK.out w3
  clear hw3 HB1 HB2
  unfold Hid
  have hb3 : Below w.heap.size w (w3.alloc (.cells (zerosA N).toArray 3)) := HB3.out.alloc HB3.out.size _
  have hC3 := HC.out.below hb3
  have hcp := run_copyI (P := Tryd.prog) (w3.alloc (.cells (zerosA N).toArray 3)) 22 22 3 3 w3.heap.size A xs N N c (zerosA N).toArray 3 Tryd.underlying22 (by kernel_rfl) (by rw [← HN.out]; exact Nat.le_refl _) (heap_new rfl) (by simp [zerosA]) hC3
  rw [← HN.out] at hcp
  obtain ⟨w4, hw4⟩ : ∃ w4, w4 = (w3.alloc (.cells (zerosA N).toArray 3)).setRow w3.heap.size (xs.map (Value.int .i64) ++ (zerosA N).toArray.toList.drop N).toArray := ⟨_, rfl⟩
  rw [← hw4] at hcp
  have hz3 : w.heap.size ≤ w3.heap.size := HB3.out.size
  have HB4 : Hid (Below w.heap.size w w4) := Lib.hid (by rw [hw4]; exact below_setRow hb3 hz3 _)
  have HC4 : Hid (Cells w4 (some ⟨w3.heap.size, 0, none⟩) xs) := Lib.hid (by
    have h1 := setRow_heap (w3.alloc (.cells (zerosA N).toArray 3)) w3.heap.size (zerosA N).toArray (xs.map (Value.int .i64) ++ (zerosA N).toArray.toList.drop N).toArray 3 (0, 0) (heap_new rfl)
    rw [← hw4, List.drop_eq_nil_of_le (by simp [zerosA]), List.append_nil] at h1
    exact Cells.row h1)
  have HU4 : Hid (Unf w4 w3.heap.size) := Lib.hid (by
    have h1 := setRow_heap (w3.alloc (.cells (zerosA N).toArray 3)) w3.heap.size (zerosA N).toArray (xs.map (Value.int .i64) ++ (zerosA N).toArray.toList.drop N).toArray 3 (0, 0) (heap_new rfl)
    rw [← hw4] at h1
    exact ⟨(Array.getElem?_eq_some_iff.1 h1).1, fun i => by unfold World.frozen?; rw [h1]; simp⟩)
  have hz4 := HB4.out.size
  clear hw4 hb3 hC3
  go_wp2
  go_loopw [7, 27] (fun v i wr => ∃ (k : Nat) (B : Option Addr) (d : Nat), k ≤ M ∧ v = .slice B N d ∧ i = (.int .i64 ((k : Int))) ∧ (∀ p, B = some p → w.heap.size ≤ p.block ∧ Unf wr p.block) ∧ Cells wr B (casc l xs k) ∧ Below w.heap.size w wr) (fun _ i _ => M - (intOf i).toNat)
  case atStart => exact ⟨0, _, _, Nat.zero_le _, rfl, rfl, fun p e => by cases e; exact ⟨hz3, HU4.out⟩, by rw [HC0.out]; exact HC4.out, HB4.out⟩
  case round =>
    obtain ⟨k, B, d, hk, rfl, rfl, hf, hcc, hB⟩ := hrel
    have HCC := Lib.hid hcc
    have HFB := Lib.hid hf
    have hsz := hB.size
    clear hcc hf
    by_cases hlt : k < M
    · obtain ⟨b, o, rfl, l1, k1⟩ := HS.out (by rw [← HM.out]; omega)
      obtain ⟨q0, q1, q2, q3, q4, q5⟩ := k1 k (by rw [← HM.out]; exact hlt)
      have x0 := (hB.cell (p := ⟨b, o + k * 6, none⟩) l1).trans q0
      have x1 := (hB.cell (p := ⟨b, o + k * 6 + 1, none⟩) l1).trans q1
      have x2 := (hB.cell (p := ⟨b, o + k * 6 + 2, none⟩) l1).trans q2
      have x3 := (hB.cell (p := ⟨b, o + k * 6 + 3, none⟩) l1).trans q3
      have x4 := (hB.cell (p := ⟨b, o + k * 6 + 4, none⟩) l1).trans q4
      have x5 := (hB.cell (p := ⟨b, o + k * 6 + 5, none⟩) l1).trans q5
      have HF1 := Lib.hid (HFR.out k hlt)
      obtain ⟨S, hS⟩ : ∃ S, S = l.getD k Sec0 := ⟨_, rfl⟩
      rw [← hS] at x0 x1 x2 x3 x4 x5 HF1
      clear q0 q1 q2 q3 q4 q5 k1 hS
      go_wp2_with (go_at_call 26; refine (HF1.out _ _ _ (HCC.out.below ((Below.refl _ _).alloc (Nat.le_refl _) _))).mono ?_; rintro r w5 ⟨⟨B', d', sx, rfl, hf5, hc5⟩, hb5⟩; have HB5 := Lib.hid ((hB.alloc hsz _).trans (hb5.mono (by simp; omega))); have HC5 := Lib.hid hc5; have HF5 := Lib.hid hf5; clear hc5 hf5 hb5)
      go_roundw
      case rel => exact ⟨k + 1, _, _, by omega, rfl, by go_num, fun p e => by have := HF5.out p e; exact ⟨by have := this.1; simp at this; omega, this.2⟩, HC5.out, HB5.out⟩
      case measure => simp [intOf]; omega
    · obtain rfl : k = M := by omega
      go_wp2
      go_ret2
      exact ⟨⟨B, d, rfl, HFB.out, HCC.out⟩, hB⟩
end Go.Proofs.YtleemphfkhbhaaaDoor

/- Contracts of the references: First, CheckRange, SameInts, CheckInput, CheckValue, CheckSignal. -/
namespace Go.Proofs.YtleemphfkhbhaaaDoor
open Go.RowKit
open Calm (bcell Blk)

theorem qRange_any (n lo hi : Int) (w : World) : Calls Tryd.prog 20 #[(.int .i64 (n)), (.int .i64 (lo)), (.int .i64 (hi))] w fun r w' => r = .returned (.int .i64 (rangeErr n lo hi)) ∧ w = w' := by
  rcases Int.lt_or_le n lo with h | h
  · go_enter Tryd.func20, Tryd.ntmps20
    go_wp2
    go_ret
    exact ⟨ret_i (rangeErr_lo h).symm, rfl⟩
  · rcases Int.lt_or_le hi n with h' | h'
    · go_enter Tryd.func20, Tryd.ntmps20
      go_wp2
      go_ret
      exact ⟨ret_i (rangeErr_hi h').symm, rfl⟩
    · go_enter Tryd.func20, Tryd.ntmps20
      go_wp2
      go_ret
      exact ⟨ret_i (rangeErr_in (by omega) (by omega)).symm, rfl⟩
theorem tInput_any (n : Int) (w : World) : Calls Tryd.prog 11 #[(.int .i64 (n))] w fun r w' => r = .returned (.int .i64 (rangeErr n (-32767) 32767)) ∧ w = w' := by
  go_enter Tryd.func11, Tryd.ntmps11
  go_wp2_with (go_at_call 20; refine (qRange_any _ _ _ _).mono ?_; rintro r w' ⟨rfl, rfl⟩)
  go_ret
  exact ⟨rfl, rfl⟩
theorem pValue_any (n : Int) (w : World) : Calls Tryd.prog 29 #[(.int .i64 (n))] w fun r w' => r = .returned (.int .i64 (rangeErr n (-2048) 2048)) ∧ w = w' := by
  go_enter Tryd.func29, Tryd.ntmps29
  go_wp2_with (go_at_call 20; refine (qRange_any _ _ _ _).mono ?_; rintro r w' ⟨rfl, rfl⟩)
  go_ret
  exact ⟨rfl, rfl⟩
theorem qFirst_any (l : List Int) (A : Option Addr) (c : Nat) (w : World) (hl : l.length ≤ 5000) (hC : Cells w A l) :
    Calls Tryd.prog 19 #[.slice A l.length c] w fun r w' => r = .returned (.int .i64 (firstOf l)) ∧ w = w' := by
  go_enter Tryd.func19, Tryd.ntmps19
  go_wp2
  go_loop [3] (fun i => ∃ k : Nat, k ≤ l.length ∧ i = (.int .i64 (k)) ∧ ∀ j, j < k → l.getD j 0 = 0) (fun i => l.length - (intOf i).toNat)
  case atStart => exact ⟨0, Nat.zero_le _, rfl, fun j hj => by omega⟩
  case round =>
    obtain ⟨k, hk, rfl, hz⟩ := hrel
    have HZ := Lib.hid hz
    clear hz
    by_cases hlt : k < l.length
    · obtain ⟨b, off, rfl, hbl, hc⟩ := hC (by omega)
      have hck := hc k hlt
      clear hc hC
      by_cases h0 : l.getD k 0 = 0
      · rw [h0] at hck
        have H0 := Lib.hid h0
        clear h0
        go_wp2
        go_round
        case rel => exact ⟨k + 1, by omega, by go_num, fun j hj => by
          rcases Nat.lt_or_ge j k with hjk | hjk
          · exact HZ.out j hjk
          · obtain rfl : j = k := by omega
            exact H0.out⟩
        case measure => simp [intOf]; omega
      · obtain ⟨x, hx⟩ : ∃ x, x = l.getD k 0 := ⟨_, rfl⟩
        rw [← hx] at hck h0
        have H0 := Lib.hid hx
        clear hx
        go_wp2
        go_ret
        exact ⟨ret_i (by rw [firstOf_take HZ.out hlt (by rw [← H0.out]; exact h0)]; exact H0.out), rfl⟩
    · clear hC
      go_wp2
      go_ret
      exact ⟨ret_i (by rw [firstOf_zero (fun j hj => HZ.out j (by omega))]), rfl⟩
theorem tSignal_any (xs : List Int) (A : Option Addr) (c : Nat) (w : World) (hC : Cells w A xs) (hn : xs.length ≤ 5000) :
    Calls Tryd.prog 8 #[.slice A xs.length c] w fun r w' => r = .returned (.int .i64 (ssigErr xs)) ∧ w = w' := by
  have hm : ∀ k, k < (xs.map fun n => rangeErr n (-32767) 32767).length → (xs.map fun n => rangeErr n (-32767) 32767).getD k 0 = rangeErr (xs.getD k 0) (-32767) 32767 := fun k hk => by
    have hk' : k < xs.length := by simpa using hk
    simp [List.getD_eq_getElem?_getD, hk']
  have HM := Lib.hid hm
  have HL : Hid ((xs.map fun n => rangeErr n (-32767) 32767).length = xs.length) := Lib.hid (by simp)
  have HC := Lib.hid hC
  obtain ⟨R, hR⟩ : ∃ R, R = ssigErr xs := ⟨_, rfl⟩
  have HR : Hid (R = firstOf [if 4096 < xs.length then 5 else 0, eachErr xs (-32767) 32767]) := Lib.hid hR
  rw [← hR]
  obtain ⟨N, hN⟩ : ∃ N, N = xs.length := ⟨_, rfl⟩
  have HN := Lib.hid hN
  rw [← hN] at HL hn HR ⊢
  clear hC hR hN hm
  by_cases hb : 4096 < N
  · have hbi : (4096 : Int) < (N : Int) := by omega
    have HE : Hid (R = 5) := Lib.hid (by rw [HR.out, if_pos hb]; simp [firstOf])
    clear HR
    go_enter Tryd.func8, Tryd.ntmps8
    go_wp2
    go_ret
    exact ⟨ret_i HE.out.symm, rfl⟩
  · have hbi : ¬ (4096 : Int) < (N : Int) := by omega
    have HE : Hid (R = eachErr xs (-32767) 32767) := Lib.hid (by rw [HR.out, if_neg hb]; by_cases h0 : eachErr xs (-32767) 32767 = 0 <;> simp [firstOf, h0])
    clear HR
    go_enter Tryd.func8, Tryd.ntmps8
    go_wp2
    go_loop [3, 4] (fun i _ => ∃ k : Nat, k ≤ N ∧ i = (.int .i64 (k)) ∧ ∀ j, j < k → (xs.map fun n => rangeErr n (-32767) 32767).getD j 0 = 0) (fun i _ => N - (intOf i).toNat)
    case atStart => exact ⟨0, Nat.zero_le _, rfl, fun j hj => by omega⟩
    case round =>
      obtain ⟨k, hk, rfl, hz⟩ := hrel
      have HZ := Lib.hid hz
      clear hz
      by_cases hlt : k < N
      · obtain ⟨b, off, rfl, hbl, hc⟩ := HC.out (by rw [← HN.out]; omega)
        have hck := hc k (by rw [← HN.out]; exact hlt)
        have HG := Lib.hid (HM.out k (by rw [HL.out]; exact hlt))
        clear hc
        obtain ⟨x, hx⟩ : ∃ x, x = xs.getD k 0 := ⟨_, rfl⟩
        rw [← hx] at hck HG
        clear hx
        by_cases h0 : rangeErr x (-32767) 32767 = 0
        · have H0 := Lib.hid h0
          clear h0
          go_wp2_with (go_at_call 11; refine (tInput_any _ _).mono ?_; rw [H0.out]; rintro r w' ⟨rfl, rfl⟩)
          go_round
          case rel => exact ⟨k + 1, by omega, by go_num, fun j hj => by
            rcases Nat.lt_or_ge j k with hjk | hjk
            · exact HZ.out j hjk
            · obtain rfl : j = k := by omega
              rw [HG.out]; exact H0.out⟩
          case measure => simp [intOf]; omega
        · obtain ⟨e, he⟩ : ∃ e, e = rangeErr x (-32767) 32767 := ⟨_, rfl⟩
          rw [← he] at h0 HG
          have H1 := Lib.hid he
          clear he
          go_wp2_with (go_at_call 11; refine (tInput_any _ _).mono ?_; rw [← H1.out]; rintro r w' ⟨rfl, rfl⟩)
          go_ret
          exact ⟨ret_i (by rw [HE.out]; unfold eachErr; rw [firstOf_take HZ.out (by rw [HL.out]; exact hlt) (by rw [HG.out]; exact h0), HG.out]), rfl⟩
      · go_wp2
        go_ret
        exact ⟨ret_i (by rw [HE.out]; unfold eachErr; rw [firstOf_zero (fun j hj => HZ.out j (by rw [HL.out] at hj; omega))]), rfl⟩
theorem pSignal_any (xs : List Int) (A : Option Addr) (c : Nat) (w : World) (hC : Cells w A xs) (hn : xs.length ≤ 5000) :
    Calls Tryd.prog 14 #[.slice A xs.length c] w fun r w' => r = .returned (.int .i64 (sigErr xs)) ∧ w = w' := by
  have hm : ∀ k, k < (xs.map fun n => rangeErr n (-2048) 2048).length → (xs.map fun n => rangeErr n (-2048) 2048).getD k 0 = rangeErr (xs.getD k 0) (-2048) 2048 := fun k hk => by
    have hk' : k < xs.length := by simpa using hk
    simp [List.getD_eq_getElem?_getD, hk']
  have HM := Lib.hid hm
  have HL : Hid ((xs.map fun n => rangeErr n (-2048) 2048).length = xs.length) := Lib.hid (by simp)
  have HC := Lib.hid hC
  obtain ⟨R, hR⟩ : ∃ R, R = sigErr xs := ⟨_, rfl⟩
  have HR : Hid (R = firstOf [if 4096 < xs.length then 5 else 0, eachErr xs (-2048) 2048]) := Lib.hid hR
  rw [← hR]
  obtain ⟨N, hN⟩ : ∃ N, N = xs.length := ⟨_, rfl⟩
  have HN := Lib.hid hN
  rw [← hN] at HL hn HR ⊢
  clear hC hR hN hm
  by_cases hb : 4096 < N
  · have hbi : (4096 : Int) < (N : Int) := by omega
    have HE : Hid (R = 5) := Lib.hid (by rw [HR.out, if_pos hb]; simp [firstOf])
    clear HR
    go_enter Tryd.func14, Tryd.ntmps14
    go_wp2
    go_ret
    exact ⟨ret_i HE.out.symm, rfl⟩
  · have hbi : ¬ (4096 : Int) < (N : Int) := by omega
    have HE : Hid (R = eachErr xs (-2048) 2048) := Lib.hid (by rw [HR.out, if_neg hb]; by_cases h0 : eachErr xs (-2048) 2048 = 0 <;> simp [firstOf, h0])
    clear HR
    go_enter Tryd.func14, Tryd.ntmps14
    go_wp2
    go_loop [3, 4] (fun i _ => ∃ k : Nat, k ≤ N ∧ i = (.int .i64 (k)) ∧ ∀ j, j < k → (xs.map fun n => rangeErr n (-2048) 2048).getD j 0 = 0) (fun i _ => N - (intOf i).toNat)
    case atStart => exact ⟨0, Nat.zero_le _, rfl, fun j hj => by omega⟩
    case round =>
      obtain ⟨k, hk, rfl, hz⟩ := hrel
      have HZ := Lib.hid hz
      clear hz
      by_cases hlt : k < N
      · obtain ⟨b, off, rfl, hbl, hc⟩ := HC.out (by rw [← HN.out]; omega)
        have hck := hc k (by rw [← HN.out]; exact hlt)
        have HG := Lib.hid (HM.out k (by rw [HL.out]; exact hlt))
        clear hc
        obtain ⟨x, hx⟩ : ∃ x, x = xs.getD k 0 := ⟨_, rfl⟩
        rw [← hx] at hck HG
        clear hx
        by_cases h0 : rangeErr x (-2048) 2048 = 0
        · have H0 := Lib.hid h0
          clear h0
          go_wp2_with (go_at_call 29; refine (pValue_any _ _).mono ?_; rw [H0.out]; rintro r w' ⟨rfl, rfl⟩)
          go_round
          case rel => exact ⟨k + 1, by omega, by go_num, fun j hj => by
            rcases Nat.lt_or_ge j k with hjk | hjk
            · exact HZ.out j hjk
            · obtain rfl : j = k := by omega
              rw [HG.out]; exact H0.out⟩
          case measure => simp [intOf]; omega
        · obtain ⟨e, he⟩ : ∃ e, e = rangeErr x (-2048) 2048 := ⟨_, rfl⟩
          rw [← he] at h0 HG
          have H1 := Lib.hid he
          clear he
          go_wp2_with (go_at_call 29; refine (pValue_any _ _).mono ?_; rw [← H1.out]; rintro r w' ⟨rfl, rfl⟩)
          go_ret
          exact ⟨ret_i (by rw [HE.out]; unfold eachErr; rw [firstOf_take HZ.out (by rw [HL.out]; exact hlt) (by rw [HG.out]; exact h0), HG.out]), rfl⟩
      · go_wp2
        go_ret
        exact ⟨ret_i (by rw [HE.out]; unfold eachErr; rw [firstOf_zero (fun j hj => HZ.out j (by rw [HL.out] at hj; omega))]), rfl⟩
set_option maxRecDepth 100000 in
set_option maxHeartbeats 4000000 in
theorem sameInts_any (A B : Option Addr) (a b : List Int) (ca cb : Nat) (w : World) (hA : Cells w A a) (hB : Cells w B b) (h1 : a.length ≤ 100000) (h2 : b.length ≤ 100000) :
    Calls Tryd.prog 22 #[.slice A a.length ca, .slice B b.length cb] w fun x w' => x = .returned (.bool (decide (a = b))) ∧ Below w.heap.size w w' := by
  obtain ⟨E, hE⟩ : ∃ E, E = decide (a = b) := ⟨_, rfl⟩
  have HE := Lib.hid hE
  have HCA := Lib.hid hA
  have HCB := Lib.hid hB
  obtain ⟨N, hN⟩ : ∃ N, N = a.length := ⟨_, rfl⟩
  obtain ⟨M, hM⟩ : ∃ M, M = b.length := ⟨_, rfl⟩
  have HN := Lib.hid hN
  have HM := Lib.hid hM
  rw [← hE]
  rw [← hN] at h1 ⊢
  rw [← hM] at h2 ⊢
  clear hE hA hB hN hM
  by_cases hnm : N = M
  · have HNM := Lib.hid hnm
    subst hnm
    go_enter Tryd.func22, Tryd.ntmps22
    go_wp2
    go_loopw [5] (fun i wr => ∃ k : Nat, k ≤ N ∧ i = (.int .i64 ((k : Nat))) ∧ (∀ j, j < k → a.getD j 0 = b.getD j 0) ∧ Below w.heap.size w wr) (fun i _ => N - (intOf i).toNat)
    case atStart => exact ⟨0, by omega, rfl, fun j hj => by omega, Below.refl _ _⟩
    case round =>
      obtain ⟨k, hk, rfl, hz, hBr⟩ := hrel
      have HZ := Lib.hid hz
      have HBR := Lib.hid hBr
      have hszr := hBr.size
      clear hz hBr
      by_cases hlt : k < N
      · have l1 : k < a.length := by rw [← HN.out]; exact hlt
        have l2 : k < b.length := by rw [← HM.out]; exact hlt
        obtain ⟨g, o, rfl, q1, k1⟩ := (HCA.out.below HBR.out) (by omega)
        obtain ⟨g', o', rfl, q2, k2⟩ := (HCB.out.below HBR.out) (by omega)
        have y1 := k1 k l1
        have y2 := k2 k l2
        obtain ⟨x, hx⟩ : ∃ x, x = a.getD k 0 := ⟨_, rfl⟩
        obtain ⟨y, hy⟩ : ∃ y, y = b.getD k 0 := ⟨_, rfl⟩
        rw [← hx] at y1
        rw [← hy] at y2
        have HX := Lib.hid hx
        have HY := Lib.hid hy
        clear k1 k2 hx hy l1 l2
        by_cases hxy : x = y
        · subst hxy
          go_wp2
          refine Calm.tail_below 8 (by kernel_rfl) (by kernel_rfl) ?_
          simp only [List.take_succ_cons, List.take_zero, List.drop_succ_cons, List.drop_zero]
          repeat (first | (apply Calm.op_move; (focus rfl); (focus (first | exact .inl rfl | exact .inr rfl)); (focus ((try simp only [Act.eval, Array.getD_eq_getD_getElem?, List.getElem?_toArray, List.getElem?_cons_succ, List.getElem?_cons_zero, Option.getD_some]); rfl)); (try simp only [Act.put, List.setIfInBounds_toArray, List.set_cons_zero, List.set_cons_succ])) | (apply Calm.op_not; (focus rfl); (try simp only [Act.put, List.setIfInBounds_toArray, List.set_cons_zero, List.set_cons_succ])) | (apply Calm.op; (focus rfl); (focus (intro W hb; obtain ⟨hc, hf⟩ := bcell hb; clear hb hf; go_simp; (try go_bits); (try rfl); done)); (try simp only [Act.put, List.setIfInBounds_toArray, List.set_cons_zero, List.set_cons_succ])))
          refine wpQuiet_nil ?_
          intro w2 hb2
          obtain ⟨hb2c, hb2f⟩ := bcell hb2
          have hb2z := hb2.size
          (try simp at hb2z)
          (try have hb2z0 : w.heap.size < w2.heap.size := by omega)
          (try have hb2z1 : w.heap.size + 1 < w2.heap.size := by omega)
          (try have hb2z2 : w.heap.size + 1 + 1 < w2.heap.size := by omega)
          (try have hb2z3 : w.heap.size + 1 + 1 + 1 < w2.heap.size := by omega)
          (try have hb2z4 : w.heap.size + 1 + 1 + 1 + 1 < w2.heap.size := by omega)
          (try have hb2z5 : w.heap.size + 1 + 1 + 1 + 1 + 1 < w2.heap.size := by omega)
          go_wp2
          go_roundw
          case rel =>
            refine ⟨k + 1, by omega, by go_num, fun j hj => ?_, HBR.out.trans (hb2.mono hszr)⟩
            rcases Nat.lt_or_ge j k with h | h
            · exact HZ.out j h
            · obtain rfl : j = k := by omega
              rw [← HX.out, ← HY.out]
          case measure => simp [intOf]; omega
        · have HEE := Lib.hid (show E = false by
            rw [HE.out]
            refine decide_eq_false (fun e => hxy ?_)
            rw [HX.out, HY.out, e])
          go_wp2
          refine Calm.tail_below 8 (by kernel_rfl) (by kernel_rfl) ?_
          simp only [List.take_succ_cons, List.take_zero, List.drop_succ_cons, List.drop_zero]
          repeat (first | (apply Calm.op_move; (focus rfl); (focus (first | exact .inl rfl | exact .inr rfl)); (focus ((try simp only [Act.eval, Array.getD_eq_getD_getElem?, List.getElem?_toArray, List.getElem?_cons_succ, List.getElem?_cons_zero, Option.getD_some]); rfl)); (try simp only [Act.put, List.setIfInBounds_toArray, List.set_cons_zero, List.set_cons_succ])) | (apply Calm.op_not; (focus rfl); (try simp only [Act.put, List.setIfInBounds_toArray, List.set_cons_zero, List.set_cons_succ])) | (apply Calm.op; (focus rfl); (focus (intro W hb; obtain ⟨hc, hf⟩ := bcell hb; clear hb hf; go_simp; (try go_bits); (try rfl); done)); (try simp only [Act.put, List.setIfInBounds_toArray, List.set_cons_zero, List.set_cons_succ])))
          refine wpQuiet_nil ?_
          intro w2 hb2
          obtain ⟨hb2c, hb2f⟩ := bcell hb2
          have hb2z := hb2.size
          (try simp at hb2z)
          (try have hb2z0 : w.heap.size < w2.heap.size := by omega)
          (try have hb2z1 : w.heap.size + 1 < w2.heap.size := by omega)
          (try have hb2z2 : w.heap.size + 1 + 1 < w2.heap.size := by omega)
          (try have hb2z3 : w.heap.size + 1 + 1 + 1 < w2.heap.size := by omega)
          (try have hb2z4 : w.heap.size + 1 + 1 + 1 + 1 < w2.heap.size := by omega)
          (try have hb2z5 : w.heap.size + 1 + 1 + 1 + 1 + 1 < w2.heap.size := by omega)
          go_wp2
          go_ret
          exact ⟨by rw [HEE.out]; rfl, HBR.out.trans (hb2.mono hszr)⟩
      · obtain rfl : k = N := by omega
        have HEE := Lib.hid (show E = true by
          rw [HE.out]
          refine decide_eq_true (List.ext_getElem? fun i => ?_)
          have hl : a.length = b.length := HN.out.symm.trans HM.out
          rcases Nat.lt_or_ge i a.length with h | h
          · have := HZ.out i (by rw [HN.out]; exact h)
            simpa [h, show i < b.length by omega] using this
          · rw [List.getElem?_eq_none h, List.getElem?_eq_none (by omega)])
        go_wp2
        go_ret
        exact ⟨by rw [HEE.out]; rfl, HBR.out⟩
  · have HEE := Lib.hid (show E = false by
      rw [HE.out]
      refine decide_eq_false (fun e => hnm ?_)
      rw [HN.out, HM.out, e])
    have hnm2 : ¬ (N : Int) = (M : Int) := by omega
    go_enter Tryd.func22, Tryd.ntmps22
    go_wp2
    go_ret
    exact ⟨by rw [HEE.out]; rfl, Below.refl _ _⟩
end Go.Proofs.YtleemphfkhbhaaaDoor

/- Contracts of the reference's numbers, CheckSection, CheckSections. -/
namespace Go.Proofs.YtleemphfkhbhaaaDoor
open Go.RowKit
open Calm (bcell Blk)

theorem first0 (e : Int) : firstOf [0, e] = e := by by_cases h0 : e = 0 <;> simp [firstOf, h0]
theorem tNumbers_any (b0 b1 b2 a1 a2 sh : Int) (w : World) : Calls Tryd.prog 43 #[.agg #[(.int .i64 (b0)), (.int .i64 (b1)), (.int .i64 (b2)), (.int .i64 (a1)), (.int .i64 (a2)), (.int .i64 (sh))]] w fun r w' => (∃ B, r = .returned (.slice B 6 6) ∧ Cells w' B [b0, b1, b2, a1, a2, sh]) ∧ Below w.heap.size w w' := by
  go_enter Tryd.func43, Tryd.ntmps43
  go_wp2
  go_ret
  exact ⟨⟨_, rfl, Cells.row (zs := [b0, b1, b2, a1, a2, sh]) (heap_new (by simp))⟩, by (repeat (first | (with_reducible exact Below.refl _ _) | ((with_reducible refine Below.setCell ?_ ?_ _); rotate_left 1; focus (first | (simp; done) | (simp; omega) | (simp at *; omega))) | ((with_reducible refine Below.alloc ?_ ?_ _); rotate_left 1; focus (first | (simp; done) | (simp; omega) | (simp at *; omega))) | (with_reducible refine Below.drew ?_) | ((with_reducible refine Calm.step (by assumption) ?_ ?_); rotate_left 1; focus (first | (simp; done) | (simp; omega) | (simp at *; omega)))))⟩
set_option maxHeartbeats 1000000 in
theorem tSection_any (b0 b1 b2 a1 a2 sh : Int) (w : World) : Calls Tryd.prog 21 #[.agg #[(.int .i64 (b0)), (.int .i64 (b1)), (.int .i64 (b2)), (.int .i64 (a1)), (.int .i64 (a2)), (.int .i64 (sh))]] w fun r w' => r = .returned (.int .i64 (secErr b0 b1 b2 a1 a2 sh)) ∧ Below w.heap.size w w' := by
  have HG : Hid (∀ k, k < 5 → ([b0, b1, b2, a1, a2].map fun n => rangeErr n (-32767) 32767).getD k 0 = rangeErr ([b0, b1, b2, a1, a2, sh].getD k 0) (-32767) 32767) := Lib.hid (fun k hk => by
    match k, hk with
    | 0, _ => rfl
    | 1, _ => rfl
    | 2, _ => rfl
    | 3, _ => rfl
    | 4, _ => rfl
    | k + 5, h => omega)
  have HL : Hid (([b0, b1, b2, a1, a2].map fun n => rangeErr n (-32767) 32767).length = 5) := Lib.hid rfl
  obtain ⟨L, hL⟩ : ∃ L, L = [b0, b1, b2, a1, a2].map fun n => rangeErr n (-32767) 32767 := ⟨_, rfl⟩
  obtain ⟨R, hR⟩ : ∃ R, R = secErr b0 b1 b2 a1 a2 sh := ⟨_, rfl⟩
  have HR : Hid (R = firstOf [firstOf L, rangeErr sh 0 15]) := Lib.hid (by rw [hR, hL]; rfl)
  rw [← hL] at HG HL
  rw [← hR]
  have HN : Hid (∀ W, Calls Tryd.prog 43 #[.agg #[(.int .i64 (b0)), (.int .i64 (b1)), (.int .i64 (b2)), (.int .i64 (a1)), (.int .i64 (a2)), (.int .i64 (sh))]] W fun r w' => (∃ B, r = .returned (.slice B 6 6) ∧ Cells w' B [b0, b1, b2, a1, a2, sh]) ∧ Below W.heap.size W w') := Lib.hid (tNumbers_any b0 b1 b2 a1 a2 sh)
  have H6 : Hid ([b0, b1, b2, a1, a2, sh].length = 6) := Lib.hid rfl
  obtain ⟨L6, hL6⟩ : ∃ L6, L6 = [b0, b1, b2, a1, a2, sh] := ⟨_, rfl⟩
  rw [← hL6] at HG HN H6
  clear hL hR hL6
  go_enter Tryd.func21, Tryd.ntmps21
  go_wp2_with (go_at_call 43; refine (HN.out _).mono ?_; rintro r w1 ⟨⟨B, rfl, hc1⟩, hb1⟩; have HC1 := Lib.hid hc1; have HB1 := Lib.hid (show Below w.heap.size w w1 from Below.trans (by (repeat (first | (with_reducible exact Below.refl _ _) | ((with_reducible refine Below.setCell ?_ ?_ _); rotate_left 1; focus (first | (simp; done) | (simp; omega) | (simp at *; omega))) | ((with_reducible refine Below.alloc ?_ ?_ _); rotate_left 1; focus (first | (simp; done) | (simp; omega) | (simp at *; omega))) | (with_reducible refine Below.drew ?_) | ((with_reducible refine Calm.step (by assumption) ?_ ?_); rotate_left 1; focus (first | (simp; done) | (simp; omega) | (simp at *; omega)))))) (hb1.mono (by simp))); have K1 : Blk w1 w.heap.size #[(.int .i64 (b0)), (.int .i64 (b1)), (.int .i64 (b2)), (.int .i64 (a1)), (.int .i64 (a2)), (.int .i64 (sh))] := Blk.below (by (repeat (first | ((with_reducible refine Blk.at_ ?_); focus (first | rfl | (simp; done) | (simp; omega))) | (with_reducible refine Blk.alloc ?_ _) | (with_reducible refine Blk.below ?_ (by with_reducible assumption)) | (with_reducible refine Blk.drew ?_)))) hb1; obtain ⟨c0, c1, c2, c3, c4, c5, cl, cf⟩ := K1.o6; clear K1 hb1 hc1)
  go_loop [4, 5] (fun i _ => ∃ k : Nat, k ≤ 5 ∧ i = (.int .i64 (k)) ∧ ∀ j, j < k → L.getD j 0 = 0) (fun i _ => 5 - (intOf i).toNat)
  case atStart => exact ⟨0, Nat.zero_le _, rfl, fun j hj => by omega⟩
  case round =>
    obtain ⟨k, hk, rfl, hz⟩ := hrel
    have HZ := Lib.hid hz
    clear hz
    by_cases hlt : k < 5
    · obtain ⟨b, off, rfl, hbl, hc⟩ := HC1.out (by rw [H6.out]; omega)
      have hck := hc k (by rw [H6.out]; omega)
      have HG1 := Lib.hid (HG.out k hlt)
      clear hc
      obtain ⟨x, hx⟩ : ∃ x, x = L6.getD k 0 := ⟨_, rfl⟩
      rw [← hx] at hck HG1
      clear hx
      by_cases h0 : rangeErr x (-32767) 32767 = 0
      · have H0 := Lib.hid h0
        clear h0
        go_wp2_with (go_at_call 20; refine (qRange_any _ _ _ _).mono ?_; rw [H0.out]; rintro r w' ⟨rfl, rfl⟩)
        go_round
        case rel => exact ⟨k + 1, by omega, by go_num, fun j hj => by
          rcases Nat.lt_or_ge j k with hjk | hjk
          · exact HZ.out j hjk
          · obtain rfl : j = k := by omega
            rw [HG1.out]; exact H0.out⟩
        case measure => simp [intOf]; omega
      · obtain ⟨e, he⟩ : ∃ e, e = rangeErr x (-32767) 32767 := ⟨_, rfl⟩
        rw [← he] at h0 HG1
        have H1 := Lib.hid he
        have H2 := Lib.hid h0
        clear he
        go_wp2_with (go_at_call 20; refine (qRange_any _ _ _ _).mono ?_; rw [← H1.out]; rintro r w' ⟨rfl, rfl⟩)
        go_ret
        exact ⟨ret_i (by
          have h3 : firstOf L = e := by rw [firstOf_take HZ.out (by rw [HL.out]; exact hlt) (by rw [HG1.out]; exact H2.out), HG1.out]
          rw [HR.out, h3]; simp [firstOf, H2.out]), HB1.out⟩
    · have h5 : k = 5 := by omega
      subst h5
      have H3 : Hid (firstOf L = 0) := Lib.hid (firstOf_zero (fun j hj => HZ.out j (by rw [HL.out] at hj; omega)))
      go_wp2_with (go_at_call 20; refine (qRange_any _ _ _ _).mono ?_; rintro r w' ⟨rfl, rfl⟩)
      go_ret
      exact ⟨ret_i (by rw [HR.out, H3.out]; by_cases h0 : rangeErr sh 0 15 = 0 <;> simp [firstOf, h0]), HB1.out⟩
set_option maxHeartbeats 1000000 in
theorem tSections_any (l : List Sec) (A : Option Addr) (c : Nat) (w : World) (hC : SCells w A l) (hn : l.length ≤ 5000) :
    Calls Tryd.prog 7 #[.slice A l.length c] w fun r w' => r = .returned (.int .i64 (secsErr l)) ∧ Below w.heap.size w w' := by
  have hm : ∀ k, k < (l.map secE).length → (l.map secE).getD k 0 = secE (l.getD k Sec0) := fun k hk => by
    have hk' : k < l.length := by simpa using hk
    simp [List.getD_eq_getElem?_getD, hk']
  have HM := Lib.hid hm
  have HL : Hid ((l.map secE).length = l.length) := Lib.hid (by simp)
  have HC := Lib.hid hC
  obtain ⟨R, hR⟩ : ∃ R, R = secsErr l := ⟨_, rfl⟩
  have HR : Hid (R = firstOf [if 8 < l.length then 5 else 0, firstOf (l.map secE)]) := Lib.hid hR
  rw [← hR]
  obtain ⟨N, hN⟩ : ∃ N, N = l.length := ⟨_, rfl⟩
  have HN := Lib.hid hN
  rw [← hN] at HL hn HR ⊢
  clear hC hR hN hm
  by_cases hb : 8 < N
  · have hbi : (8 : Int) < (N : Int) := by omega
    have HE : Hid (R = 5) := Lib.hid (by rw [HR.out, if_pos hb]; simp [firstOf])
    clear HR
    go_enter Tryd.func7, Tryd.ntmps7
    go_wp2
    go_ret
    exact ⟨ret_i HE.out.symm, Below.refl _ _⟩
  · have hbi : ¬ (8 : Int) < (N : Int) := by omega
    have HE : Hid (R = firstOf (l.map secE)) := Lib.hid (by rw [HR.out, if_neg hb, first0])
    clear HR
    go_enter Tryd.func7, Tryd.ntmps7
    go_wp2
    go_loopw [3, 4] (fun i _ wr => ∃ k : Nat, k ≤ N ∧ i = (.int .i64 ((k : Nat))) ∧ (∀ j, j < k → (l.map secE).getD j 0 = 0) ∧ Below w.heap.size w wr) (fun i _ _ => N - (intOf i).toNat)
    case atStart => exact ⟨0, Nat.zero_le _, rfl, fun j hj => by omega, Below.refl _ _⟩
    case round =>
      obtain ⟨k, hk, rfl, hz, hB⟩ := hrel
      have HZ := Lib.hid hz
      have hsz := hB.size
      clear hz
      by_cases hlt : k < N
      · obtain ⟨b, o, rfl, l1, k1⟩ := HC.out (by rw [← HN.out]; omega)
        obtain ⟨q0, q1, q2, q3, q4, q5⟩ := k1 k (by rw [← HN.out]; exact hlt)
        have x0 := (hB.cell (p := ⟨b, o + k * 6, none⟩) l1).trans q0
        have x1 := (hB.cell (p := ⟨b, o + k * 6 + 1, none⟩) l1).trans q1
        have x2 := (hB.cell (p := ⟨b, o + k * 6 + 2, none⟩) l1).trans q2
        have x3 := (hB.cell (p := ⟨b, o + k * 6 + 3, none⟩) l1).trans q3
        have x4 := (hB.cell (p := ⟨b, o + k * 6 + 4, none⟩) l1).trans q4
        have x5 := (hB.cell (p := ⟨b, o + k * 6 + 5, none⟩) l1).trans q5
        have HG := Lib.hid (HM.out k (by rw [HL.out]; exact hlt))
        obtain ⟨s, hS⟩ : ∃ S, S = l.getD k Sec0 := ⟨_, rfl⟩
        rw [← hS] at x0 x1 x2 x3 x4 x5 HG
        have HCK : Hid (∀ W, Calls Tryd.prog 21 #[.agg #[(.int .i64 (s.b0)), (.int .i64 (s.b1)), (.int .i64 (s.b2)), (.int .i64 (s.a1)), (.int .i64 (s.a2)), (.int .i64 (s.sh))]] W fun r w' => r = .returned (.int .i64 (secE s)) ∧ Below W.heap.size W w') := Lib.hid (fun W => tSection_any _ _ _ _ _ _ W)
        clear q0 q1 q2 q3 q4 q5 k1 hS
        by_cases h0 : secE s = 0
        · have H0 := Lib.hid h0
          rw [h0] at HCK
          clear h0
          go_wp2_with (go_at_call 21; refine (HCK.out _).mono ?_; rintro r w2 ⟨rfl, hb2⟩; have HB2 := Lib.hid (hB.trans (hb2.mono hsz)); clear hb2)
          go_roundw
          case rel => exact ⟨k + 1, by omega, by go_num, fun j hj => by
            rcases Nat.lt_or_ge j k with hjk | hjk
            · exact HZ.out j hjk
            · obtain rfl : j = k := by omega
              rw [HG.out]; exact H0.out, HB2.out⟩
          case measure => simp [intOf]; omega
        · obtain ⟨e, he⟩ : ∃ e, e = secE s := ⟨_, rfl⟩
          rw [← he] at h0 HG HCK
          clear he
          have H2 := Lib.hid h0
          go_wp2_with (go_at_call 21; refine (HCK.out _).mono ?_; rintro r w2 ⟨rfl, hb2⟩; have HB2 := Lib.hid (hB.trans (hb2.mono hsz)); clear hb2)
          go_ret
          exact ⟨ret_i (by rw [HE.out, firstOf_take HZ.out (by rw [HL.out]; exact hlt) (by rw [HG.out]; exact H2.out), HG.out]), HB2.out⟩
      · go_wp2
        go_ret
        exact ⟨ret_i (by rw [HE.out, firstOf_zero (fun j hj => HZ.out j (by rw [HL.out] at hj; omega))]), hB⟩
end Go.Proofs.YtleemphfkhbhaaaDoor
