/- Part 2 of the texts of the claim: A3. -/
import Derived.Test.YtpkldjlljoledaaDoorNx1

/- Contracts of package driver's quotients, for numbers in their ranges. -/
namespace Go.Proofs.YtpkldjlljoledaaDoor
open Go.RowKit
open Calm (bcell)

/-- the numbers of a driver (its stiffness may have that of a box besides) and a frequency are in their ranges. -/
structure Fit (re le bl ma st lo w : Int) : Prop where
  re : 1 ≤ re ∧ re ≤ 50
  le : 0 ≤ le ∧ le ≤ 10
  bl : 1 ≤ bl ∧ bl ≤ 20
  ma : 1 ≤ ma ∧ ma ≤ 100
  st : 1 ≤ st ∧ st ≤ 10000
  lo : 1 ≤ lo ∧ lo ≤ 100
  w : 1 ≤ w ∧ w ≤ 8

theorem mRe_bd {st ma w : Int} (h1 : 0 ≤ st ∧ st ≤ 10000) (h2 : 1 ≤ ma ∧ ma ≤ 100) (h3 : 1 ≤ w ∧ w ≤ 8) : Bd 20000 (mRe st ma w) := by
  have q : Bd 8 w := ⟨by omega, by omega⟩
  have q2 : Bd 100 ma := ⟨by omega, by omega⟩
  obtain ⟨e1, e2⟩ := (q.mul q (by omega)).mul q2 (by omega)
  unfold mRe
  constructor <;> omega
theorem mIm_bd {lo w : Int} (h2 : 1 ≤ lo ∧ lo ≤ 100) (h3 : 1 ≤ w ∧ w ≤ 8) : Bd 20000 (mIm lo w) := by
  have q : Bd 8 w := ⟨by omega, by omega⟩
  have q2 : Bd 100 lo := ⟨by omega, by omega⟩
  obtain ⟨e1, e2⟩ := q.mul q2 (by omega)
  unfold mIm
  constructor <;> omega
theorem eRe_bd {re le bl a b c d w M : Int} (h1 : 1 ≤ re ∧ re ≤ 50) (h2 : 0 ≤ le ∧ le ≤ 10) (h3 : 1 ≤ bl ∧ bl ≤ 20) (hw : 1 ≤ w ∧ w ≤ 8) (ha : Bd M a) (hb : Bd M b) (hc : Bd M c) (hd : Bd M d) (hM : 0 ≤ M) :
    Bd (6560 * M) (eRe re le bl a b c d w) ∧ Bd (6560 * M) (eIm re le bl a b c d w) := by
  have q : Bd 8 w := ⟨by omega, by omega⟩
  have q2 : Bd 10 le := ⟨by omega, by omega⟩
  have q3 : Bd 20 bl := ⟨by omega, by omega⟩
  have p1 := q.mul q2 (by omega)
  have p2 := (q.mul q3 (by omega)).mul q3 (by omega)
  have p0 : Bd 80 re := ⟨by omega, by omega⟩
  have p1' : Bd 80 (w * le) := ⟨by have := p1.1; omega, by have := p1.2; omega⟩
  have p2' : Bd 3200 (w * bl * bl) := ⟨by have := p2.1; omega, by have := p2.2; omega⟩
  have z0 : Bd 3200 0 := ⟨by omega, by omega⟩
  have t1 := tRe_bd p0 p1' ha hb (by omega)
  have t2 := tIm_bd p0 p1' ha hb (by omega)
  have t3 := tRe_bd z0 p2' hc hd (by omega)
  have t4 := tIm_bd z0 p2' hc hd (by omega)
  unfold Bd at *
  unfold eRe eIm pl
  omega

theorem mechanics_any (re le bl ma st lo w0 : Int) (w : World) (hF : Fit re le bl ma st lo w0) :
    Calls Tryd.prog 73 #[.agg #[(.int .i64 (re)), (.int .i64 (le)), (.int .i64 (bl)), (.int .i64 (ma)), (.int .i64 (st)), (.int .i64 (lo))], (.int .i64 (w0))] w fun r w' => r = .returned (.agg #[(.int .i64 (mRe st ma w0)), (.int .i64 (mIm lo w0))]) ∧ Below w.heap.size w w' := by
  obtain ⟨⟨g1, g2⟩, ⟨g3, g4⟩, ⟨g5, g6⟩, ⟨g7, g8⟩, ⟨g9, g10⟩, ⟨g11, g12⟩, ⟨g13, g14⟩⟩ := hF
  go_enter Tryd.func73, Tryd.ntmps73
  go_wp2_with (first | (go_at_call 108; refine (swing_any _ _ _ _ _ ⟨by omega, by omega⟩ ⟨by omega, by omega⟩ ⟨by omega, by omega⟩ ⟨by omega, by omega⟩).mono ?_; rintro r w1 ⟨rfl, hb⟩; obtain ⟨hc, hf⟩ := bcell hb; have hz := hb.size; (try simp at hz); (try have hz0 : w.heap.size < w1.heap.size := by omega); (try have hz1 : w.heap.size + 1 < w1.heap.size := by omega); (try have hz2 : w.heap.size + 1 + 1 < w1.heap.size := by omega); (try have hz3 : w.heap.size + 1 + 1 + 1 < w1.heap.size := by omega); (try have hz4 : w.heap.size + 1 + 1 + 1 + 1 < w1.heap.size := by omega); (try have hz5 : w.heap.size + 1 + 1 + 1 + 1 + 1 < w1.heap.size := by omega); (try have hz6 : w.heap.size + 1 + 1 + 1 + 1 + 1 + 1 < w1.heap.size := by omega)))
  exact bodyPost_ret (v := .agg #[(.int .i64 (mRe st ma w0)), (.int .i64 (mIm lo w0))]) (by simp [results, Tryd.results73, go_sem, hc]) rfl ⟨rfl, (((((Below.refl _ _).alloc (Nat.le_refl _) _).alloc (by simp) _).trans (hb.mono (by simp; omega))).setCell (by simp) _).setCell (by simp) _⟩

def nRe (re le bl ma st lo w : Int) : Int := eRe re le bl (mRe st ma w) (mIm lo w) 1 0 w
def nIm (re le bl ma st lo w : Int) : Int := eIm re le bl (mRe st ma w) (mIm lo w) 1 0 w
theorem Fit.mech {re le bl ma st lo w0 : Int} (hF : Fit re le bl ma st lo w0) : Bd 20000 (mRe st ma w0) ∧ Bd 20000 (mIm lo w0) :=
  ⟨mRe_bd ⟨by have := hF.st; omega, hF.st.2⟩ hF.ma hF.w, mIm_bd hF.lo hF.w⟩
theorem Fit.num {re le bl ma st lo w0 : Int} (hF : Fit re le bl ma st lo w0) : Bd 131200000 (nRe re le bl ma st lo w0) ∧ Bd 131200000 (nIm re le bl ma st lo w0) := by
  obtain ⟨e1, e2⟩ := hF.mech
  have := eRe_bd hF.re hF.le hF.bl hF.w e1 e2 ⟨by omega, by omega⟩ ⟨by omega, by omega⟩ (by omega) (c := 1) (d := 0)
  exact this

theorem numerator_any (re le bl ma st lo w0 : Int) (w : World) (hF : Fit re le bl ma st lo w0) :
    Calls Tryd.prog 109 #[.agg #[(.int .i64 (re)), (.int .i64 (le)), (.int .i64 (bl)), (.int .i64 (ma)), (.int .i64 (st)), (.int .i64 (lo))], (.int .i64 (w0))] w fun r w' => r = .returned (.agg #[(.int .i64 (nRe re le bl ma st lo w0)), (.int .i64 (nIm re le bl ma st lo w0))]) ∧ Below w.heap.size w w' := by
  obtain ⟨⟨m1, m2⟩, ⟨m3, m4⟩⟩ := hF.mech
  obtain ⟨⟨g1, g2⟩, ⟨g3, g4⟩, ⟨g5, g6⟩, ⟨g7, g8⟩, ⟨g9, g10⟩, ⟨g11, g12⟩, ⟨g13, g14⟩⟩ := id hF
  go_enter Tryd.func109, Tryd.ntmps109
  go_wp2
  refine Calm.tail_below 7 (by kernel_rfl) (by kernel_rfl) ?_
  simp only [List.take_succ_cons, List.take_zero, List.drop_succ_cons, List.drop_zero]
  repeat (first | (first | (apply Calm.op_move; (focus rfl); (focus (first | exact .inl rfl | exact .inr rfl)); (focus ((try simp only [Act.eval, Array.getD_eq_getD_getElem?, List.getElem?_toArray, List.getElem?_cons_succ, List.getElem?_cons_zero, Option.getD_some]); rfl)); (try simp only [Act.put, List.setIfInBounds_toArray, List.set_cons_zero, List.set_cons_succ])) | (apply Calm.op_not; (focus rfl); (try simp only [Act.put, List.setIfInBounds_toArray, List.set_cons_zero, List.set_cons_succ])) | (apply Calm.op; (focus rfl); (focus (intro W hb; obtain ⟨hc, hf⟩ := bcell hb; clear hb hf; go_simp; (try go_bits); (try rfl); done)); (try simp only [Act.put, List.setIfInBounds_toArray, List.set_cons_zero, List.set_cons_succ]))) | (apply Calm.op_call; (focus rfl); (focus (intro W hb; obtain ⟨hc, hf⟩ := bcell hb; clear hb hf; go_simp; refine ⟨?_, ?_⟩; rfl; rfl)); (focus (intro W hb; first | (go_at_call 85; exact Calm.call_below hb (number_any _ _ _)) | (go_at_call 73; exact Calm.call_below hb (mechanics_any _ _ _ _ _ _ _ _ hF)) | (go_at_call 112; exact Calm.call_below hb (electric_any _ _ _ _ _ _ _ _ _ _ _ _ ⟨by omega, by omega⟩ ⟨by omega, by omega⟩ ⟨by omega, by omega⟩ ⟨by omega, by omega⟩ ⟨by omega, by omega⟩ ⟨by omega, by omega⟩ ⟨by omega, by omega⟩ ⟨by omega, by omega⟩)))); (try simp only [Act.put, List.setIfInBounds_toArray, List.set_cons_zero, List.set_cons_succ])))
  refine wpQuiet_nil ?_
  intro w1 hb
  obtain ⟨hbc, hbf⟩ := bcell hb
  have hbz := hb.size
  (try simp at hbz)
  (try have hbz0 : w.heap.size < w1.heap.size := by omega)
  (try have hbz1 : w.heap.size + 1 < w1.heap.size := by omega)
  (try have hbz2 : w.heap.size + 1 + 1 < w1.heap.size := by omega)
  (try have hbz3 : w.heap.size + 1 + 1 + 1 < w1.heap.size := by omega)
  (try have hbz4 : w.heap.size + 1 + 1 + 1 + 1 < w1.heap.size := by omega)
  (try have hbz5 : w.heap.size + 1 + 1 + 1 + 1 + 1 < w1.heap.size := by omega)
  go_wp2
  exact bodyPost_ret (v := .agg #[(.int .i64 (nRe re le bl ma st lo w0)), (.int .i64 (nIm re le bl ma st lo w0))]) (by simp [results, Tryd.results109, go_sem, hbc, nRe, nIm]) rfl ⟨rfl, (((((Below.refl _ _).alloc (Nat.le_refl _) _).alloc (by simp) _).trans (hb.mono (by simp; omega))).setCell (by simp) _).setCell (by simp) _⟩

theorem impedance_any (re le bl ma st lo w0 : Int) (w : World) (hF : Fit re le bl ma st lo w0) :
    Calls Tryd.prog 75 #[.agg #[(.int .i64 (re)), (.int .i64 (le)), (.int .i64 (bl)), (.int .i64 (ma)), (.int .i64 (st)), (.int .i64 (lo))], (.int .i64 (w0))] w
      fun r w' => r = .returned (.agg #[(.int .i64 (nRe re le bl ma st lo w0)), (.int .i64 (nIm re le bl ma st lo w0)), (.int .i64 (mRe st ma w0)), (.int .i64 (mIm lo w0))]) ∧ Below w.heap.size w w' := by
  go_enter Tryd.func75, Tryd.ntmps75
  go_wp2
  refine Calm.tail_below 7 (by kernel_rfl) (by kernel_rfl) ?_
  simp only [List.take_succ_cons, List.take_zero, List.drop_succ_cons, List.drop_zero]
  repeat (first | (first | (apply Calm.op_move; (focus rfl); (focus (first | exact .inl rfl | exact .inr rfl)); (focus ((try simp only [Act.eval, Array.getD_eq_getD_getElem?, List.getElem?_toArray, List.getElem?_cons_succ, List.getElem?_cons_zero, Option.getD_some]); rfl)); (try simp only [Act.put, List.setIfInBounds_toArray, List.set_cons_zero, List.set_cons_succ])) | (apply Calm.op_not; (focus rfl); (try simp only [Act.put, List.setIfInBounds_toArray, List.set_cons_zero, List.set_cons_succ])) | (apply Calm.op; (focus rfl); (focus (intro W hb; obtain ⟨hc, hf⟩ := bcell hb; clear hb hf; go_simp; (try go_bits); (try rfl); done)); (try simp only [Act.put, List.setIfInBounds_toArray, List.set_cons_zero, List.set_cons_succ]))) | (apply Calm.op_call; (focus rfl); (focus (intro W hb; obtain ⟨hc, hf⟩ := bcell hb; clear hb hf; go_simp; refine ⟨?_, ?_⟩; rfl; rfl)); (focus (intro W hb; first | (go_at_call 109; exact Calm.call_below hb (numerator_any _ _ _ _ _ _ _ _ hF)) | (go_at_call 73; exact Calm.call_below hb (mechanics_any _ _ _ _ _ _ _ _ hF)))); (try simp only [Act.put, List.setIfInBounds_toArray, List.set_cons_zero, List.set_cons_succ])))
  refine wpQuiet_nil ?_
  intro w1 hb
  obtain ⟨hbc, hbf⟩ := bcell hb
  have hbz := hb.size
  (try simp at hbz)
  (try have hbz0 : w.heap.size < w1.heap.size := by omega)
  (try have hbz1 : w.heap.size + 1 < w1.heap.size := by omega)
  (try have hbz2 : w.heap.size + 1 + 1 < w1.heap.size := by omega)
  (try have hbz3 : w.heap.size + 1 + 1 + 1 < w1.heap.size := by omega)
  (try have hbz4 : w.heap.size + 1 + 1 + 1 + 1 < w1.heap.size := by omega)
  (try have hbz5 : w.heap.size + 1 + 1 + 1 + 1 + 1 < w1.heap.size := by omega)
  go_wp2
  exact bodyPost_ret (v := .agg #[(.int .i64 (nRe re le bl ma st lo w0)), (.int .i64 (nIm re le bl ma st lo w0)), (.int .i64 (mRe st ma w0)), (.int .i64 (mIm lo w0))]) (by simp [results, Tryd.results75, go_sem, hbc]) rfl
    ⟨rfl, (((((((Below.refl _ _).alloc (Nat.le_refl _) _).alloc (by simp) _).trans (hb.mono (by simp; omega))).setCell (by simp) _).setCell (by simp) _).setCell (by simp) _).setCell (by simp) _⟩
theorem excursion_any (re le bl ma st lo w0 : Int) (w : World) (hF : Fit re le bl ma st lo w0) :
    Calls Tryd.prog 76 #[.agg #[(.int .i64 (re)), (.int .i64 (le)), (.int .i64 (bl)), (.int .i64 (ma)), (.int .i64 (st)), (.int .i64 (lo))], (.int .i64 (w0))] w
      fun r w' => r = .returned (.agg #[(.int .i64 (bl)), (.int .i64 (0)), (.int .i64 (nRe re le bl ma st lo w0)), (.int .i64 (nIm re le bl ma st lo w0))]) ∧ Below w.heap.size w w' := by
  go_enter Tryd.func76, Tryd.ntmps76
  go_wp2
  refine Calm.tail_below 7 (by kernel_rfl) (by kernel_rfl) ?_
  simp only [List.take_succ_cons, List.take_zero, List.drop_succ_cons, List.drop_zero]
  repeat (first | (first | (apply Calm.op_move; (focus rfl); (focus (first | exact .inl rfl | exact .inr rfl)); (focus ((try simp only [Act.eval, Array.getD_eq_getD_getElem?, List.getElem?_toArray, List.getElem?_cons_succ, List.getElem?_cons_zero, Option.getD_some]); rfl)); (try simp only [Act.put, List.setIfInBounds_toArray, List.set_cons_zero, List.set_cons_succ])) | (apply Calm.op_not; (focus rfl); (try simp only [Act.put, List.setIfInBounds_toArray, List.set_cons_zero, List.set_cons_succ])) | (apply Calm.op; (focus rfl); (focus (intro W hb; obtain ⟨hc, hf⟩ := bcell hb; clear hb hf; go_simp; (try go_bits); (try rfl); done)); (try simp only [Act.put, List.setIfInBounds_toArray, List.set_cons_zero, List.set_cons_succ]))) | (apply Calm.op_call; (focus rfl); (focus (intro W hb; obtain ⟨hc, hf⟩ := bcell hb; clear hb hf; go_simp; refine ⟨?_, ?_⟩; rfl; rfl)); (focus (intro W hb; first | (go_at_call 85; exact Calm.call_below hb (number_any _ _ _)) | (go_at_call 109; exact Calm.call_below hb (numerator_any _ _ _ _ _ _ _ _ hF)))); (try simp only [Act.put, List.setIfInBounds_toArray, List.set_cons_zero, List.set_cons_succ])))
  refine wpQuiet_nil ?_
  intro w1 hb
  obtain ⟨hbc, hbf⟩ := bcell hb
  have hbz := hb.size
  (try simp at hbz)
  (try have hbz0 : w.heap.size < w1.heap.size := by omega)
  (try have hbz1 : w.heap.size + 1 < w1.heap.size := by omega)
  (try have hbz2 : w.heap.size + 1 + 1 < w1.heap.size := by omega)
  (try have hbz3 : w.heap.size + 1 + 1 + 1 < w1.heap.size := by omega)
  (try have hbz4 : w.heap.size + 1 + 1 + 1 + 1 < w1.heap.size := by omega)
  (try have hbz5 : w.heap.size + 1 + 1 + 1 + 1 + 1 < w1.heap.size := by omega)
  go_wp2
  exact bodyPost_ret (v := .agg #[(.int .i64 (bl)), (.int .i64 (0)), (.int .i64 (nRe re le bl ma st lo w0)), (.int .i64 (nIm re le bl ma st lo w0))]) (by simp [results, Tryd.results76, go_sem, hbc]) rfl
    ⟨rfl, (((((((Below.refl _ _).alloc (Nat.le_refl _) _).alloc (by simp) _).trans (hb.mono (by simp; omega))).setCell (by simp) _).setCell (by simp) _).setCell (by simp) _).setCell (by simp) _⟩
def oRe (bl w : Int) : Int := -w * w * bl
theorem output_any (re le bl ma st lo w0 : Int) (w : World) (hF : Fit re le bl ma st lo w0) :
    Calls Tryd.prog 77 #[.agg #[(.int .i64 (re)), (.int .i64 (le)), (.int .i64 (bl)), (.int .i64 (ma)), (.int .i64 (st)), (.int .i64 (lo))], (.int .i64 (w0))] w
      fun r w' => r = .returned (.agg #[(.int .i64 (oRe bl w0)), (.int .i64 (0)), (.int .i64 (nRe re le bl ma st lo w0)), (.int .i64 (nIm re le bl ma st lo w0))]) ∧ Below w.heap.size w w' := by
  have q : Bd 8 (-w0) := ⟨by have := hF.w; omega, by have := hF.w; omega⟩
  have q' : Bd 8 w0 := ⟨by have := hF.w; omega, by have := hF.w; omega⟩
  have q2 : Bd 20 bl := ⟨by have := hF.bl; omega, by have := hF.bl; omega⟩
  obtain ⟨e1, e2⟩ := q.mul q' (by omega)
  obtain ⟨e3, e4⟩ := (q.mul q' (by omega)).mul q2 (by omega)
  obtain ⟨q1, q2⟩ := q
  obtain ⟨q3, q4⟩ := q'
  go_enter Tryd.func77, Tryd.ntmps77
  go_wp2
  refine Calm.tail_below 12 (by kernel_rfl) (by kernel_rfl) ?_
  simp only [List.take_succ_cons, List.take_zero, List.drop_succ_cons, List.drop_zero]
  repeat (first | (first | (apply Calm.op_move; (focus rfl); (focus (first | exact .inl rfl | exact .inr rfl)); (focus ((try simp only [Act.eval, Array.getD_eq_getD_getElem?, List.getElem?_toArray, List.getElem?_cons_succ, List.getElem?_cons_zero, Option.getD_some]); rfl)); (try simp only [Act.put, List.setIfInBounds_toArray, List.set_cons_zero, List.set_cons_succ])) | (apply Calm.op_not; (focus rfl); (try simp only [Act.put, List.setIfInBounds_toArray, List.set_cons_zero, List.set_cons_succ])) | (apply Calm.op; (focus rfl); (focus (intro W hb; obtain ⟨hc, hf⟩ := bcell hb; clear hb hf; go_simp; (try go_bits); (try rfl); done)); (try simp only [Act.put, List.setIfInBounds_toArray, List.set_cons_zero, List.set_cons_succ]))) | (apply Calm.op_call; (focus rfl); (focus (intro W hb; obtain ⟨hc, hf⟩ := bcell hb; clear hb hf; go_simp; refine ⟨?_, ?_⟩; rfl; rfl)); (focus (intro W hb; first | (go_at_call 85; exact Calm.call_below hb (number_any _ _ _)) | (go_at_call 109; exact Calm.call_below hb (numerator_any _ _ _ _ _ _ _ _ hF)))); (try simp only [Act.put, List.setIfInBounds_toArray, List.set_cons_zero, List.set_cons_succ])))
  refine wpQuiet_nil ?_
  intro w1 hb
  obtain ⟨hbc, hbf⟩ := bcell hb
  have hbz := hb.size
  (try simp at hbz)
  (try have hbz0 : w.heap.size < w1.heap.size := by omega)
  (try have hbz1 : w.heap.size + 1 < w1.heap.size := by omega)
  (try have hbz2 : w.heap.size + 1 + 1 < w1.heap.size := by omega)
  (try have hbz3 : w.heap.size + 1 + 1 + 1 < w1.heap.size := by omega)
  (try have hbz4 : w.heap.size + 1 + 1 + 1 + 1 < w1.heap.size := by omega)
  (try have hbz5 : w.heap.size + 1 + 1 + 1 + 1 + 1 < w1.heap.size := by omega)
  go_wp2
  exact bodyPost_ret (v := .agg #[(.int .i64 (oRe bl w0)), (.int .i64 (0)), (.int .i64 (nRe re le bl ma st lo w0)), (.int .i64 (nIm re le bl ma st lo w0))]) (by simp [results, Tryd.results77, go_sem, hbc, oRe]) rfl
    ⟨rfl, (((((((Below.refl _ _).alloc (Nat.le_refl _) _).alloc (by simp) _).trans (hb.mono (by simp; omega))).setCell (by simp) _).setCell (by simp) _).setCell (by simp) _).setCell (by simp) _⟩

theorem stiffer_any (re le bl ma st lo k : Int) (w : World) (h1 : Bd 100000 st) (h2 : Bd 100000 k) :
    Calls Tryd.prog 82 #[.agg #[(.int .i64 (re)), (.int .i64 (le)), (.int .i64 (bl)), (.int .i64 (ma)), (.int .i64 (st)), (.int .i64 (lo))], (.int .i64 (k))] w fun r w' => r = .returned (.agg #[(.int .i64 (re)), (.int .i64 (le)), (.int .i64 (bl)), (.int .i64 (ma)), (.int .i64 (st + k)), (.int .i64 (lo))]) ∧ Below w.heap.size w w' := by
  obtain ⟨g1, g2⟩ := h1
  obtain ⟨g3, g4⟩ := h2
  go_enter Tryd.func82, Tryd.ntmps82
  go_wp2
  refine bodyPost_ret (v := .agg #[(.int .i64 (re)), (.int .i64 (le)), (.int .i64 (bl)), (.int .i64 (ma)), (.int .i64 (st + k)), (.int .i64 (lo))]) (by simp [results, Tryd.results82, go_sem]) rfl ⟨rfl, ?_⟩
  repeat (first | exact (Below.refl _ _) | refine Below.setCell ?_ (by simp) _ | refine Below.alloc ?_ (by simp) _)

theorem scaled_any (n a b : Int) (w : World) (h1 : Bd 100000 n) (h2 : Bd 100000000000 a) (h3 : Bd 100000000000 b) :
    Calls Tryd.prog 84 #[(.int .i64 (n)), .agg #[(.int .i64 (a)), (.int .i64 (b))]] w fun r w' => r = .returned (.agg #[(.int .i64 (n * a)), (.int .i64 (n * b))]) ∧ Below w.heap.size w w' := by
  obtain ⟨e1, e2⟩ := h1.mul h2 (by omega)
  obtain ⟨e3, e4⟩ := h1.mul h3 (by omega)
  go_enter Tryd.func84, Tryd.ntmps84
  go_wp2_with (first | (go_at_call 85; refine (number_any _ _ _).mono ?_; rintro r w1 ⟨rfl, hb⟩; obtain ⟨hc, hf⟩ := bcell hb; have hz := hb.size; (try simp at hz); (try have hz0 : w.heap.size < w1.heap.size := by omega); (try have hz1 : w.heap.size + 1 < w1.heap.size := by omega); (try have hz2 : w.heap.size + 1 + 1 < w1.heap.size := by omega); (try have hz3 : w.heap.size + 1 + 1 + 1 < w1.heap.size := by omega); (try have hz4 : w.heap.size + 1 + 1 + 1 + 1 < w1.heap.size := by omega); (try have hz5 : w.heap.size + 1 + 1 + 1 + 1 + 1 < w1.heap.size := by omega); (try have hz6 : w.heap.size + 1 + 1 + 1 + 1 + 1 + 1 < w1.heap.size := by omega)))
  refine bodyPost_ret (v := .agg #[(.int .i64 (n * a)), (.int .i64 (n * b))]) (by simp [results, Tryd.results84, go_sem, hc]) rfl ⟨rfl, ?_⟩
  exact ((((Below.refl _ _).alloc (Nat.le_refl _) _).alloc (by simp) _).trans (hb.mono (by simp; omega))).setCell (by simp) _ |>.setCell (by simp) _

theorem numbers_any (re le bl ma st lo : Int) (w : World) :
    Calls Tryd.prog 79 #[.agg #[(.int .i64 (re)), (.int .i64 (le)), (.int .i64 (bl)), (.int .i64 (ma)), (.int .i64 (st)), (.int .i64 (lo))]] w fun r w' => r = .returned (.agg #[(.int .i64 (re)), (.int .i64 (le)), (.int .i64 (bl)), (.int .i64 (ma)), (.int .i64 (st)), (.int .i64 (lo))]) ∧ Below w.heap.size w w' := by
  go_enter Tryd.func79, Tryd.ntmps79
  go_wp2
  refine bodyPost_ret (v := .agg #[(.int .i64 (re)), (.int .i64 (le)), (.int .i64 (bl)), (.int .i64 (ma)), (.int .i64 (st)), (.int .i64 (lo))]) (by simp [results, Tryd.results79, go_sem]) rfl ⟨rfl, ?_⟩
  repeat (first | exact (Below.refl _ _) | refine Below.setCell ?_ (by simp) _ | refine Below.alloc ?_ (by simp) _)
end Go.Proofs.YtpkldjlljoledaaDoor
