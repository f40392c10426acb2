/- Part 11 of the texts of the claim: It3, Opn, G1. -/
import Derived.Test.YtpkldjlljoledaaGreatDoorMc9
import Derived.RangeFuncBox
import Derived.Test.YtpkldjlljoledaaGreatDoorMc1
import Derived.Test.YtpkldjlljoledaaGreatDoorMc10

/- Contract of Region. -/
namespace Go.Proofs.YtpkldjlljoledaaGreatDoor
open Go.RowKit
open Calm (bcell Blk)

theorem Tryz.infoD : (Tryz.prog.info? 34).map (fun i => (i.zero, i.size, i.bytes)) = some (some (.agg #[.int .i64 0, .int .i64 0, .int .i64 0, .int .i64 0, .int .i64 0, .int .i64 0]), 6, 48) := by kernel_rfl
theorem Tryz.sizeR : (Tryz.prog.info? 107).map (·.size) = some 3 := by kernel_rfl

def regErr (re le bl ma st lo m k r : Int) (zs : List (Int × Int × Int)) : Int := firstOf [classErr re le bl ma st lo m k r, readsErr zs]
set_option maxRecDepth 100000 in
set_option maxHeartbeats 4000000 in
theorem Region_bad (re le bl ma st lo m k r : Int) (A : Option Addr) (zs : List (Int × Int × Int)) (c : Nat) (w : World) (hL : Lim w) (hC : RCells w A zs) (hn : zs.length ≤ 1000) (h : regErr re le bl ma st lo m k r zs ≠ 0) :
    Calls Tryz.prog 11 #[.agg #[(.int .i64 (re)), (.int .i64 (le)), (.int .i64 (bl)), (.int .i64 (ma)), (.int .i64 (st)), (.int .i64 (lo)), (.int .i64 (m)), (.int .i64 (k)), (.int .i64 (r))], .slice A zs.length c] w fun x w' => x = .returned (.tuple #[.slice none 0 0, (.int .i64 (regErr re le bl ma st lo m k r zs))]) ∧ Below w.heap.size w w' := by
  have HC := Lib.hid hC
  have h2 : firstOf [classErr re le bl ma st lo m k r, readsErr zs] ≠ 0 := h
  obtain ⟨E, hE⟩ : ∃ E, E = classErr re le bl ma st lo m k r := ⟨_, rfl⟩
  obtain ⟨E2, hE2⟩ : ∃ E2, E2 = readsErr zs := ⟨_, rfl⟩
  have hr : regErr re le bl ma st lo m k r zs = firstOf [E, E2] := by rw [hE, hE2]; rfl
  rw [hr]
  rw [← hE, ← hE2] at h2
  have HE := Lib.hid hE
  have HE2 := Lib.hid hE2
  clear hE hE2 hr h hC
  go_enter Tryz.func11, Tryz.ntmps11
  go_wp2_with (first
    | (go_at_call 18; refine (checkClass_any re le bl ma st lo m k r _ (hL.below (by repeat (first | (with_reducible exact Below.refl _ _) | ((with_reducible refine Below.setCell ?_ ?_ _); rotate_left 1; focus (first | (simp; done) | (simp; omega) | (simp at *; omega))) | ((with_reducible refine Below.alloc ?_ ?_ _); rotate_left 1; focus (first | (simp; done) | (simp; omega) | (simp at *; omega))) | (with_reducible refine Below.drew ?_) | ((with_reducible refine Calm.step (by assumption) ?_ ?_); rotate_left 1; focus (first | (simp; done) | (simp; omega) | (simp at *; omega))))))).mono ?_; rw [← HE.out]; rintro r w1 ⟨rfl, hb1⟩; obtain ⟨hc1, hf1⟩ := bcell hb1; have hz1 := hb1.size; (try simp at hz1); have hz10 : w.heap.size < w1.heap.size := by omega)
    | (go_at_call 31; refine (checkReadings_any A zs c _ (HC.out.below (by (repeat (first | (with_reducible exact Below.refl _ _) | ((with_reducible refine Below.setCell ?_ ?_ _); rotate_left 1; focus (first | (simp; done) | (simp; omega) | (simp at *; omega))) | ((with_reducible refine Below.alloc ?_ ?_ _); rotate_left 1; focus (first | (simp; done) | (simp; omega) | (simp at *; omega))) | (with_reducible refine Below.drew ?_) | ((with_reducible refine Calm.step (by assumption) ?_ ?_); rotate_left 1; focus (first | (simp; done) | (simp; omega) | (simp at *; omega))))))) hn).mono ?_; rw [← HE2.out]; rintro r w2 ⟨rfl, hb2⟩; obtain ⟨hc2, hf2⟩ := bcell hb2; have hz2 := hb2.size; (try simp at hz2); have hz20 : w.heap.size < w2.heap.size := by omega)
    | (go_at_call 54; refine (first2_any _ _ _).mono ?_; rintro r w3 ⟨rfl, rfl⟩))
  go_ret2
  refine ⟨by first | rfl | (simp; done), ?_⟩
  repeat (first | (with_reducible exact Below.refl _ _) | ((with_reducible refine Below.setCell ?_ ?_ _); rotate_left 1; focus (first | (simp; done) | (simp; omega) | (simp at *; omega))) | ((with_reducible refine Below.alloc ?_ ?_ _); rotate_left 1; focus (first | (simp; done) | (simp; omega) | (simp at *; omega))) | (with_reducible refine Below.drew ?_) | ((with_reducible refine Calm.step (by assumption) ?_ ?_); rotate_left 1; focus (first | (simp; done) | (simp; omega) | (simp at *; omega))))

/-- the drivers of a class that explain readings. -/
def regD (re le bl ma st lo m k r : Int) (zs : List (Int × Int × Int)) : List (Int × Int × Int) := (drvs ma st lo m k r).filter fun x => explB re le bl x.1 x.2.1 x.2.2 zs
def flat6 (re le bl : Int) (zs : List (Int × Int × Int)) : List Value := zs.flatMap fun x => [(.int .i64 (re)), (.int .i64 (le)), (.int .i64 (bl)), (.int .i64 (x.1)), (.int .i64 (x.2.1)), (.int .i64 (x.2.2))]

theorem drvErr_move {re le bl ma st lo a b c : Int} (h : drvErr re le bl ma st lo = 0) (h1 : 1 ≤ a ∧ a ≤ 100) (h2 : 1 ≤ b ∧ b ≤ 5000) (h3 : 1 ≤ c ∧ c ≤ 100) : drvErr re le bl a b c = 0 := by
  obtain ⟨r1, r2, r3, _⟩ := drvErr_zero h
  unfold drvErr drvErrs
  rw [firstOf_eq_zero]
  simp only [List.mem_cons, List.not_mem_nil, or_false, forall_eq_or_imp, forall_eq]
  exact ⟨rangeErr_zero.2 r1, rangeErr_zero.2 r2, rangeErr_zero.2 r3, rangeErr_zero.2 h1, rangeErr_zero.2 h2, rangeErr_zero.2 h3⟩
theorem classErr_zero {re le bl ma st lo m k r : Int} (h : classErr re le bl ma st lo m k r = 0) : classPre re le bl ma st lo m k r = 0 ∧ classN ma st lo m k r ≤ 4096 := by
  unfold classErr at h
  split at h
  · rename_i h0
    refine ⟨h0, ?_⟩
    split at h
    · simp at h
    · omega
  · rename_i h0; exact absurd h h0
theorem drvs_bound {re le bl ma st lo m k r : Int} (h : classErr re le bl ma st lo m k r = 0) : (drvs ma st lo m k r).length ≤ 4096 := by
  obtain ⟨h1, h2⟩ := classErr_zero h
  obtain ⟨_, ⟨a1, a2⟩, ⟨a3, a4⟩, ⟨a5, a6⟩⟩ := class_zero h1
  have e : ((drvs ma st lo m k r).length : Int) = classN ma st lo m k r := by
    rw [drvs_len, classN, Int.natCast_mul, Int.natCast_mul, Int.toNat_of_nonneg (by omega), Int.toNat_of_nonneg (by omega), Int.toNat_of_nonneg (by omega), Int.mul_assoc, show m + 1 - ma = m - ma + 1 by omega, show k + 1 - st = k - st + 1 by omega, show r + 1 - lo = r - lo + 1 by omega]
  omega
theorem RCells.of_block {w w' : World} {g n : Nat} {zs : List (Int × Int × Int)} (h : RCells w (some ⟨g, n, none⟩) zs) (e : w'.heap[g]? = w.heap[g]?) : RCells w' (some ⟨g, n, none⟩) zs := by
  intro h0
  obtain ⟨b, off, hA, hl, hc⟩ := h h0
  cases hA
  refine ⟨g, n, rfl, ?_, fun k hk => ?_⟩
  · have h1 := Array.getElem?_eq_getElem hl
    rw [h1] at e
    exact (Array.getElem?_eq_some_iff.1 e).1
  · obtain ⟨h1, h2, h3⟩ := hc k hk
    exact ⟨(World.cell?_of_block (w := w) (a := ⟨g, n + k * 3, none⟩) e).trans h1, (World.cell?_of_block (w := w) (a := ⟨g, n + k * 3 + 1, none⟩) e).trans h2, (World.cell?_of_block (w := w) (a := ⟨g, n + k * 3 + 2, none⟩) e).trans h3⟩
theorem flat6_append (re le bl : Int) (a b : List (Int × Int × Int)) : flat6 re le bl (a ++ b) = flat6 re le bl a ++ flat6 re le bl b := by simp [flat6]
theorem ownsRow_base {w : World} {base base' e size n : Nat} {v : Value} {xs : List Value} (h : w.ownsRow base e size v n xs) (hb : base' ≤ base) : w.ownsRow base' e size v n xs := by
  refine ⟨h.1, ?_⟩
  rcases h.2 with h | ⟨g, cap, cur, h1, h2, h3⟩
  · exact .inl h
  · exact .inr ⟨g, cap, cur, h1, Nat.le_trans hb h2, h3⟩
theorem own_slice {w : World} {base e size n : Nat} {v : Value} {xs : List Value} (h : w.ownsRow base e size v n xs) : ∃ a c, v = .slice a n c := by
  rcases h.2 with ⟨rfl, h0⟩ | ⟨g, cap, cur, rfl, _⟩
  · exact ⟨none, 0, by rw [h0]⟩
  · exact ⟨_, _, rfl⟩
theorem heap_new {w : World} {o : Obj} {k : Nat} (h : k = w.heap.size) : (w.alloc o).heap[k]? = some o := h ▸ World.alloc_heap_new w o
theorem heap_old {w : World} {o : Obj} {k : Nat} {v : Option Obj} (hl : k < w.heap.size) (h : w.heap[k]? = v) : (w.alloc o).heap[k]? = v := (Below.heap_alloc _ _ _ hl).trans h
theorem kb_own {β : Type} (w5 : World) (O : Nat) : OwnFrom w5.heap.size (fun (_ : β) W => ∀ k, k < w5.heap.size → k ≠ O → W.heap[k]? = w5.heap[k]?) := fun s X Y row hs hg hrow k hk hne => by
  have hX := hs k hk hne
  have hlt : k < X.heap.size := by
    rw [Array.getElem?_eq_getElem hk] at hX
    exact (Array.getElem?_eq_some_iff.1 hX).1
  exact (hg.block k hlt (fun e => by have := (hrow k e.symm).1; omega)).trans hX
theorem heapRow_own {β : Type} (B : Nat) (cs : Array Value) (t : TypeId) : Own (fun (_ : β) W => W.heap[B]? = some (.cells cs t (0, 0))) := fun s X Y row hs hg hrow =>
  (hg.block B (Array.getElem?_eq_some_iff.1 hs).1 (fun e' => by obtain ⟨o, ho, hc⟩ := hrow B e'.symm; rw [hs] at ho; cases ho; cases hc)).trans hs

set_option maxRecDepth 100000 in
set_option maxHeartbeats 8000000 in
theorem Region_ok (re le bl ma st lo m k r : Int) (A : Option Addr) (zs : List (Int × Int × Int)) (c : Nat) (w : World) (hL : Lim w) (hC : RCells w A zs) (hn : zs.length ≤ 1000) (h : regErr re le bl ma st lo m k r zs = 0) :
    Calls Tryz.prog 11 #[.agg #[(.int .i64 (re)), (.int .i64 (le)), (.int .i64 (bl)), (.int .i64 (ma)), (.int .i64 (st)), (.int .i64 (lo)), (.int .i64 (m)), (.int .i64 (k)), (.int .i64 (r))], .slice A zs.length c] w fun x w' =>
      (if 256 < (regD re le bl ma st lo m k r zs).length then x = .returned (.tuple #[.slice none 0 0, (.int .i64 (5))]) else
        ∃ v, x = .returned (.tuple #[v, (.int .i64 (0))]) ∧ w'.ownsRow w.heap.size 34 6 v (regD re le bl ma st lo m k r zs).length (flat6 re le bl (regD re le bl ma st lo m k r zs))) ∧ Below w.heap.size w w' := by
  obtain ⟨i0, hi, iz0, iz1, iz2⟩ := info_parts Tryz.infoD
  obtain ⟨i1, hi1, jz0, jz1, jz2⟩ := info_parts Tryz.infoR
  have hfn : ∀ f, Fence.wide.fn f = True := fun _ => rfl
  have h2 : firstOf [classErr re le bl ma st lo m k r, readsErr zs] = 0 := h
  have h3 := firstOf_eq_zero.1 h2
  have h4 : classErr re le bl ma st lo m k r = 0 := h3 _ (by simp)
  have h5 : readsErr zs = 0 := h3 _ (by simp)
  have HC := Lib.hid hC
  have H4 := Lib.hid h4
  have H5 := Lib.hid h5
  obtain ⟨N, hN⟩ : ∃ N, N = zs.length := ⟨_, rfl⟩
  have HN := Lib.hid hN
  obtain ⟨G, hG⟩ : ∃ G, G = regD re le bl ma st lo m k r zs := ⟨_, rfl⟩
  have HG := Lib.hid hG
  have hCR : ∀ W, RCells W A zs → Calls Tryz.prog 31 #[.slice A N c] W fun r w' => r = .returned (.int .i64 (0)) ∧ Below W.heap.size W w' := by
    intro W k1
    have := checkReadings_any A zs c W k1 hn
    rwa [h5, ← hN] at this
  have HCR := Lib.hid hCR
  rw [← hN] at hn ⊢
  rw [← hG]
  obtain ⟨LN, hLN⟩ : ∃ LN, LN = G.length := ⟨_, rfl⟩
  have HLN := Lib.hid hLN
  rw [← hLN]
  clear hCR hLN
  obtain ⟨M0, hM0, hmk⟩ : ∃ M0 : Array Value, M0.size = N * 3 ∧ ∀ W : World, Sem.run Tryz.prog (Instr.makeSlice 38 (.int .i64 (N)) (.int .i64 (N))) W = .ok (.slice (some ⟨W.heap.size, 0, none⟩) N N) (W.alloc (.cells M0 107)) :=
    ⟨_, size_madeCells _ _, fun W => by
      have := run_make (P := Tryz.prog) W 38 107 i1 _ Tryz.underlying38 hi1 jz0 .i64 .i64 N N (by omega) (Int.le_refl _) (by rw [jz2]; omega) (by omega)
      simpa [jz1] using this⟩
  have HM0 := Lib.hid hM0
  clear hM0
  have e1 : firstOf [0, 0] = 0 := by simp [firstOf_eq_zero]
  clear hC h h2 h3 h4 h5 hN hG
  refine (callsIn_wide (n := 10)).1 ?_
  refine callsIn_of_wp_marks Tryz.func11 rfl trivial ?_ rfl
  simp only [Tryz.ntmps11, List.size_toArray, List.length_cons, List.length_nil, Nat.reduceAdd, Nat.reduceSub, Array.replicate_succ, Array.replicate_zero, List.push_toArray, List.append_toArray, List.nil_append, List.cons_append]
  gi_wp2_with (first
    | (gi_at_call 18; refine (callsIn_wide.2 (checkClass_any re le bl ma st lo m k r _ (hL.below (by repeat (first | (with_reducible exact Below.refl _ _) | ((with_reducible refine Below.setCell ?_ ?_ _); rotate_left 1; focus (first | (simp; done) | (simp; omega) | (simp at *; omega))) | ((with_reducible refine Below.alloc ?_ ?_ _); rotate_left 1; focus (first | (simp; done) | (simp; omega) | (simp at *; omega))) | (with_reducible refine Below.drew ?_) | ((with_reducible refine Calm.step (by assumption) ?_ ?_); rotate_left 1; focus (first | (simp; done) | (simp; omega) | (simp at *; omega)))))))).mono ?_; rw [H4.out]; rintro r w1 ⟨rfl, hb1⟩; obtain ⟨hc1, hf1⟩ := bcell hb1; have hz1 := hb1.size; (try simp at hz1); have hz10 : w.heap.size < w1.heap.size := by omega)
    | (gi_at_call 31; refine (callsIn_wide.2 (HCR.out _ (HC.out.below (by (repeat (first | (with_reducible exact Below.refl _ _) | ((with_reducible refine Below.setCell ?_ ?_ _); rotate_left 1; focus (first | (simp; done) | (simp; omega) | (simp at *; omega))) | ((with_reducible refine Below.alloc ?_ ?_ _); rotate_left 1; focus (first | (simp; done) | (simp; omega) | (simp at *; omega))) | (with_reducible refine Below.drew ?_) | ((with_reducible refine Calm.step (by assumption) ?_ ?_); rotate_left 1; focus (first | (simp; done) | (simp; omega) | (simp at *; omega))))))))).mono ?_; rintro r w2 ⟨rfl, hb2⟩; obtain ⟨hc2, hf2⟩ := bcell hb2; have hz2 := hb2.size; (try simp at hz2); have hz20 : w.heap.size < w2.heap.size := by omega)
    | (gi_at_call 54; refine (callsIn_wide.2 (first2_any _ _ _)).mono ?_; rintro r w3 ⟨rfl, rfl⟩)
    | (with_reducible show wpListIn _ _ _ _ _ (⟨_, Op.call ⟨Callee.builtin Builtin.copy, _, _⟩, _, _, _, _⟩ :: _) _ _; refine wpListIn_copy3 rfl _ _ _ _ rfl 107 Tryz.underlying38 Tryz.sizeR _ N N c A zs HN.out.symm rfl rfl M0 107 ?_ HM0.out ?_ ?_))
  · exact heap_old (by simp) (heap_new (by simp))
  · exact HC.out.below (by (repeat (first | (with_reducible exact Below.refl _ _) | ((with_reducible refine Below.setCell ?_ ?_ _); rotate_left 1; focus (first | (simp; done) | (simp; omega) | (simp at *; omega))) | ((with_reducible refine Below.alloc ?_ ?_ _); rotate_left 1; focus (first | (simp; done) | (simp; omega) | (simp at *; omega))) | (with_reducible refine Below.drew ?_) | ((with_reducible refine Calm.step (by assumption) ?_ ?_); rotate_left 1; focus (first | (simp; done) | (simp; omega) | (simp at *; omega))))))
  intro w4 hs4 hb4 hk4 RC4
  have Kx : Blk (((w2.alloc (.cells #[.int .i64 0, .int .i64 0] 31)).alloc (.cells M0 107)).alloc (.cells #[.slice (some ⟨w2.heap.size + 1, 0, none⟩) N N] 38)) w.heap.size #[(.int .i64 (re)), (.int .i64 (le)), (.int .i64 (bl)), (.int .i64 (ma)), (.int .i64 (st)), (.int .i64 (lo)), (.int .i64 (m)), (.int .i64 (k)), (.int .i64 (r))] := by (repeat (first | ((with_reducible refine Blk.at_ ?_); focus (first | rfl | (simp; done) | (simp; omega))) | (with_reducible refine Blk.alloc ?_ _) | (with_reducible refine Blk.below ?_ (by with_reducible assumption)) | (with_reducible refine Blk.drew ?_)))
  have K4 := Calm.Blk.of_block Kx (hk4 _ (by omega))
  have ob : w4.heap[w2.heap.size + 1 + 1]? = some (.cells #[.slice (some ⟨w2.heap.size + 1, 0, none⟩) N N] 38 (0, 0)) := (hk4 _ (by omega)).trans (heap_new (by simp))
  have oc := cell_of_row w4 _ 0 _ _ _ ob
  have of : w4.frozen? ⟨w2.heap.size + 1 + 1, 0, none⟩ = false := by unfold World.frozen?; rw [ob]; simp
  have HB4 := Lib.hid (show Below w.heap.size w w4 by
    refine Below.trans ?_ (Below.mono hb4 (by omega))
    (repeat (first | (with_reducible exact Below.refl _ _) | ((with_reducible refine Below.setCell ?_ ?_ _); rotate_left 1; focus (first | (simp; done) | (simp; omega) | (simp at *; omega))) | ((with_reducible refine Below.alloc ?_ ?_ _); rotate_left 1; focus (first | (simp; done) | (simp; omega) | (simp at *; omega))) | (with_reducible refine Below.drew ?_) | ((with_reducible refine Calm.step (by assumption) ?_ ?_); rotate_left 1; focus (first | (simp; done) | (simp; omega) | (simp at *; omega))))))
  clear hb4 Kx hc1 hf1 hc2 hf2 hb1 hb2 hmk hk4
  obtain ⟨q, hq⟩ : ∃ q, q = w2.heap.size + 1 := ⟨_, rfl⟩
  have hqs : w.heap.size < q := by omega
  have hsz : w4.heap.size = q + 1 + 1 := by omega
  rw [← hq] at ob oc of RC4 ⊢
  have HSZ := Lib.hid hsz
  have hq1 : q < w4.heap.size := by omega
  have hq2 : q + 1 < w4.heap.size := by omega
  have hq3 : w.heap.size < w4.heap.size := by omega
  clear hsz hs4 hq hz1 hz10 hz2 hz20
  have c0 := K4.cell 0 (.int .i64 (re)) rfl
  have c1 := K4.cell 1 (.int .i64 (le)) rfl
  have c2 := K4.cell 2 (.int .i64 (bl)) rfl
  have c3 := K4.cell 3 (.int .i64 (ma)) rfl
  have c4 := K4.cell 4 (.int .i64 (st)) rfl
  have c5 := K4.cell 5 (.int .i64 (lo)) rfl
  have c6 := K4.cell 6 (.int .i64 (m)) rfl
  have c7 := K4.cell 7 (.int .i64 (k)) rfl
  have c8 := K4.cell 8 (.int .i64 (r)) rfl
  have hst : ∀ (W : World) (t : TypeId), Sem.run Tryz.prog (store ⟨W.heap.size, 0, none⟩ (.func (.func 55) #[] #[.pointer (some ⟨q + 1, 0, none⟩)])) (W.alloc (.cells #[.nilFunc] t)) = .ok () (W.alloc (.cells #[.func (.func 55) #[] #[.pointer (some ⟨q + 1, 0, none⟩)]] t)) := by
    intro W t
    rw [run_store _ _ _ _ _ rfl]
    simp
    simp [go_sem]
  gi_wp2_with (gi_at_call 57; refine (callsIn_wide.2 (drivers_any re le bl ma st lo m k r _)).mono ?_; rintro r w5 ⟨rfl, hb5, K5⟩; obtain ⟨hc5, hf5⟩ := bcell hb5)
  have hO5 : Boxed w5 (w4.heap.size + 1) 30 (.slice none 0 0) := (hb5.block _ (by simp)).trans (heap_new (by simp))
  have hF5 : w5.heap[w4.heap.size]? = some (.cells #[.func (.func 55) #[] #[.pointer (some ⟨q + 1, 0, none⟩)]] 116 (0, 0)) := (hb5.block _ (by simp; omega)).trans (heap_old (by simp) (heap_new rfl))
  have hob5 : w5.heap[q + 1]? = some (.cells #[.slice (some ⟨q, 0, none⟩) N N] 38 (0, 0)) := (hb5.block _ (by simp; omega)).trans (heap_old (by simp; omega) (heap_old hq2 ob))
  have hb6 : Below w4.heap.size w4 w5 := (((Below.refl _ w4).alloc (Nat.le_refl _) _).alloc (by simp) _).trans (hb5.mono (by simp; omega))
  have RC5 := RC4.below hb6
  have HB5 := Lib.hid (HB4.out.trans (hb6.mono (by omega)))
  simp only [World.size_alloc] at K5
  have hz5 := K5.lt
  clear hb5 hb6 hc5 hf5 ob RC4 HB4 hst c0 c1 c2 c3 c4 c5 c6 c7 c8 oc of K4
  obtain ⟨hd, ⟨a1, a2⟩, ⟨a3, a4⟩, ⟨a5, a6⟩⟩ := class_zero (classErr_zero H4.out).1
  have HLEN := Lib.hid (drvs_bound H4.out)
  obtain ⟨_, _, _, d1, d2, d3⟩ := drvErr_zero hd
  have HD := Lib.hid hd
  have RC := Lib.hid RC5
  have hF := Lib.hid hF5
  have hob := Lib.hid hob5
  have hIO : OwnFrom w5.heap.size (fun (pre : List (Int × Int × Int)) W => (∃ v, Boxed W (w4.heap.size + 1) 30 v ∧ W.ownsRow (w5.heap.size + 3) 34 6 v (pre.filter fun x => explB re le bl x.1 x.2.1 x.2.2 zs).length (flat6 re le bl (pre.filter fun x => explB re le bl x.1 x.2.1 x.2.2 zs)) ∧ True) ∧ ((∀ k, k < w5.heap.size → k ≠ w4.heap.size + 1 → W.heap[k]? = w5.heap[k]?) ∧ Below w.heap.size w W)) :=
    OwnFrom.and ((holdsRow_own _ _ _ _ _ _ _ _).from _) (OwnFrom.and (kb_own w5 _) (ownFrom_below (Nat.le_refl _) (by omega)))
  have HIO := Lib.hid hIO
  refine range_iter (F := Fence.wide) (n := 10) rfl (by decide) (gf := 100) (lb := #[.pointer (some ⟨w4.heap.size + 1 + 1, 0, none⟩)]) rfl trivial (enters_of Tryz.func100 (by kernel_rfl) rfl)
    (enc := encD re le bl) (all := drvs ma st lo m k r) (Cb := w4.heap.size + 1 + 1) hz5 (drivers1_iter re le bl ma st lo m k r _ w5 _ ⟨d1, d2, d3⟩ ⟨a2, a4, a6⟩ K5) rfl
    _
    hIO ?his ⟨⟨_, hO5, World.ownsRow_nil _ _ _ _, trivial⟩, fun _ _ _ => rfl, HB5.out⟩
    (fun (pre : List (Int × Int × Int)) (x : Int × Int × Int) (a' : Act) (W : World) => ((∃ v, Boxed W (w4.heap.size + 1) 30 v ∧ W.ownsRow (w5.heap.size + 3) 34 6 v (pre.filter fun x => explB re le bl x.1 x.2.1 x.2.2 zs).length (flat6 re le bl (pre.filter fun x => explB re le bl x.1 x.2.1 x.2.2 zs)) ∧ True) ∧ ((∀ k, k < w5.heap.size → k ≠ w4.heap.size + 1 → W.heap[k]? = w5.heap[k]?) ∧ Below w.heap.size w W)) ∧
      ∃ Bx, w5.heap.size + 2 < Bx ∧ W.heap[Bx]? = some (.cells #[(.int .i64 (re)), (.int .i64 (le)), (.int .i64 (bl)), (.int .i64 (x.1)), (.int .i64 (x.2.1)), (.int .i64 (x.2.2))] 34 (0, 0)) ∧ a' = { tmps := #[.agg #[(.int .i64 (re)), (.int .i64 (le)), (.int .i64 (bl)), (.int .i64 (ma)), (.int .i64 (st)), (.int .i64 (lo)), (.int .i64 (m)), (.int .i64 (k)), (.int .i64 (r))], .slice A N c, .pointer (some ⟨w.heap.size, 0, none⟩), undef, .slice none 0 0, (.int .i64 (0)), (.int .i64 (0)), .pointer (some ⟨q + 1, 0, none⟩), .pointer (some ⟨w4.heap.size, 0, none⟩), .pointer (some ⟨w4.heap.size + 1, 0, none⟩), .pointer (some ⟨Bx, 0, none⟩), .agg #[(.int .i64 (re)), (.int .i64 (le)), (.int .i64 (bl)), (.int .i64 (ma)), (.int .i64 (st)), (.int .i64 (lo)), (.int .i64 (m)), (.int .i64 (k)), (.int .i64 (r))], (.int .i64 (0)), .slice A N c, (.int .i64 (0)), .slice (some ⟨w2.heap.size, 0, none⟩) 2 2, (.int .i64 (0)), (.int .i64 (0)), .bool false, undef, .slice A N c, (.int .i64 (N)), .slice (some ⟨q, 0, none⟩) N N, .slice (some ⟨q, 0, none⟩) N N, .slice A N c, (.int .i64 (N)), .func (.func 55) #[] #[.pointer (some ⟨q + 1, 0, none⟩)], .agg #[.func (.func 55) #[] #[.pointer (some ⟨q + 1, 0, none⟩)]], .agg #[(.int .i64 (re)), (.int .i64 (le)), (.int .i64 (bl)), (.int .i64 (ma)), (.int .i64 (st)), (.int .i64 (lo)), (.int .i64 (m)), (.int .i64 (k)), (.int .i64 (r))], .func (.func 100) #[] #[.pointer (some ⟨w4.heap.size + 1 + 1, 0, none⟩)], encD re le bl x, undef, undef, undef, undef, undef, undef, undef, undef, undef, undef, undef, undef], defers := [] })
    ?hax ?assign ?body ?done
  case his =>
    rintro pre W i v ⟨⟨v0, hv, ho, _⟩, hk, hB⟩
    exact ⟨⟨v0, (Below.heap_setCell _ _ _ _ (by simp; omega)).trans hv, ownsRow_setCell_below ho (by simp) v, trivial⟩, fun k h1 h2 => (Below.heap_setCell _ _ _ _ (by simp; omega)).trans (hk k h1 h2), hB.setCell (by simp; omega) v⟩
  case hax =>
    rintro pre x a' s X Y row ⟨hi, Bx, h1, h2, h3⟩ hg hrow
    exact ⟨hIO pre X Y row hi hg hrow, Bx, h1, heapRow_own _ _ _ s X Y row h2 hg (fun r e => (hrow r e).2), h3⟩
  case assign =>
    rintro l pre x W hi ⟨post, hpost⟩ hsz hcb
    have hsem : ∀ (ρ : Operand → Value) (o : Oper), (∀ c, o.op ≠ .defer c) → Oper.semAt (some l) ρ o = execOp ρ o := Oper.semAt_some l
    have HI := Lib.hid hi
    clear hi hIO hpost hcb
    dsimp only [encD]
    gi_wp2
    exact ⟨(Same.refl _ _).alloc _, HIO.out.alloc _ HI.out, W.heap.size, hsz, World.alloc_heap_new W _, rfl⟩
  case body =>
    rintro l pre ⟨x1, x2, x3⟩ a' W ⟨⟨⟨v, hv, ho, _⟩, hk, hB⟩, Bx, hBx, hx, rfl⟩ ⟨post, hpost⟩ hsz hcb
    have hsem : ∀ (ρ : Operand → Value) (o : Oper), (∀ c, o.op ≠ .defer c) → Oper.semAt (some l) ρ o = execOp ρ o := Oper.semAt_some l
    obtain ⟨⟨b1, b2⟩, ⟨b3, b4⟩, ⟨b5, b6⟩⟩ := mem_drvs (show (x1, x2, x3) ∈ drvs ma st lo m k r by rw [hpost]; simp)
    simp only at b1 b2 b3 b4 b5 b6
    have hdx := Lib.hid (drvErr_move HD.out (show 1 ≤ x1 ∧ x1 ≤ 100 by omega) (show 1 ≤ x2 ∧ x2 ≤ 5000 by omega) (show 1 ≤ x3 ∧ x3 ≤ 100 by omega))
    have hlen : pre.length + 1 ≤ 4096 := by have h1 := HLEN.out; rw [hpost] at h1; simp at h1; omega
    have hfl := List.length_filter_le (fun x : Int × Int × Int => explB re le bl x.1 x.2.1 x.2.2 zs) pre
    have hBlt := (Array.getElem?_eq_some_iff.1 hx).1
    have e1 := hk (q + 1) (by omega) (by have := HSZ.out; omega)
    have e2 := hk q (by omega) (by have := HSZ.out; omega)
    have e3 := hk w4.heap.size (by omega) (by omega)
    have oc := cell_of_row W _ 0 _ _ _ (e1.trans hob.out)
    have RCW := Lib.hid (RC.out.of_block e2)
    have fc := cell_of_row W _ 0 _ _ _ (e3.trans hF.out)
    have x0 := cell_of_row W _ 0 _ _ _ hx
    have x1' := cell_of_row W _ 1 _ _ _ hx
    have x2' := cell_of_row W _ 2 _ _ _ hx
    have x3' := cell_of_row W _ 3 _ _ _ hx
    have x4' := cell_of_row W _ 4 _ _ _ hx
    have x5' := cell_of_row W _ 5 _ _ _ hx
    simp at oc fc x0 x1' x2' x3' x4' x5'
    have vc := hv.cell
    have vl := hv.lt
    have HV := Lib.hid hv
    have HK := Lib.hid hk
    have HB := Lib.hid hB
    have HO := Lib.hid ho
    have HX := Lib.hid hx
    have HC1 : ∀ W' : World, Below W.heap.size W W' → True := fun _ _ => trivial
    have hcall : Calls Tryz.prog 55 #[.agg #[(.int .i64 (re)), (.int .i64 (le)), (.int .i64 (bl)), (.int .i64 (x1)), (.int .i64 (x2)), (.int .i64 (x3))], .pointer (some ⟨q + 1, 0, none⟩)] W fun r w' => r = .returned (.bool (explB re le bl x1 x2 x3 zs)) ∧ Below W.heap.size W w' :=
      region1_any re le bl x1 x2 x3 (q + 1) (some ⟨q, 0, none⟩) zs N W hdx.out (by rw [← HN.out]; exact oc) (by omega) RCW.out (by rw [← HN.out]; exact hn) (readErrs_all (show firstOf (readErrs zs) = 0 by
        have := H5.out
        unfold readsErr at this
        split at this
        · simp at this
        · exact this))
    have HCALL := Lib.hid hcall
    clear hcall HC1 hv hk hB ho hx e1 e2 e3 hpost hcb b1 b2 b3 b4 b5 b6
    obtain ⟨E, hE⟩ : ∃ E, E = explB re le bl x1 x2 x3 zs := ⟨_, rfl⟩
    have HE := Lib.hid hE
    cases E
    · clear hE
      gi_wp2_with (gi_at_call 55; refine (CallsIn.inRound l (callsIn_wide.2 HCALL.out)).mono ?_; rw [← HE.out]; rintro r w6 ⟨rfl, hb6⟩)
      have ef : List.filter (fun x : Int × Int × Int => explB re le bl x.1 x.2.1 x.2.2 zs) (pre ++ [(x1, x2, x3)]) = List.filter (fun x : Int × Int × Int => explB re le bl x.1 x.2.1 x.2.2 zs) pre := by
        rw [List.filter_append]; simp [← HE.out]
      refine ⟨(Same.refl _ _).below hb6 (fun k hk => by rcases hk with rfl | rfl | rfl | rfl <;> omega), ⟨v, (hb6.block _ vl).trans HV.out, ?_, trivial⟩, fun k h1 h2 => (hb6.block k (by omega)).trans (HK.out k h1 h2), HB.out.trans (hb6.mono HB.out.size)⟩
      rw [ef]
      exact ownsRow_below HO.out hb6
    · clear hE
      gi_wp2_with (first
        | (gi_at_call 55; refine (CallsIn.inRound l (callsIn_wide.2 HCALL.out)).mono ?_; rw [← HE.out]; rintro r w6 ⟨rfl, hb6⟩; obtain ⟨hc6, hf6⟩ := bcell hb6; have ho6 := ownsRow_below HO.out hb6)
        | (gi_at_builtin; refine wpListIn_append_own _ rfl _ _ 30 rfl (w5.heap.size + 3) 34 i0 _ 6 48 Tryz.underlying30 hi iz0 iz1 iz2 rfl (by decide) _ _ _ rfl (ho6.alloc _) ⟨w6.heap.size, 0, none⟩ 1 1 [(.int .i64 (re)), (.int .i64 (le)), (.int .i64 (bl)), (.int .i64 (x1)), (.int .i64 (x2)), (.int .i64 (x3))] rfl rfl ?c1 ?c2 ?c3 ?c4 ?c5 ?_))
      case c1 =>
        intro j u hj
        match j, hj with
        | 0, hj => simp at hj; subst hj; simp [Addr.add]
        | 1, hj => simp at hj; subst hj; simp [Addr.add]
        | 2, hj => simp at hj; subst hj; simp [Addr.add]
        | 3, hj => simp at hj; subst hj; simp [Addr.add]
        | 4, hj => simp at hj; subst hj; simp [Addr.add]
        | 5, hj => simp at hj; subst hj; simp [Addr.add]
      case c2 => intro u hu; simp at hu; rcases hu with rfl | rfl | rfl | rfl | rfl | rfl <;> rfl
      case c3 => unfold maxLen; omega
      case c4 => omega
      case c5 => have := hb6.size; simp; omega
      intro v' w7 hown' hgrow _
      have hlt6 : w4.heap.size + 1 < w6.heap.size := by have := hb6.size; omega
      have hv6 : Boxed (w6.alloc (.cells #[(.int .i64 (re)), (.int .i64 (le)), (.int .i64 (bl)), (.int .i64 (x1)), (.int .i64 (x2)), (.int .i64 (x3))] 34)) (w4.heap.size + 1) 30 v := heap_old hlt6 ((hb6.block _ vl).trans HV.out)
      have hne : ∀ k, v.ownBlock = some k → w5.heap.size + 3 ≤ k := fun k e => (HO.out.lt k e).1
      have hv7 : Boxed w7 (w4.heap.size + 1) 30 v := hv6.kept hgrow (fun e => by have := hne _ e.symm; omega)
      have vc7 := hv7.cell
      have vf7 := hv7.frozen
      have HOW := Lib.hid hown'
      have HGR := Lib.hid hgrow
      have HNE := Lib.hid hne
      obtain ⟨g', cap', rfl⟩ := ownsRow_succ hown'
      clear hgrow hne hown' hc6 hf6
      gi_wp2
      have ef : List.filter (fun x : Int × Int × Int => explB re le bl x.1 x.2.1 x.2.2 zs) (pre ++ [(x1, x2, x3)]) = List.filter (fun x : Int × Int × Int => explB re le bl x.1 x.2.1 x.2.2 zs) pre ++ [(x1, x2, x3)] := by
        rw [List.filter_append]; simp [← HE.out]
      have hs6 := hb6.size
      refine ⟨?same, ⟨_, hv7.set _, ?own, trivial⟩, ?kb, ?blw⟩
      case same =>
        refine Same.setCell (p := ⟨w4.heap.size + 1, 0, none⟩) (Same.grown (Same.alloc ((Same.refl _ _).below hb6 (fun k hk => by rcases hk with rfl | rfl | rfl | rfl <;> omega)) _) HGR.out (fun k e hk => by have := HNE.out k e; rcases hk with rfl | rfl | rfl | rfl <;> omega)) ?_ _
        rintro (h | h | h | h) <;> simp at h <;> omega
      case own =>
        rw [ef, flat6_append, List.length_append]
        exact ownsRow_setCell_below HOW.out (show w4.heap.size + 1 < w5.heap.size + 3 by omega) _
      case kb =>
        intro k h1 h2
        refine (Below.heap_setCell _ _ _ _ h2).trans ((HGR.out.block k (by simp; omega) (fun e => by have := HNE.out k e.symm; omega)).trans ?_)
        exact heap_old (by omega) ((hb6.block k (by omega)).trans (HK.out k h1 h2))
      case blw =>
        refine Below.setCell (p := ⟨w4.heap.size + 1, 0, none⟩) (((HB.out.trans (hb6.mono HB.out.size)).alloc (by omega) _).grown HGR.out (by simp; omega) (fun k e => by have := HNE.out k e; omega)) ?_ _
        show w.heap.size ≤ w4.heap.size + 1
        omega
  case done =>
    rintro W ⟨⟨v, hv, ho, _⟩, hk, hB⟩ hdef
    have eG : List.filter (fun x : Int × Int × Int => explB re le bl x.1 x.2.1 x.2.2 zs) (drvs ma st lo m k r) = G := HG.out.symm
    rw [eG, ← HLN.out] at ho
    obtain ⟨a, c', rfl⟩ := own_slice ho
    have hGl : LN ≤ 4096 := by rw [HLN.out, ← eG]; exact Nat.le_trans (List.length_filter_le _ _) HLEN.out
    have vc := hv.cell
    have HO := Lib.hid ho
    have HB := Lib.hid hB
    have HDEF := Lib.hid hdef
    have hDl := (Array.getElem?_eq_some_iff.1 hdef).1
    clear hIO ho hv hk hdef eG hB
    by_cases h256 : 256 < LN
    · gi_wp2
      refine ⟨by simp, .inl ⟨_, _, rfl, run_takeDeferred HDEF.out, ?_⟩⟩
      refine ⟨_, results_tmp2 rfl _ _ _, ?_, HB.out.trans (belowK_b (w := w) (Nat.le_refl _) W _ _ _ (by omega) HDEF.out rfl rfl)⟩
      rfl
    · gi_wp2
      refine ⟨by simp, .inl ⟨_, _, rfl, run_takeDeferred HDEF.out, ?_⟩⟩
      refine ⟨_, results_tmp2 rfl _ _ _, ?_, HB.out.trans (belowK_b (w := w) (Nat.le_refl _) W _ _ _ (by omega) HDEF.out rfl rfl)⟩
      exact ⟨_, rfl, ownsRow_base (ownsRow_putObj HO.out _ HDEF.out rfl) (by omega)⟩
end Go.Proofs.YtpkldjlljoledaaGreatDoor

/- A block known whole, opened: its cells, its place, its marks. No program. -/
namespace Go.Proofs.YtpkldjlljoledaaGreatDoor.Calm
theorem Blk.o1 {w : World} {g : Nat} {a0 : Value} (h : Blk w g #[a0]) : w.cell? ⟨g, 0, none⟩ = some a0 ∧ g < w.heap.size ∧ ∀ i, w.frozen? ⟨g, i, none⟩ = false :=
  ⟨h.cell 0 _ rfl, h.lt, h.f⟩
theorem Blk.o2 {w : World} {g : Nat} {a0 a1 : Value} (h : Blk w g #[a0, a1]) : w.cell? ⟨g, 0, none⟩ = some a0 ∧ w.cell? ⟨g, 1, none⟩ = some a1 ∧ g < w.heap.size ∧ ∀ i, w.frozen? ⟨g, i, none⟩ = false :=
  ⟨h.cell 0 _ rfl, h.cell 1 _ rfl, h.lt, h.f⟩
theorem Blk.o3 {w : World} {g : Nat} {a0 a1 a2 : Value} (h : Blk w g #[a0, a1, a2]) : w.cell? ⟨g, 0, none⟩ = some a0 ∧ w.cell? ⟨g, 1, none⟩ = some a1 ∧ w.cell? ⟨g, 2, none⟩ = some a2 ∧ g < w.heap.size ∧ ∀ i, w.frozen? ⟨g, i, none⟩ = false :=
  ⟨h.cell 0 _ rfl, h.cell 1 _ rfl, h.cell 2 _ rfl, h.lt, h.f⟩
theorem Blk.o4 {w : World} {g : Nat} {a0 a1 a2 a3 : Value} (h : Blk w g #[a0, a1, a2, a3]) : w.cell? ⟨g, 0, none⟩ = some a0 ∧ w.cell? ⟨g, 1, none⟩ = some a1 ∧ w.cell? ⟨g, 2, none⟩ = some a2 ∧ w.cell? ⟨g, 3, none⟩ = some a3 ∧ g < w.heap.size ∧ ∀ i, w.frozen? ⟨g, i, none⟩ = false :=
  ⟨h.cell 0 _ rfl, h.cell 1 _ rfl, h.cell 2 _ rfl, h.cell 3 _ rfl, h.lt, h.f⟩
theorem Blk.o5 {w : World} {g : Nat} {a0 a1 a2 a3 a4 : Value} (h : Blk w g #[a0, a1, a2, a3, a4]) : w.cell? ⟨g, 0, none⟩ = some a0 ∧ w.cell? ⟨g, 1, none⟩ = some a1 ∧ w.cell? ⟨g, 2, none⟩ = some a2 ∧ w.cell? ⟨g, 3, none⟩ = some a3 ∧ w.cell? ⟨g, 4, none⟩ = some a4 ∧ g < w.heap.size ∧ ∀ i, w.frozen? ⟨g, i, none⟩ = false :=
  ⟨h.cell 0 _ rfl, h.cell 1 _ rfl, h.cell 2 _ rfl, h.cell 3 _ rfl, h.cell 4 _ rfl, h.lt, h.f⟩
theorem Blk.o6 {w : World} {g : Nat} {a0 a1 a2 a3 a4 a5 : Value} (h : Blk w g #[a0, a1, a2, a3, a4, a5]) : w.cell? ⟨g, 0, none⟩ = some a0 ∧ w.cell? ⟨g, 1, none⟩ = some a1 ∧ w.cell? ⟨g, 2, none⟩ = some a2 ∧ w.cell? ⟨g, 3, none⟩ = some a3 ∧ w.cell? ⟨g, 4, none⟩ = some a4 ∧ w.cell? ⟨g, 5, none⟩ = some a5 ∧ g < w.heap.size ∧ ∀ i, w.frozen? ⟨g, i, none⟩ = false :=
  ⟨h.cell 0 _ rfl, h.cell 1 _ rfl, h.cell 2 _ rfl, h.cell 3 _ rfl, h.cell 4 _ rfl, h.cell 5 _ rfl, h.lt, h.f⟩
theorem Blk.o7 {w : World} {g : Nat} {a0 a1 a2 a3 a4 a5 a6 : Value} (h : Blk w g #[a0, a1, a2, a3, a4, a5, a6]) : w.cell? ⟨g, 0, none⟩ = some a0 ∧ w.cell? ⟨g, 1, none⟩ = some a1 ∧ w.cell? ⟨g, 2, none⟩ = some a2 ∧ w.cell? ⟨g, 3, none⟩ = some a3 ∧ w.cell? ⟨g, 4, none⟩ = some a4 ∧ w.cell? ⟨g, 5, none⟩ = some a5 ∧ w.cell? ⟨g, 6, none⟩ = some a6 ∧ g < w.heap.size ∧ ∀ i, w.frozen? ⟨g, i, none⟩ = false :=
  ⟨h.cell 0 _ rfl, h.cell 1 _ rfl, h.cell 2 _ rfl, h.cell 3 _ rfl, h.cell 4 _ rfl, h.cell 5 _ rfl, h.cell 6 _ rfl, h.lt, h.f⟩
theorem Blk.o8 {w : World} {g : Nat} {a0 a1 a2 a3 a4 a5 a6 a7 : Value} (h : Blk w g #[a0, a1, a2, a3, a4, a5, a6, a7]) : w.cell? ⟨g, 0, none⟩ = some a0 ∧ w.cell? ⟨g, 1, none⟩ = some a1 ∧ w.cell? ⟨g, 2, none⟩ = some a2 ∧ w.cell? ⟨g, 3, none⟩ = some a3 ∧ w.cell? ⟨g, 4, none⟩ = some a4 ∧ w.cell? ⟨g, 5, none⟩ = some a5 ∧ w.cell? ⟨g, 6, none⟩ = some a6 ∧ w.cell? ⟨g, 7, none⟩ = some a7 ∧ g < w.heap.size ∧ ∀ i, w.frozen? ⟨g, i, none⟩ = false :=
  ⟨h.cell 0 _ rfl, h.cell 1 _ rfl, h.cell 2 _ rfl, h.cell 3 _ rfl, h.cell 4 _ rfl, h.cell 5 _ rfl, h.cell 6 _ rfl, h.cell 7 _ rfl, h.lt, h.f⟩
theorem Blk.o9 {w : World} {g : Nat} {a0 a1 a2 a3 a4 a5 a6 a7 a8 : Value} (h : Blk w g #[a0, a1, a2, a3, a4, a5, a6, a7, a8]) : w.cell? ⟨g, 0, none⟩ = some a0 ∧ w.cell? ⟨g, 1, none⟩ = some a1 ∧ w.cell? ⟨g, 2, none⟩ = some a2 ∧ w.cell? ⟨g, 3, none⟩ = some a3 ∧ w.cell? ⟨g, 4, none⟩ = some a4 ∧ w.cell? ⟨g, 5, none⟩ = some a5 ∧ w.cell? ⟨g, 6, none⟩ = some a6 ∧ w.cell? ⟨g, 7, none⟩ = some a7 ∧ w.cell? ⟨g, 8, none⟩ = some a8 ∧ g < w.heap.size ∧ ∀ i, w.frozen? ⟨g, i, none⟩ = false :=
  ⟨h.cell 0 _ rfl, h.cell 1 _ rfl, h.cell 2 _ rfl, h.cell 3 _ rfl, h.cell 4 _ rfl, h.cell 5 _ rfl, h.cell 6 _ rfl, h.cell 7 _ rfl, h.cell 8 _ rfl, h.lt, h.f⟩
theorem Blk.o10 {w : World} {g : Nat} {a0 a1 a2 a3 a4 a5 a6 a7 a8 a9 : Value} (h : Blk w g #[a0, a1, a2, a3, a4, a5, a6, a7, a8, a9]) : w.cell? ⟨g, 0, none⟩ = some a0 ∧ w.cell? ⟨g, 1, none⟩ = some a1 ∧ w.cell? ⟨g, 2, none⟩ = some a2 ∧ w.cell? ⟨g, 3, none⟩ = some a3 ∧ w.cell? ⟨g, 4, none⟩ = some a4 ∧ w.cell? ⟨g, 5, none⟩ = some a5 ∧ w.cell? ⟨g, 6, none⟩ = some a6 ∧ w.cell? ⟨g, 7, none⟩ = some a7 ∧ w.cell? ⟨g, 8, none⟩ = some a8 ∧ w.cell? ⟨g, 9, none⟩ = some a9 ∧ g < w.heap.size ∧ ∀ i, w.frozen? ⟨g, i, none⟩ = false :=
  ⟨h.cell 0 _ rfl, h.cell 1 _ rfl, h.cell 2 _ rfl, h.cell 3 _ rfl, h.cell 4 _ rfl, h.cell 5 _ rfl, h.cell 6 _ rfl, h.cell 7 _ rfl, h.cell 8 _ rfl, h.cell 9 _ rfl, h.lt, h.f⟩
end Go.Proofs.YtpkldjlljoledaaGreatDoor.Calm

/- Lists of drivers of a class; contracts of the statements' class and drivers, of the reference's Small and SameDrivers. %still -/
namespace Go.Proofs.YtpkldjlljoledaaGreatDoor
open Go.RowKit
open Calm (bcell Blk)

/-- the slice of these drivers lies in memory. -/
def DCells (w : World) (A : Option Addr) (re le bl : Int) (xs : List (Int × Int × Int)) : Prop :=
  0 < xs.length → ∃ b off, A = some ⟨b, off, none⟩ ∧ b < w.heap.size ∧ ∀ k, k < xs.length → w.cell? ⟨b, off + k * 6, none⟩ = some (.int .i64 (re)) ∧ w.cell? ⟨b, off + k * 6 + 1, none⟩ = some (.int .i64 (le)) ∧ w.cell? ⟨b, off + k * 6 + 2, none⟩ = some (.int .i64 (bl)) ∧
    w.cell? ⟨b, off + k * 6 + 3, none⟩ = some (.int .i64 ((xs.getD k (0, 0, 0)).1)) ∧ w.cell? ⟨b, off + k * 6 + 4, none⟩ = some (.int .i64 ((xs.getD k (0, 0, 0)).2.1)) ∧ w.cell? ⟨b, off + k * 6 + 5, none⟩ = some (.int .i64 ((xs.getD k (0, 0, 0)).2.2))
theorem DCells.below {w w' : World} {A : Option Addr} {re le bl : Int} {xs : List (Int × Int × Int)} (h : DCells w A re le bl xs) (hb : Below w.heap.size w w') : DCells w' A re le bl xs := by
  intro h0
  obtain ⟨b, off, hA, hl, hc⟩ := h h0
  refine ⟨b, off, hA, Nat.lt_of_lt_of_le hl hb.size, fun k hk => ?_⟩
  obtain ⟨h1, h2, h3, h4, h5, h6⟩ := hc k hk
  exact ⟨(hb.cell (p := ⟨b, off + k * 6, none⟩) hl).trans h1, (hb.cell (p := ⟨b, off + k * 6 + 1, none⟩) hl).trans h2, (hb.cell (p := ⟨b, off + k * 6 + 2, none⟩) hl).trans h3, (hb.cell (p := ⟨b, off + k * 6 + 3, none⟩) hl).trans h4, (hb.cell (p := ⟨b, off + k * 6 + 4, none⟩) hl).trans h5, (hb.cell (p := ⟨b, off + k * 6 + 5, none⟩) hl).trans h6⟩
theorem flat6_at (re le bl : Int) : ∀ (xs : List (Int × Int × Int)) (k : Nat), k < xs.length →
    (flat6 re le bl xs)[k * 6]? = some (.int .i64 (re)) ∧ (flat6 re le bl xs)[k * 6 + 1]? = some (.int .i64 (le)) ∧ (flat6 re le bl xs)[k * 6 + 2]? = some (.int .i64 (bl)) ∧
    (flat6 re le bl xs)[k * 6 + 3]? = some (.int .i64 ((xs.getD k (0, 0, 0)).1)) ∧ (flat6 re le bl xs)[k * 6 + 4]? = some (.int .i64 ((xs.getD k (0, 0, 0)).2.1)) ∧ (flat6 re le bl xs)[k * 6 + 5]? = some (.int .i64 ((xs.getD k (0, 0, 0)).2.2))
  | [], k, h => by simp at h
  | z :: zs, 0, h => by simp [flat6]
  | z :: zs, k + 1, h => by
    have := flat6_at re le bl zs k (by simpa using h)
    rw [show (k + 1) * 6 = k * 6 + 6 by omega, show k * 6 + 6 + 1 = (k * 6 + 1) + 6 by omega, show k * 6 + 6 + 2 = (k * 6 + 2) + 6 by omega, show k * 6 + 6 + 3 = (k * 6 + 3) + 6 by omega, show k * 6 + 6 + 4 = (k * 6 + 4) + 6 by omega, show k * 6 + 6 + 5 = (k * 6 + 5) + 6 by omega]
    simpa [flat6] using this
theorem own_drvs {W : World} {base n : Nat} {e : TypeId} {v : Value} {re le bl : Int} {xs : List (Int × Int × Int)} (h : W.ownsRow base e 6 v n (flat6 re le bl xs)) (hn : n = xs.length) : ∃ A c, v = .slice A n c ∧ (∀ p, A = some p → base ≤ p.block) ∧ DCells W A re le bl xs := by
  rcases h.2 with ⟨h1, h2⟩ | ⟨g, cap, cur, h1, h2, h3, h4, h5, h6, h7⟩
  · exact ⟨none, 0, by rw [h1, h2], by simp, fun h0 => by omega⟩
  · refine ⟨some ⟨g, 0, none⟩, cap, h1, by rintro p ⟨⟩; exact h2, fun h0 => ⟨g, 0, rfl, (Array.getElem?_eq_some_iff.1 h3).1, fun k hk => ?_⟩⟩
    obtain ⟨f1, f2, f3, f4, f5, f6⟩ := flat6_at re le bl xs k hk
    have look : ∀ j v, (flat6 re le bl xs)[j]? = some v → W.cell? ⟨g, j, none⟩ = some v := by
      intro j v hj
      rw [cell_of_row W g j cur _ _ h3]
      rw [← h7, List.getElem?_take] at hj
      split at hj
      · rw [← hj]; simp
      · cases hj
    simp only [Nat.zero_add]
    exact ⟨look _ _ f1, look _ _ f2, look _ _ f3, look _ _ f4, look _ _ f5, look _ _ f6⟩
theorem take_flat6 {re le bl : Int} {zs : List (Int × Int × Int)} {k : Nat} (hk : k < zs.length) : flat6 re le bl (zs.take (k + 1)) = flat6 re le bl (zs.take k) ++ [(.int .i64 (re)), (.int .i64 (le)), (.int .i64 (bl)), (.int .i64 ((zs.getD k (0, 0, 0)).1)), (.int .i64 ((zs.getD k (0, 0, 0)).2.1)), (.int .i64 ((zs.getD k (0, 0, 0)).2.2))] := by
  rw [List.take_succ_eq_append_getElem hk, flat6_append, List.getD_eq_getElem?_getD, List.getElem?_eq_getElem hk]
  rfl
theorem Tryz.infoE : (Tryz.prog.info? 23).map (fun i => (i.zero, i.size, i.bytes)) = some (some (.agg #[.int .i64 0, .int .i64 0, .int .i64 0, .int .i64 0, .int .i64 0, .int .i64 0]), 6, 48) := by kernel_rfl
theorem class_any (re le bl ma st lo m k r : Int) (w : World) : Calls Tryz.prog 12 #[.agg #[(.int .i64 (re)), (.int .i64 (le)), (.int .i64 (bl)), (.int .i64 (ma)), (.int .i64 (st)), (.int .i64 (lo)), (.int .i64 (m)), (.int .i64 (k)), (.int .i64 (r))]] w fun x w' => x = .returned (.agg #[(.int .i64 (re)), (.int .i64 (le)), (.int .i64 (bl)), (.int .i64 (ma)), (.int .i64 (st)), (.int .i64 (lo)), (.int .i64 (m)), (.int .i64 (k)), (.int .i64 (r))]) ∧ Below w.heap.size w w' := by
  go_enter Tryz.func12, Tryz.ntmps12
  go_wp2
  refine bodyPost_ret (v := .agg #[(.int .i64 (re)), (.int .i64 (le)), (.int .i64 (bl)), (.int .i64 (ma)), (.int .i64 (st)), (.int .i64 (lo)), (.int .i64 (m)), (.int .i64 (k)), (.int .i64 (r))]) (by simp [results, Tryz.results12, go_sem, *]) rfl ⟨rfl, ?_⟩
  repeat (first | (with_reducible exact Below.refl _ _) | ((with_reducible refine Below.setCell ?_ ?_ _); rotate_left 1; focus (first | (simp; done) | (simp; omega) | (simp at *; omega))) | ((with_reducible refine Below.alloc ?_ ?_ _); rotate_left 1; focus (first | (simp; done) | (simp; omega) | (simp at *; omega))) | (with_reducible refine Below.drew ?_) | ((with_reducible refine Calm.step (by assumption) ?_ ?_); rotate_left 1; focus (first | (simp; done) | (simp; omega) | (simp at *; omega))))
set_option maxHeartbeats 4000000 in
set_option maxRecDepth 100000 in
theorem driversOf_any (A : Option Addr) (re le bl : Int) (zs : List (Int × Int × Int)) (c : Nat) (w : World) (hC : DCells w A re le bl zs) (hn : zs.length ≤ 100000) :
    Calls Tryz.prog 20 #[.slice A zs.length c] w fun r w' => ∃ B e, r = .returned (.slice B zs.length e) ∧ DCells w' B re le bl zs ∧ Below w.heap.size w w' := by
  obtain ⟨i0, hi, hz0, hz1, hz2⟩ := info_parts Tryz.infoE
  have HC := Lib.hid hC
  obtain ⟨N, hN⟩ : ∃ N, N = zs.length := ⟨_, rfl⟩
  have HN := Lib.hid hN
  rw [← hN] at hn ⊢
  clear hC hN
  go_enter Tryz.func20, Tryz.ntmps20
  go_wp2
  go_loopw [3, 8] (fun v i wr => ∃ k : Nat, k ≤ N ∧ i = (.int .i64 (k)) ∧ wr.ownsRow w.heap.size 23 6 v k (flat6 re le bl (zs.take k)) ∧ Below w.heap.size w wr) (fun _ i _ => N - (intOf i).toNat)
  case atStart => exact ⟨0, Nat.zero_le _, rfl, World.ownsRow_nil _ _ _ _, Below.refl _ _⟩
  case round =>
    obtain ⟨k, hk, rfl, hown, hB⟩ := hrel
    have hsz := hB.size
    have HO := Lib.hid hown
    clear hown
    by_cases hlt : k < N
    · have hlt2 : k < zs.length := by rw [← HN.out]; exact hlt
      obtain ⟨b, o, rfl, l1, k1⟩ := (HC.out.below hB) (by omega)
      obtain ⟨x1, x2, x3, x4, x5, x6⟩ := k1 k hlt2
      have HS := Lib.hid (take_flat6 (re := re) (le := le) (bl := bl) hlt2)
      clear k1 hlt2
      obtain ⟨⟨x, y, z⟩, hx⟩ : ∃ x, x = zs.getD k (0, 0, 0) := ⟨_, rfl⟩
      rw [← hx] at x4 x5 x6
      have HX := Lib.hid hx
      clear hx
      simp only [] at x4 x5 x6
      go_wp2_with (at_builtin; refine wpList_append_own _ rfl _ _ 44 rfl w.heap.size 23 i0 _ 6 48 Tryz.underlying44 hi hz0 hz1 hz2 rfl (by decide) _ _ _ rfl ((ownsRow_below HO.out ((Below.refl _ _).alloc (Nat.le_refl _) _)).alloc _) ⟨wr.heap.size + 1, 0, none⟩ 1 1 [(.int .i64 (re)), (.int .i64 (le)), (.int .i64 (bl)), (.int .i64 (x)), (.int .i64 (y)), (.int .i64 (z))] rfl rfl ?c1 ?c2 ?c3 ?c4 ?c5 ?_)
      case c1 =>
        intro j u hj
        match j, hj with
        | 0, hj => simp at hj; subst hj; simp [Addr.add]
        | 1, hj => simp at hj; subst hj; simp [Addr.add]
        | 2, hj => simp at hj; subst hj; simp [Addr.add]
        | 3, hj => simp at hj; subst hj; simp [Addr.add]
        | 4, hj => simp at hj; subst hj; simp [Addr.add]
        | 5, hj => simp at hj; subst hj; simp [Addr.add]
      case c2 => intro u hu; simp at hu; rcases hu with rfl | rfl | rfl | rfl | rfl | rfl <;> rfl
      case c3 => unfold maxLen; omega
      case c4 => omega
      case c5 => simp; omega
      intro v' w2 hown' hgrow _
      have hB' : Below w.heap.size w w2 := ((hB.alloc hsz _).alloc (by simp; omega) _).grown hgrow (by simp; omega) (fun j hj => (HO.out.lt j hj).1)
      have HO2 := Lib.hid hown'
      clear hgrow hown'
      go_wp2
      go_roundw
      case rel => exact ⟨k + 1, by omega, by go_num, by rw [HS.out, ← HX.out]; exact HO2.out, hB'⟩
      case measure => simp [intOf]; omega
    · obtain rfl : k = N := by omega
      have e : zs.take k = zs := by rw [HN.out]; exact List.take_length
      have hown := HO.out
      rw [e] at hown
      obtain ⟨B, cc, rfl, _, hr⟩ := own_drvs hown HN.out
      have HR := Lib.hid hr
      clear hr hown e
      go_wp2
      go_ret
      exact ⟨B, cc, rfl, HR.out, hB⟩
set_option maxRecDepth 100000 in
set_option maxHeartbeats 4000000 in
theorem sameDrivers_eq (A B : Option Addr) (re le bl : Int) (zs : List (Int × Int × Int)) (ca cb : Nat) (w : World) (hn : zs.length ≤ 100000) (hA : DCells w A re le bl zs) (hB : DCells w B re le bl zs) :
    Calls Tryz.prog 19 #[.slice A zs.length ca, .slice B zs.length cb] w fun x w' => x = .returned (.bool true) ∧ Below w.heap.size w w' := by
  have HCA := Lib.hid hA
  have HCB := Lib.hid hB
  obtain ⟨N, hN⟩ : ∃ N, N = zs.length := ⟨_, rfl⟩
  have HN := Lib.hid hN
  rw [← hN] at hn ⊢
  clear hA hB hN
  go_enter Tryz.func19, Tryz.ntmps19
  go_wp2
  go_loopw [5] (fun i wr => ∃ k : Nat, k ≤ N ∧ i = (.int .i64 ((k : Nat))) ∧ Below w.heap.size w wr) (fun i _ => N - (intOf i).toNat)
  case atStart => exact ⟨0, by omega, rfl, Below.refl _ _⟩
  case round =>
    obtain ⟨k, hk, rfl, hBr⟩ := hrel
    have HBR := Lib.hid hBr
    have hszr := hBr.size
    clear hBr
    by_cases hlt : k < N
    · have l1 : k < zs.length := by rw [← HN.out]; exact hlt
      obtain ⟨g, o, rfl, q1, k1⟩ := (HCA.out.below HBR.out) (by omega)
      obtain ⟨g', o', rfl, q2, k2⟩ := (HCB.out.below HBR.out) (by omega)
      obtain ⟨y1, y2, y3, y4, y5, y6⟩ := k1 k l1
      obtain ⟨z1, z2, z3, z4, z5, z6⟩ := k2 k l1
      clear k1 k2 l1
      obtain ⟨⟨x, y, z⟩, hx⟩ : ∃ x, x = zs.getD k (0, 0, 0) := ⟨_, rfl⟩
      rw [← hx] at y4 y5 y6 z4 z5 z6
      clear hx
      simp only [] at y4 y5 y6 z4 z5 z6
      go_wp2
      refine Calm.still_tail 8 (by kernel_rfl) (by kernel_rfl) ?_
      simp only [List.take_succ_cons, List.take_zero, List.drop_succ_cons, List.drop_zero]
      repeat (first | (apply Calm.still_op_move; (focus rfl); (focus (first | exact .inl rfl | exact .inr rfl)); (focus ((try simp only [Act.eval, Array.getD_eq_getD_getElem?, List.getElem?_toArray, List.getElem?_cons_succ, List.getElem?_cons_zero, Option.getD_some]); rfl)); (try simp only [Act.put, List.setIfInBounds_toArray, List.set_cons_zero, List.set_cons_succ])) | (apply Calm.still_op_not; (focus rfl); (try simp only [Act.put, List.setIfInBounds_toArray, List.set_cons_zero, List.set_cons_succ])) | (apply Calm.still_op; (focus rfl); (focus (intro W hb; obtain ⟨hc, hf⟩ := bcell hb; clear hb hf; go_simp; (try go_bits); (try rfl); done)); (try simp only [Act.put, List.setIfInBounds_toArray, List.set_cons_zero, List.set_cons_succ])))
      refine Calm.still_nil ?_
      intro w2 hb2
      obtain ⟨hb2c, hb2f⟩ := bcell hb2
      have hb2z := hb2.size
      (try simp at hb2z)
      (try have hb2z0 : w.heap.size < w2.heap.size := by omega)
      (try have hb2z1 : w.heap.size + 1 < w2.heap.size := by omega)
      (try have hb2z2 : w.heap.size + 1 + 1 < w2.heap.size := by omega)
      (try have hb2z3 : w.heap.size + 1 + 1 + 1 < w2.heap.size := by omega)
      (try have hb2z4 : w.heap.size + 1 + 1 + 1 + 1 < w2.heap.size := by omega)
      (try have hb2z5 : w.heap.size + 1 + 1 + 1 + 1 + 1 < w2.heap.size := by omega)
      go_wp2
      go_roundw
      case rel => exact ⟨k + 1, by omega, by go_num, HBR.out.trans (hb2.mono hszr)⟩
      case measure => simp [intOf]; omega
    · obtain rfl : k = N := by omega
      go_wp2
      go_ret
      exact ⟨rfl, HBR.out⟩
set_option maxHeartbeats 4000000 in
theorem small_yes (re le bl ma st lo m k r : Int) (w : World) (h : classErr re le bl ma st lo m k r ≠ 0 ∨ classErr re le bl ma st lo m k r = 0 ∧ classN ma st lo m k r ≤ 300) :
    Calls Tryz.prog 10 #[.agg #[(.int .i64 (re)), (.int .i64 (le)), (.int .i64 (bl)), (.int .i64 (ma)), (.int .i64 (st)), (.int .i64 (lo)), (.int .i64 (m)), (.int .i64 (k)), (.int .i64 (r))]] w fun x w' => x = .returned (.bool true) ∧ Below w.heap.size w w' := by
  have HC : Hid (∀ W : World, Calls Tryz.prog 15 #[.agg #[(.int .i64 (re)), (.int .i64 (le)), (.int .i64 (bl)), (.int .i64 (ma)), (.int .i64 (st)), (.int .i64 (lo)), (.int .i64 (m)), (.int .i64 (k)), (.int .i64 (r))]] W fun x w' => x = .returned (.int .i64 (classErr re le bl ma st lo m k r)) ∧ Below W.heap.size W w') := Lib.hid (fun W => refCheckClass_any re le bl ma st lo m k r W)
  rcases h with h | ⟨h, hN⟩
  · generalize classErr re le bl ma st lo m k r = E at h HC
    go_enter Tryz.func10, Tryz.ntmps10
    go_wp2_with (go_at_call 15; refine (HC.out _).mono ?_; rintro r w1 ⟨rfl, hb⟩; obtain ⟨hc, hf⟩ := bcell hb; have hz := hb.size; (try simp at hz); have hz0 : w.heap.size < w1.heap.size := by omega)
    go_ret
    refine ⟨by first | rfl | (simp; done), ?_⟩
    repeat (first | (with_reducible exact Below.refl _ _) | ((with_reducible refine Below.setCell ?_ ?_ _); rotate_left 1; focus (first | (simp; done) | (simp; omega) | (simp at *; omega))) | ((with_reducible refine Below.alloc ?_ ?_ _); rotate_left 1; focus (first | (simp; done) | (simp; omega) | (simp at *; omega))) | (with_reducible refine Below.drew ?_) | ((with_reducible refine Calm.step (by assumption) ?_ ?_); rotate_left 1; focus (first | (simp; done) | (simp; omega) | (simp at *; omega))))
  · obtain ⟨hp, _⟩ := classErr_zero h
    obtain ⟨hd, ⟨a1, a2⟩, ⟨a3, a4⟩, ⟨a5, a6⟩⟩ := class_zero hp
    obtain ⟨_, _, _, ⟨d1, d2⟩, ⟨d3, d4⟩, ⟨d5, d6⟩⟩ := drvErr_zero hd
    rw [h] at HC
    clear h hp hd
    have q1 : Bd 100 (m - ma + 1) := ⟨by omega, by omega⟩
    have q2 : Bd 5000 (k - st + 1) := ⟨by omega, by omega⟩
    have q3 : Bd 100 (r - lo + 1) := ⟨by omega, by omega⟩
    obtain ⟨e1, e2⟩ := q1.mul q2 (by omega)
    have q4 : Bd 500000 ((m - ma + 1) * (k - st + 1)) := ⟨by omega, by omega⟩
    obtain ⟨e3, e4⟩ := q4.mul q3 (by omega)
    clear q1 q2 q3 q4
    unfold classN at hN
    go_enter Tryz.func10, Tryz.ntmps10
    go_wp2_with (go_at_call 15; refine (HC.out _).mono ?_; rintro r w1 ⟨rfl, hb⟩; obtain ⟨hc, hf⟩ := bcell hb; have hz := hb.size; (try simp at hz); have hz0 : w.heap.size < w1.heap.size := by omega)
    go_ret
    refine ⟨by first | rfl | (simp; omega), ?_⟩
    repeat (first | (with_reducible exact Below.refl _ _) | ((with_reducible refine Below.setCell ?_ ?_ _); rotate_left 1; focus (first | (simp; done) | (simp; omega) | (simp at *; omega))) | ((with_reducible refine Below.alloc ?_ ?_ _); rotate_left 1; focus (first | (simp; done) | (simp; omega) | (simp at *; omega))) | (with_reducible refine Below.drew ?_) | ((with_reducible refine Calm.step (by assumption) ?_ ?_); rotate_left 1; focus (first | (simp; done) | (simp; omega) | (simp at *; omega))))
set_option maxHeartbeats 4000000 in
theorem small_no (re le bl ma st lo m k r : Int) (w : World) (h : classErr re le bl ma st lo m k r = 0) (hN : 300 < classN ma st lo m k r) :
    Calls Tryz.prog 10 #[.agg #[(.int .i64 (re)), (.int .i64 (le)), (.int .i64 (bl)), (.int .i64 (ma)), (.int .i64 (st)), (.int .i64 (lo)), (.int .i64 (m)), (.int .i64 (k)), (.int .i64 (r))]] w fun x w' => x = .returned (.bool false) ∧ Below w.heap.size w w' := by
  have HC : Hid (∀ W : World, Calls Tryz.prog 15 #[.agg #[(.int .i64 (re)), (.int .i64 (le)), (.int .i64 (bl)), (.int .i64 (ma)), (.int .i64 (st)), (.int .i64 (lo)), (.int .i64 (m)), (.int .i64 (k)), (.int .i64 (r))]] W fun x w' => x = .returned (.int .i64 (0)) ∧ Below W.heap.size W w') := Lib.hid (fun W => by have := refCheckClass_any re le bl ma st lo m k r W; rwa [h] at this)
  obtain ⟨hp, _⟩ := classErr_zero h
  obtain ⟨hd, ⟨a1, a2⟩, ⟨a3, a4⟩, ⟨a5, a6⟩⟩ := class_zero hp
  obtain ⟨_, _, _, ⟨d1, d2⟩, ⟨d3, d4⟩, ⟨d5, d6⟩⟩ := drvErr_zero hd
  clear h hp hd
  have q1 : Bd 100 (m - ma + 1) := ⟨by omega, by omega⟩
  have q2 : Bd 5000 (k - st + 1) := ⟨by omega, by omega⟩
  have q3 : Bd 100 (r - lo + 1) := ⟨by omega, by omega⟩
  obtain ⟨e1, e2⟩ := q1.mul q2 (by omega)
  have q4 : Bd 500000 ((m - ma + 1) * (k - st + 1)) := ⟨by omega, by omega⟩
  obtain ⟨e3, e4⟩ := q4.mul q3 (by omega)
  clear q1 q2 q3 q4
  unfold classN at hN
  go_enter Tryz.func10, Tryz.ntmps10
  go_wp2_with (go_at_call 15; refine (HC.out _).mono ?_; rintro r w1 ⟨rfl, hb⟩; obtain ⟨hc, hf⟩ := bcell hb; have hz := hb.size; (try simp at hz); have hz0 : w.heap.size < w1.heap.size := by omega)
  go_ret
  refine ⟨by first | rfl | (simp; omega), ?_⟩
  repeat (first | (with_reducible exact Below.refl _ _) | ((with_reducible refine Below.setCell ?_ ?_ _); rotate_left 1; focus (first | (simp; done) | (simp; omega) | (simp at *; omega))) | ((with_reducible refine Below.alloc ?_ ?_ _); rotate_left 1; focus (first | (simp; done) | (simp; omega) | (simp at *; omega))) | (with_reducible refine Below.drew ?_) | ((with_reducible refine Calm.step (by assumption) ?_ ?_); rotate_left 1; focus (first | (simp; done) | (simp; omega) | (simp at *; omega))))
end Go.Proofs.YtpkldjlljoledaaGreatDoor
