/- Part 22 of the texts of the claim: N2, LGu_0, LGu_1. -/
import Derived.Test.YtdeapbihbhoefaaDoorGu21

/- The reference's Begin, CheckState, SameState. -/
namespace Go.Proofs.YtdeapbihbhoefaaDoor
open Go.RowKit
open Calm (bcell Blk)

set_option maxRecDepth 100000 in
set_option maxHeartbeats 1000000 in
theorem rBegin_typed (lk ht rc : Int) (A1 A2 : Option Addr) (n1 c1 n2 c2 : Nat) (w : World) (h1 : 1 ≤ n1 ∧ n1 ≤ 1000000) (h2 : 1 ≤ n2 ∧ n2 ≤ 1000000) :
    Calls Tryd.prog 19 #[.agg #[(.int .i64 (lk)), (.int .i64 (ht)), .slice A1 n1 c1, (.int .i64 (rc)), .slice A2 n2 c2]] w fun r w' => (∃ B, w.heap.size ≤ B.block ∧ r = .returned (.agg #[(.int .i64 (0)), (.int .i64 (((n2 - 1 : Nat) : Int))), .slice (some B) (n1 - 1) (n1 - 1)]) ∧ Cells w' (some B) (List.replicate (n1 - 1) 0) ∧ IntRow w' B) ∧ Below w.heap.size w w' := by
  obtain ⟨a, rfl⟩ : ∃ a, n1 = a + 1 := ⟨n1 - 1, by omega⟩
  obtain ⟨b, rfl⟩ : ∃ b, n2 = b + 1 := ⟨n2 - 1, by omega⟩
  have hmk := mk_ints a (by omega)
  have e1 : ((a + 1 : Nat) : Int) - 1 = (a : Int) := by omega
  have e2 : ((b + 1 : Nat) : Int) - 1 = (b : Int) := by omega
  have E1 := Lib.hid e1
  have E2 := Lib.hid e2
  simp only [Nat.add_sub_cancel]
  obtain ⟨b1, b2⟩ := h1
  obtain ⟨b3, b4⟩ := h2
  clear e1 e2
  go_enter Tryd.func19, Tryd.ntmps19
  go_wp2
  refine Rel.region3 9 (by kernel_rfl) (by kernel_rfl) (by kernel_rfl) ?_
  simp only [List.take_succ_cons, List.take_zero, List.drop_succ_cons, List.drop_zero, List.filterMap_cons, List.filterMap_nil]
  iterate 8 (apply Rel.op3; (focus (first | exact Rel.gno rfl | exact Rel.gyes _ true _ rfl rfl rfl | exact Rel.gyes _ false _ rfl rfl rfl)); (focus (intro a W hb hd hbase; obtain ⟨hc, hf⟩ := bcell hb; clear hb hf; simp [Rel.deps, Rel.dep1, Rel.ons, Region.binds, Act.eval] at hd; simp only [Act.eval, List.mem_cons, List.not_mem_nil, not_or, and_imp, or_false, Array.getD_eq_getD_getElem?] at hbase; go_simp; (try go_bits); (try rfl); done)); (try simp only [List.nil_append, List.cons_append]))
  refine Rel.buildT3 3 a a (zerosA a).toArray (Rel.gno rfl) ?_ ?_
  · intro ac W hb hd hbase
    simp [Rel.deps, Rel.dep1, Rel.ons, Region.binds, Act.eval] at hd
    go_simp
  (try simp only [List.nil_append, List.cons_append])
  refine Rel.done3 ?_
  intro x w1 hb1 hx
  simp only [Rel.facts, Nat.zero_add, Nat.reduceAdd] at hx
  obtain ⟨e0, e1, e2, e3, e4, e5, e6, e7, ⟨g, e8, hg, hKR⟩, _⟩ := hx
  simp only [Rel.fill, Nat.zero_add, Nat.reduceAdd, e0, e1, e2, e3, e4, e5, e6, e7, e8]
  simp only [Act.put, List.setIfInBounds_toArray, List.set_cons_zero, List.set_cons_succ]
  clear e0 e1 e2 e3 e4 e5 e6 e7 e8 hmk
  have K2 : Blk w1 (w.heap.size + 1) #[(.int .i64 (0)), (.int .i64 (0)), .slice none 0 0] := Blk.below (by (repeat (first | ((with_reducible refine Blk.at_ ?_); focus (first | rfl | (simp; done) | (simp; omega))) | (with_reducible refine Blk.alloc ?_ _) | (with_reducible refine Blk.below ?_ (by with_reducible assumption)) | (with_reducible refine Blk.drew ?_)))) hb1
  have HB1 : Hid (Below w.heap.size w w1) := Lib.hid (Below.trans (by (repeat (first | (with_reducible exact Below.refl _ _) | ((with_reducible refine Below.setCell ?_ ?_ _); rotate_left 1; focus (first | (simp; done) | (simp; omega) | (simp at *; omega))) | ((with_reducible refine Below.alloc ?_ ?_ _); rotate_left 1; focus (first | (simp; done) | (simp; omega) | (simp at *; omega))) | (with_reducible refine Below.drew ?_) | ((with_reducible refine Calm.step (by assumption) ?_ ?_); rotate_left 1; focus (first | (simp; done) | (simp; omega) | (simp at *; omega)))))) (hb1.mono (by simp; omega)))
  have hK := Calm.Blk.row hKR
  have HC := Lib.hid (cells_zeros hK)
  have HI : Hid (IntRow w1 ⟨g, 0, none⟩) := Lib.hid ⟨_, hKR⟩
  clear hKR
  simp at hg
  have HK2 := Lib.hid K2
  obtain ⟨c0, c1', c2', l0, f0⟩ := K2.o3
  clear hb1 hK K2
  go_wp2
  have KR := HK2.out.set3 (.int .i64 (0)) (.int .i64 ((b : Int))) (.slice (some ⟨g, 0, none⟩) a a)
  obtain ⟨y0, y1, y2, yl, yf⟩ := KR.o3
  have q : 0 < (List.replicate a (0 : Int)).length → ∀ p, some (⟨g, 0, none⟩ : Addr) = some p → p.block ≠ w.heap.size + 1 := fun _ p hp => by cases hp; show g ≠ _; omega
  have q2 : (⟨g, 0, none⟩ : Addr).block ≠ w.heap.size + 1 := by show g ≠ _; omega
  clear c0 c1' c2' l0 f0 KR
  exact bodyPost_ret (v := .agg #[(.int .i64 (0)), (.int .i64 ((b : Int))), .slice (some ⟨g, 0, none⟩) a a]) (by simp [results, Tryd.results19, go_sem, y0, y1, y2]) rfl
    ⟨⟨⟨g, 0, none⟩, by show w.heap.size ≤ g; omega, rfl, ((HC.out.sets q _ _).sets q _ _).sets q _ _, ((HI.out.sets q2 _ _).sets q2 _ _).sets q2 _ _⟩, ((HB1.out.setCell (by simp) _).setCell (by simp) _).setCell (by simp) _⟩

theorem rBegin_K {lk ht rc : Int} {M L : Nat} {ts gs : List Int} {u : Value} {W : World} (h1 : 1 ≤ M ∧ M ≤ 1000) (h2 : 1 ≤ L ∧ L ≤ 1000) (hu : KG lk ht rc M ts L gs u W) : Calls Tryd.prog 19 #[u] W (KP (KTI 0 ((L - 1 : Nat) : Int) (M - 1) (List.replicate (M - 1) 0)) W) := by
  obtain ⟨A1, c1, A2, c2, rfl, _, _⟩ := hu
  exact (rBegin_typed lk ht rc A1 A2 M c1 L c2 W (by omega) (by omega)).mono fun e W' ⟨⟨B, _, h, hc, hi⟩, hb⟩ => ⟨_, h, ⟨_, _, rfl, hc, fun p hp => by cases hp; exact hi⟩, hb⟩
theorem rGuard_K {lk ht rc : Int} {M L : Nat} {ts gs : List Int} {u : Value} {W : World} (hM : M = ts.length) (hL : L = gs.length) (h1 : M ≤ 1000) (h2 : L ≤ 1000) (hu : KG lk ht rc M ts L gs u W) : Calls Tryd.prog 18 #[u] W (KP (KV (.int .i64 (guardErr lk ht rc ts gs))) W) := by
  obtain ⟨A1, c1, A2, c2, rfl, hT, hG⟩ := hu
  subst hM hL
  exact (pGuard_any lk ht rc ts gs A1 A2 c1 c2 W hT hG (by omega) (by omega)).mono fun e W' ⟨h, hb⟩ => ⟨_, h, rfl, hb⟩
set_option maxHeartbeats 1000000 in
theorem sameState_T {h lv : Int} {n : Nat} {l : List Int} {u v : Value} {W : World} (hn : n = l.length) (hn2 : n ≤ 1000) (hu : KT h lv n l u W) (hv : KT h lv n l v W) : Calls Tryd.prog 24 #[u, v] W (KP (KV (.bool true)) W) := by
  obtain ⟨B, c, rfl, hB⟩ := hu
  obtain ⟨B2, c2, rfl, hB2⟩ := hv
  have H1 := Lib.hid (show KS n l (.slice B n c) W from ⟨_, _, rfl, hB⟩)
  have H2 := Lib.hid (show KS n l (.slice B2 n c2) W from ⟨_, _, rfl, hB2⟩)
  have HN := Lib.hid hn
  clear hB hB2 hn
  go_enter Tryd.func24, Tryd.ntmps24
  go_wp2_with (go_at_call 38; refine name_calls ?_; intro w1 e1; refine Hid.out ?_)
  unfold Hid
  have hb1 : Below W.heap.size W w1 := by rw [e1]; (repeat (first | (with_reducible exact Below.refl _ _) | ((with_reducible refine Below.setCell ?_ ?_ _); rotate_left 1; focus (first | (simp; done) | (simp; omega) | (simp at *; omega))) | ((with_reducible refine Below.alloc ?_ ?_ _); rotate_left 1; focus (first | (simp; done) | (simp; omega) | (simp at *; omega))) | (with_reducible refine Below.drew ?_) | ((with_reducible refine Calm.step (by assumption) ?_ ?_); rotate_left 1; focus (first | (simp; done) | (simp; omega) | (simp at *; omega)))))
  have K1 := Lib.hid (KS.st _ _ _ _ _ H1.out hb1)
  have K2' := Lib.hid (KS.st _ _ _ _ _ H2.out hb1)
  have HB1 := Lib.hid hb1
  clear e1 hb1
  refine (same_T rfl HN.out HN.out (by omega) K1.out K2'.out).mono ?_
  rintro r w2 ⟨v2, rfl, hk, hb2⟩
  obtain rfl := hk
  have HB2 := Lib.hid (HB1.out.trans (hb2.mono HB1.out.size))
  clear hb2
  go_wp2
  go_ret
  exact ⟨_, by first | rfl | (simp; done), rfl, HB2.out⟩
theorem stErr_three {lk ht rc h lv : Int} {ts gs ps : List Int} (e : firstOf [guardErr lk ht rc ts gs, rangeErr h 0 536870912, rangeErr lv 0 ((gs.length : Int) - 1)] ≠ 0) : stErr lk ht rc ts gs h lv ps = firstOf [guardErr lk ht rc ts gs, rangeErr h 0 536870912, rangeErr lv 0 ((gs.length : Int) - 1)] := by
  unfold stErr
  by_cases h0 : guardErr lk ht rc ts gs = 0
  · rw [if_pos h0, h0, fo_cons0]
    unfold stErr2
    by_cases h1 : rangeErr h 0 536870912 = 0
    · rw [h1, fo_cons0, fo_cons0]
      by_cases h2 : rangeErr lv 0 ((gs.length : Int) - 1) = 0
      · exact absurd (by rw [h0, h1, h2]; rfl) e
      · rw [fo_consN h2, fo_consN h2]
    · rw [fo_consN h1, fo_consN h1]
  · rw [if_neg h0, fo_consN h0]
theorem stErr_rest {lk ht rc h lv : Int} {ts gs ps : List Int} (e : firstOf [guardErr lk ht rc ts gs, rangeErr h 0 536870912, rangeErr lv 0 ((gs.length : Int) - 1)] = 0) : stErr lk ht rc ts gs h lv ps = if ps.length + 1 = ts.length then eachErr ps (-2048) 2048 else 2 := by
  have h0 := firstOf_eq_zero.1 e
  have a1 := h0 (guardErr lk ht rc ts gs) (by simp)
  have a2 := h0 (rangeErr h 0 536870912) (by simp)
  have a3 := h0 (rangeErr lv 0 ((gs.length : Int) - 1)) (by simp)
  unfold stErr stErr2
  rw [if_pos a1, a2, a3, fo_cons0, fo_cons0]
  by_cases hs : ps.length + 1 = ts.length
  · rw [if_pos hs, if_pos hs, fo_cons0]
    by_cases he : eachErr ps (-2048) 2048 = 0
    · rw [he]; rfl
    · rw [fo_consN he]
  · rw [if_neg hs, if_neg hs]
    rfl

set_option maxRecDepth 100000 in
set_option maxHeartbeats 4000000 in
theorem rCheckState_K {lk ht rc h lv : Int} {M L n : Nat} {ts gs l : List Int} {u v : Value} {w : World} (hM : M = ts.length) (hL : L = gs.length) (hn : n = l.length) (h1 : M ≤ 1000) (h2 : L ≤ 1000) (h3 : n ≤ 1000) (hu : KG lk ht rc M ts L gs u w) (hv : KT h lv n l v w) : Calls Tryd.prog 23 #[u, v] w (KP (KV (.int .i64 (stErr lk ht rc ts gs h lv l))) w) := by
  obtain ⟨E, hE⟩ : ∃ E, E = guardErr lk ht rc ts gs := ⟨_, rfl⟩
  obtain ⟨RH, hRH⟩ : ∃ RH, RH = rangeErr h 0 536870912 := ⟨_, rfl⟩
  obtain ⟨RL, hRL⟩ : ∃ RL, RL = rangeErr lv 0 ((L : Int) - 1) := ⟨_, rfl⟩
  obtain ⟨F, hF⟩ : ∃ F, F = firstOf [E, RH, RL] := ⟨_, rfl⟩
  obtain ⟨S, hS⟩ : ∃ S, S = stErr lk ht rc ts gs h lv l := ⟨_, rfl⟩
  have HST0 : Hid (F = 0 → S = if n + 1 = M then eachErr l (-2048) 2048 else 2) := Lib.hid (fun e => by
    rw [hS, hn, hM]
    refine stErr_rest ?_
    rw [← hL, ← hE, ← hRH, ← hRL, ← hF]
    exact e)
  have HST1 : Hid (F ≠ 0 → S = F) := Lib.hid (fun e => by
    rw [hS, hF, hE, hRH, hRL, hL]
    refine stErr_three ?_
    rw [← hL, ← hE, ← hRH, ← hRL, ← hF]
    exact e)
  have HCG : Hid (∀ {x : Value} (W : World), KG lk ht rc M ts L gs x W → Calls Tryd.prog 18 #[x] W (KP (KV (.int .i64 (E))) W)) := Lib.hid (fun W q => by rw [hE]; exact rGuard_K hM hL h1 h2 q)
  have HRH : Hid (∀ W, Calls Tryd.prog 58 #[(.int .i64 (h)), (.int .i64 (0)), (.int .i64 (536870912))] W (KP (KV (.int .i64 (RH))) W)) := Lib.hid (fun W => (qRange_any h 0 536870912 W).mono fun e W' ⟨p, q⟩ => ⟨_, p, by rw [hRH]; rfl, by subst q; exact Below.refl _ _⟩)
  have HRL : Hid (∀ W, Calls Tryd.prog 58 #[(.int .i64 (lv)), (.int .i64 (0)), (.int .i64 ((L : Int) - 1))] W (KP (KV (.int .i64 (RL))) W)) := Lib.hid (fun W => (qRange_any lv 0 ((L : Int) - 1) W).mono fun e W' ⟨p, q⟩ => ⟨_, p, by rw [hRL]; rfl, by subst q; exact Below.refl _ _⟩)
  have HF : Hid (∀ W : World, Calls Tryd.prog 31 #[.slice (some ⟨W.heap.size, 0, none⟩) 3 3] (W.alloc (.cells #[(.int .i64 (E)), (.int .i64 (RH)), (.int .i64 (RL))] 3)) fun r w' => r = .returned (.int .i64 (F)) ∧ (W.alloc (.cells #[(.int .i64 (E)), (.int .i64 (RH)), (.int .i64 (RL))] 3)) = w') := Lib.hid (fun W => by
    rw [hF]
    exact qFirst_any [E, RH, RL] _ 3 _ (by simp) (Cells.row (heap_new rfl)))
  obtain ⟨A1, c1, A2, c2, rfl, hT, hG⟩ := hu
  obtain ⟨A3, c3, rfl, hP⟩ := hv
  have HU := Lib.hid (show KG lk ht rc M ts L gs (.agg #[(.int .i64 (lk)), (.int .i64 (ht)), .slice A1 M c1, (.int .i64 (rc)), .slice A2 L c2]) w from ⟨_, _, _, _, rfl, hT, hG⟩)
  have HP := Lib.hid (show KS n l (.slice A3 n c3) w from ⟨_, _, rfl, hP⟩)
  have HN := Lib.hid hn
  rw [← hS]
  clear hM hL hn hT hG hP hE hRH hRL hF hS
  go_enter Tryd.func23, Tryd.ntmps23
  have HB0 := Lib.hid (Below.refl w.heap.size w)
  go_wp2
  refine name_world ?_
  intro w1 e1
  have h1 : Below w.heap.size w w1 := by rw [e1]; (repeat (first | (with_reducible exact Below.refl _ _) | ((with_reducible refine Below.setCell ?_ ?_ _); rotate_left 1; (focus (first | (simp; done) | (simp; omega) | (simp at *; omega)))) | ((with_reducible refine Below.alloc ?_ ?_ _); rotate_left 1; (focus (first | (simp; done) | (simp; omega) | (simp at *; omega))))))
  have ug_1 := Lib.hid (KG.st _ _ _ _ _ _ _ _ _ _ HU.out h1)
  have up_1 := Lib.hid (KS.st _ _ _ _ _ HP.out h1)
  have HB1 := Lib.hid (HB0.out.trans (h1.mono HB0.out.size))
  have bg_1 := Lib.hid (show Blk w1 w.heap.size #[(.int .i64 (lk)), (.int .i64 (ht)), .slice A1 M c1, (.int .i64 (rc)), .slice A2 L c2] from by rw [e1]; (repeat (first | ((with_reducible refine Blk.at_ ?_); focus (first | rfl | (simp; done) | (simp; omega))) | (with_reducible refine Blk.alloc ?_ _) | (with_reducible refine Blk.below ?_ (by with_reducible assumption)) | (with_reducible refine Blk.drew ?_))))
  have bs_1 := Lib.hid (show Blk w1 (w.heap.size + 1) #[(.int .i64 (h)), (.int .i64 (lv)), .slice A3 n c3] from by rw [e1]; (repeat (first | ((with_reducible refine Blk.at_ ?_); focus (first | rfl | (simp; done) | (simp; omega))) | (with_reducible refine Blk.alloc ?_ _) | (with_reducible refine Blk.below ?_ (by with_reducible assumption)) | (with_reducible refine Blk.drew ?_))))
  clear e1 h1
  obtain ⟨g0, g1, g2, g3, g4, gl, -⟩ := bg_1.out.o5
  obtain ⟨s0, s1, s2, sl, -⟩ := bs_1.out.o3
  refine Rel.region3 11 (by kernel_rfl) (by kernel_rfl) (by kernel_rfl) ?_
  simp only [List.take_succ_cons, List.take_zero, List.drop_succ_cons, List.drop_zero, List.filterMap_cons, List.filterMap_nil]
  (apply Rel.op3; (focus (first | exact Rel.gno rfl | exact Rel.gyes _ true _ rfl rfl rfl | exact Rel.gyes _ false _ rfl rfl rfl)); (focus (intro a W hb hd hbase; obtain ⟨hc, hf⟩ := bcell hb; clear hb hf; simp [Rel.deps, Rel.dep1, Rel.ons, Region.binds, Act.eval, KV] at hd; simp only [Act.eval, List.mem_cons, List.not_mem_nil, not_or, and_imp, or_false, Array.getD_eq_getD_getElem?] at hbase; go_simp; (try go_bits); (try rfl); done)); (try simp only [List.nil_append, List.cons_append]))
  refine Rel.callK 18 (KV (.int .i64 (E))) (KV.st _) (Rel.gno rfl) ?_ ?_
  · intro a W hb hd hbase
    have q1 : a.eval (.tmp 7) = _ := (Rel.dep_at hd 0 rfl rfl)
    refine ⟨#[a.eval (.tmp 7)], ?_, by rw [q1]; exact HCG.out _ (KG.st _ _ _ _ _ _ _ _ _ _ ug_1.out hb)⟩
    clear hd hbase hb
    go_simp
    (first | done | rfl | (refine ⟨?_, ?_⟩ <;> rfl))
  (try simp only [List.nil_append, List.cons_append])
  (apply Rel.op3; (focus (first | exact Rel.gno rfl | exact Rel.gyes _ true _ rfl rfl rfl | exact Rel.gyes _ false _ rfl rfl rfl)); (focus (intro a W hb hd hbase; obtain ⟨hc, hf⟩ := bcell hb; clear hb hf; simp [Rel.deps, Rel.dep1, Rel.ons, Region.binds, Act.eval, KV] at hd; simp only [Act.eval, List.mem_cons, List.not_mem_nil, not_or, and_imp, or_false, Array.getD_eq_getD_getElem?] at hbase; go_simp; (try go_bits); (try rfl); done)); (try simp only [List.nil_append, List.cons_append]))
  (apply Rel.op3; (focus (first | exact Rel.gno rfl | exact Rel.gyes _ true _ rfl rfl rfl | exact Rel.gyes _ false _ rfl rfl rfl)); (focus (intro a W hb hd hbase; obtain ⟨hc, hf⟩ := bcell hb; clear hb hf; simp [Rel.deps, Rel.dep1, Rel.ons, Region.binds, Act.eval, KV] at hd; simp only [Act.eval, List.mem_cons, List.not_mem_nil, not_or, and_imp, or_false, Array.getD_eq_getD_getElem?] at hbase; go_simp; (try go_bits); (try rfl); done)); (try simp only [List.nil_append, List.cons_append]))
  refine Rel.callK 58 (KV (.int .i64 (RH))) (KV.st _) (Rel.gno rfl) ?_ ?_
  · intro a W hb hd hbase
    have q1 : a.eval (.tmp 10) = _ := (Rel.dep_at hd 3 rfl rfl)
    refine ⟨#[a.eval (.tmp 10), (.int .i64 (0)), (.int .i64 (536870912))], ?_, by rw [q1]; exact HRH.out _⟩
    clear hd hbase hb
    go_simp
    (first | done | rfl | (refine ⟨?_, ?_⟩ <;> rfl))
  (try simp only [List.nil_append, List.cons_append])
  (apply Rel.op3; (focus (first | exact Rel.gno rfl | exact Rel.gyes _ true _ rfl rfl rfl | exact Rel.gyes _ false _ rfl rfl rfl)); (focus (intro a W hb hd hbase; obtain ⟨hc, hf⟩ := bcell hb; clear hb hf; simp [Rel.deps, Rel.dep1, Rel.ons, Region.binds, Act.eval, KV] at hd; simp only [Act.eval, List.mem_cons, List.not_mem_nil, not_or, and_imp, or_false, Array.getD_eq_getD_getElem?] at hbase; go_simp; (try go_bits); (try rfl); done)); (try simp only [List.nil_append, List.cons_append]))
  (apply Rel.op3; (focus (first | exact Rel.gno rfl | exact Rel.gyes _ true _ rfl rfl rfl | exact Rel.gyes _ false _ rfl rfl rfl)); (focus (intro a W hb hd hbase; obtain ⟨hc, hf⟩ := bcell hb; clear hb hf; simp [Rel.deps, Rel.dep1, Rel.ons, Region.binds, Act.eval, KV] at hd; simp only [Act.eval, List.mem_cons, List.not_mem_nil, not_or, and_imp, or_false, Array.getD_eq_getD_getElem?] at hbase; go_simp; (try go_bits); (try rfl); done)); (try simp only [List.nil_append, List.cons_append]))
  (apply Rel.op3; (focus (first | exact Rel.gno rfl | exact Rel.gyes _ true _ rfl rfl rfl | exact Rel.gyes _ false _ rfl rfl rfl)); (focus (intro a W hb hd hbase; obtain ⟨hc, hf⟩ := bcell hb; clear hb hf; simp [Rel.deps, Rel.dep1, Rel.ons, Region.binds, Act.eval, KV] at hd; simp only [Act.eval, List.mem_cons, List.not_mem_nil, not_or, and_imp, or_false, Array.getD_eq_getD_getElem?] at hbase; go_simp; (try go_bits); (try rfl); done)); (try simp only [List.nil_append, List.cons_append]))
  (apply Rel.op3; (focus (first | exact Rel.gno rfl | exact Rel.gyes _ true _ rfl rfl rfl | exact Rel.gyes _ false _ rfl rfl rfl)); (focus (intro a W hb hd hbase; obtain ⟨hc, hf⟩ := bcell hb; clear hb hf; simp [Rel.deps, Rel.dep1, Rel.ons, Region.binds, Act.eval, KV] at hd; simp only [Act.eval, List.mem_cons, List.not_mem_nil, not_or, and_imp, or_false, Array.getD_eq_getD_getElem?] at hbase; go_simp; (try go_bits); (try rfl); done)); (try simp only [List.nil_append, List.cons_append]))
  (apply Rel.op3; (focus (first | exact Rel.gno rfl | exact Rel.gyes _ true _ rfl rfl rfl | exact Rel.gyes _ false _ rfl rfl rfl)); (focus (intro a W hb hd hbase; obtain ⟨hc, hf⟩ := bcell hb; clear hb hf; simp [Rel.deps, Rel.dep1, Rel.ons, Region.binds, Act.eval, KV] at hd; simp only [Act.eval, List.mem_cons, List.not_mem_nil, not_or, and_imp, or_false, Array.getD_eq_getD_getElem?] at hbase; go_simp; (try go_bits); (try rfl); done)); (try simp only [List.nil_append, List.cons_append]))
  (apply Rel.op3; (focus (first | exact Rel.gno rfl | exact Rel.gyes _ true _ rfl rfl rfl | exact Rel.gyes _ false _ rfl rfl rfl)); (focus (intro a W hb hd hbase; obtain ⟨hc, hf⟩ := bcell hb; clear hb hf; simp [Rel.deps, Rel.dep1, Rel.ons, Region.binds, Act.eval, KV] at hd; simp only [Act.eval, List.mem_cons, List.not_mem_nil, not_or, and_imp, or_false, Array.getD_eq_getD_getElem?] at hbase; go_simp; (try go_bits); (try rfl); done)); (try simp only [List.nil_append, List.cons_append]))
  refine Rel.done3 ?_
  intro x w2 h2 hx
  simp only [Rel.facts, Nat.zero_add, Nat.reduceAdd] at hx
  clear g0 g1 g2 g3 g4 gl s0 s1 s2 sl
  obtain ⟨e0, e1, e2, e3, e4, e5, e6, e7, e8, e9, e10, _⟩ := hx
  have e1 : x 1 = _ := e1
  have e4 : x 4 = _ := e4
  simp only [Rel.fill, Nat.zero_add, Nat.reduceAdd, e0, e1, e2, e3, e4, e5, e6, e7, e8, e9, e10]
  simp only [Act.put, List.setIfInBounds_toArray, List.set_cons_zero, List.set_cons_succ]
  clear e0 e1 e2 e3 e4 e5 e6 e7 e8 e9 e10
  have ug_2 := Lib.hid (KG.st _ _ _ _ _ _ _ _ _ _ ug_1.out h2)
  have up_2 := Lib.hid (KS.st _ _ _ _ _ up_1.out h2)
  have bg_2 := Lib.hid (bg_1.out.below h2)
  have bs_2 := Lib.hid (bs_1.out.below h2)
  have HB2 := Lib.hid (HB1.out.trans (h2.mono HB1.out.size))
  clear h2
  obtain ⟨g0, g1, g2, g3, g4, gl, -⟩ := bg_2.out.o5
  obtain ⟨s0, s1, s2, sl, -⟩ := bs_2.out.o3
  go_wp2_with (go_at_call 58; refine (HRL.out _).mono ?_; rintro r w3 ⟨v3, rfl, k3, hb3⟩; obtain rfl := k3; refine Hid.out ?_)
  unfold Hid
  have HB3 := Lib.hid (HB2.out.trans (hb3.mono HB2.out.size))
  have bg_3 := Lib.hid (bg_2.out.below hb3)
  have bs_3 := Lib.hid (bs_2.out.below hb3)
  have up_3 := Lib.hid (KS.st _ _ _ _ _ up_2.out hb3)
  clear hb3 g0 g1 g2 g3 g4 gl s0 s1 s2 sl
  go_wp2_with (go_at_call 31; refine (HF.out _).mono ?_; rintro r w4 ⟨rfl, rfl⟩; refine Hid.out ?_)
  unfold Hid
  have bg_4 := Lib.hid (bg_3.out.alloc (.cells #[(.int .i64 (E)), (.int .i64 (RH)), (.int .i64 (RL))] 3))
  have bs_4 := Lib.hid (bs_3.out.alloc (.cells #[(.int .i64 (E)), (.int .i64 (RH)), (.int .i64 (RL))] 3))
  have HB4 := Lib.hid (HB3.out.alloc HB3.out.size (.cells #[(.int .i64 (E)), (.int .i64 (RH)), (.int .i64 (RL))] 3))
  have up_4 := Lib.hid (KS.st _ _ _ _ _ up_3.out ((Below.refl _ _).alloc (Nat.le_refl _) (.cells #[(.int .i64 (E)), (.int .i64 (RH)), (.int .i64 (RL))] 3)))
  clear bg_3 bs_3 HB3 up_3
  obtain ⟨g0, g1, g2, g3, g4, gl, -⟩ := bg_4.out.o5
  obtain ⟨s0, s1, s2, sl, -⟩ := bs_4.out.o3
  by_cases hF : F = 0
  · subst hF
    have hst := HST0.out rfl
    by_cases hS : n + 1 = M
    · have hS2 : (n : Int) = (M : Int) - 1 := by omega
      rw [if_pos hS] at hst
      have HST := Lib.hid hst
      clear hst
      go_wp2
      go_loop [5, 6] (fun e i => ∃ k : Nat, k ≤ n ∧ i = (.int .i64 ((k : Int))) ∧ (∃ y : Int, e = (.int .i64 (y))) ∧ ∀ j, j < k → rangeErr (l.getD j 0) (-2048) 2048 = 0) (fun _ i => n - (intOf i).toNat)
      case atStart => exact ⟨0, Nat.zero_le _, rfl, ⟨_, rfl⟩, fun j hj => by omega⟩
      case round =>
        obtain ⟨k, hk, rfl, ⟨y, rfl⟩, hz⟩ := hrel
        have HZ := Lib.hid hz
        clear hz
        by_cases hlt : k < n
        · obtain ⟨B, c, e, hC⟩ := up_4.out
          cases e
          obtain ⟨b, off, rfl, hbl, hc⟩ := hC (by rw [← HN.out]; omega)
          have hck := hc k (by rw [← HN.out]; exact hlt)
          obtain ⟨z, hzz⟩ : ∃ z, z = l.getD k 0 := ⟨_, rfl⟩
          rw [← hzz] at hck
          have HZZ := Lib.hid hzz
          clear hc hC hzz
          by_cases h0 : rangeErr z (-2048) 2048 = 0
          · have HCV := Lib.hid (fun W => pValue_any z W)
            rw [h0] at HCV
            have H0 := Lib.hid h0
            clear h0
            go_wp2_with (go_at_call 32; refine (HCV.out _).mono ?_; rintro r w5 ⟨rfl, rfl⟩)
            go_round
            case rel => exact ⟨k + 1, by omega, by go_num, ⟨_, rfl⟩, fun j hj => by
              rcases Nat.lt_or_ge j k with hjk | hjk
              · exact HZ.out j hjk
              · obtain rfl : j = k := by omega
                rw [← HZZ.out]; exact H0.out⟩
            case measure => simp [intOf]; omega
          · have HCV := Lib.hid (fun W => pValue_any z W)
            obtain ⟨V, hV⟩ : ∃ V, V = rangeErr z (-2048) 2048 := ⟨_, rfl⟩
            rw [← hV] at HCV h0
            have HV := Lib.hid hV
            clear hV
            go_wp2_with (go_at_call 32; refine (HCV.out _).mono ?_; rintro r w5 ⟨rfl, rfl⟩)
            go_ret
            refine ⟨_, rfl, ?_, HB4.out⟩
            rw [HST.out]
            unfold eachErr
            have hkl : k < (l.map fun n => rangeErr n (-2048) 2048).length := by rw [List.length_map, ← HN.out]; exact hlt
            have hg : ∀ j, j < l.length → (l.map fun n => rangeErr n (-2048) 2048).getD j 0 = rangeErr (l.getD j 0) (-2048) 2048 := fun j hj => by simp [List.getD_eq_getElem?_getD, hj]
            have hkn : k < l.length := by rw [← HN.out]; exact hlt
            rw [firstOf_take (k := k) (fun j hj => by rw [hg j (by omega)]; exact HZ.out j hj) hkl (by rw [hg k hkn, ← HZZ.out, ← HV.out]; exact h0), hg k hkn, ← HZZ.out, ← HV.out]
            rfl
        · obtain rfl : k = n := by omega
          go_wp2
          go_ret
          refine ⟨_, rfl, ?_, HB4.out⟩
          rw [HST.out]
          have : eachErr l (-2048) 2048 = 0 := by
            rw [eachErr_zero]
            intro x hx
            obtain ⟨j, hj, rfl⟩ := List.mem_iff_getElem.1 hx
            have := HZ.out j (by rw [HN.out]; exact hj)
            rw [List.getD_eq_getElem?_getD, List.getElem?_eq_getElem hj] at this
            exact rangeErr_zero.1 this
          rw [this]
          rfl
    · have hS2 : ¬ (n : Int) = (M : Int) - 1 := by omega
      rw [if_neg hS] at hst
      have HST := Lib.hid hst
      clear hst
      go_wp2
      go_ret
      exact ⟨_, rfl, by rw [HST.out]; rfl, HB4.out⟩
  · have HST := Lib.hid (HST1.out hF)
    go_wp2
    go_ret
    exact ⟨_, rfl, by rw [HST.out]; rfl, HB4.out⟩
end Go.Proofs.YtdeapbihbhoefaaDoor

/- ProtectGuards, case 0. -/
namespace Go.Proofs.YtdeapbihbhoefaaDoor
open Go.RowKit
open Calm (bcell Blk)
set_option maxRecDepth 100000 in
set_option maxHeartbeats 8000000 in
theorem guards_0 (lk ht rc h lv : Int) (M L n : Nat) (ts gs l : List Int) (u v : Value) (w : World) (hTab : PTab w) (hM : M = ts.length) (hL : L = gs.length) (hn : n = l.length) (b0 : ¬ (M ≤ 9 ∧ L ≤ 9)) (hu : KG lk ht rc M ts L gs u w) (hv : KT h lv n l v w) :
    Calls Tryd.prog 3 #[u, v] w fun r w' => r = .returned (.bool true) ∧ Below w.heap.size w w' := by
  obtain ⟨A1, c1, A2, c2, rfl, hT, hG⟩ := hu
  obtain ⟨A3, c3, rfl, hP⟩ := hv
  have HU := Lib.hid (show KG lk ht rc M ts L gs (.agg #[(.int .i64 (lk)), (.int .i64 (ht)), .slice A1 M c1, (.int .i64 (rc)), .slice A2 L c2]) w from ⟨_, _, _, _, rfl, hT, hG⟩)
  have HS := Lib.hid (show KT h lv n l (.agg #[(.int .i64 (h)), (.int .i64 (lv)), .slice A3 n c3]) w from ⟨_, _, rfl, hP⟩)
  have HSH : Hid (∀ W, KG lk ht rc M ts L gs (.agg #[(.int .i64 (lk)), (.int .i64 (ht)), .slice A1 M c1, (.int .i64 (rc)), .slice A2 L c2]) W → Calls Tryd.prog 13 #[.agg #[(.int .i64 (lk)), (.int .i64 (ht)), .slice A1 M c1, (.int .i64 (rc)), .slice A2 L c2]] W (KP (KV (.bool false)) W)) := Lib.hid (fun W q => by have := Short_K q; rwa [decide_eq_false b0] at this)
  have HTab := Lib.hid hTab
  clear hTab hM hL hn hT hG hP b0
  skip
  go_enter Tryd.func3, Tryd.ntmps3
  have HB0 := Lib.hid (Below.refl w.heap.size w)
  go_wp2_with (go_at_call 13; refine name_calls ?_; intro w1 e1; refine Hid.out ?_)
  unfold Hid
  have h1 : Below w.heap.size w w1 := by rw [e1]; (repeat (first | (with_reducible exact Below.refl _ _) | ((with_reducible refine Below.setCell ?_ ?_ _); rotate_left 1; (focus (first | (simp; done) | (simp; omega) | (simp at *; omega)))) | ((with_reducible refine Below.alloc ?_ ?_ _); rotate_left 1; (focus (first | (simp; done) | (simp; omega) | (simp at *; omega))))))
  have HB1 := Lib.hid (HB0.out.trans (h1.mono HB0.out.size))
  have bg_1 := Lib.hid (show Blk w1 w.heap.size #[(.int .i64 (lk)), (.int .i64 (ht)), .slice A1 M c1, (.int .i64 (rc)), .slice A2 L c2] from by rw [e1]; (repeat (first | ((with_reducible refine Blk.at_ ?_); focus (first | rfl | (simp; done) | (simp; omega))) | (with_reducible refine Blk.alloc ?_ _) | (with_reducible refine Blk.below ?_ (by with_reducible assumption)) | (with_reducible refine Blk.drew ?_))))
  have bs_1 := Lib.hid (show Blk w1 (w.heap.size + 1) #[(.int .i64 (h)), (.int .i64 (lv)), .slice A3 n c3] from by rw [e1]; (repeat (first | ((with_reducible refine Blk.at_ ?_); focus (first | rfl | (simp; done) | (simp; omega))) | (with_reducible refine Blk.alloc ?_ _) | (with_reducible refine Blk.below ?_ (by with_reducible assumption)) | (with_reducible refine Blk.drew ?_))))
  clear e1 h1
  refine (HSH.out _ (KG.st _ _ _ _ _ _ _ _ _ _ HU.out HB1.out)).mono ?_
  rintro r w2 ⟨v2, rfl, k2, h2⟩
  have bg_2 := Lib.hid (bg_1.out.below h2)
  have bs_2 := Lib.hid (bs_1.out.below h2)
  have HB2 := Lib.hid (HB1.out.trans (h2.mono HB1.out.size))
  obtain rfl := k2
  clear h2
  go_wp2_with (go_at_call 15; refine name_calls ?_; intro w3 e3; refine Hid.out ?_)
  unfold Hid
  have h3 : Below w2.heap.size w2 w3 := by rw [e3]; (repeat (first | (with_reducible exact Below.refl _ _) | ((with_reducible refine Below.setCell ?_ ?_ _); rotate_left 1; (focus (first | (simp; done) | (simp; omega) | (simp at *; omega)))) | ((with_reducible refine Below.alloc ?_ ?_ _); rotate_left 1; (focus (first | (simp; done) | (simp; omega) | (simp at *; omega))))))
  have bg_3 := Lib.hid (bg_2.out.below h3)
  have bs_3 := Lib.hid (bs_2.out.below h3)
  have HB3 := Lib.hid (HB2.out.trans (h3.mono HB2.out.size))
  clear e3 h3
  refine (awake_any _ (HTab.out.below HB3.out)).mono ?_
  rintro r w4 ⟨rfl, h4⟩
  have HB4 := Lib.hid (HB3.out.trans (h4.mono HB3.out.size))
  clear h4
  go_wp2
  go_ret
  exact ⟨by first | rfl | (simp; done), HB4.out⟩
end Go.Proofs.YtdeapbihbhoefaaDoor

/- ProtectGuards, case 1. -/
namespace Go.Proofs.YtdeapbihbhoefaaDoor
open Go.RowKit
open Calm (bcell Blk)
set_option maxRecDepth 100000 in
set_option maxHeartbeats 8000000 in
theorem guards_1 (lk ht rc h lv : Int) (M L n : Nat) (ts gs l : List Int) (u v : Value) (w : World) (hTab : PTab w) (hM : M = ts.length) (hL : L = gs.length) (hn : n = l.length) (b0 : M ≤ 9 ∧ L ≤ 9) (b1 : ¬ n ≤ 9) (hu : KG lk ht rc M ts L gs u w) (hv : KT h lv n l v w) :
    Calls Tryd.prog 3 #[u, v] w fun r w' => r = .returned (.bool true) ∧ Below w.heap.size w w' := by
  obtain ⟨A1, c1, A2, c2, rfl, hT, hG⟩ := hu
  obtain ⟨A3, c3, rfl, hP⟩ := hv
  have HU := Lib.hid (show KG lk ht rc M ts L gs (.agg #[(.int .i64 (lk)), (.int .i64 (ht)), .slice A1 M c1, (.int .i64 (rc)), .slice A2 L c2]) w from ⟨_, _, _, _, rfl, hT, hG⟩)
  have HS := Lib.hid (show KT h lv n l (.agg #[(.int .i64 (h)), (.int .i64 (lv)), .slice A3 n c3]) w from ⟨_, _, rfl, hP⟩)
  have HSH : Hid (∀ W, KG lk ht rc M ts L gs (.agg #[(.int .i64 (lk)), (.int .i64 (ht)), .slice A1 M c1, (.int .i64 (rc)), .slice A2 L c2]) W → Calls Tryd.prog 13 #[.agg #[(.int .i64 (lk)), (.int .i64 (ht)), .slice A1 M c1, (.int .i64 (rc)), .slice A2 L c2]] W (KP (KV (.bool true)) W)) := Lib.hid (fun W q => by have := Short_K q; rwa [decide_eq_true b0] at this)
  have HSS : Hid (∀ W, KT h lv n l (.agg #[(.int .i64 (h)), (.int .i64 (lv)), .slice A3 n c3]) W → Calls Tryd.prog 14 #[.agg #[(.int .i64 (h)), (.int .i64 (lv)), .slice A3 n c3]] W (KP (KV (.bool false)) W)) := Lib.hid (fun W q => by have := ShortState_K q; rwa [decide_eq_false b1] at this)
  have HTab := Lib.hid hTab
  clear hTab hM hL hn hT hG hP b0 b1
  skip
  go_enter Tryd.func3, Tryd.ntmps3
  have HB0 := Lib.hid (Below.refl w.heap.size w)
  go_wp2_with (go_at_call 13; refine name_calls ?_; intro w1 e1; refine Hid.out ?_)
  unfold Hid
  have h1 : Below w.heap.size w w1 := by rw [e1]; (repeat (first | (with_reducible exact Below.refl _ _) | ((with_reducible refine Below.setCell ?_ ?_ _); rotate_left 1; (focus (first | (simp; done) | (simp; omega) | (simp at *; omega)))) | ((with_reducible refine Below.alloc ?_ ?_ _); rotate_left 1; (focus (first | (simp; done) | (simp; omega) | (simp at *; omega))))))
  have HB1 := Lib.hid (HB0.out.trans (h1.mono HB0.out.size))
  have bg_1 := Lib.hid (show Blk w1 w.heap.size #[(.int .i64 (lk)), (.int .i64 (ht)), .slice A1 M c1, (.int .i64 (rc)), .slice A2 L c2] from by rw [e1]; (repeat (first | ((with_reducible refine Blk.at_ ?_); focus (first | rfl | (simp; done) | (simp; omega))) | (with_reducible refine Blk.alloc ?_ _) | (with_reducible refine Blk.below ?_ (by with_reducible assumption)) | (with_reducible refine Blk.drew ?_))))
  have bs_1 := Lib.hid (show Blk w1 (w.heap.size + 1) #[(.int .i64 (h)), (.int .i64 (lv)), .slice A3 n c3] from by rw [e1]; (repeat (first | ((with_reducible refine Blk.at_ ?_); focus (first | rfl | (simp; done) | (simp; omega))) | (with_reducible refine Blk.alloc ?_ _) | (with_reducible refine Blk.below ?_ (by with_reducible assumption)) | (with_reducible refine Blk.drew ?_))))
  clear e1 h1
  refine (HSH.out _ (KG.st _ _ _ _ _ _ _ _ _ _ HU.out HB1.out)).mono ?_
  rintro r w2 ⟨v2, rfl, k2, h2⟩
  have bg_2 := Lib.hid (bg_1.out.below h2)
  have bs_2 := Lib.hid (bs_1.out.below h2)
  have HB2 := Lib.hid (HB1.out.trans (h2.mono HB1.out.size))
  obtain rfl := k2
  clear h2
  obtain ⟨fbs_0, fbs_1, fbs_2, fbs_l, -⟩ := bs_2.out.o3
  go_wp2_with (go_at_call 14; refine name_calls ?_; intro w3 e3; refine Hid.out ?_)
  unfold Hid
  have h3 : Below w2.heap.size w2 w3 := by rw [e3]; (repeat (first | (with_reducible exact Below.refl _ _) | ((with_reducible refine Below.setCell ?_ ?_ _); rotate_left 1; (focus (first | (simp; done) | (simp; omega) | (simp at *; omega)))) | ((with_reducible refine Below.alloc ?_ ?_ _); rotate_left 1; (focus (first | (simp; done) | (simp; omega) | (simp at *; omega))))))
  have bg_3 := Lib.hid (bg_2.out.below h3)
  have bs_3 := Lib.hid (bs_2.out.below h3)
  have HB3 := Lib.hid (HB2.out.trans (h3.mono HB2.out.size))
  clear e3 h3
  refine (HSS.out _ (KT.st _ _ _ _ _ _ _ HS.out HB3.out)).mono ?_
  rintro r w4 ⟨v4, rfl, k4, h4⟩
  have bg_4 := Lib.hid (bg_3.out.below h4)
  have bs_4 := Lib.hid (bs_3.out.below h4)
  have HB4 := Lib.hid (HB3.out.trans (h4.mono HB3.out.size))
  obtain rfl := k4
  clear h4
  clear fbs_0 fbs_1 fbs_2 fbs_l
  obtain ⟨fbg_0, fbg_1, fbg_2, fbg_3, fbg_4, fbg_l, -⟩ := bg_4.out.o5
  clear fbg_0 fbg_1 fbg_2 fbg_3 fbg_4 fbg_l
  go_wp2_with (go_at_call 15; refine name_calls ?_; intro w5 e5; refine Hid.out ?_)
  unfold Hid
  have h5 : Below w4.heap.size w4 w5 := by rw [e5]; (repeat (first | (with_reducible exact Below.refl _ _) | ((with_reducible refine Below.setCell ?_ ?_ _); rotate_left 1; (focus (first | (simp; done) | (simp; omega) | (simp at *; omega)))) | ((with_reducible refine Below.alloc ?_ ?_ _); rotate_left 1; (focus (first | (simp; done) | (simp; omega) | (simp at *; omega))))))
  have bg_5 := Lib.hid (bg_4.out.below h5)
  have bs_5 := Lib.hid (bs_4.out.below h5)
  have HB5 := Lib.hid (HB4.out.trans (h5.mono HB4.out.size))
  clear e5 h5
  refine (awake_any _ (HTab.out.below HB5.out)).mono ?_
  rintro r w6 ⟨rfl, h6⟩
  have HB6 := Lib.hid (HB5.out.trans (h6.mono HB5.out.size))
  clear h6
  go_wp2
  go_ret
  exact ⟨by first | rfl | (simp; done), HB6.out⟩
end Go.Proofs.YtdeapbihbhoefaaDoor
