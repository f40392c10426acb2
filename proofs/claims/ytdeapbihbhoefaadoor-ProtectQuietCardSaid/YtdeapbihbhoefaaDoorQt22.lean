/- Part 22 of the texts of the claim: N2, QK, QO. -/
import Derived.Test.YtdeapbihbhoefaaDoorQt21
import Derived.Test.YtdeapbihbhoefaaDoorQt14

/- The reference's Begin, CheckState, SameState. -/
namespace Go.Proofs.YtdeapbihbhoefaaDoor
open Go.RowKit
open Calm (bcell Blk)

set_option maxRecDepth 100000 in
set_option maxHeartbeats 1000000 in
theorem rBegin_typed (lk ht rc : Int) (A1 A2 : Option Addr) (n1 c1 n2 c2 : Nat) (w : World) (h1 : 1 ≤ n1 ∧ n1 ≤ 1000000) (h2 : 1 ≤ n2 ∧ n2 ≤ 1000000) :
    Calls Tryd.prog 19 #[.agg #[(.int .i64 (lk)), (.int .i64 (ht)), .slice A1 n1 c1, (.int .i64 (rc)), .slice A2 n2 c2]] w fun r w' => (∃ B, w.heap.size ≤ B.block ∧ r = .returned (.agg #[(.int .i64 (0)), (.int .i64 (((n2 - 1 : Nat) : Int))), .slice (some B) (n1 - 1) (n1 - 1)]) ∧ Cells w' (some B) (List.replicate (n1 - 1) 0) ∧ IntRow w' B) ∧ Below w.heap.size w w' := by
  obtain ⟨a, rfl⟩ : ∃ a, n1 = a + 1 := ⟨n1 - 1, by omega⟩
  obtain ⟨b, rfl⟩ : ∃ b, n2 = b + 1 := ⟨n2 - 1, by omega⟩
  have hmk := mk_ints a (by omega)
  have e1 : ((a + 1 : Nat) : Int) - 1 = (a : Int) := by omega
  have e2 : ((b + 1 : Nat) : Int) - 1 = (b : Int) := by omega
  have E1 := Lib.hid e1
  have E2 := Lib.hid e2
  simp only [Nat.add_sub_cancel]
  obtain ⟨b1, b2⟩ := h1
  obtain ⟨b3, b4⟩ := h2
  clear e1 e2
  go_enter Tryd.func19, Tryd.ntmps19
  go_wp2
  refine Rel.region3 9 (by kernel_rfl) (by kernel_rfl) (by kernel_rfl) ?_
  simp only [List.take_succ_cons, List.take_zero, List.drop_succ_cons, List.drop_zero, List.filterMap_cons, List.filterMap_nil]
  iterate 8 (apply Rel.op3; (focus (first | exact Rel.gno rfl | exact Rel.gyes _ true _ rfl rfl rfl | exact Rel.gyes _ false _ rfl rfl rfl)); (focus (intro a W hb hd hbase; obtain ⟨hc, hf⟩ := bcell hb; clear hb hf; simp [Rel.deps, Rel.dep1, Rel.ons, Region.binds, Act.eval] at hd; simp only [Act.eval, List.mem_cons, List.not_mem_nil, not_or, and_imp, or_false, Array.getD_eq_getD_getElem?] at hbase; go_simp; (try go_bits); (try rfl); done)); (try simp only [List.nil_append, List.cons_append]))
  refine Rel.buildT3 3 a a (zerosA a).toArray (Rel.gno rfl) ?_ ?_
  · intro ac W hb hd hbase
    simp [Rel.deps, Rel.dep1, Rel.ons, Region.binds, Act.eval] at hd
    go_simp
  (try simp only [List.nil_append, List.cons_append])
  refine Rel.done3 ?_
  intro x w1 hb1 hx
  simp only [Rel.facts, Nat.zero_add, Nat.reduceAdd] at hx
  obtain ⟨e0, e1, e2, e3, e4, e5, e6, e7, ⟨g, e8, hg, hKR⟩, _⟩ := hx
  simp only [Rel.fill, Nat.zero_add, Nat.reduceAdd, e0, e1, e2, e3, e4, e5, e6, e7, e8]
  simp only [Act.put, List.setIfInBounds_toArray, List.set_cons_zero, List.set_cons_succ]
  clear e0 e1 e2 e3 e4 e5 e6 e7 e8 hmk
  have K2 : Blk w1 (w.heap.size + 1) #[(.int .i64 (0)), (.int .i64 (0)), .slice none 0 0] := Blk.below (by (repeat (first | ((with_reducible refine Blk.at_ ?_); focus (first | rfl | (simp; done) | (simp; omega))) | (with_reducible refine Blk.alloc ?_ _) | (with_reducible refine Blk.below ?_ (by with_reducible assumption)) | (with_reducible refine Blk.drew ?_)))) hb1
  have HB1 : Hid (Below w.heap.size w w1) := Lib.hid (Below.trans (by (repeat (first | (with_reducible exact Below.refl _ _) | ((with_reducible refine Below.setCell ?_ ?_ _); rotate_left 1; focus (first | (simp; done) | (simp; omega) | (simp at *; omega))) | ((with_reducible refine Below.alloc ?_ ?_ _); rotate_left 1; focus (first | (simp; done) | (simp; omega) | (simp at *; omega))) | (with_reducible refine Below.drew ?_) | ((with_reducible refine Calm.step (by assumption) ?_ ?_); rotate_left 1; focus (first | (simp; done) | (simp; omega) | (simp at *; omega)))))) (hb1.mono (by simp; omega)))
  have hK := Calm.Blk.row hKR
  have HC := Lib.hid (cells_zeros hK)
  have HI : Hid (IntRow w1 ⟨g, 0, none⟩) := Lib.hid ⟨_, hKR⟩
  clear hKR
  simp at hg
  have HK2 := Lib.hid K2
  obtain ⟨c0, c1', c2', l0, f0⟩ := K2.o3
  clear hb1 hK K2
  go_wp2
  have KR := HK2.out.set3 (.int .i64 (0)) (.int .i64 ((b : Int))) (.slice (some ⟨g, 0, none⟩) a a)
  obtain ⟨y0, y1, y2, yl, yf⟩ := KR.o3
  have q : 0 < (List.replicate a (0 : Int)).length → ∀ p, some (⟨g, 0, none⟩ : Addr) = some p → p.block ≠ w.heap.size + 1 := fun _ p hp => by cases hp; show g ≠ _; omega
  have q2 : (⟨g, 0, none⟩ : Addr).block ≠ w.heap.size + 1 := by show g ≠ _; omega
  clear c0 c1' c2' l0 f0 KR
  exact bodyPost_ret (v := .agg #[(.int .i64 (0)), (.int .i64 ((b : Int))), .slice (some ⟨g, 0, none⟩) a a]) (by simp [results, Tryd.results19, go_sem, y0, y1, y2]) rfl
    ⟨⟨⟨g, 0, none⟩, by show w.heap.size ≤ g; omega, rfl, ((HC.out.sets q _ _).sets q _ _).sets q _ _, ((HI.out.sets q2 _ _).sets q2 _ _).sets q2 _ _⟩, ((HB1.out.setCell (by simp) _).setCell (by simp) _).setCell (by simp) _⟩

theorem rBegin_K {lk ht rc : Int} {M L : Nat} {ts gs : List Int} {u : Value} {W : World} (h1 : 1 ≤ M ∧ M ≤ 1000) (h2 : 1 ≤ L ∧ L ≤ 1000) (hu : KG lk ht rc M ts L gs u W) : Calls Tryd.prog 19 #[u] W (KP (KTI 0 ((L - 1 : Nat) : Int) (M - 1) (List.replicate (M - 1) 0)) W) := by
  obtain ⟨A1, c1, A2, c2, rfl, _, _⟩ := hu
  exact (rBegin_typed lk ht rc A1 A2 M c1 L c2 W (by omega) (by omega)).mono fun e W' ⟨⟨B, _, h, hc, hi⟩, hb⟩ => ⟨_, h, ⟨_, _, rfl, hc, fun p hp => by cases hp; exact hi⟩, hb⟩
theorem rGuard_K {lk ht rc : Int} {M L : Nat} {ts gs : List Int} {u : Value} {W : World} (hM : M = ts.length) (hL : L = gs.length) (h1 : M ≤ 1000) (h2 : L ≤ 1000) (hu : KG lk ht rc M ts L gs u W) : Calls Tryd.prog 18 #[u] W (KP (KV (.int .i64 (guardErr lk ht rc ts gs))) W) := by
  obtain ⟨A1, c1, A2, c2, rfl, hT, hG⟩ := hu
  subst hM hL
  exact (pGuard_any lk ht rc ts gs A1 A2 c1 c2 W hT hG (by omega) (by omega)).mono fun e W' ⟨h, hb⟩ => ⟨_, h, rfl, hb⟩
set_option maxHeartbeats 1000000 in
theorem sameState_T {h lv : Int} {n : Nat} {l : List Int} {u v : Value} {W : World} (hn : n = l.length) (hn2 : n ≤ 1000) (hu : KT h lv n l u W) (hv : KT h lv n l v W) : Calls Tryd.prog 24 #[u, v] W (KP (KV (.bool true)) W) := by
  obtain ⟨B, c, rfl, hB⟩ := hu
  obtain ⟨B2, c2, rfl, hB2⟩ := hv
  have H1 := Lib.hid (show KS n l (.slice B n c) W from ⟨_, _, rfl, hB⟩)
  have H2 := Lib.hid (show KS n l (.slice B2 n c2) W from ⟨_, _, rfl, hB2⟩)
  have HN := Lib.hid hn
  clear hB hB2 hn
  go_enter Tryd.func24, Tryd.ntmps24
  go_wp2_with (go_at_call 38; refine name_calls ?_; intro w1 e1; refine Hid.out ?_)
  unfold Hid
  have hb1 : Below W.heap.size W w1 := by rw [e1]; (repeat (first | (with_reducible exact Below.refl _ _) | ((with_reducible refine Below.setCell ?_ ?_ _); rotate_left 1; focus (first | (simp; done) | (simp; omega) | (simp at *; omega))) | ((with_reducible refine Below.alloc ?_ ?_ _); rotate_left 1; focus (first | (simp; done) | (simp; omega) | (simp at *; omega))) | (with_reducible refine Below.drew ?_) | ((with_reducible refine Calm.step (by assumption) ?_ ?_); rotate_left 1; focus (first | (simp; done) | (simp; omega) | (simp at *; omega)))))
  have K1 := Lib.hid (KS.st _ _ _ _ _ H1.out hb1)
  have K2' := Lib.hid (KS.st _ _ _ _ _ H2.out hb1)
  have HB1 := Lib.hid hb1
  clear e1 hb1
  refine (same_T rfl HN.out HN.out (by omega) K1.out K2'.out).mono ?_
  rintro r w2 ⟨v2, rfl, hk, hb2⟩
  obtain rfl := hk
  have HB2 := Lib.hid (HB1.out.trans (hb2.mono HB1.out.size))
  clear hb2
  go_wp2
  go_ret
  exact ⟨_, by first | rfl | (simp; done), rfl, HB2.out⟩
theorem stErr_three {lk ht rc h lv : Int} {ts gs ps : List Int} (e : firstOf [guardErr lk ht rc ts gs, rangeErr h 0 536870912, rangeErr lv 0 ((gs.length : Int) - 1)] ≠ 0) : stErr lk ht rc ts gs h lv ps = firstOf [guardErr lk ht rc ts gs, rangeErr h 0 536870912, rangeErr lv 0 ((gs.length : Int) - 1)] := by
  unfold stErr
  by_cases h0 : guardErr lk ht rc ts gs = 0
  · rw [if_pos h0, h0, fo_cons0]
    unfold stErr2
    by_cases h1 : rangeErr h 0 536870912 = 0
    · rw [h1, fo_cons0, fo_cons0]
      by_cases h2 : rangeErr lv 0 ((gs.length : Int) - 1) = 0
      · exact absurd (by rw [h0, h1, h2]; rfl) e
      · rw [fo_consN h2, fo_consN h2]
    · rw [fo_consN h1, fo_consN h1]
  · rw [if_neg h0, fo_consN h0]
theorem stErr_rest {lk ht rc h lv : Int} {ts gs ps : List Int} (e : firstOf [guardErr lk ht rc ts gs, rangeErr h 0 536870912, rangeErr lv 0 ((gs.length : Int) - 1)] = 0) : stErr lk ht rc ts gs h lv ps = if ps.length + 1 = ts.length then eachErr ps (-2048) 2048 else 2 := by
  have h0 := firstOf_eq_zero.1 e
  have a1 := h0 (guardErr lk ht rc ts gs) (by simp)
  have a2 := h0 (rangeErr h 0 536870912) (by simp)
  have a3 := h0 (rangeErr lv 0 ((gs.length : Int) - 1)) (by simp)
  unfold stErr stErr2
  rw [if_pos a1, a2, a3, fo_cons0, fo_cons0]
  by_cases hs : ps.length + 1 = ts.length
  · rw [if_pos hs, if_pos hs, fo_cons0]
    by_cases he : eachErr ps (-2048) 2048 = 0
    · rw [he]; rfl
    · rw [fo_consN he]
  · rw [if_neg hs, if_neg hs]
    rfl

set_option maxRecDepth 100000 in
set_option maxHeartbeats 4000000 in
theorem rCheckState_K {lk ht rc h lv : Int} {M L n : Nat} {ts gs l : List Int} {u v : Value} {w : World} (hM : M = ts.length) (hL : L = gs.length) (hn : n = l.length) (h1 : M ≤ 1000) (h2 : L ≤ 1000) (h3 : n ≤ 1000) (hu : KG lk ht rc M ts L gs u w) (hv : KT h lv n l v w) : Calls Tryd.prog 23 #[u, v] w (KP (KV (.int .i64 (stErr lk ht rc ts gs h lv l))) w) := by
  obtain ⟨E, hE⟩ : ∃ E, E = guardErr lk ht rc ts gs := ⟨_, rfl⟩
  obtain ⟨RH, hRH⟩ : ∃ RH, RH = rangeErr h 0 536870912 := ⟨_, rfl⟩
  obtain ⟨RL, hRL⟩ : ∃ RL, RL = rangeErr lv 0 ((L : Int) - 1) := ⟨_, rfl⟩
  obtain ⟨F, hF⟩ : ∃ F, F = firstOf [E, RH, RL] := ⟨_, rfl⟩
  obtain ⟨S, hS⟩ : ∃ S, S = stErr lk ht rc ts gs h lv l := ⟨_, rfl⟩
  have HST0 : Hid (F = 0 → S = if n + 1 = M then eachErr l (-2048) 2048 else 2) := Lib.hid (fun e => by
    rw [hS, hn, hM]
    refine stErr_rest ?_
    rw [← hL, ← hE, ← hRH, ← hRL, ← hF]
    exact e)
  have HST1 : Hid (F ≠ 0 → S = F) := Lib.hid (fun e => by
    rw [hS, hF, hE, hRH, hRL, hL]
    refine stErr_three ?_
    rw [← hL, ← hE, ← hRH, ← hRL, ← hF]
    exact e)
  have HCG : Hid (∀ {x : Value} (W : World), KG lk ht rc M ts L gs x W → Calls Tryd.prog 18 #[x] W (KP (KV (.int .i64 (E))) W)) := Lib.hid (fun W q => by rw [hE]; exact rGuard_K hM hL h1 h2 q)
  have HRH : Hid (∀ W, Calls Tryd.prog 58 #[(.int .i64 (h)), (.int .i64 (0)), (.int .i64 (536870912))] W (KP (KV (.int .i64 (RH))) W)) := Lib.hid (fun W => (qRange_any h 0 536870912 W).mono fun e W' ⟨p, q⟩ => ⟨_, p, by rw [hRH]; rfl, by subst q; exact Below.refl _ _⟩)
  have HRL : Hid (∀ W, Calls Tryd.prog 58 #[(.int .i64 (lv)), (.int .i64 (0)), (.int .i64 ((L : Int) - 1))] W (KP (KV (.int .i64 (RL))) W)) := Lib.hid (fun W => (qRange_any lv 0 ((L : Int) - 1) W).mono fun e W' ⟨p, q⟩ => ⟨_, p, by rw [hRL]; rfl, by subst q; exact Below.refl _ _⟩)
  have HF : Hid (∀ W : World, Calls Tryd.prog 31 #[.slice (some ⟨W.heap.size, 0, none⟩) 3 3] (W.alloc (.cells #[(.int .i64 (E)), (.int .i64 (RH)), (.int .i64 (RL))] 3)) fun r w' => r = .returned (.int .i64 (F)) ∧ (W.alloc (.cells #[(.int .i64 (E)), (.int .i64 (RH)), (.int .i64 (RL))] 3)) = w') := Lib.hid (fun W => by
    rw [hF]
    exact qFirst_any [E, RH, RL] _ 3 _ (by simp) (Cells.row (heap_new rfl)))
  obtain ⟨A1, c1, A2, c2, rfl, hT, hG⟩ := hu
  obtain ⟨A3, c3, rfl, hP⟩ := hv
  have HU := Lib.hid (show KG lk ht rc M ts L gs (.agg #[(.int .i64 (lk)), (.int .i64 (ht)), .slice A1 M c1, (.int .i64 (rc)), .slice A2 L c2]) w from ⟨_, _, _, _, rfl, hT, hG⟩)
  have HP := Lib.hid (show KS n l (.slice A3 n c3) w from ⟨_, _, rfl, hP⟩)
  have HN := Lib.hid hn
  rw [← hS]
  clear hM hL hn hT hG hP hE hRH hRL hF hS
  go_enter Tryd.func23, Tryd.ntmps23
  have HB0 := Lib.hid (Below.refl w.heap.size w)
  go_wp2
  refine name_world ?_
  intro w1 e1
  have h1 : Below w.heap.size w w1 := by rw [e1]; (repeat (first | (with_reducible exact Below.refl _ _) | ((with_reducible refine Below.setCell ?_ ?_ _); rotate_left 1; (focus (first | (simp; done) | (simp; omega) | (simp at *; omega)))) | ((with_reducible refine Below.alloc ?_ ?_ _); rotate_left 1; (focus (first | (simp; done) | (simp; omega) | (simp at *; omega))))))
  have ug_1 := Lib.hid (KG.st _ _ _ _ _ _ _ _ _ _ HU.out h1)
  have up_1 := Lib.hid (KS.st _ _ _ _ _ HP.out h1)
  have HB1 := Lib.hid (HB0.out.trans (h1.mono HB0.out.size))
  have bg_1 := Lib.hid (show Blk w1 w.heap.size #[(.int .i64 (lk)), (.int .i64 (ht)), .slice A1 M c1, (.int .i64 (rc)), .slice A2 L c2] from by rw [e1]; (repeat (first | ((with_reducible refine Blk.at_ ?_); focus (first | rfl | (simp; done) | (simp; omega))) | (with_reducible refine Blk.alloc ?_ _) | (with_reducible refine Blk.below ?_ (by with_reducible assumption)) | (with_reducible refine Blk.drew ?_))))
  have bs_1 := Lib.hid (show Blk w1 (w.heap.size + 1) #[(.int .i64 (h)), (.int .i64 (lv)), .slice A3 n c3] from by rw [e1]; (repeat (first | ((with_reducible refine Blk.at_ ?_); focus (first | rfl | (simp; done) | (simp; omega))) | (with_reducible refine Blk.alloc ?_ _) | (with_reducible refine Blk.below ?_ (by with_reducible assumption)) | (with_reducible refine Blk.drew ?_))))
  clear e1 h1
  obtain ⟨g0, g1, g2, g3, g4, gl, -⟩ := bg_1.out.o5
  obtain ⟨s0, s1, s2, sl, -⟩ := bs_1.out.o3
  refine Rel.region3 11 (by kernel_rfl) (by kernel_rfl) (by kernel_rfl) ?_
  simp only [List.take_succ_cons, List.take_zero, List.drop_succ_cons, List.drop_zero, List.filterMap_cons, List.filterMap_nil]
  (apply Rel.op3; (focus (first | exact Rel.gno rfl | exact Rel.gyes _ true _ rfl rfl rfl | exact Rel.gyes _ false _ rfl rfl rfl)); (focus (intro a W hb hd hbase; obtain ⟨hc, hf⟩ := bcell hb; clear hb hf; simp [Rel.deps, Rel.dep1, Rel.ons, Region.binds, Act.eval, KV] at hd; simp only [Act.eval, List.mem_cons, List.not_mem_nil, not_or, and_imp, or_false, Array.getD_eq_getD_getElem?] at hbase; go_simp; (try go_bits); (try rfl); done)); (try simp only [List.nil_append, List.cons_append]))
  refine Rel.callK 18 (KV (.int .i64 (E))) (KV.st _) (Rel.gno rfl) ?_ ?_
  · intro a W hb hd hbase
    have q1 : a.eval (.tmp 7) = _ := (Rel.dep_at hd 0 rfl rfl)
    refine ⟨#[a.eval (.tmp 7)], ?_, by rw [q1]; exact HCG.out _ (KG.st _ _ _ _ _ _ _ _ _ _ ug_1.out hb)⟩
    clear hd hbase hb
    go_simp
    (first | done | rfl | (refine ⟨?_, ?_⟩ <;> rfl))
  (try simp only [List.nil_append, List.cons_append])
  (apply Rel.op3; (focus (first | exact Rel.gno rfl | exact Rel.gyes _ true _ rfl rfl rfl | exact Rel.gyes _ false _ rfl rfl rfl)); (focus (intro a W hb hd hbase; obtain ⟨hc, hf⟩ := bcell hb; clear hb hf; simp [Rel.deps, Rel.dep1, Rel.ons, Region.binds, Act.eval, KV] at hd; simp only [Act.eval, List.mem_cons, List.not_mem_nil, not_or, and_imp, or_false, Array.getD_eq_getD_getElem?] at hbase; go_simp; (try go_bits); (try rfl); done)); (try simp only [List.nil_append, List.cons_append]))
  (apply Rel.op3; (focus (first | exact Rel.gno rfl | exact Rel.gyes _ true _ rfl rfl rfl | exact Rel.gyes _ false _ rfl rfl rfl)); (focus (intro a W hb hd hbase; obtain ⟨hc, hf⟩ := bcell hb; clear hb hf; simp [Rel.deps, Rel.dep1, Rel.ons, Region.binds, Act.eval, KV] at hd; simp only [Act.eval, List.mem_cons, List.not_mem_nil, not_or, and_imp, or_false, Array.getD_eq_getD_getElem?] at hbase; go_simp; (try go_bits); (try rfl); done)); (try simp only [List.nil_append, List.cons_append]))
  refine Rel.callK 58 (KV (.int .i64 (RH))) (KV.st _) (Rel.gno rfl) ?_ ?_
  · intro a W hb hd hbase
    have q1 : a.eval (.tmp 10) = _ := (Rel.dep_at hd 3 rfl rfl)
    refine ⟨#[a.eval (.tmp 10), (.int .i64 (0)), (.int .i64 (536870912))], ?_, by rw [q1]; exact HRH.out _⟩
    clear hd hbase hb
    go_simp
    (first | done | rfl | (refine ⟨?_, ?_⟩ <;> rfl))
  (try simp only [List.nil_append, List.cons_append])
  (apply Rel.op3; (focus (first | exact Rel.gno rfl | exact Rel.gyes _ true _ rfl rfl rfl | exact Rel.gyes _ false _ rfl rfl rfl)); (focus (intro a W hb hd hbase; obtain ⟨hc, hf⟩ := bcell hb; clear hb hf; simp [Rel.deps, Rel.dep1, Rel.ons, Region.binds, Act.eval, KV] at hd; simp only [Act.eval, List.mem_cons, List.not_mem_nil, not_or, and_imp, or_false, Array.getD_eq_getD_getElem?] at hbase; go_simp; (try go_bits); (try rfl); done)); (try simp only [List.nil_append, List.cons_append]))
  (apply Rel.op3; (focus (first | exact Rel.gno rfl | exact Rel.gyes _ true _ rfl rfl rfl | exact Rel.gyes _ false _ rfl rfl rfl)); (focus (intro a W hb hd hbase; obtain ⟨hc, hf⟩ := bcell hb; clear hb hf; simp [Rel.deps, Rel.dep1, Rel.ons, Region.binds, Act.eval, KV] at hd; simp only [Act.eval, List.mem_cons, List.not_mem_nil, not_or, and_imp, or_false, Array.getD_eq_getD_getElem?] at hbase; go_simp; (try go_bits); (try rfl); done)); (try simp only [List.nil_append, List.cons_append]))
  (apply Rel.op3; (focus (first | exact Rel.gno rfl | exact Rel.gyes _ true _ rfl rfl rfl | exact Rel.gyes _ false _ rfl rfl rfl)); (focus (intro a W hb hd hbase; obtain ⟨hc, hf⟩ := bcell hb; clear hb hf; simp [Rel.deps, Rel.dep1, Rel.ons, Region.binds, Act.eval, KV] at hd; simp only [Act.eval, List.mem_cons, List.not_mem_nil, not_or, and_imp, or_false, Array.getD_eq_getD_getElem?] at hbase; go_simp; (try go_bits); (try rfl); done)); (try simp only [List.nil_append, List.cons_append]))
  (apply Rel.op3; (focus (first | exact Rel.gno rfl | exact Rel.gyes _ true _ rfl rfl rfl | exact Rel.gyes _ false _ rfl rfl rfl)); (focus (intro a W hb hd hbase; obtain ⟨hc, hf⟩ := bcell hb; clear hb hf; simp [Rel.deps, Rel.dep1, Rel.ons, Region.binds, Act.eval, KV] at hd; simp only [Act.eval, List.mem_cons, List.not_mem_nil, not_or, and_imp, or_false, Array.getD_eq_getD_getElem?] at hbase; go_simp; (try go_bits); (try rfl); done)); (try simp only [List.nil_append, List.cons_append]))
  (apply Rel.op3; (focus (first | exact Rel.gno rfl | exact Rel.gyes _ true _ rfl rfl rfl | exact Rel.gyes _ false _ rfl rfl rfl)); (focus (intro a W hb hd hbase; obtain ⟨hc, hf⟩ := bcell hb; clear hb hf; simp [Rel.deps, Rel.dep1, Rel.ons, Region.binds, Act.eval, KV] at hd; simp only [Act.eval, List.mem_cons, List.not_mem_nil, not_or, and_imp, or_false, Array.getD_eq_getD_getElem?] at hbase; go_simp; (try go_bits); (try rfl); done)); (try simp only [List.nil_append, List.cons_append]))
  (apply Rel.op3; (focus (first | exact Rel.gno rfl | exact Rel.gyes _ true _ rfl rfl rfl | exact Rel.gyes _ false _ rfl rfl rfl)); (focus (intro a W hb hd hbase; obtain ⟨hc, hf⟩ := bcell hb; clear hb hf; simp [Rel.deps, Rel.dep1, Rel.ons, Region.binds, Act.eval, KV] at hd; simp only [Act.eval, List.mem_cons, List.not_mem_nil, not_or, and_imp, or_false, Array.getD_eq_getD_getElem?] at hbase; go_simp; (try go_bits); (try rfl); done)); (try simp only [List.nil_append, List.cons_append]))
  refine Rel.done3 ?_
  intro x w2 h2 hx
  simp only [Rel.facts, Nat.zero_add, Nat.reduceAdd] at hx
  clear g0 g1 g2 g3 g4 gl s0 s1 s2 sl
  obtain ⟨e0, e1, e2, e3, e4, e5, e6, e7, e8, e9, e10, _⟩ := hx
  have e1 : x 1 = _ := e1
  have e4 : x 4 = _ := e4
  simp only [Rel.fill, Nat.zero_add, Nat.reduceAdd, e0, e1, e2, e3, e4, e5, e6, e7, e8, e9, e10]
  simp only [Act.put, List.setIfInBounds_toArray, List.set_cons_zero, List.set_cons_succ]
  clear e0 e1 e2 e3 e4 e5 e6 e7 e8 e9 e10
  have ug_2 := Lib.hid (KG.st _ _ _ _ _ _ _ _ _ _ ug_1.out h2)
  have up_2 := Lib.hid (KS.st _ _ _ _ _ up_1.out h2)
  have bg_2 := Lib.hid (bg_1.out.below h2)
  have bs_2 := Lib.hid (bs_1.out.below h2)
  have HB2 := Lib.hid (HB1.out.trans (h2.mono HB1.out.size))
  clear h2
  obtain ⟨g0, g1, g2, g3, g4, gl, -⟩ := bg_2.out.o5
  obtain ⟨s0, s1, s2, sl, -⟩ := bs_2.out.o3
  go_wp2_with (go_at_call 58; refine (HRL.out _).mono ?_; rintro r w3 ⟨v3, rfl, k3, hb3⟩; obtain rfl := k3; refine Hid.out ?_)
  unfold Hid
  have HB3 := Lib.hid (HB2.out.trans (hb3.mono HB2.out.size))
  have bg_3 := Lib.hid (bg_2.out.below hb3)
  have bs_3 := Lib.hid (bs_2.out.below hb3)
  have up_3 := Lib.hid (KS.st _ _ _ _ _ up_2.out hb3)
  clear hb3 g0 g1 g2 g3 g4 gl s0 s1 s2 sl
  go_wp2_with (go_at_call 31; refine (HF.out _).mono ?_; rintro r w4 ⟨rfl, rfl⟩; refine Hid.out ?_)
  unfold Hid
  have bg_4 := Lib.hid (bg_3.out.alloc (.cells #[(.int .i64 (E)), (.int .i64 (RH)), (.int .i64 (RL))] 3))
  have bs_4 := Lib.hid (bs_3.out.alloc (.cells #[(.int .i64 (E)), (.int .i64 (RH)), (.int .i64 (RL))] 3))
  have HB4 := Lib.hid (HB3.out.alloc HB3.out.size (.cells #[(.int .i64 (E)), (.int .i64 (RH)), (.int .i64 (RL))] 3))
  have up_4 := Lib.hid (KS.st _ _ _ _ _ up_3.out ((Below.refl _ _).alloc (Nat.le_refl _) (.cells #[(.int .i64 (E)), (.int .i64 (RH)), (.int .i64 (RL))] 3)))
  clear bg_3 bs_3 HB3 up_3
  obtain ⟨g0, g1, g2, g3, g4, gl, -⟩ := bg_4.out.o5
  obtain ⟨s0, s1, s2, sl, -⟩ := bs_4.out.o3
  by_cases hF : F = 0
  · subst hF
    have hst := HST0.out rfl
    by_cases hS : n + 1 = M
    · have hS2 : (n : Int) = (M : Int) - 1 := by omega
      rw [if_pos hS] at hst
      have HST := Lib.hid hst
      clear hst
      go_wp2
      go_loop [5, 6] (fun e i => ∃ k : Nat, k ≤ n ∧ i = (.int .i64 ((k : Int))) ∧ (∃ y : Int, e = (.int .i64 (y))) ∧ ∀ j, j < k → rangeErr (l.getD j 0) (-2048) 2048 = 0) (fun _ i => n - (intOf i).toNat)
      case atStart => exact ⟨0, Nat.zero_le _, rfl, ⟨_, rfl⟩, fun j hj => by omega⟩
      case round =>
        obtain ⟨k, hk, rfl, ⟨y, rfl⟩, hz⟩ := hrel
        have HZ := Lib.hid hz
        clear hz
        by_cases hlt : k < n
        · obtain ⟨B, c, e, hC⟩ := up_4.out
          cases e
          obtain ⟨b, off, rfl, hbl, hc⟩ := hC (by rw [← HN.out]; omega)
          have hck := hc k (by rw [← HN.out]; exact hlt)
          obtain ⟨z, hzz⟩ : ∃ z, z = l.getD k 0 := ⟨_, rfl⟩
          rw [← hzz] at hck
          have HZZ := Lib.hid hzz
          clear hc hC hzz
          by_cases h0 : rangeErr z (-2048) 2048 = 0
          · have HCV := Lib.hid (fun W => pValue_any z W)
            rw [h0] at HCV
            have H0 := Lib.hid h0
            clear h0
            go_wp2_with (go_at_call 32; refine (HCV.out _).mono ?_; rintro r w5 ⟨rfl, rfl⟩)
            go_round
            case rel => exact ⟨k + 1, by omega, by go_num, ⟨_, rfl⟩, fun j hj => by
              rcases Nat.lt_or_ge j k with hjk | hjk
              · exact HZ.out j hjk
              · obtain rfl : j = k := by omega
                rw [← HZZ.out]; exact H0.out⟩
            case measure => simp [intOf]; omega
          · have HCV := Lib.hid (fun W => pValue_any z W)
            obtain ⟨V, hV⟩ : ∃ V, V = rangeErr z (-2048) 2048 := ⟨_, rfl⟩
            rw [← hV] at HCV h0
            have HV := Lib.hid hV
            clear hV
            go_wp2_with (go_at_call 32; refine (HCV.out _).mono ?_; rintro r w5 ⟨rfl, rfl⟩)
            go_ret
            refine ⟨_, rfl, ?_, HB4.out⟩
            rw [HST.out]
            unfold eachErr
            have hkl : k < (l.map fun n => rangeErr n (-2048) 2048).length := by rw [List.length_map, ← HN.out]; exact hlt
            have hg : ∀ j, j < l.length → (l.map fun n => rangeErr n (-2048) 2048).getD j 0 = rangeErr (l.getD j 0) (-2048) 2048 := fun j hj => by simp [List.getD_eq_getElem?_getD, hj]
            have hkn : k < l.length := by rw [← HN.out]; exact hlt
            rw [firstOf_take (k := k) (fun j hj => by rw [hg j (by omega)]; exact HZ.out j hj) hkl (by rw [hg k hkn, ← HZZ.out, ← HV.out]; exact h0), hg k hkn, ← HZZ.out, ← HV.out]
            rfl
        · obtain rfl : k = n := by omega
          go_wp2
          go_ret
          refine ⟨_, rfl, ?_, HB4.out⟩
          rw [HST.out]
          have : eachErr l (-2048) 2048 = 0 := by
            rw [eachErr_zero]
            intro x hx
            obtain ⟨j, hj, rfl⟩ := List.mem_iff_getElem.1 hx
            have := HZ.out j (by rw [HN.out]; exact hj)
            rw [List.getD_eq_getElem?_getD, List.getElem?_eq_getElem hj] at this
            exact rangeErr_zero.1 this
          rw [this]
          rfl
    · have hS2 : ¬ (n : Int) = (M : Int) - 1 := by omega
      rw [if_neg hS] at hst
      have HST := Lib.hid hst
      clear hst
      go_wp2
      go_ret
      exact ⟨_, rfl, by rw [HST.out]; rfl, HB4.out⟩
  · have HST := Lib.hid (HST1.out hF)
    go_wp2
    go_ret
    exact ⟨_, rfl, by rw [HST.out]; rfl, HB4.out⟩
end Go.Proofs.YtdeapbihbhoefaaDoor

/- Plain laws of ProtectKeeps: the limits as sums of the taps. -/
namespace Go.Proofs.YtdeapbihbhoefaaDoor
open Go.RowKit

/-- the output so many outputs before the last one of some. -/
def revD (os : List Int) (j : Nat) : Int := if j < os.length then os.getD (os.length - 1 - j) 0 else 0
/-- the last n outputs, the latest one first. -/
def pastL (n : Nat) (os : List Int) : List Int := (List.range n).map (revD os)
/-- the sum of m taps from one on, over the last outputs. -/
def latK (ts os : List Int) (later : Nat) : Nat → Int
  | 0 => 0
  | m + 1 => latK ts os later m + ts.getD (later + m) 0 * revD os m
/-- the heat behind the last one of some outputs, and the excursions at it and behind it, keep the limits. -/
def keepsF (lk ht rc h : Int) (ts os : List Int) : Bool :=
  decide (coolF lk h + revD os 0 * revD os 0 ≤ ht) && (List.range ts.length).all fun later => decide (absI (latK ts os later (ts.length - later)) ≤ rc)
theorem revD_snoc0 (os : List Int) (y : Int) : revD (os ++ [y]) 0 = y := by
  unfold revD
  rw [if_pos (by simp)]
  simp [List.getD_eq_getElem?_getD]
theorem revD_snoc (os : List Int) (y : Int) (j : Nat) : revD (os ++ [y]) (j + 1) = revD os j := by
  unfold revD
  simp only [List.length_append, List.length_cons, List.length_nil]
  by_cases h : j < os.length
  · rw [if_pos (by omega), if_pos h, List.getD_eq_getElem?_getD, List.getD_eq_getElem?_getD, List.getElem?_append_left (by omega)]
    congr 2
    omega
  · rw [if_neg (by omega), if_neg h]
theorem revD_nil (j : Nat) : revD [] j = 0 := rfl
theorem pastL_len (n : Nat) (os : List Int) : (pastL n os).length = n := by simp [pastL]
theorem pastL_getD (n : Nat) (os : List Int) (j : Nat) : (pastL n os).getD j 0 = if j < n then revD os j else 0 := by
  unfold pastL
  rw [List.getD_eq_getElem?_getD, List.getElem?_map]
  by_cases h : j < n
  · rw [if_pos h, List.getElem?_range h]; rfl
  · rw [if_neg h, List.getElem?_eq_none (by simpa using h)]; rfl
theorem pastL_nil (n : Nat) : pastL n [] = List.replicate n 0 := by
  apply List.ext_getElem
  · simp [pastL]
  · intro i h1 h2; simp [pastL, revD]
theorem pastL_snoc (n : Nat) (os : List Int) (y : Int) : pastL n (os ++ [y]) = pushL (pastL n os) y := by
  apply List.ext_getElem
  · rw [pushL_len, pastL_len, pastL_len]
  · intro i h1 h2
    rw [pastL_len] at h1
    have e1 : (pastL n (os ++ [y]))[i] = (pastL n (os ++ [y])).getD i 0 := by rw [List.getD_eq_getElem?_getD, List.getElem?_eq_getElem (by rw [pastL_len]; exact h1)]; rfl
    have e2 : (pushL (pastL n os) y)[i] = (pushL (pastL n os) y).getD i 0 := by rw [List.getD_eq_getElem?_getD, List.getElem?_eq_getElem h2]; rfl
    rw [e1, e2, pastL_getD, if_pos h1, pushL_getD, pastL_len, if_pos h1]
    cases i with
    | zero => rw [revD_snoc0]; rfl
    | succ j => rw [revD_snoc, List.getD_cons_succ, pastL_getD, if_pos (by omega)]
theorem st_past (lk ht rc : Int) (ts gs xs : List Int) : ∀ k, (stAt lk ht rc ts gs xs k).ps = pastL (ts.length - 1) (outsK lk ht rc ts gs xs k)
  | 0 => by rw [show outsK lk ht rc ts gs xs 0 = [] from rfl, pastL_nil]; rfl
  | k + 1 => by
    rw [outsK_succ, pastL_snoc, ← st_past lk ht rc ts gs xs k]
    rfl
theorem latK_now {ts os : List Int} {n : Nat} (y : Int) : ∀ k, k ≤ n → exK ts (pastL n os) y k = latK ts (os ++ [y]) 0 (k + 1)
  | 0, _ => by simp [exK, latK, revD_snoc0]
  | k + 1, h => by
    show exK ts (pastL n os) y k + ts.getD (k + 1) 0 * (pastL n os).getD k 0 = latK ts (os ++ [y]) 0 (k + 1) + ts.getD (0 + (k + 1)) 0 * revD (os ++ [y]) (k + 1)
    rw [latK_now y k (by omega), revD_snoc, pastL_getD, if_pos (by omega), Nat.zero_add]
theorem latK_later {ts os : List Int} {n k : Nat} : ∀ m, k + m ≤ n → exK ts (psK (pastL n os) k) 0 (k + m) = latK ts os (k + 1) m
  | 0, h => by
    rw [Nat.add_zero, latK]
    refine exK_zero (fun i hi => ?_)
    rw [psK_getD, pastL_len, if_pos (by omega), if_pos hi]
  | m + 1, h => by
    show exK ts (psK (pastL n os) k) 0 (k + m + 1) = _
    rw [exK, latK_later m (by omega), latK, psK_getD, pastL_len, if_pos (by omega), if_neg (by omega), pastL_getD, if_pos (by omega)]
    rw [show k + m - k = m by omega, show k + m + 1 = k + 1 + m by omega]
theorem keeps_fine {lk ht rc h y : Int} {ts os : List Int} (h1 : 1 ≤ ts.length) :
    keepsF lk ht rc h ts (os ++ [y]) = fineF ht rc (coolF lk h + y * y) (exF ts (pastL (ts.length - 1) os) y) ts (pushL (pastL (ts.length - 1) os) y) := by
  unfold keepsF fineF
  rw [revD_snoc0]
  rw [Bool.and_assoc]
  congr 1
  rw [Bool.eq_iff_iff, Bool.and_eq_true, List.all_eq_true, Bool.not_eq_true', Bool.not_eq_true', farAny_false, decide_eq_false_iff_not]
  have e0 : exF ts (pastL (ts.length - 1) os) y = latK ts (os ++ [y]) 0 ts.length := by
    unfold exF
    rw [pastL_len, latK_now y _ (Nat.le_refl _)]
    congr 1
    omega
  have e1 : ∀ k, k < ts.length - 1 → exF ts (psK (pushL (pastL (ts.length - 1) os) y) k) 0 = latK ts (os ++ [y]) (k + 1) (ts.length - (k + 1)) := by
    intro k hk
    rw [← pastL_snoc]
    unfold exF
    rw [psK_len, pastL_len]
    have := latK_later (ts := ts) (os := os ++ [y]) (n := ts.length - 1) (k := k) (ts.length - 1 - k) (by omega)
    rw [show k + (ts.length - 1 - k) = ts.length - 1 by omega, show ts.length - 1 - k = ts.length - (k + 1) by omega] at this
    exact this
  constructor
  · intro h
    refine ⟨?_, ?_⟩
    · have := of_decide_eq_true (h 0 (List.mem_range.2 (by omega)))
      rw [Nat.sub_zero, ← e0] at this
      omega
    · intro x hx
      unfold tailsF tailsL at hx
      obtain ⟨k, hk, rfl⟩ := List.mem_map.1 hx
      rw [List.mem_range, pushL_len, pastL_len] at hk
      rw [e1 k hk]
      exact of_decide_eq_true (h (k + 1) (List.mem_range.2 (by omega)))
  · rintro ⟨h0, h2⟩ later hl
    rw [List.mem_range] at hl
    refine decide_eq_true ?_
    cases later with
    | zero => rw [Nat.sub_zero, ← e0]; omega
    | succ k =>
      rw [← e1 k (by omega)]
      refine h2 _ ?_
      unfold tailsF tailsL
      exact List.mem_map.2 ⟨k, List.mem_range.2 (by rw [pushL_len, pastL_len]; omega), rfl⟩
theorem stepK_top {lk ht rc h x : Int} {ts ps gs : List Int} {k : Nat} : ∀ {n : Nat}, stepK lk ht rc h x ts ps gs n = some k → ∀ j, k < j → j < n → okAt lk ht rc h x ts ps gs j = false
  | 0, e, j, h1, h2 => by omega
  | n + 1, e, j, h1, h2 => by
    unfold stepK at e
    split at e
    · cases e; omega
    · rename_i h0
      rcases Nat.lt_or_ge j n with h3 | h3
      · exact stepK_top e j h1 h3
      · obtain rfl : j = n := by omega
        simpa using h0
/-- behind each output of a run the limits are kept, and a greater gain would not have kept them. -/
theorem keeps_run {lk ht rc : Int} {ts gs xs : List Int} (hV : Valid lk ht rc ts gs) (hx : inB 2048 xs) (k : Nat) :
    keepsF lk ht rc (stAt lk ht rc ts gs xs k).h ts (outsK lk ht rc ts gs xs k ++ [outAt lk ht rc ts gs xs k]) = true ∧
    (∀ n, lvAt lk ht rc ts gs xs k < n → n < gs.length → n ≤ (stAt lk ht rc ts gs xs k).lv + 1 → keepsF lk ht rc (stAt lk ht rc ts gs xs k).h ts (outsK lk ht rc ts gs xs k ++ [byF (xs.getD k 0) (gs.getD n 0)]) = false) ∧
    lvAt lk ht rc ts gs xs k < gs.length ∧ lvAt lk ht rc ts gs xs k ≤ (stAt lk ht rc ts gs xs k).lv + 1 := by
  have hs := lvF_some hV (good_at hV hx k) (xs.getD k 0)
  have hl := stepK_lt hs
  have hp := st_past lk ht rc ts gs xs k
  have ht := hV.tl
  have hg := hV.gl
  refine ⟨?_, ?_, ?_, ?_⟩
  · rw [keeps_fine ht.1, ← hp]
    exact hl.2
  · intro n h1 h2 h3
    rw [keeps_fine ht.1, ← hp]
    exact stepK_top hs n h1 (by omega)
  · have := hl.1
    unfold lvAt
    omega
  · have := hl.1
    unfold lvAt
    omega
theorem byF_abs {x g : Int} (hg : 0 ≤ g ∧ g ≤ 16) : absI (byF x g) ≤ absI x ∧ 0 ≤ byF x g * x := by
  unfold byF
  rcases Int.le_total 0 x with h | h
  · have h0 : 0 ≤ x * g := Int.mul_nonneg h hg.1
    rw [Int.tdiv_eq_ediv_of_nonneg h0]
    have h1 : 0 ≤ x * g / 16 := Int.ediv_nonneg h0 (by decide)
    have h2 : x * g ≤ x * 16 := Int.mul_le_mul_of_nonneg_left hg.2 h
    refine ⟨?_, Int.mul_nonneg h1 h⟩
    unfold absI
    omega
  · obtain ⟨m, rfl⟩ : ∃ m, x = -m := ⟨-x, by omega⟩
    have hm : 0 ≤ m := by omega
    have h0 : 0 ≤ m * g := Int.mul_nonneg hm hg.1
    rw [Int.neg_mul, Int.neg_tdiv, Int.tdiv_eq_ediv_of_nonneg h0]
    have h1 : 0 ≤ m * g / 16 := Int.ediv_nonneg h0 (by decide)
    have h2 : m * g ≤ m * 16 := Int.mul_le_mul_of_nonneg_left hg.2 hm
    refine ⟨?_, by rw [Int.neg_mul_neg]; exact Int.mul_nonneg h1 hm⟩
    unfold absI
    omega
end Go.Proofs.YtdeapbihbhoefaaDoor

/- Plain laws of ProtectOpposite. -/
namespace Go.Proofs.YtdeapbihbhoefaaDoor
open Go.RowKit

/-- the opposites. -/
def negL (l : List Int) : List Int := l.map fun x => -x
theorem negL_len (l : List Int) : (negL l).length = l.length := by simp [negL]
theorem negL_getD (l : List Int) (k : Nat) : (negL l).getD k 0 = -(l.getD k 0) := by
  unfold negL
  rw [List.getD_eq_getElem?_getD, List.getD_eq_getElem?_getD, List.getElem?_map]
  cases l[k]? <;> simp
theorem negL_push (ps : List Int) (y : Int) : pushL (negL ps) (-y) = negL (pushL ps y) := by
  unfold pushL negL
  rw [List.length_map, ← List.map_cons (f := fun x : Int => -x), List.map_take]
theorem negL_psK (ps : List Int) : ∀ k, psK (negL ps) k = negL (psK ps k)
  | 0 => rfl
  | k + 1 => by
    show pushL (psK (negL ps) k) 0 = negL (pushL (psK ps k) 0)
    rw [negL_psK ps k, ← negL_push]
    rfl
theorem exK_neg (ts ps : List Int) (y : Int) : ∀ k, exK ts (negL ps) (-y) k = -(exK ts ps y k)
  | 0 => by simp [exK, Int.mul_neg]
  | k + 1 => by rw [exK, exK, exK_neg ts ps y k, negL_getD, Int.mul_neg, Int.neg_add]
theorem exF_neg (ts ps : List Int) (y : Int) : exF ts (negL ps) (-y) = -(exF ts ps y) := by
  unfold exF
  rw [negL_len, exK_neg]
theorem absI_neg (x : Int) : absI (-x) = absI x := by unfold absI; omega
theorem tailsF_neg (ts ps : List Int) : tailsF ts (negL ps) = negL (tailsF ts ps) := by
  unfold tailsF tailsL
  rw [negL_len]
  unfold negL
  rw [List.map_map]
  refine List.map_congr_left (fun k _ => ?_)
  show exF ts (psK (negL ps) k) 0 = -(exF ts (psK ps k) 0)
  rw [negL_psK, ← exF_neg]
  rfl
theorem farAny_neg (rc : Int) (l : List Int) : farAny rc (negL l) = farAny rc l := by
  unfold farAny negL
  rw [List.any_map]
  congr 1
  funext x
  simp only [Function.comp, absI_neg]
theorem fineF_neg (ht rc h x : Int) (ts ps : List Int) : fineF ht rc h (-x) ts (negL ps) = fineF ht rc h x ts ps := by
  unfold fineF
  rw [absI_neg, tailsF_neg, farAny_neg]
theorem byF_neg (x g : Int) : byF (-x) g = -(byF x g) := by unfold byF; rw [Int.neg_mul, Int.neg_tdiv]
theorem okAt_neg (lk ht rc h x : Int) (ts ps gs : List Int) (k : Nat) : okAt lk ht rc h (-x) ts (negL ps) gs k = okAt lk ht rc h x ts ps gs k := by
  unfold okAt
  rw [byF_neg, exF_neg, negL_push, fineF_neg, Int.neg_mul_neg]
theorem stepK_neg (lk ht rc h x : Int) (ts ps gs : List Int) : ∀ n, stepK lk ht rc h (-x) ts (negL ps) gs n = stepK lk ht rc h x ts ps gs n
  | 0 => rfl
  | n + 1 => by unfold stepK; rw [okAt_neg, stepK_neg lk ht rc h x ts ps gs n]
theorem lvF_neg (lk ht rc : Int) (ts gs : List Int) (h x : Int) (lv : Nat) (ps : List Int) : lvF lk ht rc ts gs ⟨h, lv, negL ps⟩ (-x) = lvF lk ht rc ts gs ⟨h, lv, ps⟩ x := by
  unfold lvF
  rw [stepK_neg]
theorem outF_neg (lk ht rc : Int) (ts gs : List Int) (h x : Int) (lv : Nat) (ps : List Int) : outF lk ht rc ts gs ⟨h, lv, negL ps⟩ (-x) = -(outF lk ht rc ts gs ⟨h, lv, ps⟩ x) := by
  unfold outF
  rw [lvF_neg, byF_neg]
theorem stF_neg (lk ht rc : Int) (ts gs : List Int) (h x : Int) (lv : Nat) (ps : List Int) : stF lk ht rc ts gs ⟨h, lv, negL ps⟩ (-x) = ⟨(stF lk ht rc ts gs ⟨h, lv, ps⟩ x).h, (stF lk ht rc ts gs ⟨h, lv, ps⟩ x).lv, negL (stF lk ht rc ts gs ⟨h, lv, ps⟩ x).ps⟩ := by
  unfold stF
  simp only [outF_neg, lvF_neg, negL_push, Int.neg_mul_neg]
theorem stAt_neg (lk ht rc : Int) (ts gs xs : List Int) : ∀ k, stAt lk ht rc ts gs (negL xs) k = ⟨(stAt lk ht rc ts gs xs k).h, (stAt lk ht rc ts gs xs k).lv, negL (stAt lk ht rc ts gs xs k).ps⟩
  | 0 => by simp [stAt, negL]
  | k + 1 => by
    show stF lk ht rc ts gs (stAt lk ht rc ts gs (negL xs) k) ((negL xs).getD k 0) = _
    rw [stAt_neg lk ht rc ts gs xs k, negL_getD, stF_neg]
    rfl
theorem outAt_neg (lk ht rc : Int) (ts gs xs : List Int) (k : Nat) : outAt lk ht rc ts gs (negL xs) k = -(outAt lk ht rc ts gs xs k) := by
  unfold outAt
  rw [stAt_neg, negL_getD, outF_neg]
theorem lvAt_neg (lk ht rc : Int) (ts gs xs : List Int) (k : Nat) : lvAt lk ht rc ts gs (negL xs) k = lvAt lk ht rc ts gs xs k := by
  unfold lvAt
  rw [stAt_neg, negL_getD, lvF_neg]
theorem outsK_neg (lk ht rc : Int) (ts gs xs : List Int) (k : Nat) : outsK lk ht rc ts gs (negL xs) k = negL (outsK lk ht rc ts gs xs k) := by
  unfold outsK
  show _ = (List.map (fun i => outAt lk ht rc ts gs xs i) (List.range k)).map fun x => -x
  rw [List.map_map]
  exact List.map_congr_left (fun i _ => outAt_neg lk ht rc ts gs xs i)
theorem lvsK_neg (lk ht rc : Int) (ts gs xs : List Int) (k : Nat) : lvsK lk ht rc ts gs (negL xs) k = lvsK lk ht rc ts gs xs k := by
  unfold lvsK
  simp only [lvAt_neg]
theorem negL_in {b : Int} {l : List Int} (h : inB b l) : inB b (negL l) := by
  intro x hx
  obtain ⟨y, hy, rfl⟩ := List.mem_map.1 hx
  have := h y hy
  omega
theorem negL_succ {l : List Int} {k : Nat} (h : k < l.length) : negL (l.take (k + 1)) = negL (l.take k) ++ [-(l.getD k 0)] := by
  rw [List.take_succ_eq_append_getElem h]
  unfold negL
  rw [List.map_append]
  simp only [List.map_cons, List.map_nil, List.getD_eq_getElem?_getD, List.getElem?_eq_getElem h, Option.getD_some]
/-- a run of a begin. -/
theorem getD_take {l : List Int} {n k : Nat} (h : k < n) : (l.take n).getD k 0 = l.getD k 0 := by
  rw [List.getD_eq_getElem?_getD, List.getD_eq_getElem?_getD, List.getElem?_take_of_lt h]
theorem stAt_take (lk ht rc : Int) (ts gs xs : List Int) (n : Nat) : ∀ k, k ≤ n → stAt lk ht rc ts gs (xs.take n) k = stAt lk ht rc ts gs xs k
  | 0, _ => rfl
  | k + 1, h => by
    show stF lk ht rc ts gs (stAt lk ht rc ts gs (xs.take n) k) ((xs.take n).getD k 0) = _
    rw [stAt_take lk ht rc ts gs xs n k (by omega), getD_take (by omega)]
    rfl
theorem outsK_take (lk ht rc : Int) (ts gs xs : List Int) (n : Nat) : outsK lk ht rc ts gs (xs.take n) n = outsK lk ht rc ts gs xs n := by
  unfold outsK
  refine List.map_congr_left (fun k hk => ?_)
  rw [List.mem_range] at hk
  unfold outAt
  rw [stAt_take _ _ _ _ _ _ _ _ (by omega), getD_take hk]
theorem outsK_begin (lk ht rc : Int) (ts gs xs : List Int) {n m : Nat} (h : n ≤ m) : (outsK lk ht rc ts gs xs m).take n = outsK lk ht rc ts gs xs n := by
  unfold outsK
  rw [← List.map_take, List.take_range, Nat.min_eq_left h]
/-- peaks. -/
theorem bhAt_neg (lk : Int) (ys : List Int) : ∀ k, bhAt lk (negL ys) k = bhAt lk ys k
  | 0 => rfl
  | k + 1 => by rw [bhAt, bhAt, bhAt_neg lk ys k, negL_getD, Int.neg_mul_neg]
theorem bpAt_neg (n : Nat) (ys : List Int) : ∀ k, bpAt n (negL ys) k = negL (bpAt n ys k)
  | 0 => by simp [bpAt, negL]
  | k + 1 => by rw [bpAt, bpAt, bpAt_neg n ys k, negL_getD, negL_push]
theorem exAt_neg (ts ys : List Int) (k : Nat) : exAt ts (negL ys) k = -(exAt ts ys k) := by
  unfold exAt
  rw [bpAt_neg, negL_getD, exF_neg]
theorem pkH_neg (lk : Int) (ys : List Int) : ∀ k, pkH lk (negL ys) k = pkH lk ys k
  | 0 => rfl
  | k + 1 => by rw [pkH, pkH, pkH_neg lk ys k, bhAt_neg]
theorem pkX_neg (ts ys : List Int) : ∀ k, pkX ts (negL ys) k = pkX ts ys k
  | 0 => rfl
  | k + 1 => by rw [pkX, pkX, pkX_neg ts ys k, exAt_neg, absI_neg]
theorem outsK_getD (lk ht rc : Int) (ts gs xs : List Int) {m k : Nat} (h : k < m) : (outsK lk ht rc ts gs xs m).getD k 0 = outAt lk ht rc ts gs xs k := by
  unfold outsK
  rw [List.getD_eq_getElem?_getD, List.getElem?_map, List.getElem?_range h]
  rfl
theorem lvsK_getD (lk ht rc : Int) (ts gs xs : List Int) {m k : Nat} (h : k < m) : (lvsK lk ht rc ts gs xs m).getD k 0 = (lvAt lk ht rc ts gs xs k : Nat) := by
  unfold lvsK
  rw [List.getD_eq_getElem?_getD, List.getElem?_map, List.getElem?_range h]
  rfl
theorem outs_bh (lk ht rc : Int) (ts gs xs : List Int) (m : Nat) : ∀ k, k ≤ m → bhAt lk (outsK lk ht rc ts gs xs m) k = (stAt lk ht rc ts gs xs k).h
  | 0, _ => rfl
  | k + 1, h => by
    rw [bhAt, outs_bh lk ht rc ts gs xs m k (by omega), outsK_getD _ _ _ _ _ _ (by omega)]
    rfl
theorem outs_bp (lk ht rc : Int) (ts gs xs : List Int) (m : Nat) : ∀ k, k ≤ m → bpAt (ts.length - 1) (outsK lk ht rc ts gs xs m) k = (stAt lk ht rc ts gs xs k).ps
  | 0, _ => rfl
  | k + 1, h => by
    rw [bpAt, outs_bp lk ht rc ts gs xs m k (by omega), outsK_getD _ _ _ _ _ _ (by omega)]
    rfl
theorem peaks_keep {lk ht rc : Int} {ts gs xs : List Int} (hV : Valid lk ht rc ts gs) (hx : inB 2048 xs) (m : Nat) : ∀ k, k ≤ m → pkH lk (outsK lk ht rc ts gs xs m) k ≤ ht ∧ pkX ts (outsK lk ht rc ts gs xs m) k ≤ rc
  | 0, _ => ⟨hV.ht.1, hV.rc.1⟩
  | k + 1, h => by
    obtain ⟨h1, h2⟩ := peaks_keep hV hx m k (by omega)
    have hg := good_at hV hx (k + 1)
    have hs := step_good hV (good_at hV hx k) (inB_get hx (by omega) k)
    constructor
    · rw [pkH, mx_eq, outs_bh _ _ _ _ _ _ _ _ h]
      have := hg.h
      omega
    · rw [pkX, mx_eq]
      have : exAt ts (outsK lk ht rc ts gs xs m) k = exF ts (stAt lk ht rc ts gs xs k).ps (outF lk ht rc ts gs (stAt lk ht rc ts gs xs k) (xs.getD k 0)) := by
        unfold exAt
        rw [outs_bp _ _ _ _ _ _ _ _ (by omega), outsK_getD _ _ _ _ _ _ (by omega)]
        rfl
      rw [this]
      have := hs.2.2.1
      omega
theorem outs_in {lk ht rc : Int} {ts gs xs : List Int} (hV : Valid lk ht rc ts gs) (hx : inB 2048 xs) (m : Nat) : inB 2048 (outsK lk ht rc ts gs xs m) := by
  intro y hy
  unfold outsK at hy
  obtain ⟨k, _, rfl⟩ := List.mem_map.1 hy
  exact (step_good hV (good_at hV hx k) (inB_get hx (by omega) k)).2.1
theorem sigErr_ok {xs : List Int} (h : inB 2048 xs) (hn : xs.length ≤ 4096) : sigErr xs = 0 := by
  unfold sigErr
  rw [if_neg (by omega), eachErr_zero.2 h]
  rfl
/-- one output changed. -/
theorem wrong_in {l : List Int} (h : inB 2048 l) {k : Nat} (v : Int) (hv : -2048 ≤ v ∧ v ≤ 2048) : inB 2048 (l.set k v) := by
  intro x hx
  rcases List.mem_or_eq_of_mem_set hx with h1 | rfl
  · exact h x h1
  · exact hv
theorem wrong_ne {l : List Int} {k : Nat} (hk : k < l.length) {v : Int} (hv : v ≠ l.getD k 0) : l ≠ l.set k v := by
  intro e
  apply hv
  have h2 : l.getD k 0 = (l.set k v).getD k 0 := by rw [← e]
  rw [h2]
  simp [List.getD_eq_getElem?_getD, hk]
end Go.Proofs.YtdeapbihbhoefaaDoor
