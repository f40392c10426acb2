/- Part 22 of the texts of the claim: N2, N3. -/
import Derived.Test.YtdeapbihbhoefaaDoorPr21
import Derived.Test.YtdeapbihbhoefaaDoorPr16

/- The reference's Begin, CheckState, SameState. -/
namespace Go.Proofs.YtdeapbihbhoefaaDoor
open Go.RowKit
open Calm (bcell Blk)

set_option maxRecDepth 100000 in
set_option maxHeartbeats 1000000 in
theorem rBegin_typed (lk ht rc : Int) (A1 A2 : Option Addr) (n1 c1 n2 c2 : Nat) (w : World) (h1 : 1 ≤ n1 ∧ n1 ≤ 1000000) (h2 : 1 ≤ n2 ∧ n2 ≤ 1000000) :
    Calls Tryd.prog 19 #[.agg #[(.int .i64 (lk)), (.int .i64 (ht)), .slice A1 n1 c1, (.int .i64 (rc)), .slice A2 n2 c2]] w fun r w' => (∃ B, w.heap.size ≤ B.block ∧ r = .returned (.agg #[(.int .i64 (0)), (.int .i64 (((n2 - 1 : Nat) : Int))), .slice (some B) (n1 - 1) (n1 - 1)]) ∧ Cells w' (some B) (List.replicate (n1 - 1) 0) ∧ IntRow w' B) ∧ Below w.heap.size w w' := by
  obtain ⟨a, rfl⟩ : ∃ a, n1 = a + 1 := ⟨n1 - 1, by omega⟩
  obtain ⟨b, rfl⟩ : ∃ b, n2 = b + 1 := ⟨n2 - 1, by omega⟩
  have hmk := mk_ints a (by omega)
  have e1 : ((a + 1 : Nat) : Int) - 1 = (a : Int) := by omega
  have e2 : ((b + 1 : Nat) : Int) - 1 = (b : Int) := by omega
  have E1 := Lib.hid e1
  have E2 := Lib.hid e2
  simp only [Nat.add_sub_cancel]
  obtain ⟨b1, b2⟩ := h1
  obtain ⟨b3, b4⟩ := h2
  clear e1 e2
  go_enter Tryd.func19, Tryd.ntmps19
  go_wp2
  refine Rel.region3 9 (by kernel_rfl) (by kernel_rfl) (by kernel_rfl) ?_
  simp only [List.take_succ_cons, List.take_zero, List.drop_succ_cons, List.drop_zero, List.filterMap_cons, List.filterMap_nil]
  iterate 8 (apply Rel.op3; (focus (first | exact Rel.gno rfl | exact Rel.gyes _ true _ rfl rfl rfl | exact Rel.gyes _ false _ rfl rfl rfl)); (focus (intro a W hb hd hbase; obtain ⟨hc, hf⟩ := bcell hb; clear hb hf; simp [Rel.deps, Rel.dep1, Rel.ons, Region.binds, Act.eval] at hd; simp only [Act.eval, List.mem_cons, List.not_mem_nil, not_or, and_imp, or_false, Array.getD_eq_getD_getElem?] at hbase; go_simp; (try go_bits); (try rfl); done)); (try simp only [List.nil_append, List.cons_append]))
  refine Rel.buildT3 3 a a (zerosA a).toArray (Rel.gno rfl) ?_ ?_
  · intro ac W hb hd hbase
    simp [Rel.deps, Rel.dep1, Rel.ons, Region.binds, Act.eval] at hd
    go_simp
  (try simp only [List.nil_append, List.cons_append])
  refine Rel.done3 ?_
  intro x w1 hb1 hx
  simp only [Rel.facts, Nat.zero_add, Nat.reduceAdd] at hx
  obtain ⟨e0, e1, e2, e3, e4, e5, e6, e7, ⟨g, e8, hg, hKR⟩, _⟩ := hx
  simp only [Rel.fill, Nat.zero_add, Nat.reduceAdd, e0, e1, e2, e3, e4, e5, e6, e7, e8]
  simp only [Act.put, List.setIfInBounds_toArray, List.set_cons_zero, List.set_cons_succ]
  clear e0 e1 e2 e3 e4 e5 e6 e7 e8 hmk
  have K2 : Blk w1 (w.heap.size + 1) #[(.int .i64 (0)), (.int .i64 (0)), .slice none 0 0] := Blk.below (by (repeat (first | ((with_reducible refine Blk.at_ ?_); focus (first | rfl | (simp; done) | (simp; omega))) | (with_reducible refine Blk.alloc ?_ _) | (with_reducible refine Blk.below ?_ (by with_reducible assumption)) | (with_reducible refine Blk.drew ?_)))) hb1
  have HB1 : Hid (Below w.heap.size w w1) := Lib.hid (Below.trans (by (repeat (first | (with_reducible exact Below.refl _ _) | ((with_reducible refine Below.setCell ?_ ?_ _); rotate_left 1; focus (first | (simp; done) | (simp; omega) | (simp at *; omega))) | ((with_reducible refine Below.alloc ?_ ?_ _); rotate_left 1; focus (first | (simp; done) | (simp; omega) | (simp at *; omega))) | (with_reducible refine Below.drew ?_) | ((with_reducible refine Calm.step (by assumption) ?_ ?_); rotate_left 1; focus (first | (simp; done) | (simp; omega) | (simp at *; omega)))))) (hb1.mono (by simp; omega)))
  have hK := Calm.Blk.row hKR
  have HC := Lib.hid (cells_zeros hK)
  have HI : Hid (IntRow w1 ⟨g, 0, none⟩) := Lib.hid ⟨_, hKR⟩
  clear hKR
  simp at hg
  have HK2 := Lib.hid K2
  obtain ⟨c0, c1', c2', l0, f0⟩ := K2.o3
  clear hb1 hK K2
  go_wp2
  have KR := HK2.out.set3 (.int .i64 (0)) (.int .i64 ((b : Int))) (.slice (some ⟨g, 0, none⟩) a a)
  obtain ⟨y0, y1, y2, yl, yf⟩ := KR.o3
  have q : 0 < (List.replicate a (0 : Int)).length → ∀ p, some (⟨g, 0, none⟩ : Addr) = some p → p.block ≠ w.heap.size + 1 := fun _ p hp => by cases hp; show g ≠ _; omega
  have q2 : (⟨g, 0, none⟩ : Addr).block ≠ w.heap.size + 1 := by show g ≠ _; omega
  clear c0 c1' c2' l0 f0 KR
  exact bodyPost_ret (v := .agg #[(.int .i64 (0)), (.int .i64 ((b : Int))), .slice (some ⟨g, 0, none⟩) a a]) (by simp [results, Tryd.results19, go_sem, y0, y1, y2]) rfl
    ⟨⟨⟨g, 0, none⟩, by show w.heap.size ≤ g; omega, rfl, ((HC.out.sets q _ _).sets q _ _).sets q _ _, ((HI.out.sets q2 _ _).sets q2 _ _).sets q2 _ _⟩, ((HB1.out.setCell (by simp) _).setCell (by simp) _).setCell (by simp) _⟩

theorem rBegin_K {lk ht rc : Int} {M L : Nat} {ts gs : List Int} {u : Value} {W : World} (h1 : 1 ≤ M ∧ M ≤ 1000) (h2 : 1 ≤ L ∧ L ≤ 1000) (hu : KG lk ht rc M ts L gs u W) : Calls Tryd.prog 19 #[u] W (KP (KTI 0 ((L - 1 : Nat) : Int) (M - 1) (List.replicate (M - 1) 0)) W) := by
  obtain ⟨A1, c1, A2, c2, rfl, _, _⟩ := hu
  exact (rBegin_typed lk ht rc A1 A2 M c1 L c2 W (by omega) (by omega)).mono fun e W' ⟨⟨B, _, h, hc, hi⟩, hb⟩ => ⟨_, h, ⟨_, _, rfl, hc, fun p hp => by cases hp; exact hi⟩, hb⟩
theorem rGuard_K {lk ht rc : Int} {M L : Nat} {ts gs : List Int} {u : Value} {W : World} (hM : M = ts.length) (hL : L = gs.length) (h1 : M ≤ 1000) (h2 : L ≤ 1000) (hu : KG lk ht rc M ts L gs u W) : Calls Tryd.prog 18 #[u] W (KP (KV (.int .i64 (guardErr lk ht rc ts gs))) W) := by
  obtain ⟨A1, c1, A2, c2, rfl, hT, hG⟩ := hu
  subst hM hL
  exact (pGuard_any lk ht rc ts gs A1 A2 c1 c2 W hT hG (by omega) (by omega)).mono fun e W' ⟨h, hb⟩ => ⟨_, h, rfl, hb⟩
set_option maxHeartbeats 1000000 in
theorem sameState_T {h lv : Int} {n : Nat} {l : List Int} {u v : Value} {W : World} (hn : n = l.length) (hn2 : n ≤ 1000) (hu : KT h lv n l u W) (hv : KT h lv n l v W) : Calls Tryd.prog 24 #[u, v] W (KP (KV (.bool true)) W) := by
  obtain ⟨B, c, rfl, hB⟩ := hu
  obtain ⟨B2, c2, rfl, hB2⟩ := hv
  have H1 := Lib.hid (show KS n l (.slice B n c) W from ⟨_, _, rfl, hB⟩)
  have H2 := Lib.hid (show KS n l (.slice B2 n c2) W from ⟨_, _, rfl, hB2⟩)
  have HN := Lib.hid hn
  clear hB hB2 hn
  go_enter Tryd.func24, Tryd.ntmps24
  go_wp2_with (go_at_call 38; refine name_calls ?_; intro w1 e1; refine Hid.out ?_)
  unfold Hid
  have hb1 : Below W.heap.size W w1 := by rw [e1]; (repeat (first | (with_reducible exact Below.refl _ _) | ((with_reducible refine Below.setCell ?_ ?_ _); rotate_left 1; focus (first | (simp; done) | (simp; omega) | (simp at *; omega))) | ((with_reducible refine Below.alloc ?_ ?_ _); rotate_left 1; focus (first | (simp; done) | (simp; omega) | (simp at *; omega))) | (with_reducible refine Below.drew ?_) | ((with_reducible refine Calm.step (by assumption) ?_ ?_); rotate_left 1; focus (first | (simp; done) | (simp; omega) | (simp at *; omega)))))
  have K1 := Lib.hid (KS.st _ _ _ _ _ H1.out hb1)
  have K2' := Lib.hid (KS.st _ _ _ _ _ H2.out hb1)
  have HB1 := Lib.hid hb1
  clear e1 hb1
  refine (same_T rfl HN.out HN.out (by omega) K1.out K2'.out).mono ?_
  rintro r w2 ⟨v2, rfl, hk, hb2⟩
  obtain rfl := hk
  have HB2 := Lib.hid (HB1.out.trans (hb2.mono HB1.out.size))
  clear hb2
  go_wp2
  go_ret
  exact ⟨_, by first | rfl | (simp; done), rfl, HB2.out⟩
theorem stErr_three {lk ht rc h lv : Int} {ts gs ps : List Int} (e : firstOf [guardErr lk ht rc ts gs, rangeErr h 0 536870912, rangeErr lv 0 ((gs.length : Int) - 1)] ≠ 0) : stErr lk ht rc ts gs h lv ps = firstOf [guardErr lk ht rc ts gs, rangeErr h 0 536870912, rangeErr lv 0 ((gs.length : Int) - 1)] := by
  unfold stErr
  by_cases h0 : guardErr lk ht rc ts gs = 0
  · rw [if_pos h0, h0, fo_cons0]
    unfold stErr2
    by_cases h1 : rangeErr h 0 536870912 = 0
    · rw [h1, fo_cons0, fo_cons0]
      by_cases h2 : rangeErr lv 0 ((gs.length : Int) - 1) = 0
      · exact absurd (by rw [h0, h1, h2]; rfl) e
      · rw [fo_consN h2, fo_consN h2]
    · rw [fo_consN h1, fo_consN h1]
  · rw [if_neg h0, fo_consN h0]
theorem stErr_rest {lk ht rc h lv : Int} {ts gs ps : List Int} (e : firstOf [guardErr lk ht rc ts gs, rangeErr h 0 536870912, rangeErr lv 0 ((gs.length : Int) - 1)] = 0) : stErr lk ht rc ts gs h lv ps = if ps.length + 1 = ts.length then eachErr ps (-2048) 2048 else 2 := by
  have h0 := firstOf_eq_zero.1 e
  have a1 := h0 (guardErr lk ht rc ts gs) (by simp)
  have a2 := h0 (rangeErr h 0 536870912) (by simp)
  have a3 := h0 (rangeErr lv 0 ((gs.length : Int) - 1)) (by simp)
  unfold stErr stErr2
  rw [if_pos a1, a2, a3, fo_cons0, fo_cons0]
  by_cases hs : ps.length + 1 = ts.length
  · rw [if_pos hs, if_pos hs, fo_cons0]
    by_cases he : eachErr ps (-2048) 2048 = 0
    · rw [he]; rfl
    · rw [fo_consN he]
  · rw [if_neg hs, if_neg hs]
    rfl

set_option maxRecDepth 100000 in
set_option maxHeartbeats 4000000 in
theorem rCheckState_K {lk ht rc h lv : Int} {M L n : Nat} {ts gs l : List Int} {u v : Value} {w : World} (hM : M = ts.length) (hL : L = gs.length) (hn : n = l.length) (h1 : M ≤ 1000) (h2 : L ≤ 1000) (h3 : n ≤ 1000) (hu : KG lk ht rc M ts L gs u w) (hv : KT h lv n l v w) : Calls Tryd.prog 23 #[u, v] w (KP (KV (.int .i64 (stErr lk ht rc ts gs h lv l))) w) := by
  obtain ⟨E, hE⟩ : ∃ E, E = guardErr lk ht rc ts gs := ⟨_, rfl⟩
  obtain ⟨RH, hRH⟩ : ∃ RH, RH = rangeErr h 0 536870912 := ⟨_, rfl⟩
  obtain ⟨RL, hRL⟩ : ∃ RL, RL = rangeErr lv 0 ((L : Int) - 1) := ⟨_, rfl⟩
  obtain ⟨F, hF⟩ : ∃ F, F = firstOf [E, RH, RL] := ⟨_, rfl⟩
  obtain ⟨S, hS⟩ : ∃ S, S = stErr lk ht rc ts gs h lv l := ⟨_, rfl⟩
  have HST0 : Hid (F = 0 → S = if n + 1 = M then eachErr l (-2048) 2048 else 2) := Lib.hid (fun e => by
    rw [hS, hn, hM]
    refine stErr_rest ?_
    rw [← hL, ← hE, ← hRH, ← hRL, ← hF]
    exact e)
  have HST1 : Hid (F ≠ 0 → S = F) := Lib.hid (fun e => by
    rw [hS, hF, hE, hRH, hRL, hL]
    refine stErr_three ?_
    rw [← hL, ← hE, ← hRH, ← hRL, ← hF]
    exact e)
  have HCG : Hid (∀ {x : Value} (W : World), KG lk ht rc M ts L gs x W → Calls Tryd.prog 18 #[x] W (KP (KV (.int .i64 (E))) W)) := Lib.hid (fun W q => by rw [hE]; exact rGuard_K hM hL h1 h2 q)
  have HRH : Hid (∀ W, Calls Tryd.prog 58 #[(.int .i64 (h)), (.int .i64 (0)), (.int .i64 (536870912))] W (KP (KV (.int .i64 (RH))) W)) := Lib.hid (fun W => (qRange_any h 0 536870912 W).mono fun e W' ⟨p, q⟩ => ⟨_, p, by rw [hRH]; rfl, by subst q; exact Below.refl _ _⟩)
  have HRL : Hid (∀ W, Calls Tryd.prog 58 #[(.int .i64 (lv)), (.int .i64 (0)), (.int .i64 ((L : Int) - 1))] W (KP (KV (.int .i64 (RL))) W)) := Lib.hid (fun W => (qRange_any lv 0 ((L : Int) - 1) W).mono fun e W' ⟨p, q⟩ => ⟨_, p, by rw [hRL]; rfl, by subst q; exact Below.refl _ _⟩)
  have HF : Hid (∀ W : World, Calls Tryd.prog 31 #[.slice (some ⟨W.heap.size, 0, none⟩) 3 3] (W.alloc (.cells #[(.int .i64 (E)), (.int .i64 (RH)), (.int .i64 (RL))] 3)) fun r w' => r = .returned (.int .i64 (F)) ∧ (W.alloc (.cells #[(.int .i64 (E)), (.int .i64 (RH)), (.int .i64 (RL))] 3)) = w') := Lib.hid (fun W => by
    rw [hF]
    exact qFirst_any [E, RH, RL] _ 3 _ (by simp) (Cells.row (heap_new rfl)))
  obtain ⟨A1, c1, A2, c2, rfl, hT, hG⟩ := hu
  obtain ⟨A3, c3, rfl, hP⟩ := hv
  have HU := Lib.hid (show KG lk ht rc M ts L gs (.agg #[(.int .i64 (lk)), (.int .i64 (ht)), .slice A1 M c1, (.int .i64 (rc)), .slice A2 L c2]) w from ⟨_, _, _, _, rfl, hT, hG⟩)
  have HP := Lib.hid (show KS n l (.slice A3 n c3) w from ⟨_, _, rfl, hP⟩)
  have HN := Lib.hid hn
  rw [← hS]
  clear hM hL hn hT hG hP hE hRH hRL hF hS
  go_enter Tryd.func23, Tryd.ntmps23
  have HB0 := Lib.hid (Below.refl w.heap.size w)
  go_wp2
  refine name_world ?_
  intro w1 e1
  have h1 : Below w.heap.size w w1 := by rw [e1]; (repeat (first | (with_reducible exact Below.refl _ _) | ((with_reducible refine Below.setCell ?_ ?_ _); rotate_left 1; (focus (first | (simp; done) | (simp; omega) | (simp at *; omega)))) | ((with_reducible refine Below.alloc ?_ ?_ _); rotate_left 1; (focus (first | (simp; done) | (simp; omega) | (simp at *; omega))))))
  have ug_1 := Lib.hid (KG.st _ _ _ _ _ _ _ _ _ _ HU.out h1)
  have up_1 := Lib.hid (KS.st _ _ _ _ _ HP.out h1)
  have HB1 := Lib.hid (HB0.out.trans (h1.mono HB0.out.size))
  have bg_1 := Lib.hid (show Blk w1 w.heap.size #[(.int .i64 (lk)), (.int .i64 (ht)), .slice A1 M c1, (.int .i64 (rc)), .slice A2 L c2] from by rw [e1]; (repeat (first | ((with_reducible refine Blk.at_ ?_); focus (first | rfl | (simp; done) | (simp; omega))) | (with_reducible refine Blk.alloc ?_ _) | (with_reducible refine Blk.below ?_ (by with_reducible assumption)) | (with_reducible refine Blk.drew ?_))))
  have bs_1 := Lib.hid (show Blk w1 (w.heap.size + 1) #[(.int .i64 (h)), (.int .i64 (lv)), .slice A3 n c3] from by rw [e1]; (repeat (first | ((with_reducible refine Blk.at_ ?_); focus (first | rfl | (simp; done) | (simp; omega))) | (with_reducible refine Blk.alloc ?_ _) | (with_reducible refine Blk.below ?_ (by with_reducible assumption)) | (with_reducible refine Blk.drew ?_))))
  clear e1 h1
  obtain ⟨g0, g1, g2, g3, g4, gl, -⟩ := bg_1.out.o5
  obtain ⟨s0, s1, s2, sl, -⟩ := bs_1.out.o3
  refine Rel.region3 11 (by kernel_rfl) (by kernel_rfl) (by kernel_rfl) ?_
  simp only [List.take_succ_cons, List.take_zero, List.drop_succ_cons, List.drop_zero, List.filterMap_cons, List.filterMap_nil]
  (apply Rel.op3; (focus (first | exact Rel.gno rfl | exact Rel.gyes _ true _ rfl rfl rfl | exact Rel.gyes _ false _ rfl rfl rfl)); (focus (intro a W hb hd hbase; obtain ⟨hc, hf⟩ := bcell hb; clear hb hf; simp [Rel.deps, Rel.dep1, Rel.ons, Region.binds, Act.eval, KV] at hd; simp only [Act.eval, List.mem_cons, List.not_mem_nil, not_or, and_imp, or_false, Array.getD_eq_getD_getElem?] at hbase; go_simp; (try go_bits); (try rfl); done)); (try simp only [List.nil_append, List.cons_append]))
  refine Rel.callK 18 (KV (.int .i64 (E))) (KV.st _) (Rel.gno rfl) ?_ ?_
  · intro a W hb hd hbase
    have q1 : a.eval (.tmp 7) = _ := (Rel.dep_at hd 0 rfl rfl)
    refine ⟨#[a.eval (.tmp 7)], ?_, by rw [q1]; exact HCG.out _ (KG.st _ _ _ _ _ _ _ _ _ _ ug_1.out hb)⟩
    clear hd hbase hb
    go_simp
    (first | done | rfl | (refine ⟨?_, ?_⟩ <;> rfl))
  (try simp only [List.nil_append, List.cons_append])
  (apply Rel.op3; (focus (first | exact Rel.gno rfl | exact Rel.gyes _ true _ rfl rfl rfl | exact Rel.gyes _ false _ rfl rfl rfl)); (focus (intro a W hb hd hbase; obtain ⟨hc, hf⟩ := bcell hb; clear hb hf; simp [Rel.deps, Rel.dep1, Rel.ons, Region.binds, Act.eval, KV] at hd; simp only [Act.eval, List.mem_cons, List.not_mem_nil, not_or, and_imp, or_false, Array.getD_eq_getD_getElem?] at hbase; go_simp; (try go_bits); (try rfl); done)); (try simp only [List.nil_append, List.cons_append]))
  (apply Rel.op3; (focus (first | exact Rel.gno rfl | exact Rel.gyes _ true _ rfl rfl rfl | exact Rel.gyes _ false _ rfl rfl rfl)); (focus (intro a W hb hd hbase; obtain ⟨hc, hf⟩ := bcell hb; clear hb hf; simp [Rel.deps, Rel.dep1, Rel.ons, Region.binds, Act.eval, KV] at hd; simp only [Act.eval, List.mem_cons, List.not_mem_nil, not_or, and_imp, or_false, Array.getD_eq_getD_getElem?] at hbase; go_simp; (try go_bits); (try rfl); done)); (try simp only [List.nil_append, List.cons_append]))
  refine Rel.callK 58 (KV (.int .i64 (RH))) (KV.st _) (Rel.gno rfl) ?_ ?_
  · intro a W hb hd hbase
    have q1 : a.eval (.tmp 10) = _ := (Rel.dep_at hd 3 rfl rfl)
    refine ⟨#[a.eval (.tmp 10), (.int .i64 (0)), (.int .i64 (536870912))], ?_, by rw [q1]; exact HRH.out _⟩
    clear hd hbase hb
    go_simp
    (first | done | rfl | (refine ⟨?_, ?_⟩ <;> rfl))
  (try simp only [List.nil_append, List.cons_append])
  (apply Rel.op3; (focus (first | exact Rel.gno rfl | exact Rel.gyes _ true _ rfl rfl rfl | exact Rel.gyes _ false _ rfl rfl rfl)); (focus (intro a W hb hd hbase; obtain ⟨hc, hf⟩ := bcell hb; clear hb hf; simp [Rel.deps, Rel.dep1, Rel.ons, Region.binds, Act.eval, KV] at hd; simp only [Act.eval, List.mem_cons, List.not_mem_nil, not_or, and_imp, or_false, Array.getD_eq_getD_getElem?] at hbase; go_simp; (try go_bits); (try rfl); done)); (try simp only [List.nil_append, List.cons_append]))
  (apply Rel.op3; (focus (first | exact Rel.gno rfl | exact Rel.gyes _ true _ rfl rfl rfl | exact Rel.gyes _ false _ rfl rfl rfl)); (focus (intro a W hb hd hbase; obtain ⟨hc, hf⟩ := bcell hb; clear hb hf; simp [Rel.deps, Rel.dep1, Rel.ons, Region.binds, Act.eval, KV] at hd; simp only [Act.eval, List.mem_cons, List.not_mem_nil, not_or, and_imp, or_false, Array.getD_eq_getD_getElem?] at hbase; go_simp; (try go_bits); (try rfl); done)); (try simp only [List.nil_append, List.cons_append]))
  (apply Rel.op3; (focus (first | exact Rel.gno rfl | exact Rel.gyes _ true _ rfl rfl rfl | exact Rel.gyes _ false _ rfl rfl rfl)); (focus (intro a W hb hd hbase; obtain ⟨hc, hf⟩ := bcell hb; clear hb hf; simp [Rel.deps, Rel.dep1, Rel.ons, Region.binds, Act.eval, KV] at hd; simp only [Act.eval, List.mem_cons, List.not_mem_nil, not_or, and_imp, or_false, Array.getD_eq_getD_getElem?] at hbase; go_simp; (try go_bits); (try rfl); done)); (try simp only [List.nil_append, List.cons_append]))
  (apply Rel.op3; (focus (first | exact Rel.gno rfl | exact Rel.gyes _ true _ rfl rfl rfl | exact Rel.gyes _ false _ rfl rfl rfl)); (focus (intro a W hb hd hbase; obtain ⟨hc, hf⟩ := bcell hb; clear hb hf; simp [Rel.deps, Rel.dep1, Rel.ons, Region.binds, Act.eval, KV] at hd; simp only [Act.eval, List.mem_cons, List.not_mem_nil, not_or, and_imp, or_false, Array.getD_eq_getD_getElem?] at hbase; go_simp; (try go_bits); (try rfl); done)); (try simp only [List.nil_append, List.cons_append]))
  (apply Rel.op3; (focus (first | exact Rel.gno rfl | exact Rel.gyes _ true _ rfl rfl rfl | exact Rel.gyes _ false _ rfl rfl rfl)); (focus (intro a W hb hd hbase; obtain ⟨hc, hf⟩ := bcell hb; clear hb hf; simp [Rel.deps, Rel.dep1, Rel.ons, Region.binds, Act.eval, KV] at hd; simp only [Act.eval, List.mem_cons, List.not_mem_nil, not_or, and_imp, or_false, Array.getD_eq_getD_getElem?] at hbase; go_simp; (try go_bits); (try rfl); done)); (try simp only [List.nil_append, List.cons_append]))
  (apply Rel.op3; (focus (first | exact Rel.gno rfl | exact Rel.gyes _ true _ rfl rfl rfl | exact Rel.gyes _ false _ rfl rfl rfl)); (focus (intro a W hb hd hbase; obtain ⟨hc, hf⟩ := bcell hb; clear hb hf; simp [Rel.deps, Rel.dep1, Rel.ons, Region.binds, Act.eval, KV] at hd; simp only [Act.eval, List.mem_cons, List.not_mem_nil, not_or, and_imp, or_false, Array.getD_eq_getD_getElem?] at hbase; go_simp; (try go_bits); (try rfl); done)); (try simp only [List.nil_append, List.cons_append]))
  refine Rel.done3 ?_
  intro x w2 h2 hx
  simp only [Rel.facts, Nat.zero_add, Nat.reduceAdd] at hx
  clear g0 g1 g2 g3 g4 gl s0 s1 s2 sl
  obtain ⟨e0, e1, e2, e3, e4, e5, e6, e7, e8, e9, e10, _⟩ := hx
  have e1 : x 1 = _ := e1
  have e4 : x 4 = _ := e4
  simp only [Rel.fill, Nat.zero_add, Nat.reduceAdd, e0, e1, e2, e3, e4, e5, e6, e7, e8, e9, e10]
  simp only [Act.put, List.setIfInBounds_toArray, List.set_cons_zero, List.set_cons_succ]
  clear e0 e1 e2 e3 e4 e5 e6 e7 e8 e9 e10
  have ug_2 := Lib.hid (KG.st _ _ _ _ _ _ _ _ _ _ ug_1.out h2)
  have up_2 := Lib.hid (KS.st _ _ _ _ _ up_1.out h2)
  have bg_2 := Lib.hid (bg_1.out.below h2)
  have bs_2 := Lib.hid (bs_1.out.below h2)
  have HB2 := Lib.hid (HB1.out.trans (h2.mono HB1.out.size))
  clear h2
  obtain ⟨g0, g1, g2, g3, g4, gl, -⟩ := bg_2.out.o5
  obtain ⟨s0, s1, s2, sl, -⟩ := bs_2.out.o3
  go_wp2_with (go_at_call 58; refine (HRL.out _).mono ?_; rintro r w3 ⟨v3, rfl, k3, hb3⟩; obtain rfl := k3; refine Hid.out ?_)
  unfold Hid
  have HB3 := Lib.hid (HB2.out.trans (hb3.mono HB2.out.size))
  have bg_3 := Lib.hid (bg_2.out.below hb3)
  have bs_3 := Lib.hid (bs_2.out.below hb3)
  have up_3 := Lib.hid (KS.st _ _ _ _ _ up_2.out hb3)
  clear hb3 g0 g1 g2 g3 g4 gl s0 s1 s2 sl
  go_wp2_with (go_at_call 31; refine (HF.out _).mono ?_; rintro r w4 ⟨rfl, rfl⟩; refine Hid.out ?_)
  unfold Hid
  have bg_4 := Lib.hid (bg_3.out.alloc (.cells #[(.int .i64 (E)), (.int .i64 (RH)), (.int .i64 (RL))] 3))
  have bs_4 := Lib.hid (bs_3.out.alloc (.cells #[(.int .i64 (E)), (.int .i64 (RH)), (.int .i64 (RL))] 3))
  have HB4 := Lib.hid (HB3.out.alloc HB3.out.size (.cells #[(.int .i64 (E)), (.int .i64 (RH)), (.int .i64 (RL))] 3))
  have up_4 := Lib.hid (KS.st _ _ _ _ _ up_3.out ((Below.refl _ _).alloc (Nat.le_refl _) (.cells #[(.int .i64 (E)), (.int .i64 (RH)), (.int .i64 (RL))] 3)))
  clear bg_3 bs_3 HB3 up_3
  obtain ⟨g0, g1, g2, g3, g4, gl, -⟩ := bg_4.out.o5
  obtain ⟨s0, s1, s2, sl, -⟩ := bs_4.out.o3
  by_cases hF : F = 0
  · subst hF
    have hst := HST0.out rfl
    by_cases hS : n + 1 = M
    · have hS2 : (n : Int) = (M : Int) - 1 := by omega
      rw [if_pos hS] at hst
      have HST := Lib.hid hst
      clear hst
      go_wp2
      go_loop [5, 6] (fun e i => ∃ k : Nat, k ≤ n ∧ i = (.int .i64 ((k : Int))) ∧ (∃ y : Int, e = (.int .i64 (y))) ∧ ∀ j, j < k → rangeErr (l.getD j 0) (-2048) 2048 = 0) (fun _ i => n - (intOf i).toNat)
      case atStart => exact ⟨0, Nat.zero_le _, rfl, ⟨_, rfl⟩, fun j hj => by omega⟩
      case round =>
        obtain ⟨k, hk, rfl, ⟨y, rfl⟩, hz⟩ := hrel
        have HZ := Lib.hid hz
        clear hz
        by_cases hlt : k < n
        · obtain ⟨B, c, e, hC⟩ := up_4.out
          cases e
          obtain ⟨b, off, rfl, hbl, hc⟩ := hC (by rw [← HN.out]; omega)
          have hck := hc k (by rw [← HN.out]; exact hlt)
          obtain ⟨z, hzz⟩ : ∃ z, z = l.getD k 0 := ⟨_, rfl⟩
          rw [← hzz] at hck
          have HZZ := Lib.hid hzz
          clear hc hC hzz
          by_cases h0 : rangeErr z (-2048) 2048 = 0
          · have HCV := Lib.hid (fun W => pValue_any z W)
            rw [h0] at HCV
            have H0 := Lib.hid h0
            clear h0
            go_wp2_with (go_at_call 32; refine (HCV.out _).mono ?_; rintro r w5 ⟨rfl, rfl⟩)
            go_round
            case rel => exact ⟨k + 1, by omega, by go_num, ⟨_, rfl⟩, fun j hj => by
              rcases Nat.lt_or_ge j k with hjk | hjk
              · exact HZ.out j hjk
              · obtain rfl : j = k := by omega
                rw [← HZZ.out]; exact H0.out⟩
            case measure => simp [intOf]; omega
          · have HCV := Lib.hid (fun W => pValue_any z W)
            obtain ⟨V, hV⟩ : ∃ V, V = rangeErr z (-2048) 2048 := ⟨_, rfl⟩
            rw [← hV] at HCV h0
            have HV := Lib.hid hV
            clear hV
            go_wp2_with (go_at_call 32; refine (HCV.out _).mono ?_; rintro r w5 ⟨rfl, rfl⟩)
            go_ret
            refine ⟨_, rfl, ?_, HB4.out⟩
            rw [HST.out]
            unfold eachErr
            have hkl : k < (l.map fun n => rangeErr n (-2048) 2048).length := by rw [List.length_map, ← HN.out]; exact hlt
            have hg : ∀ j, j < l.length → (l.map fun n => rangeErr n (-2048) 2048).getD j 0 = rangeErr (l.getD j 0) (-2048) 2048 := fun j hj => by simp [List.getD_eq_getElem?_getD, hj]
            have hkn : k < l.length := by rw [← HN.out]; exact hlt
            rw [firstOf_take (k := k) (fun j hj => by rw [hg j (by omega)]; exact HZ.out j hj) hkl (by rw [hg k hkn, ← HZZ.out, ← HV.out]; exact h0), hg k hkn, ← HZZ.out, ← HV.out]
            rfl
        · obtain rfl : k = n := by omega
          go_wp2
          go_ret
          refine ⟨_, rfl, ?_, HB4.out⟩
          rw [HST.out]
          have : eachErr l (-2048) 2048 = 0 := by
            rw [eachErr_zero]
            intro x hx
            obtain ⟨j, hj, rfl⟩ := List.mem_iff_getElem.1 hx
            have := HZ.out j (by rw [HN.out]; exact hj)
            rw [List.getD_eq_getElem?_getD, List.getElem?_eq_getElem hj] at this
            exact rangeErr_zero.1 this
          rw [this]
          rfl
    · have hS2 : ¬ (n : Int) = (M : Int) - 1 := by omega
      rw [if_neg hS] at hst
      have HST := Lib.hid hst
      clear hst
      go_wp2
      go_ret
      exact ⟨_, rfl, by rw [HST.out]; rfl, HB4.out⟩
  · have HST := Lib.hid (HST1.out hF)
    go_wp2
    go_ret
    exact ⟨_, rfl, by rw [HST.out]; rfl, HB4.out⟩
end Go.Proofs.YtdeapbihbhoefaaDoor

/- The reference's Steady, Quiet, Cool. -/
namespace Go.Proofs.YtdeapbihbhoefaaDoor
open Go.RowKit
open Calm (bcell Blk)

set_option maxRecDepth 100000 in
set_option maxHeartbeats 2000000 in
theorem rSteady_any (lk ht rc : Int) (A1 A2 : Option Addr) (M L c1 c2 : Nat) (w : World) (hl : 1 ≤ lk ∧ lk ≤ 8) (hh : 0 ≤ ht ∧ ht ≤ 536870912) :
    Calls Tryd.prog 52 #[.agg #[(.int .i64 (lk)), (.int .i64 (ht)), .slice A1 M c1, (.int .i64 (rc)), .slice A2 L c2]] w fun r w' => r = .returned (.int .i64 ((stdF lk ht : Int))) ∧ Below w.heap.size w w' := by
  obtain ⟨h1, h2⟩ := hl
  obtain ⟨h3, h4⟩ := hh
  obtain ⟨p1, p2⟩ := pow_bd ⟨h1, h2⟩
  obtain ⟨P, hP⟩ : ∃ P : Int, P = 2 ^ lk.toNat := ⟨_, rfl⟩
  have HPW : Hid (∀ W, Calls Tryd.prog 93 #[(.int .i64 (lk))] W fun r w' => r = .returned (.int .i64 (P)) ∧ W = w') := Lib.hid (fun W => by rw [hP]; exact rPower_any lk W ⟨by omega, h2⟩)
  rw [← hP] at p1 p2
  have q0 : ¬ P = 0 := by omega
  obtain ⟨hs, hhs⟩ : ∃ hs, hs = ht / P := ⟨_, rfl⟩
  have HF : Hid (stdF lk ht = stdG hs 0 2048) := Lib.hid (by rw [hhs, hP]; rfl)
  have q1 : 0 ≤ ht / P := Int.ediv_nonneg h3 (by omega)
  have q2 : ht / P ≤ ht := Int.ediv_le_self _ h3
  have HHS := Lib.hid hhs
  obtain ⟨R, hR⟩ : ∃ R, R = stdF lk ht := ⟨_, rfl⟩
  rw [← hR] at HF ⊢
  clear hhs hR hP
  go_enter Tryd.func52, Tryd.ntmps52
  go_wp2
  go_loopw [3] (fun i wr => ∃ k : Nat, k ≤ 2048 ∧ i = (.int .i64 ((k : Int))) ∧ R = stdG hs k (2048 - k) ∧ Blk wr w.heap.size #[(.int .i64 (lk)), (.int .i64 (ht)), .slice A1 M c1, (.int .i64 (rc)), .slice A2 L c2] ∧ Below w.heap.size w wr) (fun i _ => 2048 - (intOf i).toNat)
  case atStart => exact ⟨0, by omega, rfl, HF.out, by (repeat (first | ((with_reducible refine Blk.at_ ?_); focus (first | rfl | (simp; done) | (simp; omega))) | (with_reducible refine Blk.alloc ?_ _) | (with_reducible refine Blk.below ?_ (by with_reducible assumption)) | (with_reducible refine Blk.drew ?_))), by (repeat (first | (with_reducible exact Below.refl _ _) | ((with_reducible refine Below.setCell ?_ ?_ _); rotate_left 1; focus (first | (simp; done) | (simp; omega) | (simp at *; omega))) | ((with_reducible refine Below.alloc ?_ ?_ _); rotate_left 1; focus (first | (simp; done) | (simp; omega) | (simp at *; omega))) | (with_reducible refine Below.drew ?_) | ((with_reducible refine Calm.step (by assumption) ?_ ?_); rotate_left 1; focus (first | (simp; done) | (simp; omega) | (simp at *; omega)))))⟩
  case round =>
    obtain ⟨k, hk, rfl, hRk, K0, hB⟩ := hrel
    have HR := Lib.hid hRk
    have HB := Lib.hid hB
    have HK := Lib.hid K0
    obtain ⟨g0, g1, g2, g3, g4, gl, gf⟩ := K0.o5
    clear hRk hB K0 HF
    by_cases hlt : k < 2048
    · have hd : decide ((k : Int) < 2048) = true := decide_eq_true (by omega)
      have m1 : ((k : Int) + 1) * ((k : Int) + 1) ≤ 4194304 := by
        have := mul_bd (a := (k : Int) + 1) (b := (k : Int) + 1) (A := 2048) (B := 2048) (by omega) (by omega)
        omega
      have m2 : 0 ≤ ((k : Int) + 1) * ((k : Int) + 1) := Int.mul_nonneg (by omega) (by omega)
      obtain ⟨q, hq⟩ : ∃ q, q = ((k : Int) + 1) * ((k : Int) + 1) := ⟨_, rfl⟩
      rw [← hq] at m1 m2
      by_cases hc : ((k : Int) + 1) * ((k : Int) + 1) ≤ hs
      · have hc2 : q ≤ ht / P := by rw [← HHS.out, hq]; exact hc
        have HC := Lib.hid hc
        have hq' := hq.symm
        clear hc hq
        go_wp2
        refine Calm.all_below (by kernel_rfl) (by kernel_rfl) ?_
        (first | (apply Calm.op_move; (focus rfl); (focus (first | exact .inl rfl | exact .inr rfl)); (focus ((try simp only [Act.eval, Array.getD_eq_getD_getElem?, List.getElem?_toArray, List.getElem?_cons_succ, List.getElem?_cons_zero, Option.getD_some]); rfl)); (try simp only [Act.put, List.setIfInBounds_toArray, List.set_cons_zero, List.set_cons_succ])) | (apply Calm.op_not; (focus rfl); (try simp only [Act.put, List.setIfInBounds_toArray, List.set_cons_zero, List.set_cons_succ])) | (apply Calm.op; (focus rfl); (focus (intro W hb; obtain ⟨hc, hf⟩ := bcell hb; clear hb hf; go_simp; (try go_bits); (try rfl); done)); (try simp only [Act.put, List.setIfInBounds_toArray, List.set_cons_zero, List.set_cons_succ])))
        (first | (apply Calm.op_move; (focus rfl); (focus (first | exact .inl rfl | exact .inr rfl)); (focus ((try simp only [Act.eval, Array.getD_eq_getD_getElem?, List.getElem?_toArray, List.getElem?_cons_succ, List.getElem?_cons_zero, Option.getD_some]); rfl)); (try simp only [Act.put, List.setIfInBounds_toArray, List.set_cons_zero, List.set_cons_succ])) | (apply Calm.op_not; (focus rfl); (try simp only [Act.put, List.setIfInBounds_toArray, List.set_cons_zero, List.set_cons_succ])) | (apply Calm.op; (focus rfl); (focus (intro W hb; obtain ⟨hc, hf⟩ := bcell hb; clear hb hf; go_simp; (try go_bits); (try rfl); done)); (try simp only [Act.put, List.setIfInBounds_toArray, List.set_cons_zero, List.set_cons_succ])))
        (try simp only [hd])
        repeat (first | (first | (apply Calm.op_move; (focus rfl); (focus (first | exact .inl rfl | exact .inr rfl)); (focus ((try simp only [Act.eval, Array.getD_eq_getD_getElem?, List.getElem?_toArray, List.getElem?_cons_succ, List.getElem?_cons_zero, Option.getD_some]); rfl)); (try simp only [Act.put, List.setIfInBounds_toArray, List.set_cons_zero, List.set_cons_succ])) | (apply Calm.op_not; (focus rfl); (try simp only [Act.put, List.setIfInBounds_toArray, List.set_cons_zero, List.set_cons_succ])) | (apply Calm.op; (focus rfl); (focus (intro W hb; obtain ⟨hc, hf⟩ := bcell hb; clear hb hf; go_simp; (try go_bits); (try rfl); done)); (try simp only [Act.put, List.setIfInBounds_toArray, List.set_cons_zero, List.set_cons_succ]))) | (apply Calm.op_call; (focus rfl); (focus (intro W hb; obtain ⟨hc, hf⟩ := bcell hb; clear hb hf; go_simp; refine ⟨?_, ?_⟩; rfl; rfl)); (focus (intro W hb; first | (go_at_call 93; exact Calm.call_same hb (HPW.out _)))); (try simp only [Act.put, List.setIfInBounds_toArray, List.set_cons_zero, List.set_cons_succ])))
        refine wpQuiet_nil ?_
        intro w2 hb2
        obtain ⟨hb2c, hb2f⟩ := bcell hb2
        have hb2z := hb2.size
        (try simp at hb2z)
        (try have hb2z0 : w.heap.size < w2.heap.size := by omega)
        (try have hb2z1 : w.heap.size + 1 < w2.heap.size := by omega)
        (try have hb2z2 : w.heap.size + 1 + 1 < w2.heap.size := by omega)
        (try have hb2z3 : w.heap.size + 1 + 1 + 1 < w2.heap.size := by omega)
        (try have hb2z4 : w.heap.size + 1 + 1 + 1 + 1 < w2.heap.size := by omega)
        (try have hb2z5 : w.heap.size + 1 + 1 + 1 + 1 + 1 < w2.heap.size := by omega)
        have HB2 := Lib.hid (HB.out.trans (hb2.mono HB.out.size))
        have HK2 := Lib.hid (HK.out.below hb2)
        clear hb2 g0 g1 g2 g3 g4 gl gf
        go_wp2
        go_roundw
        case rel =>
          refine ⟨k + 1, by omega, by go_num, ?_, HK2.out, HB2.out⟩
          rw [HR.out, show 2048 - k = (2048 - (k + 1)) + 1 by omega]
          exact if_pos HC.out
        case measure => simp [intOf]; omega
      · have hc2 : ¬ q ≤ ht / P := by rw [← HHS.out, hq]; exact hc
        have hRK : R = k := by
          rw [HR.out, show 2048 - k = (2048 - (k + 1)) + 1 by omega]
          exact if_neg hc
        have HRK := Lib.hid hRK
        have hq' := hq.symm
        clear hc hq hRK
        go_wp2
        refine Calm.all_below (by kernel_rfl) (by kernel_rfl) ?_
        (first | (apply Calm.op_move; (focus rfl); (focus (first | exact .inl rfl | exact .inr rfl)); (focus ((try simp only [Act.eval, Array.getD_eq_getD_getElem?, List.getElem?_toArray, List.getElem?_cons_succ, List.getElem?_cons_zero, Option.getD_some]); rfl)); (try simp only [Act.put, List.setIfInBounds_toArray, List.set_cons_zero, List.set_cons_succ])) | (apply Calm.op_not; (focus rfl); (try simp only [Act.put, List.setIfInBounds_toArray, List.set_cons_zero, List.set_cons_succ])) | (apply Calm.op; (focus rfl); (focus (intro W hb; obtain ⟨hc, hf⟩ := bcell hb; clear hb hf; go_simp; (try go_bits); (try rfl); done)); (try simp only [Act.put, List.setIfInBounds_toArray, List.set_cons_zero, List.set_cons_succ])))
        (first | (apply Calm.op_move; (focus rfl); (focus (first | exact .inl rfl | exact .inr rfl)); (focus ((try simp only [Act.eval, Array.getD_eq_getD_getElem?, List.getElem?_toArray, List.getElem?_cons_succ, List.getElem?_cons_zero, Option.getD_some]); rfl)); (try simp only [Act.put, List.setIfInBounds_toArray, List.set_cons_zero, List.set_cons_succ])) | (apply Calm.op_not; (focus rfl); (try simp only [Act.put, List.setIfInBounds_toArray, List.set_cons_zero, List.set_cons_succ])) | (apply Calm.op; (focus rfl); (focus (intro W hb; obtain ⟨hc, hf⟩ := bcell hb; clear hb hf; go_simp; (try go_bits); (try rfl); done)); (try simp only [Act.put, List.setIfInBounds_toArray, List.set_cons_zero, List.set_cons_succ])))
        (try simp only [hd])
        repeat (first | (first | (apply Calm.op_move; (focus rfl); (focus (first | exact .inl rfl | exact .inr rfl)); (focus ((try simp only [Act.eval, Array.getD_eq_getD_getElem?, List.getElem?_toArray, List.getElem?_cons_succ, List.getElem?_cons_zero, Option.getD_some]); rfl)); (try simp only [Act.put, List.setIfInBounds_toArray, List.set_cons_zero, List.set_cons_succ])) | (apply Calm.op_not; (focus rfl); (try simp only [Act.put, List.setIfInBounds_toArray, List.set_cons_zero, List.set_cons_succ])) | (apply Calm.op; (focus rfl); (focus (intro W hb; obtain ⟨hc, hf⟩ := bcell hb; clear hb hf; go_simp; (try go_bits); (try rfl); done)); (try simp only [Act.put, List.setIfInBounds_toArray, List.set_cons_zero, List.set_cons_succ]))) | (apply Calm.op_call; (focus rfl); (focus (intro W hb; obtain ⟨hc, hf⟩ := bcell hb; clear hb hf; go_simp; refine ⟨?_, ?_⟩; rfl; rfl)); (focus (intro W hb; first | (go_at_call 93; exact Calm.call_same hb (HPW.out _)))); (try simp only [Act.put, List.setIfInBounds_toArray, List.set_cons_zero, List.set_cons_succ])))
        refine wpQuiet_nil ?_
        intro w2 hb2
        obtain ⟨hb2c, hb2f⟩ := bcell hb2
        have hb2z := hb2.size
        (try simp at hb2z)
        (try have hb2z0 : w.heap.size < w2.heap.size := by omega)
        (try have hb2z1 : w.heap.size + 1 < w2.heap.size := by omega)
        (try have hb2z2 : w.heap.size + 1 + 1 < w2.heap.size := by omega)
        (try have hb2z3 : w.heap.size + 1 + 1 + 1 < w2.heap.size := by omega)
        (try have hb2z4 : w.heap.size + 1 + 1 + 1 + 1 < w2.heap.size := by omega)
        (try have hb2z5 : w.heap.size + 1 + 1 + 1 + 1 + 1 < w2.heap.size := by omega)
        have HB2 := Lib.hid (HB.out.trans (hb2.mono HB.out.size))
        clear hb2 g0 g1 g2 g3 g4 gl gf
        go_wp2
        go_ret
        exact ⟨ret_i (by rw [HRK.out]), HB2.out⟩
    · have hRK : R = k := by
        rw [HR.out]
        obtain rfl : k = 2048 := by omega
        rfl
      have hd : decide ((k : Int) < 2048) = false := decide_eq_false (by omega)
      have HRK := Lib.hid hRK
      clear hRK
      go_wp2
      refine Calm.all_below (by kernel_rfl) (by kernel_rfl) ?_
      (first | (apply Calm.op_move; (focus rfl); (focus (first | exact .inl rfl | exact .inr rfl)); (focus ((try simp only [Act.eval, Array.getD_eq_getD_getElem?, List.getElem?_toArray, List.getElem?_cons_succ, List.getElem?_cons_zero, Option.getD_some]); rfl)); (try simp only [Act.put, List.setIfInBounds_toArray, List.set_cons_zero, List.set_cons_succ])) | (apply Calm.op_not; (focus rfl); (try simp only [Act.put, List.setIfInBounds_toArray, List.set_cons_zero, List.set_cons_succ])) | (apply Calm.op; (focus rfl); (focus (intro W hb; obtain ⟨hc, hf⟩ := bcell hb; clear hb hf; go_simp; (try go_bits); (try rfl); done)); (try simp only [Act.put, List.setIfInBounds_toArray, List.set_cons_zero, List.set_cons_succ])))
      (first | (apply Calm.op_move; (focus rfl); (focus (first | exact .inl rfl | exact .inr rfl)); (focus ((try simp only [Act.eval, Array.getD_eq_getD_getElem?, List.getElem?_toArray, List.getElem?_cons_succ, List.getElem?_cons_zero, Option.getD_some]); rfl)); (try simp only [Act.put, List.setIfInBounds_toArray, List.set_cons_zero, List.set_cons_succ])) | (apply Calm.op_not; (focus rfl); (try simp only [Act.put, List.setIfInBounds_toArray, List.set_cons_zero, List.set_cons_succ])) | (apply Calm.op; (focus rfl); (focus (intro W hb; obtain ⟨hc, hf⟩ := bcell hb; clear hb hf; go_simp; (try go_bits); (try rfl); done)); (try simp only [Act.put, List.setIfInBounds_toArray, List.set_cons_zero, List.set_cons_succ])))
      (try simp only [hd])
      (first | (apply Calm.op_move; (focus rfl); (focus (first | exact .inl rfl | exact .inr rfl)); (focus ((try simp only [Act.eval, Array.getD_eq_getD_getElem?, List.getElem?_toArray, List.getElem?_cons_succ, List.getElem?_cons_zero, Option.getD_some]); rfl)); (try simp only [Act.put, List.setIfInBounds_toArray, List.set_cons_zero, List.set_cons_succ])) | (apply Calm.op_not; (focus rfl); (try simp only [Act.put, List.setIfInBounds_toArray, List.set_cons_zero, List.set_cons_succ])) | (apply Calm.op; (focus rfl); (focus (intro W hb; obtain ⟨hc, hf⟩ := bcell hb; clear hb hf; go_simp; (try go_bits); (try rfl); done)); (try simp only [Act.put, List.setIfInBounds_toArray, List.set_cons_zero, List.set_cons_succ])))
      iterate 12 ((with_reducible refine Calm.op_not ?_ ?_); (focus rfl); (try simp only [Act.put, List.setIfInBounds_toArray, List.set_cons_zero, List.set_cons_succ]))
      (first | (apply Calm.op_move; (focus rfl); (focus (first | exact .inl rfl | exact .inr rfl)); (focus ((try simp only [Act.eval, Array.getD_eq_getD_getElem?, List.getElem?_toArray, List.getElem?_cons_succ, List.getElem?_cons_zero, Option.getD_some]); rfl)); (try simp only [Act.put, List.setIfInBounds_toArray, List.set_cons_zero, List.set_cons_succ])) | (apply Calm.op_not; (focus rfl); (try simp only [Act.put, List.setIfInBounds_toArray, List.set_cons_zero, List.set_cons_succ])) | (apply Calm.op; (focus rfl); (focus (intro W hb; obtain ⟨hc, hf⟩ := bcell hb; clear hb hf; go_simp; (try go_bits); (try rfl); done)); (try simp only [Act.put, List.setIfInBounds_toArray, List.set_cons_zero, List.set_cons_succ])))
      refine wpQuiet_nil ?_
      intro w2 hb2
      obtain ⟨hb2c, hb2f⟩ := bcell hb2
      have hb2z := hb2.size
      (try simp at hb2z)
      (try have hb2z0 : w.heap.size < w2.heap.size := by omega)
      (try have hb2z1 : w.heap.size + 1 < w2.heap.size := by omega)
      (try have hb2z2 : w.heap.size + 1 + 1 < w2.heap.size := by omega)
      (try have hb2z3 : w.heap.size + 1 + 1 + 1 < w2.heap.size := by omega)
      (try have hb2z4 : w.heap.size + 1 + 1 + 1 + 1 < w2.heap.size := by omega)
      (try have hb2z5 : w.heap.size + 1 + 1 + 1 + 1 + 1 < w2.heap.size := by omega)
      have HB2 := Lib.hid (HB.out.trans (hb2.mono HB.out.size))
      clear hb2 g0 g1 g2 g3 g4 gl gf
      go_wp2
      go_ret
      exact ⟨ret_i (by rw [HRK.out]), HB2.out⟩
theorem rSteady_K {lk ht rc : Int} {M L : Nat} {ts gs : List Int} {u : Value} {W : World} (hl : 1 ≤ lk ∧ lk ≤ 8) (hh : 0 ≤ ht ∧ ht ≤ 536870912) (hu : KG lk ht rc M ts L gs u W) : Calls Tryd.prog 52 #[u] W (KP (KV (.int .i64 ((stdF lk ht : Int)))) W) := by
  obtain ⟨A1, c1, A2, c2, rfl, _, _⟩ := hu
  exact (rSteady_any lk ht rc A1 A2 M L c1 c2 W hl hh).mono fun e W' ⟨h, hb⟩ => ⟨_, h, rfl, hb⟩

set_option maxRecDepth 100000 in
set_option maxHeartbeats 2000000 in
theorem rQuiet_K {lk ht rc : Int} {M L : Nat} {ts gs : List Int} {u : Value} {W : World} (hM : M = ts.length) (hV : Valid lk ht rc ts gs) (hu : KG lk ht rc M ts L gs u W) : Calls Tryd.prog 53 #[u] W (KP (KV (.int .i64 (quietF lk ht rc ts))) W) := by
  obtain ⟨A1, c1, A2, c2, rfl, hT, _⟩ := hu
  have htl := hV.tl
  have hrc := hV.rc
  have HAB := Lib.hid (fun n W h => rAbs_any n W h)
  have HST : Hid (∀ {x : Value} (W : World), KG lk ht rc M ts L gs x W → Calls Tryd.prog 52 #[x] W (KP (KV (.int .i64 ((stdF lk ht : Int)))) W)) := Lib.hid (fun W q => rSteady_K hV.lk hV.ht q)
  have HSA : Hid (∀ W, Calls Tryd.prog 52 #[.agg #[(.int .i64 (lk)), (.int .i64 (ht)), .slice A1 M c1, (.int .i64 (rc)), .slice A2 L c2]] W fun r w' => r = .returned (.int .i64 ((stdF lk ht : Int))) ∧ Below W.heap.size W w') := Lib.hid (fun W => rSteady_any lk ht rc A1 A2 M L c1 c2 W hV.lk hV.ht)
  have HQ : Hid (quietF lk ht rc ts = if 0 < wtK ts M then min (stdF lk ht : Int) (rc / wtK ts M) else (stdF lk ht : Int)) := Lib.hid (by unfold quietF; rw [wtK_all htl.2, hM])
  have HW : Hid (∀ k, k ≤ M → 0 ≤ wtK ts k ∧ wtK ts k ≤ 512) := Lib.hid (fun k hk => by have := wtK_bd hV.tb k; omega)
  have HTB : Hid (∀ k, k < M → -64 ≤ ts.getD k 0 ∧ ts.getD k 0 ≤ 64) := Lib.hid (fun k hk => inB_get hV.tb (by omega) k)
  have HT := Lib.hid hT
  have HM := Lib.hid hM
  have HU := Lib.hid (show KG lk ht rc M ts L gs (.agg #[(.int .i64 (lk)), (.int .i64 (ht)), .slice A1 M c1, (.int .i64 (rc)), .slice A2 L c2]) W from ⟨_, _, _, _, rfl, hT, by assumption⟩)
  obtain ⟨S, hS⟩ : ∃ S, S = (stdF lk ht : Int) := ⟨_, rfl⟩
  rw [← hS] at HST HQ HSA
  obtain ⟨R, hR⟩ : ∃ R, R = quietF lk ht rc ts := ⟨_, rfl⟩
  rw [← hR] at HQ ⊢
  obtain ⟨r1, r2⟩ := hrc
  have h8 : M ≤ 8 := by omega
  clear hV hT hM hS hR htl
  go_enter Tryd.func53, Tryd.ntmps53
  go_wp2
  refine name_world ?_
  intro w1 e1
  have K1 := Lib.hid (show Blk w1 W.heap.size #[(.int .i64 (lk)), (.int .i64 (ht)), .slice A1 M c1, (.int .i64 (rc)), .slice A2 L c2] by rw [e1]; exact Calm.Blk.new _ _ _)
  have hb1 : Below W.heap.size W w1 := by rw [e1]; (repeat (first | (with_reducible exact Below.refl _ _) | ((with_reducible refine Below.setCell ?_ ?_ _); rotate_left 1; focus (first | (simp; done) | (simp; omega) | (simp at *; omega))) | ((with_reducible refine Below.alloc ?_ ?_ _); rotate_left 1; focus (first | (simp; done) | (simp; omega) | (simp at *; omega))) | (with_reducible refine Below.drew ?_) | ((with_reducible refine Calm.step (by assumption) ?_ ?_); rotate_left 1; focus (first | (simp; done) | (simp; omega) | (simp at *; omega)))))
  have T1 := Lib.hid (HT.out.below hb1)
  have U1 := Lib.hid (KG.st _ _ _ _ _ _ _ _ _ _ HU.out hb1)
  have HB1 := Lib.hid hb1
  clear e1 hb1 HT HU
  obtain ⟨g0, g1, g2, g3, g4, gl, gf⟩ := K1.out.o5
  go_loop [3, 4] (fun s i => ∃ k : Nat, k ≤ M ∧ i = (.int .i64 ((k : Int))) ∧ s = (.int .i64 (wtK ts k))) (fun _ i => M - (intOf i).toNat)
  case atStart => exact ⟨0, Nat.zero_le _, rfl, rfl⟩
  case round =>
    obtain ⟨k, hk, rfl, rfl⟩ := hrel
    obtain ⟨b1, b2⟩ := HW.out k hk
    have HS2 := Lib.hid (show wtK ts (k + 1) = wtK ts k + absI (ts.getD k 0) from rfl)
    obtain ⟨q, hq⟩ : ∃ q, q = wtK ts k := ⟨_, rfl⟩
    rw [← hq] at b1 b2 HS2 ⊢
    have HQK := Lib.hid hq
    clear hq
    by_cases hlt : k < M
    · obtain ⟨b, o, hA, hbl, hcell⟩ := T1.out (by rw [← HM.out]; omega)
      subst hA
      have hck := hcell k (by rw [← HM.out]; exact hlt)
      obtain ⟨t1, t2⟩ := HTB.out k hlt
      obtain ⟨a1, a2⟩ := absI_bd (x := ts.getD k 0) (b := 64) ⟨t1, t2⟩
      obtain ⟨x, hx⟩ : ∃ x, x = ts.getD k 0 := ⟨_, rfl⟩
      rw [← hx] at hck t1 t2 a1 a2 HS2
      clear hx hcell hbl
      obtain ⟨y, hy⟩ : ∃ y, y = absI x := ⟨_, rfl⟩
      have HABX : Hid (∀ W, Calls Tryd.prog 82 #[(.int .i64 (x))] W fun r w' => r = .returned (.int .i64 (y)) ∧ W = w') := Lib.hid (fun W => by rw [hy]; exact HAB.out x W ⟨by omega, by omega⟩)
      rw [← hy] at a1 a2 HS2
      clear hy
      go_wp2_with (go_at_call 82; refine (HABX.out _).mono ?_; rintro r w2 ⟨rfl, rfl⟩)
      go_round
      case rel => exact ⟨k + 1, by omega, by go_num, by rw [HS2.out]⟩
      case measure => simp [intOf]; omega
    · obtain rfl : k = M := by omega
      rw [← HQK.out] at HQ
      clear HS2
      by_cases h0 : q = 0
      · subst h0
        go_wp2_with (go_at_call 52; refine (HST.out _ U1.out).mono ?_; rintro r w2 ⟨v2, rfl, hk2, hb2⟩; obtain rfl := hk2; have HB2 := Lib.hid (HB1.out.trans (hb2.mono HB1.out.size)); clear hb2)
        go_ret
        exact ⟨_, ret_i (by rw [HQ.out]; rfl), rfl, HB2.out⟩
      · have b5 : 0 ≤ rc / q := Int.ediv_nonneg r1 b1
        have b6 : rc / q ≤ rc := Int.ediv_le_self _ r1
        have HR : Hid (R = if rc / q < S then rc / q else S) := Lib.hid (by rw [HQ.out, if_pos (by omega)]; split <;> omega)
        have hmn := mnQ S (rc / q)
        obtain ⟨X, hX⟩ : ∃ X, X = (if rc / q < S then rc / q else S) := ⟨_, rfl⟩
        rw [← hX] at hmn
        have HX := Lib.hid hX
        clear hX
        go_wp2
        refine Calm.tail_below 7 (by kernel_rfl) (by kernel_rfl) ?_
        simp only [List.take_succ_cons, List.take_zero, List.drop_succ_cons, List.drop_zero]
        repeat (first | (first | (apply Calm.op_move; (focus rfl); (focus (first | exact .inl rfl | exact .inr rfl)); (focus ((try simp only [Act.eval, Array.getD_eq_getD_getElem?, List.getElem?_toArray, List.getElem?_cons_succ, List.getElem?_cons_zero, Option.getD_some]); rfl)); (try simp only [Act.put, List.setIfInBounds_toArray, List.set_cons_zero, List.set_cons_succ])) | (apply Calm.op_not; (focus rfl); (try simp only [Act.put, List.setIfInBounds_toArray, List.set_cons_zero, List.set_cons_succ])) | (apply Calm.op; (focus rfl); (focus (intro W hb; obtain ⟨hc, hf⟩ := bcell hb; clear hb hf; go_simp; (try go_bits); (try rfl); done)); (try simp only [Act.put, List.setIfInBounds_toArray, List.set_cons_zero, List.set_cons_succ]))) | (apply Calm.op_call; (focus rfl); (focus (intro W hb; obtain ⟨hc, hf⟩ := bcell hb; clear hb hf; go_simp; refine ⟨?_, ?_⟩; rfl; rfl)); (focus (intro W hb; first | (go_at_call 52; exact Calm.call_below hb (HSA.out _)))); (try simp only [Act.put, List.setIfInBounds_toArray, List.set_cons_zero, List.set_cons_succ])))
        refine wpQuiet_nil ?_
        intro w3 hb3
        obtain ⟨hb3c, hb3f⟩ := bcell hb3
        have hb3z := hb3.size
        (try simp at hb3z)
        (try have hb3z0 : w.heap.size < w3.heap.size := by omega)
        (try have hb3z1 : w.heap.size + 1 < w3.heap.size := by omega)
        (try have hb3z2 : w.heap.size + 1 + 1 < w3.heap.size := by omega)
        (try have hb3z3 : w.heap.size + 1 + 1 + 1 < w3.heap.size := by omega)
        (try have hb3z4 : w.heap.size + 1 + 1 + 1 + 1 < w3.heap.size := by omega)
        (try have hb3z5 : w.heap.size + 1 + 1 + 1 + 1 + 1 < w3.heap.size := by omega)
        go_wp2
        go_ret
        exact ⟨_, ret_i (by rw [HR.out, HX.out]), rfl, HB1.out.trans (hb3.mono HB1.out.size)⟩

set_option maxRecDepth 100000 in
set_option maxHeartbeats 2000000 in
theorem rCool_K {lk ht rc a b : Int} {M L : Nat} {ts gs : List Int} {u : Value} {W : World} (hlk : 1 ≤ lk ∧ lk ≤ 8) (ha : 0 ≤ a ∧ a ≤ 536870912) (hb : 0 ≤ b ∧ b ≤ 536870912) (hu : KG lk ht rc M ts L gs u W) : Calls Tryd.prog 54 #[u, (.int .i64 (a)), (.int .i64 (b))] W (KP (K2 (KV (.int .i64 ((coolR lk a b).1))) (KV (.int .i64 ((coolR lk a b).2)))) W) := by
  obtain ⟨A1, c1, A2, c2, rfl, hT, hG⟩ := hu
  obtain ⟨a0, a1⟩ := ha
  obtain ⟨b0, b1⟩ := hb
  have HCO : Hid (∀ {v : Value} (x : Int) W, 0 ≤ x → x ≤ 536870912 → KG lk ht rc M ts L gs v W → Calls Tryd.prog 83 #[v, (.int .i64 (x))] W (KP (KV (.int .i64 (coolF lk x))) W)) := Lib.hid (fun x W p1 p2 q => rCooled_K hlk ⟨p1, by omega⟩ q)
  have HU := Lib.hid (show KG lk ht rc M ts L gs (.agg #[(.int .i64 (lk)), (.int .i64 (ht)), .slice A1 M c1, (.int .i64 (rc)), .slice A2 L c2]) W from ⟨_, _, _, _, rfl, hT, hG⟩)
  obtain ⟨R, hR⟩ : ∃ R, R = coolR lk a b := ⟨_, rfl⟩
  have HR := Lib.hid hR
  rw [← hR]
  have HC0 : Hid (∀ k, 0 ≤ coolK lk a k ∧ coolK lk a k ≤ a) := Lib.hid (coolK_bd lk a0)
  clear hT hG hR hlk
  go_enter Tryd.func54, Tryd.ntmps54
  go_wp2
  go_loopw [1, 8] (fun f s wr => ∃ k : Nat, (k : Int) ≤ a ∧ f = (.int .i64 (coolK lk a k)) ∧ s = (.int .i64 ((k : Int))) ∧ (∀ j, j < k → b < coolK lk a j ∧ coolK lk a (j + 1) ≠ coolK lk a j) ∧ Blk wr W.heap.size #[(.int .i64 (lk)), (.int .i64 (ht)), .slice A1 M c1, (.int .i64 (rc)), .slice A2 L c2] ∧ Below W.heap.size W wr) (fun f _ _ => (intOf f).toNat)
  case atStart => exact ⟨0, by omega, rfl, rfl, fun j hj => by omega, by (repeat (first | ((with_reducible refine Blk.at_ ?_); focus (first | rfl | (simp; done) | (simp; omega))) | (with_reducible refine Blk.alloc ?_ _) | (with_reducible refine Blk.below ?_ (by with_reducible assumption)) | (with_reducible refine Blk.drew ?_))), by (repeat (first | (with_reducible exact Below.refl _ _) | ((with_reducible refine Below.setCell ?_ ?_ _); rotate_left 1; focus (first | (simp; done) | (simp; omega) | (simp at *; omega))) | ((with_reducible refine Below.alloc ?_ ?_ _); rotate_left 1; focus (first | (simp; done) | (simp; omega) | (simp at *; omega))) | (with_reducible refine Below.drew ?_) | ((with_reducible refine Calm.step (by assumption) ?_ ?_); rotate_left 1; focus (first | (simp; done) | (simp; omega) | (simp at *; omega)))))⟩
  case round =>
    obtain ⟨k, hk, rfl, rfl, hgt, hK, hB⟩ := hrel
    have HGT := Lib.hid hgt
    have HK := Lib.hid hK
    have HB := Lib.hid hB
    have HUW := Lib.hid (KG.st _ _ _ _ _ _ _ _ _ _ HU.out hB)
    obtain ⟨c0, c1'⟩ := HC0.out k
    have HF := Lib.hid (coolF_bd lk c0)
    obtain ⟨g0, g1, g2, g3, g4, gl, gf⟩ := hK.o5
    obtain ⟨c, hc⟩ : ∃ c, c = coolK lk a k := ⟨_, rfl⟩
    have HKF := Lib.hid (show coolK lk a (k + 1) = coolF lk c by rw [hc]; rfl)
    rw [← hc] at c0 c1' HF ⊢
    have HC := Lib.hid hc
    clear hgt hK hB hc
    by_cases hle : c ≤ b
    · have hR : R = ((k : Int), 0) := by
        rw [HR.out]
        exact coolR_done a0 HGT.out (by rw [← HC.out]; exact hle)
      subst hR
      go_wp2
      go_ret2
      exact ⟨_, rfl, ⟨_, _, rfl, rfl, rfl⟩, HB.out⟩
    · obtain ⟨d, hd⟩ : ∃ d, d = coolF lk c := ⟨_, rfl⟩
      have HCX : Hid (∀ {v : Value} W, KG lk ht rc M ts L gs v W → Calls Tryd.prog 83 #[v, (.int .i64 (c))] W (KP (KV (.int .i64 (d))) W)) := Lib.hid (fun W q => by rw [hd]; exact HCO.out c W c0 (by omega) q)
      rw [← hd] at HF HKF
      obtain ⟨f1, f2⟩ := HF.out
      clear hd HCO
      by_cases he : d = c
      · have hR : R = (0, 24) := by
          rw [HR.out]
          exact coolR_stuck a0 HGT.out (by rw [← HC.out]; omega) (by rw [HKF.out, he]; exact HC.out)
        subst hR
        go_wp2_with (go_at_call 83; refine (HCX.out _ HUW.out).mono ?_; rintro r w2 ⟨v2, rfl, hk2, hb2⟩; obtain rfl := hk2; have HB2 := Lib.hid (HB.out.trans (hb2.mono HB.out.size)); clear hb2)
        go_ret2
        exact ⟨_, rfl, ⟨_, _, rfl, rfl, rfl⟩, HB2.out⟩
      · go_wp2_with (go_at_call 83; refine (HCX.out _ HUW.out).mono ?_; rintro r w2 ⟨v2, rfl, hk2, hb2⟩; obtain rfl := hk2; have HB2 := Lib.hid (HB.out.trans (hb2.mono HB.out.size)); have HK2 := Lib.hid (HK.out.below hb2); have HU2 := Lib.hid (KG.st _ _ _ _ _ _ _ _ _ _ HUW.out hb2); refine Hid.out ?_)
        unfold Hid
        clear hb2 g0 g1 g2 g3 g4 gl gf
        obtain ⟨g0, g1, g2, g3, g4, gl, gf⟩ := HK2.out.o5
        go_wp2_with (go_at_call 83; refine (HCX.out _ HU2.out).mono ?_; rintro r w3 ⟨v3, rfl, hk3, hb3⟩; obtain rfl := hk3; have HB3 := Lib.hid (HB2.out.trans (hb3.mono HB2.out.size)); have HK3 := Lib.hid (HK2.out.below hb3); clear hb3)
        have hfall := coolK_fall (to := b) a0 (k + 1) (fun j hj => by
          rcases Nat.lt_or_ge j k with h | h
          · exact HGT.out j h
          · obtain rfl : j = k := by omega
            exact ⟨by rw [← HC.out]; omega, by rw [HKF.out, ← HC.out]; exact he⟩)
        go_roundw
        case rel =>
          refine ⟨k + 1, by rw [HKF.out] at hfall; push_cast at hfall ⊢; omega, by rw [HKF.out], by go_num, fun j hj => ?_, HK3.out, HB3.out⟩
          rcases Nat.lt_or_ge j k with h | h
          · exact HGT.out j h
          · obtain rfl : j = k := by omega
            exact ⟨by rw [← HC.out]; omega, by rw [HKF.out, ← HC.out]; exact he⟩
        case measure => simp [intOf]; omega
end Go.Proofs.YtdeapbihbhoefaaDoor
