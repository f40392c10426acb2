/- Part 16 of the texts of the claim: Y13, Kn, V1, Kc. -/
import Derived.Test.YtdeapbihbhoefaaDoorLz15
import Derived.Test.YtdeapbihbhoefaaDoorLz5
import Derived.Test.YtdeapbihbhoefaaDoorLz10
import Derived.Test.YtdeapbihbhoefaaDoorLz8

/- Contract of Print: a guard's words, joined. -/
namespace Go.Proofs.YtdeapbihbhoefaaDoor
open Go.RowKit
open Calm (bcell Blk)

theorem row_some {w : World} {base : Nat} {e : TypeId} {size : Nat} {v : Value} {n : Nat} {xs : List Value} (h : w.ownsRow base e size v n xs) (hn : 0 < n) : ∃ g c, v = .slice (some ⟨g, 0, none⟩) n c ∧ base ≤ g ∧ g < w.heap.size ∧ n ≤ c := by
  rcases h.2 with ⟨_, h1⟩ | ⟨g, cap, cur, rfl, h2, h3, h4, _⟩
  · omega
  · exact ⟨g, cap, rfl, h2, (Array.getElem?_eq_some_iff.1 h3).1, h4⟩
theorem name_list {P : Program} {ops : Array Oper} {Q : Exit → Act → World → Prop} {rest : List Oper} {a : Act} {W : World} (h : ∀ w2, w2 = W → wpList P ops Q rest a w2) : wpList P ops Q rest a W := h _ rfl
theorem name_calls {P : Program} {f : FuncId} {args : Array Value} {W : World} {R : Ending → World → Prop} (h : ∀ w2, w2 = W → Calls P f args w2 R) : Calls P f args W R := h _ rfl
def guardW : List UInt8 := [103, 117, 97, 114, 100]
def tapsW : List UInt8 := [116, 97, 112, 115]
def gainsW : List UInt8 := [103, 97, 105, 110, 115]
/-- the words of a guard's text. -/
def wordsG (lk ht rc : Int) (ts gs : List Int) : List (List UInt8) := [guardW, Lib.itoa lk, Lib.itoa ht, Lib.itoa rc, tapsW] ++ ts.map Lib.itoa ++ [gainsW] ++ gs.map Lib.itoa
def textG (lk ht rc : Int) (ts gs : List Int) : List UInt8 := Lib.join (wordsG lk ht rc ts gs) [32]
theorem inW_of {b : Int} {l : List Int} (h : inB b l) (h0 : 0 ≤ b) (hb : b ≤ 1000000000) : inW l := fun k => by have := inB_get h h0 k; omega
theorem lens_le {xs : List (List UInt8)} {n : Nat} (h : ∀ x ∈ xs, x.length ≤ n) : Lib.lens xs ≤ n * xs.length := by
  induction xs with
  | nil => simp [Lib.lens]
  | cons x xs ih =>
    have h1 := ih (fun y hy => h y (by simp [hy]))
    have h2 := h x (by simp)
    have e : Lib.lens (x :: xs) = x.length + Lib.lens xs := by simp [Lib.lens]
    rw [e, List.length_cons, Nat.mul_add]
    omega
theorem textG_len {lk ht rc : Int} {ts gs : List Int} (h1 : inW ts) (h2 : inW gs) (h3 : inW [lk, ht, rc]) (h4 : ts.length ≤ 1000) (h5 : gs.length ≤ 1000) : (textG lk ht rc ts gs).length ≤ 1000000 := by
  have e : textG lk ht rc ts gs = Lib.join (guardW :: ([Lib.itoa lk, Lib.itoa ht, Lib.itoa rc, tapsW] ++ ts.map Lib.itoa ++ [gainsW] ++ gs.map Lib.itoa)) [32] := rfl
  rw [e, Lib.join_length]
  have hw : ∀ x ∈ wordsG lk ht rc ts gs, x.length ≤ 21 := by
    have hi : ∀ (l : List Int), inW l → ∀ x ∈ l.map Lib.itoa, x.length ≤ 21 := by
      intro l hl x hx
      obtain ⟨n, hn, rfl⟩ := List.mem_map.1 hx
      obtain ⟨k, hk, rfl⟩ := List.mem_iff_getElem.1 hn
      have := hl k
      rw [List.getD_eq_getElem?_getD, List.getElem?_eq_getElem hk] at this
      exact Lib.itoa_length_le _ this.1 this.2
    have h3' := hi _ h3
    intro x hx
    unfold wordsG at hx
    simp only [List.mem_append, List.mem_cons, List.not_mem_nil, or_false] at hx
    rcases hx with (((rfl | rfl | rfl | rfl | rfl) | hx) | rfl) | hx
    · decide
    · exact h3' _ (by simp)
    · exact h3' _ (by simp)
    · exact h3' _ (by simp)
    · decide
    · exact hi _ h1 x hx
    · decide
    · exact hi _ h2 x hx
  have := lens_le hw
  have e2 : (wordsG lk ht rc ts gs).length = 6 + ts.length + gs.length := by unfold wordsG; simp; omega
  rw [e2] at this
  have e3 : wordsG lk ht rc ts gs = guardW :: ([Lib.itoa lk, Lib.itoa ht, Lib.itoa rc, tapsW] ++ ts.map Lib.itoa ++ [gainsW] ++ gs.map Lib.itoa) := rfl
  rw [e3] at this
  simp at this ⊢
  omega
theorem Print_bad (lk ht rc : Int) (ts gs : List Int) (A1 A2 : Option Addr) (M L c1 c2 : Nat) (w : World) (hM : M = ts.length) (hL : L = gs.length) (hT : Cells w A1 ts) (hG : Cells w A2 gs) (h1 : M ≤ 1000) (h2 : L ≤ 1000) (he : guardErr lk ht rc ts gs ≠ 0) :
    Calls Tryd.prog 68 #[.agg #[(.int .i64 lk), (.int .i64 ht), .slice A1 M c1, (.int .i64 rc), .slice A2 L c2]] w fun r w' => r = .returned (.tuple #[.string ⟨#[]⟩, (.int .i64 (guardErr lk ht rc ts gs))]) ∧ Below w.heap.size w w' := by
  have HCG : Hid (∀ W, Cells W A1 ts → Cells W A2 gs → Calls Tryd.prog 20 #[.agg #[(.int .i64 lk), (.int .i64 ht), .slice A1 M c1, (.int .i64 rc), .slice A2 L c2]] W fun r w' => r = .returned (.int .i64 (guardErr lk ht rc ts gs)) ∧ Below W.heap.size W w') := Lib.hid (fun W q1 q2 => by rw [hM, hL]; exact checkGuard_any lk ht rc ts gs A1 A2 c1 c2 W q1 q2 (by omega) (by omega))
  have HT := Lib.hid hT
  have HG := Lib.hid hG
  obtain ⟨E, hE⟩ : ∃ E, E = guardErr lk ht rc ts gs := ⟨_, rfl⟩
  rw [← hE] at HCG he ⊢
  clear hM hL hT hG hE
  go_enter Tryd.func68, Tryd.ntmps68
  go_wp2_with (go_at_call 20; refine (HCG.out _ (HT.out.below (by (repeat (first | (with_reducible exact Below.refl _ _) | ((with_reducible refine Below.setCell ?_ ?_ _); rotate_left 1; focus (first | (simp; done) | (simp; omega) | (simp at *; omega))) | ((with_reducible refine Below.alloc ?_ ?_ _); rotate_left 1; focus (first | (simp; done) | (simp; omega) | (simp at *; omega))) | (with_reducible refine Below.drew ?_) | ((with_reducible refine Calm.step (by assumption) ?_ ?_); rotate_left 1; focus (first | (simp; done) | (simp; omega) | (simp at *; omega))))))) (HG.out.below (by (repeat (first | (with_reducible exact Below.refl _ _) | ((with_reducible refine Below.setCell ?_ ?_ _); rotate_left 1; focus (first | (simp; done) | (simp; omega) | (simp at *; omega))) | ((with_reducible refine Below.alloc ?_ ?_ _); rotate_left 1; focus (first | (simp; done) | (simp; omega) | (simp at *; omega))) | (with_reducible refine Below.drew ?_) | ((with_reducible refine Calm.step (by assumption) ?_ ?_); rotate_left 1; focus (first | (simp; done) | (simp; omega) | (simp at *; omega)))))))).mono ?_; rintro r w1 ⟨rfl, hb1⟩; have HB1 := Lib.hid (show Below w.heap.size w w1 from Below.trans (by (repeat (first | (with_reducible exact Below.refl _ _) | ((with_reducible refine Below.setCell ?_ ?_ _); rotate_left 1; focus (first | (simp; done) | (simp; omega) | (simp at *; omega))) | ((with_reducible refine Below.alloc ?_ ?_ _); rotate_left 1; focus (first | (simp; done) | (simp; omega) | (simp at *; omega))) | (with_reducible refine Below.drew ?_) | ((with_reducible refine Calm.step (by assumption) ?_ ?_); rotate_left 1; focus (first | (simp; done) | (simp; omega) | (simp at *; omega)))))) (hb1.mono (by simp; try omega))); clear hb1)
  go_ret2
  exact ⟨rfl, HB1.out⟩

set_option maxRecDepth 100000 in
set_option maxHeartbeats 2000000 in
theorem Print_ok (lk ht rc : Int) (ts gs : List Int) (A1 A2 : Option Addr) (M L c1 c2 : Nat) (w : World) (hM : M = ts.length) (hL : L = gs.length) (hTab : PTab w) (hT : Cells w A1 ts) (hG : Cells w A2 gs) (h1 : M ≤ 1000) (h2 : L ≤ 1000) (he : guardErr lk ht rc ts gs = 0) :
    Calls Tryd.prog 68 #[.agg #[(.int .i64 lk), (.int .i64 ht), .slice A1 M c1, (.int .i64 rc), .slice A2 L c2]] w fun r w' => r = .returned (.tuple #[.string ⟨(textG lk ht rc ts gs).toArray⟩, (.int .i64 0)]) ∧ Below w.heap.size w w' := by
  obtain ⟨i0, hii, hz0, hz1, hz2⟩ := info_parts Tryd.infoS
  have hV := guard_valid he
  have vlk := hV.lk
  have vht := hV.ht
  have vrc := hV.rc
  have vts := hV.tl
  have vgs := hV.gl
  have hWT := inW_of hV.tb (by omega) (by omega)
  have hWG : inW gs := fun k => by have := hV.gb k; omega
  have hW3 : inW [lk, ht, rc] := fun k => by
    match k with
    | 0 => simp; omega
    | 1 => simp; omega
    | 2 => simp; omega
    | k + 3 => simp
  have HLEN := Lib.hid (textG_len hWT hWG hW3 (by omega) (by omega))
  have HCG : Hid (∀ W, Cells W A1 ts → Cells W A2 gs → Calls Tryd.prog 20 #[.agg #[(.int .i64 lk), (.int .i64 ht), .slice A1 M c1, (.int .i64 rc), .slice A2 L c2]] W fun r w' => r = .returned (.int .i64 0) ∧ Below W.heap.size W w') := Lib.hid (fun W q1 q2 => by
    have := checkGuard_any lk ht rc ts gs A1 A2 c1 c2 W q1 q2 (by omega) (by omega)
    rwa [← hM, ← hL, he] at this)
  have HM1 : Hid (∀ W, PTab W → Cells W A1 ts → Calls Tryd.prog 100 #[.slice A1 M c1, .func (.func 99) #[] #[]] W fun r w' => (∃ v, r = .returned v ∧ w'.ownsRow W.heap.size 9 1 v M (ts.map fun n => sv (Lib.itoa n))) ∧ Below W.heap.size W w') := Lib.hid (fun W q1 q2 => mappedS_any A1 ts M c1 W hM q1 q2 (by omega) hWT)
  have HM2 : Hid (∀ W, PTab W → Cells W A2 gs → Calls Tryd.prog 100 #[.slice A2 L c2, .func (.func 99) #[] #[]] W fun r w' => (∃ v, r = .returned v ∧ w'.ownsRow W.heap.size 9 1 v L (gs.map fun n => sv (Lib.itoa n))) ∧ Below W.heap.size W w') := Lib.hid (fun W q1 q2 => mappedS_any A2 gs L c2 W hL q1 q2 (by omega) hWG)
  obtain ⟨S1, hS1⟩ : ∃ S : ByteArray, S = ⟨(Lib.itoa lk).toArray⟩ := ⟨_, rfl⟩
  obtain ⟨S2, hS2⟩ : ∃ S : ByteArray, S = ⟨(Lib.itoa ht).toArray⟩ := ⟨_, rfl⟩
  obtain ⟨S3, hS3⟩ : ∃ S : ByteArray, S = ⟨(Lib.itoa rc).toArray⟩ := ⟨_, rfl⟩
  have HI1 : Hid (∀ W, PTab W → Calls Tryd.prog 99 #[(.int .i64 lk)] W fun r w' => r = .returned (.string S1) ∧ Below W.heap.size W w') := Lib.hid (fun W q => by rw [hS1]; exact itoa_any lk W q (by omega) (by omega))
  have HI2 : Hid (∀ W, PTab W → Calls Tryd.prog 99 #[(.int .i64 ht)] W fun r w' => r = .returned (.string S2) ∧ Below W.heap.size W w') := Lib.hid (fun W q => by rw [hS2]; exact itoa_any ht W q (by omega) (by omega))
  have HI3 : Hid (∀ W, PTab W → Calls Tryd.prog 99 #[(.int .i64 rc)] W fun r w' => r = .returned (.string S3) ∧ Below W.heap.size W w') := Lib.hid (fun W q => by rw [hS3]; exact itoa_any rc W q (by omega) (by omega))
  have HE1 := Lib.hid hS1
  have HE2 := Lib.hid hS2
  have HE3 := Lib.hid hS3
  have HM := Lib.hid hM
  have HL := Lib.hid hL
  have HT := Lib.hid hT
  have HG := Lib.hid hG
  have HTab := Lib.hid hTab
  have hM1 : 1 ≤ M := by omega
  have hL1 : 1 ≤ L := by omega
  clear hS1 hS2 hS3 hM hL hT hG hTab he hV vlk vht vrc vts vgs hWT hWG hW3
  go_enter Tryd.func68, Tryd.ntmps68
  go_wp2_with (go_at_call 20; refine (HCG.out _ (HT.out.below (by (repeat (first | (with_reducible exact Below.refl _ _) | ((with_reducible refine Below.setCell ?_ ?_ _); rotate_left 1; focus (first | (simp; done) | (simp; omega) | (simp at *; omega))) | ((with_reducible refine Below.alloc ?_ ?_ _); rotate_left 1; focus (first | (simp; done) | (simp; omega) | (simp at *; omega))) | (with_reducible refine Below.drew ?_) | ((with_reducible refine Calm.step (by assumption) ?_ ?_); rotate_left 1; focus (first | (simp; done) | (simp; omega) | (simp at *; omega))))))) (HG.out.below (by (repeat (first | (with_reducible exact Below.refl _ _) | ((with_reducible refine Below.setCell ?_ ?_ _); rotate_left 1; focus (first | (simp; done) | (simp; omega) | (simp at *; omega))) | ((with_reducible refine Below.alloc ?_ ?_ _); rotate_left 1; focus (first | (simp; done) | (simp; omega) | (simp at *; omega))) | (with_reducible refine Below.drew ?_) | ((with_reducible refine Calm.step (by assumption) ?_ ?_); rotate_left 1; focus (first | (simp; done) | (simp; omega) | (simp at *; omega)))))))).mono ?_; rintro r w1 ⟨rfl, hb1⟩; have HB1 := Lib.hid (show Below w.heap.size w w1 from Below.trans (by (repeat (first | (with_reducible exact Below.refl _ _) | ((with_reducible refine Below.setCell ?_ ?_ _); rotate_left 1; focus (first | (simp; done) | (simp; omega) | (simp at *; omega))) | ((with_reducible refine Below.alloc ?_ ?_ _); rotate_left 1; focus (first | (simp; done) | (simp; omega) | (simp at *; omega))) | (with_reducible refine Below.drew ?_) | ((with_reducible refine Calm.step (by assumption) ?_ ?_); rotate_left 1; focus (first | (simp; done) | (simp; omega) | (simp at *; omega)))))) (hb1.mono (by simp; try omega))); have G1 := Lib.hid (show Blk w1 w.heap.size #[(.int .i64 lk), (.int .i64 ht), .slice A1 M c1, (.int .i64 rc), .slice A2 L c2] from Blk.below (by (repeat (first | ((with_reducible refine Blk.at_ ?_); focus (first | rfl | (simp; done) | (simp; omega))) | (with_reducible refine Blk.alloc ?_ _) | (with_reducible refine Blk.below ?_ (by with_reducible assumption)) | (with_reducible refine Blk.drew ?_)))) hb1); obtain ⟨g0, g1, g2, g3, g4, gl, gf⟩ := G1.out.o5; clear hb1)
  refine Rel.region3 9 (by kernel_rfl) (by kernel_rfl) (by kernel_rfl) ?_
  simp only [List.take_succ_cons, List.take_zero, List.drop_succ_cons, List.drop_zero, List.filterMap_cons, List.filterMap_nil]
  iterate 2 (apply Rel.op3; (focus (first | exact Rel.gno rfl | exact Rel.gyes _ true _ rfl rfl rfl | exact Rel.gyes _ false _ rfl rfl rfl)); (focus (intro a W hb hd hbase; obtain ⟨hc, hf⟩ := bcell hb; clear hb hf; simp [Rel.deps, Rel.dep1, Rel.ons, Region.binds, Act.eval] at hd; simp only [Act.eval, List.mem_cons, List.not_mem_nil, not_or, and_imp, or_false, Array.getD_eq_getD_getElem?] at hbase; go_simp; (try go_bits); (try rfl); done)); (try simp only [List.nil_append, List.cons_append]))
  (apply Rel.call3; (focus (first | exact Rel.gno rfl | exact Rel.gyes _ true _ rfl rfl rfl | exact Rel.gyes _ false _ rfl rfl rfl)); (focus (intro a W hb hd hbase; obtain ⟨hc, hf⟩ := bcell hb; clear hb hf; simp [Rel.deps, Rel.dep1, Rel.ons, Region.binds, Act.eval] at hd; simp only [Act.eval, List.mem_cons, List.not_mem_nil, not_or, and_imp, or_false, Array.getD_eq_getD_getElem?] at hbase; go_simp; refine ⟨?_, ?_⟩; rfl; rfl)); (focus (intro W hb; go_at_call 99; exact HI1.out _ (HTab.out.below (HB1.out.trans (hb.mono HB1.out.size))))); (try simp only [List.nil_append, List.cons_append]))
  iterate 2 (apply Rel.op3; (focus (first | exact Rel.gno rfl | exact Rel.gyes _ true _ rfl rfl rfl | exact Rel.gyes _ false _ rfl rfl rfl)); (focus (intro a W hb hd hbase; obtain ⟨hc, hf⟩ := bcell hb; clear hb hf; simp [Rel.deps, Rel.dep1, Rel.ons, Region.binds, Act.eval] at hd; simp only [Act.eval, List.mem_cons, List.not_mem_nil, not_or, and_imp, or_false, Array.getD_eq_getD_getElem?] at hbase; go_simp; (try go_bits); (try rfl); done)); (try simp only [List.nil_append, List.cons_append]))
  (apply Rel.call3; (focus (first | exact Rel.gno rfl | exact Rel.gyes _ true _ rfl rfl rfl | exact Rel.gyes _ false _ rfl rfl rfl)); (focus (intro a W hb hd hbase; obtain ⟨hc, hf⟩ := bcell hb; clear hb hf; simp [Rel.deps, Rel.dep1, Rel.ons, Region.binds, Act.eval] at hd; simp only [Act.eval, List.mem_cons, List.not_mem_nil, not_or, and_imp, or_false, Array.getD_eq_getD_getElem?] at hbase; go_simp; refine ⟨?_, ?_⟩; rfl; rfl)); (focus (intro W hb; go_at_call 99; exact HI2.out _ (HTab.out.below (HB1.out.trans (hb.mono HB1.out.size))))); (try simp only [List.nil_append, List.cons_append]))
  iterate 2 (apply Rel.op3; (focus (first | exact Rel.gno rfl | exact Rel.gyes _ true _ rfl rfl rfl | exact Rel.gyes _ false _ rfl rfl rfl)); (focus (intro a W hb hd hbase; obtain ⟨hc, hf⟩ := bcell hb; clear hb hf; simp [Rel.deps, Rel.dep1, Rel.ons, Region.binds, Act.eval] at hd; simp only [Act.eval, List.mem_cons, List.not_mem_nil, not_or, and_imp, or_false, Array.getD_eq_getD_getElem?] at hbase; go_simp; (try go_bits); (try rfl); done)); (try simp only [List.nil_append, List.cons_append]))
  (apply Rel.call3; (focus (first | exact Rel.gno rfl | exact Rel.gyes _ true _ rfl rfl rfl | exact Rel.gyes _ false _ rfl rfl rfl)); (focus (intro a W hb hd hbase; obtain ⟨hc, hf⟩ := bcell hb; clear hb hf; simp [Rel.deps, Rel.dep1, Rel.ons, Region.binds, Act.eval] at hd; simp only [Act.eval, List.mem_cons, List.not_mem_nil, not_or, and_imp, or_false, Array.getD_eq_getD_getElem?] at hbase; go_simp; refine ⟨?_, ?_⟩; rfl; rfl)); (focus (intro W hb; go_at_call 99; exact HI3.out _ (HTab.out.below (HB1.out.trans (hb.mono HB1.out.size))))); (try simp only [List.nil_append, List.cons_append]))
  refine Rel.done3 ?_
  intro x w2 hb2 hx
  simp only [Rel.facts, Nat.zero_add, Nat.reduceAdd] at hx
  obtain ⟨e0, e1, e2, e3, e4, e5, e6, e7, e8, _⟩ := hx
  simp only [Rel.fill, Nat.zero_add, Nat.reduceAdd, e0, e1, e2, e3, e4, e5, e6, e7, e8]
  simp only [Act.put, List.setIfInBounds_toArray, List.set_cons_zero, List.set_cons_succ]
  clear e0 e1 e2 e3 e4 e5 e6 e7 e8
  have HB2 := Lib.hid (HB1.out.trans (hb2.mono HB1.out.size))
  have G2 := Lib.hid (G1.out.below hb2)
  clear hb2 g0 g1 g2 g3 g4 gl gf
  obtain ⟨g0, g1, g2, g3, g4, gl, gf⟩ := G2.out.o5
  have hg2 := G2.out.lt
  go_wp2_with (go_at_call 100; refine name_calls ?_; intro w3 e3; refine Hid.out ?_)
  unfold Hid
  have hO3 : w3.ownsRow (w.heap.size + 1) 9 1 (.slice (some ⟨w2.heap.size, 0, none⟩) 5 5) 5 (#[.string ⟨#[103, 117, 97, 114, 100]⟩, .string S1, .string S2, .string S3, .string ⟨#[116, 97, 112, 115]⟩] : Array Value).toList := by rw [e3]; exact World.ownsRow_lit w2 _ 5 (by omega) (by decide) rfl
  have HO3 := Lib.hid hO3
  have HB3 := Lib.hid (show Below w.heap.size w w3 by rw [e3]; exact HB2.out.alloc HB2.out.size _)
  have G3 := Lib.hid (show Blk w3 w.heap.size #[(.int .i64 lk), (.int .i64 ht), .slice A1 M c1, (.int .i64 rc), .slice A2 L c2] by rw [e3]; exact G2.out.alloc _)
  clear e3 hO3 g0 g1 g2 g3 g4 gl gf
  refine (HM1.out _ (HTab.out.below HB3.out) (HT.out.below HB3.out)).mono ?_
  rintro r w4 ⟨⟨v1, rfl, ho1⟩, hb4⟩
  obtain ⟨r1, d1, rfl, hr1, hr1l, hd1⟩ := row_some ho1 hM1
  have HO1 := Lib.hid ho1
  have HO4 := Lib.hid (ownsRow_below HO3.out hb4)
  have HB4 := Lib.hid (HB3.out.trans (hb4.mono HB3.out.size))
  have G4 := Lib.hid (G3.out.below hb4)
  have hs4 := HB4.out.size
  have hs3 := G4.out.lt
  clear ho1 hb4
  go_wp2_with (at_builtin; refine wpList_append_own _ rfl _ _ 127 rfl (w.heap.size + 1) 9 i0 (.string ⟨#[]⟩) 1 16 Tryd.underlying127 hii hz0 hz1 hz2 rfl (by decide) _ _ _ rfl HO4.out ⟨r1, 0, none⟩ M d1 (ts.map fun n => sv (Lib.itoa n)) rfl ?c0 ?c1 ?c2 ?c3 ?c4 ?c5 ?_)
  case c0 => simp [HM.out]
  case c1 => exact fun j u hj => HO1.out.cells rfl j u hj
  case c2 => intro u hu; obtain ⟨_, _, rfl⟩ := List.mem_map.1 hu; rfl
  case c3 => unfold maxLen; omega
  case c4 => omega
  case c5 => omega
  intro v5 w5 hO5 hg5 _
  have hrow5 : ∀ j, Value.ownBlock _ = some j → w.heap.size + 1 ≤ j ∧ j < w4.heap.size := HO4.out.lt
  have HO5 := Lib.hid hO5
  have G5 := Lib.hid (grown_blk G4.out hg5 (fun j hj => by have := hrow5 j hj; omega))
  have HB5 := Lib.hid (HB4.out.grown hg5 hs4 (fun j hj => by have := hrow5 j hj; omega))
  have hs5 := G5.out.lt
  clear hO5 hg5 hrow5
  obtain ⟨g0, g1, g2, g3, g4, gl, gf⟩ := G5.out.o5
  go_wp2_with (at_builtin; refine name_list ?_; intro w6 e6; refine Hid.out ?_)
  unfold Hid
  have HB6 := Lib.hid (show Below w.heap.size w w6 by rw [e6]; exact HB5.out.alloc HB5.out.size _)
  have HO6 := Lib.hid (show w6.ownsRow (w.heap.size + 1) 9 1 v5 (5 + M) ((#[.string ⟨#[103, 117, 97, 114, 100]⟩, .string S1, .string S2, .string S3, .string ⟨#[116, 97, 112, 115]⟩] : Array Value).toList ++ ts.map fun n => sv (Lib.itoa n)) by rw [e6]; exact HO5.out.alloc _)
  have G6 := Lib.hid (show Blk w6 w.heap.size #[(.int .i64 lk), (.int .i64 ht), .slice A1 M c1, (.int .i64 rc), .slice A2 L c2] by rw [e6]; exact G5.out.alloc _)
  have HN6 := Lib.hid (show Blk w6 w5.heap.size #[.string ⟨#[103, 97, 105, 110, 115]⟩] by rw [e6]; exact Calm.Blk.new _ _ _)
  clear e6 g0 g1 g2 g3 g4 gl gf
  have hs6 := HB6.out.size
  have hs6g := G6.out.lt
  refine wpList_append_own _ rfl _ _ 127 rfl (w.heap.size + 1) 9 i0 (.string ⟨#[]⟩) 1 16 Tryd.underlying127 hii hz0 hz1 hz2 rfl (by decide) _ _ _ rfl HO6.out ⟨w5.heap.size, 0, none⟩ 1 1 [.string ⟨#[103, 97, 105, 110, 115]⟩] rfl rfl ?d1 ?d2 ?d3 ?d4 ?d5 ?_
  case d1 =>
    intro j u hj
    match j, hj with
    | 0, hj => simp at hj; subst hj; simpa [Addr.add] using HN6.out.c 0
  case d2 => intro u hu; simp at hu; subst hu; rfl
  case d3 => unfold maxLen; omega
  case d4 => omega
  case d5 => omega
  intro v7 w7 hO7 hg7 _
  have hrow7 : ∀ j, Value.ownBlock _ = some j → w.heap.size + 1 ≤ j ∧ j < w6.heap.size := HO6.out.lt
  have HO7 := Lib.hid hO7
  have G7 := Lib.hid (grown_blk G6.out hg7 (fun j hj => by have := hrow7 j hj; omega))
  have HB7 := Lib.hid (HB6.out.grown hg7 hs6 (fun j hj => by have := hrow7 j hj; omega))
  have hs7 := G7.out.lt
  clear hO7 hg7 hrow7 HN6
  obtain ⟨g0, g1, g2, g3, g4, gl, gf⟩ := G7.out.o5
  go_wp2_with (go_at_call 100; refine (HM2.out _ (HTab.out.below HB7.out) (HG.out.below HB7.out)).mono ?_; rintro r w8 ⟨⟨v8, rfl, ho8⟩, hb8⟩; refine Hid.out ?_)
  unfold Hid
  obtain ⟨r8, d8, rfl, hr8, hr8l, hd8⟩ := row_some ho8 hL1
  have HO8 := Lib.hid ho8
  have HP8 := Lib.hid (ownsRow_below HO7.out hb8)
  have HB8 := Lib.hid (HB7.out.trans (hb8.mono HB7.out.size))
  have hs8 := HB8.out.size
  have hs8g := (G7.out.below hb8).lt
  clear ho8 hb8 g0 g1 g2 g3 g4 gl gf
  go_wp2_with (at_builtin; refine wpList_append_own _ rfl _ _ 127 rfl (w.heap.size + 1) 9 i0 (.string ⟨#[]⟩) 1 16 Tryd.underlying127 hii hz0 hz1 hz2 rfl (by decide) _ _ _ rfl HP8.out ⟨r8, 0, none⟩ L d8 (gs.map fun n => sv (Lib.itoa n)) rfl ?e0 ?e1 ?e2 ?e3 ?e4 ?e5 ?_)
  case e0 => simp [HL.out]
  case e1 => exact fun j u hj => HO8.out.cells rfl j u hj
  case e2 => intro u hu; obtain ⟨_, _, rfl⟩ := List.mem_map.1 hu; rfl
  case e3 => unfold maxLen; omega
  case e4 => omega
  case e5 => omega
  intro v9 w9 hO9 hg9 _
  have hrow9 : ∀ j, Value.ownBlock _ = some j → w.heap.size + 1 ≤ j ∧ j < w8.heap.size := HP8.out.lt
  have HB9 := Lib.hid (HB8.out.grown hg9 hs8 (fun j hj => by have := hrow9 j hj; omega))
  have hall : (#[.string ⟨#[103, 117, 97, 114, 100]⟩, .string S1, .string S2, .string S3, .string ⟨#[116, 97, 112, 115]⟩] : Array Value).toList ++ (ts.map fun n => sv (Lib.itoa n)) ++ [.string ⟨#[103, 97, 105, 110, 115]⟩] ++ (gs.map fun n => sv (Lib.itoa n)) = ((wordsG lk ht rc ts gs).map fun l => (⟨l.toArray⟩ : ByteArray)).map Value.string := by
    rw [HE1.out, HE2.out, HE3.out]
    unfold wordsG guardW tapsW gainsW sv
    simp [Function.comp_def]
  have hO9 : w9.ownsRow (w.heap.size + 1) 9 1 v9 (5 + M + 1 + L) (((wordsG lk ht rc ts gs).map fun l => (⟨l.toArray⟩ : ByteArray)).map Value.string) := by rw [← hall]; simpa using hO9
  obtain ⟨r9, d9, rfl, hr9, hr9l, hd9⟩ := row_some hO9 (by omega)
  have hwl : ((wordsG lk ht rc ts gs).map fun l => (⟨l.toArray⟩ : ByteArray)).length = 5 + M + 1 + L := by
    unfold wordsG
    have h1 := HM.out
    have h2 := HL.out
    simp
    omega
  have hmm : (((wordsG lk ht rc ts gs).map fun l => (⟨l.toArray⟩ : ByteArray)).map (·.data.toList)) = wordsG lk ht rc ts gs := by
    rw [List.map_map]
    conv => rhs; rw [← List.map_id (wordsG lk ht rc ts gs)]
    exact List.map_congr_left (fun l _ => by simp)
  have HJ : Hid (Calls Tryd.prog 101 #[.slice (some ⟨r9, 0, none⟩) (5 + M + 1 + L) d9, .string ⟨#[32]⟩] w9 fun e w' => e = .returned (.string ⟨(textG lk ht rc ts gs).toArray⟩) ∧ Below w9.heap.size w9 w') := Lib.hid (by
    have := Tryd.strings_Join r9 0 d9 ((wordsG lk ht rc ts gs).map fun l => (⟨l.toArray⟩ : ByteArray)) ⟨#[32]⟩ w9 (fun j x hj => by
      have := hO9.cells rfl j (.string x) (by rw [List.getElem?_map, hj]; rfl)
      rw [Nat.zero_add]
      have e : (⟨r9, 0, none⟩ : Addr).add j = ⟨r9, j, none⟩ := by unfold Addr.add; split <;> simp_all
      rwa [e] at this) hr9l (by omega) (by omega) (by rw [hmm]; show (textG lk ht rc ts gs).length ≤ _; have := HLEN.out; omega)
    rw [hwl, hmm] at this
    exact this)
  have hs9 := HB9.out.size
  clear hO9 hg9 hrow9 hall hwl hmm
  go_wp2_with (go_at_call 101; refine HJ.out.mono ?_; rintro r w10 ⟨rfl, hb10⟩; refine Hid.out ?_)
  unfold Hid
  have HB10 := Lib.hid (HB9.out.trans (hb10.mono hs9))
  clear hb10
  obtain ⟨T, hT⟩ : ∃ T, T = textG lk ht rc ts gs := ⟨_, rfl⟩
  rw [← hT]
  have HTT := Lib.hid hT
  clear hT HJ HLEN
  go_wp2
  go_ret2
  have e := HTT.out
  subst e
  exact ⟨rfl, HB10.out⟩
end Go.Proofs.YtdeapbihbhoefaaDoor

/- What is known of a value: guards, states, slices of integers, tuples; stable where nothing old turns. Steps of a region by it. -/
namespace Go.Proofs.YtdeapbihbhoefaaDoor
open Go.RowKit
open Calm (bcell Blk)
open Rel (Know Stable)

/-- this value. -/
def KV (v : Value) : Know := fun u _ => u = v
theorem KV.st (v : Value) : Stable (KV v) := fun _ _ _ h _ => h
/-- a slice of n integers. -/
def KS (n : Nat) (l : List Int) : Know := fun u W => ∃ B c, u = .slice B n c ∧ Cells W B l
theorem KS.st (n : Nat) (l : List Int) : Stable (KS n l) := fun _ _ _ ⟨B, c, h1, h2⟩ hb => ⟨B, c, h1, h2.below hb⟩
/-- a guard. -/
def KG (lk ht rc : Int) (M : Nat) (ts : List Int) (L : Nat) (gs : List Int) : Know := fun u W => ∃ A1 c1 A2 c2, u = .agg #[(.int .i64 lk), (.int .i64 ht), .slice A1 M c1, (.int .i64 rc), .slice A2 L c2] ∧ Cells W A1 ts ∧ Cells W A2 gs
theorem KG.st (lk ht rc : Int) (M : Nat) (ts : List Int) (L : Nat) (gs : List Int) : Stable (KG lk ht rc M ts L gs) := fun _ _ _ ⟨A1, c1, A2, c2, h1, h2, h3⟩ hb => ⟨A1, c1, A2, c2, h1, h2.below hb, h3.below hb⟩
/-- a state. -/
def KT (h lv : Int) (n : Nat) (l : List Int) : Know := fun u W => ∃ B c, u = .agg #[(.int .i64 h), (.int .i64 lv), .slice B n c] ∧ Cells W B l
theorem KT.st (h lv : Int) (n : Nat) (l : List Int) : Stable (KT h lv n l) := fun _ _ _ ⟨B, c, h1, h2⟩ hb => ⟨B, c, h1, h2.below hb⟩
/-- a state whose last outputs lie in a row of integers. -/
def KTI (h lv : Int) (n : Nat) (l : List Int) : Know := fun u W => ∃ B c, u = .agg #[(.int .i64 h), (.int .i64 lv), .slice B n c] ∧ Cells W B l ∧ ∀ p, B = some p → IntRow W p
theorem KTI.st (h lv : Int) (n : Nat) (l : List Int) : Stable (KTI h lv n l) := fun _ _ _ ⟨B, c, h1, h2, h3⟩ hb => ⟨B, c, h1, h2.below hb, fun p hp => (h3 p hp).below hb⟩
theorem KTI.kt {h lv : Int} {n : Nat} {l : List Int} {u : Value} {W : World} (h1 : KTI h lv n l u W) : KT h lv n l u W := by
  obtain ⟨B, c, h1, h2, _⟩ := h1
  exact ⟨B, c, h1, h2⟩
theorem KTI.zero (W : World) : KTI 0 0 0 [] (.agg #[(.int .i64 0), (.int .i64 0), .slice none 0 0]) W := ⟨none, 0, rfl, fun h => by simp at h, fun p hp => by cases hp⟩
theorem KS.nil (W : World) : KS 0 [] (.slice none 0 0) W := ⟨none, 0, rfl, fun h => by simp at h⟩
theorem blkc {w : World} {g : Nat} {zs : List Int} (h : Blk w g (zs.map (Value.int .i64)).toArray) : Cells w (some ⟨g, 0, none⟩) zs := fun _ =>
  ⟨g, 0, rfl, h.lt, fun k hk => by rw [Nat.zero_add, h.c k]; simp [hk, List.getD_eq_getElem?_getD]⟩
/-- tuples. -/
def K2 (R1 R2 : Know) : Know := fun u W => ∃ u1 u2, u = .tuple #[u1, u2] ∧ R1 u1 W ∧ R2 u2 W
theorem K2.st {R1 R2 : Know} (h1 : Stable R1) (h2 : Stable R2) : Stable (K2 R1 R2) := fun _ W W' ⟨u1, u2, e, k1, k2⟩ hb => ⟨u1, u2, e, h1 _ W W' k1 hb, h2 _ W W' k2 hb⟩
def K3 (R1 R2 R3 : Know) : Know := fun u W => ∃ u1 u2 u3, u = .tuple #[u1, u2, u3] ∧ R1 u1 W ∧ R2 u2 W ∧ R3 u3 W
/-- a call hands back what is known, and nothing old turns. -/
def KP (R : Know) (W : World) (e : Ending) (W' : World) : Prop := ∃ v, e = .returned v ∧ R v W' ∧ Below W.heap.size W W'

namespace Rel
section
variable {P : Program} {DS : List Tmp} {w0 : World} {a0 : Act} {T : Ctx → Prop} {Γ : Ctx} {o : Oper} {rest : List Oper}
theorem dep_at {Γ : Ctx} {a : Act} {W : World} : ∀ {js : List Nat}, deps Γ a W js → ∀ (j : Nat) {t : Tmp} {K : Know}, js.contains j = true → Γ[j]? = some (some t, K) → K (a.eval (.tmp t)) W
  | [], _, _, _, _, hj, _ => by simp at hj
  | i :: js, h, j, t, K, hj, hΓ => by
    rcases Bool.eq_false_or_eq_true (i == j) with e | e
    · rw [beq_iff_eq] at e
      subst e
      have h1 := h.1
      rw [hΓ] at h1
      exact h1
    · refine dep_at h.2 j (K := K) ?_ hΓ
      rw [List.contains_cons] at hj
      have : (j == i) = false := by rw [beq_eq_false_iff_ne] at e ⊢; exact fun e2 => e e2.symm
      rwa [this, Bool.false_or] at hj
theorem mvK (t : Tmp) (j : Nat) {K : Know} (hop : o.op = .move (.tmp t)) (hj : (ons o).contains j = true) (hΓ : Γ[j]? = some (some t, K)) (hs : Stable K) (hg : GOK3 Γ o)
    (hn : walk3 P DS w0 a0 T (Γ ++ [(o.dst, K)]) rest) : walk3 P DS w0 a0 T Γ (o :: rest) :=
  opR3 K hs hg (fun a W hb hd _ => ⟨a.eval (.tmp t), by simp [execOp, hop], dep_at hd j hj hΓ⟩) hn
theorem asgK (t : Tmp) (j : Nat) {K : Know} (hop : o.op = .assign (.tmp t)) (hj : (ons o).contains j = true) (hΓ : Γ[j]? = some (some t, K)) (hs : Stable K) (hg : GOK3 Γ o)
    (hn : walk3 P DS w0 a0 T (Γ ++ [(o.dst, K)]) rest) : walk3 P DS w0 a0 T Γ (o :: rest) :=
  opR3 K hs hg (fun a W hb hd _ => ⟨a.eval (.tmp t), by simp [execOp, hop], dep_at hd j hj hΓ⟩) hn
theorem ext20 (t : Tmp) (j : Nat) {R1 R2 : Know} (hop : o.op = .extract (.tmp t) 0) (hj : (ons o).contains j = true) (hΓ : Γ[j]? = some (some t, K2 R1 R2)) (hs : Stable R1) (hg : GOK3 Γ o)
    (hn : walk3 P DS w0 a0 T (Γ ++ [(o.dst, R1)]) rest) : walk3 P DS w0 a0 T Γ (o :: rest) :=
  opR3 R1 hs hg (fun a W hb hd _ => by
    obtain ⟨u1, u2, e, h1, h2⟩ := dep_at hd j hj hΓ
    exact ⟨u1, by simp [execOp, hop, e, Instr.extract, Result.andThen], h1⟩) hn
theorem ext21 (t : Tmp) (j : Nat) {R1 R2 : Know} (hop : o.op = .extract (.tmp t) 1) (hj : (ons o).contains j = true) (hΓ : Γ[j]? = some (some t, K2 R1 R2)) (hs : Stable R2) (hg : GOK3 Γ o)
    (hn : walk3 P DS w0 a0 T (Γ ++ [(o.dst, R2)]) rest) : walk3 P DS w0 a0 T Γ (o :: rest) :=
  opR3 R2 hs hg (fun a W hb hd _ => by
    obtain ⟨u1, u2, e, h1, h2⟩ := dep_at hd j hj hΓ
    exact ⟨u2, by simp [execOp, hop, e, Instr.extract, Result.andThen], h2⟩) hn
theorem callK (f : FuncId) (K : Know) (hs : Stable K) (hg : GOK3 Γ o)
    (h : ∀ (a : Act) (W : World), Below w0.heap.size w0 W → deps Γ a W (ons o) → (∀ t, t ∉ DS → a.eval (.tmp t) = a0.eval (.tmp t)) → ∃ args, (execOp a.eval o).run P W = .ok (.enter f args) W ∧ Calls P f args W (KP K W))
    (hn : walk3 P DS w0 a0 T (Γ ++ [(o.dst, K)]) rest) : walk3 P DS w0 a0 T Γ (o :: rest) :=
  callR3 K hs hg (fun a W hb hd hbase => by
    obtain ⟨args, h1, h2⟩ := h a W hb hd hbase
    exact ⟨f, args, h1, h2⟩) hn
end
end Rel
end Go.Proofs.YtdeapbihbhoefaaDoor

/- What a search for the loudest signal finds: plain laws. No walk. -/
namespace Go.Proofs.YtdeapbihbhoefaaDoor
open Go.RowKit

/-- outputs out of some levels that keep all limits, from a heat and some last outputs on. -/
def PathF (lk ht rc : Int) (ts ls : List Int) : Int → List Int → List Int → Prop
  | _, _, [] => True
  | h, ps, y :: ys => y ∈ ls ∧ fineF ht rc (coolF lk h + y * y) (exF ts ps y) ts (pushL ps y) = true ∧ PathF lk ht rc ts ls (coolF lk h + y * y) (pushL ps y) ys
/-- a list is found, of an energy that is at least this one. -/
def GeE (o : Option (List Int)) (e : Int) : Prop := ∃ r, o = some r ∧ e ≤ enF r
theorem updB_ge (b : Option (List Int)) (l : List Int) : GeE (updB b l) (enF l) ∧ ∀ e, GeE b e → GeE (updB b l) e := by
  unfold updB
  cases b with
  | none => exact ⟨⟨l, rfl, Int.le_refl _⟩, fun e ⟨r, h, _⟩ => by cases h⟩
  | some b' =>
    dsimp only
    split
    · rename_i h
      refine ⟨⟨l, rfl, Int.le_refl _⟩, fun e ⟨r, h1, h2⟩ => ⟨l, rfl, ?_⟩⟩
      cases h1
      omega
    · rename_i h
      exact ⟨⟨b', rfl, by omega⟩, fun e h1 => h1⟩
theorem keptK_mem {lk ht rc : Int} {ts : List Int} {s : St} {ls : List Int} : ∀ (k j : Nat), j < k → keepB lk ht rc ts s (ls.getD j 0) = true → (ls.getD j 0, nextF lk s (ls.getD j 0)) ∈ keptK lk ht rc ts s ls k
  | 0, j, h, _ => by omega
  | k + 1, j, h, hk => by
    rcases Nat.lt_or_ge j k with h1 | h1
    · simp only [keptK, List.mem_append]
      exact .inl (keptK_mem k j h1 hk)
    · obtain rfl : j = k := by omega
      rw [keptK_true hk]
      simp
theorem keptK_all {lk ht rc : Int} {ts : List Int} {s : St} {ls : List Int} {y : Int} (h : y ∈ ls) (hk : keepB lk ht rc ts s y = true) : (y, nextF lk s y) ∈ keptK lk ht rc ts s ls ls.length := by
  obtain ⟨j, hj, rfl⟩ := List.mem_iff_getElem.1 h
  have e : ls.getD j 0 = ls[j] := by rw [List.getD_eq_getElem?_getD, List.getElem?_eq_getElem hj]; rfl
  rw [← e] at hk ⊢
  exact keptK_mem _ j hj hk
theorem keptK_in {lk ht rc : Int} {ts : List Int} {s : St} {ls : List Int} : ∀ (k : Nat), k ≤ ls.length → ∀ x ∈ keptK lk ht rc ts s ls k, x.1 ∈ ls ∧ x.2 = nextF lk s x.1 ∧ keepB lk ht rc ts s x.1 = true
  | 0, _, x, hx => by simp [keptK] at hx
  | k + 1, hk, x, hx => by
    simp only [keptK, List.mem_append] at hx
    rcases hx with hx | hx
    · exact keptK_in k (by omega) x hx
    · split at hx
      · rename_i h0
        obtain rfl : x = _ := by simpa using hx
        refine ⟨?_, rfl, h0⟩
        show ls.getD k 0 ∈ ls
        rw [List.getD_eq_getElem?_getD, List.getElem?_eq_getElem (by omega)]
        exact List.getElem_mem _
      · cases hx
theorem fold_ge {α : Type} (f : Option (List Int) → α → Option (List Int)) (h : ∀ b x e, GeE b e → GeE (f b x) e) : ∀ (L : List α) (b : Option (List Int)) (e : Int), GeE b e → GeE (L.foldl f b) e
  | [], _, _, hb => hb
  | x :: L, b, e, hb => fold_ge f h L (f b x) e (h b x e hb)
theorem fold_in {α : Type} (f : Option (List Int) → α → Option (List Int)) (h : ∀ b x e, GeE b e → GeE (f b x) e) {x : α} {e : Int} (hx : ∀ b, GeE (f b x) e) : ∀ (L : List α) (b : Option (List Int)), x ∈ L → GeE (L.foldl f b) e
  | [], _, hm => by cases hm
  | a :: L, b, hm => by
    rcases List.mem_cons.1 hm with rfl | hm
    · exact fold_ge f h L _ e (hx b)
    · exact fold_in f h hx L (f b a) hm
theorem vis_ge (lk ht rc : Int) (ts ls : List Int) : ∀ (n : Nat) (l : List Int) (s : St) (b : Option (List Int)) (e : Int), GeE b e → GeE (visF lk ht rc ts ls n l s b) e
  | 0, l, s, b, e, h => (updB_ge b l).2 e h
  | n + 1, l, s, b, e, h => fold_ge _ (fun b x e hb => vis_ge lk ht rc ts ls n _ _ b e hb) _ b e h
theorem vis_path (lk ht rc : Int) (ts ls : List Int) : ∀ (ys : List Int) (l : List Int) (s : St) (b : Option (List Int)), PathF lk ht rc ts ls s.h s.ps ys → GeE (visF lk ht rc ts ls ys.length l s b) (enF (l ++ ys))
  | [], l, s, b, _ => by rw [List.append_nil]; exact (updB_ge b l).1
  | y :: ys, l, s, b, h => by
    obtain ⟨h1, h2, h3⟩ := h
    refine fold_in _ (fun b x e hb => vis_ge lk ht rc ts ls ys.length _ _ b e hb) (x := (y, nextF lk s y)) (fun b => ?_) _ b (keptK_all h1 h2)
    have := vis_path lk ht rc ts ls ys (l ++ [y]) (nextF lk s y) b h3
    rw [List.append_assoc] at this
    exact this
/-- what is found is what was best, or a list of levels that keeps all limits. -/
theorem vis_sound (lk ht rc : Int) (ts ls : List Int) (P : List Int → Prop) : ∀ (n : Nat) (l : List Int) (s : St) (b : Option (List Int)), (∀ ys, PathF lk ht rc ts ls s.h s.ps ys → ys.length = n → P (l ++ ys)) → (∀ r, b = some r → P r) → ∀ r, visF lk ht rc ts ls n l s b = some r → P r
  | 0, l, s, b, hp, hb, r, hr => by
    have h0 := hp [] trivial rfl
    rw [List.append_nil] at h0
    simp only [visF, updB] at hr
    cases b with
    | none => cases hr; exact h0
    | some b' =>
      dsimp only at hr
      split at hr
      · cases hr; exact h0
      · exact hb _ hr
  | n + 1, l, s, b, hp, hb, r, hr => by
    have key : ∀ (L : List (Int × St)), (∀ x ∈ L, x.1 ∈ ls ∧ x.2 = nextF lk s x.1 ∧ keepB lk ht rc ts s x.1 = true) → ∀ b, (∀ r, b = some r → P r) → ∀ r, L.foldl (fun b x => visF lk ht rc ts ls n (l ++ [x.1]) x.2 b) b = some r → P r := by
      intro L
      induction L with
      | nil => exact fun _ b hb r hr => hb r hr
      | cons a L ih =>
        intro hL b hb r hr
        obtain ⟨a1, a2, a3⟩ := hL a (by simp)
        refine ih (fun x hx => hL x (by simp [hx])) _ (fun r' hr' => ?_) r hr
        refine vis_sound lk ht rc ts ls P n (l ++ [a.1]) a.2 b (fun ys hys hn => ?_) hb r' hr'
        rw [List.append_assoc]
        refine hp (a.1 :: ys) ⟨a1, a3, ?_⟩ (by simp [hn])
        rw [a2] at hys
        exact hys
    exact key _ (keptK_in _ (Nat.le_refl _)) b hb r hr
theorem loud_sound {lk ht rc : Int} {ts gs ls : List Int} {n : Nat} {r : List Int} (h : loudF lk ht rc ts gs ls n = some r) : PathF lk ht rc ts ls 0 (List.replicate (ts.length - 1) 0) r ∧ r.length = n :=
  vis_sound lk ht rc ts ls (fun r => PathF lk ht rc ts ls 0 (List.replicate (ts.length - 1) 0) r ∧ r.length = n) n [] (restS ts gs) none (fun ys h1 h2 => ⟨h1, h2⟩) (fun r h => by cases h) r h
theorem loud_ge {lk ht rc : Int} {ts gs ls ys : List Int} (h : PathF lk ht rc ts ls 0 (List.replicate (ts.length - 1) 0) ys) : ∃ r, loudF lk ht rc ts gs ls ys.length = some r ∧ enF ys ≤ enF r := by
  have := vis_path lk ht rc ts ls ys [] (restS ts gs) none h
  rw [List.nil_append] at this
  exact this
theorem path_in {lk ht rc : Int} {ts ls : List Int} : ∀ {ys : List Int} {h : Int} {ps : List Int}, PathF lk ht rc ts ls h ps ys → ∀ y ∈ ys, y ∈ ls
  | [], _, _, _, y, hy => by cases hy
  | a :: ys, h, ps, ⟨h1, _, h3⟩, y, hy => by
    rcases List.mem_cons.1 hy with rfl | hy
    · exact h1
    · exact path_in h3 y hy
/-! ### Levels -/

end Go.Proofs.YtdeapbihbhoefaaDoor

/- The program's functions as contracts over what is known of their arguments, errors and all. -/
namespace Go.Proofs.YtdeapbihbhoefaaDoor
open Go.RowKit
open Calm (bcell Blk)

def begLv (E : Int) (L : Nat) : Int := if E = 0 then ((L - 1 : Nat) : Int) else 0
def begPs (E : Int) (M : Nat) : List Int := if E = 0 then List.replicate (M - 1) 0 else []
theorem cBegin {lk ht rc : Int} {ts gs : List Int} {M L N : Nat} {u : Value} {W : World} (hM : M = ts.length) (hL : L = gs.length) (h1 : M ≤ 1000) (h2 : L ≤ 1000) (hu : KG lk ht rc M ts L gs u W) (hN : N = (begPs (guardErr lk ht rc ts gs) M).length) :
    Calls Tryd.prog 16 #[u] W (KP (K2 (KTI 0 (begLv (guardErr lk ht rc ts gs) L) N (begPs (guardErr lk ht rc ts gs) M)) (KV (.int .i64 (guardErr lk ht rc ts gs)))) W) := by
  obtain ⟨A1, c1, A2, c2, rfl, hT, hG⟩ := hu
  unfold begPs begLv at *
  by_cases he : guardErr lk ht rc ts gs = 0
  · rw [if_pos he] at hN ⊢
    rw [if_pos he, he]
    rw [List.length_replicate] at hN
    subst hN
    exact (Begin_ok lk ht rc ts gs A1 A2 M L c1 c2 W hM hL hT hG h1 h2 he).mono fun e W' ⟨⟨B, _, h, hc, hi⟩, hb⟩ => ⟨_, h, ⟨_, _, rfl, ⟨_, _, rfl, hc, fun p hp => by cases hp; exact hi⟩, rfl⟩, hb⟩
  · rw [if_neg he] at hN ⊢
    rw [if_neg he]
    subst hN
    exact (Begin_bad lk ht rc ts gs A1 A2 M L c1 c2 W hM hL hT hG h1 h2 he).mono fun e W' ⟨h, hb⟩ => ⟨_, h, ⟨_, _, rfl, KTI.zero _, rfl⟩, hb⟩
/-- what Behind hands back. -/
structure BehR where
  h : Int
  lv : Int
  ps : List Int
  ex : Int
  err : Int
def behR (lk ht rc : Int) (ts gs : List Int) (h lv : Int) (ps : List Int) (y : Int) : BehR :=
  if bothErr lk ht rc ts gs h lv ps y = 0 then (if 536870912 < coolF lk h + y * y then ⟨0, 0, [], 0, 4⟩ else ⟨coolF lk h + y * y, lv, pushL ps y, exF ts ps y, 0⟩) else ⟨0, 0, [], 0, bothErr lk ht rc ts gs h lv ps y⟩
theorem cBehind {lk ht rc h lv y : Int} {ts gs ps : List Int} {M L N N2 : Nat} {u v : Value} {W : World} (hM : M = ts.length) (hL : L = gs.length) (hN : N = ps.length) (h1 : M ≤ 1000) (h2 : L ≤ 1000) (h3 : N ≤ 1000) (hLim : Lim W) (hu : KG lk ht rc M ts L gs u W) (hv : KT h lv N ps v W)
    (hN2 : N2 = (behR lk ht rc ts gs h lv ps y).ps.length) :
    Calls Tryd.prog 28 #[u, v, (.int .i64 y)] W (KP (K3 (KTI (behR lk ht rc ts gs h lv ps y).h (behR lk ht rc ts gs h lv ps y).lv N2 (behR lk ht rc ts gs h lv ps y).ps) (KV (.int .i64 ((behR lk ht rc ts gs h lv ps y).ex))) (KV (.int .i64 ((behR lk ht rc ts gs h lv ps y).err)))) W) := by
  obtain ⟨A1, c1, A2, c2, rfl, hT, hG⟩ := hu
  obtain ⟨A3, c3, rfl, hP⟩ := hv
  unfold behR at *
  by_cases he : bothErr lk ht rc ts gs h lv ps y = 0
  · rw [if_pos he] at hN2 ⊢
    by_cases hl : 536870912 < coolF lk h + y * y
    · rw [if_pos hl] at hN2 ⊢
      subst hN2
      exact (Behind_large lk ht rc h lv y ts gs ps A1 A2 A3 M L N c1 c2 c3 W hM hL hN hLim hT hG hP h1 h2 h3 he hl).mono fun e W' ⟨h, hb⟩ => ⟨_, h, ⟨_, _, _, rfl, KTI.zero _, rfl, rfl⟩, hb⟩
    · rw [if_neg hl] at hN2 ⊢
      have e : N2 = N := by rw [hN2, hN]; exact pushL_len ps y
      subst e
      exact (Behind_ok lk ht rc h lv y ts gs ps A1 A2 A3 M L N2 c1 c2 c3 W hM hL hN hLim hT hG hP h1 h2 h3 he hl).mono fun e W' ⟨⟨B, _, h, hc, hi⟩, hb⟩ => ⟨_, h, ⟨_, _, _, rfl, ⟨_, _, rfl, hc, fun p hp => by cases hp; exact hi⟩, rfl, rfl⟩, hb⟩
  · rw [if_neg he] at hN2 ⊢
    subst hN2
    exact (Behind_bad lk ht rc h lv y ts gs ps A1 A2 A3 M L N c1 c2 c3 W hM hL hN hLim hT hG hP h1 h2 h3 he).mono fun e W' ⟨h, hb⟩ => ⟨_, h, ⟨_, _, _, rfl, KTI.zero _, rfl, rfl⟩, hb⟩
/-- what Step hands back. -/
structure StepR where
  out : Int
  h : Int
  lv : Int
  ps : List Int
  err : Int
def stepR (lk ht rc : Int) (ts gs : List Int) (h lv : Int) (ps : List Int) (y : Int) : StepR :=
  if bothErr lk ht rc ts gs h lv ps y = 0 then (if fineF ht rc h 0 ts ps = true then ⟨outF lk ht rc ts gs ⟨h, lv.toNat, ps⟩ y, (stF lk ht rc ts gs ⟨h, lv.toNat, ps⟩ y).h, ((stF lk ht rc ts gs ⟨h, lv.toNat, ps⟩ y).lv : Int), (stF lk ht rc ts gs ⟨h, lv.toNat, ps⟩ y).ps, 0⟩ else ⟨0, 0, 0, [], 20⟩) else ⟨0, 0, 0, [], bothErr lk ht rc ts gs h lv ps y⟩
theorem cStep {lk ht rc h lv y : Int} {ts gs ps : List Int} {M L N N2 : Nat} {u v : Value} {W : World} (hM : M = ts.length) (hL : L = gs.length) (hN : N = ps.length) (h1 : M ≤ 1000) (h2 : L ≤ 1000) (h3 : N ≤ 1000) (hLim : Lim W) (hu : KG lk ht rc M ts L gs u W) (hv : KT h lv N ps v W)
    (hN2 : N2 = (stepR lk ht rc ts gs h lv ps y).ps.length) :
    Calls Tryd.prog 29 #[u, v, (.int .i64 y)] W (KP (K3 (KV (.int .i64 ((stepR lk ht rc ts gs h lv ps y).out))) (KTI (stepR lk ht rc ts gs h lv ps y).h (stepR lk ht rc ts gs h lv ps y).lv N2 (stepR lk ht rc ts gs h lv ps y).ps) (KV (.int .i64 ((stepR lk ht rc ts gs h lv ps y).err)))) W) := by
  obtain ⟨A1, c1, A2, c2, rfl, hT, hG⟩ := hu
  obtain ⟨A3, c3, rfl, hP⟩ := hv
  unfold stepR at *
  by_cases he : bothErr lk ht rc ts gs h lv ps y = 0
  · rw [if_pos he] at hN2 ⊢
    have hS := stErr_zero (bothErr_zero he).1
    by_cases hf : fineF ht rc h 0 ts ps = true
    · rw [if_pos hf] at hN2 ⊢
      have hlv : lv = (lv.toNat : Int) := by have := hS.lv.1; omega
      obtain ⟨k, rfl⟩ : ∃ k : Nat, lv = k := ⟨lv.toNat, hlv⟩
      rw [Int.toNat_natCast] at hN2 ⊢
      have e : N2 = N := by rw [hN2, hN]; exact pushL_len ps _
      subst e
      exact (Step_ok lk ht rc h y k ts gs ps A1 A2 A3 M L N2 c1 c2 c3 W hM hL hN hLim hT hG hP h1 h2 h3 he (fine_good hS hf)).mono fun e W' ⟨⟨B, _, h, hc, hi⟩, hb⟩ => ⟨_, h, ⟨_, _, _, rfl, rfl, ⟨_, _, rfl, hc, fun p hp => by cases hp; exact hi⟩, rfl⟩, hb⟩
    · rw [if_neg hf] at hN2 ⊢
      subst hN2
      exact (Step_unsafe lk ht rc h lv y ts gs ps A1 A2 A3 M L N c1 c2 c3 W hM hL hN hLim hT hG hP h1 h2 h3 he (by simpa using hf)).mono fun e W' ⟨h, hb⟩ => ⟨_, h, ⟨_, _, _, rfl, rfl, KTI.zero _, rfl⟩, hb⟩
  · rw [if_neg he] at hN2 ⊢
    subst hN2
    exact (Step_bad lk ht rc h lv y ts gs ps A1 A2 A3 M L N c1 c2 c3 W hM hL hN hLim hT hG hP h1 h2 h3 he).mono fun e W' ⟨h, hb⟩ => ⟨_, h, ⟨_, _, _, rfl, rfl, KTI.zero _, rfl⟩, hb⟩
def tailR (lk ht rc : Int) (ts gs : List Int) (h lv : Int) (ps : List Int) : List Int := if stErr lk ht rc ts gs h lv ps = 0 then tailsF ts ps else []
theorem cTails {lk ht rc h lv : Int} {ts gs ps : List Int} {M L N N2 : Nat} {u v : Value} {W : World} (hM : M = ts.length) (hL : L = gs.length) (hN : N = ps.length) (h1 : M ≤ 1000) (h2 : L ≤ 1000) (h3 : N ≤ 1000) (hLim : Lim W) (hu : KG lk ht rc M ts L gs u W) (hv : KT h lv N ps v W)
    (hN2 : N2 = (tailR lk ht rc ts gs h lv ps).length) :
    Calls Tryd.prog 26 #[u, v] W (KP (K2 (KS N2 (tailR lk ht rc ts gs h lv ps)) (KV (.int .i64 (stErr lk ht rc ts gs h lv ps)))) W) := by
  obtain ⟨A1, c1, A2, c2, rfl, hT, hG⟩ := hu
  obtain ⟨A3, c3, rfl, hP⟩ := hv
  unfold tailR at *
  by_cases he : stErr lk ht rc ts gs h lv ps = 0
  · rw [if_pos he] at hN2 ⊢
    rw [he]
    have e : N2 = N := by rw [hN2, hN]; exact tailsL_len _ _ _
    subst e
    exact (Tails_ok lk ht rc h lv ts gs ps A1 A2 A3 M L N2 c1 c2 c3 W hM hL hN hLim hT hG hP h1 h2 h3 he).mono fun e W' ⟨⟨B, c, h, hc⟩, hb⟩ => ⟨_, h, ⟨_, _, rfl, ⟨_, _, rfl, hc⟩, rfl⟩, hb⟩
  · rw [if_neg he] at hN2 ⊢
    subst hN2
    exact (Tails_bad lk ht rc h lv ts gs ps A1 A2 A3 M L N c1 c2 c3 W hM hL hN hLim hT hG hP h1 h2 h3 he).mono fun e W' ⟨h, hb⟩ => ⟨_, h, ⟨_, _, rfl, KS.nil _, rfl⟩, hb⟩

def safeR (lk ht rc : Int) (ts gs : List Int) (h lv : Int) (ps : List Int) : Bool := if stErr lk ht rc ts gs h lv ps = 0 then fineF ht rc h 0 ts ps else false
theorem cSafe {lk ht rc h lv : Int} {ts gs ps : List Int} {M L N : Nat} {u v : Value} {W : World} (hM : M = ts.length) (hL : L = gs.length) (hN : N = ps.length) (h1 : M ≤ 1000) (h2 : L ≤ 1000) (h3 : N ≤ 1000) (hLim : Lim W) (hu : KG lk ht rc M ts L gs u W) (hv : KT h lv N ps v W) :
    Calls Tryd.prog 27 #[u, v] W (KP (K2 (KV (.bool (safeR lk ht rc ts gs h lv ps))) (KV (.int .i64 (stErr lk ht rc ts gs h lv ps)))) W) := by
  obtain ⟨A1, c1, A2, c2, rfl, hT, hG⟩ := hu
  obtain ⟨A3, c3, rfl, hP⟩ := hv
  unfold safeR
  by_cases he : stErr lk ht rc ts gs h lv ps = 0
  · rw [if_pos he, he]
    exact (Safe_ok lk ht rc h lv ts gs ps A1 A2 A3 M L N c1 c2 c3 W hM hL hN hLim hT hG hP h1 h2 h3 he).mono fun e W' ⟨h, hb⟩ => ⟨_, h, ⟨_, _, rfl, rfl, rfl⟩, hb⟩
  · rw [if_neg he]
    exact (Safe_bad lk ht rc h lv ts gs ps A1 A2 A3 M L N c1 c2 c3 W hM hL hN hLim hT hG hP h1 h2 h3 he).mono fun e W' ⟨h, hb⟩ => ⟨_, h, ⟨_, _, rfl, rfl, rfl⟩, hb⟩
def relR (lk ht rc : Int) (ts gs : List Int) (h lv : Int) (ps : List Int) : Int × Int :=
  if stErr lk ht rc ts gs h lv ps = 0 then (if fineF ht rc h 0 ts ps = true then (((gs.length - 1 - lv.toNat : Nat) : Int), 0) else (0, 20)) else (0, stErr lk ht rc ts gs h lv ps)
theorem cRelease {lk ht rc h lv : Int} {ts gs ps : List Int} {M L N : Nat} {u v : Value} {W : World} (hM : M = ts.length) (hL : L = gs.length) (hN : N = ps.length) (h1 : M ≤ 1000) (h2 : L ≤ 1000) (h3 : N ≤ 1000) (hLim : Lim W) (hu : KG lk ht rc M ts L gs u W) (hv : KT h lv N ps v W) :
    Calls Tryd.prog 30 #[u, v] W (KP (K2 (KV (.int .i64 ((relR lk ht rc ts gs h lv ps).1))) (KV (.int .i64 ((relR lk ht rc ts gs h lv ps).2)))) W) := by
  obtain ⟨A1, c1, A2, c2, rfl, hT, hG⟩ := hu
  obtain ⟨A3, c3, rfl, hP⟩ := hv
  unfold relR
  by_cases he : stErr lk ht rc ts gs h lv ps = 0
  · rw [if_pos he]
    have hS := stErr_zero he
    by_cases hf : fineF ht rc h 0 ts ps = true
    · rw [if_pos hf]
      have hlv : lv = (lv.toNat : Int) := by have := hS.lv.1; omega
      obtain ⟨k, rfl⟩ : ∃ k : Nat, lv = k := ⟨lv.toNat, hlv⟩
      rw [Int.toNat_natCast, ← hL]
      exact (Release_ok lk ht rc h k ts gs ps A1 A2 A3 M L N c1 c2 c3 W hM hL hN hLim hT hG hP h1 h2 h3 he (fine_good hS hf)).mono fun e W' ⟨h, hb⟩ => ⟨_, h, ⟨_, _, rfl, rfl, rfl⟩, hb⟩
    · rw [if_neg hf]
      exact (Release_unsafe lk ht rc h lv ts gs ps A1 A2 A3 M L N c1 c2 c3 W hM hL hN hLim hT hG hP h1 h2 h3 he (by simpa using hf)).mono fun e W' ⟨h, hb⟩ => ⟨_, h, ⟨_, _, rfl, rfl, rfl⟩, hb⟩
  · rw [if_neg he]
    exact (Release_bad lk ht rc h lv ts gs ps A1 A2 A3 M L N c1 c2 c3 W hM hL hN hLim hT hG hP h1 h2 h3 he).mono fun e W' ⟨h, hb⟩ => ⟨_, h, ⟨_, _, rfl, rfl, rfl⟩, hb⟩
def runR (lk ht rc : Int) (ts gs xs : List Int) : List Int := if runErr lk ht rc ts gs xs = 0 then outsK lk ht rc ts gs xs xs.length else []
def lvsR (lk ht rc : Int) (ts gs xs : List Int) : List Int := if runErr lk ht rc ts gs xs = 0 then lvsK lk ht rc ts gs xs xs.length else []
theorem cRun {lk ht rc : Int} {ts gs xs : List Int} {M L N N2 : Nat} {u v : Value} {W : World} (hM : M = ts.length) (hL : L = gs.length) (hN : N = xs.length) (h1 : M ≤ 1000) (h2 : L ≤ 1000) (h3 : N ≤ 5000) (hLim : Lim W) (hu : KG lk ht rc M ts L gs u W) (hv : KS N xs v W)
    (hN2 : N2 = (runR lk ht rc ts gs xs).length) :
    Calls Tryd.prog 40 #[u, v] W (KP (K2 (KS N2 (runR lk ht rc ts gs xs)) (KV (.int .i64 (runErr lk ht rc ts gs xs)))) W) := by
  obtain ⟨A1, c1, A2, c2, rfl, hT, hG⟩ := hu
  obtain ⟨A3, c3, rfl, hX⟩ := hv
  unfold runR at *
  by_cases he : runErr lk ht rc ts gs xs = 0
  · rw [if_pos he] at hN2 ⊢
    rw [he]
    have hz := runErr_zero he
    subst hM hL hN
    have e : N2 = xs.length := by rw [hN2]; exact outsK_len _ _ _ _ _ _ _
    subst e
    exact (run_ok lk ht rc ts gs xs A1 A2 A3 c1 c2 c3 W hLim (guard_valid hz.1) hT hG hX (sigErr_in hz.2) (by omega) (by omega) h3 he).mono fun e W' ⟨⟨B, d, h, hc⟩, hb⟩ => ⟨_, h, ⟨_, _, rfl, ⟨_, _, rfl, hc⟩, rfl⟩, hb⟩
  · rw [if_neg he] at hN2 ⊢
    subst hM hL hN hN2
    exact (Run_bad lk ht rc ts gs xs A1 A2 A3 c1 c2 c3 W hT hG hX (by omega) (by omega) h3 he).mono fun e W' ⟨h, hb⟩ => ⟨_, h, ⟨_, _, rfl, KS.nil _, rfl⟩, hb⟩
theorem cLevels {lk ht rc : Int} {ts gs xs : List Int} {M L N N2 : Nat} {u v : Value} {W : World} (hM : M = ts.length) (hL : L = gs.length) (hN : N = xs.length) (h1 : M ≤ 1000) (h2 : L ≤ 1000) (h3 : N ≤ 5000) (hLim : Lim W) (hu : KG lk ht rc M ts L gs u W) (hv : KS N xs v W)
    (hN2 : N2 = (lvsR lk ht rc ts gs xs).length) :
    Calls Tryd.prog 42 #[u, v] W (KP (K2 (KS N2 (lvsR lk ht rc ts gs xs)) (KV (.int .i64 (runErr lk ht rc ts gs xs)))) W) := by
  obtain ⟨A1, c1, A2, c2, rfl, hT, hG⟩ := hu
  obtain ⟨A3, c3, rfl, hX⟩ := hv
  unfold lvsR at *
  by_cases he : runErr lk ht rc ts gs xs = 0
  · rw [if_pos he] at hN2 ⊢
    rw [he]
    have hz := runErr_zero he
    subst hM hL hN
    have e : N2 = xs.length := by rw [hN2]; exact lvsK_len _ _ _ _ _ _ _
    subst e
    exact (levels_ok lk ht rc ts gs xs A1 A2 A3 c1 c2 c3 W hLim (guard_valid hz.1) hT hG hX (sigErr_in hz.2) (by omega) (by omega) h3 he).mono fun e W' ⟨⟨B, d, h, hc⟩, hb⟩ => ⟨_, h, ⟨_, _, rfl, ⟨_, _, rfl, hc⟩, rfl⟩, hb⟩
  · rw [if_neg he] at hN2 ⊢
    subst hM hL hN hN2
    exact (Levels_bad lk ht rc ts gs xs A1 A2 A3 c1 c2 c3 W hT hG hX (by omega) (by omega) h3 he).mono fun e W' ⟨h, hb⟩ => ⟨_, h, ⟨_, _, rfl, KS.nil _, rfl⟩, hb⟩
def pkHR (lk ht rc : Int) (ts gs xs : List Int) : Int := if runErr lk ht rc ts gs xs = 0 then pkH lk xs xs.length else 0
def pkXR (lk ht rc : Int) (ts gs xs : List Int) : Int := if runErr lk ht rc ts gs xs = 0 then pkX ts xs xs.length else 0
theorem cPeaks {lk ht rc : Int} {ts gs xs : List Int} {M L N : Nat} {u v : Value} {W : World} (hM : M = ts.length) (hL : L = gs.length) (hN : N = xs.length) (h1 : M ≤ 1000) (h2 : L ≤ 1000) (h3 : N ≤ 5000) (hu : KG lk ht rc M ts L gs u W) (hv : KS N xs v W) :
    Calls Tryd.prog 43 #[u, v] W (KP (K2 (KV (.agg #[(.int .i64 (pkHR lk ht rc ts gs xs)), (.int .i64 (pkXR lk ht rc ts gs xs))])) (KV (.int .i64 (runErr lk ht rc ts gs xs)))) W) := by
  obtain ⟨A1, c1, A2, c2, rfl, hT, hG⟩ := hu
  obtain ⟨A3, c3, rfl, hX⟩ := hv
  unfold pkHR pkXR
  subst hM hL hN
  by_cases he : runErr lk ht rc ts gs xs = 0
  · rw [if_pos he, if_pos he, he]
    have hz := runErr_zero he
    exact (peaks_ok lk ht rc ts gs xs A1 A2 A3 c1 c2 c3 W (guard_valid hz.1) hT hG hX (sigErr_in hz.2) (by omega) (by omega) h3 he).mono fun e W' ⟨h, hb⟩ => ⟨_, h, ⟨_, _, rfl, rfl, rfl⟩, hb⟩
  · rw [if_neg he, if_neg he]
    exact (Peaks_bad lk ht rc ts gs xs A1 A2 A3 c1 c2 c3 W hT hG hX (by omega) (by omega) h3 he).mono fun e W' ⟨h, hb⟩ => ⟨_, h, ⟨_, _, rfl, rfl, rfl⟩, hb⟩
def stdR (lk ht rc : Int) (ts gs : List Int) : Int := if guardErr lk ht rc ts gs = 0 then (stdF lk ht : Int) else 0
def quiR (lk ht rc : Int) (ts gs : List Int) : Int := if guardErr lk ht rc ts gs = 0 then quietF lk ht rc ts else 0
theorem cSteady {lk ht rc : Int} {ts gs : List Int} {M L : Nat} {u : Value} {W : World} (hM : M = ts.length) (hL : L = gs.length) (h1 : M ≤ 1000) (h2 : L ≤ 1000) (hu : KG lk ht rc M ts L gs u W) :
    Calls Tryd.prog 48 #[u] W (KP (K2 (KV (.int .i64 (stdR lk ht rc ts gs))) (KV (.int .i64 (guardErr lk ht rc ts gs)))) W) := by
  obtain ⟨A1, c1, A2, c2, rfl, hT, hG⟩ := hu
  exact (Steady_any lk ht rc ts gs A1 A2 M L c1 c2 W hM hL hT hG h1 h2).mono fun e W' ⟨h, hb⟩ => ⟨_, h, ⟨_, _, rfl, rfl, rfl⟩, hb⟩
theorem cQuiet {lk ht rc : Int} {ts gs : List Int} {M L : Nat} {u : Value} {W : World} (hM : M = ts.length) (hL : L = gs.length) (h1 : M ≤ 1000) (h2 : L ≤ 1000) (hu : KG lk ht rc M ts L gs u W) :
    Calls Tryd.prog 49 #[u] W (KP (K2 (KV (.int .i64 (quiR lk ht rc ts gs))) (KV (.int .i64 (guardErr lk ht rc ts gs)))) W) := by
  obtain ⟨A1, c1, A2, c2, rfl, hT, hG⟩ := hu
  exact (Quiet_any lk ht rc ts gs A1 A2 M L c1 c2 W hM hL hT hG h1 h2).mono fun e W' ⟨h, hb⟩ => ⟨_, h, ⟨_, _, rfl, rfl, rfl⟩, hb⟩
theorem cCool {lk ht rc a b : Int} {ts gs : List Int} {M L : Nat} {u : Value} {W : World} (hM : M = ts.length) (hL : L = gs.length) (h1 : M ≤ 1000) (h2 : L ≤ 1000) (hu : KG lk ht rc M ts L gs u W) :
    Calls Tryd.prog 50 #[u, (.int .i64 a), (.int .i64 b)] W (KP (K2 (KV (.int .i64 ((coolE lk ht rc ts gs a b).1))) (KV (.int .i64 ((coolE lk ht rc ts gs a b).2)))) W) := by
  obtain ⟨A1, c1, A2, c2, rfl, hT, hG⟩ := hu
  exact (Cool_any lk ht rc a b ts gs A1 A2 M L c1 c2 W hM hL hT hG h1 h2).mono fun e W' ⟨h, hb⟩ => ⟨_, h, ⟨_, _, rfl, rfl, rfl⟩, hb⟩
def enR (xs : List Int) : Int := if sigErr xs = 0 then enF xs else 0
theorem cEnergy {xs : List Int} {N : Nat} {v : Value} {W : World} (hN : N = xs.length) (h3 : N ≤ 5000) (hv : KS N xs v W) :
    Calls Tryd.prog 56 #[v] W (KP (K2 (KV (.int .i64 (enR xs))) (KV (.int .i64 (sigErr xs)))) W) := by
  obtain ⟨A3, c3, rfl, hX⟩ := hv
  subst hN
  exact (Energy_any xs A3 c3 W hX h3 (fun e => sigErr_in e)).mono fun e W' ⟨h, hb⟩ => ⟨_, h, ⟨_, _, rfl, rfl, rfl⟩, hb⟩
def loudR (lk ht rc : Int) (ts gs ls : List Int) (n : Int) : List Int := if loudErr lk ht rc ts gs ls n = 0 then (loudF lk ht rc ts gs ls n.toNat).getD [] else []
def loudE (lk ht rc : Int) (ts gs ls : List Int) (n : Int) : Int := if loudErr lk ht rc ts gs ls n = 0 then (if (loudF lk ht rc ts gs ls n.toNat).isSome then 0 else 24) else loudErr lk ht rc ts gs ls n
theorem loudErr_zero {lk ht rc n : Int} {ts gs ls : List Int} (e : loudErr lk ht rc ts gs ls n = 0) : guardErr lk ht rc ts gs = 0 ∧ (1 ≤ ls.length ∧ ls.length ≤ 6) ∧ ascErr ls (-2048) 2048 = 0 ∧ 0 ≤ n ∧ n ≤ 6 := by
  have h := firstOf_eq_zero.1 e
  have h1 := h (someErr ls.length 6) (by simp)
  have h2 := rangeErr_zero.1 (h (rangeErr n 0 6) (by simp))
  refine ⟨h _ (by simp), ?_, h (ascErr ls (-2048) 2048) (by simp), h2⟩
  unfold someErr at h1
  have h3 := firstOf_eq_zero.1 h1
  have h4 := h3 (if (ls.length : Int) = 0 then 12 else 0) (by simp)
  have h5 := h3 (if (6 : Int) < (ls.length : Int) then 5 else 0) (by simp)
  split at h4
  · omega
  · split at h5 <;> omega
theorem ascErr_in {l : List Int} {lo hi : Int} (e : ascErr l lo hi = 0) : ∀ x ∈ l, lo ≤ x ∧ x ≤ hi := by
  intro x hx
  obtain ⟨k, hk, rfl⟩ := List.mem_iff_getElem.1 hx
  have h1 := firstOf_eq_zero.1 e (ascAt l lo hi k) (List.mem_map.2 ⟨k, List.mem_range.2 hk, rfl⟩)
  have h2 := firstOf_eq_zero.1 h1 (rangeErr (l.getD k 0) lo hi) (by simp)
  have h3 := rangeErr_zero.1 h2
  rw [List.getD_eq_getElem?_getD, List.getElem?_eq_getElem hk] at h3
  exact h3
theorem cLoudest {lk ht rc n : Int} {ts gs ls : List Int} {M L N N2 : Nat} {u v : Value} {W : World} (hM : M = ts.length) (hL : L = gs.length) (hN : N = ls.length) (h1 : M ≤ 1000) (h2 : L ≤ 1000) (h3 : N ≤ 1000) (hLim : Lim W) (hu : KG lk ht rc M ts L gs u W) (hv : KS N ls v W)
    (hN2 : N2 = (loudR lk ht rc ts gs ls n).length) :
    Calls Tryd.prog 55 #[u, v, (.int .i64 n)] W (KP (K2 (KS N2 (loudR lk ht rc ts gs ls n)) (KV (.int .i64 (loudE lk ht rc ts gs ls n)))) W) := by
  obtain ⟨A1, c1, A2, c2, rfl, hT, hG⟩ := hu
  obtain ⟨A3, c3, rfl, hX⟩ := hv
  unfold loudR loudE at *
  by_cases he : loudErr lk ht rc ts gs ls n = 0
  · rw [if_pos he] at hN2 ⊢
    rw [if_pos he]
    obtain ⟨g1, g2, g3, g4, g5⟩ := loudErr_zero he
    obtain ⟨k, rfl⟩ : ∃ k : Nat, n = k := ⟨n.toNat, by omega⟩
    rw [Int.toNat_natCast] at hN2 ⊢
    subst hN2
    exact (Loudest_ok lk ht rc k ts gs ls A1 A2 A3 c1 c2 c3 M L N W hM hL hN hLim (guard_valid g1) hT hG hX (by omega) (by omega) (ascErr_in g3) he).mono fun e W' ⟨⟨B, d, h, hc⟩, hb⟩ => ⟨_, h, ⟨_, _, rfl, ⟨_, _, rfl, hc⟩, rfl⟩, hb⟩
  · rw [if_neg he] at hN2 ⊢
    rw [if_neg he]
    subst hN2
    exact (Loudest_bad lk ht rc n ts gs ls A1 A2 A3 c1 c2 c3 M L N W hM hL hN hT hG hX (by omega) (by omega) (by omega) he).mono fun e W' ⟨h, hb⟩ => ⟨_, h, ⟨_, _, rfl, KS.nil _, rfl⟩, hb⟩
def textR (lk ht rc : Int) (ts gs : List Int) : List UInt8 := if guardErr lk ht rc ts gs = 0 then textG lk ht rc ts gs else []
theorem cPrint {lk ht rc : Int} {ts gs : List Int} {M L : Nat} {u : Value} {W : World} (hM : M = ts.length) (hL : L = gs.length) (h1 : M ≤ 1000) (h2 : L ≤ 1000) (hTab : PTab W) (hu : KG lk ht rc M ts L gs u W) :
    Calls Tryd.prog 68 #[u] W (KP (K2 (KV (.string ⟨(textR lk ht rc ts gs).toArray⟩)) (KV (.int .i64 (guardErr lk ht rc ts gs)))) W) := by
  obtain ⟨A1, c1, A2, c2, rfl, hT, hG⟩ := hu
  unfold textR
  by_cases he : guardErr lk ht rc ts gs = 0
  · rw [if_pos he, he]
    exact (Print_ok lk ht rc ts gs A1 A2 M L c1 c2 W hM hL hTab hT hG h1 h2 he).mono fun e W' ⟨h, hb⟩ => ⟨_, h, ⟨_, _, rfl, rfl, rfl⟩, hb⟩
  · rw [if_neg he]
    exact (Print_bad lk ht rc ts gs A1 A2 M L c1 c2 W hM hL hT hG h1 h2 he).mono fun e W' ⟨h, hb⟩ => ⟨_, h, ⟨_, _, rfl, rfl, rfl⟩, hb⟩
end Go.Proofs.YtdeapbihbhoefaaDoor
