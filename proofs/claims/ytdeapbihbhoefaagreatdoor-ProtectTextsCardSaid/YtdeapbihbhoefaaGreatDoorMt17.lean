/- Part 17 of the texts of the claim: Y13, Kn, StR, Opz. -/
import Derived.Test.YtdeapbihbhoefaaGreatDoorMt16
import Derived.Test.YtdeapbihbhoefaaGreatDoorMt5
import Derived.Test.YtdeapbihbhoefaaGreatDoorMt9
import Derived.Laws.Rows

/- Contract of Print: a guard's words, joined. -/
namespace Go.Proofs.YtdeapbihbhoefaaGreatDoor
open Go.RowKit
open Calm (bcell Blk)

theorem row_some {w : World} {base : Nat} {e : TypeId} {size : Nat} {v : Value} {n : Nat} {xs : List Value} (h : w.ownsRow base e size v n xs) (hn : 0 < n) : ∃ g c, v = .slice (some ⟨g, 0, none⟩) n c ∧ base ≤ g ∧ g < w.heap.size ∧ n ≤ c := by
  rcases h.2 with ⟨_, h1⟩ | ⟨g, cap, cur, rfl, h2, h3, h4, _⟩
  · omega
  · exact ⟨g, cap, rfl, h2, (Array.getElem?_eq_some_iff.1 h3).1, h4⟩
theorem name_list {P : Program} {ops : Array Oper} {Q : Exit → Act → World → Prop} {rest : List Oper} {a : Act} {W : World} (h : ∀ w2, w2 = W → wpList P ops Q rest a w2) : wpList P ops Q rest a W := h _ rfl
theorem name_calls {P : Program} {f : FuncId} {args : Array Value} {W : World} {R : Ending → World → Prop} (h : ∀ w2, w2 = W → Calls P f args w2 R) : Calls P f args W R := h _ rfl
def guardW : List UInt8 := [103, 117, 97, 114, 100]
def tapsW : List UInt8 := [116, 97, 112, 115]
def gainsW : List UInt8 := [103, 97, 105, 110, 115]
/-- the words of a guard's text. -/
def wordsG (lk ht rc : Int) (ts gs : List Int) : List (List UInt8) := [guardW, Lib.itoa lk, Lib.itoa ht, Lib.itoa rc, tapsW] ++ ts.map Lib.itoa ++ [gainsW] ++ gs.map Lib.itoa
def textG (lk ht rc : Int) (ts gs : List Int) : List UInt8 := Lib.join (wordsG lk ht rc ts gs) [32]
theorem inW_of {b : Int} {l : List Int} (h : inB b l) (h0 : 0 ≤ b) (hb : b ≤ 1000000000) : inW l := fun k => by have := inB_get h h0 k; omega
theorem lens_le {xs : List (List UInt8)} {n : Nat} (h : ∀ x ∈ xs, x.length ≤ n) : Lib.lens xs ≤ n * xs.length := by
  induction xs with
  | nil => simp [Lib.lens]
  | cons x xs ih =>
    have h1 := ih (fun y hy => h y (by simp [hy]))
    have h2 := h x (by simp)
    have e : Lib.lens (x :: xs) = x.length + Lib.lens xs := by simp [Lib.lens]
    rw [e, List.length_cons, Nat.mul_add]
    omega
theorem textG_len {lk ht rc : Int} {ts gs : List Int} (h1 : inW ts) (h2 : inW gs) (h3 : inW [lk, ht, rc]) (h4 : ts.length ≤ 1000) (h5 : gs.length ≤ 1000) : (textG lk ht rc ts gs).length ≤ 1000000 := by
  have e : textG lk ht rc ts gs = Lib.join (guardW :: ([Lib.itoa lk, Lib.itoa ht, Lib.itoa rc, tapsW] ++ ts.map Lib.itoa ++ [gainsW] ++ gs.map Lib.itoa)) [32] := rfl
  rw [e, Lib.join_length]
  have hw : ∀ x ∈ wordsG lk ht rc ts gs, x.length ≤ 21 := by
    have hi : ∀ (l : List Int), inW l → ∀ x ∈ l.map Lib.itoa, x.length ≤ 21 := by
      intro l hl x hx
      obtain ⟨n, hn, rfl⟩ := List.mem_map.1 hx
      obtain ⟨k, hk, rfl⟩ := List.mem_iff_getElem.1 hn
      have := hl k
      rw [List.getD_eq_getElem?_getD, List.getElem?_eq_getElem hk] at this
      exact Lib.itoa_length_le _ this.1 this.2
    have h3' := hi _ h3
    intro x hx
    unfold wordsG at hx
    simp only [List.mem_append, List.mem_cons, List.not_mem_nil, or_false] at hx
    rcases hx with (((rfl | rfl | rfl | rfl | rfl) | hx) | rfl) | hx
    · decide
    · exact h3' _ (by simp)
    · exact h3' _ (by simp)
    · exact h3' _ (by simp)
    · decide
    · exact hi _ h1 x hx
    · decide
    · exact hi _ h2 x hx
  have := lens_le hw
  have e2 : (wordsG lk ht rc ts gs).length = 6 + ts.length + gs.length := by unfold wordsG; simp; omega
  rw [e2] at this
  have e3 : wordsG lk ht rc ts gs = guardW :: ([Lib.itoa lk, Lib.itoa ht, Lib.itoa rc, tapsW] ++ ts.map Lib.itoa ++ [gainsW] ++ gs.map Lib.itoa) := rfl
  rw [e3] at this
  simp at this ⊢
  omega
theorem Print_bad (lk ht rc : Int) (ts gs : List Int) (A1 A2 : Option Addr) (M L c1 c2 : Nat) (w : World) (hM : M = ts.length) (hL : L = gs.length) (hT : Cells w A1 ts) (hG : Cells w A2 gs) (h1 : M ≤ 1000) (h2 : L ≤ 1000) (he : guardErr lk ht rc ts gs ≠ 0) :
    Calls Tryz.prog 7 #[.agg #[(.int .i64 lk), (.int .i64 ht), .slice A1 M c1, (.int .i64 rc), .slice A2 L c2]] w fun r w' => r = .returned (.tuple #[.string ⟨#[]⟩, (.int .i64 (guardErr lk ht rc ts gs))]) ∧ Below w.heap.size w w' := by
  have HCG : Hid (∀ W, Cells W A1 ts → Cells W A2 gs → Calls Tryz.prog 35 #[.agg #[(.int .i64 lk), (.int .i64 ht), .slice A1 M c1, (.int .i64 rc), .slice A2 L c2]] W fun r w' => r = .returned (.int .i64 (guardErr lk ht rc ts gs)) ∧ Below W.heap.size W w') := Lib.hid (fun W q1 q2 => by rw [hM, hL]; exact checkGuard_any lk ht rc ts gs A1 A2 c1 c2 W q1 q2 (by omega) (by omega))
  have HT := Lib.hid hT
  have HG := Lib.hid hG
  obtain ⟨E, hE⟩ : ∃ E, E = guardErr lk ht rc ts gs := ⟨_, rfl⟩
  rw [← hE] at HCG he ⊢
  clear hM hL hT hG hE
  go_enter Tryz.func7, Tryz.ntmps7
  go_wp2_with (go_at_call 35; refine (HCG.out _ (HT.out.below (by (repeat (first | (with_reducible exact Below.refl _ _) | ((with_reducible refine Below.setCell ?_ ?_ _); rotate_left 1; focus (first | (simp; done) | (simp; omega) | (simp at *; omega))) | ((with_reducible refine Below.alloc ?_ ?_ _); rotate_left 1; focus (first | (simp; done) | (simp; omega) | (simp at *; omega))) | (with_reducible refine Below.drew ?_) | ((with_reducible refine Calm.step (by assumption) ?_ ?_); rotate_left 1; focus (first | (simp; done) | (simp; omega) | (simp at *; omega))))))) (HG.out.below (by (repeat (first | (with_reducible exact Below.refl _ _) | ((with_reducible refine Below.setCell ?_ ?_ _); rotate_left 1; focus (first | (simp; done) | (simp; omega) | (simp at *; omega))) | ((with_reducible refine Below.alloc ?_ ?_ _); rotate_left 1; focus (first | (simp; done) | (simp; omega) | (simp at *; omega))) | (with_reducible refine Below.drew ?_) | ((with_reducible refine Calm.step (by assumption) ?_ ?_); rotate_left 1; focus (first | (simp; done) | (simp; omega) | (simp at *; omega)))))))).mono ?_; rintro r w1 ⟨rfl, hb1⟩; have HB1 := Lib.hid (show Below w.heap.size w w1 from Below.trans (by (repeat (first | (with_reducible exact Below.refl _ _) | ((with_reducible refine Below.setCell ?_ ?_ _); rotate_left 1; focus (first | (simp; done) | (simp; omega) | (simp at *; omega))) | ((with_reducible refine Below.alloc ?_ ?_ _); rotate_left 1; focus (first | (simp; done) | (simp; omega) | (simp at *; omega))) | (with_reducible refine Below.drew ?_) | ((with_reducible refine Calm.step (by assumption) ?_ ?_); rotate_left 1; focus (first | (simp; done) | (simp; omega) | (simp at *; omega)))))) (hb1.mono (by simp; try omega))); clear hb1)
  go_ret2
  exact ⟨rfl, HB1.out⟩

set_option maxRecDepth 100000 in
set_option maxHeartbeats 2000000 in
theorem Print_ok (lk ht rc : Int) (ts gs : List Int) (A1 A2 : Option Addr) (M L c1 c2 : Nat) (w : World) (hM : M = ts.length) (hL : L = gs.length) (hTab : PTab w) (hT : Cells w A1 ts) (hG : Cells w A2 gs) (h1 : M ≤ 1000) (h2 : L ≤ 1000) (he : guardErr lk ht rc ts gs = 0) :
    Calls Tryz.prog 7 #[.agg #[(.int .i64 lk), (.int .i64 ht), .slice A1 M c1, (.int .i64 rc), .slice A2 L c2]] w fun r w' => r = .returned (.tuple #[.string ⟨(textG lk ht rc ts gs).toArray⟩, (.int .i64 0)]) ∧ Below w.heap.size w w' := by
  obtain ⟨i0, hii, hz0, hz1, hz2⟩ := info_parts Tryz.infoS
  have hV := guard_valid he
  have vlk := hV.lk
  have vht := hV.ht
  have vrc := hV.rc
  have vts := hV.tl
  have vgs := hV.gl
  have hWT := inW_of hV.tb (by omega) (by omega)
  have hWG : inW gs := fun k => by have := hV.gb k; omega
  have hW3 : inW [lk, ht, rc] := fun k => by
    match k with
    | 0 => simp; omega
    | 1 => simp; omega
    | 2 => simp; omega
    | k + 3 => simp
  have HLEN := Lib.hid (textG_len hWT hWG hW3 (by omega) (by omega))
  have HCG : Hid (∀ W, Cells W A1 ts → Cells W A2 gs → Calls Tryz.prog 35 #[.agg #[(.int .i64 lk), (.int .i64 ht), .slice A1 M c1, (.int .i64 rc), .slice A2 L c2]] W fun r w' => r = .returned (.int .i64 0) ∧ Below W.heap.size W w') := Lib.hid (fun W q1 q2 => by
    have := checkGuard_any lk ht rc ts gs A1 A2 c1 c2 W q1 q2 (by omega) (by omega)
    rwa [← hM, ← hL, he] at this)
  have HM1 : Hid (∀ W, PTab W → Cells W A1 ts → Calls Tryz.prog 37 #[.slice A1 M c1, .func (.func 36) #[] #[]] W fun r w' => (∃ v, r = .returned v ∧ w'.ownsRow W.heap.size 9 1 v M (ts.map fun n => sv (Lib.itoa n))) ∧ Below W.heap.size W w') := Lib.hid (fun W q1 q2 => mappedS_any A1 ts M c1 W hM q1 q2 (by omega) hWT)
  have HM2 : Hid (∀ W, PTab W → Cells W A2 gs → Calls Tryz.prog 37 #[.slice A2 L c2, .func (.func 36) #[] #[]] W fun r w' => (∃ v, r = .returned v ∧ w'.ownsRow W.heap.size 9 1 v L (gs.map fun n => sv (Lib.itoa n))) ∧ Below W.heap.size W w') := Lib.hid (fun W q1 q2 => mappedS_any A2 gs L c2 W hL q1 q2 (by omega) hWG)
  obtain ⟨S1, hS1⟩ : ∃ S : ByteArray, S = ⟨(Lib.itoa lk).toArray⟩ := ⟨_, rfl⟩
  obtain ⟨S2, hS2⟩ : ∃ S : ByteArray, S = ⟨(Lib.itoa ht).toArray⟩ := ⟨_, rfl⟩
  obtain ⟨S3, hS3⟩ : ∃ S : ByteArray, S = ⟨(Lib.itoa rc).toArray⟩ := ⟨_, rfl⟩
  have HI1 : Hid (∀ W, PTab W → Calls Tryz.prog 36 #[(.int .i64 lk)] W fun r w' => r = .returned (.string S1) ∧ Below W.heap.size W w') := Lib.hid (fun W q => by rw [hS1]; exact itoa_any lk W q (by omega) (by omega))
  have HI2 : Hid (∀ W, PTab W → Calls Tryz.prog 36 #[(.int .i64 ht)] W fun r w' => r = .returned (.string S2) ∧ Below W.heap.size W w') := Lib.hid (fun W q => by rw [hS2]; exact itoa_any ht W q (by omega) (by omega))
  have HI3 : Hid (∀ W, PTab W → Calls Tryz.prog 36 #[(.int .i64 rc)] W fun r w' => r = .returned (.string S3) ∧ Below W.heap.size W w') := Lib.hid (fun W q => by rw [hS3]; exact itoa_any rc W q (by omega) (by omega))
  have HE1 := Lib.hid hS1
  have HE2 := Lib.hid hS2
  have HE3 := Lib.hid hS3
  have HM := Lib.hid hM
  have HL := Lib.hid hL
  have HT := Lib.hid hT
  have HG := Lib.hid hG
  have HTab := Lib.hid hTab
  have hM1 : 1 ≤ M := by omega
  have hL1 : 1 ≤ L := by omega
  clear hS1 hS2 hS3 hM hL hT hG hTab he hV vlk vht vrc vts vgs hWT hWG hW3
  go_enter Tryz.func7, Tryz.ntmps7
  go_wp2_with (go_at_call 35; refine (HCG.out _ (HT.out.below (by (repeat (first | (with_reducible exact Below.refl _ _) | ((with_reducible refine Below.setCell ?_ ?_ _); rotate_left 1; focus (first | (simp; done) | (simp; omega) | (simp at *; omega))) | ((with_reducible refine Below.alloc ?_ ?_ _); rotate_left 1; focus (first | (simp; done) | (simp; omega) | (simp at *; omega))) | (with_reducible refine Below.drew ?_) | ((with_reducible refine Calm.step (by assumption) ?_ ?_); rotate_left 1; focus (first | (simp; done) | (simp; omega) | (simp at *; omega))))))) (HG.out.below (by (repeat (first | (with_reducible exact Below.refl _ _) | ((with_reducible refine Below.setCell ?_ ?_ _); rotate_left 1; focus (first | (simp; done) | (simp; omega) | (simp at *; omega))) | ((with_reducible refine Below.alloc ?_ ?_ _); rotate_left 1; focus (first | (simp; done) | (simp; omega) | (simp at *; omega))) | (with_reducible refine Below.drew ?_) | ((with_reducible refine Calm.step (by assumption) ?_ ?_); rotate_left 1; focus (first | (simp; done) | (simp; omega) | (simp at *; omega)))))))).mono ?_; rintro r w1 ⟨rfl, hb1⟩; have HB1 := Lib.hid (show Below w.heap.size w w1 from Below.trans (by (repeat (first | (with_reducible exact Below.refl _ _) | ((with_reducible refine Below.setCell ?_ ?_ _); rotate_left 1; focus (first | (simp; done) | (simp; omega) | (simp at *; omega))) | ((with_reducible refine Below.alloc ?_ ?_ _); rotate_left 1; focus (first | (simp; done) | (simp; omega) | (simp at *; omega))) | (with_reducible refine Below.drew ?_) | ((with_reducible refine Calm.step (by assumption) ?_ ?_); rotate_left 1; focus (first | (simp; done) | (simp; omega) | (simp at *; omega)))))) (hb1.mono (by simp; try omega))); have G1 := Lib.hid (show Blk w1 w.heap.size #[(.int .i64 lk), (.int .i64 ht), .slice A1 M c1, (.int .i64 rc), .slice A2 L c2] from Blk.below (by (repeat (first | ((with_reducible refine Blk.at_ ?_); focus (first | rfl | (simp; done) | (simp; omega))) | (with_reducible refine Blk.alloc ?_ _) | (with_reducible refine Blk.below ?_ (by with_reducible assumption)) | (with_reducible refine Blk.drew ?_)))) hb1); obtain ⟨g0, g1, g2, g3, g4, gl, gf⟩ := G1.out.o5; clear hb1)
  refine Rel.region3 9 (by kernel_rfl) (by kernel_rfl) (by kernel_rfl) ?_
  simp only [List.take_succ_cons, List.take_zero, List.drop_succ_cons, List.drop_zero, List.filterMap_cons, List.filterMap_nil]
  iterate 2 (apply Rel.op3; (focus (first | exact Rel.gno rfl | exact Rel.gyes _ true _ rfl rfl rfl | exact Rel.gyes _ false _ rfl rfl rfl)); (focus (intro a W hb hd hbase; obtain ⟨hc, hf⟩ := bcell hb; clear hb hf; simp [Rel.deps, Rel.dep1, Rel.ons, Region.binds, Act.eval] at hd; simp only [Act.eval, List.mem_cons, List.not_mem_nil, not_or, and_imp, or_false, Array.getD_eq_getD_getElem?] at hbase; go_simp; (try go_bits); (try rfl); done)); (try simp only [List.nil_append, List.cons_append]))
  (apply Rel.call3; (focus (first | exact Rel.gno rfl | exact Rel.gyes _ true _ rfl rfl rfl | exact Rel.gyes _ false _ rfl rfl rfl)); (focus (intro a W hb hd hbase; obtain ⟨hc, hf⟩ := bcell hb; clear hb hf; simp [Rel.deps, Rel.dep1, Rel.ons, Region.binds, Act.eval] at hd; simp only [Act.eval, List.mem_cons, List.not_mem_nil, not_or, and_imp, or_false, Array.getD_eq_getD_getElem?] at hbase; go_simp; refine ⟨?_, ?_⟩; rfl; rfl)); (focus (intro W hb; go_at_call 36; exact HI1.out _ (HTab.out.below (HB1.out.trans (hb.mono HB1.out.size))))); (try simp only [List.nil_append, List.cons_append]))
  iterate 2 (apply Rel.op3; (focus (first | exact Rel.gno rfl | exact Rel.gyes _ true _ rfl rfl rfl | exact Rel.gyes _ false _ rfl rfl rfl)); (focus (intro a W hb hd hbase; obtain ⟨hc, hf⟩ := bcell hb; clear hb hf; simp [Rel.deps, Rel.dep1, Rel.ons, Region.binds, Act.eval] at hd; simp only [Act.eval, List.mem_cons, List.not_mem_nil, not_or, and_imp, or_false, Array.getD_eq_getD_getElem?] at hbase; go_simp; (try go_bits); (try rfl); done)); (try simp only [List.nil_append, List.cons_append]))
  (apply Rel.call3; (focus (first | exact Rel.gno rfl | exact Rel.gyes _ true _ rfl rfl rfl | exact Rel.gyes _ false _ rfl rfl rfl)); (focus (intro a W hb hd hbase; obtain ⟨hc, hf⟩ := bcell hb; clear hb hf; simp [Rel.deps, Rel.dep1, Rel.ons, Region.binds, Act.eval] at hd; simp only [Act.eval, List.mem_cons, List.not_mem_nil, not_or, and_imp, or_false, Array.getD_eq_getD_getElem?] at hbase; go_simp; refine ⟨?_, ?_⟩; rfl; rfl)); (focus (intro W hb; go_at_call 36; exact HI2.out _ (HTab.out.below (HB1.out.trans (hb.mono HB1.out.size))))); (try simp only [List.nil_append, List.cons_append]))
  iterate 2 (apply Rel.op3; (focus (first | exact Rel.gno rfl | exact Rel.gyes _ true _ rfl rfl rfl | exact Rel.gyes _ false _ rfl rfl rfl)); (focus (intro a W hb hd hbase; obtain ⟨hc, hf⟩ := bcell hb; clear hb hf; simp [Rel.deps, Rel.dep1, Rel.ons, Region.binds, Act.eval] at hd; simp only [Act.eval, List.mem_cons, List.not_mem_nil, not_or, and_imp, or_false, Array.getD_eq_getD_getElem?] at hbase; go_simp; (try go_bits); (try rfl); done)); (try simp only [List.nil_append, List.cons_append]))
  (apply Rel.call3; (focus (first | exact Rel.gno rfl | exact Rel.gyes _ true _ rfl rfl rfl | exact Rel.gyes _ false _ rfl rfl rfl)); (focus (intro a W hb hd hbase; obtain ⟨hc, hf⟩ := bcell hb; clear hb hf; simp [Rel.deps, Rel.dep1, Rel.ons, Region.binds, Act.eval] at hd; simp only [Act.eval, List.mem_cons, List.not_mem_nil, not_or, and_imp, or_false, Array.getD_eq_getD_getElem?] at hbase; go_simp; refine ⟨?_, ?_⟩; rfl; rfl)); (focus (intro W hb; go_at_call 36; exact HI3.out _ (HTab.out.below (HB1.out.trans (hb.mono HB1.out.size))))); (try simp only [List.nil_append, List.cons_append]))
  refine Rel.done3 ?_
  intro x w2 hb2 hx
  simp only [Rel.facts, Nat.zero_add, Nat.reduceAdd] at hx
  obtain ⟨e0, e1, e2, e3, e4, e5, e6, e7, e8, _⟩ := hx
  simp only [Rel.fill, Nat.zero_add, Nat.reduceAdd, e0, e1, e2, e3, e4, e5, e6, e7, e8]
  simp only [Act.put, List.setIfInBounds_toArray, List.set_cons_zero, List.set_cons_succ]
  clear e0 e1 e2 e3 e4 e5 e6 e7 e8
  have HB2 := Lib.hid (HB1.out.trans (hb2.mono HB1.out.size))
  have G2 := Lib.hid (G1.out.below hb2)
  clear hb2 g0 g1 g2 g3 g4 gl gf
  obtain ⟨g0, g1, g2, g3, g4, gl, gf⟩ := G2.out.o5
  have hg2 := G2.out.lt
  go_wp2_with (go_at_call 37; refine name_calls ?_; intro w3 e3; refine Hid.out ?_)
  unfold Hid
  have hO3 : w3.ownsRow (w.heap.size + 1) 9 1 (.slice (some ⟨w2.heap.size, 0, none⟩) 5 5) 5 (#[.string ⟨#[103, 117, 97, 114, 100]⟩, .string S1, .string S2, .string S3, .string ⟨#[116, 97, 112, 115]⟩] : Array Value).toList := by rw [e3]; exact World.ownsRow_lit w2 _ 5 (by omega) (by decide) rfl
  have HO3 := Lib.hid hO3
  have HB3 := Lib.hid (show Below w.heap.size w w3 by rw [e3]; exact HB2.out.alloc HB2.out.size _)
  have G3 := Lib.hid (show Blk w3 w.heap.size #[(.int .i64 lk), (.int .i64 ht), .slice A1 M c1, (.int .i64 rc), .slice A2 L c2] by rw [e3]; exact G2.out.alloc _)
  clear e3 hO3 g0 g1 g2 g3 g4 gl gf
  refine (HM1.out _ (HTab.out.below HB3.out) (HT.out.below HB3.out)).mono ?_
  rintro r w4 ⟨⟨v1, rfl, ho1⟩, hb4⟩
  obtain ⟨r1, d1, rfl, hr1, hr1l, hd1⟩ := row_some ho1 hM1
  have HO1 := Lib.hid ho1
  have HO4 := Lib.hid (ownsRow_below HO3.out hb4)
  have HB4 := Lib.hid (HB3.out.trans (hb4.mono HB3.out.size))
  have G4 := Lib.hid (G3.out.below hb4)
  have hs4 := HB4.out.size
  have hs3 := G4.out.lt
  clear ho1 hb4
  go_wp2_with (at_builtin; refine wpList_append_own _ rfl _ _ 74 rfl (w.heap.size + 1) 9 i0 (.string ⟨#[]⟩) 1 16 Tryz.underlying74 hii hz0 hz1 hz2 rfl (by decide) _ _ _ rfl HO4.out ⟨r1, 0, none⟩ M d1 (ts.map fun n => sv (Lib.itoa n)) rfl ?c0 ?c1 ?c2 ?c3 ?c4 ?c5 ?_)
  case c0 => simp [HM.out]
  case c1 => exact fun j u hj => HO1.out.cells rfl j u hj
  case c2 => intro u hu; obtain ⟨_, _, rfl⟩ := List.mem_map.1 hu; rfl
  case c3 => unfold maxLen; omega
  case c4 => omega
  case c5 => omega
  intro v5 w5 hO5 hg5 _
  have hrow5 : ∀ j, Value.ownBlock _ = some j → w.heap.size + 1 ≤ j ∧ j < w4.heap.size := HO4.out.lt
  have HO5 := Lib.hid hO5
  have G5 := Lib.hid (grown_blk G4.out hg5 (fun j hj => by have := hrow5 j hj; omega))
  have HB5 := Lib.hid (HB4.out.grown hg5 hs4 (fun j hj => by have := hrow5 j hj; omega))
  have hs5 := G5.out.lt
  clear hO5 hg5 hrow5
  obtain ⟨g0, g1, g2, g3, g4, gl, gf⟩ := G5.out.o5
  go_wp2_with (at_builtin; refine name_list ?_; intro w6 e6; refine Hid.out ?_)
  unfold Hid
  have HB6 := Lib.hid (show Below w.heap.size w w6 by rw [e6]; exact HB5.out.alloc HB5.out.size _)
  have HO6 := Lib.hid (show w6.ownsRow (w.heap.size + 1) 9 1 v5 (5 + M) ((#[.string ⟨#[103, 117, 97, 114, 100]⟩, .string S1, .string S2, .string S3, .string ⟨#[116, 97, 112, 115]⟩] : Array Value).toList ++ ts.map fun n => sv (Lib.itoa n)) by rw [e6]; exact HO5.out.alloc _)
  have G6 := Lib.hid (show Blk w6 w.heap.size #[(.int .i64 lk), (.int .i64 ht), .slice A1 M c1, (.int .i64 rc), .slice A2 L c2] by rw [e6]; exact G5.out.alloc _)
  have HN6 := Lib.hid (show Blk w6 w5.heap.size #[.string ⟨#[103, 97, 105, 110, 115]⟩] by rw [e6]; exact Calm.Blk.new _ _ _)
  clear e6 g0 g1 g2 g3 g4 gl gf
  have hs6 := HB6.out.size
  have hs6g := G6.out.lt
  refine wpList_append_own _ rfl _ _ 74 rfl (w.heap.size + 1) 9 i0 (.string ⟨#[]⟩) 1 16 Tryz.underlying74 hii hz0 hz1 hz2 rfl (by decide) _ _ _ rfl HO6.out ⟨w5.heap.size, 0, none⟩ 1 1 [.string ⟨#[103, 97, 105, 110, 115]⟩] rfl rfl ?d1 ?d2 ?d3 ?d4 ?d5 ?_
  case d1 =>
    intro j u hj
    match j, hj with
    | 0, hj => simp at hj; subst hj; simpa [Addr.add] using HN6.out.c 0
  case d2 => intro u hu; simp at hu; subst hu; rfl
  case d3 => unfold maxLen; omega
  case d4 => omega
  case d5 => omega
  intro v7 w7 hO7 hg7 _
  have hrow7 : ∀ j, Value.ownBlock _ = some j → w.heap.size + 1 ≤ j ∧ j < w6.heap.size := HO6.out.lt
  have HO7 := Lib.hid hO7
  have G7 := Lib.hid (grown_blk G6.out hg7 (fun j hj => by have := hrow7 j hj; omega))
  have HB7 := Lib.hid (HB6.out.grown hg7 hs6 (fun j hj => by have := hrow7 j hj; omega))
  have hs7 := G7.out.lt
  clear hO7 hg7 hrow7 HN6
  obtain ⟨g0, g1, g2, g3, g4, gl, gf⟩ := G7.out.o5
  go_wp2_with (go_at_call 37; refine (HM2.out _ (HTab.out.below HB7.out) (HG.out.below HB7.out)).mono ?_; rintro r w8 ⟨⟨v8, rfl, ho8⟩, hb8⟩; refine Hid.out ?_)
  unfold Hid
  obtain ⟨r8, d8, rfl, hr8, hr8l, hd8⟩ := row_some ho8 hL1
  have HO8 := Lib.hid ho8
  have HP8 := Lib.hid (ownsRow_below HO7.out hb8)
  have HB8 := Lib.hid (HB7.out.trans (hb8.mono HB7.out.size))
  have hs8 := HB8.out.size
  have hs8g := (G7.out.below hb8).lt
  clear ho8 hb8 g0 g1 g2 g3 g4 gl gf
  go_wp2_with (at_builtin; refine wpList_append_own _ rfl _ _ 74 rfl (w.heap.size + 1) 9 i0 (.string ⟨#[]⟩) 1 16 Tryz.underlying74 hii hz0 hz1 hz2 rfl (by decide) _ _ _ rfl HP8.out ⟨r8, 0, none⟩ L d8 (gs.map fun n => sv (Lib.itoa n)) rfl ?e0 ?e1 ?e2 ?e3 ?e4 ?e5 ?_)
  case e0 => simp [HL.out]
  case e1 => exact fun j u hj => HO8.out.cells rfl j u hj
  case e2 => intro u hu; obtain ⟨_, _, rfl⟩ := List.mem_map.1 hu; rfl
  case e3 => unfold maxLen; omega
  case e4 => omega
  case e5 => omega
  intro v9 w9 hO9 hg9 _
  have hrow9 : ∀ j, Value.ownBlock _ = some j → w.heap.size + 1 ≤ j ∧ j < w8.heap.size := HP8.out.lt
  have HB9 := Lib.hid (HB8.out.grown hg9 hs8 (fun j hj => by have := hrow9 j hj; omega))
  have hall : (#[.string ⟨#[103, 117, 97, 114, 100]⟩, .string S1, .string S2, .string S3, .string ⟨#[116, 97, 112, 115]⟩] : Array Value).toList ++ (ts.map fun n => sv (Lib.itoa n)) ++ [.string ⟨#[103, 97, 105, 110, 115]⟩] ++ (gs.map fun n => sv (Lib.itoa n)) = ((wordsG lk ht rc ts gs).map fun l => (⟨l.toArray⟩ : ByteArray)).map Value.string := by
    rw [HE1.out, HE2.out, HE3.out]
    unfold wordsG guardW tapsW gainsW sv
    simp [Function.comp_def]
  have hO9 : w9.ownsRow (w.heap.size + 1) 9 1 v9 (5 + M + 1 + L) (((wordsG lk ht rc ts gs).map fun l => (⟨l.toArray⟩ : ByteArray)).map Value.string) := by rw [← hall]; simpa using hO9
  obtain ⟨r9, d9, rfl, hr9, hr9l, hd9⟩ := row_some hO9 (by omega)
  have hwl : ((wordsG lk ht rc ts gs).map fun l => (⟨l.toArray⟩ : ByteArray)).length = 5 + M + 1 + L := by
    unfold wordsG
    have h1 := HM.out
    have h2 := HL.out
    simp
    omega
  have hmm : (((wordsG lk ht rc ts gs).map fun l => (⟨l.toArray⟩ : ByteArray)).map (·.data.toList)) = wordsG lk ht rc ts gs := by
    rw [List.map_map]
    conv => rhs; rw [← List.map_id (wordsG lk ht rc ts gs)]
    exact List.map_congr_left (fun l _ => by simp)
  have HJ : Hid (Calls Tryz.prog 38 #[.slice (some ⟨r9, 0, none⟩) (5 + M + 1 + L) d9, .string ⟨#[32]⟩] w9 fun e w' => e = .returned (.string ⟨(textG lk ht rc ts gs).toArray⟩) ∧ Below w9.heap.size w9 w') := Lib.hid (by
    have := Tryz.strings_Join r9 0 d9 ((wordsG lk ht rc ts gs).map fun l => (⟨l.toArray⟩ : ByteArray)) ⟨#[32]⟩ w9 (fun j x hj => by
      have := hO9.cells rfl j (.string x) (by rw [List.getElem?_map, hj]; rfl)
      rw [Nat.zero_add]
      have e : (⟨r9, 0, none⟩ : Addr).add j = ⟨r9, j, none⟩ := by unfold Addr.add; split <;> simp_all
      rwa [e] at this) hr9l (by omega) (by omega) (by rw [hmm]; show (textG lk ht rc ts gs).length ≤ _; have := HLEN.out; omega)
    rw [hwl, hmm] at this
    exact this)
  have hs9 := HB9.out.size
  clear hO9 hg9 hrow9 hall hwl hmm
  go_wp2_with (go_at_call 38; refine HJ.out.mono ?_; rintro r w10 ⟨rfl, hb10⟩; refine Hid.out ?_)
  unfold Hid
  have HB10 := Lib.hid (HB9.out.trans (hb10.mono hs9))
  clear hb10
  obtain ⟨T, hT⟩ : ∃ T, T = textG lk ht rc ts gs := ⟨_, rfl⟩
  rw [← hT]
  have HTT := Lib.hid hT
  clear hT HJ HLEN
  go_wp2
  go_ret2
  have e := HTT.out
  subst e
  exact ⟨rfl, HB10.out⟩
end Go.Proofs.YtdeapbihbhoefaaGreatDoor

/- What is known of a value: guards, states, slices of integers, tuples; stable where nothing old turns. Steps of a region by it. -/
namespace Go.Proofs.YtdeapbihbhoefaaGreatDoor
open Go.RowKit
open Calm (bcell Blk)
open Rel (Know Stable)

/-- this value. -/
def KV (v : Value) : Know := fun u _ => u = v
theorem KV.st (v : Value) : Stable (KV v) := fun _ _ _ h _ => h
/-- a slice of n integers. -/
def KS (n : Nat) (l : List Int) : Know := fun u W => ∃ B c, u = .slice B n c ∧ Cells W B l
theorem KS.st (n : Nat) (l : List Int) : Stable (KS n l) := fun _ _ _ ⟨B, c, h1, h2⟩ hb => ⟨B, c, h1, h2.below hb⟩
/-- a guard. -/
def KG (lk ht rc : Int) (M : Nat) (ts : List Int) (L : Nat) (gs : List Int) : Know := fun u W => ∃ A1 c1 A2 c2, u = .agg #[(.int .i64 lk), (.int .i64 ht), .slice A1 M c1, (.int .i64 rc), .slice A2 L c2] ∧ Cells W A1 ts ∧ Cells W A2 gs
theorem KG.st (lk ht rc : Int) (M : Nat) (ts : List Int) (L : Nat) (gs : List Int) : Stable (KG lk ht rc M ts L gs) := fun _ _ _ ⟨A1, c1, A2, c2, h1, h2, h3⟩ hb => ⟨A1, c1, A2, c2, h1, h2.below hb, h3.below hb⟩
/-- a state. -/
def KT (h lv : Int) (n : Nat) (l : List Int) : Know := fun u W => ∃ B c, u = .agg #[(.int .i64 h), (.int .i64 lv), .slice B n c] ∧ Cells W B l
theorem KT.st (h lv : Int) (n : Nat) (l : List Int) : Stable (KT h lv n l) := fun _ _ _ ⟨B, c, h1, h2⟩ hb => ⟨B, c, h1, h2.below hb⟩
/-- a state whose last outputs lie in a row of integers. -/
def KTI (h lv : Int) (n : Nat) (l : List Int) : Know := fun u W => ∃ B c, u = .agg #[(.int .i64 h), (.int .i64 lv), .slice B n c] ∧ Cells W B l ∧ ∀ p, B = some p → IntRow W p
theorem KTI.st (h lv : Int) (n : Nat) (l : List Int) : Stable (KTI h lv n l) := fun _ _ _ ⟨B, c, h1, h2, h3⟩ hb => ⟨B, c, h1, h2.below hb, fun p hp => (h3 p hp).below hb⟩
theorem KTI.kt {h lv : Int} {n : Nat} {l : List Int} {u : Value} {W : World} (h1 : KTI h lv n l u W) : KT h lv n l u W := by
  obtain ⟨B, c, h1, h2, _⟩ := h1
  exact ⟨B, c, h1, h2⟩
theorem KTI.zero (W : World) : KTI 0 0 0 [] (.agg #[(.int .i64 0), (.int .i64 0), .slice none 0 0]) W := ⟨none, 0, rfl, fun h => by simp at h, fun p hp => by cases hp⟩
theorem KS.nil (W : World) : KS 0 [] (.slice none 0 0) W := ⟨none, 0, rfl, fun h => by simp at h⟩
theorem blkc {w : World} {g : Nat} {zs : List Int} (h : Blk w g (zs.map (Value.int .i64)).toArray) : Cells w (some ⟨g, 0, none⟩) zs := fun _ =>
  ⟨g, 0, rfl, h.lt, fun k hk => by rw [Nat.zero_add, h.c k]; simp [hk, List.getD_eq_getElem?_getD]⟩
/-- tuples. -/
def K2 (R1 R2 : Know) : Know := fun u W => ∃ u1 u2, u = .tuple #[u1, u2] ∧ R1 u1 W ∧ R2 u2 W
theorem K2.st {R1 R2 : Know} (h1 : Stable R1) (h2 : Stable R2) : Stable (K2 R1 R2) := fun _ W W' ⟨u1, u2, e, k1, k2⟩ hb => ⟨u1, u2, e, h1 _ W W' k1 hb, h2 _ W W' k2 hb⟩
def K3 (R1 R2 R3 : Know) : Know := fun u W => ∃ u1 u2 u3, u = .tuple #[u1, u2, u3] ∧ R1 u1 W ∧ R2 u2 W ∧ R3 u3 W
/-- a call hands back what is known, and nothing old turns. -/
def KP (R : Know) (W : World) (e : Ending) (W' : World) : Prop := ∃ v, e = .returned v ∧ R v W' ∧ Below W.heap.size W W'

namespace Rel
section
variable {P : Program} {DS : List Tmp} {w0 : World} {a0 : Act} {T : Ctx → Prop} {Γ : Ctx} {o : Oper} {rest : List Oper}
theorem dep_at {Γ : Ctx} {a : Act} {W : World} : ∀ {js : List Nat}, deps Γ a W js → ∀ (j : Nat) {t : Tmp} {K : Know}, js.contains j = true → Γ[j]? = some (some t, K) → K (a.eval (.tmp t)) W
  | [], _, _, _, _, hj, _ => by simp at hj
  | i :: js, h, j, t, K, hj, hΓ => by
    rcases Bool.eq_false_or_eq_true (i == j) with e | e
    · rw [beq_iff_eq] at e
      subst e
      have h1 := h.1
      rw [hΓ] at h1
      exact h1
    · refine dep_at h.2 j (K := K) ?_ hΓ
      rw [List.contains_cons] at hj
      have : (j == i) = false := by rw [beq_eq_false_iff_ne] at e ⊢; exact fun e2 => e e2.symm
      rwa [this, Bool.false_or] at hj
theorem mvK (t : Tmp) (j : Nat) {K : Know} (hop : o.op = .move (.tmp t)) (hj : (ons o).contains j = true) (hΓ : Γ[j]? = some (some t, K)) (hs : Stable K) (hg : GOK3 Γ o)
    (hn : walk3 P DS w0 a0 T (Γ ++ [(o.dst, K)]) rest) : walk3 P DS w0 a0 T Γ (o :: rest) :=
  opR3 K hs hg (fun a W hb hd _ => ⟨a.eval (.tmp t), by simp [execOp, hop], dep_at hd j hj hΓ⟩) hn
theorem asgK (t : Tmp) (j : Nat) {K : Know} (hop : o.op = .assign (.tmp t)) (hj : (ons o).contains j = true) (hΓ : Γ[j]? = some (some t, K)) (hs : Stable K) (hg : GOK3 Γ o)
    (hn : walk3 P DS w0 a0 T (Γ ++ [(o.dst, K)]) rest) : walk3 P DS w0 a0 T Γ (o :: rest) :=
  opR3 K hs hg (fun a W hb hd _ => ⟨a.eval (.tmp t), by simp [execOp, hop], dep_at hd j hj hΓ⟩) hn
theorem ext20 (t : Tmp) (j : Nat) {R1 R2 : Know} (hop : o.op = .extract (.tmp t) 0) (hj : (ons o).contains j = true) (hΓ : Γ[j]? = some (some t, K2 R1 R2)) (hs : Stable R1) (hg : GOK3 Γ o)
    (hn : walk3 P DS w0 a0 T (Γ ++ [(o.dst, R1)]) rest) : walk3 P DS w0 a0 T Γ (o :: rest) :=
  opR3 R1 hs hg (fun a W hb hd _ => by
    obtain ⟨u1, u2, e, h1, h2⟩ := dep_at hd j hj hΓ
    exact ⟨u1, by simp [execOp, hop, e, Instr.extract, Result.andThen], h1⟩) hn
theorem ext21 (t : Tmp) (j : Nat) {R1 R2 : Know} (hop : o.op = .extract (.tmp t) 1) (hj : (ons o).contains j = true) (hΓ : Γ[j]? = some (some t, K2 R1 R2)) (hs : Stable R2) (hg : GOK3 Γ o)
    (hn : walk3 P DS w0 a0 T (Γ ++ [(o.dst, R2)]) rest) : walk3 P DS w0 a0 T Γ (o :: rest) :=
  opR3 R2 hs hg (fun a W hb hd _ => by
    obtain ⟨u1, u2, e, h1, h2⟩ := dep_at hd j hj hΓ
    exact ⟨u2, by simp [execOp, hop, e, Instr.extract, Result.andThen], h2⟩) hn
theorem callK (f : FuncId) (K : Know) (hs : Stable K) (hg : GOK3 Γ o)
    (h : ∀ (a : Act) (W : World), Below w0.heap.size w0 W → deps Γ a W (ons o) → (∀ t, t ∉ DS → a.eval (.tmp t) = a0.eval (.tmp t)) → ∃ args, (execOp a.eval o).run P W = .ok (.enter f args) W ∧ Calls P f args W (KP K W))
    (hn : walk3 P DS w0 a0 T (Γ ++ [(o.dst, K)]) rest) : walk3 P DS w0 a0 T Γ (o :: rest) :=
  callR3 K hs hg (fun a W hb hd hbase => by
    obtain ⟨args, h1, h2⟩ := h a W hb hd hbase
    exact ⟨f, args, h1, h2⟩) hn
end
end Rel
end Go.Proofs.YtdeapbihbhoefaaGreatDoor

/- A drawn region in whose head a struct is stored into a block that the region itself has made: worlds in which rows of integers stay, and blocks of one type turn to what they will be. -/
namespace Go.Proofs.YtdeapbihbhoefaaGreatDoor
open Go.RowKit
open Calm (bcell Blk)
open Rel (Know)

/-- rows of integers stay. -/
def IntKeep (W W' : World) : Prop := ∀ (k : Nat) (cur : Array Value), W.heap[k]? = some (.cells cur 3 (0, 0)) → W'.heap[k]? = some (.cells cur 3 (0, 0))
theorem IntKeep.of {W W' : World} (h : Below W.heap.size W W') : IntKeep W W' := fun _ _ hk => (h.block _ (Array.getElem?_eq_some_iff.1 hk).1).trans hk
def IStable (K : Know) : Prop := ∀ u W W', K u W → IntKeep W W' → K u W'
theorem IStable.st {K : Know} (h : IStable K) : Rel.Stable K := fun u W W' hk hb => h u W W' hk (IntKeep.of hb)
theorem KV.ik (v : Value) : IStable (KV v) := fun _ _ _ h _ => h
theorem IntRow.keep {W W' : World} {B : Addr} (h : IntRow W B) (hk : IntKeep W W') : IntRow W' B := by
  obtain ⟨cur, h⟩ := h
  exact ⟨cur, hk _ _ h⟩
theorem Cells.keep {W W' : World} {B : Option Addr} {l : List Int} (h : Cells W B l) (hi : ∀ p, B = some p → IntRow W p) (hk : IntKeep W W') : Cells W' B l := by
  intro h0
  obtain ⟨b, off, rfl, hl, hc⟩ := h h0
  obtain ⟨cur, hcur⟩ := hi _ rfl
  have e := hk _ _ hcur
  refine ⟨b, off, rfl, (Array.getElem?_eq_some_iff.1 e).1, fun k hk2 => ?_⟩
  exact (World.cell?_of_block (w := W) (a := ⟨b, off + k, none⟩) (e.trans hcur.symm)).trans (hc k hk2)
theorem KTI.ik (h lv : Int) (n : Nat) (l : List Int) : IStable (KTI h lv n l) := fun _ _ _ ⟨B, c, h1, h2, h3⟩ hk => ⟨B, c, h1, h2.keep h3 hk, fun p hp => (h3 p hp).keep hk⟩
/-- a guard whose lists lie in rows of integers. -/
def KGI (lk ht rc : Int) (M : Nat) (ts : List Int) (L : Nat) (gs : List Int) : Know := fun u W => ∃ A1 c1 A2 c2, u = .agg #[(.int .i64 lk), (.int .i64 ht), .slice A1 M c1, (.int .i64 rc), .slice A2 L c2] ∧ Cells W A1 ts ∧ Cells W A2 gs ∧ (∀ p, A1 = some p → IntRow W p) ∧ ∀ p, A2 = some p → IntRow W p
theorem KGI.ik (lk ht rc : Int) (M : Nat) (ts : List Int) (L : Nat) (gs : List Int) : IStable (KGI lk ht rc M ts L gs) := fun _ _ _ ⟨A1, c1, A2, c2, h1, h2, h3, h4, h5⟩ hk => ⟨A1, c1, A2, c2, h1, h2.keep h4 hk, h3.keep h5 hk, fun p hp => (h4 p hp).keep hk, fun p hp => (h5 p hp).keep hk⟩
theorem KGI.kg {lk ht rc : Int} {M : Nat} {ts : List Int} {L : Nat} {gs : List Int} {u : Value} {W : World} (h : KGI lk ht rc M ts L gs u W) : KG lk ht rc M ts L gs u W := by
  obtain ⟨A1, c1, A2, c2, h1, h2, h3, _⟩ := h
  exact ⟨A1, c1, A2, c2, h1, h2, h3⟩
/-- a slice that lies in a row of integers. -/
def KSI (n : Nat) (l : List Int) : Know := fun u W => ∃ B c, u = .slice B n c ∧ Cells W B l ∧ ∀ p, B = some p → IntRow W p
theorem KSI.ik (n : Nat) (l : List Int) : IStable (KSI n l) := fun _ _ _ ⟨B, c, h1, h2, h3⟩ hk => ⟨B, c, h1, h2.keep h3 hk, fun p hp => (h3 p hp).keep hk⟩
theorem K3.ik {R1 R2 R3 : Know} (h1 : IStable R1) (h2 : IStable R2) (h3 : IStable R3) : IStable (K3 R1 R2 R3) := fun _ W W' ⟨u1, u2, u3, e, k1, k2, k3⟩ hb => ⟨u1, u2, u3, e, h1 _ W W' k1 hb, h2 _ W W' k2 hb, h3 _ W W' k3 hb⟩

/-- the block is of this type. -/
def IsTy (W : World) (g : Nat) (t : TypeId) : Prop := ∃ cs, W.heap[g]? = some (.cells cs t (0, 0))
theorem IsTy.below {W W' : World} {g : Nat} {t : TypeId} (h : IsTy W g t) (hb : Below W.heap.size W W') : IsTy W' g t := by
  obtain ⟨cs, h⟩ := h
  exact ⟨cs, (hb.block _ (Array.getElem?_eq_some_iff.1 h).1).trans h⟩
theorem IsTy.put {W : World} {g : Nat} {t : TypeId} (h : IsTy W g t) (i : Nat) (v : Value) : IsTy (W.setCell ⟨g, i, none⟩ v) g t := by
  obtain ⟨cs, h⟩ := h
  exact ⟨_, heap_setCell_same W g i cs t v h⟩
theorem KSI.put {n : Nat} {l : List Int} {u : Value} {W : World} {g : Nat} {t : TypeId} (h : KSI n l u W) (ht : IsTy W g t) (hne : t ≠ 3) (i : Nat) (v : Value) : KSI n l u (W.setCell ⟨g, i, none⟩ v) := by
  obtain ⟨B, c, h1, h2, h3⟩ := h
  obtain ⟨cs, hg⟩ := ht
  exact ⟨B, c, h1, h2.sets (fun _ p hp => (h3 p hp).ne hg hne) i v, fun p hp => (h3 p hp).sets ((h3 p hp).ne hg hne) i v⟩
/-- below B nothing turns; of the newer blocks only those of the type T turn, to what is known. -/
structure Sty (T : TypeId) (K : Know) (B : Nat) (W W' : World) : Prop where
  os : W'.os = W.os
  tape : W'.tape = W.tape
  output : W'.output = W.output
  size : W.heap.size ≤ W'.heap.size
  ne : T ≠ 3
  block : ∀ k, k < W.heap.size → W'.heap[k]? = W.heap[k]? ∨ (B ≤ k ∧ (∃ cs, W.heap[k]? = some (.cells cs T (0, 0))) ∧ ∃ cs, W'.heap[k]? = some (.cells cs T (0, 0)) ∧ K (.agg cs) W')
theorem Sty.refl {T : TypeId} {K : Know} {B : Nat} (hT : T ≠ 3) (W : World) : Sty T K B W W := ⟨rfl, rfl, rfl, Nat.le_refl _, hT, fun _ _ => .inl rfl⟩
theorem Sty.keep {T : TypeId} {K : Know} {B : Nat} {W W' : World} (h : Sty T K B W W') : IntKeep W W' := by
  intro k cur hk
  rcases h.block k (Array.getElem?_eq_some_iff.1 hk).1 with e | ⟨_, ⟨cs, e⟩, _⟩
  · exact e.trans hk
  · rw [hk] at e
    cases e
    exact absurd rfl h.ne
theorem Sty.trans {T : TypeId} {K : Know} (hK : IStable K) {B : Nat} (a b c : World) (h : Sty T K B a b) (k : Sty T K B b c) : Sty T K B a c := by
  refine ⟨k.os.trans h.os, k.tape.trans h.tape, k.output.trans h.output, Nat.le_trans h.size k.size, h.ne, fun i hi => ?_⟩
  rcases k.block i (Nat.lt_of_lt_of_le hi h.size) with e | ⟨hB, ⟨cs, e⟩, cs', e', hk'⟩
  · rcases h.block i hi with e2 | ⟨hB, h1, cs, e2, hk⟩
    · exact .inl (e.trans e2)
    · exact .inr ⟨hB, h1, cs, e.trans e2, hK _ _ _ hk k.keep⟩
  · rcases h.block i hi with e2 | ⟨hB, h1, _⟩
    · exact .inr ⟨hB, ⟨cs, e2.symm.trans e⟩, cs', e', hk'⟩
    · exact .inr ⟨hB, h1, cs', e', hk'⟩
theorem Sty.drawn {T : TypeId} {K : Know} {B : Nat} (hT : T ≠ 3) (W : World) : Sty T K B W { W with drawn := W.drawn + 1 } := ⟨rfl, rfl, rfl, Nat.le_refl _, hT, fun _ _ => .inl rfl⟩
theorem Sty.of {T : TypeId} {K : Know} {B : Nat} (hT : T ≠ 3) {W W' : World} (h : Below W.heap.size W W') : Sty T K B W W' := ⟨h.os, h.tape, h.output, h.size, hT, fun k hk => .inl (h.block k hk)⟩
theorem Sty.below {T : TypeId} {K : Know} {B : Nat} {W W' : World} (h : Sty T K B W W') (hB : B ≤ W.heap.size) : Below B W W' :=
  ⟨h.os, h.tape, h.output, h.size, fun k hk => (h.block k (by omega)).elim id (fun h2 => by omega)⟩

set_option maxRecDepth 100000 in
/-- a state stored. -/
theorem run_storeS {W : World} {g : Nat} {u0 u1 u2 : Value} {h lv : Int} {B : Option Addr} {n c : Nat} (hg : W.heap[g]? = some (.cells #[u0, u1, u2] 45 (0, 0))) {o : Oper} {ρ : Operand → Value} {p v : Tmp} (hop : o.op = .store 45 (.tmp p) (.tmp v))
    (hp : ρ (.tmp p) = .pointer (some ⟨g, 0, none⟩)) (hv : ρ (.tmp v) = .agg #[(.int .i64 h), (.int .i64 lv), .slice B n c]) : (execOp ρ o).run Tryz.prog W = .ok .skip (((W.setCell ⟨g, 0, none⟩ (.int .i64 h)).setCell ⟨g, 1, none⟩ (.int .i64 lv)).setCell ⟨g, 2, none⟩ (.slice B n c)) := by
  have K := Calm.Blk.row hg
  obtain ⟨c0, c1, c2, l, f⟩ := K.o3
  have f0 := K.f 0
  have f1 := K.f 1
  have f2 := K.f 2
  clear K
  obtain ⟨dst, op, type, pos, after, guard⟩ := o
  simp only at hop
  subst hop
  go_simp
theorem set3_heap {W : World} {g : Nat} {u0 u1 u2 : Value} {t : TypeId} (a b c : Value) (hg : W.heap[g]? = some (.cells #[u0, u1, u2] t (0, 0))) : (((W.setCell ⟨g, 0, none⟩ a).setCell ⟨g, 1, none⟩ b).setCell ⟨g, 2, none⟩ c).heap[g]? = some (.cells #[a, b, c] t (0, 0)) := by
  exact heap_setCell_same _ g 2 _ t c (heap_setCell_same _ g 1 _ t b (heap_setCell_same W g 0 _ t a hg))

namespace RelH
open Rel (ons)
section
variable {S : World → World → Prop} {P : Program} {DS : List Tmp} {w0 : World} {a0 : Act} {T : Ctx → Prop} {Γ : Ctx} {o : Oper} {rest : List Oper}
theorem dep_at {x : Nat → Value} {Γ : Ctx} {a : Act} {W : World} : ∀ {js : List Nat}, deps x Γ a W js → ∀ (j : Nat) {t : Tmp} {R : DK}, js.contains j = true → Γ[j]? = some (some t, R) → x j = a.eval (.tmp t) ∧ R x (a.eval (.tmp t)) W
  | [], _, _, _, _, hj, _ => by simp at hj
  | i :: js, h, j, t, R, hj, hΓ => by
    rcases Bool.eq_false_or_eq_true (i == j) with e | e
    · rw [beq_iff_eq] at e
      subst e
      have h1 := h.1
      rw [hΓ] at h1
      exact h1
    · refine dep_at h.2 j ?_ hΓ
      rw [List.contains_cons] at hj
      have : (j == i) = false := by rw [beq_eq_false_iff_ne] at e ⊢; exact fun e2 => e e2.symm
      rwa [this, Bool.false_or] at hj
theorem dep_k {x : Nat → Value} {Γ : Ctx} {a : Act} {W : World} {js : List Nat} (h : deps x Γ a W js) (j : Nat) {t : Tmp} {K : Know} (hj : js.contains j = true) (hΓ : Γ[j]? = some (some t, fun _ => K)) : K (a.eval (.tmp t)) W := (dep_at h j hj hΓ).2
theorem sk {K : Know} (hk : ∀ W W', S W W' → IntKeep W W') (h : IStable K) : Stable S (fun _ => K) := fun _ _ W W' h1 hS => h _ W W' h1 (hk W W' hS)
theorem mvH (hr : ∀ W, S W W) (hk : ∀ W W', S W W' → IntKeep W W') (t : Tmp) (j : Nat) {K : Know} (hop : o.op = .move (.tmp t)) (hj : (ons o).contains j = true) (hΓ : Γ[j]? = some (some t, fun _ => K)) (hs : IStable K) (hg : GOK3 Γ o)
    (hn : walk3 S P DS w0 a0 T (Γ ++ [(o.dst, fun _ => K)]) rest) : walk3 S P DS w0 a0 T Γ (o :: rest) :=
  opR3 hr _ (sk hk hs) loc_const hg (fun a W x hb hd _ => ⟨a.eval (.tmp t), by simp [execOp, hop], dep_k hd j hj hΓ⟩) hn
theorem ext30H (hr : ∀ W, S W W) (hk : ∀ W W', S W W' → IntKeep W W') (t : Tmp) (j : Nat) {R1 R2 R3 : Know} (hop : o.op = .extract (.tmp t) 0) (hj : (ons o).contains j = true) (hΓ : Γ[j]? = some (some t, fun _ => K3 R1 R2 R3)) (hs : IStable R1) (hg : GOK3 Γ o)
    (hn : walk3 S P DS w0 a0 T (Γ ++ [(o.dst, fun _ => R1)]) rest) : walk3 S P DS w0 a0 T Γ (o :: rest) :=
  opR3 hr _ (sk hk hs) loc_const hg (fun a W x hb hd _ => by
    obtain ⟨u1, u2, u3, e, h1, h2, h3⟩ := dep_k hd j hj hΓ
    exact ⟨u1, by simp [execOp, hop, e, Instr.extract, Result.andThen], h1⟩) hn
theorem ext31H (hr : ∀ W, S W W) (hk : ∀ W W', S W W' → IntKeep W W') (t : Tmp) (j : Nat) {R1 R2 R3 : Know} (hop : o.op = .extract (.tmp t) 1) (hj : (ons o).contains j = true) (hΓ : Γ[j]? = some (some t, fun _ => K3 R1 R2 R3)) (hs : IStable R2) (hg : GOK3 Γ o)
    (hn : walk3 S P DS w0 a0 T (Γ ++ [(o.dst, fun _ => R2)]) rest) : walk3 S P DS w0 a0 T Γ (o :: rest) :=
  opR3 hr _ (sk hk hs) loc_const hg (fun a W x hb hd _ => by
    obtain ⟨u1, u2, u3, e, h1, h2, h3⟩ := dep_k hd j hj hΓ
    exact ⟨u2, by simp [execOp, hop, e, Instr.extract, Result.andThen], h2⟩) hn
theorem ext32H (hr : ∀ W, S W W) (hk : ∀ W W', S W W' → IntKeep W W') (t : Tmp) (j : Nat) {R1 R2 R3 : Know} (hop : o.op = .extract (.tmp t) 2) (hj : (ons o).contains j = true) (hΓ : Γ[j]? = some (some t, fun _ => K3 R1 R2 R3)) (hs : IStable R3) (hg : GOK3 Γ o)
    (hn : walk3 S P DS w0 a0 T (Γ ++ [(o.dst, fun _ => R3)]) rest) : walk3 S P DS w0 a0 T Γ (o :: rest) :=
  opR3 hr _ (sk hk hs) loc_const hg (fun a W x hb hd _ => by
    obtain ⟨u1, u2, u3, e, h1, h2, h3⟩ := dep_k hd j hj hΓ
    exact ⟨u3, by simp [execOp, hop, e, Instr.extract, Result.andThen], h3⟩) hn
theorem callH (hk : ∀ W W', S W W' → IntKeep W W') (hof : ∀ W W', Below W.heap.size W W' → S W W') (f : FuncId) (K : Know) (hs : IStable K) (hg : GOK3 Γ o)
    (h : ∀ (a : Act) (W : World) (x : Nat → Value), S w0 W → deps x Γ a W (ons o) → (∀ t, t ∉ DS → a.eval (.tmp t) = a0.eval (.tmp t)) → ∃ args, (execOp a.eval o).run P W = .ok (.enter f args) W ∧ Calls P f args W (KP K W))
    (hn : walk3 S P DS w0 a0 T (Γ ++ [(o.dst, fun _ => K)]) rest) : walk3 S P DS w0 a0 T Γ (o :: rest) :=
  callR3 _ (sk hk hs) loc_const (fun W W' _ hb => hof W W' hb) hg (fun a W x hb hd hbase => by
    obtain ⟨args, h1, h2⟩ := h a W x hb hd hbase
    exact ⟨f, args, h1, h2⟩) hn
end
/-- a new block of the type that may turn. -/
def NewY (T : TypeId) (n B : Nat) : DK := fun _ u W => ∃ g, u = .pointer (some ⟨g, 0, none⟩) ∧ B ≤ g ∧ ∃ cs, W.heap[g]? = some (.cells cs T (0, 0)) ∧ cs.size = n
/-- the block is what it will be. -/
def DoneY (T : TypeId) (K : Know) (j B : Nat) : DK := fun x _ W => ∃ g, x j = .pointer (some ⟨g, 0, none⟩) ∧ B ≤ g ∧ ∃ cs, W.heap[g]? = some (.cells cs T (0, 0)) ∧ K (.agg cs) W
section
variable {Ty : TypeId} {K : Know} {P : Program} {DS : List Tmp} {w0 : World} {a0 : Act} {T : Ctx → Prop} {Γ : Ctx} {o : Oper} {rest : List Oper}
theorem NewY.st {n B : Nat} (hn : ∀ cs W, K (.agg cs) W → cs.size = n) : Stable (Sty Ty K B) (NewY Ty n B) := by
  rintro _ u W W' ⟨g, h1, h2, cs, h3, h4⟩ hS
  refine ⟨g, h1, h2, ?_⟩
  rcases hS.block g (Array.getElem?_eq_some_iff.1 h3).1 with e | ⟨_, _, cs', e, hk⟩
  · exact ⟨cs, e.trans h3, h4⟩
  · exact ⟨cs', e, hn _ _ hk⟩
theorem DoneY.st {j B : Nat} (hK : IStable K) : Stable (Sty Ty K B) (DoneY Ty K j B) := by
  rintro x u W W' ⟨g, h1, h2, cs, h3, h4⟩ hS
  refine ⟨g, h1, h2, ?_⟩
  rcases hS.block g (Array.getElem?_eq_some_iff.1 h3).1 with e | ⟨_, _, cs', e, hk⟩
  · exact ⟨cs, e.trans h3, hK _ _ _ h4 hS.keep⟩
  · exact ⟨cs', e, hk⟩
theorem allocH (hT : Ty ≠ 3) {n : Nat} (hn : ∀ cs W, K (.agg cs) W → cs.size = n) (cs : Array Value) (hcs : cs.size = n) (hg : GOK3 Γ o)
    (h : ∀ (a : Act) (W : World), (execOp a.eval o).run P W = .ok (.value (.pointer (some ⟨W.heap.size, 0, none⟩))) (W.alloc (.cells cs Ty)))
    (hr : walk3 (Sty Ty K w0.heap.size) P DS w0 a0 T (Γ ++ [(o.dst, NewY Ty n w0.heap.size)]) rest) : walk3 (Sty Ty K w0.heap.size) P DS w0 a0 T Γ (o :: rest) :=
  opW3 _ (NewY.st hn) loc_const hg (fun a W x hb hd hbase => ⟨_, _, h a W, ⟨_, rfl, hb.size, cs, heap_alloc_new W _, hcs⟩, Sty.of hT ((Below.refl _ _).alloc (Nat.le_refl _) _)⟩) hr
end
section
variable {P : Program} {DS : List Tmp} {w0 : World} {a0 : Act} {T : Ctx → Prop} {Γ : Ctx} {o : Oper} {rest : List Oper}
/-- a state stored into the new block. -/
theorem storeH {h lv : Int} {n : Nat} {l : List Int} (p v : Tmp) (jp jv : Nat) (hop : o.op = .store 45 (.tmp p) (.tmp v)) (hp : (ons o).contains jp = true) (hv : (ons o).contains jv = true)
    (hΓp : Γ[jp]? = some (some p, NewY 45 3 w0.heap.size)) (hΓv : Γ[jv]? = some (some v, fun _ => KTI h lv n l)) (hg : GOK3 Γ o)
    (hn : walk3 (Sty 45 (KTI h lv n l) w0.heap.size) Tryz.prog DS w0 a0 T (Γ ++ [(o.dst, DoneY 45 (KTI h lv n l) jp w0.heap.size)]) rest) : walk3 (Sty 45 (KTI h lv n l) w0.heap.size) Tryz.prog DS w0 a0 T Γ (o :: rest) :=
  ⟨_, DoneY.st (KTI.ik h lv n l), fun x y he v W ⟨g, h1, h2⟩ => ⟨g, by
      obtain ⟨e, he1, rfl⟩ := List.mem_map.1 (show jp ∈ ons o by simpa using hp)
      obtain ⟨he2, he3⟩ := List.mem_filter.1 he1
      rw [← he e (by simpa using he2) he3]
      exact h1, h2⟩, hg, fun a W x hb hd hbase K Q hK => by
    obtain ⟨e1, g, h1, h2, cs, h3, h4⟩ := dep_at hd jp hp hΓp
    obtain ⟨B, c, h5, h6, h7⟩ := dep_k hd jv hv hΓv
    obtain ⟨cl⟩ := cs
    match cl, h4 with
    | [u0, u1, u2], _ =>
    have hrun := run_storeS h3 hop h1 h5
    have hne : ∀ p, B = some p → p.block ≠ g := fun p hp => (h7 p hp).ne h3 (by decide)
    have hg' := set3_heap (.int .i64 h) (.int .i64 lv) (.slice B n c) h3
    have hkt : KTI h lv n l (.agg #[(.int .i64 h), (.int .i64 lv), .slice B n c]) (((W.setCell ⟨g, 0, none⟩ (.int .i64 h)).setCell ⟨g, 1, none⟩ (.int .i64 lv)).setCell ⟨g, 2, none⟩ (.slice B n c)) :=
      ⟨B, c, rfl, ((h6.sets (fun _ => hne) 0 _).sets (fun _ => hne) 1 _).sets (fun _ => hne) 2 _, fun p hp => (((h7 p hp).sets (hne p hp) 0 _).sets (hne p hp) 1 _).sets (hne p hp) 2 _⟩
    unfold Oper.wp
    rw [hrun]
    refine hK undef _ ⟨g, e1.trans h1, h2, _, hg', hkt⟩ ⟨rfl, rfl, rfl, by simp [World.setCell], by decide, fun k hk => ?_⟩
    rcases Nat.decEq k g with hkg | rfl
    · exact .inl (by rw [Below.heap_setCell _ _ _ _ hkg, Below.heap_setCell _ _ _ _ hkg, Below.heap_setCell _ _ _ _ hkg])
    · exact .inr ⟨h2, ⟨_, h3⟩, _, hg', hkt⟩, hn⟩
end
end RelH
end Go.Proofs.YtdeapbihbhoefaaGreatDoor

/- Steps of drawn regions whose side conditions are found by themselves. -/
namespace Go.Proofs.YtdeapbihbhoefaaGreatDoor
open Go.RowKit
open Calm (bcell Blk)
namespace Rel
section
variable {P : Program} {DS : List Tmp} {w0 : World} {a0 : Act} {T : Ctx → Prop} {Γ : Ctx} {o : Oper} {rest : List Oper}
theorem opz {v : Value} (hg : GOK3 Γ o := by (first | exact Rel.gno rfl | exact Rel.gyes _ true _ rfl rfl rfl | exact Rel.gyes _ false _ rfl rfl rfl)) (h : (∀ (a : Act) (W : World), Below w0.heap.size w0 W → deps Γ a W (ons o) → (∀ t, t ∉ DS → a.eval (.tmp t) = a0.eval (.tmp t)) → (execOp a.eval o).run P W = .ok (.value v) W) := by intro a W hb hd hbase; obtain ⟨hc, hf⟩ := bcell hb; clear hb hf; simp [Rel.deps, Rel.dep1, Rel.ons, Region.binds, Act.eval, KV] at hd; simp only [Act.eval, List.mem_cons, List.not_mem_nil, not_or, and_imp, or_false, Array.getD_eq_getD_getElem?] at hbase; go_simp; (try go_bits); (try rfl); done)
    (hn : walk3 P DS w0 a0 T (Γ ++ [(o.dst, fun u _ => u = v)]) rest) : walk3 P DS w0 a0 T Γ (o :: rest) := op3 v hg h hn
end
end Rel
namespace RelH
open Rel (ons)
section
variable {S : World → World → Prop} {P : Program} {DS : List Tmp} {w0 : World} {a0 : Act} {T : Ctx → Prop} {Γ : Ctx} {o : Oper} {rest : List Oper}
end
end RelH
/-- nothing old turns, as can be seen. -/
theorem bel {b : Nat} {W W' : World} (h : Below b W W' := by (repeat (first | (with_reducible exact Below.refl _ _) | ((with_reducible refine Below.setCell ?_ ?_ _); rotate_left 1; (focus (first | (simp; done) | (simp; omega) | (simp at *; omega)))) | ((with_reducible refine Below.alloc ?_ ?_ _); rotate_left 1; (focus (first | (simp; done) | (simp; omega) | (simp at *; omega))))))) : Below b W W' := h
end Go.Proofs.YtdeapbihbhoefaaGreatDoor
