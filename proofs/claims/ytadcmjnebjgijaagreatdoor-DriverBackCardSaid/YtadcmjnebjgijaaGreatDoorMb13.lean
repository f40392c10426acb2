/- Part 13 of the texts of the claim: T14, T11, It5, It6. -/
import Derived.Test.YtadcmjnebjgijaaGreatDoorMb12
import Derived.Test.YtadcmjnebjgijaaGreatDoorMb11
import Derived.Test.YtadcmjnebjgijaaGreatDoorMb10
import Derived.Test.YtadcmjnebjgijaaGreatDoorMb9
import Derived.WalkMore

/- DriverBack, plain: what is printed is parsed; what is parsed is printed. -/
namespace Go.Proofs.YtadcmjnebjgijaaGreatDoor
open Go.Lib
theorem cutL_one {a : List UInt8} (h : ∀ x ∈ a, x ≠ 32) : cutL 32 a = [a] := by
  induction a with
  | nil => rfl
  | cons y r ih =>
    unfold cutL
    rw [if_neg (h y (by simp)), ih (fun x hx => h x (by simp [hx]))]
theorem cutL_app {a b : List UInt8} (h : ∀ x ∈ a, x ≠ 32) : cutL 32 (a ++ 32 :: b) = a :: cutL 32 b := by
  induction a with
  | nil => rw [List.nil_append, cutL, if_pos rfl]
  | cons y r ih =>
    rw [List.cons_append, cutL, if_neg (h y (by simp)), ih (fun x hx => h x (by simp [hx]))]
theorem dec_no (u : Nat) : ∀ x ∈ decDigits u, x ≠ 32 := by
  intro x hx e
  have h := (canon_dec u).1.2.1
  rw [List.all_eq_true] at h
  have := h x hx
  subst e
  revert this
  decide
/-- words joined by blanks. -/
def joinL : List (List UInt8) → List UInt8
  | [] => []
  | [x] => x
  | x :: y :: t => x ++ 32 :: joinL (y :: t)
theorem join_cut : ∀ l : List UInt8, joinL (cutL 32 l) = l
  | [] => rfl
  | x :: r => by
    have ih := join_cut r
    unfold cutL
    by_cases h : x = 32
    · rw [if_pos h]
      cases hr : cutL 32 r with
      | nil => exact absurd hr (cutL_ne 32 r)
      | cons a t =>
        rw [hr] at ih
        show [] ++ 32 :: joinL (a :: t) = _
        rw [ih, h]; rfl
    · rw [if_neg h]
      cases hr : cutL 32 r with
      | nil => exact absurd hr (cutL_ne 32 r)
      | cons a t =>
        rw [hr] at ih
        simp only []
        cases t with
        | nil => show x :: a = _; rw [show a = r from ih]
        | cons b u => show (x :: a) ++ 32 :: joinL (b :: u) = _; rw [← ih]; rfl
theorem drvW_no : ∀ x ∈ drvW, x ≠ 32 := by decide
theorem txt_eq (n1 n2 n3 n4 n5 n6 : Nat) : txtP [(n1 : Int), (n2 : Int), (n3 : Int), (n4 : Int), (n5 : Int), (n6 : Int)] 6 = drvW ++ 32 :: (decDigits n1 ++ 32 :: (decDigits n2 ++ 32 :: (decDigits n3 ++ 32 :: (decDigits n4 ++ 32 :: (decDigits n5 ++ 32 :: decDigits n6))))) := by
  simp [txtP, itoa_nat]
theorem cut_txt (n1 n2 n3 n4 n5 n6 : Nat) : cutL 32 (txtP [(n1 : Int), (n2 : Int), (n3 : Int), (n4 : Int), (n5 : Int), (n6 : Int)] 6) = [drvW, decDigits n1, decDigits n2, decDigits n3, decDigits n4, decDigits n5, decDigits n6] := by
  rw [txt_eq, cutL_app drvW_no, cutL_app (dec_no n1), cutL_app (dec_no n2), cutL_app (dec_no n3), cutL_app (dec_no n4), cutL_app (dec_no n5), cutL_one (dec_no n6)]
/-- a driver is parsed as it was printed. -/
theorem parse_print {n1 n2 n3 n4 n5 n6 : Nat} (h : drvErr n1 n2 n3 n4 n5 n6 = 0) (l1 : (decDigits n1).length ≤ 9) (l2 : (decDigits n2).length ≤ 9) (l3 : (decDigits n3).length ≤ 9) (l4 : (decDigits n4).length ≤ 9) (l5 : (decDigits n5).length ≤ 9) (l6 : (decDigits n6).length ≤ 9) :
    PRes (txtP [(n1 : Int), (n2 : Int), (n3 : Int), (n4 : Int), (n5 : Int), (n6 : Int)] 6) n1 n2 n3 n4 n5 n6 0 := by
  refine .inr (.inr ⟨?_, _, _, _, _, _, _, cut_txt n1 n2 n3 n4 n5 n6, .inr ⟨n1, n2, n3, n4, n5, n6, ⟨numL_dec l1, numL_dec l2, numL_dec l3, numL_dec l4, numL_dec l5, numL_dec l6⟩, .inr ⟨h, ⟨rfl, rfl, rfl, rfl, rfl, rfl⟩, rfl⟩⟩⟩)
  rw [txt_eq]
  simp only [List.length_append, List.length_cons]
  have : drvW.length = 6 := rfl
  omega
theorem num_lf (q : List UInt8) : numL (q ++ [10]) = none := by
  unfold numL Canon
  rw [if_neg]
  rintro ⟨_, _, h, _⟩
  rw [List.all_append, Bool.and_eq_true] at h
  exact absurd h.2 (by decide)
/-- with a line feed behind it, it is not parsed. -/
theorem parse_lf {n1 n2 n3 n4 n5 n6 : Nat} (l1 : (decDigits n1).length ≤ 9) (l2 : (decDigits n2).length ≤ 9) (l3 : (decDigits n3).length ≤ 9) (l4 : (decDigits n4).length ≤ 9) (l5 : (decDigits n5).length ≤ 9) (l6 : (decDigits n6).length ≤ 9) :
    PRes (txtP [(n1 : Int), (n2 : Int), (n3 : Int), (n4 : Int), (n5 : Int), (n6 : Int)] 6 ++ [10]) 0 0 0 0 0 0 26 := by
  have hc : cutL 32 (txtP [(n1 : Int), (n2 : Int), (n3 : Int), (n4 : Int), (n5 : Int), (n6 : Int)] 6 ++ [10]) = [drvW, decDigits n1, decDigits n2, decDigits n3, decDigits n4, decDigits n5, decDigits n6 ++ [10]] := by
    rw [cutL_snoc (c := 32) (x := 10) (out := [drvW, decDigits n1, decDigits n2, decDigits n3, decDigits n4, decDigits n5]) (q := decDigits n6) (by rw [cut_txt]; rfl), if_neg (by decide)]; rfl
  refine .inr (.inr ⟨?_, _, _, _, _, _, _, hc, .inl ⟨.inr (.inr (.inr (.inr (.inr (num_lf _))))), ⟨rfl, rfl, rfl, rfl, rfl, rfl⟩, rfl⟩⟩)
  rw [txt_eq]
  simp only [List.length_append, List.length_cons, List.length_nil]
  have : drvW.length = 6 := rfl
  omega
/-- whatever is parsed is printed as it was. -/
theorem print_parse {l : List UInt8} {a b c d e f : Int} (h : PRes l a b c d e f 0) : drvErr a b c d e f = 0 ∧ txtP [a, b, c, d, e, f] 6 = l := by
  rcases h with ⟨_, _, h⟩ | ⟨_, _, _, h⟩ | ⟨_, w1, w2, w3, w4, w5, w6, hw, h⟩
  · omega
  · omega
  · rcases h with ⟨_, _, h⟩ | ⟨n1, n2, n3, n4, n5, n6, ⟨e1, e2, e3, e4, e5, e6⟩, h⟩
    · omega
    · rcases h with ⟨h0, _, h⟩ | ⟨h0, ⟨rfl, rfl, rfl, rfl, rfl, rfl⟩, _⟩
      · exact absurd h.symm h0
      · refine ⟨h0, ?_⟩
        have hj := join_cut l
        rw [hw] at hj
        rw [txt_eq, (numL_some e1).2.2.2.1, (numL_some e2).2.2.2.1, (numL_some e3).2.2.2.1, (numL_some e4).2.2.2.1, (numL_some e5).2.2.2.1, (numL_some e6).2.2.2.1]
        exact hj
end Go.Proofs.YtadcmjnebjgijaaGreatDoor

/- The reference's Print. -/
namespace Go.Proofs.YtadcmjnebjgijaaGreatDoor
open Go.RowKit
open Go.Lib
open Calm (bcell Blk)
theorem cat_small (x y : ByteArray) (W : World) (h : x.size + y.size ≤ 1000) : (binOp .add 9 (.string x) (.string y)).run Tryz.prog W = .ok (.string (x ++ y)) W := by
  have hn : ¬ 9223372036854775807 < x.size + y.size := by omega
  simp [go_sem, hn]
set_option maxRecDepth 100000 in
set_option maxHeartbeats 4000000 in
theorem rprint_ok (n1 n2 n3 n4 n5 n6 : Nat) (w : World) (l1 : (decDigits n1).length ≤ 9) (l2 : (decDigits n2).length ≤ 9) (l3 : (decDigits n3).length ≤ 9) (l4 : (decDigits n4).length ≤ 9) (l5 : (decDigits n5).length ≤ 9) (l6 : (decDigits n6).length ≤ 9)
    (h1 : n1 ≤ 5000) (h2 : n2 ≤ 5000) (h3 : n3 ≤ 5000) (h4 : n4 ≤ 5000) (h5 : n5 ≤ 5000) (h6 : n6 ≤ 5000) :
    Calls Tryz.prog 9 #[.agg #[(.int .i64 ((n1 : Int))), (.int .i64 ((n2 : Int))), (.int .i64 ((n3 : Int))), (.int .i64 ((n4 : Int))), (.int .i64 ((n5 : Int))), (.int .i64 ((n6 : Int)))]] w fun r w' => r = .returned (.string ⟨(txtP [(n1 : Int), (n2 : Int), (n3 : Int), (n4 : Int), (n5 : Int), (n6 : Int)] 6).toArray⟩) ∧ Below w.heap.size w w' := by
  go_enter Tryz.func9, Tryz.ntmps9
  go_wp2
  refine Rel.region3 28 (by kernel_rfl) (by kernel_rfl) (by kernel_rfl) ?_
  simp only [List.take_succ_cons, List.take_zero, List.drop_succ_cons, List.drop_zero, List.filterMap_cons, List.filterMap_nil]
  iterate 1 (apply Rel.op3; (focus (first | exact Rel.gno rfl | exact Rel.gyes _ true _ rfl rfl rfl | exact Rel.gyes _ false _ rfl rfl rfl)); (focus (intro a W hb hd hbase; obtain ⟨hc, hf⟩ := bcell hb; clear hb hf; simp [Rel.deps, Rel.dep1, Rel.ons, Region.binds, Act.eval] at hd; simp only [Act.eval, List.mem_cons, List.not_mem_nil, not_or, and_imp, or_false, Array.getD_eq_getD_getElem?] at hbase; go_simp; (try go_bits); (try rfl); done)); (try simp only [List.nil_append, List.cons_append]))
  iterate 1 (apply Rel.op3; (focus (first | exact Rel.gno rfl | exact Rel.gyes _ true _ rfl rfl rfl | exact Rel.gyes _ false _ rfl rfl rfl)); (focus (intro a W hb hd hbase; obtain ⟨hc, hf⟩ := bcell hb; clear hb hf; simp [Rel.deps, Rel.dep1, Rel.ons, Region.binds, Act.eval] at hd; simp only [Act.eval, List.mem_cons, List.not_mem_nil, not_or, and_imp, or_false, Array.getD_eq_getD_getElem?] at hbase; go_simp; (try go_bits); (try rfl); done)); (try simp only [List.nil_append, List.cons_append]))
  (apply Rel.call3; (focus (first | exact Rel.gno rfl | exact Rel.gyes _ true _ rfl rfl rfl | exact Rel.gyes _ false _ rfl rfl rfl)); (focus (intro a W hb hd hbase; obtain ⟨hc, hf⟩ := bcell hb; clear hb hf; simp [Rel.deps, Rel.dep1, Rel.ons, Region.binds, Act.eval] at hd; simp only [Act.eval, List.mem_cons, List.not_mem_nil, not_or, and_imp, or_false, Array.getD_eq_getD_getElem?] at hbase; go_simp; refine ⟨?_, ?_⟩; rfl; rfl)); (focus (intro W hb; go_at_call 38; exact (text_nat n1 _ (by omega)).mono (fun _ _ ⟨he, h2⟩ => ⟨he, h2 ▸ Below.refl _ _⟩))); (try simp only [List.nil_append, List.cons_append]))
  (apply Rel.op3; (focus (first | exact Rel.gno rfl | exact Rel.gyes _ true _ rfl rfl rfl | exact Rel.gyes _ false _ rfl rfl rfl)); (focus (intro a W hb hd hbase; obtain ⟨hc, hf⟩ := bcell hb; clear hb hf; simp [Rel.deps, Rel.dep1, Rel.ons, Region.binds, Act.eval] at hd; simp only [Act.eval, List.mem_cons, List.not_mem_nil, not_or, and_imp, or_false, Array.getD_eq_getD_getElem?] at hbase; go_simp; (try rw [if_neg (by first | omega | (simp; omega))]); (try rfl); done)); (try simp only [List.nil_append, List.cons_append]))
  (apply Rel.op3; (focus (first | exact Rel.gno rfl | exact Rel.gyes _ true _ rfl rfl rfl | exact Rel.gyes _ false _ rfl rfl rfl)); (focus (intro a W hb hd hbase; obtain ⟨hc, hf⟩ := bcell hb; clear hb hf; simp [Rel.deps, Rel.dep1, Rel.ons, Region.binds, Act.eval] at hd; simp only [Act.eval, List.mem_cons, List.not_mem_nil, not_or, and_imp, or_false, Array.getD_eq_getD_getElem?] at hbase; go_simp; (try rw [if_neg (by first | omega | (simp; omega))]); (try rfl); done)); (try simp only [List.nil_append, List.cons_append]))
  iterate 1 (apply Rel.op3; (focus (first | exact Rel.gno rfl | exact Rel.gyes _ true _ rfl rfl rfl | exact Rel.gyes _ false _ rfl rfl rfl)); (focus (intro a W hb hd hbase; obtain ⟨hc, hf⟩ := bcell hb; clear hb hf; simp [Rel.deps, Rel.dep1, Rel.ons, Region.binds, Act.eval] at hd; simp only [Act.eval, List.mem_cons, List.not_mem_nil, not_or, and_imp, or_false, Array.getD_eq_getD_getElem?] at hbase; go_simp; (try go_bits); (try rfl); done)); (try simp only [List.nil_append, List.cons_append]))
  iterate 1 (apply Rel.op3; (focus (first | exact Rel.gno rfl | exact Rel.gyes _ true _ rfl rfl rfl | exact Rel.gyes _ false _ rfl rfl rfl)); (focus (intro a W hb hd hbase; obtain ⟨hc, hf⟩ := bcell hb; clear hb hf; simp [Rel.deps, Rel.dep1, Rel.ons, Region.binds, Act.eval] at hd; simp only [Act.eval, List.mem_cons, List.not_mem_nil, not_or, and_imp, or_false, Array.getD_eq_getD_getElem?] at hbase; go_simp; (try go_bits); (try rfl); done)); (try simp only [List.nil_append, List.cons_append]))
  (apply Rel.call3; (focus (first | exact Rel.gno rfl | exact Rel.gyes _ true _ rfl rfl rfl | exact Rel.gyes _ false _ rfl rfl rfl)); (focus (intro a W hb hd hbase; obtain ⟨hc, hf⟩ := bcell hb; clear hb hf; simp [Rel.deps, Rel.dep1, Rel.ons, Region.binds, Act.eval] at hd; simp only [Act.eval, List.mem_cons, List.not_mem_nil, not_or, and_imp, or_false, Array.getD_eq_getD_getElem?] at hbase; go_simp; refine ⟨?_, ?_⟩; rfl; rfl)); (focus (intro W hb; go_at_call 38; exact (text_nat n2 _ (by omega)).mono (fun _ _ ⟨he, h2⟩ => ⟨he, h2 ▸ Below.refl _ _⟩))); (try simp only [List.nil_append, List.cons_append]))
  (apply Rel.op3; (focus (first | exact Rel.gno rfl | exact Rel.gyes _ true _ rfl rfl rfl | exact Rel.gyes _ false _ rfl rfl rfl)); (focus (intro a W hb hd hbase; obtain ⟨hc, hf⟩ := bcell hb; clear hb hf; simp [Rel.deps, Rel.dep1, Rel.ons, Region.binds, Act.eval] at hd; simp only [Act.eval, List.mem_cons, List.not_mem_nil, not_or, and_imp, or_false, Array.getD_eq_getD_getElem?] at hbase; go_simp; (try rw [if_neg (by first | omega | (simp; omega))]); (try rfl); done)); (try simp only [List.nil_append, List.cons_append]))
  (apply Rel.op3; (focus (first | exact Rel.gno rfl | exact Rel.gyes _ true _ rfl rfl rfl | exact Rel.gyes _ false _ rfl rfl rfl)); (focus (intro a W hb hd hbase; obtain ⟨hc, hf⟩ := bcell hb; clear hb hf; simp [Rel.deps, Rel.dep1, Rel.ons, Region.binds, Act.eval] at hd; simp only [Act.eval, List.mem_cons, List.not_mem_nil, not_or, and_imp, or_false, Array.getD_eq_getD_getElem?] at hbase; go_simp; (try rw [if_neg (by first | omega | (simp; omega))]); (try rfl); done)); (try simp only [List.nil_append, List.cons_append]))
  iterate 1 (apply Rel.op3; (focus (first | exact Rel.gno rfl | exact Rel.gyes _ true _ rfl rfl rfl | exact Rel.gyes _ false _ rfl rfl rfl)); (focus (intro a W hb hd hbase; obtain ⟨hc, hf⟩ := bcell hb; clear hb hf; simp [Rel.deps, Rel.dep1, Rel.ons, Region.binds, Act.eval] at hd; simp only [Act.eval, List.mem_cons, List.not_mem_nil, not_or, and_imp, or_false, Array.getD_eq_getD_getElem?] at hbase; go_simp; (try go_bits); (try rfl); done)); (try simp only [List.nil_append, List.cons_append]))
  iterate 1 (apply Rel.op3; (focus (first | exact Rel.gno rfl | exact Rel.gyes _ true _ rfl rfl rfl | exact Rel.gyes _ false _ rfl rfl rfl)); (focus (intro a W hb hd hbase; obtain ⟨hc, hf⟩ := bcell hb; clear hb hf; simp [Rel.deps, Rel.dep1, Rel.ons, Region.binds, Act.eval] at hd; simp only [Act.eval, List.mem_cons, List.not_mem_nil, not_or, and_imp, or_false, Array.getD_eq_getD_getElem?] at hbase; go_simp; (try go_bits); (try rfl); done)); (try simp only [List.nil_append, List.cons_append]))
  (apply Rel.call3; (focus (first | exact Rel.gno rfl | exact Rel.gyes _ true _ rfl rfl rfl | exact Rel.gyes _ false _ rfl rfl rfl)); (focus (intro a W hb hd hbase; obtain ⟨hc, hf⟩ := bcell hb; clear hb hf; simp [Rel.deps, Rel.dep1, Rel.ons, Region.binds, Act.eval] at hd; simp only [Act.eval, List.mem_cons, List.not_mem_nil, not_or, and_imp, or_false, Array.getD_eq_getD_getElem?] at hbase; go_simp; refine ⟨?_, ?_⟩; rfl; rfl)); (focus (intro W hb; go_at_call 38; exact (text_nat n3 _ (by omega)).mono (fun _ _ ⟨he, h2⟩ => ⟨he, h2 ▸ Below.refl _ _⟩))); (try simp only [List.nil_append, List.cons_append]))
  (apply Rel.op3; (focus (first | exact Rel.gno rfl | exact Rel.gyes _ true _ rfl rfl rfl | exact Rel.gyes _ false _ rfl rfl rfl)); (focus (intro a W hb hd hbase; obtain ⟨hc, hf⟩ := bcell hb; clear hb hf; simp [Rel.deps, Rel.dep1, Rel.ons, Region.binds, Act.eval] at hd; simp only [Act.eval, List.mem_cons, List.not_mem_nil, not_or, and_imp, or_false, Array.getD_eq_getD_getElem?] at hbase; go_simp; (try rw [if_neg (by first | omega | (simp; omega))]); (try rfl); done)); (try simp only [List.nil_append, List.cons_append]))
  (apply Rel.op3; (focus (first | exact Rel.gno rfl | exact Rel.gyes _ true _ rfl rfl rfl | exact Rel.gyes _ false _ rfl rfl rfl)); (focus (intro a W hb hd hbase; obtain ⟨hc, hf⟩ := bcell hb; clear hb hf; simp [Rel.deps, Rel.dep1, Rel.ons, Region.binds, Act.eval] at hd; simp only [Act.eval, List.mem_cons, List.not_mem_nil, not_or, and_imp, or_false, Array.getD_eq_getD_getElem?] at hbase; go_simp; (try rw [if_neg (by first | omega | (simp; omega))]); (try rfl); done)); (try simp only [List.nil_append, List.cons_append]))
  iterate 1 (apply Rel.op3; (focus (first | exact Rel.gno rfl | exact Rel.gyes _ true _ rfl rfl rfl | exact Rel.gyes _ false _ rfl rfl rfl)); (focus (intro a W hb hd hbase; obtain ⟨hc, hf⟩ := bcell hb; clear hb hf; simp [Rel.deps, Rel.dep1, Rel.ons, Region.binds, Act.eval] at hd; simp only [Act.eval, List.mem_cons, List.not_mem_nil, not_or, and_imp, or_false, Array.getD_eq_getD_getElem?] at hbase; go_simp; (try go_bits); (try rfl); done)); (try simp only [List.nil_append, List.cons_append]))
  iterate 1 (apply Rel.op3; (focus (first | exact Rel.gno rfl | exact Rel.gyes _ true _ rfl rfl rfl | exact Rel.gyes _ false _ rfl rfl rfl)); (focus (intro a W hb hd hbase; obtain ⟨hc, hf⟩ := bcell hb; clear hb hf; simp [Rel.deps, Rel.dep1, Rel.ons, Region.binds, Act.eval] at hd; simp only [Act.eval, List.mem_cons, List.not_mem_nil, not_or, and_imp, or_false, Array.getD_eq_getD_getElem?] at hbase; go_simp; (try go_bits); (try rfl); done)); (try simp only [List.nil_append, List.cons_append]))
  (apply Rel.call3; (focus (first | exact Rel.gno rfl | exact Rel.gyes _ true _ rfl rfl rfl | exact Rel.gyes _ false _ rfl rfl rfl)); (focus (intro a W hb hd hbase; obtain ⟨hc, hf⟩ := bcell hb; clear hb hf; simp [Rel.deps, Rel.dep1, Rel.ons, Region.binds, Act.eval] at hd; simp only [Act.eval, List.mem_cons, List.not_mem_nil, not_or, and_imp, or_false, Array.getD_eq_getD_getElem?] at hbase; go_simp; refine ⟨?_, ?_⟩; rfl; rfl)); (focus (intro W hb; go_at_call 38; exact (text_nat n4 _ (by omega)).mono (fun _ _ ⟨he, h2⟩ => ⟨he, h2 ▸ Below.refl _ _⟩))); (try simp only [List.nil_append, List.cons_append]))
  (apply Rel.op3; (focus (first | exact Rel.gno rfl | exact Rel.gyes _ true _ rfl rfl rfl | exact Rel.gyes _ false _ rfl rfl rfl)); (focus (intro a W hb hd hbase; obtain ⟨hc, hf⟩ := bcell hb; clear hb hf; simp [Rel.deps, Rel.dep1, Rel.ons, Region.binds, Act.eval] at hd; simp only [Act.eval, List.mem_cons, List.not_mem_nil, not_or, and_imp, or_false, Array.getD_eq_getD_getElem?] at hbase; go_simp; (try rw [if_neg (by first | omega | (simp; omega))]); (try rfl); done)); (try simp only [List.nil_append, List.cons_append]))
  (apply Rel.op3; (focus (first | exact Rel.gno rfl | exact Rel.gyes _ true _ rfl rfl rfl | exact Rel.gyes _ false _ rfl rfl rfl)); (focus (intro a W hb hd hbase; obtain ⟨hc, hf⟩ := bcell hb; clear hb hf; simp [Rel.deps, Rel.dep1, Rel.ons, Region.binds, Act.eval] at hd; simp only [Act.eval, List.mem_cons, List.not_mem_nil, not_or, and_imp, or_false, Array.getD_eq_getD_getElem?] at hbase; go_simp; (try rw [if_neg (by first | omega | (simp; omega))]); (try rfl); done)); (try simp only [List.nil_append, List.cons_append]))
  iterate 1 (apply Rel.op3; (focus (first | exact Rel.gno rfl | exact Rel.gyes _ true _ rfl rfl rfl | exact Rel.gyes _ false _ rfl rfl rfl)); (focus (intro a W hb hd hbase; obtain ⟨hc, hf⟩ := bcell hb; clear hb hf; simp [Rel.deps, Rel.dep1, Rel.ons, Region.binds, Act.eval] at hd; simp only [Act.eval, List.mem_cons, List.not_mem_nil, not_or, and_imp, or_false, Array.getD_eq_getD_getElem?] at hbase; go_simp; (try go_bits); (try rfl); done)); (try simp only [List.nil_append, List.cons_append]))
  iterate 1 (apply Rel.op3; (focus (first | exact Rel.gno rfl | exact Rel.gyes _ true _ rfl rfl rfl | exact Rel.gyes _ false _ rfl rfl rfl)); (focus (intro a W hb hd hbase; obtain ⟨hc, hf⟩ := bcell hb; clear hb hf; simp [Rel.deps, Rel.dep1, Rel.ons, Region.binds, Act.eval] at hd; simp only [Act.eval, List.mem_cons, List.not_mem_nil, not_or, and_imp, or_false, Array.getD_eq_getD_getElem?] at hbase; go_simp; (try go_bits); (try rfl); done)); (try simp only [List.nil_append, List.cons_append]))
  (apply Rel.call3; (focus (first | exact Rel.gno rfl | exact Rel.gyes _ true _ rfl rfl rfl | exact Rel.gyes _ false _ rfl rfl rfl)); (focus (intro a W hb hd hbase; obtain ⟨hc, hf⟩ := bcell hb; clear hb hf; simp [Rel.deps, Rel.dep1, Rel.ons, Region.binds, Act.eval] at hd; simp only [Act.eval, List.mem_cons, List.not_mem_nil, not_or, and_imp, or_false, Array.getD_eq_getD_getElem?] at hbase; go_simp; refine ⟨?_, ?_⟩; rfl; rfl)); (focus (intro W hb; go_at_call 38; exact (text_nat n5 _ (by omega)).mono (fun _ _ ⟨he, h2⟩ => ⟨he, h2 ▸ Below.refl _ _⟩))); (try simp only [List.nil_append, List.cons_append]))
  (apply Rel.op3; (focus (first | exact Rel.gno rfl | exact Rel.gyes _ true _ rfl rfl rfl | exact Rel.gyes _ false _ rfl rfl rfl)); (focus (intro a W hb hd hbase; obtain ⟨hc, hf⟩ := bcell hb; clear hb hf; simp [Rel.deps, Rel.dep1, Rel.ons, Region.binds, Act.eval] at hd; simp only [Act.eval, List.mem_cons, List.not_mem_nil, not_or, and_imp, or_false, Array.getD_eq_getD_getElem?] at hbase; go_simp; (try rw [if_neg (by first | omega | (simp; omega))]); (try rfl); done)); (try simp only [List.nil_append, List.cons_append]))
  (apply Rel.op3; (focus (first | exact Rel.gno rfl | exact Rel.gyes _ true _ rfl rfl rfl | exact Rel.gyes _ false _ rfl rfl rfl)); (focus (intro a W hb hd hbase; obtain ⟨hc, hf⟩ := bcell hb; clear hb hf; simp [Rel.deps, Rel.dep1, Rel.ons, Region.binds, Act.eval] at hd; simp only [Act.eval, List.mem_cons, List.not_mem_nil, not_or, and_imp, or_false, Array.getD_eq_getD_getElem?] at hbase; go_simp; (try rw [if_neg (by first | omega | (simp; omega))]); (try rfl); done)); (try simp only [List.nil_append, List.cons_append]))
  iterate 1 (apply Rel.op3; (focus (first | exact Rel.gno rfl | exact Rel.gyes _ true _ rfl rfl rfl | exact Rel.gyes _ false _ rfl rfl rfl)); (focus (intro a W hb hd hbase; obtain ⟨hc, hf⟩ := bcell hb; clear hb hf; simp [Rel.deps, Rel.dep1, Rel.ons, Region.binds, Act.eval] at hd; simp only [Act.eval, List.mem_cons, List.not_mem_nil, not_or, and_imp, or_false, Array.getD_eq_getD_getElem?] at hbase; go_simp; (try go_bits); (try rfl); done)); (try simp only [List.nil_append, List.cons_append]))
  iterate 1 (apply Rel.op3; (focus (first | exact Rel.gno rfl | exact Rel.gyes _ true _ rfl rfl rfl | exact Rel.gyes _ false _ rfl rfl rfl)); (focus (intro a W hb hd hbase; obtain ⟨hc, hf⟩ := bcell hb; clear hb hf; simp [Rel.deps, Rel.dep1, Rel.ons, Region.binds, Act.eval] at hd; simp only [Act.eval, List.mem_cons, List.not_mem_nil, not_or, and_imp, or_false, Array.getD_eq_getD_getElem?] at hbase; go_simp; (try go_bits); (try rfl); done)); (try simp only [List.nil_append, List.cons_append]))
  (apply Rel.call3; (focus (first | exact Rel.gno rfl | exact Rel.gyes _ true _ rfl rfl rfl | exact Rel.gyes _ false _ rfl rfl rfl)); (focus (intro a W hb hd hbase; obtain ⟨hc, hf⟩ := bcell hb; clear hb hf; simp [Rel.deps, Rel.dep1, Rel.ons, Region.binds, Act.eval] at hd; simp only [Act.eval, List.mem_cons, List.not_mem_nil, not_or, and_imp, or_false, Array.getD_eq_getD_getElem?] at hbase; go_simp; refine ⟨?_, ?_⟩; rfl; rfl)); (focus (intro W hb; go_at_call 38; exact (text_nat n6 _ (by omega)).mono (fun _ _ ⟨he, h2⟩ => ⟨he, h2 ▸ Below.refl _ _⟩))); (try simp only [List.nil_append, List.cons_append]))
  refine Rel.done3 ?_
  intro x w2 h2 hx
  simp only [Rel.facts, Nat.zero_add, Nat.reduceAdd] at hx
  obtain ⟨e0, e1, e2, e3, e4, e5, e6, e7, e8, e9, e10, e11, e12, e13, e14, e15, e16, e17, e18, e19, e20, e21, e22, e23, e24, e25, e26, e27, _⟩ := hx
  simp only [Rel.fill, Nat.zero_add, Nat.reduceAdd, e0, e1, e2, e3, e4, e5, e6, e7, e8, e9, e10, e11, e12, e13, e14, e15, e16, e17, e18, e19, e20, e21, e22, e23, e24, e25, e26, e27]
  simp only [Act.put, List.setIfInBounds_toArray, List.set_cons_zero, List.set_cons_succ]
  clear e0 e1 e2 e3 e4 e5 e6 e7 e8 e9 e10 e11 e12 e13 e14 e15 e16 e17 e18 e19 e20 e21 e22 e23 e24 e25 e26 e27
  go_wp2
  go_ret
  refine ⟨?_, ((Below.refl _ _).alloc (Nat.le_refl _) _).trans (h2.mono (by simp))⟩
  simp only [Array.getD_eq_getD_getElem?, List.getElem?_toArray, List.getElem?_cons_succ, List.getElem?_cons_zero, Option.getD_some]
  congr 2
  apply ByteArray.ext
  simp [txtP, itoa_nat, drvW]
end Go.Proofs.YtadcmjnebjgijaaGreatDoor

/- Contracts of members and earlier. -/
namespace Go.Proofs.YtadcmjnebjgijaaGreatDoor
open Go.RowKit
open Calm (bcell Blk)

/-- the indices in a set, as far as i. -/
def memN (s i : Nat) : List Nat := (List.range i).filter fun j => s / 2 ^ j % 2 == 1
def memL (s : Nat) : List Nat := memN s 8
def ints (l : List Nat) : List Value := l.map fun n => (.int .i64 ((n : Nat)))
theorem ints_append (a b : List Nat) : ints (a ++ b) = ints a ++ ints b := by simp [ints]
theorem memN_succ (s i : Nat) : memN s (i + 1) = memN s i ++ (if s / 2 ^ i % 2 = 1 then [i] else []) := by
  unfold memN
  rw [List.range_succ, List.filter_append]
  by_cases h : s / 2 ^ i % 2 = 1 <;> simp [h]
theorem memN_le (s i : Nat) : (memN s i).length ≤ i := Nat.le_trans (List.length_filter_le _ _) (by simp)
theorem memN_end (s i j : Nat) (h : s / 2 ^ i = 0) (hij : i ≤ j) : memN s j = memN s i := by
  induction hij with
  | refl => rfl
  | @step j hj ih =>
    rw [memN_succ, ih]
    have : s / 2 ^ j = 0 := by
      have h1 : s < 2 ^ i := by
        rcases Nat.lt_or_ge s (2 ^ i) with h1 | h1
        · exact h1
        · have := Nat.div_pos h1 (Nat.two_pow_pos i); omega
      exact Nat.div_eq_of_lt (Nat.lt_of_lt_of_le h1 (Nat.pow_le_pow_right (by decide) hj))
    simp [this]
theorem div_top (s : Nat) (h : s < 256) : s / 2 ^ 8 = 0 := Nat.div_eq_of_lt h
theorem memL_eq (s i : Nat) (h : s / 2 ^ i = 0) (hi : i ≤ 8) : memL s = memN s i := memN_end s i 8 h hi
theorem memL_pos (s : Nat) (h : s < 256) (h1 : 1 ≤ s) : 0 < (memL s).length := by
  rcases Nat.eq_zero_or_pos (memL s).length with h0 | h0
  · exfalso
    have h2 := List.filter_eq_nil_iff.1 (List.eq_nil_of_length_eq_zero h0)
    have f0 := h2 0 (by simp)
    have f1 := h2 1 (by simp)
    have f2 := h2 2 (by simp)
    have f3 := h2 3 (by simp)
    have f4 := h2 4 (by simp)
    have f5 := h2 5 (by simp)
    have f6 := h2 6 (by simp)
    have f7 := h2 7 (by simp)
    simp at f0 f1 f2 f3 f4 f5 f6 f7
    omega
  · exact h0
theorem and_one (n : Nat) (h : n < 256) : bits .and .i64 (n : Nat) 1 = ((n % 2 : Nat) : Int) := by
  have := and64 n 1 (Nat.lt_trans h (by decide)) (by decide)
  rw [Nat.and_one_is_mod] at this
  exact this

set_option maxRecDepth 100000 in
set_option maxHeartbeats 4000000 in
theorem members_any (s : Nat) (w : World) (hs : s < 256) : Calls Tryz.prog 68 #[(.int .i64 ((s : Nat)))] w fun x w' => ∃ v, x = .returned v ∧ w'.ownsRow w.heap.size 3 1 v (memL s).length (ints (memL s)) ∧ Below w.heap.size w w' := by
  obtain ⟨i0, hi, hz0, hz1, hz2⟩ := info_parts Tryz.infoI
  go_enter Tryz.func68, Tryz.ntmps68
  go_wp2
  go_loopw [3, 4] (fun v i wr => ∃ k : Nat, k ≤ 8 ∧ i = (.int .i64 ((k : Nat))) ∧ wr.ownsRow w.heap.size 3 1 v (memN s k).length (ints (memN s k)) ∧ Below w.heap.size w wr) (fun _ i _ => 8 - (intOf i).toNat)
  case atStart => exact ⟨0, by omega, rfl, World.ownsRow_nil _ _ _ _, Below.refl _ _⟩
  case round =>
    obtain ⟨k, hk, rfl, hown, hB⟩ := hrel
    have hsz := hB.size
    have hle := memN_le s k
    obtain ⟨t, ht⟩ : ∃ t, t = s / 2 ^ k := ⟨_, rfl⟩
    have htl : t < 256 := by rw [ht]; exact Nat.lt_of_le_of_lt (Nat.div_le_self _ _) hs
    have ha := and_one t htl
    have hdv : ((s : Nat) : Int) / 2 ^ k = ((t : Nat) : Int) := by rw [ht]; simp
    have HT := Lib.hid ht
    have HO := Lib.hid hown
    have hk8 : k = 8 → t = 0 := fun e => by rw [ht, e]; exact div_top s hs
    have HS := Lib.hid (memN_succ s k)
    clear ht hown
    by_cases h0 : t = 0
    · have HE := Lib.hid (memL_eq s k (by rw [← HT.out]; exact h0) hk)
      subst h0
      clear hk8
      go_wp2
      go_ret
      exact ⟨_, rfl, by rw [HE.out]; exact HO.out, hB⟩
    · have hk7 : k < 8 := by rcases Nat.lt_or_ge k 8 with h | h; exact h; exact absurd (hk8 (by omega)) h0
      have htp : ¬ ((t : Nat) : Int) = 0 := by omega
      clear hk8
      rcases Nat.mod_two_eq_zero_or_one t with h2 | h2
      · have ha2 : bits .and .i64 (t : Nat) 1 = 0 := by rw [ha, h2]; rfl
        have H2 := Lib.hid h2
        clear ha h2
        go_wp2
        go_roundw
        case rel => exact ⟨k + 1, by omega, by go_num, by rw [HS.out, ← HT.out, if_neg (by rw [H2.out]; decide), List.append_nil]; exact HO.out, hB⟩
        case measure => simp [intOf]; omega
      · have ha2 : bits .and .i64 (t : Nat) 1 = 1 := by rw [ha, h2]; rfl
        have H2 := Lib.hid h2
        clear ha h2
        go_wp2_with (at_builtin; refine wpList_append_own _ rfl _ _ 67 rfl w.heap.size 3 i0 _ 1 8 Tryz.underlying67 hi hz0 hz1 hz2 rfl (by decide) _ _ _ rfl (HO.out.alloc _) ⟨wr.heap.size, 0, none⟩ 1 1 [(.int .i64 ((k : Nat)))] rfl rfl (by intro j u hj; match j, hj with | 0, hj => simp at hj; subst hj; simp [Addr.add]) (by intro u hu; simp at hu; subst hu; rfl) (by unfold maxLen; omega) (by omega) (by simp; omega) ?_; intro v' w2 hown' hgrow _)
        have hB2 : Below w.heap.size w w2 := (hB.alloc hsz _).grown hgrow (by simp; omega) (fun j hj => (HO.out.lt j hj).1)
        have HO2 := Lib.hid hown'
        clear hgrow hown'
        go_roundw
        case rel =>
          refine ⟨k + 1, by omega, by go_num, ?_, hB2⟩
          rw [HS.out, ← HT.out, if_pos H2.out, ints_append, List.length_append]
          exact HO2.out
        case measure => simp [intOf]; omega

/-- the first of two lists of one length. -/
def lexI : List Int → List Int → Bool
  | x :: a, y :: b => if x = y then lexI a b else decide (x < y)
  | _, _ => false
def earlierI (a b : List Int) : Bool := if a.length = b.length then lexI a b else decide (a.length < b.length)
theorem lexI_at : ∀ (a b : List Int) (k : Nat), (∀ j, j < k → a.getD j 0 = b.getD j 0) → k < a.length → k < b.length → a.getD k 0 ≠ b.getD k 0 → lexI a b = decide (a.getD k 0 < b.getD k 0)
  | x :: a, y :: b, 0, _, _, _, h => by
    simp at h
    simp [lexI, h]
  | x :: a, y :: b, k + 1, hj, h1, h2, h => by
    have e : x = y := by simpa using hj 0 (by omega)
    have := lexI_at a b k (fun j hjk => by simpa using hj (j + 1) (by omega)) (by simpa using h1) (by simpa using h2) (by simpa using h)
    simpa [lexI, e] using this
  | [], _, k, _, h1, _, _ => by simp at h1
  | _ :: _, [], k, _, _, h2, _ => by simp at h2
theorem lexI_same : ∀ (a b : List Int), a.length = b.length → (∀ j, j < a.length → a.getD j 0 = b.getD j 0) → lexI a b = false
  | [], [], _, _ => rfl
  | x :: a, y :: b, hl, hj => by
    have e : x = y := by simpa using hj 0 (by simp)
    have := lexI_same a b (by simpa using hl) (fun j hjk => by simpa using hj (j + 1) (by simpa using hjk))
    simpa [lexI, e] using this
  | [], _ :: _, hl, _ => by simp at hl
  | _ :: _, [], hl, _ => by simp at hl

set_option maxRecDepth 100000 in
set_option maxHeartbeats 4000000 in
theorem earlier_any (A B : Option Addr) (a b : List Int) (ca cb : Nat) (w : World) (hA : Cells w A a) (hB : Cells w B b) (h1 : a.length ≤ 1000) (h2 : b.length ≤ 1000) :
    Calls Tryz.prog 69 #[.slice A a.length ca, .slice B b.length cb] w fun x w' => x = .returned (.bool (earlierI a b)) ∧ w = w' := by
  obtain ⟨E, hE⟩ : ∃ E, E = earlierI a b := ⟨_, rfl⟩
  have HE := Lib.hid hE
  have HCA := Lib.hid hA
  have HCB := Lib.hid hB
  obtain ⟨N, hN⟩ : ∃ N, N = a.length := ⟨_, rfl⟩
  obtain ⟨M, hM⟩ : ∃ M, M = b.length := ⟨_, rfl⟩
  have HN := Lib.hid hN
  have HM := Lib.hid hM
  rw [← hE]
  rw [← hN] at h1 ⊢
  rw [← hM] at h2 ⊢
  clear hE hA hB hN hM
  by_cases hnm : N = M
  · have HNM := Lib.hid hnm
    subst hnm
    go_enter Tryz.func69, Tryz.ntmps69
    go_wp2
    go_loopw [19] (fun i wr => ∃ k : Nat, k ≤ N ∧ i = (.int .i64 ((k : Nat))) ∧ (∀ j, j < k → a.getD j 0 = b.getD j 0) ∧ wr = w) (fun i _ => N - (intOf i).toNat)
    case atStart => exact ⟨0, by omega, rfl, fun j hj => by omega, rfl⟩
    case round =>
      obtain ⟨k, hk, rfl, hz, rfl⟩ := hrel
      have HZ := Lib.hid hz
      clear hz
      by_cases hlt : k < N
      · have l1 : k < a.length := by rw [← HN.out]; exact hlt
        have l2 : k < b.length := by rw [← HM.out]; exact hlt
        obtain ⟨g, o, rfl, q1, k1⟩ := HCA.out (by omega)
        obtain ⟨g', o', rfl, q2, k2⟩ := HCB.out (by omega)
        have y1 := k1 k l1
        have y2 := k2 k l2
        obtain ⟨x, hx⟩ : ∃ x, x = a.getD k 0 := ⟨_, rfl⟩
        obtain ⟨y, hy⟩ : ∃ y, y = b.getD k 0 := ⟨_, rfl⟩
        rw [← hx] at y1
        rw [← hy] at y2
        have HX := Lib.hid hx
        have HY := Lib.hid hy
        clear k1 k2 hx hy l1 l2
        by_cases hxy : x = y
        · have HXY := Lib.hid hxy
          subst hxy
          go_wp2
          go_roundw
          case rel =>
            refine ⟨k + 1, by omega, by go_num, fun j hj => ?_, by first | rfl | trivial⟩
            rcases Nat.lt_or_ge j k with h | h
            · exact HZ.out j h
            · obtain rfl : j = k := by omega
              rw [← HX.out, ← HY.out]
          case measure => simp [intOf]; omega
        · have HEE := Lib.hid (show E = decide (x < y) by
            rw [HE.out]
            unfold earlierI
            rw [if_pos (HN.out.symm.trans HM.out), HX.out, HY.out]
            exact lexI_at a b k HZ.out (by rw [← HN.out]; exact hlt) (by rw [← HM.out]; exact hlt) (by rw [← HX.out, ← HY.out]; exact hxy))
          go_wp2
          go_ret
          exact ⟨by rw [HEE.out]; rfl, rfl⟩
      · obtain rfl : k = N := by omega
        have HEE := Lib.hid (show E = false by
          rw [HE.out]
          unfold earlierI
          rw [if_pos (HN.out.symm.trans HM.out)]
          exact lexI_same a b (HN.out.symm.trans HM.out) (by rw [← HN.out]; exact HZ.out))
        go_wp2
        go_ret
        exact ⟨by rw [HEE.out]; rfl, rfl⟩
  · have HEE := Lib.hid (show E = decide (N < M) by
      rw [HE.out]
      unfold earlierI
      rw [if_neg (by rw [← HN.out, ← HM.out]; exact hnm), HN.out, HM.out])
    have hnm2 : ¬ (N : Int) = (M : Int) := by omega
    go_enter Tryz.func69, Tryz.ntmps69
    go_wp2
    go_ret
    exact ⟨by rw [HEE.out]; simp, rfl⟩
end Go.Proofs.YtadcmjnebjgijaaGreatDoor

/- Contract of Conflict. -/
namespace Go.Proofs.YtadcmjnebjgijaaGreatDoor
open Go.RowKit
open Calm (bcell Blk)

def confErr (re le bl ma st lo m k r : Int) (zs : List (Int × Int × Int)) : Int := firstOf [classErr re le bl ma st lo m k r, readsErr zs, if 8 < zs.length then 23 else 0]
def toI (l : List Nat) : List Int := l.map fun (n : Nat) => (n : Int)
def covB (re le bl : Int) (zs xs : List (Int × Int × Int)) (s : Nat) : Bool := xs.any fun x => (maskOf re le bl zs x &&& s) == s
/-- the best set among those below k. -/
def confF (re le bl : Int) (zs xs : List (Int × Int × Int)) : Nat → Option Nat
  | 0 => none
  | s + 1 => if s = 0 ∨ covB re le bl zs xs s = true then confF re le bl zs xs s else
    match confF re le bl zs xs s with
    | none => some s
    | some b => if earlierI (toI (memL s)) (toI (memL b)) = true then some s else some b
theorem confF_succ (re le bl : Int) (zs xs : List (Int × Int × Int)) (s : Nat) : confF re le bl zs xs (s + 1) = if s = 0 ∨ covB re le bl zs xs s = true then confF re le bl zs xs s else
    match confF re le bl zs xs s with
    | none => some s
    | some b => if earlierI (toI (memL s)) (toI (memL b)) = true then some s else some b := rfl
def BestAt (W : World) (base : Nat) (v : Value) : Option Nat → Prop
  | none => v = .slice none 0 0
  | some b => (1 ≤ b ∧ b < 256) ∧ W.ownsRow base 3 1 v (memL b).length (ints (memL b))
theorem BestAt.below {W W' : World} {base : Nat} {v : Value} {o : Option Nat} (h : BestAt W base v o) (hb : Below W.heap.size W W') : BestAt W' base v o := by
  cases o with
  | none => exact h
  | some b => exact ⟨h.1, ownsRow_below h.2 hb⟩
theorem own_cells {W : World} {base e : Nat} {A : Option Addr} {n c : Nat} {l : List Nat} (h : W.ownsRow base e 1 (.slice A n c) l.length (ints l)) : n = l.length ∧ Cells W A (toI l) := by
  rcases h.2 with ⟨h1, h2⟩ | ⟨g, cap, cur, h1, h2, h3, h4, h5, h6, h7⟩
  · cases h1
    refine ⟨h2.symm, fun h0 => ?_⟩
    simp [toI] at h0
    omega
  · cases h1
    refine ⟨rfl, fun h0 => ⟨g, 0, rfl, (Array.getElem?_eq_some_iff.1 h3).1, fun k hk => ?_⟩⟩
    have hk2 : k < l.length := by simpa [toI] using hk
    rw [cell_of_row W g (0 + k) cur e _ h3, Nat.zero_add]
    have e1 : (cur.toList.take (l.length * 1))[k]? = (ints l)[k]? := by rw [h7]
    rw [List.getElem?_take] at e1
    simp [hk2] at e1
    rw [e1]
    simp [ints, toI, hk2]
theorem bool_inv {v : Value} {y : DataW Unit × List MemPlace} (h : plainElem Tryz.prog 4 v = some y) : ∃ b, v = .bool b := by
  have hu := Tryz.underlying4
  cases v <;> simp [plainElem, hu] at h
  exact ⟨_, rfl⟩
theorem nil_eq (W : World) : Sem.run Tryz.prog (binOp BinOp.eql 67 (.slice none 0 0) (.slice none 0 0)) W = .ok (.bool true) W := by
  simp [go_sem, binOp, run_equal_slice_nil _ _ _ _ _ _ Tryz.underlying67]
theorem nil_ne (W : World) (g : Nat) (n c : Nat) : Sem.run Tryz.prog (binOp BinOp.eql 67 (.slice (some ⟨g, 0, none⟩) n c) (.slice none 0 0)) W = .ok (.bool false) W := by
  simp [go_sem, binOp, run_equal_slice_nil _ _ _ _ _ _ Tryz.underlying67]
theorem toI_len (l : List Nat) : (toI l).length = l.length := by simp [toI]
theorem memL_le (s : Nat) : (memL s).length ≤ 8 := memN_le s 8
theorem earlier_at (A B : Option Addr) (l1 l2 : List Nat) (n m c1 c2 : Nat) (w : World) (hn : n = l1.length) (hm : m = l2.length) (h1 : l1.length ≤ 8) (h2 : l2.length ≤ 8) (hA : Cells w A (toI l1)) (hB : Cells w B (toI l2)) :
    Calls Tryz.prog 69 #[.slice A n c1, .slice B m c2] w fun x w' => x = .returned (.bool (earlierI (toI l1) (toI l2))) ∧ w = w' := by
  have := earlier_any A B (toI l1) (toI l2) c1 c2 w hA hB (by rw [toI_len]; omega) (by rw [toI_len]; omega)
  rw [toI_len, toI_len, ← hn, ← hm] at this
  exact this
theorem maskOf_lt {re le bl : Int} {zs : List (Int × Int × Int)} (x : Int × Int × Int) (h : zs.length ≤ 8) : maskOf re le bl zs x < 256 :=
  Nat.lt_of_lt_of_le (maskN_lt _ _ _) (Nat.pow_le_pow_right (by decide) h : 2 ^ zs.length ≤ 2 ^ 8)

set_option maxRecDepth 100000 in
set_option maxHeartbeats 4000000 in
theorem Conflict_bad (re le bl ma st lo m k r : Int) (A : Option Addr) (zs : List (Int × Int × Int)) (c : Nat) (w : World) (hL : Lim w) (hC : RCells w A zs) (hn : zs.length ≤ 1000) (h : confErr re le bl ma st lo m k r zs ≠ 0) :
    Calls Tryz.prog 28 #[.agg #[(.int .i64 (re)), (.int .i64 (le)), (.int .i64 (bl)), (.int .i64 (ma)), (.int .i64 (st)), (.int .i64 (lo)), (.int .i64 (m)), (.int .i64 (k)), (.int .i64 (r))], .slice A zs.length c] w fun x w' => x = .returned (.tuple #[.slice none 0 0, (.int .i64 (confErr re le bl ma st lo m k r zs))]) ∧ Below w.heap.size w w' := by
  have HC := Lib.hid hC
  obtain ⟨E, hE⟩ : ∃ E, E = classErr re le bl ma st lo m k r := ⟨_, rfl⟩
  obtain ⟨E2, hE2⟩ : ∃ E2, E2 = readsErr zs := ⟨_, rfl⟩
  obtain ⟨N, hN⟩ : ∃ N, N = zs.length := ⟨_, rfl⟩
  obtain ⟨E3, hE3⟩ : ∃ E3 : Int, E3 = if 8 < N then 23 else 0 := ⟨_, rfl⟩
  have hr : confErr re le bl ma st lo m k r zs = firstOf [E, E2, E3] := by rw [hE, hE2, hE3, hN]; rfl
  rw [hr] at h ⊢
  have HE := Lib.hid hE
  have HE2 := Lib.hid hE2
  have hCR : ∀ W, RCells W A zs → Calls Tryz.prog 63 #[.slice A N c] W fun r w' => r = .returned (.int .i64 (E2)) ∧ Below W.heap.size W w' := by
    intro W k1
    have := checkReadings_any A zs c W k1 hn
    rwa [← hE2, ← hN] at this
  have HCR := Lib.hid hCR
  have hW : ∀ W, Calls Tryz.prog 55 #[.bool (decide ((8 : Int) < (N : Int))), (.int .i64 (23))] W fun r w' => r = .returned (.int .i64 (E3)) ∧ W = w' := by
    intro W
    have := when_any (decide ((8 : Int) < (N : Int))) 23 W
    rw [hE3]
    by_cases h8 : 8 < N
    · have h9 : (8 : Int) < (N : Int) := by omega
      simpa [h8, h9] using this
    · have h9 : ¬ (8 : Int) < (N : Int) := by omega
      simpa [h8, h9] using this
  have HW := Lib.hid hW
  rw [← hN] at hn ⊢
  clear hE hE2 hr hC hN hE3 hCR hW
  go_enter Tryz.func28, Tryz.ntmps28
  go_wp2
  go_step3
  go_wp2_with (first
    | (go_at_call 62; refine (checkClass_any re le bl ma st lo m k r _ (hL.below (by repeat (first | (with_reducible exact Below.refl _ _) | ((with_reducible refine Below.setCell ?_ ?_ _); rotate_left 1; focus (first | (simp; done) | (simp; omega) | (simp at *; omega))) | ((with_reducible refine Below.alloc ?_ ?_ _); rotate_left 1; focus (first | (simp; done) | (simp; omega) | (simp at *; omega))) | (with_reducible refine Below.drew ?_) | ((with_reducible refine Calm.step (by assumption) ?_ ?_); rotate_left 1; focus (first | (simp; done) | (simp; omega) | (simp at *; omega))))))).mono ?_; rw [← HE.out]; rintro r w1 ⟨rfl, hb1⟩; obtain ⟨hc1, hf1⟩ := bcell hb1; have hz1 := hb1.size; (try simp at hz1); have hz10 : w.heap.size < w1.heap.size := by omega)
    | (go_at_call 63; refine (HCR.out _ (HC.out.below (by (repeat (first | (with_reducible exact Below.refl _ _) | ((with_reducible refine Below.setCell ?_ ?_ _); rotate_left 1; focus (first | (simp; done) | (simp; omega) | (simp at *; omega))) | ((with_reducible refine Below.alloc ?_ ?_ _); rotate_left 1; focus (first | (simp; done) | (simp; omega) | (simp at *; omega))) | (with_reducible refine Below.drew ?_) | ((with_reducible refine Calm.step (by assumption) ?_ ?_); rotate_left 1; focus (first | (simp; done) | (simp; omega) | (simp at *; omega)))))))).mono ?_; rintro r w2 ⟨rfl, hb2⟩; obtain ⟨hc2, hf2⟩ := bcell hb2; have hz2 := hb2.size; (try simp at hz2); have hz20 : w.heap.size < w2.heap.size := by omega)
    | (go_at_call 55; refine (HW.out _).mono ?_; rintro r w3 ⟨rfl, rfl⟩)
    | (go_at_call 53; refine (first3_any _ _ _ _).mono ?_; rintro r w3 ⟨rfl, rfl⟩))
  (try simp only [Exit.noGoto_ret, Exit.then, Exit.noGoto])
  go_ret2
  refine ⟨by first | rfl | (simp; done), ?_⟩
  repeat (first | (with_reducible exact Below.refl _ _) | ((with_reducible refine Below.setCell ?_ ?_ _); rotate_left 1; focus (first | (simp; done) | (simp; omega) | (simp at *; omega))) | ((with_reducible refine Below.alloc ?_ ?_ _); rotate_left 1; focus (first | (simp; done) | (simp; omega) | (simp at *; omega))) | (with_reducible refine Below.drew ?_) | ((with_reducible refine Calm.step (by assumption) ?_ ?_); rotate_left 1; focus (first | (simp; done) | (simp; omega) | (simp at *; omega))))

set_option maxRecDepth 100000 in
set_option maxHeartbeats 8000000 in
theorem Conflict_ok (re le bl ma st lo m k r : Int) (A : Option Addr) (zs : List (Int × Int × Int)) (c : Nat) (w : World) (hL : Lim w) (hC : RCells w A zs) (hn : zs.length ≤ 1000) (h : confErr re le bl ma st lo m k r zs = 0) :
    Calls Tryz.prog 28 #[.agg #[(.int .i64 (re)), (.int .i64 (le)), (.int .i64 (bl)), (.int .i64 (ma)), (.int .i64 (st)), (.int .i64 (lo)), (.int .i64 (m)), (.int .i64 (k)), (.int .i64 (r))], .slice A zs.length c] w fun x w' => ∃ v, x = .returned (.tuple #[v, (.int .i64 (if confF re le bl zs (drvs ma st lo m k r) (2 ^ zs.length) = none then 7 else 0))]) ∧ BestAt w' w.heap.size v (confF re le bl zs (drvs ma st lo m k r) (2 ^ zs.length)) ∧ Below w.heap.size w w' := by
  have h3 := firstOf_eq_zero.1 (show firstOf [classErr re le bl ma st lo m k r, readsErr zs, if 8 < zs.length then 23 else 0] = 0 from h)
  have h4 : classErr re le bl ma st lo m k r = 0 := h3 _ (by simp)
  have h5 : readsErr zs = 0 := h3 _ (by simp)
  have h6 : zs.length ≤ 8 := by
    have := h3 (if 8 < zs.length then 23 else 0) (by simp)
    split at this
    · simp at this
    · omega
  have HREG := Lib.hid (show regErr re le bl ma st lo m k r zs = 0 from firstOf_eq_zero.2 (by simp [h4, h5]))
  have H4 := Lib.hid h4
  have HC := Lib.hid hC
  have HML := Lib.hid (fun (x : Int × Int × Int) => maskOf_lt (re := re) (le := le) (bl := bl) x h6)
  have H6 := Lib.hid h6
  obtain ⟨xs, hxs⟩ : ∃ xs, xs = drvs ma st lo m k r := ⟨_, rfl⟩
  obtain ⟨N, hN⟩ : ∃ N, N = zs.length := ⟨_, rfl⟩
  have HX := Lib.hid hxs
  have hCR : ∀ W, RCells W A zs → Calls Tryz.prog 63 #[.slice A N c] W fun r w' => r = .returned (.int .i64 (0)) ∧ Below W.heap.size W w' := by
    intro W k1
    have := checkReadings_any A zs c W k1 hn
    rwa [h5, ← hN] at this
  have HCR := Lib.hid hCR
  have hEX : ∀ W, RCells W A zs → Calls Tryz.prog 67 #[.agg #[(.int .i64 (re)), (.int .i64 (le)), (.int .i64 (bl)), (.int .i64 (ma)), (.int .i64 (st)), (.int .i64 (lo)), (.int .i64 (m)), (.int .i64 (k)), (.int .i64 (r))], .slice A N c] W fun x w' => ∃ B, x = .returned (.map (some B)) ∧ W.heap.size ≤ B ∧ MaskMap re le bl zs xs 4096 B w' ∧ Below W.heap.size W w' := by
    intro W k1
    have := explained_any re le bl ma st lo m k r A zs c W k1 h6 HREG.out
    rwa [← hN, ← hxs] at this
  have HEX := Lib.hid hEX
  rw [← hN] at hn h6 ⊢
  rw [← hxs]
  have hW : ∀ W, Calls Tryz.prog 55 #[.bool (decide ((8 : Int) < (N : Int))), (.int .i64 (23))] W fun r w' => r = .returned (.int .i64 (0)) ∧ W = w' := by
    intro W
    have := when_any (decide ((8 : Int) < (N : Int))) 23 W
    have h9 : ¬ (8 : Int) < (N : Int) := by omega
    simpa [h9] using this
  have HW := Lib.hid hW
  have HN := Lib.hid hN
  obtain ⟨P, hP⟩ : ∃ P : Nat, P = 2 ^ N := ⟨_, rfl⟩
  have hPw : wrap64 ((2 : Int) ^ N) = (P : Int) := by rw [wrap_two N (by omega), hP]
  have hP1 : 1 ≤ P := by rw [hP]; exact Nat.two_pow_pos N
  have hP2 : P ≤ 256 := by rw [hP]; exact Nat.pow_le_pow_right (by decide) h6
  have HP := Lib.hid hP
  rw [← hP]
  have e1 : firstOf [0, 0, 0] = 0 := by rw [firstOf_eq_zero]; simp
  clear hC h h3 h4 h5 hN hCR hW hxs hEX hP
  go_enter Tryz.func28, Tryz.ntmps28
  go_wp2
  go_step3
  go_wp2_with (first
    | (go_at_call 62; refine (checkClass_any re le bl ma st lo m k r _ (hL.below (by repeat (first | (with_reducible exact Below.refl _ _) | ((with_reducible refine Below.setCell ?_ ?_ _); rotate_left 1; focus (first | (simp; done) | (simp; omega) | (simp at *; omega))) | ((with_reducible refine Below.alloc ?_ ?_ _); rotate_left 1; focus (first | (simp; done) | (simp; omega) | (simp at *; omega))) | (with_reducible refine Below.drew ?_) | ((with_reducible refine Calm.step (by assumption) ?_ ?_); rotate_left 1; focus (first | (simp; done) | (simp; omega) | (simp at *; omega))))))).mono ?_; rw [H4.out]; rintro r w1 ⟨rfl, hb1⟩; obtain ⟨hc1, hf1⟩ := bcell hb1; have hz1 := hb1.size; (try simp at hz1); have hz10 : w.heap.size < w1.heap.size := by omega)
    | (go_at_call 63; refine (HCR.out _ (HC.out.below (by (repeat (first | (with_reducible exact Below.refl _ _) | ((with_reducible refine Below.setCell ?_ ?_ _); rotate_left 1; focus (first | (simp; done) | (simp; omega) | (simp at *; omega))) | ((with_reducible refine Below.alloc ?_ ?_ _); rotate_left 1; focus (first | (simp; done) | (simp; omega) | (simp at *; omega))) | (with_reducible refine Below.drew ?_) | ((with_reducible refine Calm.step (by assumption) ?_ ?_); rotate_left 1; focus (first | (simp; done) | (simp; omega) | (simp at *; omega)))))))).mono ?_; rintro r w2 ⟨rfl, hb2⟩; obtain ⟨hc2, hf2⟩ := bcell hb2; have hz2 := hb2.size; (try simp at hz2); have hz20 : w.heap.size < w2.heap.size := by omega)
    | (go_at_call 55; refine (HW.out _).mono ?_; rintro r w3 ⟨rfl, rfl⟩)
    | (go_at_call 53; refine (first3_any _ _ _ _).mono ?_; rintro r w3 ⟨rfl, rfl⟩)
    | (go_at_call 67; refine (HEX.out _ (HC.out.below (by (repeat (first | (with_reducible exact Below.refl _ _) | ((with_reducible refine Below.setCell ?_ ?_ _); rotate_left 1; focus (first | (simp; done) | (simp; omega) | (simp at *; omega))) | ((with_reducible refine Below.alloc ?_ ?_ _); rotate_left 1; focus (first | (simp; done) | (simp; omega) | (simp at *; omega))) | (with_reducible refine Below.drew ?_) | ((with_reducible refine Calm.step (by assumption) ?_ ?_); rotate_left 1; focus (first | (simp; done) | (simp; omega) | (simp at *; omega)))))))).mono ?_; rintro r w4 ⟨B, rfl, hBl, hMM, hb4⟩))
  go_step3
  have hBw : w.heap.size ≤ B := by simp at hBl; omega
  have HB4 := Lib.hid (show Below w.heap.size w w4 by
    (repeat (first | (with_reducible exact Below.refl _ _) | ((with_reducible refine Below.setCell ?_ ?_ _); rotate_left 1; focus (first | (simp; done) | (simp; omega) | (simp at *; omega))) | ((with_reducible refine Below.alloc ?_ ?_ _); rotate_left 1; focus (first | (simp; done) | (simp; omega) | (simp at *; omega))) | (with_reducible refine Below.drew ?_) | ((with_reducible refine Calm.step (by assumption) ?_ ?_); rotate_left 1; focus (first | (simp; done) | (simp; omega) | (simp at *; omega))))))
  have HMM := Lib.hid hMM
  have hBw4 := hMM.lt
  clear hb1 hb2 hb4 hMM hc1 hf1 hc2 hf2 hBl hz1 hz10 hz2 hz20 hL
  go_wp2
  go_loopw [8, 9] (fun v s wr => ∃ k : Nat, 1 ≤ k ∧ k ≤ P ∧ s = (.int .i64 ((k : Nat))) ∧ BestAt wr w.heap.size v (confF re le bl zs xs k) ∧ MaskMap re le bl zs xs 4096 B wr ∧ Below w.heap.size w wr) (fun _ s _ => P - (intOf s).toNat)
  case atStart => exact ⟨1, by omega, by omega, rfl, by simp [confF, BestAt], HMM.out, HB4.out⟩
  case round =>
    obtain ⟨s, hs1, hs2, rfl, hbest, hMM, hB⟩ := hrel
    obtain ⟨wo, hwo⟩ : ∃ wo, wo = wr := ⟨_, rfl⟩
    subst hwo
    have hszr := hB.size
    have HBE := Lib.hid hbest
    have HBR := Lib.hid hB
    obtain ⟨o, ho⟩ : ∃ o, o = confF re le bl zs xs s := ⟨_, rfl⟩
    have HOO := Lib.hid ho
    have hBwr := hMM.lt
    clear ho hbest hB
    by_cases hlt : s < P
    · obtain ⟨D, hown, hkeys⟩ := hMM
      have HKEYS := Lib.hid hkeys
      have HOWN := Lib.hid hown
      have HDM := Lib.hid hown.isMap
      clear hkeys hown
      go_wp2_with (at_range; refine wpList_range_own _ rfl _ 128 rfl 3 4 Tryz.keyI Tryz.underlying128 _ B 4096 D rfl HOWN.out ?_; intro w0 hrg0 hg0 hs0)
      go_frame
      go_loopw [10] (fun _ wq => ∃ left cnt, wq.ranges Tryz.prog 3 (plainElem Tryz.prog 4) B wo.heap.size 4096 D left cnt ∧ (∀ kl, left kl = true → Maps.has D kl = true) ∧ (∀ x, x ∈ xs → left (.int .i64 (maskOf re le bl zs x : Nat)) = false → maskOf re le bl zs x &&& s ≠ s) ∧ Below wo.heap.size wo wq) (fun _ wq => wq.rangeLeft B wo.heap.size)
      case atStart =>
        refine ⟨_, _, hrg0, fun _ h => h, fun x hx h => ?_, (Below.refl _ _).grown hg0 (Nat.le_refl _) (fun k e => by cases e)⟩
        rw [(HKEYS.out _).2 ⟨x, hx, rfl⟩] at h
        cases h
      case round =>
        obtain ⟨left, cnt, hrg, hl1, hl2, hBq⟩ := hrel
        have HL1 := Lib.hid hl1
        have HL2 := Lib.hid hl2
        have HRG := Lib.hid hrg
        have HBQ := Lib.hid hBq
        have hszq := hBq.size
        clear hl1 hl2 hrg hBq hg0 hs0 hrg0
        go_wp2_with (at_next; refine wpList_next_ranges _ rfl _ rfl 3 Tryz.keyI (plainElem Tryz.prog 4) (Value.int .i64) Value.bool (fun key kl hkey => by obtain ⟨x, rfl, _⟩ := Maps.keyOf_int_inv Tryz.underlying3 hkey; exact ⟨x, rfl⟩) (fun v y hv => bool_inv hv) B wo.heap.size 4096 D left cnt rfl HRG.out (fun hc0 hl0 => Hid.out ?gd) (fun x c' kl y w1 cnt1 hkx hlx hvy hat hrg1 hltc hg1 hsz1 hen => Hid.out ?gm))
        case gd =>
          unfold Hid
          have HNC := Lib.hid (show covB re le bl zs xs s = false by
            cases hcv : covB re le bl zs xs s
            · rfl
            · obtain ⟨x, hx, he⟩ := List.any_eq_true.1 hcv
              exact absurd (by simpa using he) (HL2.out x hx (hl0 _)))
          have HMQ := Lib.hid (show MaskMap re le bl zs xs 4096 B wr from ⟨D, HRG.out.owns, HKEYS.out⟩)
          have HBE2 := Lib.hid (HBE.out.below HBQ.out)
          have HB2 := Lib.hid (HBR.out.trans (HBQ.out.mono hszr))
          have hml := memL_pos s (by omega) hs1
          clear hl0 hc0
          cases o with
          | none =>
            have HCF := Lib.hid (show confF re le bl zs xs (s + 1) = some s by rw [confF_succ, if_neg (by rw [HNC.out]; simp; omega), ← HOO.out])
            have hv := HBE2.out
            rw [← HOO.out] at hv
            change _ = Value.slice none 0 0 at hv
            subst hv
            have hq1 := nil_eq
            go_wp2_with (go_at_call 68; refine (members_any s _ (by omega)).mono ?_; rintro r w5 ⟨v5, rfl, ho5, hb5⟩)
            go_roundw
            case rel => exact ⟨s + 1, by omega, by omega, by go_num, by rw [HCF.out]; exact ⟨⟨hs1, by omega⟩, ownsRow_base ho5 (by omega)⟩, HMQ.out.kept (grownBy_below hb5 none) (by simp), HB2.out.trans (hb5.mono (by omega))⟩
            case measure => simp [intOf]; omega
          | some b0 =>
            have hv := HBE2.out
            rw [← HOO.out] at hv
            obtain ⟨⟨hb01, hb02⟩, hov⟩ := hv
            have hml0 := memL_pos b0 hb02 hb01
            obtain ⟨n0, hn0⟩ : ∃ n0, (memL b0).length = n0 + 1 := ⟨(memL b0).length - 1, by omega⟩
            have HN0 := Lib.hid hn0
            have hov1 := hov
            rw [hn0] at hov1
            obtain ⟨g, cap, rfl⟩ := ownsRow_succ hov1
            have HOV := Lib.hid hov
            have hq2 := nil_ne
            cases hE : earlierI (toI (memL s)) (toI (memL b0))
            · have HCF := Lib.hid (show confF re le bl zs xs (s + 1) = some b0 by rw [confF_succ, if_neg (by rw [HNC.out]; simp; omega), ← HOO.out]; simp [hE])
              have HE := Lib.hid hE
              clear hov hov1 hn0 hml0 hE
              go_wp2_with (first
                | (go_at_call 68; refine (members_any s _ (by omega)).mono ?_; rintro r w5 ⟨v5, rfl, ho5, hb5⟩; obtain ⟨a5, c5, rfl⟩ := own_slice ho5; have HO5 := Lib.hid ho5; clear ho5)
                | (go_at_call 69; refine (earlier_at _ _ (memL s) (memL b0) _ _ _ _ _ rfl HN0.out.symm (memL_le _) (memL_le _) (own_cells HO5.out).2 (own_cells (ownsRow_below HOV.out hb5)).2).mono ?_; rw [HE.out]; rintro r w6 ⟨rfl, rfl⟩))
              go_roundw
              case rel => exact ⟨s + 1, by omega, by omega, by go_num, by rw [HCF.out]; exact ⟨⟨hb01, hb02⟩, ownsRow_below HOV.out hb5⟩, HMQ.out.kept (grownBy_below hb5 none) (by simp), HB2.out.trans (hb5.mono (by omega))⟩
              case measure => simp [intOf]; omega
            · have HCF := Lib.hid (show confF re le bl zs xs (s + 1) = some s by rw [confF_succ, if_neg (by rw [HNC.out]; simp; omega), ← HOO.out]; simp [hE])
              have HE := Lib.hid hE
              clear hov hov1 hn0 hml0 hE
              go_wp2_with (first
                | (go_at_call 68; refine (members_any s _ (by omega)).mono ?_; rintro r w5 ⟨v5, rfl, ho5, hb5⟩; obtain ⟨a5, c5, rfl⟩ := own_slice ho5; have HO5 := Lib.hid ho5; clear ho5)
                | (go_at_call 69; refine (earlier_at _ _ (memL s) (memL b0) _ _ _ _ _ rfl HN0.out.symm (memL_le _) (memL_le _) (own_cells HO5.out).2 (own_cells (ownsRow_below HOV.out hb5)).2).mono ?_; rw [HE.out]; rintro r w6 ⟨rfl, rfl⟩))
              go_roundw
              case rel => exact ⟨s + 1, by omega, by omega, by go_num, by rw [HCF.out]; exact ⟨⟨hs1, by omega⟩, ownsRow_base HO5.out (by omega)⟩, HMQ.out.kept (grownBy_below hb5 none) (by simp), HB2.out.trans (hb5.mono (by omega))⟩
              case measure => simp [intOf]; omega
        case gm =>
          unfold Hid
          obtain ⟨x', ex, rfl, hwx⟩ := Maps.keyOf_int_inv Tryz.underlying3 hkx
          cases ex
          obtain ⟨d0, hd0, hdx⟩ := (HKEYS.out _).1 (HL1.out _ hlx)
          obtain rfl : x = ((maskOf re le bl zs d0 : Nat) : Int) := by simpa using hdx
          have hm0 := HML.out d0
          obtain ⟨mm, hmm⟩ : ∃ mm, mm = maskOf re le bl zs d0 := ⟨_, rfl⟩
          clear hvy hat hkx
          rw [← hmm] at hlx hrg1 hen hm0 hwx ⊢
          have HMM0 := Lib.hid hmm
          have hand := and64 mm s (Nat.lt_trans hm0 (by decide)) (Nat.lt_of_lt_of_le (Nat.lt_of_lt_of_le hlt hP2) (by decide))
          have HRG1 := Lib.hid hrg1
          have HG1 := Lib.hid hg1
          have HLX := Lib.hid hlx
          have hb1 : Below wo.heap.size wo w1 := HBQ.out.grown hg1 hszq (fun k e => by cases e; exact Nat.le_refl _)
          have HB1 := Lib.hid hb1
          have HD0 := Lib.hid hd0
          clear hlx hrg1 hg1 hdx hmm hb1 hd0
          by_cases hcov : mm &&& s = s
          · have hand2 : bits .and .i64 (mm : Int) (s : Int) = (s : Int) := by rw [hand, hcov]
            have HCOV := Lib.hid hcov
            clear hand hcov
            have HCF := Lib.hid (show confF re le bl zs xs (s + 1) = confF re le bl zs xs s by
              have : covB re le bl zs xs s = true := List.any_eq_true.2 ⟨d0, HD0.out, by rw [← HMM0.out, HCOV.out]; simp⟩
              rw [confF_succ, if_pos (.inr this)])
            go_wp2
            go_roundw
            case rel => exact ⟨s + 1, by omega, by omega, by go_num, by rw [HCF.out]; exact HBE.out.below HB1.out, ⟨D, HRG1.out.owns, HKEYS.out⟩, HBR.out.trans (HB1.out.mono hszr)⟩
            case measure => simp [intOf]; omega
          · have hand2 : ¬ bits .and .i64 (mm : Int) (s : Int) = (s : Int) := by rw [hand]; omega
            have HCOV := Lib.hid hcov
            clear hand hcov
            go_wp2
            (try simp only [hPw])
            refine ⟨⟨_, _, _, _, _, _, _, _, _, _, ⟨_, _, HRG1.out, fun kl h => HL1.out kl (by simp at h; exact h.1), fun x hx h => ?_, HB1.out⟩, rfl⟩, ?_⟩
            · cases hlx : left (.int .i64 (maskOf re le bl zs x : Nat))
              · exact HL2.out x hx hlx
              · rw [hlx] at h
                simp at h
                have := WideAt.sameKey_eq h
                simp at this
                have h3 : maskOf re le bl zs x = mm := by omega
                rw [h3]
                exact HCOV.out
            · rw [HRG1.out.left_eq, HRG.out.left_eq]; omega
    · obtain rfl : s = P := by omega
      have hv := HBE.out
      rw [← HOO.out] at hv
      have HOP := Lib.hid HOO.out.symm
      cases o with
      | none =>
        change _ = Value.slice none 0 0 at hv
        subst hv
        have hq1 := nil_eq
        clear hMM
        go_wp2_with (go_at_call 55; refine (when_any _ _ _).mono ?_; rintro r w3 ⟨rfl, rfl⟩)
        (try simp only [Exit.noGoto_ret, Exit.then, Exit.noGoto])
        go_ret2
        exact ⟨_, by rw [HOP.out]; rfl, by rw [HOP.out]; rfl, HBR.out⟩
      | some b0 =>
        obtain ⟨⟨hb01, hb02⟩, hov⟩ := hv
        have hml0 := memL_pos b0 hb02 hb01
        obtain ⟨n0, hn0⟩ : ∃ n0, (memL b0).length = n0 + 1 := ⟨(memL b0).length - 1, by omega⟩
        have hov1 := hov
        rw [hn0] at hov1
        obtain ⟨g, cap, rfl⟩ := ownsRow_succ hov1
        have HOV := Lib.hid hov
        have HN0 := Lib.hid hn0
        have hq2 := nil_ne
        clear hMM hov hov1 hn0 hml0
        go_wp2_with (go_at_call 55; refine (when_any _ _ _).mono ?_; rintro r w3 ⟨rfl, rfl⟩)
        (try simp only [Exit.noGoto_ret, Exit.then, Exit.noGoto])
        go_ret2
        exact ⟨_, by rw [HOP.out]; rfl, by rw [HOP.out]; exact ⟨⟨hb01, hb02⟩, HOV.out⟩, HBR.out⟩
end Go.Proofs.YtadcmjnebjgijaaGreatDoor
