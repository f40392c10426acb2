/- Part 9 of the texts of the claim: S4, IterM, S5, S6. -/
import Derived.Test.YtleemphfkhbhaaaDoorMp5
import Derived.Test.YtleemphfkhbhaaaDoorMp8
import Derived.RangeFuncNested
import Derived.RangeFuncBound
import Derived.RangeFuncCalls
import Derived.RangeFuncLeaves
import Derived.Test.YtleemphfkhbhaaaDoorMp2
import Derived.Shelf.Abstract
import Derived.OwnWalkIn
import Derived.TacticsInMore
import Derived.LoopNIn
import Derived.LoopIn
import Derived.RangeFuncBox

/- Contracts of raw, limited and step of sections. -/
namespace Go.Proofs.YtleemphfkhbhaaaDoor
open Go.RowKit
open Calm (bcell Blk)

def bd15 (x : Int) : Prop := -32767 ≤ x ∧ x ≤ 32767
/-- the raw output, and the output. -/
def rawF (b0 b1 b2 a1 a2 sh x1 x2 y1 y2 i : Int) : Int := (b0 * i + b1 * x1 + b2 * x2 - a1 * y1 - a2 * y2) / 2 ^ sh.toNat
def mn (x y : Int) : Int := if y < x then y else x
def limF (n : Int) : Int := mx (-32767) (mn 32767 n)
theorem limF_bd (n : Int) : bd15 (limF n) := by unfold limF mx mn bd15; split <;> split <;> omega
theorem limF_in {n : Int} (h : bd15 n) : limF n = n := by unfold bd15 at h; unfold limF mx mn; split <;> split <;> omega
theorem raw_any (b0 b1 b2 a1 a2 sh x1 x2 y1 y2 i : Int) (w : World) (h0 : bd15 b0) (h1 : bd15 b1) (h2 : bd15 b2) (h3 : bd15 a1) (h4 : bd15 a2) (h5 : 0 ≤ sh ∧ sh ≤ 15) (k1 : bd15 x1) (k2 : bd15 x2) (k3 : bd15 y1) (k4 : bd15 y2) (k5 : bd15 i) :
    Calls Tryd.prog 66 #[.agg #[(.int .i64 (b0)), (.int .i64 (b1)), (.int .i64 (b2)), (.int .i64 (a1)), (.int .i64 (a2)), (.int .i64 (sh))], .agg #[(.int .i64 (x1)), (.int .i64 (x2)), (.int .i64 (y1)), (.int .i64 (y2))], (.int .i64 (i))] w fun r w' => r = .returned (.int .i64 (rawF b0 b1 b2 a1 a2 sh x1 x2 y1 y2 i)) ∧ Below w.heap.size w w' := by
  have m0 := mul_bd h0 k5
  have m1 := mul_bd h1 k1
  have m2 := mul_bd h2 k2
  have m3 := mul_bd h3 k3
  have m4 := mul_bd h4 k4
  obtain ⟨p1, p2⟩ := m0
  obtain ⟨p3, p4⟩ := m1
  obtain ⟨p5, p6⟩ := m2
  obtain ⟨p7, p8⟩ := m3
  obtain ⟨p9, p10⟩ := m4
  obtain ⟨q1, q2⟩ := h5
  clear h0 h1 h2 h3 h4 k1 k2 k3 k4 k5
  go_enter Tryd.func66, Tryd.ntmps66
  go_wp2
  go_ret
  exact ⟨rfl, by (repeat (first | (with_reducible exact Below.refl _ _) | ((with_reducible refine Below.setCell ?_ ?_ _); rotate_left 1; focus (first | (simp; done) | (simp; omega) | (simp at *; omega))) | ((with_reducible refine Below.alloc ?_ ?_ _); rotate_left 1; focus (first | (simp; done) | (simp; omega) | (simp at *; omega))) | (with_reducible refine Below.drew ?_) | ((with_reducible refine Calm.step (by assumption) ?_ ?_); rotate_left 1; focus (first | (simp; done) | (simp; omega) | (simp at *; omega)))))⟩
theorem limited_any (n : Int) (w : World) : Calls Tryd.prog 65 #[(.int .i64 (n))] w fun r w' => r = .returned (.int .i64 (limF n)) ∧ w = w' := by
  have hmax := max2_any
  have hmin : ∀ W : World, (Builtin.min_ #[3, 3] 3 #[(.int .i64 (32767)), (.int .i64 (n))]).run Tryd.prog W = .ok (.int .i64 (mn 32767 n)) W := fun W => by simp [Builtin.min_, Builtin.min2, mn]
  go_enter Tryd.func65, Tryd.ntmps65
  go_wp2
  go_ret
  exact ⟨rfl, rfl⟩
def outS (b0 b1 b2 a1 a2 sh x1 x2 y1 y2 i : Int) : Int := limF (rawF b0 b1 b2 a1 a2 sh x1 x2 y1 y2 i)
set_option maxHeartbeats 1000000 in
theorem sStep_any (b0 b1 b2 a1 a2 sh x1 x2 y1 y2 i : Int) (w : World) (h0 : bd15 b0) (h1 : bd15 b1) (h2 : bd15 b2) (h3 : bd15 a1) (h4 : bd15 a2) (h5 : 0 ≤ sh ∧ sh ≤ 15) (k1 : bd15 x1) (k2 : bd15 x2) (k3 : bd15 y1) (k4 : bd15 y2) (k5 : bd15 i) :
    Calls Tryd.prog 60 #[.agg #[(.int .i64 (b0)), (.int .i64 (b1)), (.int .i64 (b2)), (.int .i64 (a1)), (.int .i64 (a2)), (.int .i64 (sh))], .agg #[(.int .i64 (x1)), (.int .i64 (x2)), (.int .i64 (y1)), (.int .i64 (y2))], (.int .i64 (i))] w fun r w' => r = .returned (.tuple #[(.int .i64 (outS b0 b1 b2 a1 a2 sh x1 x2 y1 y2 i)), .agg #[(.int .i64 (i)), (.int .i64 (x1)), (.int .i64 (outS b0 b1 b2 a1 a2 sh x1 x2 y1 y2 i)), (.int .i64 (y1))]]) ∧ Below w.heap.size w w' := by
  have HR : Hid (∀ W, Calls Tryd.prog 66 #[.agg #[(.int .i64 (b0)), (.int .i64 (b1)), (.int .i64 (b2)), (.int .i64 (a1)), (.int .i64 (a2)), (.int .i64 (sh))], .agg #[(.int .i64 (x1)), (.int .i64 (x2)), (.int .i64 (y1)), (.int .i64 (y2))], (.int .i64 (i))] W fun r w' => r = .returned (.int .i64 (rawF b0 b1 b2 a1 a2 sh x1 x2 y1 y2 i)) ∧ Below W.heap.size W w') := Lib.hid (fun W => raw_any b0 b1 b2 a1 a2 sh x1 x2 y1 y2 i W h0 h1 h2 h3 h4 h5 k1 k2 k3 k4 k5)
  have HL : Hid (∀ W, Calls Tryd.prog 65 #[(.int .i64 (rawF b0 b1 b2 a1 a2 sh x1 x2 y1 y2 i))] W fun r w' => r = .returned (.int .i64 (outS b0 b1 b2 a1 a2 sh x1 x2 y1 y2 i)) ∧ W = w') := Lib.hid (fun W => limited_any _ W)
  obtain ⟨R, hR⟩ : ∃ R, R = rawF b0 b1 b2 a1 a2 sh x1 x2 y1 y2 i := ⟨_, rfl⟩
  obtain ⟨O, hO⟩ : ∃ O, O = outS b0 b1 b2 a1 a2 sh x1 x2 y1 y2 i := ⟨_, rfl⟩
  rw [← hR] at HR HL
  rw [← hO] at HL ⊢
  clear h0 h1 h2 h3 h4 h5 k1 k2 k3 k4 k5 hR hO
  go_enter Tryd.func60, Tryd.ntmps60
  go_wp2_with (first
    | (go_at_call 66; refine (HR.out _).mono ?_; rintro r w1 ⟨rfl, hb1⟩; have HB1 := Lib.hid (show Below w.heap.size w w1 from Below.trans (by (repeat (first | (with_reducible exact Below.refl _ _) | ((with_reducible refine Below.setCell ?_ ?_ _); rotate_left 1; focus (first | (simp; done) | (simp; omega) | (simp at *; omega))) | ((with_reducible refine Below.alloc ?_ ?_ _); rotate_left 1; focus (first | (simp; done) | (simp; omega) | (simp at *; omega))) | (with_reducible refine Below.drew ?_) | ((with_reducible refine Calm.step (by assumption) ?_ ?_); rotate_left 1; focus (first | (simp; done) | (simp; omega) | (simp at *; omega)))))) (hb1.mono (by simp; omega))); have K1 := Lib.hid (show Blk w1 (w.heap.size + 1) #[(.int .i64 (x1)), (.int .i64 (x2)), (.int .i64 (y1)), (.int .i64 (y2))] from Blk.below (by (repeat (first | ((with_reducible refine Blk.at_ ?_); focus (first | rfl | (simp; done) | (simp; omega))) | (with_reducible refine Blk.alloc ?_ _) | (with_reducible refine Blk.below ?_ (by with_reducible assumption)) | (with_reducible refine Blk.drew ?_)))) hb1); have K2 := Lib.hid (show Blk w1 (w.heap.size + 1 + 1) #[(.int .i64 (0)), (.int .i64 (0)), (.int .i64 (0)), (.int .i64 (0))] from Blk.below (by (repeat (first | ((with_reducible refine Blk.at_ ?_); focus (first | rfl | (simp; done) | (simp; omega))) | (with_reducible refine Blk.alloc ?_ _) | (with_reducible refine Blk.below ?_ (by with_reducible assumption)) | (with_reducible refine Blk.drew ?_)))) hb1); clear hb1)
    | (go_at_call 65; refine (HL.out _).mono ?_; rintro r w2 ⟨rfl, rfl⟩))
  obtain ⟨c0, c1, c2, c3, cl, cf⟩ := K1.out.o4
  have hK2 := K2.out.lt
  refine Calm.tail_below 9 (by kernel_rfl) (by kernel_rfl) ?_
  simp only [List.take_succ_cons, List.take_zero, List.drop_succ_cons, List.drop_zero]
  repeat (first | (apply Calm.op_move; (focus rfl); (focus (first | exact .inl rfl | exact .inr rfl)); (focus ((try simp only [Act.eval, Array.getD_eq_getD_getElem?, List.getElem?_toArray, List.getElem?_cons_succ, List.getElem?_cons_zero, Option.getD_some]); rfl)); (try simp only [Act.put, List.setIfInBounds_toArray, List.set_cons_zero, List.set_cons_succ])) | (apply Calm.op_not; (focus rfl); (try simp only [Act.put, List.setIfInBounds_toArray, List.set_cons_zero, List.set_cons_succ])) | (apply Calm.op; (focus rfl); (focus (intro W hb; obtain ⟨hc, hf⟩ := bcell hb; clear hb hf; go_simp; (try go_bits); (try rfl); done)); (try simp only [Act.put, List.setIfInBounds_toArray, List.set_cons_zero, List.set_cons_succ])))
  refine wpQuiet_nil ?_
  intro w5 hb5
  obtain ⟨hb5c, hb5f⟩ := bcell hb5
  have hb5z := hb5.size
  (try simp at hb5z)
  (try have hb5z0 : w.heap.size < w5.heap.size := by omega)
  (try have hb5z1 : w.heap.size + 1 < w5.heap.size := by omega)
  (try have hb5z2 : w.heap.size + 1 + 1 < w5.heap.size := by omega)
  (try have hb5z3 : w.heap.size + 1 + 1 + 1 < w5.heap.size := by omega)
  (try have hb5z4 : w.heap.size + 1 + 1 + 1 + 1 < w5.heap.size := by omega)
  (try have hb5z5 : w.heap.size + 1 + 1 + 1 + 1 + 1 < w5.heap.size := by omega)
  have HB5 := Lib.hid (HB1.out.trans (hb5.mono HB1.out.size))
  have K25 := K2.out.below hb5
  obtain ⟨d0, d1, d2, d3, dl, df⟩ := K25.o4
  clear hb5 hb5c hb5f c0 c1 c2 c3 cl cf
  go_wp2
  exact bodyPost_ret (v := .tuple #[(.int .i64 (O)), .agg #[(.int .i64 (i)), (.int .i64 (x1)), (.int .i64 (O)), (.int .i64 (y1))]]) (by simp [results, Tryd.results60, go_sem, *]) rfl ⟨rfl, (((HB5.out.setCell (by simp; omega) _).setCell (by simp; omega) _).setCell (by simp; omega) _).setCell (by simp; omega) _⟩
end Go.Proofs.YtleemphfkhbhaaaDoor

/- The law of 'for x, y := range seq' over an iterator that keeps a variable of its own in cells, reads some blocks, and calls; the body never leaves the loop. -/
namespace Go.Proofs.YtleemphfkhbhaaaDoor
open Go.RowKit

/-- Whatever lies in a block of S lies as it lay. -/
def Same (S : Nat → Prop) (W W' : World) : Prop := ∀ k o, S k → W.heap[k]? = some o → W'.heap[k]? = some o
theorem Same.refl (S : Nat → Prop) (W : World) : Same S W W := fun _ _ _ h => h
theorem Same.trans {S : Nat → Prop} {A B C : World} (h : Same S A B) (k : Same S B C) : Same S A C := fun i o hi ho => k i o hi (h i o hi ho)
theorem Same.alloc {S : Nat → Prop} {W W' : World} (h : Same S W W') (o : Obj) : Same S W (W'.alloc o) := fun k o1 hk ho => by
  have h1 := h k o1 hk ho
  exact (Below.heap_alloc _ _ _ (Array.getElem?_eq_some_iff.1 h1).1).trans h1
theorem Same.setCell {S : Nat → Prop} {W W' : World} (h : Same S W W') {p : Addr} (hp : ¬ S p.block) (u : Value) : Same S W (W'.setCell p u) := fun k o1 hk ho =>
  (Below.heap_setCell _ _ _ _ (fun e => hp (e ▸ hk))).trans (h k o1 hk ho)
theorem Same.drew {S : Nat → Prop} {W W' : World} (h : Same S W W') : Same S W W'.drew := h
theorem Same.below {S : Nat → Prop} {W W' W2 : World} (h : Same S W W') {B : Nat} (hb : Below B W' W2) (hS : ∀ k, S k → k < B) : Same S W W2 := fun k o1 hk ho =>
  (hb.block k (hS k hk)).trans (h k o1 hk ho)
theorem Same.grown {S : Nat → Prop} {W W' W2 : World} {row : Option Nat} (h : Same S W W') (hg : W'.grownBy W2 row) (hr : ∀ k, row = some k → ¬ S k) : Same S W W2 := fun k o1 hk ho => by
  have h1 := h k o1 hk ho
  exact (hg.block k (Array.getElem?_eq_some_iff.1 h1).1 (fun e => hr k e.symm hk)).trans h1
theorem Same.eq {S : Nat → Prop} {W W' : World} (h : Same S W W') {k : Nat} (hk : S k) (hl : k < W.heap.size) : W'.heap[k]? = W.heap[k]? := by
  have e := Array.getElem?_eq_getElem hl
  rw [h k _ hk e, e]

/-- The contract of an iterator that is entered with a heap of the size W.heap.size and lays its own block there; the blocks of C are read. -/
def IterM {α : Type} (F : Fence) (n : Nat) (P : Program) (g : Nat) (lb : Array Value) (enc : α → Array Value) (all : List α) (C : Nat → Prop) (w : World) : Prop :=
  ∀ (l : Nat) (J : List α → World → Prop) (W : World), (∀ k, C k → W.heap[k]? = w.heap[k]?) → (∀ k, C k → k < w.heap.size) → w.heap.size ≤ W.heap.size →
    (∀ pre W1 W2, J pre W1 → Below W1.heap.size W1 W2 → J pre W2) →
    (∀ pre W1 i v, J pre W1 → J pre (W1.setCell ⟨W.heap.size, i, none⟩ v)) →
    (∀ pre x W1, J pre W1 → W.heap.size < W1.heap.size → (∀ k, C k → W1.heap[k]? = w.heap[k]?) → (∃ post, all = pre ++ x :: post) →
      YieldAt F (n - 1) P l (enc x) W1 fun e W' => e = .returned (.bool true) ∧ J (pre ++ [x]) W' ∧ W'.heap[W.heap.size]? = W1.heap[W.heap.size]? ∧ ∀ k, C k → W'.heap[k]? = W1.heap[k]?) →
    J [] W →
    CallsIn F n P g (#[.func (.yield l) #[] #[]] ++ lb) W fun e W' => (∃ v, e = .returned v) ∧ J all W'

/-- How a body that never leaves the loop may end. -/
def iterPost (S : Nat → Prop) (W : World) (I : World → Prop) : Exit → Act → World → Prop
  | .normal, _, W' => Same S W W' ∧ I W'
  | _, _, _ => False

/-- the blocks that a round must leave alone: the three of the loop, from B on, and Cb. -/
def roundS (C : Nat → Prop) (B : Nat) (k : Nat) : Prop := C k ∨ k = B ∨ k = B + 1 ∨ k = B + 2

theorem range_iterM {F : Fence} {n : Nat} {P : Program} {α : Type} {g : Operand} {ps : Array Tmp} {assign body : Code} {Q : Exit → Act → World → Prop} {a : Act} {w : World}
    (hro : F.round = none) (h1 : 1 ≤ n) {gf : Nat} {lb : Array Value} (hg : a.eval g = .func (.func gf) #[] lb) (hFg : F.fn gf) (eg : ∀ args w, (callFunc gf args).run P w = .ok (.enter gf args) w)
    {enc : α → Array Value} {all : List α} {C : Nat → Prop} (hC : ∀ k, C k → k < w.heap.size) (hseq : IterM F (n - 1) P gf lb enc all C w) (hps : ∀ x, ps.size = (enc x).size)
    (I : List α → World → Prop) (hI : OwnFrom w.heap.size I) (hIs : ∀ pre W i v, I pre W → I pre (W.setCell ⟨w.heap.size + 2, i, none⟩ v)) (h0 : I [] w)
    (Ax : List α → α → Act → World → Prop) (hAx : ∀ pre x a', OwnFrom w.heap.size (fun (_ : Unit) W => Ax pre x a' W))
    (hassign : ∀ (l : Nat) (pre : List α) (x : α) (W : World), I pre W → (∃ post, all = pre ++ x :: post) → w.heap.size + 2 < W.heap.size → (∀ k, C k → W.heap[k]? = w.heap[k]?) →
      assign.wpIn (F.inRound l) (n - 1 - 1) P (Exit.then (fun a' W' => Same (roundS C w.heap.size) W W' ∧ Ax pre x a' W') (fun _ _ _ => False)) { tmps := (ps.zip (enc x)).foldl (fun t (p, v) => t.setIfInBounds p v) a.tmps, defers := [] } W)
    (hbody : ∀ (l : Nat) (pre : List α) (x : α) (a' : Act) (W : World), Ax pre x a' W → (∃ post, all = pre ++ x :: post) → w.heap.size + 2 < W.heap.size → (∀ k, C k → W.heap[k]? = w.heap[k]?) →
      body.wpIn (F.inRound l) (n - 1 - 1) P (iterPost (roundS C w.heap.size) W (I (pre ++ [x]))) a' W)
    (hdone : ∀ (W : World), I all W → W.heap[w.heap.size]? = some (.deferred (some [])) → Q .normal { a with defers := { target := .collected w.heap.size, args := #[] } :: a.defers } W) :
    (Code.rangeFunc g ps assign body).wpIn F n P Q a w := by
  refine wpIn_rangeFunc ?_
  intro fn hfn
  rw [hro]
  obtain ⟨rec, hrec⟩ : ∃ rec : LoopState → Option Code → Loop, rec = fun st pe => { state := st, pending := pe, fn, tmps := a.tmps, params := ps, assign, body, defers := w.heap.size } := ⟨_, rfl⟩
  obtain ⟨W1, hW1⟩ : ∃ W1, (w.alloc (.deferred (some []))).alloc (.loop (rec .ready none)) = W1 := ⟨_, rfl⟩
  have hL1 : W1.heap[w.heap.size + 1]? = some (.loop (rec .ready none)) := by
    rw [← hW1]; have := World.alloc_heap_new (w.alloc (.deferred (some []))) (.loop (rec .ready none)); rwa [World.size_alloc] at this
  have hK1 : W1.heap[w.heap.size]? = some (.deferred (some [])) := by
    rw [← hW1]; exact (Below.heap_alloc _ _ _ (by simp)).trans (World.alloc_heap_new w _)
  have hI1 : I [] W1 := by rw [← hW1]; exact hI.alloc _ (hI.alloc _ h0)
  have hC1 : ∀ k, C k → W1.heap[k]? = w.heap[k]? := fun k hk => by
    have := hC k hk
    rw [← hW1, Below.heap_alloc _ _ _ (by simp; omega), Below.heap_alloc _ _ _ this]
  have hs1 : W1.heap.size = w.heap.size + 2 := by rw [← hW1]; simp
  refine ⟨w.heap.size + 1, [{ target := .collected w.heap.size, args := #[] }], W1, { target := .fn (.func gf) lb, args := #[.func (.yield (w.heap.size + 1)) #[] #[]] }, W1, gf,
    #[.func (.yield (w.heap.size + 1)) #[] #[]] ++ lb, W1, ?_, ?_, ?_, ?_, fun _ => h1, ?_⟩
  · rw [← hW1, hrec]; exact run_enterLoop_outer _ _ _ _ _
  · simp only [resolve, hg]
    simp [go_sem]
  · intro f' hf'; simp [Target.leads] at hf'; subst hf'; exact hFg
  · simp [invoke, go_sem, eg]
  · refine (hseq (w.heap.size + 1)
      (fun pre W => I pre W ∧ W.heap[w.heap.size + 1]? = some (.loop (rec .ready none)) ∧ W.heap[w.heap.size]? = some (.deferred (some [])))
      W1 hC1 hC (by omega)
      (fun pre A B hs hb => ⟨hI pre A B none hs.1 ⟨hb.os, hb.tape, hb.output, hb.size, fun k hk _ => hb.block k hk⟩ (by simp), (hb.block _ (Array.getElem?_eq_some_iff.1 hs.2.1).1).trans hs.2.1, (hb.block _ (Array.getElem?_eq_some_iff.1 hs.2.2).1).trans hs.2.2⟩)
      (fun pre A i v hs => ⟨by rw [hs1]; exact hIs _ _ _ _ hs.1, (Below.heap_setCell _ _ _ _ (by rw [hs1]; intro e; simp at e)).trans hs.2.1, (Below.heap_setCell _ _ _ _ (by rw [hs1]; intro e; simp at e)).trans hs.2.2⟩)
      ?_ ⟨hI1, hL1, hK1⟩).mono ?_
    · -- ONE ROUND
      rintro pre x W ⟨hi, hl, hk⟩ hsz hcb hpost
      rw [hs1] at hsz ⊢
      have hlt : w.heap.size + 1 < W.heap.size := by omega
      have hy := run_yield (P := P) (args := enc x) hl (by rw [hrec]; simp [hps x])
      rw [hrec] at hy
      refine ⟨fn, _, assign, body, hy, roundIn_of_wpIn hfn (wpIn_mono (hassign _ pre x W hi hpost hsz hcb) ?_)⟩
      clear hy
      rintro e a' Wa hq
      cases e with
      | normal =>
        obtain ⟨hS, hax⟩ := hq
        have hl' := hS _ _ (.inr (.inr (.inl rfl))) hl
        have hk' := hS _ _ (.inr (.inl rfl)) hk
        have hsz' : w.heap.size + 2 < Wa.heap.size := by
          have := hS (w.heap.size + 2) _ (.inr (.inr (.inr rfl))) (Array.getElem?_eq_getElem hsz)
          exact (Array.getElem?_eq_some_iff.1 this).1
        have hcb' : ∀ k, C k → Wa.heap[k]? = w.heap[k]? := fun k hk => (hS.eq (.inl hk) (by have := hC k hk; omega)).trans (hcb k hk)
        have hD' : Wa.heap[w.heap.size + 2]? = W.heap[w.heap.size + 2]? := hS.eq (.inr (.inr (.inr rfl))) hsz
        refine ⟨_, run_beginRound hl' (by rw [hrec]), ?_⟩
        obtain ⟨Wb, hWb⟩ : ∃ Wb, Wa.putObj (w.heap.size + 1) (.loop { rec .ready none with state := .busy }) = Wb := ⟨_, rfl⟩
        have hl2 : Wb.heap[w.heap.size + 1]? = some (.loop { rec .ready none with state := .busy }) := by rw [← hWb]; exact World.putObj_heap_same (by omega)
        have hk2 : Wb.heap[w.heap.size]? = some (.deferred (some [])) := by rw [← hWb]; exact (World.putObj_heap_other (by omega)).trans hk'
        have hcb2 : ∀ k, C k → Wb.heap[k]? = w.heap[k]? := fun k hk => by have := hC k hk; rw [← hWb]; exact (World.putObj_heap_other (by omega)).trans (hcb' k hk)
        have hD2 : Wb.heap[w.heap.size + 2]? = W.heap[w.heap.size + 2]? := by rw [← hWb]; exact (World.putObj_heap_other (by omega)).trans hD'
        have hsz2 : w.heap.size + 2 < Wb.heap.size := by rw [← hWb]; simpa using hsz'
        have hax2 : Ax pre x a' Wb := by rw [← hWb]; exact (hAx pre x a').putObj (s := ()) _ hax (by omega) hl' rfl
        show body.wpIn _ _ _ _ _ (Wa.putObj (w.heap.size + 1) (.loop { rec .ready none with state := .busy }))
        rw [hWb]
        refine wpIn_mono (hbody _ pre x a' Wb hax2 hpost hsz2 hcb2) ?_
        rintro e a3 W3 hp
        cases e with
        | normal =>
          obtain ⟨hS3, hi3⟩ := hp
          have hl3 := hS3 _ _ (.inr (.inr (.inl rfl))) hl2
          have hk3 := hS3 _ _ (.inr (.inl rfl)) hk2
          have hr := run_endRound (P := P) none hl3
          have hC3 : ∀ k, C k → W3.heap[k]? = W.heap[k]? := fun k hk => ((hS3.eq (.inl hk) (by have := hC k hk; omega)).trans (hcb2 k hk)).trans (hcb k hk).symm
          have hD3 : W3.heap[w.heap.size + 2]? = W.heap[w.heap.size + 2]? := (hS3.eq (.inr (.inr (.inr rfl))) hsz2).trans hD2
          rw [hrec] at hr
          refine ⟨_, _, hr, rfl, ⟨hI.putObj _ hi3 (by omega) hl3 rfl, ?_, ?_⟩, ?_, ?_⟩
          · rw [hrec]; exact World.putObj_heap_same (Array.getElem?_eq_some_iff.1 hl3).1
          · exact (World.putObj_heap_other (by omega)).trans hk3
          · exact (World.putObj_heap_other (by omega)).trans hD3
          · exact fun k hk => (World.putObj_heap_other (by have := hC k hk; omega)).trans (hC3 k hk)
        | exit id => exact hp.elim
        | goto t => exact hp.elim
        | ret => exact hp.elim
        | panic ch => exact hp.elim
        | outgrown => exact hp.elim
      | exit id => exact hq.elim
      | goto t => exact hq.elim
      | ret => exact hq.elim
      | panic ch => exact hq.elim
      | outgrown => exact hq.elim
    · -- BEHIND THE ITERATOR
      rintro e W2 ⟨⟨v, rfl⟩, hi, hl, hk⟩
      exact ⟨none, _, by have := run_endLoop (P := P) hl (by rw [hrec]; simp); rw [hrec] at this; exact this, hdone _ (hI.putObj _ hi (by omega) hl rfl) ((World.putObj_heap_other (by omega)).trans hk)⟩
end Go.Proofs.YtleemphfkhbhaaaDoor

/- Contracts of (Section).outputs and of the iterator that it hands out. -/
namespace Go.Proofs.YtleemphfkhbhaaaDoor
open Go.RowKit
open Calm (bcell Blk)

abbrev XS := Int × Int × Int × Int
/-- the states of a section's run, and its outputs. -/
def ssAt (b0 b1 b2 a1 a2 sh : Int) (st : XS) (xs : List Int) : Nat → XS
  | 0 => st
  | k + 1 => let s := ssAt b0 b1 b2 a1 a2 sh st xs k; (xs.getD k 0, s.1, outS b0 b1 b2 a1 a2 sh s.1 s.2.1 s.2.2.1 s.2.2.2 (xs.getD k 0), s.2.2.1)
def soAt (b0 b1 b2 a1 a2 sh : Int) (st : XS) (xs : List Int) (k : Nat) : Int := let s := ssAt b0 b1 b2 a1 a2 sh st xs k; outS b0 b1 b2 a1 a2 sh s.1 s.2.1 s.2.2.1 s.2.2.2 (xs.getD k 0)
def allS (b0 b1 b2 a1 a2 sh : Int) (st : XS) (xs : List Int) (n : Nat) : List (Int × XS) := (List.range n).map fun k => (soAt b0 b1 b2 a1 a2 sh st xs k, ssAt b0 b1 b2 a1 a2 sh st xs (k + 1))
theorem allS_succ (b0 b1 b2 a1 a2 sh : Int) (st : XS) (xs : List Int) (k : Nat) : allS b0 b1 b2 a1 a2 sh st xs (k + 1) = allS b0 b1 b2 a1 a2 sh st xs k ++ [(soAt b0 b1 b2 a1 a2 sh st xs k, ssAt b0 b1 b2 a1 a2 sh st xs (k + 1))] := by simp [allS, List.range_succ]
theorem allS_post (b0 b1 b2 a1 a2 sh : Int) (st : XS) (xs : List Int) {k n : Nat} (h : k < n) : ∃ post, allS b0 b1 b2 a1 a2 sh st xs n = allS b0 b1 b2 a1 a2 sh st xs k ++ (soAt b0 b1 b2 a1 a2 sh st xs k, ssAt b0 b1 b2 a1 a2 sh st xs (k + 1)) :: post := by
  obtain ⟨m, rfl⟩ : ∃ m, n = k + 1 + m := ⟨n - (k + 1), by omega⟩
  refine ⟨(List.range m).map fun j => (soAt b0 b1 b2 a1 a2 sh st xs (k + 1 + j), ssAt b0 b1 b2 a1 a2 sh st xs (k + 1 + j + 1)), ?_⟩
  have : allS b0 b1 b2 a1 a2 sh st xs (k + 1 + m) = allS b0 b1 b2 a1 a2 sh st xs (k + 1) ++ (List.range m).map fun j => (soAt b0 b1 b2 a1 a2 sh st xs (k + 1 + j), ssAt b0 b1 b2 a1 a2 sh st xs (k + 1 + j + 1)) := by
    simp [allS, List.range_add]
  rw [this, allS_succ]
  simp
def okX (s : XS) : Prop := bd15 s.1 ∧ bd15 s.2.1 ∧ bd15 s.2.2.1 ∧ bd15 s.2.2.2
theorem ssAt_ok {b0 b1 b2 a1 a2 sh : Int} {st : XS} {xs : List Int} (hs : okX st) (hx : inB 32767 xs) : ∀ k, okX (ssAt b0 b1 b2 a1 a2 sh st xs k)
  | 0 => hs
  | k + 1 => by
    have h := ssAt_ok (b0 := b0) (b1 := b1) (b2 := b2) (a1 := a1) (a2 := a2) (sh := sh) hs hx k
    exact ⟨inB_get hx (by omega) k, h.1, limF_bd _, h.2.2.1⟩
/-- what the iterator hands to the loop. -/
def encO (x : Int × XS) : Array Value := #[(.int .i64 (x.1)), .agg #[(.int .i64 (x.2.1)), (.int .i64 (x.2.2.1)), (.int .i64 (x.2.2.2.1)), (.int .i64 (x.2.2.2.2))]]
theorem outputs_any (b0 b1 b2 a1 a2 sh x1 x2 y1 y2 : Int) (A : Option Addr) (n c : Nat) (w : World) :
    Calls Tryd.prog 49 #[.agg #[(.int .i64 (b0)), (.int .i64 (b1)), (.int .i64 (b2)), (.int .i64 (a1)), (.int .i64 (a2)), (.int .i64 (sh))], .agg #[(.int .i64 (x1)), (.int .i64 (x2)), (.int .i64 (y1)), (.int .i64 (y2))], .slice A n c] w fun e w' => e = .returned (.func (.func 59) #[] #[.pointer (some ⟨w.heap.size + 1, 0, none⟩), .pointer (some ⟨w.heap.size + 1 + 1, 0, none⟩), .pointer (some ⟨w.heap.size, 0, none⟩)]) ∧
      Below w.heap.size w w' ∧ Blk w' w.heap.size #[(.int .i64 (b0)), (.int .i64 (b1)), (.int .i64 (b2)), (.int .i64 (a1)), (.int .i64 (a2)), (.int .i64 (sh))] ∧ Blk w' (w.heap.size + 1) #[(.int .i64 (x1)), (.int .i64 (x2)), (.int .i64 (y1)), (.int .i64 (y2))] ∧ Blk w' (w.heap.size + 1 + 1) #[.slice A n c] := by
  go_enter Tryd.func49, Tryd.ntmps49
  go_wp2
  go_ret
  exact ⟨by first | rfl | (simp; done), by (repeat (first | (with_reducible exact Below.refl _ _) | ((with_reducible refine Below.setCell ?_ ?_ _); rotate_left 1; focus (first | (simp; done) | (simp; omega) | (simp at *; omega))) | ((with_reducible refine Below.alloc ?_ ?_ _); rotate_left 1; focus (first | (simp; done) | (simp; omega) | (simp at *; omega))) | (with_reducible refine Below.drew ?_) | ((with_reducible refine Calm.step (by assumption) ?_ ?_); rotate_left 1; focus (first | (simp; done) | (simp; omega) | (simp at *; omega))))), by (repeat (first | ((with_reducible refine Blk.at_ ?_); focus (first | rfl | (simp; done) | (simp; omega))) | (with_reducible refine Blk.alloc ?_ _) | (with_reducible refine Blk.below ?_ (by with_reducible assumption)) | (with_reducible refine Blk.drew ?_))), by (repeat (first | ((with_reducible refine Blk.at_ ?_); focus (first | rfl | (simp; done) | (simp; omega))) | (with_reducible refine Blk.alloc ?_ _) | (with_reducible refine Blk.below ?_ (by with_reducible assumption)) | (with_reducible refine Blk.drew ?_))), by (repeat (first | ((with_reducible refine Blk.at_ ?_); focus (first | rfl | (simp; done) | (simp; omega))) | (with_reducible refine Blk.alloc ?_ _) | (with_reducible refine Blk.below ?_ (by with_reducible assumption)) | (with_reducible refine Blk.drew ?_)))⟩
def blks (a b c d : Nat) (k : Nat) : Prop := k = a ∨ k = b ∨ k = c ∨ k = d

set_option maxRecDepth 100000 in
set_option maxHeartbeats 4000000 in
theorem outputs1_iter (b0 b1 b2 a1 a2 sh x1 x2 y1 y2 : Int) (xs : List Int) (Sb Xb Lb Db : Nat) (A : Option Addr) (c : Nat) (w : World) (n : Nat) (h0 : bd15 b0) (h1 : bd15 b1) (h2 : bd15 b2) (h3 : bd15 a1) (h4 : bd15 a2) (h5 : 0 ≤ sh ∧ sh ≤ 15)
    (hst : okX (x1, x2, y1, y2)) (hx : inB 32767 xs) (hn : xs.length ≤ 5000) (hS : Blk w Sb #[(.int .i64 (b0)), (.int .i64 (b1)), (.int .i64 (b2)), (.int .i64 (a1)), (.int .i64 (a2)), (.int .i64 (sh))]) (hX : Blk w Xb #[(.int .i64 (x1)), (.int .i64 (x2)), (.int .i64 (y1)), (.int .i64 (y2))]) (hL : Blk w Lb #[.slice A xs.length c]) (hC : Cells w A xs) (hD : 0 < xs.length → ∃ o, A = some ⟨Db, o, none⟩) :
    IterM Fence.wide n Tryd.prog 59 #[.pointer (some ⟨Xb, 0, none⟩), .pointer (some ⟨Lb, 0, none⟩), .pointer (some ⟨Sb, 0, none⟩)] encO (allS b0 b1 b2 a1 a2 sh (x1, x2, y1, y2) xs xs.length) (blks Sb Xb Lb Db) w := by
  intro l J W hCW hCl hle hJb hJs hY h00
  have KS := Calm.Blk.of_block hS (hCW _ (.inl rfl))
  have KX := Calm.Blk.of_block hX (hCW _ (.inr (.inl rfl)))
  have KL := Calm.Blk.of_block hL (hCW _ (.inr (.inr (.inl rfl))))
  have lS : Sb < W.heap.size := Nat.lt_of_lt_of_le hS.lt hle
  have lX : Xb < W.heap.size := Nat.lt_of_lt_of_le hX.lt hle
  have lL : Lb < W.heap.size := Nat.lt_of_lt_of_le hL.lt hle
  have lD : Db < W.heap.size := Nat.lt_of_lt_of_le (hCl Db (.inr (.inr (.inr rfl)))) hle
  have HCD : Hid (∀ (W' : World) (k : Nat), (∀ j, blks Sb Xb Lb Db j → W'.heap[j]? = w.heap[j]?) → k < xs.length → ∃ o, A = some ⟨Db, o, none⟩ ∧ W'.cell? ⟨Db, o + k, none⟩ = some (.int .i64 (xs.getD k 0))) := Lib.hid (fun W' k hW hk => by
    obtain ⟨o, hA⟩ := hD (by omega)
    obtain ⟨b, off, hA2, hl, hc⟩ := hC (by omega)
    rw [hA] at hA2
    cases hA2
    exact ⟨o, hA, (World.cell?_of_block (w := w) (a := ⟨Db, o + k, none⟩) (hW Db (.inr (.inr (.inr rfl))))).trans (hc k hk)⟩)
  have HCW := Lib.hid hCW
  have HJB := Lib.hid hJb
  have HJS := Lib.hid hJs
  have HSS := Lib.hid hS
  have HOK := Lib.hid (ssAt_ok (b0 := b0) (b1 := b1) (b2 := b2) (a1 := a1) (a2 := a2) (sh := sh) hst hx)
  have HXI := Lib.hid (fun k => inB_get hx (by omega) k)
  have HST : Hid (∀ (k : Nat) (W' : World), Calls Tryd.prog 60 #[.agg #[(.int .i64 (b0)), (.int .i64 (b1)), (.int .i64 (b2)), (.int .i64 (a1)), (.int .i64 (a2)), (.int .i64 (sh))], .agg #[(.int .i64 ((ssAt b0 b1 b2 a1 a2 sh (x1, x2, y1, y2) xs k).1)), (.int .i64 ((ssAt b0 b1 b2 a1 a2 sh (x1, x2, y1, y2) xs k).2.1)), (.int .i64 ((ssAt b0 b1 b2 a1 a2 sh (x1, x2, y1, y2) xs k).2.2.1)), (.int .i64 ((ssAt b0 b1 b2 a1 a2 sh (x1, x2, y1, y2) xs k).2.2.2))], (.int .i64 (xs.getD k 0))] W' fun r w' =>
      r = .returned (.tuple #[(.int .i64 (soAt b0 b1 b2 a1 a2 sh (x1, x2, y1, y2) xs k)), .agg #[(.int .i64 ((ssAt b0 b1 b2 a1 a2 sh (x1, x2, y1, y2) xs (k + 1)).1)), (.int .i64 ((ssAt b0 b1 b2 a1 a2 sh (x1, x2, y1, y2) xs (k + 1)).2.1)), (.int .i64 ((ssAt b0 b1 b2 a1 a2 sh (x1, x2, y1, y2) xs (k + 1)).2.2.1)), (.int .i64 ((ssAt b0 b1 b2 a1 a2 sh (x1, x2, y1, y2) xs (k + 1)).2.2.2))]]) ∧ Below W'.heap.size W' w') :=
    Lib.hid (fun k W' => by
      obtain ⟨q1, q2, q3, q4⟩ := HOK.out k
      exact sStep_any b0 b1 b2 a1 a2 sh _ _ _ _ _ W' h0 h1 h2 h3 h4 h5 q1 q2 q3 q4 (HXI.out k))
  have HAS := Lib.hid (fun k => allS_succ b0 b1 b2 a1 a2 sh (x1, x2, y1, y2) xs k)
  have HAP := Lib.hid (fun k (hk : k < xs.length) => allS_post b0 b1 b2 a1 a2 sh (x1, x2, y1, y2) xs hk)
  obtain ⟨N, hN⟩ : ∃ N, N = xs.length := ⟨_, rfl⟩
  rw [← hN] at KL hY HCD HAP hn ⊢
  have HY := Lib.hid hY
  obtain ⟨Z, hZ⟩ : ∃ Z : Nat → XS, Z = ssAt b0 b1 b2 a1 a2 sh (x1, x2, y1, y2) xs := ⟨_, rfl⟩
  have HZ0 : Hid (Z 0 = (x1, x2, y1, y2)) := Lib.hid (by rw [hZ]; rfl)
  rw [← hZ] at HST HAS HAP
  obtain ⟨x00, x01, x02, xl, xf, xff⟩ := KX.o4
  obtain ⟨l00, ll, lf⟩ := KL.o1
  have HKS := Lib.hid KS
  clear hCW hJb hJs hS hX hL hC hD hst hx hN hY hZ h0 h1 h2 h3 h4 h5 KS KX KL
  refine callsIn_of_wp Tryd.func59 rfl trivial ?_ rfl
  simp only [Tryd.ntmps59, List.size_toArray, List.length_cons, List.length_nil, Nat.reduceAdd, Nat.reduceSub, Array.replicate_succ, Array.replicate_zero, List.push_toArray, List.append_toArray, List.nil_append, List.cons_append]
  gi_wp2
  gi_loopw [13] (fun i wr => ∃ k : Nat, k ≤ N ∧ i = (.int .i64 ((k : Int))) ∧ Blk wr W.heap.size #[(.int .i64 ((Z k).1)), (.int .i64 ((Z k).2.1)), (.int .i64 ((Z k).2.2.1)), (.int .i64 ((Z k).2.2.2))] ∧ J (allS b0 b1 b2 a1 a2 sh (x1, x2, y1, y2) xs k) wr ∧ ∀ j, blks Sb Xb Lb Db j → wr.heap[j]? = w.heap[j]?) (fun i _ => N - (intOf i).toNat)
  case atStart =>
    exact ⟨0, Nat.zero_le _, rfl, by rw [HZ0.out]; exact Blk.new _ _ _, HJB.out _ _ _ h00 ((Below.refl _ _).alloc (Nat.le_refl _) _), fun j hj => (Below.heap_alloc _ _ _ (by rcases hj with rfl | rfl | rfl | rfl <;> assumption)).trans (HCW.out j hj)⟩
  case round =>
    obtain ⟨k, hk, rfl, K1, hJ1, hC1⟩ := hrel
    have KSr := Calm.Blk.of_block HSS.out (hC1 _ (.inl rfl))
    have hlw : W.heap.size < wr.heap.size := K1.lt
    clear x00 x01 x02 xl xf xff l00 ll lf
    by_cases hk2 : k < N
    · obtain ⟨o, rfl, hin⟩ := HCD.out wr k hC1 hk2
      obtain ⟨s0, s1, s2, s3, s4, s5, sl, sf⟩ := KSr.o6
      obtain ⟨d0, d1, d2, d3, dl, df⟩ := K1.o4
      have HS1 := HST.out k
      obtain ⟨X, hX⟩ : ∃ X, X = xs.getD k 0 := ⟨_, rfl⟩
      obtain ⟨O, hO⟩ : ∃ O, O = soAt b0 b1 b2 a1 a2 sh (x1, x2, y1, y2) xs k := ⟨_, rfl⟩
      have HA1 := Lib.hid (HAS.out k)
      have HP1 := HAP.out k hk2
      rw [← hX] at hin HS1
      rw [← hO] at HS1 HA1 HP1
      have HSS1 := Lib.hid HS1
      have HK1 := Lib.hid K1
      have HJ1 := Lib.hid hJ1
      have HC1 := Lib.hid hC1
      have HPP := Lib.hid HP1
      clear KSr hX hO HS1 K1 hJ1 hC1 HP1
      gi_wp2_with fail
      refine ⟨trivial, fun h => by simp [Fence.wide] at h, ?_⟩
      refine (callsIn_wide.2 (HSS1.out _)).mono ?_
      rintro r w2 ⟨rfl, hb2⟩
      refine Hid.out ?_
      have hs2 := hb2.size
      have K2 := HK1.out.below hb2
      have hC2 : ∀ j, blks Sb Xb Lb Db j → w2.heap[j]? = w.heap[j]? := fun j hj => (hb2.block j (by have : j < W.heap.size := (by rcases hj with rfl | rfl | rfl | rfl <;> assumption); omega)).trans (HC1.out j hj)
      have hJ2 := HJB.out _ _ _ HJ1.out hb2
      obtain ⟨W4, hW4⟩ : ∃ W4, W4 = (((((w2.setCell ⟨W.heap.size, 0, none⟩ (.int .i64 ((Z (k + 1)).1))).setCell ⟨W.heap.size, 1, none⟩ (.int .i64 ((Z (k + 1)).2.1))).setCell ⟨W.heap.size, 2, none⟩ (.int .i64 ((Z (k + 1)).2.2.1))).setCell ⟨W.heap.size, 3, none⟩ (.int .i64 ((Z (k + 1)).2.2.2))).alloc (.cells #[(.int .i64 ((Z (k + 1)).1)), (.int .i64 ((Z (k + 1)).2.1)), (.int .i64 ((Z (k + 1)).2.2.1)), (.int .i64 ((Z (k + 1)).2.2.2))] 61)) := ⟨_, rfl⟩
      have hC4 : ∀ j, blks Sb Xb Lb Db j → W4.heap[j]? = w.heap[j]? := fun j hj => by
        have hjl : j < W.heap.size := (by rcases hj with rfl | rfl | rfl | rfl <;> assumption)
        rw [hW4, Below.heap_alloc _ _ _ (by simp; omega), Below.heap_setCell _ _ _ _ (by simp; omega), Below.heap_setCell _ _ _ _ (by simp; omega), Below.heap_setCell _ _ _ _ (by simp; omega), Below.heap_setCell _ _ _ _ (by simp; omega)]
        exact hC2 j hj
      have hJ4 : J (allS b0 b1 b2 a1 a2 sh (x1, x2, y1, y2) xs k) W4 := by
        rw [hW4]
        exact HJB.out _ _ _ (HJS.out _ _ _ _ (HJS.out _ _ _ _ (HJS.out _ _ _ _ (HJS.out _ _ _ _ hJ2)))) ((Below.refl _ _).alloc (Nat.le_refl _) _)
      have hl4 : W.heap.size < W4.heap.size := by rw [hW4]; simp; omega
      have K4 : Blk W4 W.heap.size #[(.int .i64 ((Z (k + 1)).1)), (.int .i64 ((Z (k + 1)).2.1)), (.int .i64 ((Z (k + 1)).2.2.1)), (.int .i64 ((Z (k + 1)).2.2.2))] := by
        rw [hW4]
        exact ((((K2.set (i := 0) (by simp) _).set (i := 1) (by simp) _).set (i := 2) (by simp) _).set (i := 3) (by simp) _).alloc _
      obtain ⟨fn, tmps, assign, body, hy, hR⟩ := HY.out _ (O, Z (k + 1)) W4 hJ4 hl4 hC4 HPP.out
      dsimp only [encO] at hy
      rw [hW4] at hy
      obtain ⟨e0, e1, e2, e3, el, ef⟩ := K2.o4
      have HK4 := Lib.hid K4
      have HW4 := Lib.hid hW4
      have HR := Lib.hid hR
      have HC4 := Lib.hid hC4
      have ne1 : ¬ w2.heap.size = W.heap.size := by omega
      have ne2 : ¬ W.heap.size = w2.heap.size := by omega
      clear hb2 K2 hC2 hJ2 hC4 hJ4 K4 hW4 hR d0 d1 d2 d3 dl df s0 s1 s2 s3 s4 s5 sl sf hin
      unfold Hid
      gi_wp2
      rw [← HW4.out]
      refine ⟨fun h => by simp [Fence.wide] at h, HR.out.mono ?_⟩
      rintro e W5 ⟨rfl, hJ5, hD5, hC5⟩
      have K5 := Calm.Blk.of_block HK4.out hD5
      have hC6 : ∀ j, blks Sb Xb Lb Db j → W5.heap[j]? = w.heap[j]? := fun j hj => (hC5 j hj).trans (HC4.out j hj)
      have HK5 := Lib.hid K5
      have HC6 := Lib.hid hC6
      have HJ5 := Lib.hid hJ5
      clear hJ5 hD5 hC5 K5 hC6 HW4 hy HR e0 e1 e2 e3 el ef
      gi_wp2
      go_roundw
      case rel => exact ⟨k + 1, by omega, by go_num, HK5.out, by rw [HA1.out]; exact HJ5.out, HC6.out⟩
      case measure => simp [intOf]; omega
    · obtain rfl : k = N := by omega
      clear KSr
      gi_wp2
      go_end0
      exact ⟨⟨_, rfl⟩, hJ1⟩
end Go.Proofs.YtleemphfkhbhaaaDoor

/- Contract of (Section).from. -/
namespace Go.Proofs.YtleemphfkhbhaaaDoor
open Go.RowKit
open Calm (bcell Blk)

def encX (s : XS) : Array Value := #[(.int .i64 (s.1)), (.int .i64 (s.2.1)), (.int .i64 (s.2.2.1)), (.int .i64 (s.2.2.2))]
def lastX (st : XS) (pre : List (Int × XS)) : XS := (pre.getLast?.map Prod.snd).getD st
theorem lastX_snoc (st : XS) (pre : List (Int × XS)) (x : Int × XS) : lastX st (pre ++ [x]) = x.2 := by simp [lastX]
theorem lastX_all (b0 b1 b2 a1 a2 sh : Int) (st : XS) (xs : List Int) : ∀ n, lastX st (allS b0 b1 b2 a1 a2 sh st xs n) = ssAt b0 b1 b2 a1 a2 sh st xs n
  | 0 => rfl
  | k + 1 => by rw [allS_succ, lastX_snoc]
def soK (b0 b1 b2 a1 a2 sh : Int) (st : XS) (xs : List Int) (n : Nat) : List Int := (List.range n).map fun k => soAt b0 b1 b2 a1 a2 sh st xs k
theorem soK_all (b0 b1 b2 a1 a2 sh : Int) (st : XS) (xs : List Int) (n : Nat) : (allS b0 b1 b2 a1 a2 sh st xs n).map Prod.fst = soK b0 b1 b2 a1 a2 sh st xs n := by simp [allS, soK]
theorem soK_len (b0 b1 b2 a1 a2 sh : Int) (st : XS) (xs : List Int) (n : Nat) : (soK b0 b1 b2 a1 a2 sh st xs n).length = n := by simp [soK]
theorem allS_len (b0 b1 b2 a1 a2 sh : Int) (st : XS) (xs : List Int) (n : Nat) : (allS b0 b1 b2 a1 a2 sh st xs n).length = n := by simp [allS]
/-- a block that lies, and may be written. -/
def Unf (w : World) (b : Nat) : Prop := b < w.heap.size ∧ ∀ i, w.frozen? ⟨b, i, none⟩ = false
theorem Unf.below {w w' : World} {b : Nat} (h : Unf w b) (hb : Below w.heap.size w w') : Unf w' b :=
  ⟨Nat.lt_of_lt_of_le h.1 hb.size, fun i => (hb.frozen (p := ⟨b, i, none⟩) h.1).trans (h.2 i)⟩
theorem own_unf {W : World} {base e size n c k : Nat} {p : Addr} {xs : List Value} (h : W.ownsRow base e size (.slice (some p) n c) k xs) : Unf W p.block := by
  rcases h.2 with ⟨h1, h2⟩ | ⟨g, cap, cur, h1, h2, h3, h4, h5, h6, h7⟩
  · cases h1
  · cases h1
    exact ⟨(Array.getElem?_eq_some_iff.1 h3).1, fun i => by unfold World.frozen?; rw [h3]; simp⟩
theorem kbS_own {β : Type} (w5 : World) (S : Nat → Prop) : OwnFrom w5.heap.size (fun (_ : β) W => ∀ k, k < w5.heap.size → ¬ S k → W.heap[k]? = w5.heap[k]?) := fun s X Y row hs hg hrow k hk hne => by
  have hX := hs k hk hne
  have hlt : k < X.heap.size := by
    rw [Array.getElem?_eq_getElem hk] at hX
    exact (Array.getElem?_eq_some_iff.1 hX).1
  exact (hg.block k hlt (fun e => by have := (hrow k e.symm).1; omega)).trans hX
theorem heapRow_own {β : Type} (B : Nat) (cs : β → Array Value) (t : TypeId) : Own (fun (s : β) W => W.heap[B]? = some (.cells (cs s) t (0, 0))) := fun s X Y row hs hg hrow =>
  (hg.block B (Array.getElem?_eq_some_iff.1 hs).1 (fun e' => by obtain ⟨o, ho, hc⟩ := hrow B e'.symm; rw [hs] at ho; cases ho; cases hc)).trans hs
theorem blk_own {β : Type} (B n : Nat) (hB : B < n) (f : β → Array Value) : OwnFrom n (fun s W => Blk W B (f s)) := fun s X Y row hs hg hrow =>
  Calm.Blk.of_block hs (hg.block B hs.lt (fun e => by have := (hrow B e.symm).1; omega))

set_option maxRecDepth 100000 in
set_option maxHeartbeats 4000000 in
theorem from_any (b0 b1 b2 a1 a2 sh x1 x2 y1 y2 : Int) (xs : List Int) (A : Option Addr) (c : Nat) (w : World) (h0 : bd15 b0) (h1 : bd15 b1) (h2 : bd15 b2) (h3 : bd15 a1) (h4 : bd15 a2) (h5 : 0 ≤ sh ∧ sh ≤ 15)
    (hst : okX (x1, x2, y1, y2)) (hx : inB 32767 xs) (hn : xs.length ≤ 5000) (hC : Cells w A xs) :
    Calls Tryd.prog 26 #[.agg #[(.int .i64 (b0)), (.int .i64 (b1)), (.int .i64 (b2)), (.int .i64 (a1)), (.int .i64 (a2)), (.int .i64 (sh))], .agg #[(.int .i64 (x1)), (.int .i64 (x2)), (.int .i64 (y1)), (.int .i64 (y2))], .slice A xs.length c] w fun r w' => (∃ B d, r = .returned (.tuple #[.slice B xs.length d, .agg (encX (ssAt b0 b1 b2 a1 a2 sh (x1, x2, y1, y2) xs xs.length))]) ∧ (∀ p, B = some p → w.heap.size ≤ p.block ∧ Unf w' p.block) ∧ Cells w' B (soK b0 b1 b2 a1 a2 sh (x1, x2, y1, y2) xs xs.length)) ∧ Below w.heap.size w w' := by
  have hfn : ∀ f, Fence.wide.fn f = True := fun _ => rfl
  obtain ⟨i0, hi, iz0, iz1, iz2⟩ := info_parts Tryd.infoI
  have HO : Hid (∀ (n : Nat) (W : World), Calls Tryd.prog 49 #[.agg #[(.int .i64 (b0)), (.int .i64 (b1)), (.int .i64 (b2)), (.int .i64 (a1)), (.int .i64 (a2)), (.int .i64 (sh))], .agg #[(.int .i64 (x1)), (.int .i64 (x2)), (.int .i64 (y1)), (.int .i64 (y2))], .slice A n c] W fun e w' => e = .returned (.func (.func 59) #[] #[.pointer (some ⟨W.heap.size + 1, 0, none⟩), .pointer (some ⟨W.heap.size + 1 + 1, 0, none⟩), .pointer (some ⟨W.heap.size, 0, none⟩)]) ∧
      Below W.heap.size W w' ∧ Blk w' W.heap.size #[(.int .i64 (b0)), (.int .i64 (b1)), (.int .i64 (b2)), (.int .i64 (a1)), (.int .i64 (a2)), (.int .i64 (sh))] ∧ Blk w' (W.heap.size + 1) #[(.int .i64 (x1)), (.int .i64 (x2)), (.int .i64 (y1)), (.int .i64 (y2))] ∧ Blk w' (W.heap.size + 1 + 1) #[.slice A n c]) := Lib.hid (fun n W => outputs_any b0 b1 b2 a1 a2 sh x1 x2 y1 y2 A n c W)
  obtain ⟨Db, hDb, hD⟩ : ∃ Db, Db < w.heap.size + 1 ∧ (0 < xs.length → ∃ o, A = some ⟨Db, o, none⟩ ∧ Db < w.heap.size) := by
    by_cases hl : 0 < xs.length
    · obtain ⟨b, off, hA, hb, _⟩ := hC hl
      exact ⟨b, by omega, fun _ => ⟨off, hA, hb⟩⟩
    · exact ⟨w.heap.size, by omega, fun h => absurd h hl⟩
  obtain ⟨N, hN⟩ : ∃ N, N = xs.length := ⟨_, rfl⟩
  have HN := Lib.hid hN
  have HC := Lib.hid hC
  have HI : Hid (∀ (W : World) (Sb Xb Lb : Nat) (n : Nat), Blk W Sb #[(.int .i64 (b0)), (.int .i64 (b1)), (.int .i64 (b2)), (.int .i64 (a1)), (.int .i64 (a2)), (.int .i64 (sh))] → Blk W Xb #[(.int .i64 (x1)), (.int .i64 (x2)), (.int .i64 (y1)), (.int .i64 (y2))] → Blk W Lb #[.slice A N c] → Cells W A xs → IterM Fence.wide n Tryd.prog 59 #[.pointer (some ⟨Xb, 0, none⟩), .pointer (some ⟨Lb, 0, none⟩), .pointer (some ⟨Sb, 0, none⟩)] encO (allS b0 b1 b2 a1 a2 sh (x1, x2, y1, y2) xs N) (blks Sb Xb Lb Db) W) :=
    Lib.hid (fun W Sb Xb Lb n k1 k2 k3 k4 => by rw [hN] at k3 ⊢; exact outputs1_iter b0 b1 b2 a1 a2 sh x1 x2 y1 y2 xs Sb Xb Lb Db A c W n h0 h1 h2 h3 h4 h5 hst hx hn k1 k2 k3 k4 (fun h => by obtain ⟨o, e, _⟩ := hD h; exact ⟨o, e⟩))
  rw [← hN] at hn ⊢
  have HLS := Lib.hid (lastX_all b0 b1 b2 a1 a2 sh (x1, x2, y1, y2) xs N)
  have HSK := Lib.hid (soK_all b0 b1 b2 a1 a2 sh (x1, x2, y1, y2) xs N)
  have HAL := Lib.hid (allS_len b0 b1 b2 a1 a2 sh (x1, x2, y1, y2) xs N)
  obtain ⟨AL, hAL⟩ : ∃ AL, AL = allS b0 b1 b2 a1 a2 sh (x1, x2, y1, y2) xs N := ⟨_, rfl⟩
  obtain ⟨LX, hLX⟩ : ∃ LX, LX = ssAt b0 b1 b2 a1 a2 sh (x1, x2, y1, y2) xs N := ⟨_, rfl⟩
  obtain ⟨SK, hSK⟩ : ∃ SK, SK = soK b0 b1 b2 a1 a2 sh (x1, x2, y1, y2) xs N := ⟨_, rfl⟩
  rw [← hAL] at HI HLS HSK HAL
  rw [← hLX] at HLS ⊢
  rw [← hSK] at HSK ⊢
  clear hC hN h0 h1 h2 h3 h4 h5 hst hx hAL hLX hSK
  have HD := Lib.hid hD
  clear hD
  refine (callsIn_wide (n := 10)).1 ?_
  refine callsIn_of_wp_marks Tryd.func26 rfl trivial ?_ rfl
  simp only [Tryd.ntmps26, List.size_toArray, List.length_cons, List.length_nil, Nat.reduceAdd, Nat.reduceSub, Array.replicate_succ, Array.replicate_zero, List.push_toArray, List.append_toArray, List.nil_append, List.cons_append]
  gi_wp2_with (gi_at_call 49; refine (callsIn_wide.2 (HO.out N _)).mono ?_; rintro r w5 ⟨rfl, hb5, K0, K1, K2⟩; obtain ⟨hc5, hf5⟩ := bcell hb5)
  simp only [World.size_alloc] at K0 K1 K2
  have hz5 := K2.lt
  have hO5 : Boxed w5 (w.heap.size + 1 + 1 + 1) 22 (.slice none 0 0) := (hb5.block _ (by simp)).trans (heap_new (by simp))
  have KX : Blk w5 (w.heap.size + 1) #[(.int .i64 (x1)), (.int .i64 (x2)), (.int .i64 (y1)), (.int .i64 (y2))] := Blk.below (by (repeat (first | ((with_reducible refine Blk.at_ ?_); focus (first | rfl | (simp; done) | (simp; omega))) | (with_reducible refine Blk.alloc ?_ _) | (with_reducible refine Blk.below ?_ (by with_reducible assumption)) | (with_reducible refine Blk.drew ?_)))) hb5
  have KR : Blk w5 (w.heap.size + 1 + 1) #[(.int .i64 (0)), (.int .i64 (0)), (.int .i64 (0)), (.int .i64 (0))] := Blk.below (by (repeat (first | ((with_reducible refine Blk.at_ ?_); focus (first | rfl | (simp; done) | (simp; omega))) | (with_reducible refine Blk.alloc ?_ _) | (with_reducible refine Blk.below ?_ (by with_reducible assumption)) | (with_reducible refine Blk.drew ?_)))) hb5
  have HB5 := Lib.hid (show Below w.heap.size w w5 from Below.trans (by (repeat (first | (with_reducible exact Below.refl _ _) | ((with_reducible refine Below.setCell ?_ ?_ _); rotate_left 1; focus (first | (simp; done) | (simp; omega) | (simp at *; omega))) | ((with_reducible refine Below.alloc ?_ ?_ _); rotate_left 1; focus (first | (simp; done) | (simp; omega) | (simp at *; omega))) | (with_reducible refine Below.drew ?_) | ((with_reducible refine Calm.step (by assumption) ?_ ?_); rotate_left 1; focus (first | (simp; done) | (simp; omega) | (simp at *; omega)))))) (hb5.mono (by simp; omega)))
  have HIT := Lib.hid (HI.out w5 _ _ _ (10 - 1) K0 K1 K2 (HC.out.below (Below.trans (by (repeat (first | (with_reducible exact Below.refl _ _) | ((with_reducible refine Below.setCell ?_ ?_ _); rotate_left 1; focus (first | (simp; done) | (simp; omega) | (simp at *; omega))) | ((with_reducible refine Below.alloc ?_ ?_ _); rotate_left 1; focus (first | (simp; done) | (simp; omega) | (simp at *; omega))) | (with_reducible refine Below.drew ?_) | ((with_reducible refine Calm.step (by assumption) ?_ ?_); rotate_left 1; focus (first | (simp; done) | (simp; omega) | (simp at *; omega)))))) (hb5.mono (by simp; omega)))))
  have HKR := Lib.hid KR
  clear hb5 hc5 hf5 K0 K1 K2 HI HO KR
  have hIO : OwnFrom w5.heap.size (fun (pre : List (Int × XS)) W => ((∃ v, Boxed W (w.heap.size + 1 + 1 + 1) 22 v ∧ W.ownsRow (w5.heap.size + 3) 3 1 v pre.length ((pre.map Prod.fst).map (Value.int .i64)) ∧ True) ∧ Blk W (w.heap.size + 1) (encX (lastX (x1, x2, y1, y2) pre)) ∧ ((∀ k, k < w5.heap.size → ¬ (k = w.heap.size + 1 ∨ k = w.heap.size + 1 + 1 + 1) → W.heap[k]? = w5.heap[k]?) ∧ Below w.heap.size w W))) :=
    OwnFrom.and ((holdsRow_own _ _ _ _ _ _ _ _).from _) (OwnFrom.and (blk_own _ _ (by omega) _) (OwnFrom.and (kbS_own w5 _) (ownFrom_below (Nat.le_refl _) (by omega))))
  have HIO := Lib.hid hIO
  refine range_iterM (F := Fence.wide) (n := 10) rfl (by decide) (gf := 59) (lb := #[.pointer (some ⟨w.heap.size + 1 + 1 + 1 + 1 + 1, 0, none⟩), .pointer (some ⟨w.heap.size + 1 + 1 + 1 + 1 + 1 + 1, 0, none⟩), .pointer (some ⟨w.heap.size + 1 + 1 + 1 + 1, 0, none⟩)]) rfl trivial (enters_of Tryd.func59 (by kernel_rfl) rfl)
    (enc := encO) (all := AL) (C := blks (w.heap.size + 1 + 1 + 1 + 1) (w.heap.size + 1 + 1 + 1 + 1 + 1) (w.heap.size + 1 + 1 + 1 + 1 + 1 + 1) Db) (by rintro k (rfl | rfl | rfl | rfl) <;> omega) HIT.out (fun _ => rfl)
    _
    hIO ?his ⟨⟨_, hO5, World.ownsRow_nil _ _ _ _, trivial⟩, KX, fun _ _ _ => rfl, HB5.out⟩
    (fun (pre : List (Int × XS)) (x : Int × XS) (a' : Act) (W : World) => ((∃ v, Boxed W (w.heap.size + 1 + 1 + 1) 22 v ∧ W.ownsRow (w5.heap.size + 3) 3 1 v pre.length ((pre.map Prod.fst).map (Value.int .i64)) ∧ True) ∧ Blk W (w.heap.size + 1) (encX (lastX (x1, x2, y1, y2) pre)) ∧ ((∀ k, k < w5.heap.size → ¬ (k = w.heap.size + 1 ∨ k = w.heap.size + 1 + 1 + 1) → W.heap[k]? = w5.heap[k]?) ∧ Below w.heap.size w W)) ∧
      ∃ Bx, w5.heap.size + 2 < Bx ∧ W.heap[Bx]? = some (.cells (encX x.2) 61 (0, 0)) ∧ a' = { tmps := #[.agg #[(.int .i64 (b0)), (.int .i64 (b1)), (.int .i64 (b2)), (.int .i64 (a1)), (.int .i64 (a2)), (.int .i64 (sh))], .agg #[(.int .i64 (x1)), (.int .i64 (x2)), (.int .i64 (y1)), (.int .i64 (y2))], .slice A N c, .pointer (some ⟨w.heap.size, 0, none⟩), .pointer (some ⟨w.heap.size + 1, 0, none⟩), undef, .slice none 0 0, .pointer (some ⟨w.heap.size + 1 + 1, 0, none⟩), .pointer (some ⟨w.heap.size + 1 + 1 + 1, 0, none⟩), (.int .i64 (x.1)), .pointer (some ⟨Bx, 0, none⟩), .agg #[(.int .i64 (b0)), (.int .i64 (b1)), (.int .i64 (b2)), (.int .i64 (a1)), (.int .i64 (a2)), (.int .i64 (sh))], .agg #[(.int .i64 (x1)), (.int .i64 (x2)), (.int .i64 (y1)), (.int .i64 (y2))], .slice A N c, .func (.func 59) #[] #[.pointer (some ⟨w.heap.size + 1 + 1 + 1 + 1 + 1, 0, none⟩), .pointer (some ⟨w.heap.size + 1 + 1 + 1 + 1 + 1 + 1, 0, none⟩), .pointer (some ⟨w.heap.size + 1 + 1 + 1 + 1, 0, none⟩)], (.int .i64 (x.1)), .agg (encX x.2), undef, undef, undef, undef, undef, undef, undef], defers := [] })
    ?hax ?assign ?body ?done
  case his =>
    rintro pre W i v ⟨⟨v0, hv, ho, _⟩, hkx, hk, hB⟩
    exact ⟨⟨v0, (Below.heap_setCell _ _ _ _ (by simp; omega)).trans hv, ownsRow_setCell_below ho (by simp) v, trivial⟩, Blk.far hkx (by simp; omega) v, fun k h1 h2 => (Below.heap_setCell _ _ _ _ (by simp; omega)).trans (hk k h1 h2), hB.setCell (by simp; omega) v⟩
  case hax =>
    rintro pre x a' s X Y row ⟨hi, Bx, h1, h2, h3⟩ hg hrow
    exact ⟨hIO pre X Y row hi hg hrow, Bx, h1, heapRow_own Bx (fun x : Int × XS => encX x.2) _ x X Y row h2 hg (fun r e => (hrow r e).2), h3⟩
  case assign =>
    rintro l pre x W hi ⟨post, hpost⟩ hsz hcb
    have hsem : ∀ (ρ : Operand → Value) (o : Oper), (∀ c, o.op ≠ .defer c) → Oper.semAt (some l) ρ o = execOp ρ o := Oper.semAt_some l
    have HI := Lib.hid hi
    clear hi hIO hpost hcb
    dsimp only [encO]
    gi_wp2
    exact ⟨(Same.refl _ _).alloc _, HIO.out.alloc _ HI.out, W.heap.size, hsz, World.alloc_heap_new W _, rfl⟩
  case body =>
    rintro l pre ⟨y, s1, s2, s3, s4⟩ a' W ⟨⟨⟨v, hv, ho, _⟩, hkx, hk, hB⟩, Bx, hBx, hx, rfl⟩ ⟨post, hpost⟩ hsz hcb
    have hsem : ∀ (ρ : Operand → Value) (o : Oper), (∀ c, o.op ≠ .defer c) → Oper.semAt (some l) ρ o = execOp ρ o := Oper.semAt_some l
    have hlen : pre.length + 1 ≤ 5000 := by have h1 := HAL.out; rw [hpost] at h1; simp at h1; omega
    obtain ⟨_, _, _, _, hxl, hxf⟩ := (Calm.Blk.row hx).o4
    have KX1 := Calm.Blk.row hx
    have hnx : ∀ k, v.ownBlock = some k → k ≠ Bx := by
      rintro k e rfl
      rcases ho.2 with ⟨rfl, _⟩ | ⟨g, cap, cur, rfl, h1, h2, _⟩
      · cases e
      · cases e
        rw [hx] at h2
        cases h2
    have vc := hv.cell
    have vl := hv.lt
    have HV := Lib.hid hv
    have HK := Lib.hid hk
    have HB := Lib.hid hB
    have HO := Lib.hid ho
    have HKX := Lib.hid hkx
    have HX := Lib.hid KX1
    clear hv hk hB ho hkx hx hIO hpost hcb KX1
    dsimp only [encX]
    gi_wp2_with (gi_at_builtin; refine wpListIn_append_own _ rfl _ _ 22 rfl (w5.heap.size + 3) 3 i0 _ 1 8 Tryd.underlying22 hi iz0 iz1 iz2 rfl (by decide) _ _ _ rfl (HO.out.alloc _) ⟨W.heap.size, 0, none⟩ 1 1 [(.int .i64 (y))] rfl rfl ?c1 ?c2 ?c3 ?c4 ?c5 ?_)
    case c2 => rfl
    case c3 => unfold maxLen; omega
    case c4 => omega
    case c5 => have h1 := HB5.out.size; simp; omega
    intro v' w7 hown' hgrow _
    have hv6 : Boxed (W.alloc (.cells #[(.int .i64 (y))] 3)) (w.heap.size + 1 + 1 + 1) 22 v := heap_old (by omega) HV.out
    have hne : ∀ k, v.ownBlock = some k → w5.heap.size + 3 ≤ k := fun k e => (HO.out.lt k e).1
    have hv7 : Boxed w7 (w.heap.size + 1 + 1 + 1) 22 v := hv6.kept hgrow (fun e => by have := hne _ e.symm; omega)
    have hb7 : ∀ k, k < W.heap.size → k < w5.heap.size + 3 → w7.heap[k]? = W.heap[k]? := fun k h1 h2 => (hgrow.block k (by simp; omega) (fun e => by have := hne k e.symm; omega)).trans (heap_old h1 rfl)
    have hX7 : Blk w7 Bx (encX (s1, s2, s3, s4)) := grown_blk (HX.out.alloc _) hgrow hnx
    have hs7 : W.heap.size < w7.heap.size := by have := hgrow.size; simp at this; omega
    have vc7 := hv7.cell
    have vf7 := hv7.frozen
    have HOW := Lib.hid hown'
    have HGR := Lib.hid hgrow
    have HNE := Lib.hid hne
    have HV7 := Lib.hid hv7
    obtain ⟨d0, d1, d2, d3, dl, df⟩ := hX7.o4
    have K7 : Blk w7 (w.heap.size + 1) (encX (lastX (x1, x2, y1, y2) pre)) := Calm.Blk.of_block HKX.out (hb7 _ (by omega) (by omega))
    obtain ⟨_, _, _, _, ql, qf⟩ := K7.o4
    have HK7 := Lib.hid K7
    have HB7 := Lib.hid hb7
    have ql1 : w.heap.size + 1 < w7.heap.size := by omega
    have ql2 : w.heap.size + 1 + 1 + 1 < w7.heap.size := by omega
    obtain ⟨g', cap', rfl⟩ := ownsRow_succ hown'
    clear hgrow hne hown' K7 hb7 hv7 hv6 hX7
    gi_wp2
    refine ⟨?same, ⟨⟨.slice (some ⟨g', 0, none⟩) (pre.length + 1) cap', ?bx, ?own⟩, ?kx, ?kb, ?blw⟩⟩
    case same =>
      refine Same.setCell (Same.setCell (Same.setCell (Same.setCell (Same.setCell (p := ⟨w.heap.size + 1 + 1 + 1, 0, none⟩) (Same.grown ((Same.refl _ _).alloc _) HGR.out (fun k e hk => by have := HNE.out k e; rcases hk with (rfl | rfl | rfl | rfl) | rfl | rfl | rfl <;> omega)) ?_ _) ?_ _) ?_ _) ?_ _) ?_ _ <;>
        (rintro ((h | h | h | h) | h | h | h) <;> simp at h <;> omega)
    case bx => exact (Below.heap_setCell _ _ _ _ (by simp <;> omega)).trans ((Below.heap_setCell _ _ _ _ (by simp <;> omega)).trans ((Below.heap_setCell _ _ _ _ (by simp <;> omega)).trans ((Below.heap_setCell _ _ _ _ (by simp <;> omega)).trans (HV7.out.set _))))
    case own =>
      refine ownsRow_setCell_below (ownsRow_setCell_below (ownsRow_setCell_below (ownsRow_setCell_below (ownsRow_setCell_below ?_ (by simp; omega) _) (by simp; omega) _) (by simp; omega) _) (by simp; omega) _) (by simp; omega) _
      have := HOW.out
      simpa using this
    case kx =>
      rw [lastX_snoc]
      exact ((((HK7.out.far (by simp <;> omega) _).set (i := 0) (by simp [encX]) _).set (i := 1) (by simp [encX]) _).set (i := 2) (by simp [encX]) _).set (i := 3) (by simp [encX]) _
    case kb =>
      intro k h1 h2 h3
      rw [Below.heap_setCell _ _ _ _ (by simpa using h2), Below.heap_setCell _ _ _ _ (by simpa using h2), Below.heap_setCell _ _ _ _ (by simpa using h2), Below.heap_setCell _ _ _ _ (by simpa using h2), Below.heap_setCell _ _ _ _ (by simpa using h3)]
      exact (HB7.out k (by omega) (by omega)).trans (HK.out k h1 (by rintro (h | h) <;> omega))
    case blw =>
      refine ((((Below.setCell ((HB.out.alloc (by omega) _).grown HGR.out (by simp <;> omega) (fun k e => by have := HNE.out k e; omega)) (by simp <;> omega) _).setCell (by simp <;> omega) _).setCell (by simp <;> omega) _).setCell (by simp <;> omega) _).setCell (by simp <;> omega) _
  case done =>
    rintro W ⟨⟨v, hv, ho, _⟩, hkx, hk, hB⟩ hdef
    rw [HLS.out] at hkx
    rw [HSK.out, HAL.out] at ho
    obtain ⟨a, c', rfl⟩ := own_slice ho
    have vc := hv.cell
    have vl := hv.lt
    have HO := Lib.hid ho
    have HB := Lib.hid hB
    have HDEF := Lib.hid hdef
    have KR := HKR.out.of_block (hk _ (by omega) (by omega))
    obtain ⟨e0, e1, e2, e3, el, ef⟩ := hkx.o4
    obtain ⟨f0, f1, f2, f3, fl, ff⟩ := KR.o4
    have HKRW := Lib.hid KR
    have hDl := (Array.getElem?_eq_some_iff.1 hdef).1
    clear hIO ho hv hk hdef hB hkx KR
    gi_wp2
    refine wpIn_wide.2 ?_
    refine Calm.tail_below 3 (by kernel_rfl) (by kernel_rfl) ?_
    simp only [List.take_succ_cons, List.take_zero, List.drop_succ_cons, List.drop_zero]
    repeat (first | (apply Calm.op_move; (focus rfl); (focus (first | exact .inl rfl | exact .inr rfl)); (focus ((try simp only [Act.eval, Array.getD_eq_getD_getElem?, List.getElem?_toArray, List.getElem?_cons_succ, List.getElem?_cons_zero, Option.getD_some]); rfl)); (try simp only [Act.put, List.setIfInBounds_toArray, List.set_cons_zero, List.set_cons_succ])) | (apply Calm.op_not; (focus rfl); (try simp only [Act.put, List.setIfInBounds_toArray, List.set_cons_zero, List.set_cons_succ])) | (apply Calm.op; (focus rfl); (focus (intro W hb; obtain ⟨hc, hf⟩ := bcell hb; clear hb hf; go_simp; (try go_bits); (try rfl); done)); (try simp only [Act.put, List.setIfInBounds_toArray, List.set_cons_zero, List.set_cons_succ])))
    refine wpQuiet_nil ?_
    intro w6 hb6
    obtain ⟨hb6c, hb6f⟩ := bcell hb6
    have hb6z := hb6.size
    (try simp at hb6z)
    (try have hb6z0 : w.heap.size < w6.heap.size := by omega)
    (try have hb6z1 : w.heap.size + 1 < w6.heap.size := by omega)
    (try have hb6z2 : w.heap.size + 1 + 1 < w6.heap.size := by omega)
    (try have hb6z3 : w.heap.size + 1 + 1 + 1 < w6.heap.size := by omega)
    (try have hb6z4 : w.heap.size + 1 + 1 + 1 + 1 < w6.heap.size := by omega)
    (try have hb6z5 : w.heap.size + 1 + 1 + 1 + 1 + 1 < w6.heap.size := by omega)
    have HB6 := Lib.hid (HB.out.trans (hb6.mono HB.out.size))
    have hown6 := ownsRow_below HO.out hb6
    have hdef6 := (hb6.block _ hDl).trans HDEF.out
    have hDl6 : w5.heap.size < w6.heap.size := (Array.getElem?_eq_some_iff.1 hdef6).1
    have HO6 := Lib.hid hown6
    have HD6 := Lib.hid hdef6
    have KR6 := HKRW.out.below hb6
    have HKR6 := Lib.hid KR6
    obtain ⟨g0, g1, g2, g3, gl, gf⟩ := KR6.o4
    clear hown6 hdef6 hb6 hb6c hb6f f0 f1 f2 f3 fl ff KR6
    go_wp2
    gi_wp2
    obtain ⟨W8, hW8⟩ : ∃ W8, W8 = ((((w6.setCell ⟨w.heap.size + 1 + 1, 0, none⟩ (.int .i64 (LX.1))).setCell ⟨w.heap.size + 1 + 1, 1, none⟩ (.int .i64 (LX.2.1))).setCell ⟨w.heap.size + 1 + 1, 2, none⟩ (.int .i64 (LX.2.2.1))).setCell ⟨w.heap.size + 1 + 1, 3, none⟩ (.int .i64 (LX.2.2.2))) := ⟨_, rfl⟩
    have K8 : Blk W8 (w.heap.size + 1 + 1) (encX LX) := by
      rw [hW8]
      exact (((HKR6.out.set (i := 0) (by simp) _).set (i := 1) (by simp) _).set (i := 2) (by simp) _).set (i := 3) (by simp) _
    have D8 : W8.heap[w5.heap.size]? = some (.deferred (some [])) := by
      rw [hW8, Below.heap_setCell _ _ _ _ (by simp <;> omega), Below.heap_setCell _ _ _ _ (by simp <;> omega), Below.heap_setCell _ _ _ _ (by simp <;> omega), Below.heap_setCell _ _ _ _ (by simp <;> omega)]
      exact HD6.out
    have B8 : Below w.heap.size w W8 := by
      rw [hW8]
      exact (((HB6.out.setCell (by simp <;> omega) _).setCell (by simp <;> omega) _).setCell (by simp <;> omega) _).setCell (by simp <;> omega) _
    have O8 : W8.ownsRow (w5.heap.size + 3) 3 1 (.slice a N c') N (SK.map (Value.int .i64)) := by
      rw [hW8]
      exact ownsRow_setCell_below (ownsRow_setCell_below (ownsRow_setCell_below (ownsRow_setCell_below HO6.out (by simp <;> omega) _) (by simp <;> omega) _) (by simp <;> omega) _) (by simp <;> omega) _
    rw [← hW8]
    clear hW8 g0 g1 g2 g3 gl gf
    refine ⟨by simp, .inl ⟨_, _, rfl, run_takeDeferred D8, ?_⟩⟩
    have K9 : Blk (W8.putObj w5.heap.size (.deferred none)) (w.heap.size + 1 + 1) (encX LX) := K8.of_block (World.putObj_heap_other (by omega))
    have O9 := ownsRow_putObj O8 (.deferred none) D8 rfl
    have B9 := B8.trans (belowK_b (w := w) (Nat.le_refl _) W8 w5.heap.size (.deferred (some [])) (.deferred none) (by omega) D8 rfl rfl)
    obtain ⟨A9, c9, hv9, hf9, hC9⟩ := own_ints O9 (by rw [← HSK.out, List.length_map, HAL.out])
    cases hv9
    clear K8 D8 B8 O8
    obtain ⟨k0, k1, k2, k3, _, _⟩ := Blk.o4 K9
    refine ⟨.tuple #[.slice a N c', .agg (encX LX)], ?_, ⟨a, c', rfl, fun p e => ?_, hC9⟩, B9⟩
    · simp [results, Tryd.results26, go_sem, encX, k0, k1, k2, k3]
    · have h1 := hf9 p e
      subst e
      exact ⟨by omega, own_unf O9⟩
end Go.Proofs.YtleemphfkhbhaaaDoor
