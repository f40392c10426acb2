/- Part 4 of the texts of the claim: IterM, P8, P10, Alloc3, P11, Grw, RelL, P9, P12, P16, P17, X1, IterR, X2, Tc7. -/
import Derived.RangeFuncNested
import Derived.RangeFuncBound
import Derived.RangeFuncCalls
import Derived.RangeFuncLeaves
import Derived.Test.YtamldoidalnloaaMm1
import Derived.Test.YtamldoidalnloaaMm2
import Derived.WalkSmall
import Derived.WalkMore
import Derived.Maps.AppendAt
import Derived.ChangeKeysEq
import Derived.Laws.Cover3
import Derived.OrdersIn
import Derived.Shelf.Abstract
import Derived.OwnWalkIn
import Derived.TacticsInMore
import Derived.LoopNIn
import Derived.LoopIn
import Derived.Test.YtamldoidalnloaaMm3

/- The law of 'for x, y := range seq' over an iterator that keeps a variable of its own in cells, reads some blocks, and calls; the body never leaves the loop. -/
namespace Go.Proofs.Ytamldoidalnloaa
open Go.RowKit

/-- Whatever lies in a block of S lies as it lay. -/
def Same (S : Nat → Prop) (W W' : World) : Prop := ∀ k o, S k → W.heap[k]? = some o → W'.heap[k]? = some o
theorem Same.refl (S : Nat → Prop) (W : World) : Same S W W := fun _ _ _ h => h
theorem Same.alloc {S : Nat → Prop} {W W' : World} (h : Same S W W') (o : Obj) : Same S W (W'.alloc o) := fun k o1 hk ho => by
  have h1 := h k o1 hk ho
  exact (Below.heap_alloc _ _ _ (Array.getElem?_eq_some_iff.1 h1).1).trans h1
theorem Same.setCell {S : Nat → Prop} {W W' : World} (h : Same S W W') {p : Addr} (hp : ¬ S p.block) (u : Value) : Same S W (W'.setCell p u) := fun k o1 hk ho =>
  (Below.heap_setCell _ _ _ _ (fun e => hp (e ▸ hk))).trans (h k o1 hk ho)
theorem Same.grown {S : Nat → Prop} {W W' W2 : World} {row : Option Nat} (h : Same S W W') (hg : W'.grownBy W2 row) (hr : ∀ k, row = some k → ¬ S k) : Same S W W2 := fun k o1 hk ho => by
  have h1 := h k o1 hk ho
  exact (hg.block k (Array.getElem?_eq_some_iff.1 h1).1 (fun e => hr k e.symm hk)).trans h1
theorem Same.eq {S : Nat → Prop} {W W' : World} (h : Same S W W') {k : Nat} (hk : S k) (hl : k < W.heap.size) : W'.heap[k]? = W.heap[k]? := by
  have e := Array.getElem?_eq_getElem hl
  rw [h k _ hk e, e]

/-- The contract of an iterator that is entered with a heap of the size W.heap.size and lays its own block there; the blocks of C are read. -/
def IterM {α : Type} (F : Fence) (n : Nat) (P : Program) (g : Nat) (lb : Array Value) (enc : α → Array Value) (all : List α) (C : Nat → Prop) (w : World) : Prop :=
  ∀ (l : Nat) (J : List α → World → Prop) (W : World), (∀ k, C k → W.heap[k]? = w.heap[k]?) → (∀ k, C k → k < w.heap.size) → w.heap.size ≤ W.heap.size →
    (∀ pre W1 W2, J pre W1 → Below W1.heap.size W1 W2 → J pre W2) →
    (∀ pre W1 i v, J pre W1 → J pre (W1.setCell ⟨W.heap.size, i, none⟩ v)) →
    (∀ pre x W1, J pre W1 → W.heap.size < W1.heap.size → (∀ k, C k → W1.heap[k]? = w.heap[k]?) → (∃ post, all = pre ++ x :: post) →
      YieldAt F (n - 1) P l (enc x) W1 fun e W' => e = .returned (.bool true) ∧ J (pre ++ [x]) W' ∧ W'.heap[W.heap.size]? = W1.heap[W.heap.size]? ∧ ∀ k, C k → W'.heap[k]? = W1.heap[k]?) →
    J [] W →
    CallsIn F n P g (#[.func (.yield l) #[] #[]] ++ lb) W fun e W' => (∃ v, e = .returned v) ∧ J all W'

/-- How a body that never leaves the loop may end. -/
def iterPost (S : Nat → Prop) (W : World) (I : World → Prop) : Exit → Act → World → Prop
  | .normal, _, W' => Same S W W' ∧ I W'
  | _, _, _ => False

/-- the blocks that a round must leave alone: the three of the loop, from B on, and Cb. -/
def roundS (C : Nat → Prop) (B : Nat) (k : Nat) : Prop := C k ∨ k = B ∨ k = B + 1 ∨ k = B + 2

theorem range_iterM {F : Fence} {n : Nat} {P : Program} {α : Type} {g : Operand} {ps : Array Tmp} {assign body : Code} {Q : Exit → Act → World → Prop} {a : Act} {w : World}
    (hro : F.round = none) (h1 : 1 ≤ n) {gf : Nat} {lb : Array Value} (hg : a.eval g = .func (.func gf) #[] lb) (hFg : F.fn gf) (eg : ∀ args w, (callFunc gf args).run P w = .ok (.enter gf args) w)
    {enc : α → Array Value} {all : List α} {C : Nat → Prop} (hC : ∀ k, C k → k < w.heap.size) (hseq : IterM F (n - 1) P gf lb enc all C w) (hps : ∀ x, ps.size = (enc x).size)
    (I : List α → World → Prop) (hI : OwnFrom w.heap.size I) (hIs : ∀ pre W i v, I pre W → I pre (W.setCell ⟨w.heap.size + 2, i, none⟩ v)) (h0 : I [] w)
    (Ax : List α → α → Act → World → Prop) (hAx : ∀ pre x a', OwnFrom w.heap.size (fun (_ : Unit) W => Ax pre x a' W))
    (hassign : ∀ (l : Nat) (pre : List α) (x : α) (W : World), I pre W → (∃ post, all = pre ++ x :: post) → w.heap.size + 2 < W.heap.size → (∀ k, C k → W.heap[k]? = w.heap[k]?) →
      assign.wpIn (F.inRound l) (n - 1 - 1) P (Exit.then (fun a' W' => Same (roundS C w.heap.size) W W' ∧ Ax pre x a' W') (fun _ _ _ => False)) { tmps := (ps.zip (enc x)).foldl (fun t (p, v) => t.setIfInBounds p v) a.tmps, defers := [] } W)
    (hbody : ∀ (l : Nat) (pre : List α) (x : α) (a' : Act) (W : World), Ax pre x a' W → (∃ post, all = pre ++ x :: post) → w.heap.size + 2 < W.heap.size → (∀ k, C k → W.heap[k]? = w.heap[k]?) →
      body.wpIn (F.inRound l) (n - 1 - 1) P (iterPost (roundS C w.heap.size) W (I (pre ++ [x]))) a' W)
    (hdone : ∀ (W : World), I all W → W.heap[w.heap.size]? = some (.deferred (some [])) → Q .normal { a with defers := { target := .collected w.heap.size, args := #[] } :: a.defers } W) :
    (Code.rangeFunc g ps assign body).wpIn F n P Q a w := by
  refine wpIn_rangeFunc ?_
  intro fn hfn
  rw [hro]
  obtain ⟨rec, hrec⟩ : ∃ rec : LoopState → Option Code → Loop, rec = fun st pe => { state := st, pending := pe, fn, tmps := a.tmps, params := ps, assign, body, defers := w.heap.size } := ⟨_, rfl⟩
  obtain ⟨W1, hW1⟩ : ∃ W1, (w.alloc (.deferred (some []))).alloc (.loop (rec .ready none)) = W1 := ⟨_, rfl⟩
  have hL1 : W1.heap[w.heap.size + 1]? = some (.loop (rec .ready none)) := by
    rw [← hW1]; have := World.alloc_heap_new (w.alloc (.deferred (some []))) (.loop (rec .ready none)); rwa [World.size_alloc] at this
  have hK1 : W1.heap[w.heap.size]? = some (.deferred (some [])) := by
    rw [← hW1]; exact (Below.heap_alloc _ _ _ (by simp)).trans (World.alloc_heap_new w _)
  have hI1 : I [] W1 := by rw [← hW1]; exact hI.alloc _ (hI.alloc _ h0)
  have hC1 : ∀ k, C k → W1.heap[k]? = w.heap[k]? := fun k hk => by
    have := hC k hk
    rw [← hW1, Below.heap_alloc _ _ _ (by simp; omega), Below.heap_alloc _ _ _ this]
  have hs1 : W1.heap.size = w.heap.size + 2 := by rw [← hW1]; simp
  refine ⟨w.heap.size + 1, [{ target := .collected w.heap.size, args := #[] }], W1, { target := .fn (.func gf) lb, args := #[.func (.yield (w.heap.size + 1)) #[] #[]] }, W1, gf,
    #[.func (.yield (w.heap.size + 1)) #[] #[]] ++ lb, W1, ?_, ?_, ?_, ?_, fun _ => h1, ?_⟩
  · rw [← hW1, hrec]; exact run_enterLoop_outer _ _ _ _ _
  · simp only [resolve, hg]
    simp [go_sem]
  · intro f' hf'; simp [Target.leads] at hf'; subst hf'; exact hFg
  · simp [invoke, go_sem, eg]
  · refine (hseq (w.heap.size + 1)
      (fun pre W => I pre W ∧ W.heap[w.heap.size + 1]? = some (.loop (rec .ready none)) ∧ W.heap[w.heap.size]? = some (.deferred (some [])))
      W1 hC1 hC (by omega)
      (fun pre A B hs hb => ⟨hI pre A B none hs.1 ⟨hb.os, hb.tape, hb.output, hb.size, fun k hk _ => hb.block k hk⟩ (by simp), (hb.block _ (Array.getElem?_eq_some_iff.1 hs.2.1).1).trans hs.2.1, (hb.block _ (Array.getElem?_eq_some_iff.1 hs.2.2).1).trans hs.2.2⟩)
      (fun pre A i v hs => ⟨by rw [hs1]; exact hIs _ _ _ _ hs.1, (Below.heap_setCell _ _ _ _ (by rw [hs1]; intro e; simp at e)).trans hs.2.1, (Below.heap_setCell _ _ _ _ (by rw [hs1]; intro e; simp at e)).trans hs.2.2⟩)
      ?_ ⟨hI1, hL1, hK1⟩).mono ?_
    · -- ONE ROUND
      rintro pre x W ⟨hi, hl, hk⟩ hsz hcb hpost
      rw [hs1] at hsz ⊢
      have hlt : w.heap.size + 1 < W.heap.size := by omega
      have hy := run_yield (P := P) (args := enc x) hl (by rw [hrec]; simp [hps x])
      rw [hrec] at hy
      refine ⟨fn, _, assign, body, hy, roundIn_of_wpIn hfn (wpIn_mono (hassign _ pre x W hi hpost hsz hcb) ?_)⟩
      clear hy
      rintro e a' Wa hq
      cases e with
      | normal =>
        obtain ⟨hS, hax⟩ := hq
        have hl' := hS _ _ (.inr (.inr (.inl rfl))) hl
        have hk' := hS _ _ (.inr (.inl rfl)) hk
        have hsz' : w.heap.size + 2 < Wa.heap.size := by
          have := hS (w.heap.size + 2) _ (.inr (.inr (.inr rfl))) (Array.getElem?_eq_getElem hsz)
          exact (Array.getElem?_eq_some_iff.1 this).1
        have hcb' : ∀ k, C k → Wa.heap[k]? = w.heap[k]? := fun k hk => (hS.eq (.inl hk) (by have := hC k hk; omega)).trans (hcb k hk)
        have hD' : Wa.heap[w.heap.size + 2]? = W.heap[w.heap.size + 2]? := hS.eq (.inr (.inr (.inr rfl))) hsz
        refine ⟨_, run_beginRound hl' (by rw [hrec]), ?_⟩
        obtain ⟨Wb, hWb⟩ : ∃ Wb, Wa.putObj (w.heap.size + 1) (.loop { rec .ready none with state := .busy }) = Wb := ⟨_, rfl⟩
        have hl2 : Wb.heap[w.heap.size + 1]? = some (.loop { rec .ready none with state := .busy }) := by rw [← hWb]; exact World.putObj_heap_same (by omega)
        have hk2 : Wb.heap[w.heap.size]? = some (.deferred (some [])) := by rw [← hWb]; exact (World.putObj_heap_other (by omega)).trans hk'
        have hcb2 : ∀ k, C k → Wb.heap[k]? = w.heap[k]? := fun k hk => by have := hC k hk; rw [← hWb]; exact (World.putObj_heap_other (by omega)).trans (hcb' k hk)
        have hD2 : Wb.heap[w.heap.size + 2]? = W.heap[w.heap.size + 2]? := by rw [← hWb]; exact (World.putObj_heap_other (by omega)).trans hD'
        have hsz2 : w.heap.size + 2 < Wb.heap.size := by rw [← hWb]; simpa using hsz'
        have hax2 : Ax pre x a' Wb := by rw [← hWb]; exact (hAx pre x a').putObj (s := ()) _ hax (by omega) hl' rfl
        show body.wpIn _ _ _ _ _ (Wa.putObj (w.heap.size + 1) (.loop { rec .ready none with state := .busy }))
        rw [hWb]
        refine wpIn_mono (hbody _ pre x a' Wb hax2 hpost hsz2 hcb2) ?_
        rintro e a3 W3 hp
        cases e with
        | normal =>
          obtain ⟨hS3, hi3⟩ := hp
          have hl3 := hS3 _ _ (.inr (.inr (.inl rfl))) hl2
          have hk3 := hS3 _ _ (.inr (.inl rfl)) hk2
          have hr := run_endRound (P := P) none hl3
          have hC3 : ∀ k, C k → W3.heap[k]? = W.heap[k]? := fun k hk => ((hS3.eq (.inl hk) (by have := hC k hk; omega)).trans (hcb2 k hk)).trans (hcb k hk).symm
          have hD3 : W3.heap[w.heap.size + 2]? = W.heap[w.heap.size + 2]? := (hS3.eq (.inr (.inr (.inr rfl))) hsz2).trans hD2
          rw [hrec] at hr
          refine ⟨_, _, hr, rfl, ⟨hI.putObj _ hi3 (by omega) hl3 rfl, ?_, ?_⟩, ?_, ?_⟩
          · rw [hrec]; exact World.putObj_heap_same (Array.getElem?_eq_some_iff.1 hl3).1
          · exact (World.putObj_heap_other (by omega)).trans hk3
          · exact (World.putObj_heap_other (by omega)).trans hD3
          · exact fun k hk => (World.putObj_heap_other (by have := hC k hk; omega)).trans (hC3 k hk)
        | exit id => exact hp.elim
        | goto t => exact hp.elim
        | ret => exact hp.elim
        | panic ch => exact hp.elim
        | outgrown => exact hp.elim
      | exit id => exact hq.elim
      | goto t => exact hq.elim
      | ret => exact hq.elim
      | panic ch => exact hq.elim
      | outgrown => exact hq.elim
    · -- BEHIND THE ITERATOR
      rintro e W2 ⟨⟨v, rfl⟩, hi, hl, hk⟩
      exact ⟨none, _, by have := run_endLoop (P := P) hl (by rw [hrec]; simp); rw [hrec] at this; exact this, hdone _ (hI.putObj _ hi (by omega) hl rfl) ((World.putObj_heap_other (by omega)).trans hk)⟩
end Go.Proofs.Ytamldoidalnloaa

/- Contract of (Guard).step: the greatest permitted gain. -/
namespace Go.Proofs.Ytamldoidalnloaa
open Go.RowKit
open Calm (bcell Blk)

end Go.Proofs.Ytamldoidalnloaa

/- Safe states: a permitted gain is always found, and the state behind it is safe. No walk. -/
namespace Go.Proofs.Ytamldoidalnloaa
open Go.RowKit

/-- a guard that is valid. -/
structure Valid (lk ht rc : Int) (ts gs : List Int) : Prop where
  lk : 1 ≤ lk ∧ lk ≤ 8
  ht : 0 ≤ ht ∧ ht ≤ 536870912
  rc : 0 ≤ rc ∧ rc ≤ 1048576
  tl : 1 ≤ ts.length ∧ ts.length ≤ 8
  tb : inB 64 ts
  gl : 1 ≤ gs.length ∧ gs.length ≤ 8
  gb : ∀ k, 0 ≤ gs.getD k 0 ∧ gs.getD k 0 ≤ 16
  g0 : gs.getD 0 0 = 0
/-- a state. -/
structure St where
  h : Int
  lv : Nat
  ps : List Int
/-- a state that keeps all limits without further outputs. -/
structure Good (ht rc : Int) (ts gs : List Int) (s : St) : Prop where
  h : 0 ≤ s.h ∧ s.h ≤ ht
  lv : s.lv < gs.length
  pl : ts.length = s.ps.length + 1
  pb : inB 2048 s.ps
  tf : farAny rc (tailsF ts s.ps) = false
end Go.Proofs.Ytamldoidalnloaa

/- A new block in the head of a region walked by Rel3. -/
namespace Go.Proofs.Ytamldoidalnloaa.Rel
open Go.RowKit
variable {P : Program} {DS : List Tmp} {w0 : World} {a0 : Act} {T : Ctx → Prop} {Γ : Ctx} {o : Oper} {rest : List Oper}
theorem alloc3 (t : TypeId) (cs : Array Value) (hg : GOK3 Γ o)
    (h : ∀ (a : Act) (W : World), (execOp a.eval o).run P W = .ok (.value (.pointer (some ⟨W.heap.size, 0, none⟩))) (W.alloc (.cells cs t)))
    (hn : walk3 P DS w0 a0 T (Γ ++ [(o.dst, New w0.heap.size cs)]) rest) : walk3 P DS w0 a0 T Γ (o :: rest) :=
  ⟨_, stable_new _ cs, hg, fun a W hb hd hbase K Q hK => by
    unfold Oper.wp
    rw [h a W]
    exact hK _ _ ⟨_, rfl, hb.size, Calm.Blk.new W t cs⟩ ((Below.refl _ _).alloc (Nat.le_refl _) _), hn⟩
end Go.Proofs.Ytamldoidalnloaa.Rel

/- Contract of (Guard).rest: the state at rest. -/
namespace Go.Proofs.Ytamldoidalnloaa
open Go.RowKit
open Calm (bcell Blk)

end Go.Proofs.Ytamldoidalnloaa

/- Worlds that turn in the row of one slice alone, which is as it was or as an append in place leaves it; an append in the head of a drawn region. No program. -/
namespace Go.Proofs.Ytamldoidalnloaa
open Go.RowKit
open Calm (bcell Blk)
/-- all that lay is as it was, but some blocks, each of which is as it was or as T says. -/
structure Grw (T : Nat → Obj → Prop) (W W' : World) : Prop where
  os : W'.os = W.os
  tape : W'.tape = W.tape
  output : W'.output = W.output
  size : W.heap.size ≤ W'.heap.size
  block : ∀ k, k < W.heap.size → W'.heap[k]? = W.heap[k]? ∨ ∃ o, T k o ∧ W'.heap[k]? = some o
end Go.Proofs.Ytamldoidalnloaa

/- RelH with one limb more: a slot that operations of the head overwrite is as it was for an operation that all of them wait for. Regions whose order is open, where what is known of a value may name the values that its operation waited for (RelG with one limb more). No program. -/
namespace Go.Proofs.Ytamldoidalnloaa.RelL
open Go.RowKit
open Rel (dst puts upd puts_agree puts_put Apart apart_of puts_new put_size puts_size puts_other eval_put_same puts_here wanted_of countP_upd left Ln okB sizeB all_listed listed_Ln some_ready ons)

/-- What is known of the value of an operation: the values of all operations, this one's, the world. -/
abbrev DK := (Nat → Value) → Value → World → Prop
/-- .. it names no value but those that the operation waited for. -/
def Loc (o : Oper) (R : DK) : Prop := ∀ x y : Nat → Value, (∀ e ∈ o.after, Region.binds .any e = true → x e.on = y e.on) → ∀ v W, R x v W → R y v W
def GOK (ops : Array Oper) (Γ : List DK) (o : Oper) : Prop :=
  o.guard = none ∨ ∃ g b t, o.guard = some (g, b) ∧ (∃ e ∈ o.after, Region.binds .any e = true ∧ e.on = g) ∧ dst ops g = some t ∧ Γ[g]? = some (fun _ u _ => u = .bool b)
/-- .. and stays known along S. -/
def Stable (S : World → World → Prop) (R : DK) : Prop := ∀ x v W W', R x v W → S W W' → R x v W'

section
variable {P : Program} {ops : Array Oper} {S : World → World → Prop}

/-- What an operation of the head must show: wherever it comes up. -/
def lateB (ops : Array Oper) (n i t : Nat) : Bool := (List.range n).all fun j => (dst ops j != some t) || (match ops[j]? with | some oj => oj.after.toList.any (fun e => Region.binds .any e && e.on == i) | none => false)
def Ob (S : World → World → Prop) (P : Program) (ops : Array Oper) (n : Nat) (w0 : World) (a0 : Act) (i : Nat) (Γ : List DK) (o : Oper) (R : DK) : Prop :=
  ∀ (a : Act) (W : World) (x : Nat → Value), S w0 W → a.tmps.size = a0.tmps.size →
    (∀ e ∈ o.after, Region.binds .any e = true → ∀ t, dst ops e.on = some t → x e.on = a.eval (.tmp t)) →
    (∀ e ∈ o.after, Region.binds .any e = true → ∀ K, Γ[e.on]? = some K → K x (x e.on) W) →
    (∀ t, (∀ j, j < n → dst ops j ≠ some t) → a.eval (.tmp t) = a0.eval (.tmp t)) → (∀ t, lateB ops n i t = true → a.eval (.tmp t) = a0.eval (.tmp t)) →
    ∀ (K : Act → World → Prop) (Q : Exit → Act → World → Prop), (∀ v W', R x v W' → S W W' → K (a.put o.dst v) W') → o.wp P a W K Q


/-- The walk in the order of the text: at each operation something that stays known is chosen. -/
def walk (S : World → World → Prop) (P : Program) (ops : Array Oper) (n : Nat) (w0 : World) (a0 : Act) (T : List DK → Prop) : List DK → List Oper → Prop
  | Γ, [] => T Γ
  | Γ, o :: l => ∃ R, Stable S R ∧ Loc o R ∧ GOK ops Γ o ∧ (dst ops Γ.length = o.dst → Ob S P ops n w0 a0 Γ.length Γ o R) ∧ walk S P ops n w0 a0 T (Γ ++ [R]) l


/-- What holds while the head is on its way. -/
structure Inv (S : World → World → Prop) (ops : Array Oper) (n : Nat) (w0 : World) (a0 : Act) (Γ : List DK) (listed : Array Bool) (a : Act) (W : World) : Prop where
  below : S w0 W
  vals : ∃ x : Nat → Value, a = puts ops x (fun j => listed.getD j false) (List.range n) a0 ∧ ∀ j, j < n → listed.getD j false = true → ∀ K, Γ[j]? = some K → K x (x j) W


/-- The frame with all values of the head. -/
def fill : List Oper → Nat → (Nat → Value) → Act → Act
  | [], _, _, a => a
  | o :: l, k, x, a => fill l (k + 1) x (a.put o.dst (x k))
end

abbrev Ctx := List (Option Tmp × DK)
def dep1 (x : Nat → Value) (j : Nat) : Option (Option Tmp × DK) → Act → World → Prop
  | some (some t, K), a, W => x j = a.eval (.tmp t) ∧ K x (a.eval (.tmp t)) W
  | _, _, _ => True
def deps (x : Nat → Value) (Γ : Ctx) (a : Act) (W : World) : List Nat → Prop
  | [] => True
  | j :: js => dep1 x j Γ[j]? a W ∧ deps x Γ a W js
def facts (x : Nat → Value) (W : World) : Nat → Ctx → Prop
  | _, [] => True
  | k, (_, K) :: l => K x (x k) W ∧ facts x W (k + 1) l
def GOK3 (Γ : Ctx) (o : Oper) : Prop := o.guard = none ∨ ∃ g b t, o.guard = some (g, b) ∧ g ∈ ons o ∧ Γ[g]? = some (some t, fun _ u _ => u = .bool b)
def Ob3 (S : World → World → Prop) (P : Program) (LT : Nat → Nat → Bool) (DS : List Tmp) (w0 : World) (a0 : Act) (Γ : Ctx) (o : Oper) (R : DK) : Prop :=
  ∀ (a : Act) (W : World) (x : Nat → Value), S w0 W → deps x Γ a W (ons o) → (∀ t, t ∉ DS → a.eval (.tmp t) = a0.eval (.tmp t)) → (∀ t, LT Γ.length t = true → a.eval (.tmp t) = a0.eval (.tmp t)) →
    ∀ (K : Act → World → Prop) (Q : Exit → Act → World → Prop), (∀ v W', R x v W' → S W W' → K (a.put o.dst v) W') → o.wp P a W K Q

def walk3 (S : World → World → Prop) (P : Program) (LT : Nat → Nat → Bool) (DS : List Tmp) (w0 : World) (a0 : Act) (T : Ctx → Prop) : Ctx → List Oper → Prop
  | Γ, [] => T Γ
  | Γ, o :: l => ∃ R, Stable S R ∧ Loc o R ∧ GOK3 Γ o ∧ Ob3 S P LT DS w0 a0 Γ o R ∧ walk3 S P LT DS w0 a0 T (Γ ++ [(o.dst, R)]) l
section
variable {S : World → World → Prop} {P : Program} {LT : Nat → Nat → Bool} {DS : List Tmp} {w0 : World} {a0 : Act} {T : Ctx → Prop} {Γ : Ctx} {o : Oper} {rest : List Oper}

end
end Go.Proofs.Ytamldoidalnloaa.RelL

/- Several slices of integers, each in a row of its own; two of them grow in one drawn region. No function of the program. -/
namespace Go.Proofs.Ytamldoidalnloaa
open Go.RowKit
open Calm (bcell Blk)
def Apt (u v : Value) : Prop := ∀ k, u.ownBlock = some k → v.ownBlock ≠ some k
theorem Apt.symm {u v : Value} (h : Apt u v) : Apt v u := fun k hv hu => h k hu hv
def OwnI (W : World) (base : Nat) (p : Value × List Int) : Prop := W.ownsRow base 3 1 p.1 p.2.length (p.2.map fun z => (.int .i64 z))
/-- slices of integers, no two of them in one row. -/
def Rows (W : World) (base : Nat) (ps : List (Value × List Int)) : Prop := (∀ p ∈ ps, OwnI W base p) ∧ ps.Pairwise (fun p q => Apt p.1 q.1)
namespace RelL
open Rel (ons)
variable {T : Nat → Obj → Prop} {P : Program} {LT : Nat → Nat → Bool} {DS : List Tmp} {w0 : World} {a0 : Act} {U : Ctx → Prop} {Γ : Ctx} {o : Oper} {rest : List Oper}
end RelL
end Go.Proofs.Ytamldoidalnloaa

/- Contract of (Guard).run: the outputs for a signal, and the indices of the gains. -/
namespace Go.Proofs.Ytamldoidalnloaa
open Go.RowKit
open Calm (bcell Blk)

theorem own_slice {w : World} {base e size n : Nat} {v : Value} {xs : List Value} (h : w.ownsRow base e size v n xs) : ∃ a c, v = .slice a n c := by
  rcases h.2 with ⟨h1, h2⟩ | ⟨g, cap, cur, h1, _⟩
  · exact ⟨none, 0, by rw [h1, h2]⟩
  · exact ⟨_, cap, h1⟩
end Go.Proofs.Ytamldoidalnloaa

/- Contracts of checkSignal, checkRun, Run and Levels. -/
namespace Go.Proofs.Ytamldoidalnloaa
open Go.RowKit
open Calm (bcell Blk)

end Go.Proofs.Ytamldoidalnloaa

/- Contract of Peaks on a valid guard and signal. -/
namespace Go.Proofs.Ytamldoidalnloaa
open Go.RowKit
open Calm (bcell Blk)

def mx (x y : Int) : Int := if y > x then y else x
theorem max2_any (ts : Array TypeId) (t : TypeId) (x y : Int) (W : World) : (Builtin.max_ ts t #[(.int .i64 x), (.int .i64 y)]).run Try.prog W = .ok (.int .i64 (mx x y)) W := by
  simp [Builtin.max_, Builtin.max2, mx]
end Go.Proofs.Ytamldoidalnloaa

/- Contracts of energy, Energy and slices.Clone. -/
namespace Go.Proofs.Ytamldoidalnloaa
open Go.RowKit
open Calm (bcell Blk)

/-- the energy of the first numbers of a list. -/
def enK (l : List Int) : Nat → Int
  | 0 => 0
  | k + 1 => enK l k + l.getD k 0 * l.getD k 0
/-- the energy of a list. -/
def enF (l : List Int) : Int := enK l l.length
/-- append([]int{}, l...). -/
theorem wpList_appC {w : World} {ops : Array Oper} {rest : List Oper} {o : Oper} {a : Act} {Q : Exit → Act → World → Prop} (hgd : o.guard = none) (s x : Operand)
    (ho : o.op = .call { callee := .builtin .append, args := #[s, x], argTypes := #[22, 22] }) (g n c : Nat) (A : Option Addr) (xs : List Int) (hn : n = xs.length)
    (hs : a.eval s = .slice (some ⟨g, 0, none⟩) 0 0) (hx : a.eval x = .slice A n c) (hg : w.ownsRow g 3 1 (.slice (some ⟨g, 0, none⟩) 0 0) 0 []) (h5 : n ≤ 100000) (hC : Cells w A xs)
    (h : ∀ B d w', Below w.heap.size w w' → w'.ownsRow g 3 1 (.slice B n d) n (xs.map (Value.int .i64)) → wpList Try.prog ops Q rest (a.put o.dst (.slice B n d)) w') : wpList Try.prog ops Q (o :: rest) a w := by
  obtain ⟨i0, hi, hz0, hz1, hz2⟩ := info_parts Try.infoI
  refine wpList_plain hgd fun K hK => ?_
  rcases Nat.eq_zero_or_pos n with h0 | h0
  · subst h0
    obtain rfl : xs = [] := List.eq_nil_of_length_eq_zero hn.symm
    have hrun := Rel.run_append_zero (P := Try.prog) w 22 o.type 3 i0 _ Try.underlying22 hi hz0 ⟨g, 0, none⟩ A c
    unfold Oper.wp
    simp [execOp, ho, resolve, invoke, builtin, hs, hx, hrun, Result.andThen]
    exact hK _ _ (h (some ⟨g, 0, none⟩) 0 w (Below.refl _ _) hg)
  · obtain ⟨b, off, rfl, hb, hc⟩ := hC (by omega)
    obtain ⟨v', w', hrun, r1, r2⟩ := run_append_arg_grows (P := Try.prog) w 22 o.type 3 i0 _ 1 8 Try.underlying22 hi hz0 hz1 hz2 rfl (by decide) ⟨g, 0, none⟩ 0 0 [] (by simp) (by simp) ⟨b, off, none⟩ n c (xs.map (Value.int .i64)) (by simp; omega) (fun j v hj => cells_src hc j v hj) (by omega) (by unfold maxLen; omega) (by omega)
    unfold Oper.wp
    simp [execOp, ho, resolve, invoke, builtin, hs, hx, hrun, Result.andThen]
    have r1' : w'.ownsRow w.heap.size 3 1 v' n (xs.map (Value.int .i64)) := by simpa using r1
    obtain ⟨B, d, rfl⟩ := own_slice r1'
    have hlt : g ≤ w.heap.size := by
      rcases hg.2 with ⟨e, _⟩ | ⟨g', cap, cur, e, _, e3, _⟩
      · cases e
      · cases e
        exact Nat.le_of_lt (Array.getElem?_eq_some_iff.1 e3).1
    refine hK _ _ (h B d w' ((Below.refl w.heap.size w).grown r2 (Nat.le_refl _) (fun k hk => by cases hk)) ⟨r1'.1, ?_⟩)
    rcases r1'.2 with h2 | ⟨g', cap, cur, h1, h2, h3⟩
    · exact .inl h2
    · exact .inr ⟨g', cap, cur, h1, Nat.le_trans hlt h2, h3⟩
end Go.Proofs.Ytamldoidalnloaa

/- The law of 'for x, y := range seq' over an iterator that hands out values which stand for elements (their addresses are made on the way); regions with an open order inside a round. -/
namespace Go.Proofs.Ytamldoidalnloaa
open Go.RowKit

/-- The contract of an iterator that reads the blocks of C and hands out, for the elements of a list, values that stand for them. -/
def IterR {α : Type} (F : Fence) (n : Nat) (P : Program) (g : Nat) (lb : Array Value) (sz : Nat) (R : α → Array Value → World → Prop) (all : List α) (C : Nat → Prop) (w : World) : Prop :=
  ∀ (l : Nat) (J : List α → World → Prop) (W : World), (∀ k, C k → W.heap[k]? = w.heap[k]?) → (∀ k, C k → k < w.heap.size) → w.heap.size ≤ W.heap.size →
    (∀ pre W1 W2, J pre W1 → Below W1.heap.size W1 W2 → J pre W2) →
    (∀ pre x v W1, J pre W1 → (∀ k, C k → W1.heap[k]? = w.heap[k]?) → (∃ post, all = pre ++ x :: post) → v.size = sz → R x v W1 →
      YieldAt F (n - 1) P l v W1 fun e W' => e = .returned (.bool true) ∧ J (pre ++ [x]) W' ∧ ∀ k, C k → W'.heap[k]? = W1.heap[k]?) →
    J [] W →
    CallsIn F n P g (#[.func (.yield l) #[] #[]] ++ lb) W fun e W' => (∃ v, e = .returned v) ∧ J all W'

/-- the blocks that a round must leave alone: the two of the loop, from B on, and those of C. -/
def roundR (C : Nat → Prop) (B : Nat) (k : Nat) : Prop := C k ∨ k = B ∨ k = B + 1

theorem range_iterR {F : Fence} {n : Nat} {P : Program} {α : Type} {g : Operand} {ps : Array Tmp} {assign body : Code} {Q : Exit → Act → World → Prop} {a : Act} {w : World}
    (hro : F.round = none) (h1 : 1 ≤ n) {gf : Nat} {lb : Array Value} (hg : a.eval g = .func (.func gf) #[] lb) (hFg : F.fn gf) (eg : ∀ args w, (callFunc gf args).run P w = .ok (.enter gf args) w)
    {R : α → Array Value → World → Prop} {all : List α} {C : Nat → Prop} (hC : ∀ k, C k → k < w.heap.size) (hseq : IterR F (n - 1) P gf lb ps.size R all C w)
    (I : List α → World → Prop) (hI : OwnFrom w.heap.size I) (h0 : I [] w)
    (Ax : List α → α → Act → World → Prop) (hAx : ∀ pre x a', OwnFrom w.heap.size (fun (_ : Unit) W => Ax pre x a' W))
    (hassign : ∀ (l : Nat) (pre : List α) (x : α) (v : Array Value) (W : World), I pre W → (∃ post, all = pre ++ x :: post) → w.heap.size + 1 < W.heap.size → (∀ k, C k → W.heap[k]? = w.heap[k]?) → v.size = ps.size → R x v W →
      assign.wpIn (F.inRound l) (n - 1 - 1) P (Exit.then (fun a' W' => Same (roundR C w.heap.size) W W' ∧ Ax pre x a' W') (fun _ _ _ => False)) { tmps := (ps.zip v).foldl (fun t (p, v) => t.setIfInBounds p v) a.tmps, defers := [] } W)
    (hbody : ∀ (l : Nat) (pre : List α) (x : α) (a' : Act) (W : World), Ax pre x a' W → (∃ post, all = pre ++ x :: post) → w.heap.size + 1 < W.heap.size → (∀ k, C k → W.heap[k]? = w.heap[k]?) →
      body.wpIn (F.inRound l) (n - 1 - 1) P (iterPost (roundR C w.heap.size) W (I (pre ++ [x]))) a' W)
    (hdone : ∀ (W : World), I all W → W.heap[w.heap.size]? = some (.deferred (some [])) → Q .normal { a with defers := { target := .collected w.heap.size, args := #[] } :: a.defers } W) :
    (Code.rangeFunc g ps assign body).wpIn F n P Q a w := by
  refine wpIn_rangeFunc ?_
  intro fn hfn
  rw [hro]
  obtain ⟨rec, hrec⟩ : ∃ rec : LoopState → Option Code → Loop, rec = fun st pe => { state := st, pending := pe, fn, tmps := a.tmps, params := ps, assign, body, defers := w.heap.size } := ⟨_, rfl⟩
  obtain ⟨W1, hW1⟩ : ∃ W1, (w.alloc (.deferred (some []))).alloc (.loop (rec .ready none)) = W1 := ⟨_, rfl⟩
  have hL1 : W1.heap[w.heap.size + 1]? = some (.loop (rec .ready none)) := by
    rw [← hW1]; have := World.alloc_heap_new (w.alloc (.deferred (some []))) (.loop (rec .ready none)); rwa [World.size_alloc] at this
  have hK1 : W1.heap[w.heap.size]? = some (.deferred (some [])) := by
    rw [← hW1]; exact (Below.heap_alloc _ _ _ (by simp)).trans (World.alloc_heap_new w _)
  have hI1 : I [] W1 := by rw [← hW1]; exact hI.alloc _ (hI.alloc _ h0)
  have hC1 : ∀ k, C k → W1.heap[k]? = w.heap[k]? := fun k hk => by
    have := hC k hk
    rw [← hW1, Below.heap_alloc _ _ _ (by simp; omega), Below.heap_alloc _ _ _ this]
  have hs1 : W1.heap.size = w.heap.size + 2 := by rw [← hW1]; simp
  refine ⟨w.heap.size + 1, [{ target := .collected w.heap.size, args := #[] }], W1, { target := .fn (.func gf) lb, args := #[.func (.yield (w.heap.size + 1)) #[] #[]] }, W1, gf,
    #[.func (.yield (w.heap.size + 1)) #[] #[]] ++ lb, W1, ?_, ?_, ?_, ?_, fun _ => h1, ?_⟩
  · rw [← hW1, hrec]; exact run_enterLoop_outer _ _ _ _ _
  · simp only [resolve, hg]
    simp [go_sem]
  · intro f' hf'; simp [Target.leads] at hf'; subst hf'; exact hFg
  · simp [invoke, go_sem, eg]
  · refine (hseq (w.heap.size + 1)
      (fun pre W => I pre W ∧ W.heap[w.heap.size + 1]? = some (.loop (rec .ready none)) ∧ W.heap[w.heap.size]? = some (.deferred (some [])))
      W1 hC1 hC (by omega)
      (fun pre A B hs hb => ⟨hI pre A B none hs.1 ⟨hb.os, hb.tape, hb.output, hb.size, fun k hk _ => hb.block k hk⟩ (by simp), (hb.block _ (Array.getElem?_eq_some_iff.1 hs.2.1).1).trans hs.2.1, (hb.block _ (Array.getElem?_eq_some_iff.1 hs.2.2).1).trans hs.2.2⟩)
      ?_ ⟨hI1, hL1, hK1⟩).mono ?_
    · -- ONE ROUND
      rintro pre x v W ⟨hi, hl, hk⟩ hcb hpost hvs hR
      have hlt : w.heap.size + 1 < W.heap.size := (Array.getElem?_eq_some_iff.1 hl).1
      have hy := run_yield (P := P) (args := v) hl (by rw [hrec]; simp [hvs])
      rw [hrec] at hy
      refine ⟨fn, _, assign, body, hy, roundIn_of_wpIn hfn (wpIn_mono (hassign _ pre x v W hi hpost hlt hcb hvs hR) ?_)⟩
      clear hy
      rintro e a' Wa hq
      cases e with
      | normal =>
        obtain ⟨hS, hax⟩ := hq
        have hl' := hS _ _ (.inr (.inr rfl)) hl
        have hk' := hS _ _ (.inr (.inl rfl)) hk
        have hsz' : w.heap.size + 1 < Wa.heap.size := (Array.getElem?_eq_some_iff.1 hl').1
        have hcb' : ∀ k, C k → Wa.heap[k]? = w.heap[k]? := fun k hk => (hS.eq (.inl hk) (by have := hC k hk; omega)).trans (hcb k hk)
        refine ⟨_, run_beginRound hl' (by rw [hrec]), ?_⟩
        obtain ⟨Wb, hWb⟩ : ∃ Wb, Wa.putObj (w.heap.size + 1) (.loop { rec .ready none with state := .busy }) = Wb := ⟨_, rfl⟩
        have hl2 : Wb.heap[w.heap.size + 1]? = some (.loop { rec .ready none with state := .busy }) := by rw [← hWb]; exact World.putObj_heap_same (by omega)
        have hk2 : Wb.heap[w.heap.size]? = some (.deferred (some [])) := by rw [← hWb]; exact (World.putObj_heap_other (by omega)).trans hk'
        have hcb2 : ∀ k, C k → Wb.heap[k]? = w.heap[k]? := fun k hk => by have := hC k hk; rw [← hWb]; exact (World.putObj_heap_other (by omega)).trans (hcb' k hk)
        have hsz2 : w.heap.size + 1 < Wb.heap.size := by rw [← hWb]; simpa using hsz'
        have hax2 : Ax pre x a' Wb := by rw [← hWb]; exact (hAx pre x a').putObj (s := ()) _ hax (by omega) hl' rfl
        show body.wpIn _ _ _ _ _ (Wa.putObj (w.heap.size + 1) (.loop { rec .ready none with state := .busy }))
        rw [hWb]
        refine wpIn_mono (hbody _ pre x a' Wb hax2 hpost hsz2 hcb2) ?_
        rintro e a3 W3 hp
        cases e with
        | normal =>
          obtain ⟨hS3, hi3⟩ := hp
          have hl3 := hS3 _ _ (.inr (.inr rfl)) hl2
          have hk3 := hS3 _ _ (.inr (.inl rfl)) hk2
          have hr := run_endRound (P := P) none hl3
          have hC3 : ∀ k, C k → W3.heap[k]? = W.heap[k]? := fun k hk => ((hS3.eq (.inl hk) (by have := hC k hk; omega)).trans (hcb2 k hk)).trans (hcb k hk).symm
          rw [hrec] at hr
          refine ⟨_, _, hr, rfl, ⟨hI.putObj _ hi3 (by omega) hl3 rfl, ?_, ?_⟩, ?_⟩
          · rw [hrec]; exact World.putObj_heap_same (Array.getElem?_eq_some_iff.1 hl3).1
          · exact (World.putObj_heap_other (by omega)).trans hk3
          · exact fun k hk => (World.putObj_heap_other (by have := hC k hk; omega)).trans (hC3 k hk)
        | exit id => exact hp.elim
        | goto t => exact hp.elim
        | ret => exact hp.elim
        | panic ch => exact hp.elim
        | outgrown => exact hp.elim
      | exit id => exact hq.elim
      | goto t => exact hq.elim
      | ret => exact hq.elim
      | panic ch => exact hq.elim
      | outgrown => exact hq.elim
    · -- BEHIND THE ITERATOR
      rintro e W2 ⟨⟨v, rfl⟩, hi, hl, hk⟩
      exact ⟨none, _, by have := run_endLoop (P := P) hl (by rw [hrec]; simp); rw [hrec] at this; exact this, hdone _ (hI.putObj _ hi (by omega) hl rfl) ((World.putObj_heap_other (by omega)).trans hk)⟩

/-! ### Regions with an open order, in a round's frame -/

end Go.Proofs.Ytamldoidalnloaa

/- (Guard).kept and the iterator that it hands out: the levels behind which a state keeps all conditions, with this state. -/
namespace Go.Proofs.Ytamldoidalnloaa
open Go.RowKit
open Calm (bcell Blk)

/-- all that lies below a size, but one block. -/
def Rest (sb B : Nat) (k : Nat) : Prop := k < B ∧ k ≠ sb
/-- a slice that does not lie in a block. -/
def Off (sb : Nat) (A : Option Addr) : Prop := ∀ p, A = some p → p.block ≠ sb
theorem Cells.rest {w w' : World} {A : Option Addr} {zs : List Int} {sb : Nat} (h : Cells w A zs) (ho : Off sb A) (hW : ∀ k, Rest sb w.heap.size k → w'.heap[k]? = w.heap[k]?) : Cells w' A zs := by
  intro h0
  obtain ⟨b, off, rfl, hl, hc⟩ := h h0
  have e := hW b ⟨hl, ho _ rfl⟩
  refine ⟨b, off, rfl, ?_, fun k hk => (World.cell?_of_block (w := w) (a := ⟨b, off + k, none⟩) e).trans (hc k hk)⟩
  rw [Array.getElem?_eq_getElem hl] at e
  exact (Array.getElem?_eq_some_iff.1 e).1
end Go.Proofs.Ytamldoidalnloaa

/- The answers to both sequences of a pair, as an iterator. -/
namespace Go.Proofs.Ytamldoidalnloaa
open Go.RowKit
open Calm (bcell Blk)
theorem Try.infoL : (Try.prog.info? 22).map (fun i => (i.size, i.bytes)) = some (1, 24) := by kernel_rfl
theorem idx2 (A1 A2 : Option Addr) (n1 n2 c1 c2 : Nat) (W : World) : Sem.run Try.prog (Instr.index 45 (.agg #[.slice A1 n1 c1, .slice A2 n2 c2]) (.int .i64 0)) W = .ok (.slice A1 n1 c1) W ∧ Sem.run Try.prog (Instr.index 45 (.agg #[.slice A1 n1 c1, .slice A2 n2 c2]) (.int .i64 1)) W = .ok (.slice A2 n2 c2) W := by
  have hu : Try.prog.underlying 45 = some (.array 2 22) := by kernel_rfl
  have hL := Try.infoL
  obtain ⟨i0, hi, h1⟩ : ∃ i0, Try.prog.info? 22 = some i0 ∧ i0.size = 1 := by
    cases hq : Try.prog.info? 22 with
    | none => rw [hq] at hL; cases hL
    | some i => rw [hq] at hL; simp at hL; exact ⟨i, rfl, hL.1⟩
  constructor <;> simp [Instr.index, run_underlying hu, asIntOf, go_sem, sizeOf, typeInfo, hi, h1]
theorem Cells.rest' {w w' : World} {A : Option Addr} {zs : List Int} {sb : Nat} (h : Cells w A zs) (ho : 0 < zs.length → Off sb A) (hW : ∀ k, Rest sb w.heap.size k → w'.heap[k]? = w.heap[k]?) : Cells w' A zs := fun h0 => (h.rest (ho h0) hW) h0
theorem Cells.off {w : World} {A : Option Addr} {zs : List Int} {sb : Nat} (h : Cells w A zs) (hs : w.heap.size ≤ sb) : 0 < zs.length → Off sb A := fun h0 p hp => by
  obtain ⟨b, o, rfl, hl, _⟩ := h h0
  cases hp
  exact Nat.ne_of_lt (Nat.lt_of_lt_of_le hl hs)
/-- what the iterator hands to the loop: which sequence, and the answer to it. -/
def AnsR (b : Nat) (f : Nat → List Int) (i : Nat) (v : Array Value) (W : World) : Prop := ∃ B c, v = #[(.int .i64 ((i : Int))), .slice B (f i).length c] ∧ Cells W B (f i) ∧ ∀ p, B = some p → b ≤ p.block
def ansF (h p0 p1 : List Int) (i : Nat) : List Int := conv h (if i = 0 then p0 else p1)
theorem answers_any (A0 A1 A2 : Option Addr) (N M0 M1 c0 c1 c2 : Nat) (w : World) :
    Calls Try.prog 29 #[.slice A0 N c0, .agg #[.slice A1 M0 c1, .slice A2 M1 c2]] w fun e w' => e = .returned (.func (.func 74) #[] #[.pointer (some ⟨w.heap.size + 1, 0, none⟩), .pointer (some ⟨w.heap.size, 0, none⟩)]) ∧
      Below w.heap.size w w' ∧ Blk w' w.heap.size #[.slice A0 N c0] ∧ Blk w' (w.heap.size + 1) #[.slice A1 M0 c1, .slice A2 M1 c2] ∧ w'.heap.size = w.heap.size + 2 := by
  go_enter Try.func29, Try.ntmps29
  go_wp2
  go_ret
  exact ⟨by first | rfl | (simp; done), by (repeat (first | (with_reducible exact Below.refl _ _) | ((with_reducible refine Below.setCell ?_ ?_ _); rotate_left 1; focus (first | (simp; done) | (simp; omega) | (simp at *; omega))) | ((with_reducible refine Below.alloc ?_ ?_ _); rotate_left 1; focus (first | (simp; done) | (simp; omega) | (simp at *; omega))) | (with_reducible refine Below.drew ?_) | ((with_reducible refine Calm.step (by assumption) ?_ ?_); rotate_left 1; focus (first | (simp; done) | (simp; omega) | (simp at *; omega))))), by (repeat (first | ((with_reducible refine Blk.at_ ?_); focus (first | rfl | (simp; done) | (simp; omega))) | (with_reducible refine Blk.alloc ?_ _) | (with_reducible refine Blk.below ?_ (by with_reducible assumption)) | (with_reducible refine Blk.drew ?_))), by (repeat (first | ((with_reducible refine Blk.at_ ?_); focus (first | rfl | (simp; done) | (simp; omega))) | (with_reducible refine Blk.alloc ?_ _) | (with_reducible refine Blk.below ?_ (by with_reducible assumption)) | (with_reducible refine Blk.drew ?_))), by simp⟩
set_option maxRecDepth 100000 in
set_option maxHeartbeats 4000000 in
theorem answers1_iter (h p0 p1 : List Int) (A0 A1 A2 : Option Addr) (N M c0 c1 c2 Pb Hb sb : Nat) (w : World) (n : Nat) (hN : N = h.length) (hM0 : M = p0.length) (hM1 : M = p1.length) (hN5 : N ≤ 2000) (hM5 : M ≤ 2000) (hh : lvls h) (hp0 : lvls p0) (hp1 : lvls p1)
    (hC0 : Cells w A0 h) (hC1 : Cells w A1 p0) (hC2 : Cells w A2 p1) (kP : Blk w Pb #[.slice A1 M c1, .slice A2 M c2]) (kH : Blk w Hb #[.slice A0 N c0]) (o0 : 0 < h.length → Off sb A0) (o1 : 0 < p0.length → Off sb A1) (o2 : 0 < p1.length → Off sb A2) (oP : Pb ≠ sb) (oH : Hb ≠ sb) (hPz : w.heap.size ≤ Pb + 1) (h1n : 1 ≤ n) :
    IterR Fence.wide n Try.prog 74 #[.pointer (some ⟨Pb, 0, none⟩), .pointer (some ⟨Hb, 0, none⟩)] 2 (AnsR w.heap.size (ansF h p0 p1)) (List.range 2) (Rest sb w.heap.size) w := by
  intro l J W hCW hCl hle hJb hY h00
  have hfn : ∀ f, Fence.wide.fn f = True := fun _ => rfl
  have hx0 := fun W => (idx2 A1 A2 M M c1 c2 W).1
  have hx1 := fun W => (idx2 A1 A2 M M c1 c2 W).2
  have HE : Hid (∀ W' : World, (∀ k, Rest sb w.heap.size k → W'.heap[k]? = w.heap[k]?) → Blk W' Pb #[.slice A1 M c1, .slice A2 M c2] ∧ Blk W' Hb #[.slice A0 N c0]) := Lib.hid (fun W' hW =>
    ⟨kP.of_block (hW _ ⟨kP.lt, oP⟩), kH.of_block (hW _ ⟨kH.lt, oH⟩)⟩)
  have HV0 : Hid (∀ W' : World, w.heap.size ≤ W'.heap.size → (∀ k, Rest sb w.heap.size k → W'.heap[k]? = w.heap[k]?) → Calls Try.prog 67 #[.slice A0 N c0, .slice A1 M c1] W' fun r w' => (∃ B c, r = .returned (.slice B (ansF h p0 p1 0).length c) ∧ AnsR w.heap.size (ansF h p0 p1) 0 #[(.int .i64 0), .slice B (ansF h p0 p1 0).length c] w') ∧ Below W'.heap.size W' w') := Lib.hid (fun W' hs hW => by
    refine (convolved_any h p0 A0 A1 c0 c1 N M W' hN hM0 hN5 hM5 hh hp0 (hC0.rest' o0 hW) (hC1.rest' o1 hW)).mono ?_
    rintro r w' ⟨v, rfl, ⟨B, c, rfl, q1, q2⟩, hb⟩
    exact ⟨⟨B, c, rfl, B, c, rfl, q1, fun p hp => Nat.le_trans hs (q2 p hp)⟩, hb⟩)
  have HV1 : Hid (∀ W' : World, w.heap.size ≤ W'.heap.size → (∀ k, Rest sb w.heap.size k → W'.heap[k]? = w.heap[k]?) → Calls Try.prog 67 #[.slice A0 N c0, .slice A2 M c2] W' fun r w' => (∃ B c, r = .returned (.slice B (ansF h p0 p1 1).length c) ∧ AnsR w.heap.size (ansF h p0 p1) 1 #[(.int .i64 1), .slice B (ansF h p0 p1 1).length c] w') ∧ Below W'.heap.size W' w') := Lib.hid (fun W' hs hW => by
    refine (convolved_any h p1 A0 A2 c0 c2 N M W' hN hM1 hN5 hM5 hh hp1 (hC0.rest' o0 hW) (hC2.rest' o2 hW)).mono ?_
    rintro r w' ⟨v, rfl, ⟨B, c, rfl, q1, q2⟩, hb⟩
    exact ⟨⟨B, c, rfl, B, c, rfl, q1, fun p hp => Nat.le_trans hs (q2 p hp)⟩, hb⟩)
  have HCW := Lib.hid hCW
  have HJB := Lib.hid hJb
  have HY := Lib.hid hY
  have HSZ := Lib.hid hle
  obtain ⟨F, hF⟩ : ∃ F, F = ansF h p0 p1 := ⟨_, rfl⟩
  rw [← hF] at HV0 HV1 HY
  obtain ⟨kP0, kH0⟩ := HE.out W HCW.out
  obtain ⟨g0, g1, gl, gf⟩ := kP0.o2
  obtain ⟨l0, ll, lf⟩ := kH0.o1
  clear hCW hCl hJb hY hh hp0 hp1 hC0 hC1 hC2 kP kH o0 o1 o2 oP oH hN hM0 hM1 hF kP0 kH0
  refine callsIn_of_wp Try.func74 rfl trivial ?_ rfl
  simp only [Try.ntmps74, List.size_toArray, List.length_cons, List.length_nil, Nat.reduceAdd, Nat.reduceSub, Array.replicate_succ, Array.replicate_zero, List.push_toArray, List.append_toArray, List.nil_append, List.cons_append]
  gi_wp2
  gi_loopw [7] (fun i wr => ∃ k : Nat, k ≤ 2 ∧ i = (.int .i64 ((k : Int))) ∧ J (List.range k) wr ∧ (∀ j, Rest sb w.heap.size j → wr.heap[j]? = w.heap[j]?) ∧ w.heap.size ≤ wr.heap.size) (fun i _ => 2 - (intOf i).toNat)
  case atStart => exact ⟨0, Nat.zero_le _, rfl, h00, HCW.out, HSZ.out⟩
  case round =>
    obtain ⟨k, hk, rfl, hJ1, hC1, hs1⟩ := hrel
    clear g0 g1 gl gf l0 ll lf
    have HJ1 := Lib.hid hJ1
    have HC1 := Lib.hid hC1
    have HLT := Lib.hid (fun j (hj : Rest sb w.heap.size j) => (show j < wr.heap.size from by have e := hC1 j hj; rw [Array.getElem?_eq_getElem hj.1] at e; exact (Array.getElem?_eq_some_iff.1 e).1))
    obtain ⟨kP1, kH1⟩ := HE.out wr hC1
    obtain ⟨g0, g1, gl, gf⟩ := kP1.o2
    obtain ⟨l0, ll, lf⟩ := kH1.o1
    clear hJ1 hC1 kP1 kH1
    rcases (by omega : k = 0 ∨ k = 1 ∨ k = 2) with rfl | rfl | rfl
    · have ek : ((0 : Nat) : Int) = 0 := rfl
      rw [ek]
      gi_wp2_with (gi_at_call 67; refine (callsIn_wide.2 (HV0.out _ hs1 HC1.out)).mono ?_; rintro r w3 ⟨⟨B, c, rfl, hR⟩, hb3⟩; refine Hid.out ?_)
      have HW3 := Lib.hid hb3
      have hs3 := hb3.size
      have hJ3 := HJB.out _ _ _ HJ1.out hb3
      have hK3 : ∀ j, Rest sb w.heap.size j → w3.heap[j]? = w.heap[j]? := fun j hj => (HW3.out.block j (HLT.out j hj)).trans (HC1.out j hj)
      obtain ⟨fn, tmps, assign, body, hy, hRR⟩ := HY.out (List.range 0) 0 #[(.int .i64 0), .slice B (F 0).length c] w3 hJ3 hK3 ⟨[1], rfl⟩ rfl hR
      have HR := Lib.hid hRR
      have HK3 := Lib.hid hK3
      clear hb3 hJ3 hK3 hRR hR g0 g1 gl gf l0 ll lf
      unfold Hid
      gi_wp2
      refine HR.out.mono ?_
      rintro e W5 ⟨rfl, hJ5, hC5⟩
      have HC6 : Hid (∀ j, Rest sb w.heap.size j → W5.heap[j]? = w.heap[j]?) := Lib.hid (fun j hj => (hC5 j hj).trans (HK3.out j hj))
      have hs5 : w.heap.size ≤ W5.heap.size := by have := (HE.out W5 HC6.out).1.lt; omega
      have HJ5 := Lib.hid hJ5
      clear hJ5 hC5 hy HR
      gi_wp2
      go_roundw
      case rel => exact ⟨1, by omega, by go_num, HJ5.out, HC6.out, hs5⟩
      case measure => simp [intOf]
    · have ek : ((1 : Nat) : Int) = 1 := rfl
      rw [ek]
      gi_wp2_with (gi_at_call 67; refine (callsIn_wide.2 (HV1.out _ hs1 HC1.out)).mono ?_; rintro r w3 ⟨⟨B, c, rfl, hR⟩, hb3⟩; refine Hid.out ?_)
      have HW3 := Lib.hid hb3
      have hs3 := hb3.size
      have hJ3 := HJB.out _ _ _ HJ1.out hb3
      have hK3 : ∀ j, Rest sb w.heap.size j → w3.heap[j]? = w.heap[j]? := fun j hj => (HW3.out.block j (HLT.out j hj)).trans (HC1.out j hj)
      obtain ⟨fn, tmps, assign, body, hy, hRR⟩ := HY.out (List.range 1) 1 #[(.int .i64 1), .slice B (F 1).length c] w3 hJ3 hK3 ⟨[], rfl⟩ rfl hR
      have HR := Lib.hid hRR
      have HK3 := Lib.hid hK3
      clear hb3 hJ3 hK3 hRR hR g0 g1 gl gf l0 ll lf
      unfold Hid
      gi_wp2
      refine HR.out.mono ?_
      rintro e W5 ⟨rfl, hJ5, hC5⟩
      have HC6 : Hid (∀ j, Rest sb w.heap.size j → W5.heap[j]? = w.heap[j]?) := Lib.hid (fun j hj => (hC5 j hj).trans (HK3.out j hj))
      have hs5 : w.heap.size ≤ W5.heap.size := by have := (HE.out W5 HC6.out).1.lt; omega
      have HJ5 := Lib.hid hJ5
      clear hJ5 hC5 hy HR
      gi_wp2
      go_roundw
      case rel => exact ⟨2, by omega, by go_num, HJ5.out, HC6.out, hs5⟩
      case measure => simp [intOf]
    · gi_wp2
      go_end0
      exact ⟨⟨_, rfl⟩, HJ1.out⟩
end Go.Proofs.Ytamldoidalnloaa
