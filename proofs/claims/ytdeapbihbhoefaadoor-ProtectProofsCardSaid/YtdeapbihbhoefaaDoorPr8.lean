/- Part 8 of the texts of the claim: IterM, S5, S6, S7, CopyI, S8, J1, J2, J3, X1. -/
import Derived.RangeFuncNested
import Derived.RangeFuncBound
import Derived.RangeFuncCalls
import Derived.RangeFuncLeaves
import Derived.Test.YtdeapbihbhoefaaDoorPr2
import Derived.Test.YtdeapbihbhoefaaDoorPr7
import Derived.Shelf.Abstract
import Derived.OwnWalkIn
import Derived.TacticsInMore
import Derived.LoopNIn
import Derived.LoopIn
import Derived.RangeFuncBox
import Derived.Test.YtdeapbihbhoefaaDoorPr4
import Derived.Laws.CopyRow
import Derived.Laws.Cover3

/- The law of 'for x, y := range seq' over an iterator that keeps a variable of its own in cells, reads some blocks, and calls; the body never leaves the loop. -/
namespace Go.Proofs.YtdeapbihbhoefaaDoor
open Go.RowKit

/-- Whatever lies in a block of S lies as it lay. -/
def Same (S : Nat → Prop) (W W' : World) : Prop := ∀ k o, S k → W.heap[k]? = some o → W'.heap[k]? = some o
theorem Same.refl (S : Nat → Prop) (W : World) : Same S W W := fun _ _ _ h => h
theorem Same.trans {S : Nat → Prop} {A B C : World} (h : Same S A B) (k : Same S B C) : Same S A C := fun i o hi ho => k i o hi (h i o hi ho)
theorem Same.alloc {S : Nat → Prop} {W W' : World} (h : Same S W W') (o : Obj) : Same S W (W'.alloc o) := fun k o1 hk ho => by
  have h1 := h k o1 hk ho
  exact (Below.heap_alloc _ _ _ (Array.getElem?_eq_some_iff.1 h1).1).trans h1
theorem Same.setCell {S : Nat → Prop} {W W' : World} (h : Same S W W') {p : Addr} (hp : ¬ S p.block) (u : Value) : Same S W (W'.setCell p u) := fun k o1 hk ho =>
  (Below.heap_setCell _ _ _ _ (fun e => hp (e ▸ hk))).trans (h k o1 hk ho)
theorem Same.drew {S : Nat → Prop} {W W' : World} (h : Same S W W') : Same S W W'.drew := h
theorem Same.below {S : Nat → Prop} {W W' W2 : World} (h : Same S W W') {B : Nat} (hb : Below B W' W2) (hS : ∀ k, S k → k < B) : Same S W W2 := fun k o1 hk ho =>
  (hb.block k (hS k hk)).trans (h k o1 hk ho)
theorem Same.grown {S : Nat → Prop} {W W' W2 : World} {row : Option Nat} (h : Same S W W') (hg : W'.grownBy W2 row) (hr : ∀ k, row = some k → ¬ S k) : Same S W W2 := fun k o1 hk ho => by
  have h1 := h k o1 hk ho
  exact (hg.block k (Array.getElem?_eq_some_iff.1 h1).1 (fun e => hr k e.symm hk)).trans h1
theorem Same.eq {S : Nat → Prop} {W W' : World} (h : Same S W W') {k : Nat} (hk : S k) (hl : k < W.heap.size) : W'.heap[k]? = W.heap[k]? := by
  have e := Array.getElem?_eq_getElem hl
  rw [h k _ hk e, e]

/-- The contract of an iterator that is entered with a heap of the size W.heap.size and lays its own block there; the blocks of C are read. -/
def IterM {α : Type} (F : Fence) (n : Nat) (P : Program) (g : Nat) (lb : Array Value) (enc : α → Array Value) (all : List α) (C : Nat → Prop) (w : World) : Prop :=
  ∀ (l : Nat) (J : List α → World → Prop) (W : World), (∀ k, C k → W.heap[k]? = w.heap[k]?) → (∀ k, C k → k < w.heap.size) → w.heap.size ≤ W.heap.size →
    (∀ pre W1 W2, J pre W1 → Below W1.heap.size W1 W2 → J pre W2) →
    (∀ pre W1 i v, J pre W1 → J pre (W1.setCell ⟨W.heap.size, i, none⟩ v)) →
    (∀ pre x W1, J pre W1 → W.heap.size < W1.heap.size → (∀ k, C k → W1.heap[k]? = w.heap[k]?) → (∃ post, all = pre ++ x :: post) →
      YieldAt F (n - 1) P l (enc x) W1 fun e W' => e = .returned (.bool true) ∧ J (pre ++ [x]) W' ∧ W'.heap[W.heap.size]? = W1.heap[W.heap.size]? ∧ ∀ k, C k → W'.heap[k]? = W1.heap[k]?) →
    J [] W →
    CallsIn F n P g (#[.func (.yield l) #[] #[]] ++ lb) W fun e W' => (∃ v, e = .returned v) ∧ J all W'

/-- How a body that never leaves the loop may end. -/
def iterPost (S : Nat → Prop) (W : World) (I : World → Prop) : Exit → Act → World → Prop
  | .normal, _, W' => Same S W W' ∧ I W'
  | _, _, _ => False

/-- the blocks that a round must leave alone: the three of the loop, from B on, and Cb. -/
def roundS (C : Nat → Prop) (B : Nat) (k : Nat) : Prop := C k ∨ k = B ∨ k = B + 1 ∨ k = B + 2

theorem range_iterM {F : Fence} {n : Nat} {P : Program} {α : Type} {g : Operand} {ps : Array Tmp} {assign body : Code} {Q : Exit → Act → World → Prop} {a : Act} {w : World}
    (hro : F.round = none) (h1 : 1 ≤ n) {gf : Nat} {lb : Array Value} (hg : a.eval g = .func (.func gf) #[] lb) (hFg : F.fn gf) (eg : ∀ args w, (callFunc gf args).run P w = .ok (.enter gf args) w)
    {enc : α → Array Value} {all : List α} {C : Nat → Prop} (hC : ∀ k, C k → k < w.heap.size) (hseq : IterM F (n - 1) P gf lb enc all C w) (hps : ∀ x, ps.size = (enc x).size)
    (I : List α → World → Prop) (hI : OwnFrom w.heap.size I) (hIs : ∀ pre W i v, I pre W → I pre (W.setCell ⟨w.heap.size + 2, i, none⟩ v)) (h0 : I [] w)
    (Ax : List α → α → Act → World → Prop) (hAx : ∀ pre x a', OwnFrom w.heap.size (fun (_ : Unit) W => Ax pre x a' W))
    (hassign : ∀ (l : Nat) (pre : List α) (x : α) (W : World), I pre W → (∃ post, all = pre ++ x :: post) → w.heap.size + 2 < W.heap.size → (∀ k, C k → W.heap[k]? = w.heap[k]?) →
      assign.wpIn (F.inRound l) (n - 1 - 1) P (Exit.then (fun a' W' => Same (roundS C w.heap.size) W W' ∧ Ax pre x a' W') (fun _ _ _ => False)) { tmps := (ps.zip (enc x)).foldl (fun t (p, v) => t.setIfInBounds p v) a.tmps, defers := [] } W)
    (hbody : ∀ (l : Nat) (pre : List α) (x : α) (a' : Act) (W : World), Ax pre x a' W → (∃ post, all = pre ++ x :: post) → w.heap.size + 2 < W.heap.size → (∀ k, C k → W.heap[k]? = w.heap[k]?) →
      body.wpIn (F.inRound l) (n - 1 - 1) P (iterPost (roundS C w.heap.size) W (I (pre ++ [x]))) a' W)
    (hdone : ∀ (W : World), I all W → W.heap[w.heap.size]? = some (.deferred (some [])) → Q .normal { a with defers := { target := .collected w.heap.size, args := #[] } :: a.defers } W) :
    (Code.rangeFunc g ps assign body).wpIn F n P Q a w := by
  refine wpIn_rangeFunc ?_
  intro fn hfn
  rw [hro]
  obtain ⟨rec, hrec⟩ : ∃ rec : LoopState → Option Code → Loop, rec = fun st pe => { state := st, pending := pe, fn, tmps := a.tmps, params := ps, assign, body, defers := w.heap.size } := ⟨_, rfl⟩
  obtain ⟨W1, hW1⟩ : ∃ W1, (w.alloc (.deferred (some []))).alloc (.loop (rec .ready none)) = W1 := ⟨_, rfl⟩
  have hL1 : W1.heap[w.heap.size + 1]? = some (.loop (rec .ready none)) := by
    rw [← hW1]; have := World.alloc_heap_new (w.alloc (.deferred (some []))) (.loop (rec .ready none)); rwa [World.size_alloc] at this
  have hK1 : W1.heap[w.heap.size]? = some (.deferred (some [])) := by
    rw [← hW1]; exact (Below.heap_alloc _ _ _ (by simp)).trans (World.alloc_heap_new w _)
  have hI1 : I [] W1 := by rw [← hW1]; exact hI.alloc _ (hI.alloc _ h0)
  have hC1 : ∀ k, C k → W1.heap[k]? = w.heap[k]? := fun k hk => by
    have := hC k hk
    rw [← hW1, Below.heap_alloc _ _ _ (by simp; omega), Below.heap_alloc _ _ _ this]
  have hs1 : W1.heap.size = w.heap.size + 2 := by rw [← hW1]; simp
  refine ⟨w.heap.size + 1, [{ target := .collected w.heap.size, args := #[] }], W1, { target := .fn (.func gf) lb, args := #[.func (.yield (w.heap.size + 1)) #[] #[]] }, W1, gf,
    #[.func (.yield (w.heap.size + 1)) #[] #[]] ++ lb, W1, ?_, ?_, ?_, ?_, fun _ => h1, ?_⟩
  · rw [← hW1, hrec]; exact run_enterLoop_outer _ _ _ _ _
  · simp only [resolve, hg]
    simp [go_sem]
  · intro f' hf'; simp [Target.leads] at hf'; subst hf'; exact hFg
  · simp [invoke, go_sem, eg]
  · refine (hseq (w.heap.size + 1)
      (fun pre W => I pre W ∧ W.heap[w.heap.size + 1]? = some (.loop (rec .ready none)) ∧ W.heap[w.heap.size]? = some (.deferred (some [])))
      W1 hC1 hC (by omega)
      (fun pre A B hs hb => ⟨hI pre A B none hs.1 ⟨hb.os, hb.tape, hb.output, hb.size, fun k hk _ => hb.block k hk⟩ (by simp), (hb.block _ (Array.getElem?_eq_some_iff.1 hs.2.1).1).trans hs.2.1, (hb.block _ (Array.getElem?_eq_some_iff.1 hs.2.2).1).trans hs.2.2⟩)
      (fun pre A i v hs => ⟨by rw [hs1]; exact hIs _ _ _ _ hs.1, (Below.heap_setCell _ _ _ _ (by rw [hs1]; intro e; simp at e)).trans hs.2.1, (Below.heap_setCell _ _ _ _ (by rw [hs1]; intro e; simp at e)).trans hs.2.2⟩)
      ?_ ⟨hI1, hL1, hK1⟩).mono ?_
    · -- ONE ROUND
      rintro pre x W ⟨hi, hl, hk⟩ hsz hcb hpost
      rw [hs1] at hsz ⊢
      have hlt : w.heap.size + 1 < W.heap.size := by omega
      have hy := run_yield (P := P) (args := enc x) hl (by rw [hrec]; simp [hps x])
      rw [hrec] at hy
      refine ⟨fn, _, assign, body, hy, roundIn_of_wpIn hfn (wpIn_mono (hassign _ pre x W hi hpost hsz hcb) ?_)⟩
      clear hy
      rintro e a' Wa hq
      cases e with
      | normal =>
        obtain ⟨hS, hax⟩ := hq
        have hl' := hS _ _ (.inr (.inr (.inl rfl))) hl
        have hk' := hS _ _ (.inr (.inl rfl)) hk
        have hsz' : w.heap.size + 2 < Wa.heap.size := by
          have := hS (w.heap.size + 2) _ (.inr (.inr (.inr rfl))) (Array.getElem?_eq_getElem hsz)
          exact (Array.getElem?_eq_some_iff.1 this).1
        have hcb' : ∀ k, C k → Wa.heap[k]? = w.heap[k]? := fun k hk => (hS.eq (.inl hk) (by have := hC k hk; omega)).trans (hcb k hk)
        have hD' : Wa.heap[w.heap.size + 2]? = W.heap[w.heap.size + 2]? := hS.eq (.inr (.inr (.inr rfl))) hsz
        refine ⟨_, run_beginRound hl' (by rw [hrec]), ?_⟩
        obtain ⟨Wb, hWb⟩ : ∃ Wb, Wa.putObj (w.heap.size + 1) (.loop { rec .ready none with state := .busy }) = Wb := ⟨_, rfl⟩
        have hl2 : Wb.heap[w.heap.size + 1]? = some (.loop { rec .ready none with state := .busy }) := by rw [← hWb]; exact World.putObj_heap_same (by omega)
        have hk2 : Wb.heap[w.heap.size]? = some (.deferred (some [])) := by rw [← hWb]; exact (World.putObj_heap_other (by omega)).trans hk'
        have hcb2 : ∀ k, C k → Wb.heap[k]? = w.heap[k]? := fun k hk => by have := hC k hk; rw [← hWb]; exact (World.putObj_heap_other (by omega)).trans (hcb' k hk)
        have hD2 : Wb.heap[w.heap.size + 2]? = W.heap[w.heap.size + 2]? := by rw [← hWb]; exact (World.putObj_heap_other (by omega)).trans hD'
        have hsz2 : w.heap.size + 2 < Wb.heap.size := by rw [← hWb]; simpa using hsz'
        have hax2 : Ax pre x a' Wb := by rw [← hWb]; exact (hAx pre x a').putObj (s := ()) _ hax (by omega) hl' rfl
        show body.wpIn _ _ _ _ _ (Wa.putObj (w.heap.size + 1) (.loop { rec .ready none with state := .busy }))
        rw [hWb]
        refine wpIn_mono (hbody _ pre x a' Wb hax2 hpost hsz2 hcb2) ?_
        rintro e a3 W3 hp
        cases e with
        | normal =>
          obtain ⟨hS3, hi3⟩ := hp
          have hl3 := hS3 _ _ (.inr (.inr (.inl rfl))) hl2
          have hk3 := hS3 _ _ (.inr (.inl rfl)) hk2
          have hr := run_endRound (P := P) none hl3
          have hC3 : ∀ k, C k → W3.heap[k]? = W.heap[k]? := fun k hk => ((hS3.eq (.inl hk) (by have := hC k hk; omega)).trans (hcb2 k hk)).trans (hcb k hk).symm
          have hD3 : W3.heap[w.heap.size + 2]? = W.heap[w.heap.size + 2]? := (hS3.eq (.inr (.inr (.inr rfl))) hsz2).trans hD2
          rw [hrec] at hr
          refine ⟨_, _, hr, rfl, ⟨hI.putObj _ hi3 (by omega) hl3 rfl, ?_, ?_⟩, ?_, ?_⟩
          · rw [hrec]; exact World.putObj_heap_same (Array.getElem?_eq_some_iff.1 hl3).1
          · exact (World.putObj_heap_other (by omega)).trans hk3
          · exact (World.putObj_heap_other (by omega)).trans hD3
          · exact fun k hk => (World.putObj_heap_other (by have := hC k hk; omega)).trans (hC3 k hk)
        | exit id => exact hp.elim
        | goto t => exact hp.elim
        | ret => exact hp.elim
        | panic ch => exact hp.elim
        | outgrown => exact hp.elim
      | exit id => exact hq.elim
      | goto t => exact hq.elim
      | ret => exact hq.elim
      | panic ch => exact hq.elim
      | outgrown => exact hq.elim
    · -- BEHIND THE ITERATOR
      rintro e W2 ⟨⟨v, rfl⟩, hi, hl, hk⟩
      exact ⟨none, _, by have := run_endLoop (P := P) hl (by rw [hrec]; simp); rw [hrec] at this; exact this, hdone _ (hI.putObj _ hi (by omega) hl rfl) ((World.putObj_heap_other (by omega)).trans hk)⟩
end Go.Proofs.YtdeapbihbhoefaaDoor

/- Contracts of (Section).outputs and of the iterator that it hands out. -/
namespace Go.Proofs.YtdeapbihbhoefaaDoor
open Go.RowKit
open Calm (bcell Blk)

abbrev XS := Int × Int × Int × Int
/-- the states of a section's run, and its outputs. -/
def ssAt (b0 b1 b2 a1 a2 sh : Int) (st : XS) (xs : List Int) : Nat → XS
  | 0 => st
  | k + 1 => let s := ssAt b0 b1 b2 a1 a2 sh st xs k; (xs.getD k 0, s.1, outS b0 b1 b2 a1 a2 sh s.1 s.2.1 s.2.2.1 s.2.2.2 (xs.getD k 0), s.2.2.1)
def soAt (b0 b1 b2 a1 a2 sh : Int) (st : XS) (xs : List Int) (k : Nat) : Int := let s := ssAt b0 b1 b2 a1 a2 sh st xs k; outS b0 b1 b2 a1 a2 sh s.1 s.2.1 s.2.2.1 s.2.2.2 (xs.getD k 0)
def allS (b0 b1 b2 a1 a2 sh : Int) (st : XS) (xs : List Int) (n : Nat) : List (Int × XS) := (List.range n).map fun k => (soAt b0 b1 b2 a1 a2 sh st xs k, ssAt b0 b1 b2 a1 a2 sh st xs (k + 1))
theorem allS_succ (b0 b1 b2 a1 a2 sh : Int) (st : XS) (xs : List Int) (k : Nat) : allS b0 b1 b2 a1 a2 sh st xs (k + 1) = allS b0 b1 b2 a1 a2 sh st xs k ++ [(soAt b0 b1 b2 a1 a2 sh st xs k, ssAt b0 b1 b2 a1 a2 sh st xs (k + 1))] := by simp [allS, List.range_succ]
theorem allS_post (b0 b1 b2 a1 a2 sh : Int) (st : XS) (xs : List Int) {k n : Nat} (h : k < n) : ∃ post, allS b0 b1 b2 a1 a2 sh st xs n = allS b0 b1 b2 a1 a2 sh st xs k ++ (soAt b0 b1 b2 a1 a2 sh st xs k, ssAt b0 b1 b2 a1 a2 sh st xs (k + 1)) :: post := by
  obtain ⟨m, rfl⟩ : ∃ m, n = k + 1 + m := ⟨n - (k + 1), by omega⟩
  refine ⟨(List.range m).map fun j => (soAt b0 b1 b2 a1 a2 sh st xs (k + 1 + j), ssAt b0 b1 b2 a1 a2 sh st xs (k + 1 + j + 1)), ?_⟩
  have : allS b0 b1 b2 a1 a2 sh st xs (k + 1 + m) = allS b0 b1 b2 a1 a2 sh st xs (k + 1) ++ (List.range m).map fun j => (soAt b0 b1 b2 a1 a2 sh st xs (k + 1 + j), ssAt b0 b1 b2 a1 a2 sh st xs (k + 1 + j + 1)) := by
    simp [allS, List.range_add]
  rw [this, allS_succ]
  simp
def okX (s : XS) : Prop := bd15 s.1 ∧ bd15 s.2.1 ∧ bd15 s.2.2.1 ∧ bd15 s.2.2.2
theorem ssAt_ok {b0 b1 b2 a1 a2 sh : Int} {st : XS} {xs : List Int} (hs : okX st) (hx : inB 32767 xs) : ∀ k, okX (ssAt b0 b1 b2 a1 a2 sh st xs k)
  | 0 => hs
  | k + 1 => by
    have h := ssAt_ok (b0 := b0) (b1 := b1) (b2 := b2) (a1 := a1) (a2 := a2) (sh := sh) hs hx k
    exact ⟨inB_get hx (by omega) k, h.1, limF_bd _, h.2.2.1⟩
/-- what the iterator hands to the loop. -/
def encO (x : Int × XS) : Array Value := #[(.int .i64 (x.1)), .agg #[(.int .i64 (x.2.1)), (.int .i64 (x.2.2.1)), (.int .i64 (x.2.2.2.1)), (.int .i64 (x.2.2.2.2))]]
def blks (a b c d : Nat) (k : Nat) : Prop := k = a ∨ k = b ∨ k = c ∨ k = d

end Go.Proofs.YtdeapbihbhoefaaDoor

/- Contract of (Section).from. -/
namespace Go.Proofs.YtdeapbihbhoefaaDoor
open Go.RowKit
open Calm (bcell Blk)

def encX (s : XS) : Array Value := #[(.int .i64 (s.1)), (.int .i64 (s.2.1)), (.int .i64 (s.2.2.1)), (.int .i64 (s.2.2.2))]
def lastX (st : XS) (pre : List (Int × XS)) : XS := (pre.getLast?.map Prod.snd).getD st
theorem lastX_snoc (st : XS) (pre : List (Int × XS)) (x : Int × XS) : lastX st (pre ++ [x]) = x.2 := by simp [lastX]
theorem lastX_all (b0 b1 b2 a1 a2 sh : Int) (st : XS) (xs : List Int) : ∀ n, lastX st (allS b0 b1 b2 a1 a2 sh st xs n) = ssAt b0 b1 b2 a1 a2 sh st xs n
  | 0 => rfl
  | k + 1 => by rw [allS_succ, lastX_snoc]
def soK (b0 b1 b2 a1 a2 sh : Int) (st : XS) (xs : List Int) (n : Nat) : List Int := (List.range n).map fun k => soAt b0 b1 b2 a1 a2 sh st xs k
theorem soK_all (b0 b1 b2 a1 a2 sh : Int) (st : XS) (xs : List Int) (n : Nat) : (allS b0 b1 b2 a1 a2 sh st xs n).map Prod.fst = soK b0 b1 b2 a1 a2 sh st xs n := by simp [allS, soK]
theorem soK_len (b0 b1 b2 a1 a2 sh : Int) (st : XS) (xs : List Int) (n : Nat) : (soK b0 b1 b2 a1 a2 sh st xs n).length = n := by simp [soK]
theorem allS_len (b0 b1 b2 a1 a2 sh : Int) (st : XS) (xs : List Int) (n : Nat) : (allS b0 b1 b2 a1 a2 sh st xs n).length = n := by simp [allS]
/-- a block that lies, and may be written. -/
def Unf (w : World) (b : Nat) : Prop := b < w.heap.size ∧ ∀ i, w.frozen? ⟨b, i, none⟩ = false
theorem Unf.below {w w' : World} {b : Nat} (h : Unf w b) (hb : Below w.heap.size w w') : Unf w' b :=
  ⟨Nat.lt_of_lt_of_le h.1 hb.size, fun i => (hb.frozen (p := ⟨b, i, none⟩) h.1).trans (h.2 i)⟩
theorem own_unf {W : World} {base e size n c k : Nat} {p : Addr} {xs : List Value} (h : W.ownsRow base e size (.slice (some p) n c) k xs) : Unf W p.block := by
  rcases h.2 with ⟨h1, h2⟩ | ⟨g, cap, cur, h1, h2, h3, h4, h5, h6, h7⟩
  · cases h1
  · cases h1
    exact ⟨(Array.getElem?_eq_some_iff.1 h3).1, fun i => by unfold World.frozen?; rw [h3]; simp⟩
theorem kbS_own {β : Type} (w5 : World) (S : Nat → Prop) : OwnFrom w5.heap.size (fun (_ : β) W => ∀ k, k < w5.heap.size → ¬ S k → W.heap[k]? = w5.heap[k]?) := fun s X Y row hs hg hrow k hk hne => by
  have hX := hs k hk hne
  have hlt : k < X.heap.size := by
    rw [Array.getElem?_eq_getElem hk] at hX
    exact (Array.getElem?_eq_some_iff.1 hX).1
  exact (hg.block k hlt (fun e => by have := (hrow k e.symm).1; omega)).trans hX
theorem heapRow_own {β : Type} (B : Nat) (cs : β → Array Value) (t : TypeId) : Own (fun (s : β) W => W.heap[B]? = some (.cells (cs s) t (0, 0))) := fun s X Y row hs hg hrow =>
  (hg.block B (Array.getElem?_eq_some_iff.1 hs).1 (fun e' => by obtain ⟨o, ho, hc⟩ := hrow B e'.symm; rw [hs] at ho; cases ho; cases hc)).trans hs
theorem blk_own {β : Type} (B n : Nat) (hB : B < n) (f : β → Array Value) : OwnFrom n (fun s W => Blk W B (f s)) := fun s X Y row hs hg hrow =>
  Calm.Blk.of_block hs (hg.block B hs.lt (fun e => by have := (hrow B e.symm).1; omega))

end Go.Proofs.YtdeapbihbhoefaaDoor

/- Contracts of From and Run (sections that hold). -/
namespace Go.Proofs.YtdeapbihbhoefaaDoor
open Go.RowKit
open Calm (bcell Blk)

end Go.Proofs.YtdeapbihbhoefaaDoor

/- The law of copy between slices of integers, as contracts speak of them. -/
namespace Go.Proofs.YtdeapbihbhoefaaDoor
open Go.RowKit

theorem run_copyI {P : Program} (w : World) (dT sT ty elem : TypeId) (g : Nat) (A : Option Addr) (xs : List Int) (n cap c : Nat) (cur : Array Value) (t : TypeId)
    (hu : P.underlying dT = some (.slice elem)) (hs : (P.info? elem).map (·.size) = some 1) (hn : xs.length ≤ n)
    (hg : w.heap[g]? = some (.cells cur t (0, 0))) (hcur : cur.size = n) (hC : Cells w A xs) :
    (Builtin.copy_ #[dT, sT] ty #[.slice (some ⟨g, 0, none⟩) n cap, .slice A xs.length c]).run P w = .ok (goInt xs.length) (w.setRow g (xs.map (Value.int .i64) ++ cur.toList.drop xs.length).toArray) := by
  have hmin : Nat.min xs.length n = xs.length := Nat.min_eq_left hn
  cases A with
  | some a =>
    have := run_copy_row (P := P) w dT sT ty elem g 0 n cap a xs.length c cur t (xs.map (Value.int .i64)) hu hs hg (by rw [hmin]; simp) (fun j v hj => by
      have hj' : j < xs.length := by
        have := (List.getElem?_eq_some_iff.1 hj).1
        simpa using this
      obtain ⟨b, o, hA, hl, hc⟩ := hC (by omega)
      cases hA
      exact cells_src hc j v hj) (by simp; omega) (fun v hv => by obtain ⟨_, _, rfl⟩ := List.mem_map.1 hv; rfl)
    simpa using this
  | none =>
    have h0 : xs = [] := by
      cases xs with
      | nil => rfl
      | cons x xs => obtain ⟨b, o, hA, _⟩ := hC (by simp); cases hA
    subst h0
    have hself : w.setRow g cur = w := setRow_self w g cur t _ hg
    cases hq : P.info? elem with
    | none => simp [hq] at hs
    | some i => simp [Builtin.copy_, run_underlying hu, Builtin.lenOf, Builtin.firstCells, sizeOf, typeInfo, hq, storeCells, hself]
theorem wpList_copyI {P : Program} {w : World} {ops : Array Oper} {rest : List Oper} {o : Oper} {a : Act} {Q : Exit → Act → World → Prop} (hgd : o.guard = none) (d s : Operand) (dT sT : TypeId)
    (ho : o.op = .call { callee := .builtin .copy, args := #[d, s], argTypes := #[dT, sT] }) (elem : TypeId) (hu : P.underlying dT = some (.slice elem)) (hsz : (P.info? elem).map (·.size) = some 1)
    (g n m cap c : Nat) (A : Option Addr) (xs : List Int) (hm : xs.length = m) (hn : m ≤ n) (hd : a.eval d = .slice (some ⟨g, 0, none⟩) n cap) (hs : a.eval s = .slice A m c)
    (cur : Array Value) (t : TypeId) (hg : w.heap[g]? = some (.cells cur t (0, 0))) (hcur : cur.size = n) (hC : Cells w A xs)
    (h : ∀ w', w'.heap.size = w.heap.size → Below g w w' → (∀ k, k ≠ g → w'.heap[k]? = w.heap[k]?) → w'.heap[g]? = some (.cells (xs.map (Value.int .i64) ++ cur.toList.drop m).toArray t (0, 0)) → wpList P ops Q rest (a.put o.dst (goInt m)) w') : wpList P ops Q (o :: rest) a w := by
  subst hm
  refine wpList_plain hgd fun K hK => ?_
  have hrun := run_copyI (P := P) w dT sT o.type elem g A xs n cap c cur t hu hsz hn hg hcur hC
  unfold Oper.wp
  simp [execOp, ho, resolve, invoke, builtin, hd, hs, hrun, Result.andThen]
  exact hK _ _ (h _ (by simp [World.setRow]) (below_setRow (Below.refl _ _) (Nat.le_refl _) _) (fun k hk => setRow_other w g k _ hk) (setRow_heap w g _ _ t _ hg))
end Go.Proofs.YtdeapbihbhoefaaDoor

/- Contract of Cascade (sections and a signal that hold). -/
namespace Go.Proofs.YtdeapbihbhoefaaDoor
open Go.RowKit
open Calm (bcell Blk)

/-- what a section makes of a signal, at rest. -/
def secOut (s : Sec) (ys : List Int) : List Int := soK s.b0 s.b1 s.b2 s.a1 s.a2 s.sh (0, 0, 0, 0) ys ys.length
theorem secOut_len (s : Sec) (ys : List Int) : (secOut s ys).length = ys.length := soK_len _ _ _ _ _ _ _ _ _
theorem secOut_in (s : Sec) (ys : List Int) : inB 32767 (secOut s ys) := by
  intro n hn
  simp only [secOut, soK, List.mem_map] at hn
  obtain ⟨k, _, rfl⟩ := hn
  exact limF_bd _
/-- the signal behind the first k sections. -/
def casc (l : List Sec) (xs : List Int) (k : Nat) : List Int := (l.take k).foldl (fun ys s => secOut s ys) xs
theorem casc_succ {l : List Sec} (xs : List Int) {k : Nat} (hk : k < l.length) : casc l xs (k + 1) = secOut (l.getD k Sec0) (casc l xs k) := by
  unfold casc
  rw [List.take_succ_eq_append_getElem hk, List.foldl_append, List.getD_eq_getElem?_getD, List.getElem?_eq_getElem hk]
  rfl
theorem casc_len {l : List Sec} (xs : List Int) : ∀ k, k ≤ l.length → (casc l xs k).length = xs.length
  | 0, _ => by simp [casc]
  | k + 1, h => by rw [casc_succ _ (by omega), secOut_len, casc_len xs k (by omega)]
theorem casc_in {l : List Sec} {xs : List Int} (hx : inB 32767 xs) : ∀ k, k ≤ l.length → inB 32767 (casc l xs k)
  | 0, _ => by simpa [casc] using hx
  | k + 1, h => by rw [casc_succ _ (by omega)]; exact secOut_in _ _
theorem eachErr_zero {l : List Int} {lo hi : Int} : eachErr l lo hi = 0 ↔ ∀ n ∈ l, lo ≤ n ∧ n ≤ hi := by
  unfold eachErr
  rw [firstOf_eq_zero]
  constructor
  · exact fun h n hn => rangeErr_zero.1 (h _ (List.mem_map.2 ⟨n, hn, rfl⟩))
  · rintro h x hx
    obtain ⟨n, hn, rfl⟩ := List.mem_map.1 hx
    exact rangeErr_zero.2 (h n hn)
theorem secErr_zero {b0 b1 b2 a1 a2 sh : Int} (h : secErr b0 b1 b2 a1 a2 sh = 0) : bd15 b0 ∧ bd15 b1 ∧ bd15 b2 ∧ bd15 a1 ∧ bd15 a2 ∧ 0 ≤ sh ∧ sh ≤ 15 := by
  have h2 := firstOf_eq_zero.1 h
  have h3 := eachErr_zero.1 (h2 _ (List.mem_cons_self ..))
  exact ⟨h3 _ (by simp), h3 _ (by simp), h3 _ (by simp), h3 _ (by simp), h3 _ (by simp), rangeErr_zero.1 (h2 _ (by simp))⟩
theorem secsErr_zero {l : List Sec} (h : secsErr l = 0) : l.length ≤ 8 ∧ ∀ k, k < l.length → secE (l.getD k Sec0) = 0 := by
  have h2 := firstOf_eq_zero.1 h
  refine ⟨?_, fun k hk => ?_⟩
  · have := h2 (if 8 < l.length then 5 else 0) (by simp)
    split at this
    · simp at this
    · omega
  · have h3 := firstOf_eq_zero.1 (h2 (firstOf (l.map secE)) (by simp))
    refine h3 _ (List.mem_map.2 ⟨_, ?_, rfl⟩)
    rw [List.getD_eq_getElem?_getD, List.getElem?_eq_getElem hk]
    exact List.getElem_mem hk
theorem ssigErr_zero {xs : List Int} (h : ssigErr xs = 0) : xs.length ≤ 4096 ∧ inB 32767 xs := by
  have h2 := firstOf_eq_zero.1 h
  refine ⟨?_, fun n hn => ?_⟩
  · have := h2 (if 4096 < xs.length then 5 else 0) (by simp)
    split at this
    · simp at this
    · omega
  · exact eachErr_zero.1 (h2 (eachErr xs (-32767) 32767) (by simp)) n hn

end Go.Proofs.YtdeapbihbhoefaaDoor

/- Contracts of the references: First, CheckRange, SameInts, CheckInput, CheckValue, CheckSignal. -/
namespace Go.Proofs.YtdeapbihbhoefaaDoor
open Go.RowKit
open Calm (bcell Blk)

theorem qRange_any (n lo hi : Int) (w : World) : Calls Tryd.prog 58 #[(.int .i64 (n)), (.int .i64 (lo)), (.int .i64 (hi))] w fun r w' => r = .returned (.int .i64 (rangeErr n lo hi)) ∧ w = w' := by
  rcases Int.lt_or_le n lo with h | h
  · go_enter Tryd.func58, Tryd.ntmps58
    go_wp2
    go_ret
    exact ⟨ret_i (rangeErr_lo h).symm, rfl⟩
  · rcases Int.lt_or_le hi n with h' | h'
    · go_enter Tryd.func58, Tryd.ntmps58
      go_wp2
      go_ret
      exact ⟨ret_i (rangeErr_hi h').symm, rfl⟩
    · go_enter Tryd.func58, Tryd.ntmps58
      go_wp2
      go_ret
      exact ⟨ret_i (rangeErr_in (by omega) (by omega)).symm, rfl⟩
theorem pValue_any (n : Int) (w : World) : Calls Tryd.prog 32 #[(.int .i64 (n))] w fun r w' => r = .returned (.int .i64 (rangeErr n (-2048) 2048)) ∧ w = w' := by
  go_enter Tryd.func32, Tryd.ntmps32
  go_wp2_with (go_at_call 58; refine (qRange_any _ _ _ _).mono ?_; rintro r w' ⟨rfl, rfl⟩)
  go_ret
  exact ⟨rfl, rfl⟩
theorem qFirst_any (l : List Int) (A : Option Addr) (c : Nat) (w : World) (hl : l.length ≤ 5000) (hC : Cells w A l) :
    Calls Tryd.prog 31 #[.slice A l.length c] w fun r w' => r = .returned (.int .i64 (firstOf l)) ∧ w = w' := by
  go_enter Tryd.func31, Tryd.ntmps31
  go_wp2
  go_loop [3] (fun i => ∃ k : Nat, k ≤ l.length ∧ i = (.int .i64 (k)) ∧ ∀ j, j < k → l.getD j 0 = 0) (fun i => l.length - (intOf i).toNat)
  case atStart => exact ⟨0, Nat.zero_le _, rfl, fun j hj => by omega⟩
  case round =>
    obtain ⟨k, hk, rfl, hz⟩ := hrel
    have HZ := Lib.hid hz
    clear hz
    by_cases hlt : k < l.length
    · obtain ⟨b, off, rfl, hbl, hc⟩ := hC (by omega)
      have hck := hc k hlt
      clear hc hC
      by_cases h0 : l.getD k 0 = 0
      · rw [h0] at hck
        have H0 := Lib.hid h0
        clear h0
        go_wp2
        go_round
        case rel => exact ⟨k + 1, by omega, by go_num, fun j hj => by
          rcases Nat.lt_or_ge j k with hjk | hjk
          · exact HZ.out j hjk
          · obtain rfl : j = k := by omega
            exact H0.out⟩
        case measure => simp [intOf]; omega
      · obtain ⟨x, hx⟩ : ∃ x, x = l.getD k 0 := ⟨_, rfl⟩
        rw [← hx] at hck h0
        have H0 := Lib.hid hx
        clear hx
        go_wp2
        go_ret
        exact ⟨ret_i (by rw [firstOf_take HZ.out hlt (by rw [← H0.out]; exact h0)]; exact H0.out), rfl⟩
    · clear hC
      go_wp2
      go_ret
      exact ⟨ret_i (by rw [firstOf_zero (fun j hj => HZ.out j (by omega))]), rfl⟩
theorem pSignal_any (xs : List Int) (A : Option Addr) (c : Nat) (w : World) (hC : Cells w A xs) (hn : xs.length ≤ 5000) :
    Calls Tryd.prog 44 #[.slice A xs.length c] w fun r w' => r = .returned (.int .i64 (sigErr xs)) ∧ w = w' := by
  have hm : ∀ k, k < (xs.map fun n => rangeErr n (-2048) 2048).length → (xs.map fun n => rangeErr n (-2048) 2048).getD k 0 = rangeErr (xs.getD k 0) (-2048) 2048 := fun k hk => by
    have hk' : k < xs.length := by simpa using hk
    simp [List.getD_eq_getElem?_getD, hk']
  have HM := Lib.hid hm
  have HL : Hid ((xs.map fun n => rangeErr n (-2048) 2048).length = xs.length) := Lib.hid (by simp)
  have HC := Lib.hid hC
  obtain ⟨R, hR⟩ : ∃ R, R = sigErr xs := ⟨_, rfl⟩
  have HR : Hid (R = firstOf [if 4096 < xs.length then 5 else 0, eachErr xs (-2048) 2048]) := Lib.hid hR
  rw [← hR]
  obtain ⟨N, hN⟩ : ∃ N, N = xs.length := ⟨_, rfl⟩
  have HN := Lib.hid hN
  rw [← hN] at HL hn HR ⊢
  clear hC hR hN hm
  by_cases hb : 4096 < N
  · have hbi : (4096 : Int) < (N : Int) := by omega
    have HE : Hid (R = 5) := Lib.hid (by rw [HR.out, if_pos hb]; simp [firstOf])
    clear HR
    go_enter Tryd.func44, Tryd.ntmps44
    go_wp2
    go_ret
    exact ⟨ret_i HE.out.symm, rfl⟩
  · have hbi : ¬ (4096 : Int) < (N : Int) := by omega
    have HE : Hid (R = eachErr xs (-2048) 2048) := Lib.hid (by rw [HR.out, if_neg hb]; by_cases h0 : eachErr xs (-2048) 2048 = 0 <;> simp [firstOf, h0])
    clear HR
    go_enter Tryd.func44, Tryd.ntmps44
    go_wp2
    go_loop [3, 4] (fun i _ => ∃ k : Nat, k ≤ N ∧ i = (.int .i64 (k)) ∧ ∀ j, j < k → (xs.map fun n => rangeErr n (-2048) 2048).getD j 0 = 0) (fun i _ => N - (intOf i).toNat)
    case atStart => exact ⟨0, Nat.zero_le _, rfl, fun j hj => by omega⟩
    case round =>
      obtain ⟨k, hk, rfl, hz⟩ := hrel
      have HZ := Lib.hid hz
      clear hz
      by_cases hlt : k < N
      · obtain ⟨b, off, rfl, hbl, hc⟩ := HC.out (by rw [← HN.out]; omega)
        have hck := hc k (by rw [← HN.out]; exact hlt)
        have HG := Lib.hid (HM.out k (by rw [HL.out]; exact hlt))
        clear hc
        obtain ⟨x, hx⟩ : ∃ x, x = xs.getD k 0 := ⟨_, rfl⟩
        rw [← hx] at hck HG
        clear hx
        by_cases h0 : rangeErr x (-2048) 2048 = 0
        · have H0 := Lib.hid h0
          clear h0
          go_wp2_with (go_at_call 32; refine (pValue_any _ _).mono ?_; rw [H0.out]; rintro r w' ⟨rfl, rfl⟩)
          go_round
          case rel => exact ⟨k + 1, by omega, by go_num, fun j hj => by
            rcases Nat.lt_or_ge j k with hjk | hjk
            · exact HZ.out j hjk
            · obtain rfl : j = k := by omega
              rw [HG.out]; exact H0.out⟩
          case measure => simp [intOf]; omega
        · obtain ⟨e, he⟩ : ∃ e, e = rangeErr x (-2048) 2048 := ⟨_, rfl⟩
          rw [← he] at h0 HG
          have H1 := Lib.hid he
          clear he
          go_wp2_with (go_at_call 32; refine (pValue_any _ _).mono ?_; rw [← H1.out]; rintro r w' ⟨rfl, rfl⟩)
          go_ret
          exact ⟨ret_i (by rw [HE.out]; unfold eachErr; rw [firstOf_take HZ.out (by rw [HL.out]; exact hlt) (by rw [HG.out]; exact h0), HG.out]), rfl⟩
      · go_wp2
        go_ret
        exact ⟨ret_i (by rw [HE.out]; unfold eachErr; rw [firstOf_zero (fun j hj => HZ.out j (by rw [HL.out] at hj; omega))]), rfl⟩
set_option maxRecDepth 100000 in
set_option maxHeartbeats 4000000 in
theorem sameInts_any (A B : Option Addr) (a b : List Int) (ca cb : Nat) (w : World) (hA : Cells w A a) (hB : Cells w B b) (h1 : a.length ≤ 100000) (h2 : b.length ≤ 100000) :
    Calls Tryd.prog 38 #[.slice A a.length ca, .slice B b.length cb] w fun x w' => x = .returned (.bool (decide (a = b))) ∧ Below w.heap.size w w' := by
  obtain ⟨E, hE⟩ : ∃ E, E = decide (a = b) := ⟨_, rfl⟩
  have HE := Lib.hid hE
  have HCA := Lib.hid hA
  have HCB := Lib.hid hB
  obtain ⟨N, hN⟩ : ∃ N, N = a.length := ⟨_, rfl⟩
  obtain ⟨M, hM⟩ : ∃ M, M = b.length := ⟨_, rfl⟩
  have HN := Lib.hid hN
  have HM := Lib.hid hM
  rw [← hE]
  rw [← hN] at h1 ⊢
  rw [← hM] at h2 ⊢
  clear hE hA hB hN hM
  by_cases hnm : N = M
  · have HNM := Lib.hid hnm
    subst hnm
    go_enter Tryd.func38, Tryd.ntmps38
    go_wp2
    go_loopw [5] (fun i wr => ∃ k : Nat, k ≤ N ∧ i = (.int .i64 ((k : Nat))) ∧ (∀ j, j < k → a.getD j 0 = b.getD j 0) ∧ Below w.heap.size w wr) (fun i _ => N - (intOf i).toNat)
    case atStart => exact ⟨0, by omega, rfl, fun j hj => by omega, Below.refl _ _⟩
    case round =>
      obtain ⟨k, hk, rfl, hz, hBr⟩ := hrel
      have HZ := Lib.hid hz
      have HBR := Lib.hid hBr
      have hszr := hBr.size
      clear hz hBr
      by_cases hlt : k < N
      · have l1 : k < a.length := by rw [← HN.out]; exact hlt
        have l2 : k < b.length := by rw [← HM.out]; exact hlt
        obtain ⟨g, o, rfl, q1, k1⟩ := (HCA.out.below HBR.out) (by omega)
        obtain ⟨g', o', rfl, q2, k2⟩ := (HCB.out.below HBR.out) (by omega)
        have y1 := k1 k l1
        have y2 := k2 k l2
        obtain ⟨x, hx⟩ : ∃ x, x = a.getD k 0 := ⟨_, rfl⟩
        obtain ⟨y, hy⟩ : ∃ y, y = b.getD k 0 := ⟨_, rfl⟩
        rw [← hx] at y1
        rw [← hy] at y2
        have HX := Lib.hid hx
        have HY := Lib.hid hy
        clear k1 k2 hx hy l1 l2
        by_cases hxy : x = y
        · subst hxy
          go_wp2
          refine Calm.tail_below 8 (by kernel_rfl) (by kernel_rfl) ?_
          simp only [List.take_succ_cons, List.take_zero, List.drop_succ_cons, List.drop_zero]
          repeat (first | (apply Calm.op_move; (focus rfl); (focus (first | exact .inl rfl | exact .inr rfl)); (focus ((try simp only [Act.eval, Array.getD_eq_getD_getElem?, List.getElem?_toArray, List.getElem?_cons_succ, List.getElem?_cons_zero, Option.getD_some]); rfl)); (try simp only [Act.put, List.setIfInBounds_toArray, List.set_cons_zero, List.set_cons_succ])) | (apply Calm.op_not; (focus rfl); (try simp only [Act.put, List.setIfInBounds_toArray, List.set_cons_zero, List.set_cons_succ])) | (apply Calm.op; (focus rfl); (focus (intro W hb; obtain ⟨hc, hf⟩ := bcell hb; clear hb hf; go_simp; (try go_bits); (try rfl); done)); (try simp only [Act.put, List.setIfInBounds_toArray, List.set_cons_zero, List.set_cons_succ])))
          refine wpQuiet_nil ?_
          intro w2 hb2
          obtain ⟨hb2c, hb2f⟩ := bcell hb2
          have hb2z := hb2.size
          (try simp at hb2z)
          (try have hb2z0 : w.heap.size < w2.heap.size := by omega)
          (try have hb2z1 : w.heap.size + 1 < w2.heap.size := by omega)
          (try have hb2z2 : w.heap.size + 1 + 1 < w2.heap.size := by omega)
          (try have hb2z3 : w.heap.size + 1 + 1 + 1 < w2.heap.size := by omega)
          (try have hb2z4 : w.heap.size + 1 + 1 + 1 + 1 < w2.heap.size := by omega)
          (try have hb2z5 : w.heap.size + 1 + 1 + 1 + 1 + 1 < w2.heap.size := by omega)
          go_wp2
          go_roundw
          case rel =>
            refine ⟨k + 1, by omega, by go_num, fun j hj => ?_, HBR.out.trans (hb2.mono hszr)⟩
            rcases Nat.lt_or_ge j k with h | h
            · exact HZ.out j h
            · obtain rfl : j = k := by omega
              rw [← HX.out, ← HY.out]
          case measure => simp [intOf]; omega
        · have HEE := Lib.hid (show E = false by
            rw [HE.out]
            refine decide_eq_false (fun e => hxy ?_)
            rw [HX.out, HY.out, e])
          go_wp2
          refine Calm.tail_below 8 (by kernel_rfl) (by kernel_rfl) ?_
          simp only [List.take_succ_cons, List.take_zero, List.drop_succ_cons, List.drop_zero]
          repeat (first | (apply Calm.op_move; (focus rfl); (focus (first | exact .inl rfl | exact .inr rfl)); (focus ((try simp only [Act.eval, Array.getD_eq_getD_getElem?, List.getElem?_toArray, List.getElem?_cons_succ, List.getElem?_cons_zero, Option.getD_some]); rfl)); (try simp only [Act.put, List.setIfInBounds_toArray, List.set_cons_zero, List.set_cons_succ])) | (apply Calm.op_not; (focus rfl); (try simp only [Act.put, List.setIfInBounds_toArray, List.set_cons_zero, List.set_cons_succ])) | (apply Calm.op; (focus rfl); (focus (intro W hb; obtain ⟨hc, hf⟩ := bcell hb; clear hb hf; go_simp; (try go_bits); (try rfl); done)); (try simp only [Act.put, List.setIfInBounds_toArray, List.set_cons_zero, List.set_cons_succ])))
          refine wpQuiet_nil ?_
          intro w2 hb2
          obtain ⟨hb2c, hb2f⟩ := bcell hb2
          have hb2z := hb2.size
          (try simp at hb2z)
          (try have hb2z0 : w.heap.size < w2.heap.size := by omega)
          (try have hb2z1 : w.heap.size + 1 < w2.heap.size := by omega)
          (try have hb2z2 : w.heap.size + 1 + 1 < w2.heap.size := by omega)
          (try have hb2z3 : w.heap.size + 1 + 1 + 1 < w2.heap.size := by omega)
          (try have hb2z4 : w.heap.size + 1 + 1 + 1 + 1 < w2.heap.size := by omega)
          (try have hb2z5 : w.heap.size + 1 + 1 + 1 + 1 + 1 < w2.heap.size := by omega)
          go_wp2
          go_ret
          exact ⟨by rw [HEE.out]; rfl, HBR.out.trans (hb2.mono hszr)⟩
      · obtain rfl : k = N := by omega
        have HEE := Lib.hid (show E = true by
          rw [HE.out]
          refine decide_eq_true (List.ext_getElem? fun i => ?_)
          have hl : a.length = b.length := HN.out.symm.trans HM.out
          rcases Nat.lt_or_ge i a.length with h | h
          · have := HZ.out i (by rw [HN.out]; exact h)
            simpa [h, show i < b.length by omega] using this
          · rw [List.getElem?_eq_none h, List.getElem?_eq_none (by omega)])
        go_wp2
        go_ret
        exact ⟨by rw [HEE.out]; rfl, HBR.out⟩
  · have HEE := Lib.hid (show E = false by
      rw [HE.out]
      refine decide_eq_false (fun e => hnm ?_)
      rw [HN.out, HM.out, e])
    have hnm2 : ¬ (N : Int) = (M : Int) := by omega
    go_enter Tryd.func38, Tryd.ntmps38
    go_wp2
    go_ret
    exact ⟨by rw [HEE.out]; rfl, Below.refl _ _⟩
end Go.Proofs.YtdeapbihbhoefaaDoor

/- Contracts of the reference's numbers, CheckSection, CheckSections. -/
namespace Go.Proofs.YtdeapbihbhoefaaDoor
open Go.RowKit
open Calm (bcell Blk)

theorem first0 (e : Int) : firstOf [0, e] = e := by by_cases h0 : e = 0 <;> simp [firstOf, h0]
end Go.Proofs.YtdeapbihbhoefaaDoor

/- A guard's error, number by number; a guard without error is valid. No walk. -/
namespace Go.Proofs.YtdeapbihbhoefaaDoor
open Go.RowKit

theorem fo_cons0 (l : List Int) : firstOf (0 :: l) = firstOf l := by simp [firstOf]
theorem fo_consN {a : Int} (h : a ≠ 0) (l : List Int) : firstOf (a :: l) = a := by simp [firstOf, h]
theorem fo_two (a b : Int) (l : List Int) : firstOf (a :: b :: l) = if firstOf [a, b] = 0 then firstOf l else firstOf [a, b] := by
  by_cases ha : a = 0
  · subst ha
    rw [fo_cons0, fo_cons0]
    by_cases hb : b = 0
    · subst hb; simp [firstOf]
    · rw [fo_consN hb, fo_consN hb, if_neg hb]
  · rw [fo_consN ha, fo_consN ha, if_neg ha]
/-- the error of the gain at an index. -/
def eltG (gs : List Int) (k : Nat) : Int := firstOf [rangeErr (gs.getD k 0) 0 16, if k = 0 ∧ gs.getD 0 0 ≠ 0 ∨ 0 < k ∧ gs.getD k 0 ≤ gs.getD (k - 1) 0 then 11 else 0]
theorem eltG_pos {gs : List Int} {k : Nat} (h : 0 < k) : eltG gs k = ascAt gs 0 16 k := by
  unfold eltG ascAt
  have h0 : ¬ k = 0 := by omega
  simp [h, h0]
theorem eltG_zero (gs : List Int) : eltG gs 0 = firstOf [rangeErr (gs.getD 0 0) 0 16, if gs.getD 0 0 ≠ 0 then 11 else 0] := by simp [eltG]
theorem asc0 (gs : List Int) : ascAt gs 0 16 0 = rangeErr (gs.getD 0 0) 0 16 := by
  unfold ascAt
  simp only [Nat.lt_irrefl, false_and, if_false]
  by_cases h : rangeErr (gs.getD 0 0) 0 16 = 0
  · rw [h]; simp [firstOf]
  · rw [fo_consN h]
theorem g2_split (gs : List Int) : guardErr2 gs = if eltG gs 0 = 0 then ascErr gs 0 16 else eltG gs 0 := by
  rw [eltG_zero]
  unfold guardErr2
  rw [fo_two]
  have h1 : firstOf [ascErr gs 0 16] = ascErr gs 0 16 := by
    by_cases h : ascErr gs 0 16 = 0
    · rw [h]; simp [firstOf]
    · rw [fo_consN h]
  rw [h1]
theorem elt_asc {gs : List Int} {k : Nat} (h : ∀ j, j < k → eltG gs j = 0) : ∀ j, j < k → ascAt gs 0 16 j = 0 := by
  intro j hj
  rcases Nat.eq_zero_or_pos j with rfl | h0
  · rw [asc0]
    have := h 0 hj
    rw [eltG_zero, firstOf_eq_zero] at this
    exact this _ (by simp)
  · rw [← eltG_pos h0]; exact h j hj
theorem g2_at {gs : List Int} {k : Nat} (h : ∀ j, j < k → eltG gs j = 0) (hk : k < gs.length) (hn : eltG gs k ≠ 0) : guardErr2 gs = eltG gs k := by
  rw [g2_split]
  rcases Nat.eq_zero_or_pos k with rfl | h0
  · rw [if_neg hn]
  · rw [if_pos (h 0 h0)]
    have e := asc_get gs 0 16 hk
    unfold ascErr
    rw [firstOf_take (k := k) (fun j hj => by rw [asc_get gs 0 16 (by omega)]; exact elt_asc h j hj) (by simpa using hk) (by rw [e, ← eltG_pos h0]; exact hn), e, eltG_pos h0]
theorem g2_zero {gs : List Int} (h : ∀ j, j < gs.length → eltG gs j = 0) (h0 : 0 < gs.length) : guardErr2 gs = 0 := by
  rw [g2_split, if_pos (h 0 h0)]
  exact firstOf_zero (fun j hj => by
    have hj' : j < gs.length := by simpa using hj
    rw [asc_get gs 0 16 hj']; exact elt_asc h j hj')
/-- the error, from the first number that is not yet known to be right. -/
def G1 (gs : List Int) (l : List Int) : Int := if firstOf l = 0 then guardErr2 gs else firstOf l
theorem G1_cons0 (gs l : List Int) : G1 gs (0 :: l) = G1 gs l := by unfold G1; rw [fo_cons0]
theorem G1_consN (gs l : List Int) {a : Int} (h : a ≠ 0) : G1 gs (a :: l) = a := by unfold G1; rw [fo_consN h, if_neg h]
theorem G1_two0 (gs l : List Int) {a b : Int} (h : firstOf [a, b] = 0) : G1 gs (a :: b :: l) = G1 gs l := by unfold G1; rw [fo_two, if_pos h]
theorem G1_twoN (gs l : List Int) {a b : Int} (h : firstOf [a, b] ≠ 0) : G1 gs (a :: b :: l) = firstOf [a, b] := by unfold G1; rw [fo_two, if_neg h, if_neg h]
theorem G1_nil (gs : List Int) : G1 gs [] = guardErr2 gs := by simp [G1, firstOf]
theorem some0 {n : Nat} (h : n = 0) (m : Int) : someErr (n : Int) m = 12 := by simp [someErr, firstOf, h]
theorem some5 {n : Nat} (h : 8 < n) : someErr (n : Int) 8 = 5 := by
  have h1 : ¬ ((n : Int) = 0) := by omega
  have h2 : (8 : Int) < (n : Int) := by omega
  simp only [someErr, if_neg h1, if_pos h2]
  simp [firstOf]
theorem someOk {n : Nat} (h : 0 < n) (h2 : n ≤ 8) : someErr (n : Int) 8 = 0 := by
  have h1 : ¬ ((n : Int) = 0) := by omega
  have h3 : ¬ (8 : Int) < (n : Int) := by omega
  simp only [someErr, if_neg h1, if_neg h3]
  simp [firstOf]
theorem someErr_zero {n : Nat} (h : someErr (n : Int) 8 = 0) : 1 ≤ n ∧ n ≤ 8 := by
  rcases Nat.eq_zero_or_pos n with h0 | h0
  · rw [some0 h0] at h; simp at h
  · rcases Nat.lt_or_ge 8 n with h1 | h1
    · rw [some5 h1] at h; simp at h
    · exact ⟨h0, h1⟩
theorem guard_valid {lk ht rc : Int} {ts gs : List Int} (h : guardErr lk ht rc ts gs = 0) : Valid lk ht rc ts gs := by
  unfold guardErr at h
  split at h
  · rename_i h1
    have h1 := firstOf_eq_zero.1 h1
    have h2 := firstOf_eq_zero.1 h
    have k1 := rangeErr_zero.1 (h1 (rangeErr lk 1 8) (by simp))
    have k2 := rangeErr_zero.1 (h1 (rangeErr ht 0 536870912) (by simp))
    have k3 := someErr_zero (h1 (someErr ts.length 8) (by simp))
    have k4 := eachErr_zero.1 (h1 (eachErr ts (-64) 64) (by simp))
    have k5 := rangeErr_zero.1 (h1 (rangeErr rc 0 1048576) (by simp))
    have k6 := someErr_zero (h1 (someErr gs.length 8) (by simp))
    have k7 := h2 (if gs.getD 0 0 ≠ 0 then 11 else 0) (by simp)
    have k8 := firstOf_eq_zero.1 (h2 (ascErr gs 0 16) (by simp))
    refine ⟨k1, k2, k5, k3, k4, k6, fun k => ?_, ?_⟩
    · rcases Nat.lt_or_ge k gs.length with hk | hk
      · have h3 := k8 (ascAt gs 0 16 k) (List.mem_map.2 ⟨k, by simpa using hk, rfl⟩)
        have h4 := firstOf_eq_zero.1 h3
        exact rangeErr_zero.1 (h4 _ (List.mem_cons_self ..))
      · rw [List.getD_eq_getElem?_getD, List.getElem?_eq_none hk]; simp
    · by_cases hg : gs.getD 0 0 = 0
      · exact hg
      · rw [if_pos hg] at k7; simp at k7
  · rename_i h1
    exact absurd h h1
end Go.Proofs.YtdeapbihbhoefaaDoor

/- Contracts of energy, Energy and slices.Clone. -/
namespace Go.Proofs.YtdeapbihbhoefaaDoor
open Go.RowKit
open Calm (bcell Blk)

/-- the energy of the first numbers of a list. -/
def enK (l : List Int) : Nat → Int
  | 0 => 0
  | k + 1 => enK l k + l.getD k 0 * l.getD k 0
/-- the energy of a list. -/
def enF (l : List Int) : Int := enK l l.length
theorem enK_bd {l : List Int} (h : inB 2048 l) : ∀ k : Nat, 0 ≤ enK l k ∧ enK l k ≤ 4194304 * (k : Int)
  | 0 => by simp [enK]
  | k + 1 => by
    have h1 := enK_bd h k
    have h2 := sq_bd (inB_get h (by omega) k)
    simp only [enK]
    omega
set_option maxHeartbeats 1000000 in
set_option maxRecDepth 100000 in
theorem energy_any (l : List Int) (A : Option Addr) (c : Nat) (w : World) (hC : Cells w A l) (hb : inB 2048 l) (hn : l.length ≤ 5000) :
    Calls Tryd.prog 96 #[.slice A l.length c] w fun r w' => r = .returned (.int .i64 (enF l)) ∧ w = w' := by
  have HC := Lib.hid hC
  have HB := Lib.hid (enK_bd hb)
  have HG := Lib.hid (fun k => inB_get hb (by omega) k)
  obtain ⟨N, hN⟩ : ∃ N, N = l.length := ⟨_, rfl⟩
  have HN := Lib.hid hN
  have HE : enF l = enK l N := by rw [hN]; rfl
  rw [HE, ← hN]
  rw [← hN] at hn
  clear hC hb hN HE
  go_enter Tryd.func96, Tryd.ntmps96
  go_wp2
  go_loop [3, 8] (fun s i => ∃ k : Nat, k ≤ N ∧ i = (.int .i64 (k)) ∧ s = (.int .i64 (enK l k))) (fun _ i => N - (intOf i).toNat)
  case atStart => exact ⟨0, Nat.zero_le _, rfl, rfl⟩
  case round =>
    obtain ⟨k, hk, rfl, rfl⟩ := hrel
    by_cases hlt : k < N
    · obtain ⟨b, o, rfl, lb, hc⟩ := HC.out (by rw [← HN.out]; omega)
      have x0 := hc k (by rw [← HN.out]; exact hlt)
      have HX : Hid (enK l (k + 1) = enK l k + l.getD k 0 * l.getD k 0) := Lib.hid rfl
      obtain ⟨d1, d2⟩ := HB.out k
      obtain ⟨d3, d4⟩ := sq_bd (HG.out k)
      obtain ⟨d5, d6⟩ := HG.out k
      obtain ⟨E, hE⟩ : ∃ E, E = enK l k := ⟨_, rfl⟩
      obtain ⟨u, hu⟩ : ∃ u, u = l.getD k 0 := ⟨_, rfl⟩
      rw [← hu] at x0 d3 d4 d5 d6
      rw [← hE, ← hu] at HX
      rw [← hE] at d1 d2
      rw [← hE]
      clear hc hE hu
      go_wp2
      go_round
      case rel => exact ⟨k + 1, by omega, by go_num, by rw [HX.out]⟩
      case measure => simp [intOf]; omega
    · obtain rfl : k = N := by omega
      go_wp2
      go_ret
      exact ⟨rfl, rfl⟩

/-- Energy of a signal with its error. -/
theorem Energy_any (l : List Int) (A : Option Addr) (c : Nat) (w : World) (hC : Cells w A l) (hn : l.length ≤ 5000) (hb : sigErr l = 0 → inB 2048 l) :
    Calls Tryd.prog 56 #[.slice A l.length c] w fun r w' => r = .returned (.tuple #[(.int .i64 (if sigErr l = 0 then enF l else 0)), (.int .i64 (sigErr l))]) ∧ Below w.heap.size w w' := by
  have HS : Hid (∀ W, Cells W A l → Calls Tryd.prog 95 #[.slice A l.length c] W fun r w' => r = .returned (.int .i64 (sigErr l)) ∧ Below W.heap.size W w') := Lib.hid (fun W q => checkSignal_any l A c W q hn)
  have HE : Hid (∀ W, Cells W A l → inB 2048 l → Calls Tryd.prog 96 #[.slice A l.length c] W fun r w' => r = .returned (.int .i64 (enF l)) ∧ W = w') := Lib.hid (fun W q q2 => energy_any l A c W q q2 hn)
  have HC := Lib.hid hC
  have HB := Lib.hid hb
  obtain ⟨N, hN⟩ : ∃ N, N = l.length := ⟨_, rfl⟩
  obtain ⟨E, hE⟩ : ∃ E, E = sigErr l := ⟨_, rfl⟩
  obtain ⟨F, hF⟩ : ∃ F, F = enF l := ⟨_, rfl⟩
  rw [← hN] at HS HE ⊢
  rw [← hE] at HS HB ⊢
  rw [← hF] at HE ⊢
  clear hN hE hF hC hb hn
  by_cases h0 : E = 0
  · subst h0
    rw [if_pos rfl]
    go_enter Tryd.func56, Tryd.ntmps56
    go_wp2_with (first | (go_at_call 95; refine (HS.out _ HC.out).mono ?_; rintro r w1 ⟨rfl, hb1⟩) | (go_at_call 96; refine (HE.out _ (HC.out.below hb1) (HB.out trivial)).mono ?_; rintro r w2 ⟨rfl, rfl⟩))
    exact bodyPost_ret (v := .tuple #[(.int .i64 (F)), (.int .i64 (0))]) (by simp [results, Tryd.results56, go_sem]) rfl ⟨rfl, hb1⟩
  · rw [if_neg h0]
    go_enter Tryd.func56, Tryd.ntmps56
    go_wp2_with (go_at_call 95; refine (HS.out _ HC.out).mono ?_; rintro r w1 ⟨rfl, hb1⟩)
    exact bodyPost_ret (v := .tuple #[(.int .i64 (0)), (.int .i64 (E))]) (by simp [results, Tryd.results56, go_sem]) rfl ⟨rfl, hb1⟩

/-- append([]int{}, l...). -/
theorem wpList_appC {w : World} {ops : Array Oper} {rest : List Oper} {o : Oper} {a : Act} {Q : Exit → Act → World → Prop} (hgd : o.guard = none) (s x : Operand)
    (ho : o.op = .call { callee := .builtin .append, args := #[s, x], argTypes := #[22, 22] }) (g n c : Nat) (A : Option Addr) (xs : List Int) (hn : n = xs.length)
    (hs : a.eval s = .slice (some ⟨g, 0, none⟩) 0 0) (hx : a.eval x = .slice A n c) (hg : w.ownsRow g 3 1 (.slice (some ⟨g, 0, none⟩) 0 0) 0 []) (h5 : n ≤ 100000) (hC : Cells w A xs)
    (h : ∀ B d w', Below w.heap.size w w' → w'.ownsRow g 3 1 (.slice B n d) n (xs.map (Value.int .i64)) → wpList Tryd.prog ops Q rest (a.put o.dst (.slice B n d)) w') : wpList Tryd.prog ops Q (o :: rest) a w := by
  obtain ⟨i0, hi, hz0, hz1, hz2⟩ := info_parts Tryd.infoI
  refine wpList_plain hgd fun K hK => ?_
  rcases Nat.eq_zero_or_pos n with h0 | h0
  · subst h0
    obtain rfl : xs = [] := List.eq_nil_of_length_eq_zero hn.symm
    have hrun := Rel.run_append_zero (P := Tryd.prog) w 22 o.type 3 i0 _ Tryd.underlying22 hi hz0 ⟨g, 0, none⟩ A c
    unfold Oper.wp
    simp [execOp, ho, resolve, invoke, builtin, hs, hx, hrun, Result.andThen]
    exact hK _ _ (h (some ⟨g, 0, none⟩) 0 w (Below.refl _ _) hg)
  · obtain ⟨b, off, rfl, hb, hc⟩ := hC (by omega)
    obtain ⟨v', w', hrun, r1, r2⟩ := run_append_arg_grows (P := Tryd.prog) w 22 o.type 3 i0 _ 1 8 Tryd.underlying22 hi hz0 hz1 hz2 rfl (by decide) ⟨g, 0, none⟩ 0 0 [] (by simp) (by simp) ⟨b, off, none⟩ n c (xs.map (Value.int .i64)) (by simp; omega) (fun j v hj => cells_src hc j v hj) (by omega) (by unfold maxLen; omega) (by omega)
    unfold Oper.wp
    simp [execOp, ho, resolve, invoke, builtin, hs, hx, hrun, Result.andThen]
    have r1' : w'.ownsRow w.heap.size 3 1 v' n (xs.map (Value.int .i64)) := by simpa using r1
    obtain ⟨B, d, rfl⟩ := own_slice r1'
    have hlt : g ≤ w.heap.size := by
      rcases hg.2 with ⟨e, _⟩ | ⟨g', cap, cur, e, _, e3, _⟩
      · cases e
      · cases e
        exact Nat.le_of_lt (Array.getElem?_eq_some_iff.1 e3).1
    refine hK _ _ (h B d w' ((Below.refl w.heap.size w).grown r2 (Nat.le_refl _) (fun k hk => by cases hk)) ⟨r1'.1, ?_⟩)
    rcases r1'.2 with h2 | ⟨g', cap, cur, h1, h2, h3⟩
    · exact .inl h2
    · exact .inr ⟨g', cap, cur, h1, Nat.le_trans hlt h2, h3⟩
/-- a slice held against nil. -/
theorem eq_nil_any (A : Option Addr) (n c : Nat) (W : World) : Sem.run Tryd.prog (binOp .eql 22 (.slice A n c) (.slice none 0 0)) W = .ok (.bool A.isNone) W := by
  have h := run_equal_slice_nil (P := Tryd.prog) W 22 3 A n c Tryd.underlying22
  simp only [binOp]
  simp [h, go_sem]
set_option maxHeartbeats 1000000 in
set_option maxRecDepth 100000 in
/-- slices.Clone of a slice of integers: nil of nil, else a copy. -/
theorem clone_any (l : List Int) (A : Option Addr) (n c : Nat) (w : World) (hN : n = l.length) (hC : Cells w A l) (hn : n ≤ 5000) :
    Calls Tryd.prog 105 #[.slice A n c] w fun r w' => (∃ B d, r = .returned (.slice B n d) ∧ w'.ownsRow w.heap.size 3 1 (.slice B n d) n (l.map (Value.int .i64))) ∧ Below w.heap.size w w' := by
  have HC := Lib.hid hC
  have HN := Lib.hid hN
  cases A with
  | none =>
    have h0 : l = [] := by
      rcases Nat.eq_zero_or_pos l.length with h | h
      · exact List.eq_nil_of_length_eq_zero h
      · obtain ⟨b, o, hA, _⟩ := hC h
        cases hA
    subst h0
    obtain rfl : n = 0 := by simpa using hN
    clear hC HC hN HN
    have hnil : ∀ W, Sem.run Tryd.prog (binOp .eql 22 (.slice none 0 c) (.slice none 0 0)) W = .ok (.bool true) W := fun W => eq_nil_any none 0 c W
    go_enter Tryd.func105, Tryd.ntmps105
    go_wp2
    go_ret
    first | exact ⟨⟨none, 0, rfl, World.ownsRow_nil _ _ _ _⟩, Below.refl _ _⟩ | exact ⟨⟨none, ⟨0, rfl⟩, World.ownsRow_nil _ _ _ _⟩, Below.refl _ _⟩
  | some p =>
    clear hC hN
    have hnil : ∀ W, Sem.run Tryd.prog (binOp .eql 22 (.slice (some p) n c) (.slice none 0 0)) W = .ok (.bool false) W := fun W => eq_nil_any (some p) n c W
    go_enter Tryd.func105, Tryd.ntmps105
    go_wp2_with (at_builtin; refine wpList_appC rfl _ _ rfl w.heap.size n c (some p) l HN.out rfl rfl ⟨by simp, .inr ⟨_, 0, #[], rfl, Nat.le_refl _, by show (w.heap.push _)[w.heap.size]? = _; simp, Nat.le_refl _, Nat.zero_le _, by simp, by simp⟩⟩ (by omega) (HC.out.below ((Below.refl _ _).alloc (Nat.le_refl _) _)) ?_)
    intro B d w2 hb2 hc2
    have HB2 := Lib.hid (Below.trans ((Below.refl w.heap.size w).alloc (Nat.le_refl _) (.cells #[] 3)) (hb2.mono (by simp)))
    have HC2 := Lib.hid hc2
    clear hb2 hc2
    go_wp2
    go_ret
    first | exact ⟨⟨B, ⟨d, rfl⟩, HC2.out⟩, HB2.out⟩ | exact ⟨⟨B, d, rfl, HC2.out⟩, HB2.out⟩
end Go.Proofs.YtdeapbihbhoefaaDoor
