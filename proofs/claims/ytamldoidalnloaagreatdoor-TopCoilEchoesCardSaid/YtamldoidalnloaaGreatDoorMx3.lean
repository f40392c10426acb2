/- Part 3 of the texts of the claim: RelL, P9, P12, P16, P17, X1, IterR, X2, Tc7, RelH, Sett, X3, X4, S2, S3, S4, S5, S6, Tc8, Tc9, Tc11. -/
import Derived.Test.YtamldoidalnloaaGreatDoorMx2
import Derived.ChangeKeysEq
import Derived.Laws.Cover3
import Derived.OrdersIn
import Derived.Shelf.Abstract
import Derived.OwnWalkIn
import Derived.TacticsInMore
import Derived.LoopNIn
import Derived.LoopIn
import Derived.RangeFuncBox
import Derived.BigRegion

/- RelH with one limb more: a slot that operations of the head overwrite is as it was for an operation that all of them wait for. Regions whose order is open, where what is known of a value may name the values that its operation waited for (RelG with one limb more). No program. -/
namespace Go.Proofs.YtamldoidalnloaaGreatDoor.RelL
open Go.RowKit
open Rel (dst puts upd puts_agree puts_put Apart apart_of puts_new put_size puts_size puts_other eval_put_same puts_here wanted_of countP_upd left Ln okB sizeB all_listed listed_Ln some_ready ons)

/-- What is known of the value of an operation: the values of all operations, this one's, the world. -/
abbrev DK := (Nat → Value) → Value → World → Prop
/-- .. it names no value but those that the operation waited for. -/
def Loc (o : Oper) (R : DK) : Prop := ∀ x y : Nat → Value, (∀ e ∈ o.after, Region.binds .any e = true → x e.on = y e.on) → ∀ v W, R x v W → R y v W
def GOK (ops : Array Oper) (Γ : List DK) (o : Oper) : Prop :=
  o.guard = none ∨ ∃ g b t, o.guard = some (g, b) ∧ (∃ e ∈ o.after, Region.binds .any e = true ∧ e.on = g) ∧ dst ops g = some t ∧ Γ[g]? = some (fun _ u _ => u = .bool b)
/-- .. and stays known along S. -/
def Stable (S : World → World → Prop) (R : DK) : Prop := ∀ x v W W', R x v W → S W W' → R x v W'

section
variable {P : Program} {ops : Array Oper} {S : World → World → Prop}

/-- What an operation of the head must show: wherever it comes up. -/
def lateB (ops : Array Oper) (n i t : Nat) : Bool := (List.range n).all fun j => (dst ops j != some t) || (match ops[j]? with | some oj => oj.after.toList.any (fun e => Region.binds .any e && e.on == i) | none => false)
def Ob (S : World → World → Prop) (P : Program) (ops : Array Oper) (n : Nat) (w0 : World) (a0 : Act) (i : Nat) (Γ : List DK) (o : Oper) (R : DK) : Prop :=
  ∀ (a : Act) (W : World) (x : Nat → Value), S w0 W → a.tmps.size = a0.tmps.size →
    (∀ e ∈ o.after, Region.binds .any e = true → ∀ t, dst ops e.on = some t → x e.on = a.eval (.tmp t)) →
    (∀ e ∈ o.after, Region.binds .any e = true → ∀ K, Γ[e.on]? = some K → K x (x e.on) W) →
    (∀ t, (∀ j, j < n → dst ops j ≠ some t) → a.eval (.tmp t) = a0.eval (.tmp t)) → (∀ t, lateB ops n i t = true → a.eval (.tmp t) = a0.eval (.tmp t)) →
    ∀ (K : Act → World → Prop) (Q : Exit → Act → World → Prop), (∀ v W', R x v W' → S W W' → K (a.put o.dst v) W') → o.wp P a W K Q


/-- The walk in the order of the text: at each operation something that stays known is chosen. -/
def walk (S : World → World → Prop) (P : Program) (ops : Array Oper) (n : Nat) (w0 : World) (a0 : Act) (T : List DK → Prop) : List DK → List Oper → Prop
  | Γ, [] => T Γ
  | Γ, o :: l => ∃ R, Stable S R ∧ Loc o R ∧ GOK ops Γ o ∧ (dst ops Γ.length = o.dst → Ob S P ops n w0 a0 Γ.length Γ o R) ∧ walk S P ops n w0 a0 T (Γ ++ [R]) l


/-- What holds while the head is on its way. -/
structure Inv (S : World → World → Prop) (ops : Array Oper) (n : Nat) (w0 : World) (a0 : Act) (Γ : List DK) (listed : Array Bool) (a : Act) (W : World) : Prop where
  below : S w0 W
  vals : ∃ x : Nat → Value, a = puts ops x (fun j => listed.getD j false) (List.range n) a0 ∧ ∀ j, j < n → listed.getD j false = true → ∀ K, Γ[j]? = some K → K x (x j) W


/-- The frame with all values of the head. -/
def fill : List Oper → Nat → (Nat → Value) → Act → Act
  | [], _, _, a => a
  | o :: l, k, x, a => fill l (k + 1) x (a.put o.dst (x k))
end

abbrev Ctx := List (Option Tmp × DK)
def dep1 (x : Nat → Value) (j : Nat) : Option (Option Tmp × DK) → Act → World → Prop
  | some (some t, K), a, W => x j = a.eval (.tmp t) ∧ K x (a.eval (.tmp t)) W
  | _, _, _ => True
def deps (x : Nat → Value) (Γ : Ctx) (a : Act) (W : World) : List Nat → Prop
  | [] => True
  | j :: js => dep1 x j Γ[j]? a W ∧ deps x Γ a W js
def facts (x : Nat → Value) (W : World) : Nat → Ctx → Prop
  | _, [] => True
  | k, (_, K) :: l => K x (x k) W ∧ facts x W (k + 1) l
def GOK3 (Γ : Ctx) (o : Oper) : Prop := o.guard = none ∨ ∃ g b t, o.guard = some (g, b) ∧ g ∈ ons o ∧ Γ[g]? = some (some t, fun _ u _ => u = .bool b)
def Ob3 (S : World → World → Prop) (P : Program) (LT : Nat → Nat → Bool) (DS : List Tmp) (w0 : World) (a0 : Act) (Γ : Ctx) (o : Oper) (R : DK) : Prop :=
  ∀ (a : Act) (W : World) (x : Nat → Value), S w0 W → deps x Γ a W (ons o) → (∀ t, t ∉ DS → a.eval (.tmp t) = a0.eval (.tmp t)) → (∀ t, LT Γ.length t = true → a.eval (.tmp t) = a0.eval (.tmp t)) →
    ∀ (K : Act → World → Prop) (Q : Exit → Act → World → Prop), (∀ v W', R x v W' → S W W' → K (a.put o.dst v) W') → o.wp P a W K Q

def walk3 (S : World → World → Prop) (P : Program) (LT : Nat → Nat → Bool) (DS : List Tmp) (w0 : World) (a0 : Act) (T : Ctx → Prop) : Ctx → List Oper → Prop
  | Γ, [] => T Γ
  | Γ, o :: l => ∃ R, Stable S R ∧ Loc o R ∧ GOK3 Γ o ∧ Ob3 S P LT DS w0 a0 Γ o R ∧ walk3 S P LT DS w0 a0 T (Γ ++ [(o.dst, R)]) l
section
variable {S : World → World → Prop} {P : Program} {LT : Nat → Nat → Bool} {DS : List Tmp} {w0 : World} {a0 : Act} {T : Ctx → Prop} {Γ : Ctx} {o : Oper} {rest : List Oper}

end
end Go.Proofs.YtamldoidalnloaaGreatDoor.RelL

/- Several slices of integers, each in a row of its own; two of them grow in one drawn region. No function of the program. -/
namespace Go.Proofs.YtamldoidalnloaaGreatDoor
open Go.RowKit
open Calm (bcell Blk)
def Apt (u v : Value) : Prop := ∀ k, u.ownBlock = some k → v.ownBlock ≠ some k
theorem Apt.symm {u v : Value} (h : Apt u v) : Apt v u := fun k hv hu => h k hu hv
def OwnI (W : World) (base : Nat) (p : Value × List Int) : Prop := W.ownsRow base 3 1 p.1 p.2.length (p.2.map fun z => (.int .i64 z))
/-- slices of integers, no two of them in one row. -/
def Rows (W : World) (base : Nat) (ps : List (Value × List Int)) : Prop := (∀ p ∈ ps, OwnI W base p) ∧ ps.Pairwise (fun p q => Apt p.1 q.1)
namespace RelL
open Rel (ons)
variable {T : Nat → Obj → Prop} {P : Program} {LT : Nat → Nat → Bool} {DS : List Tmp} {w0 : World} {a0 : Act} {U : Ctx → Prop} {Γ : Ctx} {o : Oper} {rest : List Oper}
end RelL
end Go.Proofs.YtamldoidalnloaaGreatDoor

/- Contract of (Guard).run: the outputs for a signal, and the indices of the gains. -/
namespace Go.Proofs.YtamldoidalnloaaGreatDoor
open Go.RowKit
open Calm (bcell Blk)

theorem own_slice {w : World} {base e size n : Nat} {v : Value} {xs : List Value} (h : w.ownsRow base e size v n xs) : ∃ a c, v = .slice a n c := by
  rcases h.2 with ⟨h1, h2⟩ | ⟨g, cap, cur, h1, _⟩
  · exact ⟨none, 0, by rw [h1, h2]⟩
  · exact ⟨_, cap, h1⟩
end Go.Proofs.YtamldoidalnloaaGreatDoor

/- Contracts of checkSignal, checkRun, Run and Levels. -/
namespace Go.Proofs.YtamldoidalnloaaGreatDoor
open Go.RowKit
open Calm (bcell Blk)

end Go.Proofs.YtamldoidalnloaaGreatDoor

/- Contract of Peaks on a valid guard and signal. -/
namespace Go.Proofs.YtamldoidalnloaaGreatDoor
open Go.RowKit
open Calm (bcell Blk)

def mx (x y : Int) : Int := if y > x then y else x
end Go.Proofs.YtamldoidalnloaaGreatDoor

/- Contracts of energy, Energy and slices.Clone. -/
namespace Go.Proofs.YtamldoidalnloaaGreatDoor
open Go.RowKit
open Calm (bcell Blk)

/-- append([]int{}, l...). -/
theorem wpList_appC {w : World} {ops : Array Oper} {rest : List Oper} {o : Oper} {a : Act} {Q : Exit → Act → World → Prop} (hgd : o.guard = none) (s x : Operand)
    (ho : o.op = .call { callee := .builtin .append, args := #[s, x], argTypes := #[44, 44] }) (g n c : Nat) (A : Option Addr) (xs : List Int) (hn : n = xs.length)
    (hs : a.eval s = .slice (some ⟨g, 0, none⟩) 0 0) (hx : a.eval x = .slice A n c) (hg : w.ownsRow g 3 1 (.slice (some ⟨g, 0, none⟩) 0 0) 0 []) (h5 : n ≤ 100000) (hC : Cells w A xs)
    (h : ∀ B d w', Below w.heap.size w w' → w'.ownsRow g 3 1 (.slice B n d) n (xs.map (Value.int .i64)) → wpList Tryz.prog ops Q rest (a.put o.dst (.slice B n d)) w') : wpList Tryz.prog ops Q (o :: rest) a w := by
  obtain ⟨i0, hi, hz0, hz1, hz2⟩ := info_parts Tryz.infoI
  refine wpList_plain hgd fun K hK => ?_
  rcases Nat.eq_zero_or_pos n with h0 | h0
  · subst h0
    obtain rfl : xs = [] := List.eq_nil_of_length_eq_zero hn.symm
    have hrun := Rel.run_append_zero (P := Tryz.prog) w 44 o.type 3 i0 _ Tryz.underlying44 hi hz0 ⟨g, 0, none⟩ A c
    unfold Oper.wp
    simp [execOp, ho, resolve, invoke, builtin, hs, hx, hrun, Result.andThen]
    exact hK _ _ (h (some ⟨g, 0, none⟩) 0 w (Below.refl _ _) hg)
  · obtain ⟨b, off, rfl, hb, hc⟩ := hC (by omega)
    obtain ⟨v', w', hrun, r1, r2⟩ := run_append_arg_grows (P := Tryz.prog) w 44 o.type 3 i0 _ 1 8 Tryz.underlying44 hi hz0 hz1 hz2 rfl (by decide) ⟨g, 0, none⟩ 0 0 [] (by simp) (by simp) ⟨b, off, none⟩ n c (xs.map (Value.int .i64)) (by simp; omega) (fun j v hj => cells_src hc j v hj) (by omega) (by unfold maxLen; omega) (by omega)
    unfold Oper.wp
    simp [execOp, ho, resolve, invoke, builtin, hs, hx, hrun, Result.andThen]
    have r1' : w'.ownsRow w.heap.size 3 1 v' n (xs.map (Value.int .i64)) := by simpa using r1
    obtain ⟨B, d, rfl⟩ := own_slice r1'
    have hlt : g ≤ w.heap.size := by
      rcases hg.2 with ⟨e, _⟩ | ⟨g', cap, cur, e, _, e3, _⟩
      · cases e
      · cases e
        exact Nat.le_of_lt (Array.getElem?_eq_some_iff.1 e3).1
    refine hK _ _ (h B d w' ((Below.refl w.heap.size w).grown r2 (Nat.le_refl _) (fun k hk => by cases hk)) ⟨r1'.1, ?_⟩)
    rcases r1'.2 with h2 | ⟨g', cap, cur, h1, h2, h3⟩
    · exact .inl h2
    · exact .inr ⟨g', cap, cur, h1, Nat.le_trans hlt h2, h3⟩
/-- a slice held against nil. -/
theorem eq_nil_any (A : Option Addr) (n c : Nat) (W : World) : Sem.run Tryz.prog (binOp .eql 44 (.slice A n c) (.slice none 0 0)) W = .ok (.bool A.isNone) W := by
  have h := run_equal_slice_nil (P := Tryz.prog) W 44 3 A n c Tryz.underlying44
  simp only [binOp]
  simp [h, go_sem]
set_option maxHeartbeats 1000000 in
set_option maxRecDepth 100000 in
/-- slices.Clone of a slice of integers: nil of nil, else a copy. -/
theorem clone_any (l : List Int) (A : Option Addr) (n c : Nat) (w : World) (hN : n = l.length) (hC : Cells w A l) (hn : n ≤ 5000) :
    Calls Tryz.prog 64 #[.slice A n c] w fun r w' => (∃ B d, r = .returned (.slice B n d) ∧ w'.ownsRow w.heap.size 3 1 (.slice B n d) n (l.map (Value.int .i64))) ∧ Below w.heap.size w w' := by
  have HC := Lib.hid hC
  have HN := Lib.hid hN
  cases A with
  | none =>
    have h0 : l = [] := by
      rcases Nat.eq_zero_or_pos l.length with h | h
      · exact List.eq_nil_of_length_eq_zero h
      · obtain ⟨b, o, hA, _⟩ := hC h
        cases hA
    subst h0
    obtain rfl : n = 0 := by simpa using hN
    clear hC HC hN HN
    have hnil : ∀ W, Sem.run Tryz.prog (binOp .eql 44 (.slice none 0 c) (.slice none 0 0)) W = .ok (.bool true) W := fun W => eq_nil_any none 0 c W
    go_enter Tryz.func64, Tryz.ntmps64
    go_wp2
    go_ret
    first | exact ⟨⟨none, 0, rfl, World.ownsRow_nil _ _ _ _⟩, Below.refl _ _⟩ | exact ⟨⟨none, ⟨0, rfl⟩, World.ownsRow_nil _ _ _ _⟩, Below.refl _ _⟩
  | some p =>
    clear hC hN
    have hnil : ∀ W, Sem.run Tryz.prog (binOp .eql 44 (.slice (some p) n c) (.slice none 0 0)) W = .ok (.bool false) W := fun W => eq_nil_any (some p) n c W
    go_enter Tryz.func64, Tryz.ntmps64
    go_wp2_with (at_builtin; refine wpList_appC rfl _ _ rfl w.heap.size n c (some p) l HN.out rfl rfl ⟨by simp, .inr ⟨_, 0, #[], rfl, Nat.le_refl _, by show (w.heap.push _)[w.heap.size]? = _; simp, Nat.le_refl _, Nat.zero_le _, by simp, by simp⟩⟩ (by omega) (HC.out.below ((Below.refl _ _).alloc (Nat.le_refl _) _)) ?_)
    intro B d w2 hb2 hc2
    have HB2 := Lib.hid (Below.trans ((Below.refl w.heap.size w).alloc (Nat.le_refl _) (.cells #[] 3)) (hb2.mono (by simp)))
    have HC2 := Lib.hid hc2
    clear hb2 hc2
    go_wp2
    go_ret
    first | exact ⟨⟨B, ⟨d, rfl⟩, HC2.out⟩, HB2.out⟩ | exact ⟨⟨B, d, rfl, HC2.out⟩, HB2.out⟩
end Go.Proofs.YtamldoidalnloaaGreatDoor

/- The law of 'for x, y := range seq' over an iterator that hands out values which stand for elements (their addresses are made on the way); regions with an open order inside a round. -/
namespace Go.Proofs.YtamldoidalnloaaGreatDoor
open Go.RowKit

/-- The contract of an iterator that reads the blocks of C and hands out, for the elements of a list, values that stand for them. -/
def IterR {α : Type} (F : Fence) (n : Nat) (P : Program) (g : Nat) (lb : Array Value) (sz : Nat) (R : α → Array Value → World → Prop) (all : List α) (C : Nat → Prop) (w : World) : Prop :=
  ∀ (l : Nat) (J : List α → World → Prop) (W : World), (∀ k, C k → W.heap[k]? = w.heap[k]?) → (∀ k, C k → k < w.heap.size) → w.heap.size ≤ W.heap.size →
    (∀ pre W1 W2, J pre W1 → Below W1.heap.size W1 W2 → J pre W2) →
    (∀ pre x v W1, J pre W1 → (∀ k, C k → W1.heap[k]? = w.heap[k]?) → (∃ post, all = pre ++ x :: post) → v.size = sz → R x v W1 →
      YieldAt F (n - 1) P l v W1 fun e W' => e = .returned (.bool true) ∧ J (pre ++ [x]) W' ∧ ∀ k, C k → W'.heap[k]? = W1.heap[k]?) →
    J [] W →
    CallsIn F n P g (#[.func (.yield l) #[] #[]] ++ lb) W fun e W' => (∃ v, e = .returned v) ∧ J all W'

/-- the blocks that a round must leave alone: the two of the loop, from B on, and those of C. -/
def roundR (C : Nat → Prop) (B : Nat) (k : Nat) : Prop := C k ∨ k = B ∨ k = B + 1

theorem range_iterR {F : Fence} {n : Nat} {P : Program} {α : Type} {g : Operand} {ps : Array Tmp} {assign body : Code} {Q : Exit → Act → World → Prop} {a : Act} {w : World}
    (hro : F.round = none) (h1 : 1 ≤ n) {gf : Nat} {lb : Array Value} (hg : a.eval g = .func (.func gf) #[] lb) (hFg : F.fn gf) (eg : ∀ args w, (callFunc gf args).run P w = .ok (.enter gf args) w)
    {R : α → Array Value → World → Prop} {all : List α} {C : Nat → Prop} (hC : ∀ k, C k → k < w.heap.size) (hseq : IterR F (n - 1) P gf lb ps.size R all C w)
    (I : List α → World → Prop) (hI : OwnFrom w.heap.size I) (h0 : I [] w)
    (Ax : List α → α → Act → World → Prop) (hAx : ∀ pre x a', OwnFrom w.heap.size (fun (_ : Unit) W => Ax pre x a' W))
    (hassign : ∀ (l : Nat) (pre : List α) (x : α) (v : Array Value) (W : World), I pre W → (∃ post, all = pre ++ x :: post) → w.heap.size + 1 < W.heap.size → (∀ k, C k → W.heap[k]? = w.heap[k]?) → v.size = ps.size → R x v W →
      assign.wpIn (F.inRound l) (n - 1 - 1) P (Exit.then (fun a' W' => Same (roundR C w.heap.size) W W' ∧ Ax pre x a' W') (fun _ _ _ => False)) { tmps := (ps.zip v).foldl (fun t (p, v) => t.setIfInBounds p v) a.tmps, defers := [] } W)
    (hbody : ∀ (l : Nat) (pre : List α) (x : α) (a' : Act) (W : World), Ax pre x a' W → (∃ post, all = pre ++ x :: post) → w.heap.size + 1 < W.heap.size → (∀ k, C k → W.heap[k]? = w.heap[k]?) →
      body.wpIn (F.inRound l) (n - 1 - 1) P (iterPost (roundR C w.heap.size) W (I (pre ++ [x]))) a' W)
    (hdone : ∀ (W : World), I all W → W.heap[w.heap.size]? = some (.deferred (some [])) → Q .normal { a with defers := { target := .collected w.heap.size, args := #[] } :: a.defers } W) :
    (Code.rangeFunc g ps assign body).wpIn F n P Q a w := by
  refine wpIn_rangeFunc ?_
  intro fn hfn
  rw [hro]
  obtain ⟨rec, hrec⟩ : ∃ rec : LoopState → Option Code → Loop, rec = fun st pe => { state := st, pending := pe, fn, tmps := a.tmps, params := ps, assign, body, defers := w.heap.size } := ⟨_, rfl⟩
  obtain ⟨W1, hW1⟩ : ∃ W1, (w.alloc (.deferred (some []))).alloc (.loop (rec .ready none)) = W1 := ⟨_, rfl⟩
  have hL1 : W1.heap[w.heap.size + 1]? = some (.loop (rec .ready none)) := by
    rw [← hW1]; have := World.alloc_heap_new (w.alloc (.deferred (some []))) (.loop (rec .ready none)); rwa [World.size_alloc] at this
  have hK1 : W1.heap[w.heap.size]? = some (.deferred (some [])) := by
    rw [← hW1]; exact (Below.heap_alloc _ _ _ (by simp)).trans (World.alloc_heap_new w _)
  have hI1 : I [] W1 := by rw [← hW1]; exact hI.alloc _ (hI.alloc _ h0)
  have hC1 : ∀ k, C k → W1.heap[k]? = w.heap[k]? := fun k hk => by
    have := hC k hk
    rw [← hW1, Below.heap_alloc _ _ _ (by simp; omega), Below.heap_alloc _ _ _ this]
  have hs1 : W1.heap.size = w.heap.size + 2 := by rw [← hW1]; simp
  refine ⟨w.heap.size + 1, [{ target := .collected w.heap.size, args := #[] }], W1, { target := .fn (.func gf) lb, args := #[.func (.yield (w.heap.size + 1)) #[] #[]] }, W1, gf,
    #[.func (.yield (w.heap.size + 1)) #[] #[]] ++ lb, W1, ?_, ?_, ?_, ?_, fun _ => h1, ?_⟩
  · rw [← hW1, hrec]; exact run_enterLoop_outer _ _ _ _ _
  · simp only [resolve, hg]
    simp [go_sem]
  · intro f' hf'; simp [Target.leads] at hf'; subst hf'; exact hFg
  · simp [invoke, go_sem, eg]
  · refine (hseq (w.heap.size + 1)
      (fun pre W => I pre W ∧ W.heap[w.heap.size + 1]? = some (.loop (rec .ready none)) ∧ W.heap[w.heap.size]? = some (.deferred (some [])))
      W1 hC1 hC (by omega)
      (fun pre A B hs hb => ⟨hI pre A B none hs.1 ⟨hb.os, hb.tape, hb.output, hb.size, fun k hk _ => hb.block k hk⟩ (by simp), (hb.block _ (Array.getElem?_eq_some_iff.1 hs.2.1).1).trans hs.2.1, (hb.block _ (Array.getElem?_eq_some_iff.1 hs.2.2).1).trans hs.2.2⟩)
      ?_ ⟨hI1, hL1, hK1⟩).mono ?_
    · -- ONE ROUND
      rintro pre x v W ⟨hi, hl, hk⟩ hcb hpost hvs hR
      have hlt : w.heap.size + 1 < W.heap.size := (Array.getElem?_eq_some_iff.1 hl).1
      have hy := run_yield (P := P) (args := v) hl (by rw [hrec]; simp [hvs])
      rw [hrec] at hy
      refine ⟨fn, _, assign, body, hy, roundIn_of_wpIn hfn (wpIn_mono (hassign _ pre x v W hi hpost hlt hcb hvs hR) ?_)⟩
      clear hy
      rintro e a' Wa hq
      cases e with
      | normal =>
        obtain ⟨hS, hax⟩ := hq
        have hl' := hS _ _ (.inr (.inr rfl)) hl
        have hk' := hS _ _ (.inr (.inl rfl)) hk
        have hsz' : w.heap.size + 1 < Wa.heap.size := (Array.getElem?_eq_some_iff.1 hl').1
        have hcb' : ∀ k, C k → Wa.heap[k]? = w.heap[k]? := fun k hk => (hS.eq (.inl hk) (by have := hC k hk; omega)).trans (hcb k hk)
        refine ⟨_, run_beginRound hl' (by rw [hrec]), ?_⟩
        obtain ⟨Wb, hWb⟩ : ∃ Wb, Wa.putObj (w.heap.size + 1) (.loop { rec .ready none with state := .busy }) = Wb := ⟨_, rfl⟩
        have hl2 : Wb.heap[w.heap.size + 1]? = some (.loop { rec .ready none with state := .busy }) := by rw [← hWb]; exact World.putObj_heap_same (by omega)
        have hk2 : Wb.heap[w.heap.size]? = some (.deferred (some [])) := by rw [← hWb]; exact (World.putObj_heap_other (by omega)).trans hk'
        have hcb2 : ∀ k, C k → Wb.heap[k]? = w.heap[k]? := fun k hk => by have := hC k hk; rw [← hWb]; exact (World.putObj_heap_other (by omega)).trans (hcb' k hk)
        have hsz2 : w.heap.size + 1 < Wb.heap.size := by rw [← hWb]; simpa using hsz'
        have hax2 : Ax pre x a' Wb := by rw [← hWb]; exact (hAx pre x a').putObj (s := ()) _ hax (by omega) hl' rfl
        show body.wpIn _ _ _ _ _ (Wa.putObj (w.heap.size + 1) (.loop { rec .ready none with state := .busy }))
        rw [hWb]
        refine wpIn_mono (hbody _ pre x a' Wb hax2 hpost hsz2 hcb2) ?_
        rintro e a3 W3 hp
        cases e with
        | normal =>
          obtain ⟨hS3, hi3⟩ := hp
          have hl3 := hS3 _ _ (.inr (.inr rfl)) hl2
          have hk3 := hS3 _ _ (.inr (.inl rfl)) hk2
          have hr := run_endRound (P := P) none hl3
          have hC3 : ∀ k, C k → W3.heap[k]? = W.heap[k]? := fun k hk => ((hS3.eq (.inl hk) (by have := hC k hk; omega)).trans (hcb2 k hk)).trans (hcb k hk).symm
          rw [hrec] at hr
          refine ⟨_, _, hr, rfl, ⟨hI.putObj _ hi3 (by omega) hl3 rfl, ?_, ?_⟩, ?_⟩
          · rw [hrec]; exact World.putObj_heap_same (Array.getElem?_eq_some_iff.1 hl3).1
          · exact (World.putObj_heap_other (by omega)).trans hk3
          · exact fun k hk => (World.putObj_heap_other (by have := hC k hk; omega)).trans (hC3 k hk)
        | exit id => exact hp.elim
        | goto t => exact hp.elim
        | ret => exact hp.elim
        | panic ch => exact hp.elim
        | outgrown => exact hp.elim
      | exit id => exact hq.elim
      | goto t => exact hq.elim
      | ret => exact hq.elim
      | panic ch => exact hq.elim
      | outgrown => exact hq.elim
    · -- BEHIND THE ITERATOR
      rintro e W2 ⟨⟨v, rfl⟩, hi, hl, hk⟩
      exact ⟨none, _, by have := run_endLoop (P := P) hl (by rw [hrec]; simp); rw [hrec] at this; exact this, hdone _ (hI.putObj _ hi (by omega) hl rfl) ((World.putObj_heap_other (by omega)).trans hk)⟩

/-! ### Regions with an open order, in a round's frame -/

end Go.Proofs.YtamldoidalnloaaGreatDoor

/- (Guard).kept and the iterator that it hands out: the levels behind which a state keeps all conditions, with this state. -/
namespace Go.Proofs.YtamldoidalnloaaGreatDoor
open Go.RowKit
open Calm (bcell Blk)

/-- all that lies below a size, but one block. -/
def Rest (sb B : Nat) (k : Nat) : Prop := k < B ∧ k ≠ sb
/-- a slice that does not lie in a block. -/
def Off (sb : Nat) (A : Option Addr) : Prop := ∀ p, A = some p → p.block ≠ sb
theorem Cells.rest {w w' : World} {A : Option Addr} {zs : List Int} {sb : Nat} (h : Cells w A zs) (ho : Off sb A) (hW : ∀ k, Rest sb w.heap.size k → w'.heap[k]? = w.heap[k]?) : Cells w' A zs := by
  intro h0
  obtain ⟨b, off, rfl, hl, hc⟩ := h h0
  have e := hW b ⟨hl, ho _ rfl⟩
  refine ⟨b, off, rfl, ?_, fun k hk => (World.cell?_of_block (w := w) (a := ⟨b, off + k, none⟩) e).trans (hc k hk)⟩
  rw [Array.getElem?_eq_getElem hl] at e
  exact (Array.getElem?_eq_some_iff.1 e).1
end Go.Proofs.YtamldoidalnloaaGreatDoor

/- The answers to both sequences of a pair, as an iterator. -/
namespace Go.Proofs.YtamldoidalnloaaGreatDoor
open Go.RowKit
open Calm (bcell Blk)
theorem Cells.rest' {w w' : World} {A : Option Addr} {zs : List Int} {sb : Nat} (h : Cells w A zs) (ho : 0 < zs.length → Off sb A) (hW : ∀ k, Rest sb w.heap.size k → w'.heap[k]? = w.heap[k]?) : Cells w' A zs := fun h0 => (h.rest (ho h0) hW) h0
theorem Cells.off {w : World} {A : Option Addr} {zs : List Int} {sb : Nat} (h : Cells w A zs) (hs : w.heap.size ≤ sb) : 0 < zs.length → Off sb A := fun h0 p hp => by
  obtain ⟨b, o, rfl, hl, _⟩ := h h0
  cases hp
  exact Nat.ne_of_lt (Nat.lt_of_lt_of_le hl hs)
end Go.Proofs.YtamldoidalnloaaGreatDoor

/- Regions whose order is open, the world turning along any relation S, where what is known of a value may name the values that its operation waited for (RelG with one limb more). No program. -/
namespace Go.Proofs.YtamldoidalnloaaGreatDoor.RelH
open Go.RowKit
open Rel (dst puts upd puts_agree puts_put Apart apart_of puts_new put_size puts_size puts_other eval_put_same puts_here wanted_of countP_upd left Ln okB sizeB all_listed listed_Ln some_ready ons)

/-- What is known of the value of an operation: the values of all operations, this one's, the world. -/
abbrev DK := (Nat → Value) → Value → World → Prop
/-- .. it names no value but those that the operation waited for. -/
def Loc (o : Oper) (R : DK) : Prop := ∀ x y : Nat → Value, (∀ e ∈ o.after, Region.binds .any e = true → x e.on = y e.on) → ∀ v W, R x v W → R y v W
def GOK (ops : Array Oper) (Γ : List DK) (o : Oper) : Prop :=
  o.guard = none ∨ ∃ g b t, o.guard = some (g, b) ∧ (∃ e ∈ o.after, Region.binds .any e = true ∧ e.on = g) ∧ dst ops g = some t ∧ Γ[g]? = some (fun _ u _ => u = .bool b)
theorem GOK.mono {ops : Array Oper} {Γ Δ : List DK} {o : Oper} (h : GOK ops Γ o) (hsub : ∀ (g : Nat) (K : DK), Γ[g]? = some K → Δ[g]? = some K) : GOK ops Δ o := by
  rcases h with h | ⟨g, b, t, h1, h2, h3, h4⟩
  · exact .inl h
  · exact .inr ⟨g, b, t, h1, h2, h3, hsub _ _ h4⟩

/-- .. and stays known along S. -/
def Stable (S : World → World → Prop) (R : DK) : Prop := ∀ x v W W', R x v W → S W W' → R x v W'

section
variable {P : Program} {ops : Array Oper} {S : World → World → Prop}

/-- What an operation of the head must show: wherever it comes up. -/
def Ob (S : World → World → Prop) (P : Program) (ops : Array Oper) (n : Nat) (w0 : World) (a0 : Act) (Γ : List DK) (o : Oper) (R : DK) : Prop :=
  ∀ (a : Act) (W : World) (x : Nat → Value), S w0 W → a.tmps.size = a0.tmps.size →
    (∀ e ∈ o.after, Region.binds .any e = true → ∀ t, dst ops e.on = some t → x e.on = a.eval (.tmp t)) →
    (∀ e ∈ o.after, Region.binds .any e = true → ∀ K, Γ[e.on]? = some K → K x (x e.on) W) →
    (∀ t, (∀ j, j < n → dst ops j ≠ some t) → a.eval (.tmp t) = a0.eval (.tmp t)) →
    ∀ (K : Act → World → Prop) (Q : Exit → Act → World → Prop), (∀ v W', R x v W' → S W W' → K (a.put o.dst v) W') → o.wp P a W K Q


/-- The walk in the order of the text: at each operation something that stays known is chosen. -/
def walk (S : World → World → Prop) (P : Program) (ops : Array Oper) (n : Nat) (w0 : World) (a0 : Act) (T : List DK → Prop) : List DK → List Oper → Prop
  | Γ, [] => T Γ
  | Γ, o :: l => ∃ R, Stable S R ∧ Loc o R ∧ GOK ops Γ o ∧ (dst ops Γ.length = o.dst → Ob S P ops n w0 a0 Γ o R) ∧ walk S P ops n w0 a0 T (Γ ++ [R]) l


theorem walk_all {n : Nat} {w0 : World} {a0 : Act} {T : List DK → Prop} : ∀ (l : List Oper) (Γ : List DK), walk S P ops n w0 a0 T Γ l →
    ∃ Δ : List DK, Δ.length = l.length ∧ T (Γ ++ Δ) ∧ ∀ k o, l[k]? = some o → ∃ R, Δ[k]? = some R ∧ Stable S R ∧ Loc o R ∧ GOK ops (Γ ++ Δ.take k) o ∧ (dst ops (Γ.length + k) = o.dst → Ob S P ops n w0 a0 (Γ ++ Δ.take k) o R)
  | [], Γ, h => ⟨[], rfl, by simpa [walk] using h, fun k o hk => by simp at hk⟩
  | o :: l, Γ, h => by
    obtain ⟨R, hs, hlc, hg, hob, hw⟩ := h
    obtain ⟨Δ, hl, hT, hall⟩ := walk_all l _ hw
    refine ⟨R :: Δ, by simp [hl], by simpa using hT, fun k o' hk => ?_⟩
    cases k with
    | zero =>
      obtain rfl : o = o' := by simpa using hk
      exact ⟨R, rfl, hs, hlc, by simpa using hg, by simpa using hob⟩
    | succ k =>
      obtain ⟨R', h1, h2, h2', h3, h4⟩ := hall k o' (by simpa using hk)
      refine ⟨R', by simpa using h1, h2, h2', by simpa using h3, fun hd => ?_⟩
      have := h4 (by rw [← hd]; congr 1; simp; omega)
      simpa using this

theorem Ob.mono {n : Nat} {w0 : World} {a0 : Act} {Γ Δ : List DK} {o : Oper} {R : DK} (h : Ob S P ops n w0 a0 Γ o R) (hsub : ∀ e ∈ o.after, ∀ K, Γ[e.on]? = some K → Δ[e.on]? = some K) : Ob S P ops n w0 a0 Δ o R :=
  fun a W x hb hz hx hd hbase K Q hK => h a W x hb hz hx (fun e he hbd K' hK' => hd e he hbd K' (hsub e he K' hK')) hbase K Q hK

/-- What holds while the head is on its way. -/
structure Inv (S : World → World → Prop) (ops : Array Oper) (n : Nat) (w0 : World) (a0 : Act) (Γ : List DK) (listed : Array Bool) (a : Act) (W : World) : Prop where
  below : S w0 W
  vals : ∃ x : Nat → Value, a = puts ops x (fun j => listed.getD j false) (List.range n) a0 ∧ ∀ j, j < n → listed.getD j false = true → ∀ K, Γ[j]? = some K → K x (x j) W


theorem go (ht' : ∀ a b c, S a b → S b c → S a c) {n : Nat} {Q : Exit → Act → World → Prop} {w0 : World} {a0 : Act} {Γ : List DK} (hok : okB ops n = true) (hsz : sizeB ops n a0.tmps.size = true)
    (hΓ : ∀ k, k < n → ∃ o R, ops[k]? = some o ∧ Γ[k]? = some R ∧ Stable S R ∧ Loc o R ∧ GOK ops Γ o ∧ Ob S P ops n w0 a0 Γ o R)
    (hend : ∀ (x : Nat → Value) (W : World), S w0 W → (∀ j, j < n → ∀ K, Γ[j]? = some K → K x (x j) W) → wpAny P .any ops Q (ops.size - n) (Ln n ops.size) (puts ops x (fun _ => true) (List.range n) a0) W) :
    ∀ (f : Nat) (listed : Array Bool) (a : Act) (W : World), HeadInv .any ops n listed → left n listed = f → Inv S ops n w0 a0 Γ listed a W → wpAny P .any ops Q (f + (ops.size - n)) listed a W := by
  simp only [okB, Bool.and_eq_true, decide_eq_true_eq] at hok
  obtain ⟨⟨⟨⟨⟨hn, hs⟩, hc⟩, _⟩, hap⟩, hback⟩ := hok
  have hap := apart_of hap
  intro f
  induction f with
  | zero =>
    intro listed a W inv hl hI
    obtain ⟨hb, x, rfl, hx⟩ := hI
    have hall := all_listed hl
    rw [Nat.zero_add]
    rw [puts_agree (p' := fun _ => true) (x' := x) (List.range n) a0 (fun j hj => ⟨hall j (List.mem_range.1 hj), fun _ => rfl⟩), listed_Ln inv hl (by omega)]
    exact hend x W hb (fun j hj K hK => hx j hj (hall j hj) K hK)
  | succ f ih =>
    intro listed a W inv hl hI
    have hex : ∃ k, k < n ∧ listed.getD k true = false := by
      apply Classical.byContradiction
      intro hno
      have : left n listed = 0 := List.countP_eq_zero.2 (fun j hj => by
        have hj := List.mem_range.1 hj
        have hjs : j < listed.size := by rw [inv.size]; omega
        cases h : listed.getD j false with
        | true => simp
        | false => exact absurd ⟨j, hj, getD_in hjs h⟩ hno)
      omega
    obtain ⟨k, hk, hun⟩ := hex
    rw [show f + 1 + (ops.size - n) = (f + (ops.size - n)) + 1 by omega]
    refine ⟨fun h0 => ?_, fun i hi => ?_⟩
    · obtain ⟨i, hi⟩ := some_ready inv hback hn (k + 1) k (by omega) hk hun
      rw [h0] at hi
      cases hi
    have hin : i < n := by
      rcases Nat.lt_or_ge i n with h | h
      · exact h
      · exact absurd hi (tail_waits hs hc hn inv _ k rfl hk hun i h)
    obtain ⟨hiun, oi, hoi, hdeps⟩ := mem_ready.1 hi
    obtain ⟨o, R, ho, hR, hst, hlc, hg, hob⟩ := hΓ i hin
    obtain rfl : oi = o := Option.some.inj (hoi.symm.trans ho)
    obtain ⟨hb, x, rfl, hx⟩ := hI
    have hdi : dst ops i = oi.dst := by simp [dst, ho]
    have his : i < listed.size := by rw [inv.size]; omega
    have hif : listed.getD i false = false := getD_both hiun
    have hszt : ∀ j t, j < n → dst ops j = some t → t < a0.tmps.size := fun j t hj hd => by
      have := List.all_eq_true.1 hsz j (List.mem_range.2 hj)
      simpa [hd] using this
    have back : ∀ e ∈ oi.after, Region.binds .any e = true → e.on < i := fun e he hbd => by
      have h1 := List.all_eq_true.1 hback i (List.mem_range.2 (by omega))
      simp only [ho] at h1
      simpa [hbd] using Array.all_eq_true'.1 h1 e he
    unfold wpOp
    simp only [ho]
    have hwant : Region.wanted oi (yielded ops (puts ops x (fun j => listed.getD j false) (List.range n) a0).tmps) = true := by
      rcases hg with hg | ⟨g, b, t, hg, ⟨e, he, hbd, rfl⟩, hd, hK⟩
      · simp [Region.wanted, hg]
      · have hel := hdeps e he hbd
        have hen : e.on < n := by have := back e he hbd; omega
        have h1 := puts_here (x := x) (p := fun j => listed.getD j false) hap hen hel hd (List.range n) a0 (List.nodup_range) (List.mem_range.2 hen) (fun j hj => List.mem_range.1 hj) (hszt _ _ hen hd)
        have h2 : x e.on = .bool b := hx e.on hen hel _ hK
        have h3 : t < (puts ops x (fun j => listed.getD j false) (List.range n) a0).tmps.size := by rw [puts_size]; exact hszt _ _ hen hd
        rw [h2] at h1
        exact wanted_of hg hd h1 h3
    rw [if_pos hwant]
    refine .inl (hob _ W x hb (puts_size _ _) ?_ ?_ ?_ _ _ ?_)
    · intro e he hbd t ht
      have hel := hdeps e he hbd
      have hen : e.on < n := by have := back e he hbd; omega
      rw [puts_here hap hen hel ht (List.range n) a0 (List.nodup_range) (List.mem_range.2 hen) (fun j hj => List.mem_range.1 hj) (hszt _ _ hen ht)]
    · intro e he hbd K hK
      exact hx e.on (by have := back e he hbd; omega) (hdeps e he hbd) K hK
    · intro t ht
      exact puts_other _ _ (fun j hj => ht j (List.mem_range.1 hj))
    · intro v W' hv hb'
      have hget : ∀ j, (listed.setIfInBounds i true).getD j false = upd (fun j => listed.getD j false) i true j := by
        intro j
        by_cases hji : j = i
        · subst hji
          simp [upd, his]
        · rw [getD_set_ne false (Ne.symm hji)]
          simp [upd, hji]
      refine ih _ _ W' (inv.set hi hin) ?_ ⟨ht' _ _ _ hb hb', upd x i v, ?_, ?_⟩
      · have h1 := countP_upd (i := i) (p := fun j => !listed.getD j false) (by simp [hif]) (List.range n) List.nodup_range (List.mem_range.2 hin)
        have h2 : left n (listed.setIfInBounds i true) = (List.range n).countP (upd (fun j => !listed.getD j false) i false) := by
          unfold left
          congr 1
          funext j
          rw [hget j]
          by_cases hji : j = i <;> simp [upd, hji]
        unfold left at hl
        omega
      · rw [← hdi, puts_new hap hin hif (List.range n) a0 List.nodup_range (List.mem_range.2 hin) (fun j hj => List.mem_range.1 hj)]
        exact puts_agree _ _ (fun j _ => ⟨(hget j).symm, fun _ => rfl⟩)
      · intro j hj hlj K hK
        rw [hget j] at hlj
        by_cases hji : j = i
        · subst hji
          obtain rfl : R = K := Option.some.inj (hR.symm.trans hK)
          have h1 : R (upd x j v) v W' := hlc x (upd x j v) (fun e he hbd => by
            have := back e he hbd
            simp [upd, show e.on ≠ j by omega]) v W' hv
          simpa [upd] using h1
        · have e1 : upd x i v j = x j := by simp [upd, hji]
          have e2 : listed.getD j false = true := by simpa [upd, hji] using hlj
          rw [e1]
          obtain ⟨oj, R', hoj', hR', hst', hlc', _⟩ := hΓ j hj
          obtain rfl : R' = K := Option.some.inj (hR'.symm.trans hK)
          refine hlc' x (upd x i v) (fun e he hbd => ?_) _ _ (hst' _ _ _ _ (hx j hj e2 _ hK) hb')
          have h1 := inv.closed j oj hoj' e2 e he hbd
          have h2 : e.on ≠ i := fun h => by rw [h, hif] at h1; cases h1
          simp [upd, h2]

/-- The frame with all values of the head. -/
def fill : List Oper → Nat → (Nat → Value) → Act → Act
  | [], _, _, a => a
  | o :: l, k, x, a => fill l (k + 1) x (a.put o.dst (x k))
theorem fill_puts {x : Nat → Value} : ∀ (l : List Oper) (k : Nat) (a : Act), (∀ j, j < l.length → l[j]? = ops[k + j]?) → fill l k x a = puts ops x (fun _ => true) (List.range' k l.length) a
  | [], _, _, _ => rfl
  | o :: l, k, a, h => by
    have h0 : ops[k]? = some o := by simpa using (h 0 (by simp)).symm
    have hd : dst ops k = o.dst := by simp [dst, h0]
    simp only [fill, List.length_cons, List.range'_succ, puts, if_true, hd]
    exact fill_puts l (k + 1) _ (fun j hj => by have := h (j + 1) (by simp; omega); simpa [Nat.add_assoc, Nat.add_comm 1 j] using this)

/-- ████ The region. -/
theorem region_w (ht' : ∀ a b c, S a b → S b c → S a c) (hdr : ∀ W, S W { W with drawn := W.drawn + 1 }) {Q : Exit → Act → World → Prop} {a : Act} {w : World} {l : List Oper} (n : Nat) (hok : okB l.toArray n = true) (hsz : sizeB l.toArray n a.tmps.size = true)
    (h : walk S P l.toArray n w a (fun (Γ : List DK) => ∀ (x : Nat → Value) (W : World), S w W → (∀ (j : Nat) (K : DK), Γ[j]? = some K → K x (x j) W) → wpList P l.toArray Q (l.drop n) (fill (l.take n) 0 x a) W) [] (l.take n)) :
    wpAny P .any l.toArray Q l.toArray.size (Array.replicate l.toArray.size false) a { w with drawn := w.drawn + 1 } := by
  have hok' := hok
  simp only [okB, Bool.and_eq_true, decide_eq_true_eq] at hok'
  obtain ⟨⟨⟨⟨⟨hn, _⟩, _⟩, hseq⟩, _⟩, hback⟩ := hok'
  have hn' : n < l.length := by simpa using hn
  have htl : (l.take n).length = n := by simp; omega
  obtain ⟨Δ, hlen, hT, hall⟩ := walk_all _ _ h
  rw [List.nil_append] at hT
  rw [htl] at hlen
  have hget : ∀ k, k < n → (l.take n)[k]? = l.toArray[k]? := fun k hk => by simp [List.getElem?_take, hk]
  have hΓ : ∀ k, k < n → ∃ o R, l.toArray[k]? = some o ∧ Δ[k]? = some R ∧ Stable S R ∧ Loc o R ∧ GOK l.toArray Δ o ∧ Ob S P l.toArray n w a Δ o R := by
    intro k hk
    obtain ⟨o, ho⟩ : ∃ o, l.toArray[k]? = some o := ⟨_, Array.getElem?_eq_getElem (by simp; omega)⟩
    obtain ⟨R, h1, h2, h2', h3, h4⟩ := hall k o (by rw [hget k hk, ho])
    rw [List.nil_append] at h3
    refine ⟨o, R, ho, h1, h2, h2', h3.mono (fun g K hK => by
      rw [List.getElem?_take] at hK
      split at hK
      · exact hK
      · cases hK), (h4 (by simp only [List.length_nil, Nat.zero_add]; simp [dst, ho])).mono fun e he K hK => ?_⟩
    rw [List.nil_append] at hK
    rw [List.getElem?_take] at hK
    split at hK
    · exact hK
    · cases hK
  have inv0 : HeadInv .any l.toArray n (Array.replicate l.toArray.size false) :=
    ⟨by simp, fun j oj _ hl => (by rw [getD_replicate_false] at hl; cases hl), fun t _ ht => getD_in (by simpa using ht) (getD_replicate_false _ _)⟩
  have hleft : left n (Array.replicate l.toArray.size false) = n := by
    unfold left
    rw [List.countP_eq_length.2 (fun j _ => by rw [getD_replicate_false]; rfl), List.length_range]
  have hputs : ∀ x, puts l.toArray x (fun _ => true) (List.range n) a = fill (l.take n) 0 x a := fun x => by
    rw [fill_puts (ops := l.toArray) (l.take n) 0 a (fun j hj => by rw [htl] at hj; rw [hget j hj, Nat.zero_add]), htl, List.range_eq_range']
  have H := go ht' (P := P) (Q := Q) (w0 := w) (a0 := a) hok hsz hΓ (fun x W hb hx => by
    have hdl : (l.drop n).length = l.toArray.size - n := by simp
    have := wpAny_of_seq (md := .any) (Q' := Q) (ops := l.toArray) (P := P) (l.drop n) n (Ln n l.toArray.size) (fill (l.take n) 0 x a) W (fun j => by simp [List.getElem?_drop]) (by rw [hdl]; exact hseq)
      (hT x W hb (fun j K hK => hx j (by
        have := (List.getElem?_eq_some_iff.1 hK).1
        omega) K hK))
    rw [hputs x, ← hdl]
    exact this) n _ a { w with drawn := w.drawn + 1 } inv0 hleft ⟨hdr w, fun _ => undef, by
      rw [puts_agree (p' := fun _ => false) (x' := fun _ => undef) (List.range n) a (fun j _ => ⟨getD_replicate_false _ _, fun _ => rfl⟩)]
      exact (show ∀ (L : List Nat) (b : Act), b = puts l.toArray (fun _ => undef) (fun _ => false) L b from fun L => by
        induction L with
        | nil => intro b; rfl
        | cons j L ih => intro b; unfold puts; simpa using ih b) _ _, fun j _ hl => by rw [getD_replicate_false] at hl; cases hl⟩
  have e : n + (l.toArray.size - n) = l.toArray.size := by omega
  rw [e] at H
  exact H
end

abbrev Ctx := List (Option Tmp × DK)
def dep1 (x : Nat → Value) (j : Nat) : Option (Option Tmp × DK) → Act → World → Prop
  | some (some t, K), a, W => x j = a.eval (.tmp t) ∧ K x (a.eval (.tmp t)) W
  | _, _, _ => True
def deps (x : Nat → Value) (Γ : Ctx) (a : Act) (W : World) : List Nat → Prop
  | [] => True
  | j :: js => dep1 x j Γ[j]? a W ∧ deps x Γ a W js
theorem deps_of {x : Nat → Value} {Γ : Ctx} {a : Act} {W : World} : ∀ (js : List Nat), (∀ j ∈ js, dep1 x j Γ[j]? a W) → deps x Γ a W js
  | [], _ => trivial
  | j :: js, h => ⟨h j (by simp), deps_of js (fun k hk => h k (by simp [hk]))⟩
def facts (x : Nat → Value) (W : World) : Nat → Ctx → Prop
  | _, [] => True
  | k, (_, K) :: l => K x (x k) W ∧ facts x W (k + 1) l
theorem facts_of {x : Nat → Value} {W : World} : ∀ (l : Ctx) (k : Nat), (∀ (j : Nat) (K : DK), (l.map (·.2))[j]? = some K → K x (x (k + j)) W) → facts x W k l
  | [], _, _ => trivial
  | (d, K) :: l, k, h => ⟨h 0 K rfl, facts_of l (k + 1) (fun j K' hj => by have := h (j + 1) K' (by simpa using hj); rw [show k + 1 + j = k + (j + 1) by omega]; exact this)⟩
def GOK3 (Γ : Ctx) (o : Oper) : Prop := o.guard = none ∨ ∃ g b t, o.guard = some (g, b) ∧ g ∈ ons o ∧ Γ[g]? = some (some t, fun _ u _ => u = .bool b)
theorem gno {Γ : Ctx} {o : Oper} (h : o.guard = none) : GOK3 Γ o := .inl h
def Ob3 (S : World → World → Prop) (P : Program) (DS : List Tmp) (w0 : World) (a0 : Act) (Γ : Ctx) (o : Oper) (R : DK) : Prop :=
  ∀ (a : Act) (W : World) (x : Nat → Value), S w0 W → deps x Γ a W (ons o) → (∀ t, t ∉ DS → a.eval (.tmp t) = a0.eval (.tmp t)) →
    ∀ (K : Act → World → Prop) (Q : Exit → Act → World → Prop), (∀ v W', R x v W' → S W W' → K (a.put o.dst v) W') → o.wp P a W K Q

def walk3 (S : World → World → Prop) (P : Program) (DS : List Tmp) (w0 : World) (a0 : Act) (T : Ctx → Prop) : Ctx → List Oper → Prop
  | Γ, [] => T Γ
  | Γ, o :: l => ∃ R, Stable S R ∧ Loc o R ∧ GOK3 Γ o ∧ Ob3 S P DS w0 a0 Γ o R ∧ walk3 S P DS w0 a0 T (Γ ++ [(o.dst, R)]) l
theorem walk_of_walk3 {S : World → World → Prop} {P : Program} {ops : Array Oper} {n : Nat} {DS : List Tmp} {w0 : World} {a0 : Act} {T : Ctx → Prop} {T' : List DK → Prop} (hDS : ∀ t, t ∉ DS → ∀ j, j < n → dst ops j ≠ some t)
    (hT : ∀ Γ, T Γ → T' (Γ.map (·.2))) :
    ∀ (l : List Oper) (Γ : Ctx), (∀ j, j < l.length → l[j]? = ops[Γ.length + j]?) → (∀ j d R, Γ[j]? = some (d, R) → dst ops j = d) → walk3 S P DS w0 a0 T Γ l → walk S P ops n w0 a0 T' (Γ.map (·.2)) l
  | [], Γ, _, _, h => hT Γ h
  | o :: l, Γ, hl, hΓ, h => by
    obtain ⟨R, hs, hlc, hg, hob, hw⟩ := h
    have h0 : ops[Γ.length]? = some o := by simpa using (hl 0 (by simp)).symm
    have hg' : GOK ops (Γ.map (·.2)) o := by
      rcases hg with hg | ⟨g, b, t, hg, hin, hΓg⟩
      · exact .inl hg
      · obtain ⟨e, he, rfl⟩ := List.mem_map.1 hin
        obtain ⟨he1, he2⟩ := List.mem_filter.1 he
        exact .inr ⟨e.on, b, t, hg, ⟨e, by simpa using he1, he2, rfl⟩, hΓ _ _ _ hΓg, by simp [hΓg]⟩
    refine ⟨R, hs, hlc, hg', fun _ => ?_, ?_⟩
    · intro a W x hb hz hx hd hbase K Q hK
      refine hob a W x hb (deps_of _ fun j hj => ?_) (fun t ht => hbase t (fun j hj => hDS t ht j hj)) K Q hK
      obtain ⟨e, he, rfl⟩ := List.mem_map.1 hj
      obtain ⟨he1, he2⟩ := List.mem_filter.1 he
      have he' : e ∈ o.after := by simpa using he1
      cases hc : Γ[e.on]? with
      | none => trivial
      | some c =>
        obtain ⟨d, K'⟩ := c
        cases d with
        | none => trivial
        | some t =>
          have h1 := hx e he' he2 t (hΓ _ _ _ hc)
          have h2 := hd e he' he2 K' (by simp [hc])
          exact ⟨h1, h1 ▸ h2⟩
    · have := walk_of_walk3 hDS hT l (Γ ++ [(o.dst, R)]) (fun j hj => by
        have := hl (j + 1) (by simp; omega)
        simpa [Nat.add_assoc, Nat.add_comm 1 j] using this) (fun j d R' hj => by
        rcases Nat.lt_or_ge j Γ.length with h | h
        · rw [List.getElem?_append_left h] at hj
          exact hΓ j d R' hj
        · have hjl : j < (Γ ++ [(o.dst, R)]).length := (List.getElem?_eq_some_iff.1 hj).1
          obtain rfl : j = Γ.length := by simp at hjl; omega
          simp at hj
          rw [← hj.1]
          simp [dst, h0]) hw
      simpa using this

theorem region3_w {S : World → World → Prop} (ht' : ∀ a b c, S a b → S b c → S a c) (hdr : ∀ W, S W { W with drawn := W.drawn + 1 }) {P : Program} {Q : Exit → Act → World → Prop} {a : Act} {w : World} {l : List Oper} (n : Nat) (hok : okB l.toArray n = true) (hsz : sizeB l.toArray n a.tmps.size = true)
    (h : walk3 S P ((l.take n).filterMap (·.dst)) w a (fun Γ => ∀ (x : Nat → Value) (W : World), S w W → facts x W 0 Γ → wpList P l.toArray Q (l.drop n) (fill (l.take n) 0 x a) W) [] (l.take n)) :
    wpAny P .any l.toArray Q l.toArray.size (Array.replicate l.toArray.size false) a { w with drawn := w.drawn + 1 } := by
  have hn' : n < l.length := by
    simp only [okB, Bool.and_eq_true, decide_eq_true_eq] at hok
    simpa using hok.1.1.1.1.1
  have htl : (l.take n).length = n := by simp; omega
  refine region_w ht' hdr n hok hsz (walk_of_walk3 (n := n) (fun t ht j hj hd => ht ?_) (fun Γ hT x W hb hx => hT x W hb (facts_of Γ 0 (fun j K hj => by rw [Nat.zero_add]; exact hx j K hj))) (l.take n) [] (fun j hj => by
      rw [htl] at hj
      simp [List.getElem?_take, hj]) (fun j d R hj => by simp at hj) h)
  have hlj : j < l.length := by omega
  simp [dst, hlj] at hd
  exact List.mem_filterMap.2 ⟨l[j], List.mem_iff_getElem.2 ⟨j, by omega, by simp⟩, hd⟩
theorem region3 {S : World → World → Prop} (ht' : ∀ a b c, S a b → S b c → S a c) (hdr : ∀ W, S W { W with drawn := W.drawn + 1 }) {P : Program} {id : Nat} {Q : Exit → Act → World → Prop} {a : Act} {w : World} {l : List Oper} (n : Nat) (hm : P.follows .mixedOrders = true) (hok : okB l.toArray n = true) (hsz : sizeB l.toArray n a.tmps.size = true)
    (h : walk3 S P ((l.take n).filterMap (·.dst)) w a (fun Γ => ∀ (x : Nat → Value) (W : World), S w W → facts x W 0 Γ → wpList P l.toArray Q (l.drop n) (fill (l.take n) 0 x a) W) [] (l.take n)) :
    (Code.region id l.toArray true).wp P Q a w := wp_region_any hm (region3_w ht' hdr n hok hsz h)
section
variable {S : World → World → Prop} {P : Program} {DS : List Tmp} {w0 : World} {a0 : Act} {T : Ctx → Prop} {Γ : Ctx} {o : Oper} {rest : List Oper}

theorem loc_const {o : Oper} {R : Value → World → Prop} : Loc o (fun _ => R) := fun _ _ _ _ _ h => h
theorem op3 (hr : ∀ W, S W W) (v : Value) (hg : GOK3 Γ o) (h : ∀ (a : Act) (W : World) (x : Nat → Value), S w0 W → deps x Γ a W (ons o) → (∀ t, t ∉ DS → a.eval (.tmp t) = a0.eval (.tmp t)) → (execOp a.eval o).run P W = .ok (.value v) W)
    (hn : walk3 S P DS w0 a0 T (Γ ++ [(o.dst, fun _ u _ => u = v)]) rest) : walk3 S P DS w0 a0 T Γ (o :: rest) :=
  ⟨_, fun _ _ _ _ h _ => h, loc_const, hg, fun a W x hb hd hbase K Q hK => by
    unfold Oper.wp
    rw [h a W x hb hd hbase]
    exact hK v W rfl (hr W), hn⟩
/-- One operation that yields a value, and may turn the world. -/
theorem opW3 (R : DK) (hs : Stable S R) (hl : Loc o R) (hg : GOK3 Γ o)
    (h : ∀ (a : Act) (W : World) (x : Nat → Value), S w0 W → deps x Γ a W (ons o) → (∀ t, t ∉ DS → a.eval (.tmp t) = a0.eval (.tmp t)) → ∃ v W', (execOp a.eval o).run P W = .ok (.value v) W' ∧ R x v W' ∧ S W W')
    (hn : walk3 S P DS w0 a0 T (Γ ++ [(o.dst, R)]) rest) : walk3 S P DS w0 a0 T Γ (o :: rest) :=
  ⟨R, hs, hl, hg, fun a W x hb hd hbase K Q hK => by
    obtain ⟨v, W', hrun, hR, hS⟩ := h a W x hb hd hbase
    unfold Oper.wp
    rw [hrun]
    exact hK v W' hR hS, hn⟩
theorem done3 (h : T Γ) : walk3 S P DS w0 a0 T Γ [] := h
end
end Go.Proofs.YtamldoidalnloaaGreatDoor.RelH

/- Worlds that turn in rows of their own alone, each of them at one index to one value; an append onto a row that the region itself made. No program. -/
namespace Go.Proofs.YtamldoidalnloaaGreatDoor
open Go.RowKit
open Calm (bcell Blk)
/-- below B nothing turns; a block from B on is as it was, or has x at its index n. -/
structure Sett (n : Nat) (x : Value) (B : Nat) (W W' : World) : Prop where
  below : Below B W W'
  row : ∀ g, B ≤ g → g < W.heap.size → W'.heap[g]? = W.heap[g]? ∨ ∃ cur t, W.heap[g]? = some (.cells cur t (0, 0)) ∧ W'.heap[g]? = some (.cells (cur.setIfInBounds n x) t (0, 0))
namespace RelH
open Rel (ons)
variable {S : World → World → Prop} {P : Program} {DS : List Tmp} {w0 : World} {a0 : Act} {U : Ctx → Prop} {Γ : Ctx} {o : Oper} {rest : List Oper}
/-- A call, by a contract. -/
theorem callR3 (R : DK) (hs : Stable S R) (hl : Loc o R) (hof : ∀ W W', S w0 W → Below W.heap.size W W' → S W W') (hg : GOK3 Γ o)
    (h : ∀ (a : Act) (W : World) (x : Nat → Value), S w0 W → deps x Γ a W (ons o) → (∀ t, t ∉ DS → a.eval (.tmp t) = a0.eval (.tmp t)) → ∃ f args, (execOp a.eval o).run P W = .ok (.enter f args) W ∧ Calls P f args W fun e W' => ∃ v, e = .returned v ∧ R x v W' ∧ Below W.heap.size W W')
    (hn : walk3 S P DS w0 a0 U (Γ ++ [(o.dst, R)]) rest) : walk3 S P DS w0 a0 U Γ (o :: rest) :=
  ⟨R, hs, hl, hg, fun a W x hb hd hbase K Q hK => by
    obtain ⟨f, args, hrun, hc⟩ := h a W x hb hd hbase
    unfold Oper.wp
    rw [hrun]
    simp only [Oper.upon]
    refine hc.mono ?_
    rintro e W' ⟨v, rfl, hR, hbb⟩
    exact hK v W' hR (hof W W' hb hbb), hn⟩
/-- One operation that only reads, of whose result R is known. -/
theorem opR3 (hr : ∀ W, S W W) (R : DK) (hs : Stable S R) (hl : Loc o R) (hg : GOK3 Γ o)
    (h : ∀ (a : Act) (W : World) (x : Nat → Value), S w0 W → deps x Γ a W (ons o) → (∀ t, t ∉ DS → a.eval (.tmp t) = a0.eval (.tmp t)) → ∃ v, (execOp a.eval o).run P W = .ok (.value v) W ∧ R x v W)
    (hn : walk3 S P DS w0 a0 U (Γ ++ [(o.dst, R)]) rest) : walk3 S P DS w0 a0 U Γ (o :: rest) :=
  opW3 R hs hl hg (fun a W x hb hd hbase => by
    obtain ⟨v, h1, h2⟩ := h a W x hb hd hbase
    exact ⟨v, W, h1, h2, hr W⟩) hn
end RelH
end Go.Proofs.YtamldoidalnloaaGreatDoor

/- (search).visit where nothing is left to visit: the louder of what is best so far and a list. -/
namespace Go.Proofs.YtamldoidalnloaaGreatDoor
open Go.RowKit
open Calm (bcell Blk)

/-- all that lay is as it was, but for one block. -/
structure But (sb : Nat) (w w' : World) : Prop where
  os : w'.os = w.os
  tape : w'.tape = w.tape
  output : w'.output = w.output
  size : w.heap.size ≤ w'.heap.size
  block : ∀ k, Rest sb w.heap.size k → w'.heap[k]? = w.heap[k]?
theorem own_room {w : World} {base size n c : Nat} {e : TypeId} {A : Option Addr} {xs : List Value} (h : w.ownsRow base e size (.slice A n c) n xs) : n ≤ c ∧ c ≤ maxLen := by
  rcases h.2 with ⟨h1, h2⟩ | ⟨g, cap, cur, h1, _, _, h2, h3, _⟩
  · cases h1
    exact ⟨Nat.le_refl _, Nat.zero_le _⟩
  · cases h1
    exact ⟨h2, h3⟩
/-- worlds that turn in one block alone, in its cells 6 and 7. -/
structure SetR (sb n : Nat) (l : List Int) (E : Int) (W W' : World) : Prop where
  but : But sb W W'
  rest : ∀ i, i ≠ 6 → i ≠ 7 → W'.cell? ⟨sb, i, none⟩ = W.cell? ⟨sb, i, none⟩
  fr : ∀ i, W'.frozen? ⟨sb, i, none⟩ = W.frozen? ⟨sb, i, none⟩
  c6 : W'.cell? ⟨sb, 6, none⟩ = W.cell? ⟨sb, 6, none⟩ ∨ ∃ B d, W'.cell? ⟨sb, 6, none⟩ = some (.slice B n d) ∧ Cells W' B l ∧ Off sb B ∧ n ≤ d ∧ d ≤ maxLen
  c7 : W'.cell? ⟨sb, 7, none⟩ = W.cell? ⟨sb, 7, none⟩ ∨ W'.cell? ⟨sb, 7, none⟩ = some (.int .i64 E)
namespace RelG
open Rel (Know Ctx deps facts ons GOK3)
variable {S : World → World → Prop} {P : Program} {DS : List Tmp} {w0 : World} {a0 : Act} {T : Ctx → Prop} {Γ : Ctx} {o : Oper} {rest : List Oper}
end RelG

end Go.Proofs.YtamldoidalnloaaGreatDoor

/- (search).visit: the best list of all that further outputs make. -/
namespace Go.Proofs.YtamldoidalnloaaGreatDoor
open Go.RowKit
open Calm (bcell Blk)

theorem ownsRow_base {w : World} {base base' e size n : Nat} {v : Value} {xs : List Value} (h : w.ownsRow base e size v n xs) (hb : base' ≤ base) : w.ownsRow base' e size v n xs := by
  refine ⟨h.1, ?_⟩
  rcases h.2 with h | ⟨g, cap, cur, h1, h2, h3⟩
  · exact .inl h
  · exact .inr ⟨g, cap, cur, h1, Nat.le_trans hb h2, h3⟩
end Go.Proofs.YtamldoidalnloaaGreatDoor

/- Contracts of numbers, CheckSection and CheckState. -/
namespace Go.Proofs.YtamldoidalnloaaGreatDoor
open Go.RowKit
open Calm (bcell Blk)

end Go.Proofs.YtamldoidalnloaaGreatDoor

/- Contracts of mapped over sections and of checkSections. -/
namespace Go.Proofs.YtamldoidalnloaaGreatDoor
open Go.RowKit
open Calm (bcell Blk)

structure Sec where
  b0 : Int
  b1 : Int
  b2 : Int
  a1 : Int
  a2 : Int
  sh : Int
end Go.Proofs.YtamldoidalnloaaGreatDoor

/- Contracts of raw, limited and step of sections. -/
namespace Go.Proofs.YtamldoidalnloaaGreatDoor
open Go.RowKit
open Calm (bcell Blk)

/-- the raw output, and the output. -/
def rawF (b0 b1 b2 a1 a2 sh x1 x2 y1 y2 i : Int) : Int := (b0 * i + b1 * x1 + b2 * x2 - a1 * y1 - a2 * y2) / 2 ^ sh.toNat
end Go.Proofs.YtamldoidalnloaaGreatDoor

/- Contracts of (Section).outputs and of the iterator that it hands out. -/
namespace Go.Proofs.YtamldoidalnloaaGreatDoor
open Go.RowKit
open Calm (bcell Blk)

end Go.Proofs.YtamldoidalnloaaGreatDoor

/- Contract of (Section).from. -/
namespace Go.Proofs.YtamldoidalnloaaGreatDoor
open Go.RowKit
open Calm (bcell Blk)

theorem blk_own {β : Type} (B n : Nat) (hB : B < n) (f : β → Array Value) : OwnFrom n (fun s W => Blk W B (f s)) := fun s X Y row hs hg hrow =>
  Calm.Blk.of_block hs (hg.block B hs.lt (fun e => by have := (hrow B e.symm).1; omega))

end Go.Proofs.YtamldoidalnloaaGreatDoor

/- chamber's pair and Answers. -/
namespace Go.Proofs.YtamldoidalnloaaGreatDoor
open Go.RowKit
open Calm (bcell Blk)
end Go.Proofs.YtamldoidalnloaaGreatDoor

/- chamber's sums. -/
namespace Go.Proofs.YtamldoidalnloaaGreatDoor
open Go.RowKit
open Calm (bcell Blk)
end Go.Proofs.YtamldoidalnloaaGreatDoor

/- The law of complementary pairs, plain: what is deconvolved is the response. -/
namespace Go.Proofs.YtamldoidalnloaaGreatDoor
/-- a sum. -/
def sig : Nat → (Nat → Int) → Int
  | 0, _ => 0
  | n + 1, f => sig n f + f n
theorem sig_congr {f g : Nat → Int} : ∀ {n : Nat}, (∀ i, i < n → f i = g i) → sig n f = sig n g
  | 0, _ => rfl
  | n + 1, h => by
    simp only [sig]
    rw [sig_congr (fun i hi => h i (by omega)), h n (by omega)]
theorem sig_zero : ∀ n : Nat, sig n (fun _ => 0) = 0
  | 0 => rfl
  | n + 1 => by simp only [sig]; rw [sig_zero n]; rfl
theorem sig_add (f g : Nat → Int) : ∀ n : Nat, sig n (fun i => f i + g i) = sig n f + sig n g
  | 0 => rfl
  | n + 1 => by simp only [sig]; rw [sig_add f g n]; omega
theorem sig_mul (c : Int) (f : Nat → Int) : ∀ n : Nat, c * sig n f = sig n (fun i => c * f i)
  | 0 => by simp [sig]
  | n + 1 => by simp only [sig]; rw [← sig_mul c f n, Int.mul_add]
theorem sig_comm (f : Nat → Nat → Int) (m : Nat) : ∀ n : Nat, sig n (fun i => sig m (fun j => f i j)) = sig m (fun j => sig n (fun i => f i j))
  | 0 => by simp only [sig]; exact (sig_zero m).symm
  | n + 1 => by
    simp only [sig]
    rw [sig_comm f m n, ← sig_add]
theorem sig_one (c : Nat → Int) (j : Nat) : ∀ n : Nat, sig n (fun i => if i = j then c i else 0) = if j < n then c j else 0
  | 0 => by simp [sig]
  | n + 1 => by
    simp only [sig]
    rw [sig_one c j n]
    by_cases h : n = j
    · subst h; rw [if_neg (by omega), if_pos rfl, if_pos (by omega)]; omega
    · rw [if_neg h]
      by_cases h2 : j < n
      · rw [if_pos h2, if_pos (by omega)]; omega
      · rw [if_neg h2, if_neg (by omega)]; omega
/-- an element of a sequence that begins m later. -/
def pz (p : List Int) (t m : Nat) : Int := if m ≤ t then p.getD (t - m) 0 else 0
theorem cvAt_sig (h p : List Int) (t : Nat) : ∀ i, cvAt h p t i = sig i (fun m => h.getD m 0 * pz p t m)
  | 0 => rfl
  | i + 1 => by
    simp only [cvAt, sig]
    rw [cvAt_sig h p t i]
    unfold pz
    congr 1
    split <;> simp
theorem conv_get {h p : List Int} {t : Nat} (ht : t < h.length + p.length - 1) (h0 : 0 < h.length) (p0 : 0 < p.length) : (conv h p).getD t 0 = cvAt h p t h.length := by
  unfold conv
  rw [if_neg (by omega), List.getD_eq_getElem?_getD]
  simp [ht]
end Go.Proofs.YtamldoidalnloaaGreatDoor
