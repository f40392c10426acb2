/- Part 8 of the texts of the claim: X1, IterR, X2. -/
import Derived.Test.YtdeapbihbhoefaaGreatDoorMt7
import Derived.Laws.Cover3
import Derived.Test.YtdeapbihbhoefaaGreatDoorMt2
import Derived.OrdersIn
import Derived.Shelf.Abstract
import Derived.OwnWalkIn
import Derived.TacticsInMore
import Derived.LoopNIn
import Derived.LoopIn

/- Contracts of energy, Energy and slices.Clone. -/
namespace Go.Proofs.YtdeapbihbhoefaaGreatDoor
open Go.RowKit
open Calm (bcell Blk)

/-- the energy of the first numbers of a list. -/
def enK (l : List Int) : Nat → Int
  | 0 => 0
  | k + 1 => enK l k + l.getD k 0 * l.getD k 0
/-- the energy of a list. -/
def enF (l : List Int) : Int := enK l l.length
theorem enK_bd {l : List Int} (h : inB 2048 l) : ∀ k : Nat, 0 ≤ enK l k ∧ enK l k ≤ 4194304 * (k : Int)
  | 0 => by simp [enK]
  | k + 1 => by
    have h1 := enK_bd h k
    have h2 := sq_bd (inB_get h (by omega) k)
    simp only [enK]
    omega
set_option maxHeartbeats 1000000 in
set_option maxRecDepth 100000 in
theorem energy_any (l : List Int) (A : Option Addr) (c : Nat) (w : World) (hC : Cells w A l) (hb : inB 2048 l) (hn : l.length ≤ 5000) :
    Calls Tryz.prog 70 #[.slice A l.length c] w fun r w' => r = .returned (.int .i64 (enF l)) ∧ w = w' := by
  have HC := Lib.hid hC
  have HB := Lib.hid (enK_bd hb)
  have HG := Lib.hid (fun k => inB_get hb (by omega) k)
  obtain ⟨N, hN⟩ : ∃ N, N = l.length := ⟨_, rfl⟩
  have HN := Lib.hid hN
  have HE : enF l = enK l N := by rw [hN]; rfl
  rw [HE, ← hN]
  rw [← hN] at hn
  clear hC hb hN HE
  go_enter Tryz.func70, Tryz.ntmps70
  go_wp2
  go_loop [3, 8] (fun s i => ∃ k : Nat, k ≤ N ∧ i = (.int .i64 k) ∧ s = (.int .i64 (enK l k))) (fun _ i => N - (intOf i).toNat)
  case atStart => exact ⟨0, Nat.zero_le _, rfl, rfl⟩
  case round =>
    obtain ⟨k, hk, rfl, rfl⟩ := hrel
    by_cases hlt : k < N
    · obtain ⟨b, o, rfl, lb, hc⟩ := HC.out (by rw [← HN.out]; omega)
      have x0 := hc k (by rw [← HN.out]; exact hlt)
      have HX : Hid (enK l (k + 1) = enK l k + l.getD k 0 * l.getD k 0) := Lib.hid rfl
      obtain ⟨d1, d2⟩ := HB.out k
      obtain ⟨d3, d4⟩ := sq_bd (HG.out k)
      obtain ⟨d5, d6⟩ := HG.out k
      obtain ⟨E, hE⟩ : ∃ E, E = enK l k := ⟨_, rfl⟩
      obtain ⟨u, hu⟩ : ∃ u, u = l.getD k 0 := ⟨_, rfl⟩
      rw [← hu] at x0 d3 d4 d5 d6
      rw [← hE, ← hu] at HX
      rw [← hE] at d1 d2
      rw [← hE]
      clear hc hE hu
      go_wp2
      go_round
      case rel => exact ⟨k + 1, by omega, by go_num, by rw [HX.out]⟩
      case measure => simp [intOf]; omega
    · obtain rfl : k = N := by omega
      go_wp2
      go_ret
      exact ⟨rfl, rfl⟩

/-- Energy of a signal with its error. -/
theorem Energy_any (l : List Int) (A : Option Addr) (c : Nat) (w : World) (hC : Cells w A l) (hn : l.length ≤ 5000) (hb : sigErr l = 0 → inB 2048 l) :
    Calls Tryz.prog 34 #[.slice A l.length c] w fun r w' => r = .returned (.tuple #[(.int .i64 (if sigErr l = 0 then enF l else 0)), (.int .i64 (sigErr l))]) ∧ Below w.heap.size w w' := by
  have HS : Hid (∀ W, Cells W A l → Calls Tryz.prog 69 #[.slice A l.length c] W fun r w' => r = .returned (.int .i64 (sigErr l)) ∧ Below W.heap.size W w') := Lib.hid (fun W q => checkSignal_any l A c W q hn)
  have HE : Hid (∀ W, Cells W A l → inB 2048 l → Calls Tryz.prog 70 #[.slice A l.length c] W fun r w' => r = .returned (.int .i64 (enF l)) ∧ W = w') := Lib.hid (fun W q q2 => energy_any l A c W q q2 hn)
  have HC := Lib.hid hC
  have HB := Lib.hid hb
  obtain ⟨N, hN⟩ : ∃ N, N = l.length := ⟨_, rfl⟩
  obtain ⟨E, hE⟩ : ∃ E, E = sigErr l := ⟨_, rfl⟩
  obtain ⟨F, hF⟩ : ∃ F, F = enF l := ⟨_, rfl⟩
  rw [← hN] at HS HE ⊢
  rw [← hE] at HS HB ⊢
  rw [← hF] at HE ⊢
  clear hN hE hF hC hb hn
  by_cases h0 : E = 0
  · subst h0
    rw [if_pos rfl]
    go_enter Tryz.func34, Tryz.ntmps34
    go_wp2_with (first | (go_at_call 69; refine (HS.out _ HC.out).mono ?_; rintro r w1 ⟨rfl, hb1⟩) | (go_at_call 70; refine (HE.out _ (HC.out.below hb1) (HB.out trivial)).mono ?_; rintro r w2 ⟨rfl, rfl⟩))
    exact bodyPost_ret (v := .tuple #[(.int .i64 F), (.int .i64 0)]) (by simp [results, Tryz.results34, go_sem]) rfl ⟨rfl, hb1⟩
  · rw [if_neg h0]
    go_enter Tryz.func34, Tryz.ntmps34
    go_wp2_with (go_at_call 69; refine (HS.out _ HC.out).mono ?_; rintro r w1 ⟨rfl, hb1⟩)
    exact bodyPost_ret (v := .tuple #[(.int .i64 0), (.int .i64 E)]) (by simp [results, Tryz.results34, go_sem]) rfl ⟨rfl, hb1⟩

/-- append([]int{}, l...). -/
theorem wpList_appC {w : World} {ops : Array Oper} {rest : List Oper} {o : Oper} {a : Act} {Q : Exit → Act → World → Prop} (hgd : o.guard = none) (s x : Operand)
    (ho : o.op = .call { callee := .builtin .append, args := #[s, x], argTypes := #[22, 22] }) (g n c : Nat) (A : Option Addr) (xs : List Int) (hn : n = xs.length)
    (hs : a.eval s = .slice (some ⟨g, 0, none⟩) 0 0) (hx : a.eval x = .slice A n c) (hg : w.ownsRow g 3 1 (.slice (some ⟨g, 0, none⟩) 0 0) 0 []) (h5 : n ≤ 100000) (hC : Cells w A xs)
    (h : ∀ B d w', Below w.heap.size w w' → w'.ownsRow g 3 1 (.slice B n d) n (xs.map (Value.int .i64)) → wpList Tryz.prog ops Q rest (a.put o.dst (.slice B n d)) w') : wpList Tryz.prog ops Q (o :: rest) a w := by
  obtain ⟨i0, hi, hz0, hz1, hz2⟩ := info_parts Tryz.infoI
  refine wpList_plain hgd fun K hK => ?_
  rcases Nat.eq_zero_or_pos n with h0 | h0
  · subst h0
    obtain rfl : xs = [] := List.eq_nil_of_length_eq_zero hn.symm
    have hrun := Rel.run_append_zero (P := Tryz.prog) w 22 o.type 3 i0 _ Tryz.underlying22 hi hz0 ⟨g, 0, none⟩ A c
    unfold Oper.wp
    simp [execOp, ho, resolve, invoke, builtin, hs, hx, hrun, Result.andThen]
    exact hK _ _ (h (some ⟨g, 0, none⟩) 0 w (Below.refl _ _) hg)
  · obtain ⟨b, off, rfl, hb, hc⟩ := hC (by omega)
    obtain ⟨v', w', hrun, r1, r2⟩ := run_append_arg_grows (P := Tryz.prog) w 22 o.type 3 i0 _ 1 8 Tryz.underlying22 hi hz0 hz1 hz2 rfl (by decide) ⟨g, 0, none⟩ 0 0 [] (by simp) (by simp) ⟨b, off, none⟩ n c (xs.map (Value.int .i64)) (by simp; omega) (fun j v hj => cells_src hc j v hj) (by omega) (by unfold maxLen; omega) (by omega)
    unfold Oper.wp
    simp [execOp, ho, resolve, invoke, builtin, hs, hx, hrun, Result.andThen]
    have r1' : w'.ownsRow w.heap.size 3 1 v' n (xs.map (Value.int .i64)) := by simpa using r1
    obtain ⟨B, d, rfl⟩ := own_slice r1'
    have hlt : g ≤ w.heap.size := by
      rcases hg.2 with ⟨e, _⟩ | ⟨g', cap, cur, e, _, e3, _⟩
      · cases e
      · cases e
        exact Nat.le_of_lt (Array.getElem?_eq_some_iff.1 e3).1
    refine hK _ _ (h B d w' ((Below.refl w.heap.size w).grown r2 (Nat.le_refl _) (fun k hk => by cases hk)) ⟨r1'.1, ?_⟩)
    rcases r1'.2 with h2 | ⟨g', cap, cur, h1, h2, h3⟩
    · exact .inl h2
    · exact .inr ⟨g', cap, cur, h1, Nat.le_trans hlt h2, h3⟩
/-- a slice held against nil. -/
theorem eq_nil_any (A : Option Addr) (n c : Nat) (W : World) : Sem.run Tryz.prog (binOp .eql 22 (.slice A n c) (.slice none 0 0)) W = .ok (.bool A.isNone) W := by
  have h := run_equal_slice_nil (P := Tryz.prog) W 22 3 A n c Tryz.underlying22
  simp only [binOp]
  simp [h, go_sem]
set_option maxHeartbeats 1000000 in
set_option maxRecDepth 100000 in
/-- slices.Clone of a slice of integers: nil of nil, else a copy. -/
theorem clone_any (l : List Int) (A : Option Addr) (n c : Nat) (w : World) (hN : n = l.length) (hC : Cells w A l) (hn : n ≤ 5000) :
    Calls Tryz.prog 81 #[.slice A n c] w fun r w' => (∃ B d, r = .returned (.slice B n d) ∧ w'.ownsRow w.heap.size 3 1 (.slice B n d) n (l.map (Value.int .i64))) ∧ Below w.heap.size w w' := by
  have HC := Lib.hid hC
  have HN := Lib.hid hN
  cases A with
  | none =>
    have h0 : l = [] := by
      rcases Nat.eq_zero_or_pos l.length with h | h
      · exact List.eq_nil_of_length_eq_zero h
      · obtain ⟨b, o, hA, _⟩ := hC h
        cases hA
    subst h0
    obtain rfl : n = 0 := by simpa using hN
    clear hC HC hN HN
    have hnil : ∀ W, Sem.run Tryz.prog (binOp .eql 22 (.slice none 0 c) (.slice none 0 0)) W = .ok (.bool true) W := fun W => eq_nil_any none 0 c W
    go_enter Tryz.func81, Tryz.ntmps81
    go_wp2
    go_ret
    first | exact ⟨⟨none, 0, rfl, World.ownsRow_nil _ _ _ _⟩, Below.refl _ _⟩ | exact ⟨⟨none, ⟨0, rfl⟩, World.ownsRow_nil _ _ _ _⟩, Below.refl _ _⟩
  | some p =>
    clear hC hN
    have hnil : ∀ W, Sem.run Tryz.prog (binOp .eql 22 (.slice (some p) n c) (.slice none 0 0)) W = .ok (.bool false) W := fun W => eq_nil_any (some p) n c W
    go_enter Tryz.func81, Tryz.ntmps81
    go_wp2_with (at_builtin; refine wpList_appC rfl _ _ rfl w.heap.size n c (some p) l HN.out rfl rfl ⟨by simp, .inr ⟨_, 0, #[], rfl, Nat.le_refl _, by show (w.heap.push _)[w.heap.size]? = _; simp, Nat.le_refl _, Nat.zero_le _, by simp, by simp⟩⟩ (by omega) (HC.out.below ((Below.refl _ _).alloc (Nat.le_refl _) _)) ?_)
    intro B d w2 hb2 hc2
    have HB2 := Lib.hid (Below.trans ((Below.refl w.heap.size w).alloc (Nat.le_refl _) (.cells #[] 3)) (hb2.mono (by simp)))
    have HC2 := Lib.hid hc2
    clear hb2 hc2
    go_wp2
    go_ret
    first | exact ⟨⟨B, ⟨d, rfl⟩, HC2.out⟩, HB2.out⟩ | exact ⟨⟨B, d, rfl, HC2.out⟩, HB2.out⟩
end Go.Proofs.YtdeapbihbhoefaaGreatDoor

/- The law of 'for x, y := range seq' over an iterator that hands out values which stand for elements (their addresses are made on the way); regions with an open order inside a round. -/
namespace Go.Proofs.YtdeapbihbhoefaaGreatDoor
open Go.RowKit

/-- The contract of an iterator that reads the blocks of C and hands out, for the elements of a list, values that stand for them. -/
def IterR {α : Type} (F : Fence) (n : Nat) (P : Program) (g : Nat) (lb : Array Value) (sz : Nat) (R : α → Array Value → World → Prop) (all : List α) (C : Nat → Prop) (w : World) : Prop :=
  ∀ (l : Nat) (J : List α → World → Prop) (W : World), (∀ k, C k → W.heap[k]? = w.heap[k]?) → (∀ k, C k → k < w.heap.size) → w.heap.size ≤ W.heap.size →
    (∀ pre W1 W2, J pre W1 → Below W1.heap.size W1 W2 → J pre W2) →
    (∀ pre x v W1, J pre W1 → (∀ k, C k → W1.heap[k]? = w.heap[k]?) → (∃ post, all = pre ++ x :: post) → v.size = sz → R x v W1 →
      YieldAt F (n - 1) P l v W1 fun e W' => e = .returned (.bool true) ∧ J (pre ++ [x]) W' ∧ ∀ k, C k → W'.heap[k]? = W1.heap[k]?) →
    J [] W →
    CallsIn F n P g (#[.func (.yield l) #[] #[]] ++ lb) W fun e W' => (∃ v, e = .returned v) ∧ J all W'

/-- the blocks that a round must leave alone: the two of the loop, from B on, and those of C. -/
def roundR (C : Nat → Prop) (B : Nat) (k : Nat) : Prop := C k ∨ k = B ∨ k = B + 1

theorem range_iterR {F : Fence} {n : Nat} {P : Program} {α : Type} {g : Operand} {ps : Array Tmp} {assign body : Code} {Q : Exit → Act → World → Prop} {a : Act} {w : World}
    (hro : F.round = none) (h1 : 1 ≤ n) {gf : Nat} {lb : Array Value} (hg : a.eval g = .func (.func gf) #[] lb) (hFg : F.fn gf) (eg : ∀ args w, (callFunc gf args).run P w = .ok (.enter gf args) w)
    {R : α → Array Value → World → Prop} {all : List α} {C : Nat → Prop} (hC : ∀ k, C k → k < w.heap.size) (hseq : IterR F (n - 1) P gf lb ps.size R all C w)
    (I : List α → World → Prop) (hI : OwnFrom w.heap.size I) (h0 : I [] w)
    (Ax : List α → α → Act → World → Prop) (hAx : ∀ pre x a', OwnFrom w.heap.size (fun (_ : Unit) W => Ax pre x a' W))
    (hassign : ∀ (l : Nat) (pre : List α) (x : α) (v : Array Value) (W : World), I pre W → (∃ post, all = pre ++ x :: post) → w.heap.size + 1 < W.heap.size → (∀ k, C k → W.heap[k]? = w.heap[k]?) → v.size = ps.size → R x v W →
      assign.wpIn (F.inRound l) (n - 1 - 1) P (Exit.then (fun a' W' => Same (roundR C w.heap.size) W W' ∧ Ax pre x a' W') (fun _ _ _ => False)) { tmps := (ps.zip v).foldl (fun t (p, v) => t.setIfInBounds p v) a.tmps, defers := [] } W)
    (hbody : ∀ (l : Nat) (pre : List α) (x : α) (a' : Act) (W : World), Ax pre x a' W → (∃ post, all = pre ++ x :: post) → w.heap.size + 1 < W.heap.size → (∀ k, C k → W.heap[k]? = w.heap[k]?) →
      body.wpIn (F.inRound l) (n - 1 - 1) P (iterPost (roundR C w.heap.size) W (I (pre ++ [x]))) a' W)
    (hdone : ∀ (W : World), I all W → W.heap[w.heap.size]? = some (.deferred (some [])) → Q .normal { a with defers := { target := .collected w.heap.size, args := #[] } :: a.defers } W) :
    (Code.rangeFunc g ps assign body).wpIn F n P Q a w := by
  refine wpIn_rangeFunc ?_
  intro fn hfn
  rw [hro]
  obtain ⟨rec, hrec⟩ : ∃ rec : LoopState → Option Code → Loop, rec = fun st pe => { state := st, pending := pe, fn, tmps := a.tmps, params := ps, assign, body, defers := w.heap.size } := ⟨_, rfl⟩
  obtain ⟨W1, hW1⟩ : ∃ W1, (w.alloc (.deferred (some []))).alloc (.loop (rec .ready none)) = W1 := ⟨_, rfl⟩
  have hL1 : W1.heap[w.heap.size + 1]? = some (.loop (rec .ready none)) := by
    rw [← hW1]; have := World.alloc_heap_new (w.alloc (.deferred (some []))) (.loop (rec .ready none)); rwa [World.size_alloc] at this
  have hK1 : W1.heap[w.heap.size]? = some (.deferred (some [])) := by
    rw [← hW1]; exact (Below.heap_alloc _ _ _ (by simp)).trans (World.alloc_heap_new w _)
  have hI1 : I [] W1 := by rw [← hW1]; exact hI.alloc _ (hI.alloc _ h0)
  have hC1 : ∀ k, C k → W1.heap[k]? = w.heap[k]? := fun k hk => by
    have := hC k hk
    rw [← hW1, Below.heap_alloc _ _ _ (by simp; omega), Below.heap_alloc _ _ _ this]
  have hs1 : W1.heap.size = w.heap.size + 2 := by rw [← hW1]; simp
  refine ⟨w.heap.size + 1, [{ target := .collected w.heap.size, args := #[] }], W1, { target := .fn (.func gf) lb, args := #[.func (.yield (w.heap.size + 1)) #[] #[]] }, W1, gf,
    #[.func (.yield (w.heap.size + 1)) #[] #[]] ++ lb, W1, ?_, ?_, ?_, ?_, fun _ => h1, ?_⟩
  · rw [← hW1, hrec]; exact run_enterLoop_outer _ _ _ _ _
  · simp only [resolve, hg]
    simp [go_sem]
  · intro f' hf'; simp [Target.leads] at hf'; subst hf'; exact hFg
  · simp [invoke, go_sem, eg]
  · refine (hseq (w.heap.size + 1)
      (fun pre W => I pre W ∧ W.heap[w.heap.size + 1]? = some (.loop (rec .ready none)) ∧ W.heap[w.heap.size]? = some (.deferred (some [])))
      W1 hC1 hC (by omega)
      (fun pre A B hs hb => ⟨hI pre A B none hs.1 ⟨hb.os, hb.tape, hb.output, hb.size, fun k hk _ => hb.block k hk⟩ (by simp), (hb.block _ (Array.getElem?_eq_some_iff.1 hs.2.1).1).trans hs.2.1, (hb.block _ (Array.getElem?_eq_some_iff.1 hs.2.2).1).trans hs.2.2⟩)
      ?_ ⟨hI1, hL1, hK1⟩).mono ?_
    · -- ONE ROUND
      rintro pre x v W ⟨hi, hl, hk⟩ hcb hpost hvs hR
      have hlt : w.heap.size + 1 < W.heap.size := (Array.getElem?_eq_some_iff.1 hl).1
      have hy := run_yield (P := P) (args := v) hl (by rw [hrec]; simp [hvs])
      rw [hrec] at hy
      refine ⟨fn, _, assign, body, hy, roundIn_of_wpIn hfn (wpIn_mono (hassign _ pre x v W hi hpost hlt hcb hvs hR) ?_)⟩
      clear hy
      rintro e a' Wa hq
      cases e with
      | normal =>
        obtain ⟨hS, hax⟩ := hq
        have hl' := hS _ _ (.inr (.inr rfl)) hl
        have hk' := hS _ _ (.inr (.inl rfl)) hk
        have hsz' : w.heap.size + 1 < Wa.heap.size := (Array.getElem?_eq_some_iff.1 hl').1
        have hcb' : ∀ k, C k → Wa.heap[k]? = w.heap[k]? := fun k hk => (hS.eq (.inl hk) (by have := hC k hk; omega)).trans (hcb k hk)
        refine ⟨_, run_beginRound hl' (by rw [hrec]), ?_⟩
        obtain ⟨Wb, hWb⟩ : ∃ Wb, Wa.putObj (w.heap.size + 1) (.loop { rec .ready none with state := .busy }) = Wb := ⟨_, rfl⟩
        have hl2 : Wb.heap[w.heap.size + 1]? = some (.loop { rec .ready none with state := .busy }) := by rw [← hWb]; exact World.putObj_heap_same (by omega)
        have hk2 : Wb.heap[w.heap.size]? = some (.deferred (some [])) := by rw [← hWb]; exact (World.putObj_heap_other (by omega)).trans hk'
        have hcb2 : ∀ k, C k → Wb.heap[k]? = w.heap[k]? := fun k hk => by have := hC k hk; rw [← hWb]; exact (World.putObj_heap_other (by omega)).trans (hcb' k hk)
        have hsz2 : w.heap.size + 1 < Wb.heap.size := by rw [← hWb]; simpa using hsz'
        have hax2 : Ax pre x a' Wb := by rw [← hWb]; exact (hAx pre x a').putObj (s := ()) _ hax (by omega) hl' rfl
        show body.wpIn _ _ _ _ _ (Wa.putObj (w.heap.size + 1) (.loop { rec .ready none with state := .busy }))
        rw [hWb]
        refine wpIn_mono (hbody _ pre x a' Wb hax2 hpost hsz2 hcb2) ?_
        rintro e a3 W3 hp
        cases e with
        | normal =>
          obtain ⟨hS3, hi3⟩ := hp
          have hl3 := hS3 _ _ (.inr (.inr rfl)) hl2
          have hk3 := hS3 _ _ (.inr (.inl rfl)) hk2
          have hr := run_endRound (P := P) none hl3
          have hC3 : ∀ k, C k → W3.heap[k]? = W.heap[k]? := fun k hk => ((hS3.eq (.inl hk) (by have := hC k hk; omega)).trans (hcb2 k hk)).trans (hcb k hk).symm
          rw [hrec] at hr
          refine ⟨_, _, hr, rfl, ⟨hI.putObj _ hi3 (by omega) hl3 rfl, ?_, ?_⟩, ?_⟩
          · rw [hrec]; exact World.putObj_heap_same (Array.getElem?_eq_some_iff.1 hl3).1
          · exact (World.putObj_heap_other (by omega)).trans hk3
          · exact fun k hk => (World.putObj_heap_other (by have := hC k hk; omega)).trans (hC3 k hk)
        | exit id => exact hp.elim
        | goto t => exact hp.elim
        | ret => exact hp.elim
        | panic ch => exact hp.elim
        | outgrown => exact hp.elim
      | exit id => exact hq.elim
      | goto t => exact hq.elim
      | ret => exact hq.elim
      | panic ch => exact hq.elim
      | outgrown => exact hq.elim
    · -- BEHIND THE ITERATOR
      rintro e W2 ⟨⟨v, rfl⟩, hi, hl, hk⟩
      exact ⟨none, _, by have := run_endLoop (P := P) hl (by rw [hrec]; simp); rw [hrec] at this; exact this, hdone _ (hI.putObj _ hi (by omega) hl rfl) ((World.putObj_heap_other (by omega)).trans hk)⟩

/-! ### Regions with an open order, in a round's frame -/

theorem wp_inRound {P : Program} {o : Oper} {a : Act} {w : World} {K : Act → World → Prop} {Q : Exit → Act → World → Prop} {l n : Nat} (hd : ∀ c, o.op ≠ .defer c) (h : o.wp P a w K Q) : o.wpIn (Fence.wide.inRound l) n P a w K Q := by
  refine ⟨fun _ _ => trivial, ?_⟩
  rw [show (Fence.wide.inRound l).round = some l from rfl, Oper.semAt_eq _ _ _ hd]
  unfold Oper.wp at h
  generalize (execOp a.eval o).run P w = r at *
  cases r with
  | ok x w' =>
    cases x <;> simp only [Oper.upon, Oper.uponIn] at h ⊢ <;>
      first
        | exact h
        | exact ⟨fun hh => by simp [Fence.wide] at hh, CallsIn.inRound l (callsIn_wide.2 h)⟩
        | (refine ⟨fun hh => by simp [Fence.wide] at hh, fun c cs _ => ?_⟩
           obtain ⟨v, w'', r, s⟩ := h c cs
           exact ⟨v, w'', r, stepsIn_wide.2 s⟩)
  | halt x w' => cases x <;> simp only [Oper.upon, Oper.uponIn] at h ⊢ <;> exact h

theorem wpAny_inRound {P : Program} {ops : Array Oper} {md : Region.Mode} {Q : Exit → Act → World → Prop} {l n : Nat} (hd : ∀ (i : Nat) (o : Oper), ops[i]? = some o → ∀ c, o.op ≠ .defer c) (hQ : ¬ LetsOut Q) :
    ∀ (fuel : Nat) (listed : Array Bool) (a : Act) (w : World), wpAny P md ops Q fuel listed a w → wpAnyIn (Fence.wide.inRound l) n P md ops Q fuel listed a w
  | 0, _, _, _, h => h
  | fuel + 1, listed, a, w, h => ⟨h.1, fun i hi => by
    have h2 := h.2 i hi
    unfold wpOp at h2
    unfold wpOpIn
    split
    · rename_i h0
      rw [h0] at h2
      exact wpAny_inRound hd hQ fuel _ _ _ h2
    · rename_i o h0
      rw [h0] at h2
      simp only at h2
      by_cases hw : Region.wanted o (yielded ops a.tmps) = true
      · rw [if_pos hw] at h2 ⊢
        rcases h2 with h2 | h2
        · exact wp_inRound (hd i o h0) (Oper.wp_mono (fun a w => wpAny_inRound hd hQ fuel _ a w) h2)
        · exact absurd h2.2 hQ
      · rw [if_neg hw] at h2 ⊢
        exact ⟨fun _ _ => trivial, wpAny_inRound hd hQ fuel _ _ _ h2⟩⟩
/-- no operation of these is a 'defer'. -/
def noDefer (l : List Oper) : Bool := l.all fun o => match o.op with | .defer _ => false | _ => true
end Go.Proofs.YtdeapbihbhoefaaGreatDoor

/- (Guard).kept and the iterator that it hands out: the levels behind which a state keeps all conditions, with this state. -/
namespace Go.Proofs.YtdeapbihbhoefaaGreatDoor
open Go.RowKit
open Calm (bcell Blk)

/-- the state behind an output. -/
def nextF (lk : Int) (s : St) (y : Int) : St := ⟨coolF lk s.h + y * y, s.lv, pushL s.ps y⟩
/-- whether an output keeps all conditions. -/
def keepB (lk ht rc : Int) (ts : List Int) (s : St) (y : Int) : Bool := fineF ht rc (coolF lk s.h + y * y) (exF ts s.ps y) ts (pushL s.ps y)
/-- the levels among the first k that keep them, with the states behind them. -/
def keptK (lk ht rc : Int) (ts : List Int) (s : St) (ls : List Int) : Nat → List (Int × St)
  | 0 => []
  | k + 1 => keptK lk ht rc ts s ls k ++ if keepB lk ht rc ts s (ls.getD k 0) then [(ls.getD k 0, nextF lk s (ls.getD k 0))] else []
theorem keptK_true {lk ht rc : Int} {ts : List Int} {s : St} {ls : List Int} {k : Nat} (h : keepB lk ht rc ts s (ls.getD k 0) = true) : keptK lk ht rc ts s ls (k + 1) = keptK lk ht rc ts s ls k ++ [(ls.getD k 0, nextF lk s (ls.getD k 0))] := by
  simp only [keptK]; rw [if_pos h]
theorem keptK_false {lk ht rc : Int} {ts : List Int} {s : St} {ls : List Int} {k : Nat} (h : keepB lk ht rc ts s (ls.getD k 0) = false) : keptK lk ht rc ts s ls (k + 1) = keptK lk ht rc ts s ls k := by
  simp only [keptK]; rw [if_neg (by rw [h]; simp), List.append_nil]
theorem keptK_pre (lk ht rc : Int) (ts : List Int) (s : St) (ls : List Int) (k : Nat) : ∀ m, ∃ post, keptK lk ht rc ts s ls (k + m) = keptK lk ht rc ts s ls k ++ post
  | 0 => ⟨[], by simp⟩
  | m + 1 => by
    obtain ⟨post, h⟩ := keptK_pre lk ht rc ts s ls k m
    refine ⟨post ++ if keepB lk ht rc ts s (ls.getD (k + m) 0) then [(ls.getD (k + m) 0, nextF lk s (ls.getD (k + m) 0))] else [], ?_⟩
    rw [← List.append_assoc, ← h]
    rfl
theorem keptK_post {lk ht rc : Int} {ts : List Int} {s : St} {ls : List Int} {k n : Nat} (h : k < n) (hk : keepB lk ht rc ts s (ls.getD k 0) = true) : ∃ post, keptK lk ht rc ts s ls n = keptK lk ht rc ts s ls k ++ (ls.getD k 0, nextF lk s (ls.getD k 0)) :: post := by
  obtain ⟨post, e⟩ := keptK_pre lk ht rc ts s ls (k + 1) (n - (k + 1))
  rw [show k + 1 + (n - (k + 1)) = n by omega, keptK_true hk, List.append_assoc] at e
  exact ⟨post, e⟩
theorem kept_good {lk ht rc : Int} {ts gs : List Int} {s : St} (hS : Good ht rc ts gs s) {y : Int} (hy : -2048 ≤ y ∧ y ≤ 2048) (hk : keepB lk ht rc ts s y = true) : Good ht rc ts gs (nextF lk s y) := by
  obtain ⟨h1, h2, h3⟩ := fineF_true hk
  have hc := coolF_bd lk hS.h.1
  have hm := sq_bd hy
  exact ⟨⟨by simp only [nextF]; omega, h1⟩, hS.lv, by simp only [nextF]; rw [pushL_len]; exact hS.pl, inB_push hS.pb hy, h3⟩
theorem keptK_good {lk ht rc : Int} {ts gs : List Int} {s : St} {ls : List Int} (hS : Good ht rc ts gs s) (hl : inB 2048 ls) : ∀ (k : Nat), ∀ x ∈ keptK lk ht rc ts s ls k, Good ht rc ts gs x.2 ∧ (-2048 ≤ x.1 ∧ x.1 ≤ 2048) ∧ x.2 = nextF lk s x.1 ∧ keepB lk ht rc ts s x.1 = true
  | 0, x, hx => by simp [keptK] at hx
  | k + 1, x, hx => by
    simp only [keptK, List.mem_append] at hx
    rcases hx with hx | hx
    · exact keptK_good hS hl k x hx
    · split at hx
      · rename_i h0
        obtain rfl : x = _ := by simpa using hx
        exact ⟨kept_good hS (inB_get hl (by omega) k) h0, inB_get hl (by omega) k, rfl, h0⟩
      · cases hx

/-- all that lies below a size, but one block. -/
def Rest (sb B : Nat) (k : Nat) : Prop := k < B ∧ k ≠ sb
/-- a slice that does not lie in a block. -/
def Off (sb : Nat) (A : Option Addr) : Prop := ∀ p, A = some p → p.block ≠ sb
theorem Cells.rest {w w' : World} {A : Option Addr} {zs : List Int} {sb : Nat} (h : Cells w A zs) (ho : Off sb A) (hW : ∀ k, Rest sb w.heap.size k → w'.heap[k]? = w.heap[k]?) : Cells w' A zs := by
  intro h0
  obtain ⟨b, off, rfl, hl, hc⟩ := h h0
  have e := hW b ⟨hl, ho _ rfl⟩
  refine ⟨b, off, rfl, ?_, fun k hk => (World.cell?_of_block (w := w) (a := ⟨b, off + k, none⟩) e).trans (hc k hk)⟩
  rw [Array.getElem?_eq_getElem hl] at e
  exact (Array.getElem?_eq_some_iff.1 e).1
theorem Lim.rest {w w' : World} {sb : Nat} (h : Lim w) (hs : sb ≠ 0) (hW : ∀ k, Rest sb w.heap.size k → w'.heap[k]? = w.heap[k]?) : Lim w' := by
  have e := hW 0 ⟨h.lt, fun e => hs e.symm⟩
  refine ⟨?_, (World.cell?_of_block (w := w) (a := ⟨0, 0, none⟩) e).trans h.c0, (World.cell?_of_block (w := w) (a := ⟨0, 1, none⟩) e).trans h.c1, (World.cell?_of_block (w := w) (a := ⟨0, 2, none⟩) e).trans h.c2⟩
  rw [Array.getElem?_eq_getElem h.lt] at e
  exact (Array.getElem?_eq_some_iff.1 e).1

theorem kept_any (lk ht rc : Int) (s : St) (A1 A2 A3 A5 : Option Addr) (M L Q N c1 c2 c3 c5 : Nat) (w : World) :
    Calls Tryz.prog 82 #[.agg #[(.int .i64 lk), (.int .i64 ht), .slice A1 M c1, (.int .i64 rc), .slice A2 L c2], .agg #[(.int .i64 (s.h)), (.int .i64 ((s.lv : Int))), .slice A3 Q c3], .slice A5 N c5] w fun e w' => e = .returned (.func (.func 92) #[] #[.pointer (some ⟨w.heap.size + 1 + 1, 0, none⟩), .pointer (some ⟨w.heap.size, 0, none⟩), .pointer (some ⟨w.heap.size + 1, 0, none⟩)]) ∧
      Below w.heap.size w w' ∧ Blk w' w.heap.size #[(.int .i64 lk), (.int .i64 ht), .slice A1 M c1, (.int .i64 rc), .slice A2 L c2] ∧ Blk w' (w.heap.size + 1) #[(.int .i64 (s.h)), (.int .i64 ((s.lv : Int))), .slice A3 Q c3] ∧ Blk w' (w.heap.size + 1 + 1) #[.slice A5 N c5] := by
  go_enter Tryz.func82, Tryz.ntmps82
  go_wp2
  go_ret
  exact ⟨by first | rfl | (simp; done), by (repeat (first | (with_reducible exact Below.refl _ _) | ((with_reducible refine Below.setCell ?_ ?_ _); rotate_left 1; focus (first | (simp; done) | (simp; omega) | (simp at *; omega))) | ((with_reducible refine Below.alloc ?_ ?_ _); rotate_left 1; focus (first | (simp; done) | (simp; omega) | (simp at *; omega))) | (with_reducible refine Below.drew ?_) | ((with_reducible refine Calm.step (by assumption) ?_ ?_); rotate_left 1; focus (first | (simp; done) | (simp; omega) | (simp at *; omega))))), by (repeat (first | ((with_reducible refine Blk.at_ ?_); focus (first | rfl | (simp; done) | (simp; omega))) | (with_reducible refine Blk.alloc ?_ _) | (with_reducible refine Blk.below ?_ (by with_reducible assumption)) | (with_reducible refine Blk.drew ?_))), by (repeat (first | ((with_reducible refine Blk.at_ ?_); focus (first | rfl | (simp; done) | (simp; omega))) | (with_reducible refine Blk.alloc ?_ _) | (with_reducible refine Blk.below ?_ (by with_reducible assumption)) | (with_reducible refine Blk.drew ?_))), by (repeat (first | ((with_reducible refine Blk.at_ ?_); focus (first | rfl | (simp; done) | (simp; omega))) | (with_reducible refine Blk.alloc ?_ _) | (with_reducible refine Blk.below ?_ (by with_reducible assumption)) | (with_reducible refine Blk.drew ?_)))⟩

/-- what the iterator hands to the loop: a level, and the state behind it. -/
def KeptR (Q sb : Nat) (x : Int × St) (v : Array Value) (W : World) : Prop := ∃ B c, v = #[(.int .i64 (x.1)), .agg #[(.int .i64 (x.2.h)), (.int .i64 ((x.2.lv : Int))), .slice (some B) Q c]] ∧ Cells W (some B) x.2.ps ∧ B.block ≠ sb

set_option maxRecDepth 100000 in
set_option maxHeartbeats 4000000 in
theorem kept1_iter (lk ht rc : Int) (s : St) (ts gs ls : List Int) (A1 A2 A3 A5 : Option Addr) (M L Q N c1 c2 c3 c5 : Nat) (Gb Sb Lb sb : Nat) (w : World) (n : Nat) (hM : M = ts.length) (hQ : Q = s.ps.length) (hN : N = ls.length)
    (hV : Valid lk ht rc ts gs) (hS : Good ht rc ts gs s) (hl : inB 2048 ls) (hn : N ≤ 5000) (hL : Lim w) (hT : Cells w A1 ts) (hP : Cells w A3 s.ps) (hX : Cells w A5 ls)
    (kG : Blk w Gb #[(.int .i64 lk), (.int .i64 ht), .slice A1 M c1, (.int .i64 rc), .slice A2 L c2]) (kS : Blk w Sb #[(.int .i64 (s.h)), (.int .i64 ((s.lv : Int))), .slice A3 Q c3]) (kL : Blk w Lb #[.slice A5 N c5]) (o0 : sb ≠ 0) (o1 : Off sb A1) (o3 : Off sb A3) (o5 : Off sb A5) (oG : Gb ≠ sb) (oS : Sb ≠ sb) (oL : Lb ≠ sb) (hsb : sb < Gb) (h1n : 1 ≤ n) :
    IterR Fence.wide n Tryz.prog 92 #[.pointer (some ⟨Lb, 0, none⟩), .pointer (some ⟨Gb, 0, none⟩), .pointer (some ⟨Sb, 0, none⟩)] 2 (KeptR Q sb) (keptK lk ht rc ts s ls N) (Rest sb w.heap.size) w := by
  intro l J W hCW hCl hle hJb hY h00
  have hfn : ∀ f, Fence.wide.fn f = True := fun _ => rfl
  have HE : Hid (∀ W' : World, (∀ k, Rest sb w.heap.size k → W'.heap[k]? = w.heap[k]?) → Blk W' Gb #[(.int .i64 lk), (.int .i64 ht), .slice A1 M c1, (.int .i64 rc), .slice A2 L c2] ∧ Blk W' Sb #[(.int .i64 (s.h)), (.int .i64 ((s.lv : Int))), .slice A3 Q c3] ∧ Blk W' Lb #[.slice A5 N c5] ∧ Cells W' A1 ts ∧ Cells W' A3 s.ps ∧ Cells W' A5 ls ∧ Lim W') := Lib.hid (fun W' hW =>
    ⟨kG.of_block (hW _ ⟨kG.lt, oG⟩), kS.of_block (hW _ ⟨kS.lt, oS⟩), kL.of_block (hW _ ⟨kL.lt, oL⟩), hT.rest o1 hW, hP.rest o3 hW, hX.rest o5 hW, hL.rest o0 hW⟩)
  have HYB : Hid (∀ k, -2048 ≤ ls.getD k 0 ∧ ls.getD k 0 ≤ 2048) := Lib.hid (fun k => inB_get hl (by omega) k)
  have HBH : Hid (∀ (W : World) (y : Int), (-2048 ≤ y ∧ y ≤ 2048) → Cells W A1 ts → Cells W A3 s.ps → Calls Tryz.prog 52 #[.agg #[(.int .i64 lk), (.int .i64 ht), .slice A1 M c1, (.int .i64 rc), .slice A2 L c2], .agg #[(.int .i64 (s.h)), (.int .i64 ((s.lv : Int))), .slice A3 Q c3], (.int .i64 y)] W fun r w' => (∃ B, W.heap.size ≤ B.block ∧ r = .returned (.tuple #[.agg #[(.int .i64 ((nextF lk s y).h)), (.int .i64 ((s.lv : Int))), .slice (some B) Q Q], (.int .i64 (exF ts s.ps y))]) ∧ Cells w' (some B) (nextF lk s y).ps) ∧ Below W.heap.size W w') := Lib.hid (fun W y hy q1 q2 => by
    have e := hS.pl
    have e2 := hV.tl
    have e3 := hS.h
    have e4 := hV.ht
    rw [hM, hQ]
    exact behind_any lk ht rc s.h (s.lv : Int) y ts s.ps A1 A2 A3 c1 L c2 c3 W hV.lk ⟨e3.1, by omega⟩ q1 q2 e (by omega) hV.tb hS.pb hy)
  have HFI : Hid (∀ (W : World) (y : Int) (B : Addr), (-2048 ≤ y ∧ y ≤ 2048) → Lim W → Cells W A1 ts → Cells W (some B) (nextF lk s y).ps → Calls Tryz.prog 80 #[.agg #[(.int .i64 lk), (.int .i64 ht), .slice A1 M c1, (.int .i64 rc), .slice A2 L c2], .agg #[(.int .i64 ((nextF lk s y).h)), (.int .i64 ((s.lv : Int))), .slice (some B) Q Q], (.int .i64 (exF ts s.ps y))] W fun r w' => r = .returned (.bool (keepB lk ht rc ts s y)) ∧ Below W.heap.size W w') := Lib.hid (fun W y B hy q0 q1 q2 => by
    have e := pushL_len s.ps y
    have e1 := hS.pl
    have e2 := hV.tl
    have e3 := hS.h
    have e4 := hV.ht
    have e5 := sq_bd hy
    have e6 := coolF_bd lk e3.1
    have := fine_any lk ht rc (coolF lk s.h + y * y) (s.lv : Int) (exF ts s.ps y) ts (pushL s.ps y) A1 A2 (some B) c1 L c2 Q W q0 hV.lk (by omega) q1 q2 (by omega) (by omega) hV.tb (inB_push hS.pb hy) (exF_bd hV.tb hS.pb hy (by omega))
    rw [e, ← hM, ← hQ] at this
    exact this)
  have HKT : Hid (∀ k, keepB lk ht rc ts s (ls.getD k 0) = true → keptK lk ht rc ts s ls (k + 1) = keptK lk ht rc ts s ls k ++ [(ls.getD k 0, nextF lk s (ls.getD k 0))]) := Lib.hid (fun k h => keptK_true h)
  have HKF : Hid (∀ k, keepB lk ht rc ts s (ls.getD k 0) = false → keptK lk ht rc ts s ls (k + 1) = keptK lk ht rc ts s ls k) := Lib.hid (fun k h => keptK_false h)
  have HKP : Hid (∀ k, k < N → keepB lk ht rc ts s (ls.getD k 0) = true → ∃ post, keptK lk ht rc ts s ls N = keptK lk ht rc ts s ls k ++ (ls.getD k 0, nextF lk s (ls.getD k 0)) :: post) := Lib.hid (fun k h1 h2 => keptK_post h1 h2)
  have HK0 : Hid (keptK lk ht rc ts s ls 0 = []) := Lib.hid rfl
  have HCW := Lib.hid hCW
  have HJB := Lib.hid hJb
  have HY := Lib.hid hY
  have HN := Lib.hid hN
  have HSB := Lib.hid hsb
  have hlv : ∀ y, (nextF lk s y).lv = s.lv := fun _ => rfl
  have HLV := Lib.hid hlv
  obtain ⟨KK, hKK⟩ : ∃ KK : Nat → List (Int × St), KK = keptK lk ht rc ts s ls := ⟨_, rfl⟩
  rw [← hKK] at HKT HKF HKP HK0 HY ⊢
  obtain ⟨KB, hKB⟩ : ∃ KB : Int → Bool, KB = keepB lk ht rc ts s := ⟨_, rfl⟩
  rw [← hKB] at HKT HKF HKP HFI
  obtain ⟨NX, hNX⟩ : ∃ NX : Int → St, NX = nextF lk s := ⟨_, rfl⟩
  rw [← hNX] at HKT HKP HBH HFI HLV
  obtain ⟨EX, hEX⟩ : ∃ EX : Int → Int, EX = exF ts s.ps := ⟨_, rfl⟩
  rw [← hEX] at HBH HFI
  obtain ⟨kG0, kS0, kL0, _⟩ := HE.out W HCW.out
  obtain ⟨g0, g1, g2, g3, g4, gl, gf⟩ := kG0.o5
  obtain ⟨s0, s1, s2, sl, sf⟩ := kS0.o3
  obtain ⟨l0, ll, lf⟩ := kL0.o1
  clear hCW hCl hJb hY hV hS hl hL hT hP hX kG kS kL o0 o1 o3 o5 oG oS oL hsb hM hQ hN hlv hKK hKB hNX hEX kG0 kS0 kL0
  refine callsIn_of_wp Tryz.func92 rfl trivial ?_ rfl
  simp only [Tryz.ntmps92, List.size_toArray, List.length_cons, List.length_nil, Nat.reduceAdd, Nat.reduceSub, Array.replicate_succ, Array.replicate_zero, List.push_toArray, List.append_toArray, List.nil_append, List.cons_append]
  gi_wp2
  gi_loopw [11] (fun i wr => ∃ k : Nat, k ≤ N ∧ i = (.int .i64 ((k : Int))) ∧ J (KK k) wr ∧ ∀ j, Rest sb w.heap.size j → wr.heap[j]? = w.heap[j]?) (fun i _ => N - (intOf i).toNat)
  case atStart => exact ⟨0, Nat.zero_le _, rfl, by rw [HK0.out]; exact h00, HCW.out⟩
  case round =>
    obtain ⟨k, hk, rfl, hJ1, hC1⟩ := hrel
    clear g0 g1 g2 g3 g4 gl gf s0 s1 s2 sl sf l0 ll lf
    by_cases hk2 : k < N
    · obtain ⟨kG1, kS1, kL1, hT1, hP1, hX1, hL1⟩ := HE.out wr hC1
      obtain ⟨b5, o5, rfl, lb5, hin⟩ := hX1 (by rw [← HN.out]; omega)
      have x5 := hin k (by rw [← HN.out]; exact hk2)
      obtain ⟨g0, g1, g2, g3, g4, gl, gf⟩ := kG1.o5
      obtain ⟨s0, s1, s2, sl, sf⟩ := kS1.o3
      obtain ⟨l0, ll, lf⟩ := kL1.o1
      have HYB1 := HYB.out k
      have HKT1 := HKT.out k
      have HKF1 := HKF.out k
      have HKP1 := HKP.out k hk2
      obtain ⟨Y, hY⟩ : ∃ Y, Y = ls.getD k 0 := ⟨_, rfl⟩
      rw [← hY] at x5 HYB1 HKT1 HKF1 HKP1
      have HBH1 := Lib.hid (HBH.out wr Y HYB1 hT1 hP1)
      have HFI1 := Lib.hid (fun W B => HFI.out W Y B HYB1)
      have HKT1 := Lib.hid HKT1
      have HKF1 := Lib.hid HKF1
      have HKP1 := Lib.hid HKP1
      have HLV1 := Lib.hid (HLV.out Y)
      obtain ⟨O, hO⟩ : ∃ O, O = KB Y := ⟨_, rfl⟩
      rw [← hO] at HFI1 HKT1 HKF1 HKP1
      have HG1 := Lib.hid kG1
      have HLT := Lib.hid (fun j (hj : Rest sb w.heap.size j) => (show j < wr.heap.size from by have e := hC1 j hj; rw [Array.getElem?_eq_getElem hj.1] at e; exact (Array.getElem?_eq_some_iff.1 e).1))
      have HS1 := Lib.hid kS1
      have HT1 := Lib.hid hT1
      have HL1 := Lib.hid hL1
      have HJ1 := Lib.hid hJ1
      have HC1 := Lib.hid hC1
      clear kG1 kS1 kL1 hT1 hP1 hX1 hL1 hJ1 hC1 hin hY hO HYB1
      cases O with
      | false =>
        gi_wp2_with (first
          | (gi_at_call 52; refine (callsIn_wide.2 HBH1.out).mono ?_; rintro r w1 ⟨⟨B, hBb, rfl, hC1⟩, hb1⟩; obtain ⟨hc1, hf1⟩ := bcell hb1; have hs1 := hb1.size; have gl1 : Gb < w1.heap.size := (by omega); have sl1 : Sb < w1.heap.size := (by omega); have HC1c := Lib.hid hC1; have HW1 := Lib.hid hb1; clear hC1 hb1)
          | (gi_at_call 80; refine (callsIn_wide.2 (HFI1.out _ B (HL1.out.below (HW1.out.alloc hs1 _)) (HT1.out.below (HW1.out.alloc hs1 _)) (HC1c.out.below (by (repeat (first | (with_reducible exact Below.refl _ _) | ((with_reducible refine Below.setCell ?_ ?_ _); rotate_left 1; focus (first | (simp; done) | (simp; omega) | (simp at *; omega))) | ((with_reducible refine Below.alloc ?_ ?_ _); rotate_left 1; focus (first | (simp; done) | (simp; omega) | (simp at *; omega))) | (with_reducible refine Below.drew ?_) | ((with_reducible refine Calm.step (by assumption) ?_ ?_); rotate_left 1; focus (first | (simp; done) | (simp; omega) | (simp at *; omega))))))))).mono ?_; rintro r w3 ⟨rfl, hb3⟩; have HW3 := Lib.hid (show Below wr.heap.size wr w3 from (HW1.out.alloc hs1 _).trans (hb3.mono (by simp; omega))); clear hb3))
        go_roundw
        case rel => exact ⟨k + 1, by omega, by go_num, by rw [HKF1.out trivial]; exact HJB.out _ _ _ HJ1.out HW3.out, fun j hj => (HW3.out.block j (HLT.out j hj)).trans (HC1.out j hj)⟩
        case measure => simp [intOf]; omega
      | true =>
        gi_wp2_with (first
          | (gi_at_call 52; refine (callsIn_wide.2 HBH1.out).mono ?_; rintro r w1 ⟨⟨B, hBb, rfl, hC1⟩, hb1⟩; obtain ⟨hc1, hf1⟩ := bcell hb1; have hs1 := hb1.size; have gl1 : Gb < w1.heap.size := (by omega); have sl1 : Sb < w1.heap.size := (by omega); have HC1c := Lib.hid hC1; have HW1 := Lib.hid hb1; clear hC1 hb1)
          | (gi_at_call 80; refine (callsIn_wide.2 (HFI1.out _ B (HL1.out.below (HW1.out.alloc hs1 _)) (HT1.out.below (HW1.out.alloc hs1 _)) (HC1c.out.below (by (repeat (first | (with_reducible exact Below.refl _ _) | ((with_reducible refine Below.setCell ?_ ?_ _); rotate_left 1; focus (first | (simp; done) | (simp; omega) | (simp at *; omega))) | ((with_reducible refine Below.alloc ?_ ?_ _); rotate_left 1; focus (first | (simp; done) | (simp; omega) | (simp at *; omega))) | (with_reducible refine Below.drew ?_) | ((with_reducible refine Calm.step (by assumption) ?_ ?_); rotate_left 1; focus (first | (simp; done) | (simp; omega) | (simp at *; omega))))))))).mono ?_; rintro r w3 ⟨rfl, hb3⟩; refine Hid.out ?_))
        have HW3 := Lib.hid (show Below wr.heap.size wr w3 from (HW1.out.alloc hs1 _).trans (hb3.mono (by simp; omega)))
        have hs3 := hb3.size
        simp only [World.size_alloc] at hs3
        have KN : Blk w3 w1.heap.size #[(.int .i64 ((NX Y).h)), (.int .i64 ((s.lv : Int))), .slice (some B) Q Q] := (Blk.new w1 _ _).below hb3
        obtain ⟨n0, n1, n2, nl, nf⟩ := KN.o3
        have hC3 : Cells w3 (some B) (NX Y).ps := (HC1c.out.below ((Below.refl _ _).alloc (Nat.le_refl _) _)).below hb3
        have hJ3 := HJB.out _ _ _ HJ1.out HW3.out
        have hK3 : ∀ j, Rest sb w.heap.size j → w3.heap[j]? = w.heap[j]? := fun j hj => (HW3.out.block j (HLT.out j hj)).trans (HC1.out j hj)
        obtain ⟨fn, tmps, assign, body, hy, hR⟩ := HY.out _ (Y, NX Y) #[(.int .i64 Y), .agg #[(.int .i64 ((NX Y).h)), (.int .i64 ((s.lv : Int))), .slice (some B) Q Q]] w3 hJ3 hK3 (HKP1.out trivial) rfl ⟨B, Q, by rw [HLV1.out], hC3, by have := HSB.out; have : w1.heap.size ≥ wr.heap.size := hs1; show B.block ≠ sb; omega⟩
        have HR := Lib.hid hR
        have HK3 := Lib.hid hK3
        clear hb3 KN hC3 hJ3 hK3 hR
        unfold Hid
        gi_wp2
        refine HR.out.mono ?_
        rintro e W5 ⟨rfl, hJ5, hC5⟩
        have HC6 : Hid (∀ j, Rest sb w.heap.size j → W5.heap[j]? = w.heap[j]?) := Lib.hid (fun j hj => (hC5 j hj).trans (HK3.out j hj))
        have HJ5 := Lib.hid hJ5
        clear hJ5 hC5 hy HR n0 n1 n2 nl nf
        gi_wp2
        go_roundw
        case rel =>
          exact ⟨k + 1, by omega, by go_num, by rw [HKT1.out trivial]; exact HJ5.out, HC6.out⟩
        case measure => simp [intOf]; omega
    · obtain rfl : k = N := by omega
      gi_wp2
      go_end0
      exact ⟨⟨_, rfl⟩, hJ1⟩
end Go.Proofs.YtdeapbihbhoefaaGreatDoor
