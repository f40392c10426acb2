/- Part 6 of the texts of the claim: LaidP, IterM, P8, P10, P11. -/
import Derived.Test.YtleemphfkhbhaaaDoorCards
import Derived.Test.YtleemphfkhbhaaaDoorTie
import Derived.Test.YtleemphfkhbhaaaDoorMl4
import Derived.Deep.DeepHandedRow
import Derived.Deep.Slices
import Derived.LaidMore
import Derived.Test.YtleemphfkhbhaaaDoorMl5
import Derived.RangeFuncNested
import Derived.RangeFuncBound
import Derived.RangeFuncCalls
import Derived.RangeFuncLeaves
import Derived.Test.YtleemphfkhbhaaaDoorMl2
import Derived.WalkSmall
import Derived.WalkMore

/- What the rows' list gives: the table of the conditions. A world for the witnesses. Arguments opened: guards, sections, signals. -/
namespace Go.Proofs.YtleemphfkhbhaaaDoor
open Go.ChangeShapes Go.WideShapes Go.ChangeAt Go.RowKit Go.Flat
open Calm (bcell)

/-- the rows' list. -/
noncomputable def laidList : List (String × DataW Unit) := [("woofer/protect.conditions", Rows.laid_woofer_protect_conditions)]
theorem own : ownKnob Tryd.prog.godebug = none := by kernel_rfl
theorem laidOut : laidOutB Tryd.prog = true := by kernel_rfl
theorem gCond : Tryd.prog.globalNamed "woofer/protect.conditions" = some 0 := by kernel_rfl
theorem tCond : (Tryd.prog.globals[0]?).map (·.type) = some 110 := by kernel_rfl
theorem cellsCond : Tryd.prog.cellsOf 109 = 1 := by kernel_rfl

set_option maxRecDepth 100000 in
theorem cond_of_trod {w : World} {fuel : Nat} {cs : List Value} {b : UInt8} {r : List UInt8} {q : List MemPlace} {f0 : FuncId} (hone : ((List.range Tryd.prog.funcs.size).filter fun f => (Tryd.prog.funcs[f]?).any (·.name.toUTF8.data.toList == b :: r)) = [f0]) (hl : cs.length = 1)
    (h : DataW.trod (funcToken Tryd.prog) Tryd.prog w 0 (fun _ => true) true fuel 109 cs = some (.agg [.held (b :: r)], q)) : cs = [.func (.func f0) #[] #[]] := by
  obtain ⟨y0, n, hy, _, h0⟩ := trod_struct1 Tryd.underlying109 h
  match cs, hl with
  | [v], _ =>
  have h0' : DataW.trod (funcToken Tryd.prog) Tryd.prog w 0 (fun _ => true) true n 107 [v] = some y0 := h0
  obtain ⟨y, q'⟩ := y0
  obtain ⟨rfl, rfl⟩ : DataW.held (b :: r) = y ∧ q = q' := by simpa using hy
  rw [func_of_trod Tryd.underlying107 hone h0']

set_option maxRecDepth 100000 in
theorem lim_of_laid {W : World} (h : laidMetH Tryd.prog laidList W) : Lim W := by
  obtain ⟨g, t, cs, fuel, p, hg, ht, hv, hd⟩ := h.funcs (List.mem_singleton.2 rfl)
  obtain rfl := Option.some.inj (gCond.symm.trans hg)
  obtain rfl := Option.some.inj (tCond.symm.trans ht)
  obtain ⟨xs, n, _, hx, hl, hxl, hf⟩ := DataW.trod_array Tryd.underlying110 hd
  rw [cellsCond] at hf
  have hl3 : cs.toList.length = 3 := hl.trans (by kernel_rfl)
  obtain ⟨l⟩ := cs
  match l, hl3 with
  | [u0, u1, u2], _ =>
  match xs, hxl with
  | [x0, x1, x2], _ =>
  simp only [Prod.mk.injEq] at hx
  obtain ⟨hx, _⟩ := hx
  have hx' : [x0.1, x1.1, x2.1] = _ := (DataW.agg.inj hx).symm
  obtain ⟨y0, q0⟩ := x0
  obtain ⟨y1, q1⟩ := x1
  obtain ⟨y2, q2⟩ := x2
  simp only [List.cons.injEq, and_true] at hx'
  obtain ⟨rfl, rfl, rfl⟩ := hx'
  have k0 := cond_of_trod (f0 := 85) (by kernel_rfl) rfl (hf 0 (by omega) : _ = some _)
  have k1 := cond_of_trod (f0 := 86) (by kernel_rfl) rfl (hf 1 (by omega) : _ = some _)
  have k2 := cond_of_trod (f0 := 88) (by kernel_rfl) rfl (hf 2 (by omega) : _ = some _)
  have e0 : u0 = .func (.func 85) #[] #[] := by simpa using k0
  have e1 : u1 = .func (.func 86) #[] #[] := by simpa using k1
  have e2 : u2 = .func (.func 88) #[] #[] := by simpa using k2
  subst e0 e1 e2
  have hc : ∀ (i : Nat) (v : Value), (⟨[.func (.func 85) #[] #[], .func (.func 86) #[] #[], .func (.func 88) #[] #[]]⟩ : Array Value)[i]? = some v → W.cell? ⟨0, i, none⟩ = some v := fun i v hi => (World.var?_cell gCond hv i).trans hi
  have h0 := hc 0 _ rfl
  refine ⟨?_, h0, hc 1 _ rfl, hc 2 _ rfl⟩
  rcases Nat.lt_or_ge 0 W.heap.size with h' | h'
  · exact h'
  · unfold World.cell? at h0
    rw [show W.heap[(⟨0, 0, none⟩ : Addr).block]? = none from Array.getElem?_eq_none h'] at h0
    cases h0

theorem laid_met (os : Os) (args : Array Value) : laidMetH Tryd.prog laidList ((World.doorLaid Tryd.prog 35 os).forCall (fun _ _ => 0) ⟨#[], args, []⟩).memory :=
  laidMetH_of_parts3 (fuel := 8) (laidMet_of_run' 8 (by kernel_rfl) (by kernel_rfl)) (by kernel_rfl) (by kernel_rfl)
theorem door_vars (os : Os) (args : Array Value) : ((World.doorLaid Tryd.prog 35 os).forCall (fun _ _ => 0) ⟨#[], args, []⟩).variablesB Tryd.prog = true := by kernel_rfl
theorem door_rest (os : Os) (args : Array Value) : (((World.doorLaid Tryd.prog 35 os).forCall (fun _ _ => 0) ⟨#[], args, []⟩).heap.toList.drop Tryd.prog.globals.size).take ((begin Tryd.prog (fun _ _ => 0) default).world.heap.size - Tryd.prog.globals.size) =
      (begin Tryd.prog (fun _ _ => 0) default).world.heap.toList.drop Tryd.prog.globals.size := by kernel_rfl

section
variable {H : Type} {enc : TypeId × Value → H} {P : Program} {w : World} {base : Nat} {sp : Nat → Bool} {held : Bool}

theorem cell_lt {w : World} {b o : Nat} {v : Value} (h : w.cell? ⟨b, o, none⟩ = some v) : b < w.heap.size := by
  rcases Nat.lt_or_ge b w.heap.size with h' | h'
  · exact h'
  · unfold World.cell? at h
    rw [show w.heap[(⟨b, o, none⟩ : Addr).block]? = none from Array.getElem?_eq_none h'] at h
    cases h

/-- a slice whose elements are made of integers alone. -/
theorem open_slab (m : Nat) {t e : TypeId} {k : Nat} {fuel : Nat} {cs : List Value} {x : DataW H × List MemPlace} (ht : P.underlying t = some (.slice e)) (he : intsB P m e = true) (hk : P.cellsOf e = k) (hk0 : 0 < k)
    (h : DataW.trod enc P w base sp held fuel t cs = some x) :
    ∃ (A : Option Addr) (len cap : Nat) (zs : Nat → List Int), cs = [.slice A len cap] ∧ len ≤ cap ∧ cap ≤ maxLen ∧ (∀ i, i < len → (zs i).length = k) ∧
      (0 < len → ∃ b o, A = some ⟨b, o, none⟩ ∧ b < w.heap.size ∧ ∀ i j, i < len → j < k → w.cell? ⟨b, o + i * k + j, none⟩ = some (.int .i64 ((zs i).getD j 0))) := by
  subst hk
  rcases Deep.open_slice ht h with ⟨rfl, _⟩ | ⟨a, len, cap, m', n, D, Pl, rfl, _, h1, h2, h3, _, h4⟩
  · exact ⟨none, 0, 0, fun _ => [], rfl, Nat.le_refl _, Nat.zero_le _, fun i hi => by omega, fun h0 => by omega⟩
  · have hlm : len ≤ m' := by rw [h3]; split <;> omega
    obtain ⟨zs, hzs⟩ := Deep.choose_lt (n := len) (α := List Int) (p := fun i z => z.length = P.cellsOf e ∧ ∀ j, j < P.cellsOf e → w.cell? ((a.add (i * P.cellsOf e)).add j) = some (.int .i64 (z.getD j 0))) (fun i hi => by
      obtain ⟨cs', hc, hx⟩ := h4 i (by omega)
      obtain ⟨_, hl, hcell⟩ := World.cells?_some hc
      obtain ⟨hcs, _⟩ := cells_of_ints m he hx
      refine ⟨flat m (D i), ?_, fun j hj => ?_⟩
      · have := congrArg List.length hcs
        simp at this
        omega
      · rw [hcell j hj, hcs]
        have hj' : j < (flat m (D i)).length := by
          have := congrArg List.length hcs
          simp at this
          omega
        simp [List.getD, hj'])
    refine ⟨some a, len, cap, zs, rfl, h1, h2, fun i hi => (hzs i hi).1, fun h0 => ?_⟩
    obtain ⟨b, o, s⟩ := a
    have hs : s = none := by
      have := World.cell?_spot ((hzs 0 h0).2 0 hk0)
      simpa [Addr.add] using this
    subst hs
    refine ⟨b, o, rfl, ?_, fun i j hi hj => ?_⟩
    · have := (hzs 0 h0).2 0 hk0
      rw [add_plain, add_plain] at this
      exact cell_lt this
    · have := (hzs i hi).2 j hj
      rwa [add_plain, add_plain] at this

/-- a slice of integers. -/
theorem open_cells (m : Nat) {t e : TypeId} {fuel : Nat} {cs : List Value} {x : DataW H × List MemPlace} (ht : P.underlying t = some (.slice e)) (he : intsB P m e = true) (hk : P.cellsOf e = 1)
    (h : DataW.trod enc P w base sp held fuel t cs = some x) : ∃ (A : Option Addr) (cap : Nat) (zs : List Int), cs = [.slice A zs.length cap] ∧ zs.length ≤ cap ∧ cap ≤ maxLen ∧ Cells w A zs := by
  obtain ⟨A, len, cap, zs, rfl, h1, h2, _, h3⟩ := open_slab m ht he hk (by omega) h
  refine ⟨A, cap, (List.range len).map fun i => (zs i).getD 0 0, by simp, by simpa using h1, h2, fun h0 => ?_⟩
  obtain ⟨b, o, hA, hb, hc⟩ := h3 (by simpa using h0)
  refine ⟨b, o, hA, hb, fun k hk => ?_⟩
  have hk' : k < len := by simpa using hk
  have := hc k 0 hk' (by omega)
  simp only [Nat.mul_one, Nat.add_zero] at this
  rw [this]
  simp [List.getD, hk']
end

set_option maxRecDepth 100000 in
/-- an argument that is a slice of integers, opened. -/
theorem open_islice {H : Type} {enc : TypeId × Value → H} {w : World} {base : Nat} {r : Reach} {b0 : Nat} {sp : Nat → Bool} {held : Bool} {v : Value} {d : DataW H} {p : List MemPlace}
    (hv : Value.okWide Tryd.prog w r b0 22 v) (hd : DataW.Trod enc Tryd.prog w base sp held 22 v d p) :
    ∃ (A : Option Addr) (c : Nat) (zs : List Int), v = .slice A zs.length c ∧ zs.length ≤ c ∧ c ≤ maxLen ∧ Cells w A zs := by
  obtain ⟨a, len, cap, rfl⟩ := okWide_slice Tryd.underlying22 hv
  obtain ⟨fuel, hf⟩ := hd
  have hf' : DataW.trod enc Tryd.prog w base sp held fuel 22 [.slice a len cap] = some (d, p) := hf
  obtain ⟨A, c, zs, e, h1, h2, k⟩ := open_cells 3 Tryd.underlying22 (by kernel_rfl) (by kernel_rfl) hf'
  exact ⟨A, c, zs, by simpa using e, h1, h2, k⟩

set_option maxRecDepth 100000 in
/-- a guard, opened: three integers and two slices of integers. -/
theorem open_guard {H : Type} {enc : TypeId × Value → H} {w : World} {base : Nat} {r : Reach} {b0 : Nat} {sp : Nat → Bool} {held : Bool} {v : Value} {d : DataW H} {p : List MemPlace}
    (hv : Value.okWide Tryd.prog w r b0 24 v) (hd : DataW.Trod enc Tryd.prog w base sp held 24 v d p) :
    ∃ (lk ht rc : Int) (A1 A2 : Option Addr) (c1 c2 : Nat) (ts gs : List Int), v = .agg #[(.int .i64 (lk)), (.int .i64 (ht)), .slice A1 ts.length c1, (.int .i64 (rc)), .slice A2 gs.length c2] ∧ Cells w A1 ts ∧ Cells w A2 gs := by
  obtain ⟨cs, rfl, hsz⟩ := okWide_struct Tryd.underlying24 hv
  obtain ⟨fuel, hf⟩ := hd
  obtain ⟨xs, n, _, _, hl, hxl, hf⟩ := DataW.trod_struct Tryd.underlying24 hf
  rw [show Tryd.prog.cellsOf 24 = 5 by kernel_rfl] at hsz
  obtain ⟨l⟩ := cs
  match l, hsz with
  | [u0, u1, u2, u3, u4], _ =>
  match xs, hxl with
  | [x0, x1, x2, x3, x4], _ =>
  have hi : Flat.intsB Tryd.prog 3 3 = true := by kernel_rfl
  have h0 : DataW.trod enc Tryd.prog w base sp held n 3 [u0] = some x0 := hf 0 _ rfl
  have h1 : DataW.trod enc Tryd.prog w base sp held n 3 [u1] = some x1 := hf 1 _ rfl
  have h2 : DataW.trod enc Tryd.prog w base sp held n 22 [u2] = some x2 := hf 2 _ rfl
  have h3 : DataW.trod enc Tryd.prog w base sp held n 3 [u3] = some x3 := hf 3 _ rfl
  have h4 : DataW.trod enc Tryd.prog w base sp held n 22 [u4] = some x4 := hf 4 _ rfl
  obtain ⟨lk, e0, _, _⟩ := DataW.trod_int Tryd.underlying3 h0
  obtain ⟨ht, e1, _, _⟩ := DataW.trod_int Tryd.underlying3 h1
  obtain ⟨rc, e3, _, _⟩ := DataW.trod_int Tryd.underlying3 h3
  obtain ⟨A1, c1, ts, e2, _, _, k1⟩ := open_cells 3 Tryd.underlying22 hi (by kernel_rfl) h2
  obtain ⟨A2, c2, gs, e4, _, _, k2⟩ := open_cells 3 Tryd.underlying22 hi (by kernel_rfl) h4
  obtain rfl : u0 = _ := by simpa using e0
  obtain rfl : u1 = _ := by simpa using e1
  obtain rfl : u2 = _ := by simpa using e2
  obtain rfl : u3 = _ := by simpa using e3
  obtain rfl : u4 = _ := by simpa using e4
  exact ⟨lk, ht, rc, A1, A2, c1, c2, ts, gs, rfl, k1, k2⟩

set_option maxRecDepth 100000 in
/-- sections, opened. -/
theorem open_secs {H : Type} {enc : TypeId × Value → H} {w : World} {base : Nat} {r : Reach} {b0 : Nat} {sp : Nat → Bool} {held : Bool} {v : Value} {d : DataW H} {p : List MemPlace}
    (hv : Value.okWide Tryd.prog w r b0 25 v) (hd : DataW.Trod enc Tryd.prog w base sp held 25 v d p) :
    ∃ (A : Option Addr) (c : Nat) (l : List Sec), v = .slice A l.length c ∧ SCells w A l := by
  obtain ⟨a, len, cap, rfl⟩ := okWide_slice Tryd.underlying25 hv
  obtain ⟨fuel, hf⟩ := hd
  have hf' : DataW.trod enc Tryd.prog w base sp held fuel 25 [.slice a len cap] = some (d, p) := hf
  obtain ⟨A, len', cap', zs, e, _, _, _, h3⟩ := open_slab 3 Tryd.underlying25 (by kernel_rfl) (show Tryd.prog.cellsOf 33 = 6 by kernel_rfl) (by omega) hf'
  obtain ⟨rfl, rfl, rfl⟩ : a = A ∧ len = len' ∧ cap = cap' := by simpa using e
  refine ⟨a, cap, (List.range len).map fun i => (⟨(zs i).getD 0 0, (zs i).getD 1 0, (zs i).getD 2 0, (zs i).getD 3 0, (zs i).getD 4 0, (zs i).getD 5 0⟩ : Sec), by simp, fun h0 => ?_⟩
  obtain ⟨b, o, hA, hb, hc⟩ := h3 (by simpa using h0)
  refine ⟨b, o, hA, hb, fun k hk => ?_⟩
  have hk' : k < len := by simpa using hk
  have hg : ((List.range len).map fun i => (⟨(zs i).getD 0 0, (zs i).getD 1 0, (zs i).getD 2 0, (zs i).getD 3 0, (zs i).getD 4 0, (zs i).getD 5 0⟩ : Sec)).getD k Sec0 = ⟨(zs k).getD 0 0, (zs k).getD 1 0, (zs k).getD 2 0, (zs k).getD 3 0, (zs k).getD 4 0, (zs k).getD 5 0⟩ := by
    simp [List.getD, hk']
  rw [hg]
  exact ⟨hc k 0 hk' (by omega), hc k 1 hk' (by omega), hc k 2 hk' (by omega), hc k 3 hk' (by omega), hc k 4 hk' (by omega), hc k 5 hk' (by omega)⟩
end Go.Proofs.YtleemphfkhbhaaaDoor

/- The law of 'for x, y := range seq' over an iterator that keeps a variable of its own in cells, reads some blocks, and calls; the body never leaves the loop. -/
namespace Go.Proofs.YtleemphfkhbhaaaDoor
open Go.RowKit

/-- Whatever lies in a block of S lies as it lay. -/
def Same (S : Nat → Prop) (W W' : World) : Prop := ∀ k o, S k → W.heap[k]? = some o → W'.heap[k]? = some o
theorem Same.refl (S : Nat → Prop) (W : World) : Same S W W := fun _ _ _ h => h
theorem Same.trans {S : Nat → Prop} {A B C : World} (h : Same S A B) (k : Same S B C) : Same S A C := fun i o hi ho => k i o hi (h i o hi ho)
theorem Same.alloc {S : Nat → Prop} {W W' : World} (h : Same S W W') (o : Obj) : Same S W (W'.alloc o) := fun k o1 hk ho => by
  have h1 := h k o1 hk ho
  exact (Below.heap_alloc _ _ _ (Array.getElem?_eq_some_iff.1 h1).1).trans h1
theorem Same.setCell {S : Nat → Prop} {W W' : World} (h : Same S W W') {p : Addr} (hp : ¬ S p.block) (u : Value) : Same S W (W'.setCell p u) := fun k o1 hk ho =>
  (Below.heap_setCell _ _ _ _ (fun e => hp (e ▸ hk))).trans (h k o1 hk ho)
theorem Same.drew {S : Nat → Prop} {W W' : World} (h : Same S W W') : Same S W W'.drew := h
theorem Same.below {S : Nat → Prop} {W W' W2 : World} (h : Same S W W') {B : Nat} (hb : Below B W' W2) (hS : ∀ k, S k → k < B) : Same S W W2 := fun k o1 hk ho =>
  (hb.block k (hS k hk)).trans (h k o1 hk ho)
theorem Same.grown {S : Nat → Prop} {W W' W2 : World} {row : Option Nat} (h : Same S W W') (hg : W'.grownBy W2 row) (hr : ∀ k, row = some k → ¬ S k) : Same S W W2 := fun k o1 hk ho => by
  have h1 := h k o1 hk ho
  exact (hg.block k (Array.getElem?_eq_some_iff.1 h1).1 (fun e => hr k e.symm hk)).trans h1
theorem Same.eq {S : Nat → Prop} {W W' : World} (h : Same S W W') {k : Nat} (hk : S k) (hl : k < W.heap.size) : W'.heap[k]? = W.heap[k]? := by
  have e := Array.getElem?_eq_getElem hl
  rw [h k _ hk e, e]

/-- The contract of an iterator that is entered with a heap of the size W.heap.size and lays its own block there; the blocks of C are read. -/
def IterM {α : Type} (F : Fence) (n : Nat) (P : Program) (g : Nat) (lb : Array Value) (enc : α → Array Value) (all : List α) (C : Nat → Prop) (w : World) : Prop :=
  ∀ (l : Nat) (J : List α → World → Prop) (W : World), (∀ k, C k → W.heap[k]? = w.heap[k]?) → (∀ k, C k → k < w.heap.size) → w.heap.size ≤ W.heap.size →
    (∀ pre W1 W2, J pre W1 → Below W1.heap.size W1 W2 → J pre W2) →
    (∀ pre W1 i v, J pre W1 → J pre (W1.setCell ⟨W.heap.size, i, none⟩ v)) →
    (∀ pre x W1, J pre W1 → W.heap.size < W1.heap.size → (∀ k, C k → W1.heap[k]? = w.heap[k]?) → (∃ post, all = pre ++ x :: post) →
      YieldAt F (n - 1) P l (enc x) W1 fun e W' => e = .returned (.bool true) ∧ J (pre ++ [x]) W' ∧ W'.heap[W.heap.size]? = W1.heap[W.heap.size]? ∧ ∀ k, C k → W'.heap[k]? = W1.heap[k]?) →
    J [] W →
    CallsIn F n P g (#[.func (.yield l) #[] #[]] ++ lb) W fun e W' => (∃ v, e = .returned v) ∧ J all W'

/-- How a body that never leaves the loop may end. -/
def iterPost (S : Nat → Prop) (W : World) (I : World → Prop) : Exit → Act → World → Prop
  | .normal, _, W' => Same S W W' ∧ I W'
  | _, _, _ => False

/-- the blocks that a round must leave alone: the three of the loop, from B on, and Cb. -/
def roundS (C : Nat → Prop) (B : Nat) (k : Nat) : Prop := C k ∨ k = B ∨ k = B + 1 ∨ k = B + 2

theorem range_iterM {F : Fence} {n : Nat} {P : Program} {α : Type} {g : Operand} {ps : Array Tmp} {assign body : Code} {Q : Exit → Act → World → Prop} {a : Act} {w : World}
    (hro : F.round = none) (h1 : 1 ≤ n) {gf : Nat} {lb : Array Value} (hg : a.eval g = .func (.func gf) #[] lb) (hFg : F.fn gf) (eg : ∀ args w, (callFunc gf args).run P w = .ok (.enter gf args) w)
    {enc : α → Array Value} {all : List α} {C : Nat → Prop} (hC : ∀ k, C k → k < w.heap.size) (hseq : IterM F (n - 1) P gf lb enc all C w) (hps : ∀ x, ps.size = (enc x).size)
    (I : List α → World → Prop) (hI : OwnFrom w.heap.size I) (hIs : ∀ pre W i v, I pre W → I pre (W.setCell ⟨w.heap.size + 2, i, none⟩ v)) (h0 : I [] w)
    (Ax : List α → α → Act → World → Prop) (hAx : ∀ pre x a', OwnFrom w.heap.size (fun (_ : Unit) W => Ax pre x a' W))
    (hassign : ∀ (l : Nat) (pre : List α) (x : α) (W : World), I pre W → (∃ post, all = pre ++ x :: post) → w.heap.size + 2 < W.heap.size → (∀ k, C k → W.heap[k]? = w.heap[k]?) →
      assign.wpIn (F.inRound l) (n - 1 - 1) P (Exit.then (fun a' W' => Same (roundS C w.heap.size) W W' ∧ Ax pre x a' W') (fun _ _ _ => False)) { tmps := (ps.zip (enc x)).foldl (fun t (p, v) => t.setIfInBounds p v) a.tmps, defers := [] } W)
    (hbody : ∀ (l : Nat) (pre : List α) (x : α) (a' : Act) (W : World), Ax pre x a' W → (∃ post, all = pre ++ x :: post) → w.heap.size + 2 < W.heap.size → (∀ k, C k → W.heap[k]? = w.heap[k]?) →
      body.wpIn (F.inRound l) (n - 1 - 1) P (iterPost (roundS C w.heap.size) W (I (pre ++ [x]))) a' W)
    (hdone : ∀ (W : World), I all W → W.heap[w.heap.size]? = some (.deferred (some [])) → Q .normal { a with defers := { target := .collected w.heap.size, args := #[] } :: a.defers } W) :
    (Code.rangeFunc g ps assign body).wpIn F n P Q a w := by
  refine wpIn_rangeFunc ?_
  intro fn hfn
  rw [hro]
  obtain ⟨rec, hrec⟩ : ∃ rec : LoopState → Option Code → Loop, rec = fun st pe => { state := st, pending := pe, fn, tmps := a.tmps, params := ps, assign, body, defers := w.heap.size } := ⟨_, rfl⟩
  obtain ⟨W1, hW1⟩ : ∃ W1, (w.alloc (.deferred (some []))).alloc (.loop (rec .ready none)) = W1 := ⟨_, rfl⟩
  have hL1 : W1.heap[w.heap.size + 1]? = some (.loop (rec .ready none)) := by
    rw [← hW1]; have := World.alloc_heap_new (w.alloc (.deferred (some []))) (.loop (rec .ready none)); rwa [World.size_alloc] at this
  have hK1 : W1.heap[w.heap.size]? = some (.deferred (some [])) := by
    rw [← hW1]; exact (Below.heap_alloc _ _ _ (by simp)).trans (World.alloc_heap_new w _)
  have hI1 : I [] W1 := by rw [← hW1]; exact hI.alloc _ (hI.alloc _ h0)
  have hC1 : ∀ k, C k → W1.heap[k]? = w.heap[k]? := fun k hk => by
    have := hC k hk
    rw [← hW1, Below.heap_alloc _ _ _ (by simp; omega), Below.heap_alloc _ _ _ this]
  have hs1 : W1.heap.size = w.heap.size + 2 := by rw [← hW1]; simp
  refine ⟨w.heap.size + 1, [{ target := .collected w.heap.size, args := #[] }], W1, { target := .fn (.func gf) lb, args := #[.func (.yield (w.heap.size + 1)) #[] #[]] }, W1, gf,
    #[.func (.yield (w.heap.size + 1)) #[] #[]] ++ lb, W1, ?_, ?_, ?_, ?_, fun _ => h1, ?_⟩
  · rw [← hW1, hrec]; exact run_enterLoop_outer _ _ _ _ _
  · simp only [resolve, hg]
    simp [go_sem]
  · intro f' hf'; simp [Target.leads] at hf'; subst hf'; exact hFg
  · simp [invoke, go_sem, eg]
  · refine (hseq (w.heap.size + 1)
      (fun pre W => I pre W ∧ W.heap[w.heap.size + 1]? = some (.loop (rec .ready none)) ∧ W.heap[w.heap.size]? = some (.deferred (some [])))
      W1 hC1 hC (by omega)
      (fun pre A B hs hb => ⟨hI pre A B none hs.1 ⟨hb.os, hb.tape, hb.output, hb.size, fun k hk _ => hb.block k hk⟩ (by simp), (hb.block _ (Array.getElem?_eq_some_iff.1 hs.2.1).1).trans hs.2.1, (hb.block _ (Array.getElem?_eq_some_iff.1 hs.2.2).1).trans hs.2.2⟩)
      (fun pre A i v hs => ⟨by rw [hs1]; exact hIs _ _ _ _ hs.1, (Below.heap_setCell _ _ _ _ (by rw [hs1]; intro e; simp at e)).trans hs.2.1, (Below.heap_setCell _ _ _ _ (by rw [hs1]; intro e; simp at e)).trans hs.2.2⟩)
      ?_ ⟨hI1, hL1, hK1⟩).mono ?_
    · -- ONE ROUND
      rintro pre x W ⟨hi, hl, hk⟩ hsz hcb hpost
      rw [hs1] at hsz ⊢
      have hlt : w.heap.size + 1 < W.heap.size := by omega
      have hy := run_yield (P := P) (args := enc x) hl (by rw [hrec]; simp [hps x])
      rw [hrec] at hy
      refine ⟨fn, _, assign, body, hy, roundIn_of_wpIn hfn (wpIn_mono (hassign _ pre x W hi hpost hsz hcb) ?_)⟩
      clear hy
      rintro e a' Wa hq
      cases e with
      | normal =>
        obtain ⟨hS, hax⟩ := hq
        have hl' := hS _ _ (.inr (.inr (.inl rfl))) hl
        have hk' := hS _ _ (.inr (.inl rfl)) hk
        have hsz' : w.heap.size + 2 < Wa.heap.size := by
          have := hS (w.heap.size + 2) _ (.inr (.inr (.inr rfl))) (Array.getElem?_eq_getElem hsz)
          exact (Array.getElem?_eq_some_iff.1 this).1
        have hcb' : ∀ k, C k → Wa.heap[k]? = w.heap[k]? := fun k hk => (hS.eq (.inl hk) (by have := hC k hk; omega)).trans (hcb k hk)
        have hD' : Wa.heap[w.heap.size + 2]? = W.heap[w.heap.size + 2]? := hS.eq (.inr (.inr (.inr rfl))) hsz
        refine ⟨_, run_beginRound hl' (by rw [hrec]), ?_⟩
        obtain ⟨Wb, hWb⟩ : ∃ Wb, Wa.putObj (w.heap.size + 1) (.loop { rec .ready none with state := .busy }) = Wb := ⟨_, rfl⟩
        have hl2 : Wb.heap[w.heap.size + 1]? = some (.loop { rec .ready none with state := .busy }) := by rw [← hWb]; exact World.putObj_heap_same (by omega)
        have hk2 : Wb.heap[w.heap.size]? = some (.deferred (some [])) := by rw [← hWb]; exact (World.putObj_heap_other (by omega)).trans hk'
        have hcb2 : ∀ k, C k → Wb.heap[k]? = w.heap[k]? := fun k hk => by have := hC k hk; rw [← hWb]; exact (World.putObj_heap_other (by omega)).trans (hcb' k hk)
        have hD2 : Wb.heap[w.heap.size + 2]? = W.heap[w.heap.size + 2]? := by rw [← hWb]; exact (World.putObj_heap_other (by omega)).trans hD'
        have hsz2 : w.heap.size + 2 < Wb.heap.size := by rw [← hWb]; simpa using hsz'
        have hax2 : Ax pre x a' Wb := by rw [← hWb]; exact (hAx pre x a').putObj (s := ()) _ hax (by omega) hl' rfl
        show body.wpIn _ _ _ _ _ (Wa.putObj (w.heap.size + 1) (.loop { rec .ready none with state := .busy }))
        rw [hWb]
        refine wpIn_mono (hbody _ pre x a' Wb hax2 hpost hsz2 hcb2) ?_
        rintro e a3 W3 hp
        cases e with
        | normal =>
          obtain ⟨hS3, hi3⟩ := hp
          have hl3 := hS3 _ _ (.inr (.inr (.inl rfl))) hl2
          have hk3 := hS3 _ _ (.inr (.inl rfl)) hk2
          have hr := run_endRound (P := P) none hl3
          have hC3 : ∀ k, C k → W3.heap[k]? = W.heap[k]? := fun k hk => ((hS3.eq (.inl hk) (by have := hC k hk; omega)).trans (hcb2 k hk)).trans (hcb k hk).symm
          have hD3 : W3.heap[w.heap.size + 2]? = W.heap[w.heap.size + 2]? := (hS3.eq (.inr (.inr (.inr rfl))) hsz2).trans hD2
          rw [hrec] at hr
          refine ⟨_, _, hr, rfl, ⟨hI.putObj _ hi3 (by omega) hl3 rfl, ?_, ?_⟩, ?_, ?_⟩
          · rw [hrec]; exact World.putObj_heap_same (Array.getElem?_eq_some_iff.1 hl3).1
          · exact (World.putObj_heap_other (by omega)).trans hk3
          · exact (World.putObj_heap_other (by omega)).trans hD3
          · exact fun k hk => (World.putObj_heap_other (by have := hC k hk; omega)).trans (hC3 k hk)
        | exit id => exact hp.elim
        | goto t => exact hp.elim
        | ret => exact hp.elim
        | panic ch => exact hp.elim
        | outgrown => exact hp.elim
      | exit id => exact hq.elim
      | goto t => exact hq.elim
      | ret => exact hq.elim
      | panic ch => exact hq.elim
      | outgrown => exact hq.elim
    · -- BEHIND THE ITERATOR
      rintro e W2 ⟨⟨v, rfl⟩, hi, hl, hk⟩
      exact ⟨none, _, by have := run_endLoop (P := P) hl (by rw [hrec]; simp); rw [hrec] at this; exact this, hdone _ (hI.putObj _ hi (by omega) hl rfl) ((World.putObj_heap_other (by omega)).trans hk)⟩
end Go.Proofs.YtleemphfkhbhaaaDoor

/- Contract of (Guard).step: the greatest permitted gain. -/
namespace Go.Proofs.YtleemphfkhbhaaaDoor
open Go.RowKit
open Calm (bcell Blk)

/-- an input by a gain, rounded towards 0. -/
def byF (x g : Int) : Int := Int.tdiv (x * g) 16
theorem byF_bd {x g : Int} (hx : -2048 ≤ x ∧ x ≤ 2048) (hg : 0 ≤ g ∧ g ≤ 16) : -2048 ≤ byF x g ∧ byF x g ≤ 2048 := by
  have h := mul_bd hx (show -16 ≤ g ∧ g ≤ 16 by omega)
  unfold byF
  rcases Int.le_total 0 (x * g) with h0 | h0
  · rw [Int.tdiv_eq_ediv_of_nonneg h0]; omega
  · have e : Int.tdiv (x * g) 16 = -((-(x * g)) / 16) := by
      rw [← Int.tdiv_eq_ediv_of_nonneg (by omega), Int.neg_tdiv, Int.neg_neg]
    rw [e]; omega
/-- whether the gain at an index is permitted. -/
def okAt (lk ht rc h x : Int) (ts ps gs : List Int) (k : Nat) : Bool :=
  fineF ht rc (coolF lk h + byF x (gs.getD k 0) * byF x (gs.getD k 0)) (exF ts ps (byF x (gs.getD k 0))) ts (pushL ps (byF x (gs.getD k 0)))
/-- the greatest permitted index below n. -/
def stepK (lk ht rc h x : Int) (ts ps gs : List Int) : Nat → Option Nat
  | 0 => none
  | n + 1 => if okAt lk ht rc h x ts ps gs n then some n else stepK lk ht rc h x ts ps gs n
theorem stepK_lt {lk ht rc h x : Int} {ts ps gs : List Int} {k : Nat} : ∀ {n : Nat}, stepK lk ht rc h x ts ps gs n = some k → k < n ∧ okAt lk ht rc h x ts ps gs k = true
  | 0, e => by cases e
  | n + 1, e => by
    unfold stepK at e
    split at e
    · rename_i h0; cases e; exact ⟨by omega, h0⟩
    · have := stepK_lt e; exact ⟨by omega, this.2⟩
theorem exF_bd {ts ps : List Int} {y : Int} (h1 : inB 64 ts) (h2 : inB 2048 ps) (h3 : -2048 ≤ y ∧ y ≤ 2048) (hn : ps.length ≤ 7) : -1099511627776 ≤ exF ts ps y ∧ exF ts ps y ≤ 1099511627776 := by
  have := exK_bd h1 h2 h3 ps.length
  unfold exF
  omega

set_option maxHeartbeats 4000000 in
set_option maxRecDepth 100000 in
theorem step_any (lk ht rc he x : Int) (lv : Nat) (ts ps gs : List Int) (A1 A2 A3 : Option Addr) (c1 c2 c3 : Nat) (w : World) (k : Nat) (hL : Lim w) (hlk : 1 ≤ lk ∧ lk ≤ 8) (hh : 0 ≤ he ∧ he ≤ 549755813888) (hT : Cells w A1 ts) (hG : Cells w A2 gs) (hP : Cells w A3 ps)
    (hn : ts.length = ps.length + 1) (hn2 : ps.length ≤ 7) (hg0 : 0 < gs.length) (hg : gs.length ≤ 8) (hlv : lv < gs.length) (bT : inB 64 ts) (bP : inB 2048 ps) (bG : ∀ k, 0 ≤ gs.getD k 0 ∧ gs.getD k 0 ≤ 16) (hx : -2048 ≤ x ∧ x ≤ 2048)
    (hk : stepK lk ht rc he x ts ps gs (min (lv + 1) (gs.length - 1) + 1) = some k) :
    Calls Tryd.prog 50 #[.agg #[(.int .i64 (lk)), (.int .i64 (ht)), .slice A1 ts.length c1, (.int .i64 (rc)), .slice A2 gs.length c2], .agg #[(.int .i64 (he)), (.int .i64 ((lv : Int))), .slice A3 ps.length c3], (.int .i64 (x))] w fun r w' => (∃ B, w.heap.size ≤ B.block ∧ r = .returned (.tuple #[(.int .i64 (byF x (gs.getD k 0))), .agg #[(.int .i64 (coolF lk he + byF x (gs.getD k 0) * byF x (gs.getD k 0))), (.int .i64 ((k : Int))), .slice (some B) ps.length ps.length]]) ∧
      Cells w' (some B) (pushL ps (byF x (gs.getD k 0)))) ∧ Below w.heap.size w w' := by
  obtain ⟨M, hM⟩ : ∃ M, M = ts.length := ⟨_, rfl⟩
  obtain ⟨N, hN⟩ : ∃ N, N = ps.length := ⟨_, rfl⟩
  obtain ⟨L, hLL⟩ : ∃ L, L = gs.length := ⟨_, rfl⟩
  have HY : Hid (∀ i, -2048 ≤ byF x (gs.getD i 0) ∧ byF x (gs.getD i 0) ≤ 2048) := Lib.hid (fun i => byF_bd hx (bG i))
  have q0 := coolF_bd lk hh.1
  have HYY : Hid (∀ i, byF x (gs.getD i 0) * byF x (gs.getD i 0) ≤ 4194304 ∧ 0 ≤ byF x (gs.getD i 0) * byF x (gs.getD i 0)) := Lib.hid (fun i => by
    have := mul_bd (HY.out i) (HY.out i)
    have h2 : 0 ≤ byF x (gs.getD i 0) * byF x (gs.getD i 0) := by rcases Int.le_total 0 (byF x (gs.getD i 0)) with h3 | h3; exact Int.mul_nonneg h3 h3; exact Int.mul_nonneg_of_nonpos_of_nonpos h3 h3
    omega)
  have HBH : Hid (∀ (W : World) (i : Nat) (y0 : Int), y0 = byF x (gs.getD i 0) → Cells W A1 ts → Cells W A3 ps → Calls Tryd.prog 32 #[.agg #[(.int .i64 (lk)), (.int .i64 (ht)), .slice A1 M c1, (.int .i64 (rc)), .slice A2 L c2], .agg #[(.int .i64 (he)), (.int .i64 ((lv : Int))), .slice A3 N c3], (.int .i64 (y0))] W fun r w' => (∃ B, W.heap.size ≤ B.block ∧ r = .returned (.tuple #[.agg #[(.int .i64 (coolF lk he + byF x (gs.getD i 0) * byF x (gs.getD i 0))), (.int .i64 ((lv : Int))), .slice (some B) N N], (.int .i64 (exF ts ps (byF x (gs.getD i 0))))]) ∧ Cells w' (some B) (pushL ps (byF x (gs.getD i 0)))) ∧ Below W.heap.size W w') := Lib.hid (fun W i y0 hy0 q1 q2 => by
    rw [hM, hN, hy0]; exact behind_any lk ht rc he lv (byF x (gs.getD i 0)) ts ps A1 A2 A3 c1 L c2 c3 W hlk ⟨hh.1, by omega⟩ q1 q2 hn hn2 bT bP (HY.out i))
  have HFI : Hid (∀ (W : World) (i : Nat) (B : Addr), Lim W → Cells W A1 ts → Cells W (some B) (pushL ps (byF x (gs.getD i 0))) → Calls Tryd.prog 61 #[.agg #[(.int .i64 (lk)), (.int .i64 (ht)), .slice A1 M c1, (.int .i64 (rc)), .slice A2 L c2], .agg #[(.int .i64 (coolF lk he + byF x (gs.getD i 0) * byF x (gs.getD i 0))), (.int .i64 ((lv : Int))), .slice (some B) N N], (.int .i64 (exF ts ps (byF x (gs.getD i 0))))] W fun r w' => r = .returned (.bool (okAt lk ht rc he x ts ps gs i)) ∧ Below W.heap.size W w') := Lib.hid (fun W i B q0' q1 q2 => by
    have e := pushL_len ps (byF x (gs.getD i 0))
    have := fine_any lk ht rc (coolF lk he + byF x (gs.getD i 0) * byF x (gs.getD i 0)) lv (exF ts ps (byF x (gs.getD i 0))) ts (pushL ps (byF x (gs.getD i 0))) A1 A2 (some B) c1 L c2 N W q0' hlk (by have := HYY.out i; omega) q1 q2 (by omega) (by omega) bT (inB_push bP (HY.out i)) (exF_bd bT bP (HY.out i) hn2)
    rw [e, ← hN, ← hM] at this
    exact this)
  have HT := Lib.hid hT
  have HG := Lib.hid hG
  have HP := Lib.hid hP
  have HL := Lib.hid hL
  have HK := Lib.hid hk
  have HLL := Lib.hid hLL
  have HBG := Lib.hid bG
  rw [← hM, ← hN, ← hLL]
  rw [← hLL] at hg0 hg hlv HK
  rw [← hN] at hn2
  clear hM hN hLL hT hG hP hL hk hn bT bP bG
  obtain ⟨a5, a6⟩ := hx
  go_enter Tryd.func50, Tryd.ntmps50
  go_wp2
  go_step3
  go_wp2
  go_step3
  go_wp2
  all_goals (
    go_loopw [8, 10] (fun e lvl wr => e = (.int .i64 (0)) ∧ ∃ i : Nat, i < L ∧ lvl = (.int .i64 ((i : Int))) ∧ stepK lk ht rc he x ts ps gs (i + 1) = some k ∧ Blk wr w.heap.size #[(.int .i64 (lk)), (.int .i64 (ht)), .slice A1 M c1, (.int .i64 (rc)), .slice A2 L c2] ∧ Blk wr (w.heap.size + 1) #[(.int .i64 (he)), (.int .i64 ((lv : Int))), .slice A3 N c3] ∧
      Blk wr (w.heap.size + 1 + 1) #[(.int .i64 (0)), (.int .i64 (0)), .slice none 0 0] ∧ Blk wr (w.heap.size + 1 + 1 + 1) #[(.int .i64 (0)), (.int .i64 (0)), .slice none 0 0] ∧ Below w.heap.size w wr) (fun _ lvl _ => (intOf lvl).toNat)
    case atStart =>
      first
        | exact ⟨rfl, lv + 1, by omega, by go_num, by have := HK.out; rwa [Nat.min_eq_left (by omega)] at this, by (repeat (first | ((with_reducible refine Blk.at_ ?_); focus (first | rfl | (simp; done) | (simp; omega))) | (with_reducible refine Blk.alloc ?_ _) | (with_reducible refine Blk.below ?_ (by with_reducible assumption)) | (with_reducible refine Blk.drew ?_))), by (repeat (first | ((with_reducible refine Blk.at_ ?_); focus (first | rfl | (simp; done) | (simp; omega))) | (with_reducible refine Blk.alloc ?_ _) | (with_reducible refine Blk.below ?_ (by with_reducible assumption)) | (with_reducible refine Blk.drew ?_))), by (repeat (first | ((with_reducible refine Blk.at_ ?_); focus (first | rfl | (simp; done) | (simp; omega))) | (with_reducible refine Blk.alloc ?_ _) | (with_reducible refine Blk.below ?_ (by with_reducible assumption)) | (with_reducible refine Blk.drew ?_))), by (repeat (first | ((with_reducible refine Blk.at_ ?_); focus (first | rfl | (simp; done) | (simp; omega))) | (with_reducible refine Blk.alloc ?_ _) | (with_reducible refine Blk.below ?_ (by with_reducible assumption)) | (with_reducible refine Blk.drew ?_))), by (repeat (first | (with_reducible exact Below.refl _ _) | ((with_reducible refine Below.setCell ?_ ?_ _); rotate_left 1; focus (first | (simp; done) | (simp; omega) | (simp at *; omega))) | ((with_reducible refine Below.alloc ?_ ?_ _); rotate_left 1; focus (first | (simp; done) | (simp; omega) | (simp at *; omega))) | (with_reducible refine Below.drew ?_) | ((with_reducible refine Calm.step (by assumption) ?_ ?_); rotate_left 1; focus (first | (simp; done) | (simp; omega) | (simp at *; omega)))))⟩
        | exact ⟨rfl, L - 1, by omega, by go_num, by have := HK.out; rwa [Nat.min_eq_right (by omega)] at this, by (repeat (first | ((with_reducible refine Blk.at_ ?_); focus (first | rfl | (simp; done) | (simp; omega))) | (with_reducible refine Blk.alloc ?_ _) | (with_reducible refine Blk.below ?_ (by with_reducible assumption)) | (with_reducible refine Blk.drew ?_))), by (repeat (first | ((with_reducible refine Blk.at_ ?_); focus (first | rfl | (simp; done) | (simp; omega))) | (with_reducible refine Blk.alloc ?_ _) | (with_reducible refine Blk.below ?_ (by with_reducible assumption)) | (with_reducible refine Blk.drew ?_))), by (repeat (first | ((with_reducible refine Blk.at_ ?_); focus (first | rfl | (simp; done) | (simp; omega))) | (with_reducible refine Blk.alloc ?_ _) | (with_reducible refine Blk.below ?_ (by with_reducible assumption)) | (with_reducible refine Blk.drew ?_))), by (repeat (first | ((with_reducible refine Blk.at_ ?_); focus (first | rfl | (simp; done) | (simp; omega))) | (with_reducible refine Blk.alloc ?_ _) | (with_reducible refine Blk.below ?_ (by with_reducible assumption)) | (with_reducible refine Blk.drew ?_))), by (repeat (first | (with_reducible exact Below.refl _ _) | ((with_reducible refine Below.setCell ?_ ?_ _); rotate_left 1; focus (first | (simp; done) | (simp; omega) | (simp at *; omega))) | ((with_reducible refine Below.alloc ?_ ?_ _); rotate_left 1; focus (first | (simp; done) | (simp; omega) | (simp at *; omega))) | (with_reducible refine Below.drew ?_) | ((with_reducible refine Calm.step (by assumption) ?_ ?_); rotate_left 1; focus (first | (simp; done) | (simp; omega) | (simp at *; omega)))))⟩
    case round =>
      obtain ⟨rfl, i, hi, rfl, hst, K0, K1, K2, K3, hB⟩ := hrel
      obtain ⟨b2, o2, rfl, l2, k2⟩ := HG.out (by rw [← HLL.out]; exact hg0)
      have x2 := (hB.cell (p := ⟨b2, o2 + i, none⟩) l2).trans (k2 i (by rw [← HLL.out]; exact hi))
      have hTr := Lib.hid (HT.out.below hB)
      have hPr := Lib.hid (HP.out.below hB)
      have hLr := Lib.hid (HL.out.below hB)
      have HB := Lib.hid hB
      have HST := Lib.hid hst
      have hsz := hB.size
      have bg := HBG.out i
      have by0 := HY.out i
      have byy := HYY.out i
      have m0 := mul_bd ⟨a5, a6⟩ (show -16 ≤ gs.getD i 0 ∧ gs.getD i 0 ≤ 16 by omega)
      have hB1 := fun y0 (hy0 : y0 = byF x (gs.getD i 0)) => HBH.out wr i y0 hy0 hTr.out hPr.out
      have hFI : ∀ (W : World) (B : Addr), Lim W → Cells W A1 ts → Cells W (some B) (pushL ps (byF x (gs.getD i 0))) → _ := fun W B => HFI.out W i B
      have hst2 : (if okAt lk ht rc he x ts ps gs i then some i else stepK lk ht rc he x ts ps gs i) = some k := hst
      have HFIN : Hid (i = k → byF x (gs.getD i 0) = byF x (gs.getD k 0)) := Lib.hid (fun h => by rw [h])
      obtain ⟨gg, hgg⟩ : ∃ gg, gg = gs.getD i 0 := ⟨_, rfl⟩
      obtain ⟨Y, hY⟩ : ∃ Y, Y = byF x (gs.getD i 0) := ⟨_, rfl⟩
      obtain ⟨O, hO⟩ : ∃ O, O = okAt lk ht rc he x ts ps gs i := ⟨_, rfl⟩
      have HYE : Hid (Int.tdiv (x * gg) 16 = Y) := Lib.hid (by rw [hY, hgg]; rfl)
      rw [← hgg] at x2 bg m0
      rw [← hY] at hB1 by0 byy HFIN hFI
      rw [← hO] at hst2 hFI
      have HB1 := Lib.hid hB1
      have HF1 := Lib.hid hFI
      have HS2 := Lib.hid hst2
      obtain ⟨bg1, bg2⟩ := bg
      obtain ⟨m1, m2⟩ := m0
      obtain ⟨c00, c01, c02, c03, c04, l0, f0⟩ := K0.o5
      obtain ⟨c10, c11, c12, l10, f1⟩ := K1.o3
      have HK0 := Lib.hid K0
      have HK1 := Lib.hid K1
      have HK2 := Lib.hid K2
      have HK3 := Lib.hid K3
      have lt3 := K3.lt
      clear K0 K1 K2 K3 hB hst k2 hgg hY hO hB1 hFI hst2
      cases O with
      | false =>
        go_wp2_with (first
          | (go_at_call 32; refine (HB1.out _ HYE.out).mono ?_; rintro r w1 ⟨⟨B, hBb, rfl, hC1⟩, hb1⟩; obtain ⟨hc1, hf1⟩ := bcell hb1; have hs1 := hb1.size; have hs10 : w.heap.size < w1.heap.size := (by omega); have hs11 : w.heap.size + 1 < w1.heap.size := (by omega); have HC1 := Lib.hid hC1; have HW1 := Lib.hid hb1; clear hC1 hb1)
          | (go_at_call 61; refine (HF1.out _ B (hLr.out.below (HW1.out.alloc hs1 _)) (hTr.out.below (HW1.out.alloc hs1 _)) (HC1.out.below (by (repeat (first | (with_reducible exact Below.refl _ _) | ((with_reducible refine Below.setCell ?_ ?_ _); rotate_left 1; focus (first | (simp; done) | (simp; omega) | (simp at *; omega))) | ((with_reducible refine Below.alloc ?_ ?_ _); rotate_left 1; focus (first | (simp; done) | (simp; omega) | (simp at *; omega))) | (with_reducible refine Below.drew ?_) | ((with_reducible refine Calm.step (by assumption) ?_ ?_); rotate_left 1; focus (first | (simp; done) | (simp; omega) | (simp at *; omega)))))))).mono ?_; rintro r w3 ⟨rfl, hb3⟩))
        have hs3 : stepK lk ht rc he x ts ps gs i = some k := by simpa using HS2.out
        have hi0 : 0 < i := by
          rcases Nat.eq_zero_or_pos i with h0 | h0
          · rw [h0] at hs3; cases hs3
          · exact h0
        have HS3 := Lib.hid hs3
        clear hs3
        go_roundw
        case rel =>
          exact ⟨rfl, i - 1, by omega, by go_num, by rw [Nat.sub_add_cancel hi0]; exact HS3.out, ((HK0.out.below HW1.out).alloc _).below hb3, ((HK1.out.below HW1.out).alloc _).below hb3, ((HK2.out.below HW1.out).alloc _).below hb3, ((HK3.out.below HW1.out).alloc _).below hb3,
            Below.trans ((HB.out.trans (HW1.out.mono hsz)).alloc (by omega) _) (hb3.mono (by simp; omega))⟩
        case measure => simp [intOf]; omega
      | true =>
        have hik : i = k := by
          have h1 := HS2.out
          rw [if_pos rfl] at h1
          exact Option.some.inj h1
        have HYK := Lib.hid (HFIN.out hik)
        subst hik
        go_wp2_with (first
          | (go_at_call 32; refine (HB1.out _ HYE.out).mono ?_; rintro r w1 ⟨⟨B, hBb, rfl, hC1⟩, hb1⟩; obtain ⟨hc1, hf1⟩ := bcell hb1; have hs1 := hb1.size; have hs10 : w.heap.size < w1.heap.size := (by omega); have hs11 : w.heap.size + 1 < w1.heap.size := (by omega); have HC1 := Lib.hid hC1; have HW1 := Lib.hid hb1; clear hC1 hb1)
          | (go_at_call 61; refine (HF1.out _ B (hLr.out.below (HW1.out.alloc hs1 _)) (hTr.out.below (HW1.out.alloc hs1 _)) (HC1.out.below (by (repeat (first | (with_reducible exact Below.refl _ _) | ((with_reducible refine Below.setCell ?_ ?_ _); rotate_left 1; focus (first | (simp; done) | (simp; omega) | (simp at *; omega))) | ((with_reducible refine Below.alloc ?_ ?_ _); rotate_left 1; focus (first | (simp; done) | (simp; omega) | (simp at *; omega))) | (with_reducible refine Below.drew ?_) | ((with_reducible refine Calm.step (by assumption) ?_ ?_); rotate_left 1; focus (first | (simp; done) | (simp; omega) | (simp at *; omega)))))))).mono ?_; rintro r w3 ⟨rfl, hb3⟩; refine Hid.out ?_))
        have KN := (Blk.new w1 70 #[(.int .i64 (coolF lk he + Y * Y)), (.int .i64 ((lv : Int))), .slice (some B) N N]).below hb3
        have K2 := ((HK2.out.below HW1.out).alloc (.cells #[(.int .i64 (coolF lk he + Y * Y)), (.int .i64 ((lv : Int))), .slice (some B) N N] 70)).below hb3
        have K3 := ((HK3.out.below HW1.out).alloc (.cells #[(.int .i64 (coolF lk he + Y * Y)), (.int .i64 ((lv : Int))), .slice (some B) N N] 70)).below hb3
        have HBA : Hid (Below w.heap.size w w3) := Lib.hid (Below.trans ((HB.out.trans (HW1.out.mono hsz)).alloc (by omega) _) (hb3.mono (by simp; omega)))
        have HCA := Lib.hid (HC1.out.below (((Below.refl _ _).alloc (Nat.le_refl _) (.cells #[(.int .i64 (coolF lk he + Y * Y)), (.int .i64 ((lv : Int))), .slice (some B) N N] 70)).trans (hb3.mono (by simp))))
        have hN1 : w.heap.size + 1 + 1 + 1 < w1.heap.size := by omega
        have hBN : Hid (0 < (pushL ps Y).length → B.block < w1.heap.size) := Lib.hid (fun h0 => by obtain ⟨b, off, hA, hl, _⟩ := HC1.out h0; cases hA; exact hl)
        have hBM : w.heap.size + 1 + 1 + 1 < B.block := by omega
        have hs3 := hb3.size
        simp only [World.size_alloc] at hs3
        have KN' := Lib.hid (KN.set (i := 1) (by simp) (.int .i64 ((i : Int))))
        have K2' := Lib.hid (K2.far (p := ⟨w1.heap.size, 1, none⟩) (by simp; omega) (.int .i64 ((i : Int))))
        have K3' := Lib.hid (K3.far (p := ⟨w1.heap.size, 1, none⟩) (by simp; omega) (.int .i64 ((i : Int))))
        obtain ⟨n0, n1, n2, nl, nf⟩ := KN.o3
        clear KN K2 K3 hc1 hf1 hb3 HB HW1 HC1 HK0 HK1 HK2 HK3 c00 c01 c02 c03 c04 l0 f0 c10 c11 c12 l10 f1 HF1 HB1 hLr hTr hPr
        unfold Hid
        go_wp2
        refine name_world ?_
        intro w4 e4
        have KN4 : Blk w4 w1.heap.size #[(.int .i64 (coolF lk he + Y * Y)), (.int .i64 ((i : Int))), .slice (some B) N N] := e4 ▸ KN'.out
        have K24 := Lib.hid (show Blk w4 (w.heap.size + 1 + 1) #[(.int .i64 (0)), (.int .i64 (0)), .slice none 0 0] from e4 ▸ K2'.out)
        have K34 : Blk w4 (w.heap.size + 1 + 1 + 1) #[(.int .i64 (0)), (.int .i64 (0)), .slice none 0 0] := e4 ▸ K3'.out
        have HBA4 : Hid (Below w.heap.size w w4) := Lib.hid (by rw [e4]; exact HBA.out.setCell (by simp; omega) _)
        have HCA4 : Hid (Cells w4 (some B) (pushL ps Y)) := Lib.hid (by rw [e4]; exact HCA.out.sets (fun h0 p hp => by cases hp; have := hBN.out h0; omega) _ _)
        have hs4 : w1.heap.size < w4.heap.size := KN4.lt
        have HK34 := Lib.hid K34
        obtain ⟨p0, p1, p2, pl, pf⟩ := KN4.o3
        clear e4 KN4 K34 KN' K2' K3' HBA HCA n0 n1 n2 nl nf hs3
        refine Calm.tail_below 3 (by kernel_rfl) (by kernel_rfl) ?_
        simp only [List.take_succ_cons, List.take_zero, List.drop_succ_cons, List.drop_zero]
        repeat (first | (apply Calm.op_move; (focus rfl); (focus (first | exact .inl rfl | exact .inr rfl)); (focus ((try simp only [Act.eval, Array.getD_eq_getD_getElem?, List.getElem?_toArray, List.getElem?_cons_succ, List.getElem?_cons_zero, Option.getD_some]); rfl)); (try simp only [Act.put, List.setIfInBounds_toArray, List.set_cons_zero, List.set_cons_succ])) | (apply Calm.op_not; (focus rfl); (try simp only [Act.put, List.setIfInBounds_toArray, List.set_cons_zero, List.set_cons_succ])) | (apply Calm.op; (focus rfl); (focus (intro W hb; obtain ⟨hc, hf⟩ := bcell hb; clear hb hf; go_simp; (try go_bits); (try rfl); done)); (try simp only [Act.put, List.setIfInBounds_toArray, List.set_cons_zero, List.set_cons_succ])))
        refine wpQuiet_nil ?_
        intro w5 hb5
        obtain ⟨hb5c, hb5f⟩ := bcell hb5
        have hb5z := hb5.size
        (try simp at hb5z)
        (try have hb5z0 : w.heap.size < w5.heap.size := by omega)
        (try have hb5z1 : w.heap.size + 1 < w5.heap.size := by omega)
        (try have hb5z2 : w.heap.size + 1 + 1 < w5.heap.size := by omega)
        (try have hb5z3 : w.heap.size + 1 + 1 + 1 < w5.heap.size := by omega)
        (try have hb5z4 : w.heap.size + 1 + 1 + 1 + 1 < w5.heap.size := by omega)
        (try have hb5z5 : w.heap.size + 1 + 1 + 1 + 1 + 1 < w5.heap.size := by omega)
        have HBA5 := Lib.hid (HBA4.out.trans (hb5.mono (by omega)))
        have HCA5 := Lib.hid (HCA4.out.below hb5)
        have HK35 := Lib.hid (HK34.out.below hb5)
        have HK25 := Lib.hid (K24.out.below hb5)
        have hs5 := hb5.size
        obtain ⟨r0, r1, r2, rl, rf⟩ := HK35.out.o3
        clear hb5 hb5c hb5f HBA4 HCA4 HK34 K24 p0 p1 p2 pl pf
        go_wp2
        refine name_world ?_
        intro w6 e6
        have K36 : Blk w6 (w.heap.size + 1 + 1 + 1) #[(.int .i64 (coolF lk he + Y * Y)), (.int .i64 ((i : Int))), .slice (some B) N N] := e6 ▸ HK35.out.set3 _ _ _
        have HK26 : Hid (Blk w6 (w.heap.size + 1 + 1) #[(.int .i64 (0)), (.int .i64 (0)), .slice none 0 0]) := Lib.hid (by rw [e6]; exact ((HK25.out.far (by simp) _).far (by simp) _).far (by simp) _)
        have HBA6 : Hid (Below w.heap.size w w6) := Lib.hid (by rw [e6]; exact ((HBA5.out.setCell (by simp; omega) _).setCell (by simp; omega) _).setCell (by simp; omega) _)
        have HCA6 : Hid (Cells w6 (some B) (pushL ps Y)) := Lib.hid (by
          have q : 0 < (pushL ps Y).length → ∀ p, some B = some p → p.block ≠ w.heap.size + 1 + 1 + 1 := fun _ p hp => by cases hp; omega
          rw [e6]; exact ((HCA5.out.sets q _ _).sets q _ _).sets q _ _)
        obtain ⟨t0, t1, t2, tl, tf⟩ := K36.o3
        clear e6 K36 HBA5 HCA5 HK35 HK25 r0 r1 r2 rl rf
        refine Calm.tail_below 3 (by kernel_rfl) (by kernel_rfl) ?_
        simp only [List.take_succ_cons, List.take_zero, List.drop_succ_cons, List.drop_zero]
        repeat (first | (apply Calm.op_move; (focus rfl); (focus (first | exact .inl rfl | exact .inr rfl)); (focus ((try simp only [Act.eval, Array.getD_eq_getD_getElem?, List.getElem?_toArray, List.getElem?_cons_succ, List.getElem?_cons_zero, Option.getD_some]); rfl)); (try simp only [Act.put, List.setIfInBounds_toArray, List.set_cons_zero, List.set_cons_succ])) | (apply Calm.op_not; (focus rfl); (try simp only [Act.put, List.setIfInBounds_toArray, List.set_cons_zero, List.set_cons_succ])) | (apply Calm.op; (focus rfl); (focus (intro W hb; obtain ⟨hc, hf⟩ := bcell hb; clear hb hf; go_simp; (try go_bits); (try rfl); done)); (try simp only [Act.put, List.setIfInBounds_toArray, List.set_cons_zero, List.set_cons_succ])))
        refine wpQuiet_nil ?_
        intro w7 hb7
        obtain ⟨hb7c, hb7f⟩ := bcell hb7
        have hb7z := hb7.size
        (try simp at hb7z)
        (try have hb7z0 : w.heap.size < w7.heap.size := by omega)
        (try have hb7z1 : w.heap.size + 1 < w7.heap.size := by omega)
        (try have hb7z2 : w.heap.size + 1 + 1 < w7.heap.size := by omega)
        (try have hb7z3 : w.heap.size + 1 + 1 + 1 < w7.heap.size := by omega)
        (try have hb7z4 : w.heap.size + 1 + 1 + 1 + 1 < w7.heap.size := by omega)
        (try have hb7z5 : w.heap.size + 1 + 1 + 1 + 1 + 1 < w7.heap.size := by omega)
        have HBA7 := Lib.hid (HBA6.out.trans (hb7.mono (by omega)))
        have HCA7 := Lib.hid (HCA6.out.below hb7)
        have HK27 := Lib.hid (HK26.out.below hb7)
        obtain ⟨v0, v1, v2, vl, vf⟩ := HK27.out.o3
        clear hb7 hb7c hb7f HBA6 HCA6 HK26 t0 t1 t2 tl tf
        go_wp2
        rw [Exit.noGoto_ret]
        have q2 : 0 < (pushL ps Y).length → ∀ p, some B = some p → p.block ≠ w.heap.size + 1 + 1 := fun _ p hp => by cases hp; omega
        have KR := HK27.out.set3 (.int .i64 (coolF lk he + Y * Y)) (.int .i64 ((i : Int))) (.slice (some B) N N)
        obtain ⟨y0, y1, y2, yl, yf⟩ := KR.o3
        clear v0 v1 v2 vl vf KR
        exact bodyPost_ret (v := .tuple #[(.int .i64 (Int.tdiv (x * gg) 16)), .agg #[(.int .i64 (coolF lk he + Y * Y)), (.int .i64 ((i : Int))), .slice (some B) N N]]) (by simp [results, Tryd.results50, go_sem, y0, y1, y2]) rfl
          ⟨⟨B, by omega, by rw [HYE.out, ← HYK.out], by rw [← HYK.out]; exact ((HCA7.out.sets q2 _ _).sets q2 _ _).sets q2 _ _⟩, ((HBA7.out.setCell (by simp; omega) _).setCell (by simp; omega) _).setCell (by simp; omega) _⟩)
end Go.Proofs.YtleemphfkhbhaaaDoor

/- Safe states: a permitted gain is always found, and the state behind it is safe. No walk. -/
namespace Go.Proofs.YtleemphfkhbhaaaDoor
open Go.RowKit

theorem pushL_getD (ps : List Int) (y : Int) (i : Nat) : (pushL ps y).getD i 0 = if i < ps.length then (y :: ps).getD i 0 else 0 := by
  simp only [pushL, List.getD_eq_getElem?_getD, List.getElem?_take]
  split <;> rfl
theorem psK_getD (ps : List Int) : ∀ (k i : Nat), (psK ps k).getD i 0 = if i < ps.length then (if i < k then 0 else ps.getD (i - k) 0) else 0
  | 0, i => by
    simp only [psK, Nat.not_lt_zero, if_false, Nat.sub_zero]
    split
    · rfl
    · rw [List.getD_eq_getElem?_getD, List.getElem?_eq_none (by omega)]; rfl
  | k + 1, i => by
    show (pushL (psK ps k) 0).getD i 0 = _
    rw [pushL_getD, psK_len]
    split
    · cases i with
      | zero => simp
      | succ j =>
        rw [List.getD_cons_succ, psK_getD ps k j, if_pos (by omega)]
        by_cases hj : j < k
        · rw [if_pos hj, if_pos (by omega)]
        · rw [if_neg hj, if_neg (by omega), Nat.add_sub_add_right]
    · rfl
theorem psK_push (ps : List Int) : ∀ k, psK (pushL ps 0) k = psK ps (k + 1)
  | 0 => rfl
  | k + 1 => by show pushL (psK (pushL ps 0) k) 0 = pushL (psK ps (k + 1)) 0; rw [psK_push ps k]
theorem exK_zero {ts ps : List Int} : ∀ {k : Nat}, (∀ i, i < k → ps.getD i 0 = 0) → exK ts ps 0 k = 0
  | 0, _ => by simp [exK]
  | k + 1, h => by
    simp only [exK]
    rw [exK_zero (fun i hi => h i (by omega)), h k (by omega)]
    simp
/-- a guard that is valid. -/
structure Valid (lk ht rc : Int) (ts gs : List Int) : Prop where
  lk : 1 ≤ lk ∧ lk ≤ 8
  ht : 0 ≤ ht ∧ ht ≤ 536870912
  rc : 0 ≤ rc ∧ rc ≤ 1048576
  tl : 1 ≤ ts.length ∧ ts.length ≤ 8
  tb : inB 64 ts
  gl : 1 ≤ gs.length ∧ gs.length ≤ 8
  gb : ∀ k, 0 ≤ gs.getD k 0 ∧ gs.getD k 0 ≤ 16
  g0 : gs.getD 0 0 = 0
/-- a state. -/
structure St where
  h : Int
  lv : Nat
  ps : List Int
/-- a state that keeps all limits without further outputs. -/
structure Good (ht rc : Int) (ts gs : List Int) (s : St) : Prop where
  h : 0 ≤ s.h ∧ s.h ≤ ht
  lv : s.lv < gs.length
  pl : ts.length = s.ps.length + 1
  pb : inB 2048 s.ps
  tf : farAny rc (tailsF ts s.ps) = false
theorem farAny_false {rc : Int} {l : List Int} : farAny rc l = false ↔ ∀ x ∈ l, absI x ≤ rc := by
  unfold farAny
  rw [List.any_eq_false]
  constructor
  · intro h x hx; have := h x hx; simp at this; omega
  · intro h x hx; have := h x hx; simp; omega
theorem tails_get {ts ps : List Int} {rc : Int} (h : farAny rc (tailsF ts ps) = false) {k : Nat} (hk : k < ps.length) : absI (exF ts (psK ps k) 0) ≤ rc := by
  refine farAny_false.1 h _ ?_
  simp only [tailsF, tailsL, List.mem_map, List.mem_range]
  exact ⟨k, hk, rfl⟩
theorem exF_last {ts ps : List Int} {k : Nat} (hk : ps.length ≤ k) : exF ts (psK ps k) 0 = 0 := by
  unfold exF
  refine exK_zero fun i hi => ?_
  rw [psK_len] at hi
  rw [psK_getD, if_pos hi, if_pos (by omega)]
theorem absI_zero : absI 0 = 0 := by decide
/-- without an output a safe state stays safe. -/
theorem fine_zero {lk ht rc : Int} {ts gs : List Int} {s : St} (hV : Valid lk ht rc ts gs) (hS : Good ht rc ts gs s) : fineF ht rc (coolF lk s.h + 0 * 0) (exF ts s.ps 0) ts (pushL s.ps 0) = true := by
  have h1 := coolF_bd lk hS.h.1
  have h2 : absI (exF ts s.ps 0) ≤ rc := by
    rcases Nat.eq_zero_or_pos s.ps.length with h0 | h0
    · have := exF_last (ts := ts) (ps := s.ps) (k := 0) (by omega)
      simp only [psK] at this
      rw [this, absI_zero]; exact hV.rc.1
    · exact tails_get hS.tf (k := 0) h0
  have h3 : farAny rc (tailsF ts (pushL s.ps 0)) = false := by
    refine farAny_false.2 fun x hx => ?_
    simp only [tailsF, tailsL, List.mem_map, List.mem_range, pushL_len] at hx
    obtain ⟨k, hk, rfl⟩ := hx
    rw [psK_push]
    rcases Nat.lt_or_ge (k + 1) s.ps.length with h4 | h4
    · exact tails_get hS.tf h4
    · rw [exF_last h4, absI_zero]; exact hV.rc.1
  have hS1 := hS.h
  unfold fineF
  rw [h3, decide_eq_true (by omega), decide_eq_false (by omega)]
  rfl
theorem byF_zero (x : Int) : byF x 0 = 0 := by unfold byF; simp
theorem okAt_zero {lk ht rc : Int} {ts gs : List Int} {s : St} (hV : Valid lk ht rc ts gs) (hS : Good ht rc ts gs s) (x : Int) : okAt lk ht rc s.h x ts s.ps gs 0 = true := by
  unfold okAt
  rw [hV.g0, byF_zero]
  exact fine_zero hV hS
theorem stepK_some {lk ht rc h x : Int} {ts ps gs : List Int} (h0 : okAt lk ht rc h x ts ps gs 0 = true) : ∀ n, ∃ k, stepK lk ht rc h x ts ps gs (n + 1) = some k
  | 0 => ⟨0, by unfold stepK; rw [h0]; rfl⟩
  | n + 1 => by
    unfold stepK
    split
    · exact ⟨_, rfl⟩
    · exact stepK_some h0 n
/-- the index of the gain that is taken. -/
def lvF (lk ht rc : Int) (ts gs : List Int) (s : St) (x : Int) : Nat := (stepK lk ht rc s.h x ts s.ps gs (min (s.lv + 1) (gs.length - 1) + 1)).getD 0
/-- the output. -/
def outF (lk ht rc : Int) (ts gs : List Int) (s : St) (x : Int) : Int := byF x (gs.getD (lvF lk ht rc ts gs s x) 0)
/-- the state behind it. -/
def stF (lk ht rc : Int) (ts gs : List Int) (s : St) (x : Int) : St := ⟨coolF lk s.h + outF lk ht rc ts gs s x * outF lk ht rc ts gs s x, lvF lk ht rc ts gs s x, pushL s.ps (outF lk ht rc ts gs s x)⟩
theorem lvF_some {lk ht rc : Int} {ts gs : List Int} {s : St} (hV : Valid lk ht rc ts gs) (hS : Good ht rc ts gs s) (x : Int) : stepK lk ht rc s.h x ts s.ps gs (min (s.lv + 1) (gs.length - 1) + 1) = some (lvF lk ht rc ts gs s x) := by
  obtain ⟨k, hk⟩ := stepK_some (okAt_zero hV hS x) (min (s.lv + 1) (gs.length - 1))
  unfold lvF
  rw [hk]
  rfl
theorem fineF_true {ht rc h x : Int} {ts ps : List Int} (e : fineF ht rc h x ts ps = true) : h ≤ ht ∧ absI x ≤ rc ∧ farAny rc (tailsF ts ps) = false := by
  unfold fineF at e
  simp only [Bool.and_eq_true, decide_eq_true_eq, Bool.not_eq_true', decide_eq_false_iff_not] at e
  exact ⟨e.1.1, by omega, e.2⟩
theorem step_good {lk ht rc : Int} {ts gs : List Int} {s : St} (hV : Valid lk ht rc ts gs) (hS : Good ht rc ts gs s) {x : Int} (hx : -2048 ≤ x ∧ x ≤ 2048) :
    Good ht rc ts gs (stF lk ht rc ts gs s x) ∧ (-2048 ≤ outF lk ht rc ts gs s x ∧ outF lk ht rc ts gs s x ≤ 2048) ∧ absI (exF ts s.ps (outF lk ht rc ts gs s x)) ≤ rc ∧ lvF lk ht rc ts gs s x ≤ s.lv + 1 := by
  have hk := stepK_lt (lvF_some hV hS x)
  obtain ⟨h1, h2, h3⟩ := fineF_true hk.2
  have hb : -2048 ≤ outF lk ht rc ts gs s x ∧ outF lk ht rc ts gs s x ≤ 2048 := byF_bd hx (hV.gb _)
  have hc := coolF_bd lk hS.h.1
  have hm : 0 ≤ outF lk ht rc ts gs s x * outF lk ht rc ts gs s x := by
    rcases Int.le_total 0 (outF lk ht rc ts gs s x) with h | h
    · exact Int.mul_nonneg h h
    · exact Int.mul_nonneg_of_nonpos_of_nonpos h h
  have hg := hV.gl
  exact ⟨⟨⟨by simp only [stF]; omega, h1⟩, by simp only [stF]; omega, by simp only [stF]; rw [pushL_len]; exact hS.pl, inB_push hS.pb hb, h3⟩, hb, h2, by omega⟩
end Go.Proofs.YtleemphfkhbhaaaDoor

/- Contract of (Guard).rest: the state at rest. -/
namespace Go.Proofs.YtleemphfkhbhaaaDoor
open Go.RowKit
open Calm (bcell Blk)

theorem getD_zeros (n k : Nat) : (List.replicate n (0 : Int)).getD k 0 = 0 := by
  rw [List.getD_eq_getElem?_getD, List.getElem?_replicate]
  split <;> rfl
theorem cells_zeros {w : World} {g n : Nat} (h : Blk w g (zerosA n).toArray) : Cells w (some ⟨g, 0, none⟩) (List.replicate n 0) := by
  intro h0
  refine ⟨g, 0, rfl, h.lt, fun k hk => ?_⟩
  rw [Nat.zero_add, h.c k, getD_zeros]
  simp at hk
  simp [zerosA, hk]
set_option maxHeartbeats 1000000 in
theorem rest_any (lk ht rc : Int) (A1 A2 : Option Addr) (n1 c1 n2 c2 : Nat) (w : World) (h1 : 1 ≤ n1 ∧ n1 ≤ 1000000) (h2 : 1 ≤ n2 ∧ n2 ≤ 1000000) :
    Calls Tryd.prog 31 #[.agg #[(.int .i64 (lk)), (.int .i64 (ht)), .slice A1 n1 c1, (.int .i64 (rc)), .slice A2 n2 c2]] w fun r w' => (∃ B, w.heap.size ≤ B.block ∧ r = .returned (.agg #[(.int .i64 (0)), (.int .i64 (((n2 - 1 : Nat) : Int))), .slice (some B) (n1 - 1) (n1 - 1)]) ∧ Cells w' (some B) (List.replicate (n1 - 1) 0)) ∧ Below w.heap.size w w' := by
  obtain ⟨a, rfl⟩ : ∃ a, n1 = a + 1 := ⟨n1 - 1, by omega⟩
  obtain ⟨b, rfl⟩ : ∃ b, n2 = b + 1 := ⟨n2 - 1, by omega⟩
  have hmk := mk_ints a (by omega)
  have e1 : ((a + 1 : Nat) : Int) - 1 = (a : Int) := by omega
  have e2 : ((b + 1 : Nat) : Int) - 1 = (b : Int) := by omega
  have E1 := Lib.hid e1
  have E2 := Lib.hid e2
  simp only [Nat.add_sub_cancel]
  obtain ⟨b1, b2⟩ := h1
  obtain ⟨b3, b4⟩ := h2
  clear e1 e2
  go_enter Tryd.func31, Tryd.ntmps31
  go_wp2
  refine Rel.region3 9 (by kernel_rfl) (by kernel_rfl) (by kernel_rfl) ?_
  simp only [List.take_succ_cons, List.take_zero, List.drop_succ_cons, List.drop_zero, List.filterMap_cons, List.filterMap_nil]
  iterate 8 (apply Rel.op3; (focus (first | exact Rel.gno rfl | exact Rel.gyes _ true _ rfl rfl rfl | exact Rel.gyes _ false _ rfl rfl rfl)); (focus (intro a W hb hd hbase; obtain ⟨hc, hf⟩ := bcell hb; clear hb hf; simp [Rel.deps, Rel.dep1, Rel.ons, Region.binds, Act.eval] at hd; simp only [Act.eval, List.mem_cons, List.not_mem_nil, not_or, and_imp, or_false, Array.getD_eq_getD_getElem?] at hbase; go_simp; (try go_bits); (try rfl); done)); (try simp only [List.nil_append, List.cons_append]))
  refine Rel.build3 3 a a (zerosA a).toArray (Rel.gno rfl) ?_ ?_
  · intro ac W hb hd hbase
    simp [Rel.deps, Rel.dep1, Rel.ons, Region.binds, Act.eval] at hd
    go_simp
  (try simp only [List.nil_append, List.cons_append])
  refine Rel.done3 ?_
  intro x w1 hb1 hx
  simp only [Rel.facts, Nat.zero_add, Nat.reduceAdd] at hx
  obtain ⟨e0, e1, e2, e3, e4, e5, e6, e7, ⟨g, e8, hg, hK⟩, _⟩ := hx
  simp only [Rel.fill, Nat.zero_add, Nat.reduceAdd, e0, e1, e2, e3, e4, e5, e6, e7, e8]
  simp only [Act.put, List.setIfInBounds_toArray, List.set_cons_zero, List.set_cons_succ]
  clear e0 e1 e2 e3 e4 e5 e6 e7 e8 hmk
  have K2 : Blk w1 (w.heap.size + 1) #[(.int .i64 (0)), (.int .i64 (0)), .slice none 0 0] := Blk.below (by (repeat (first | ((with_reducible refine Blk.at_ ?_); focus (first | rfl | (simp; done) | (simp; omega))) | (with_reducible refine Blk.alloc ?_ _) | (with_reducible refine Blk.below ?_ (by with_reducible assumption)) | (with_reducible refine Blk.drew ?_)))) hb1
  have HB1 : Hid (Below w.heap.size w w1) := Lib.hid (Below.trans (by (repeat (first | (with_reducible exact Below.refl _ _) | ((with_reducible refine Below.setCell ?_ ?_ _); rotate_left 1; focus (first | (simp; done) | (simp; omega) | (simp at *; omega))) | ((with_reducible refine Below.alloc ?_ ?_ _); rotate_left 1; focus (first | (simp; done) | (simp; omega) | (simp at *; omega))) | (with_reducible refine Below.drew ?_) | ((with_reducible refine Calm.step (by assumption) ?_ ?_); rotate_left 1; focus (first | (simp; done) | (simp; omega) | (simp at *; omega)))))) (hb1.mono (by simp; omega)))
  have HC := Lib.hid (cells_zeros hK)
  simp at hg
  have HK2 := Lib.hid K2
  obtain ⟨c0, c1', c2', l0, f0⟩ := K2.o3
  clear hb1 hK K2
  go_wp2
  have KR := HK2.out.set3 (.int .i64 (0)) (.int .i64 ((b : Int))) (.slice (some ⟨g, 0, none⟩) a a)
  obtain ⟨y0, y1, y2, yl, yf⟩ := KR.o3
  have q : 0 < (List.replicate a (0 : Int)).length → ∀ p, some (⟨g, 0, none⟩ : Addr) = some p → p.block ≠ w.heap.size + 1 := fun _ p hp => by cases hp; show g ≠ _; omega
  clear c0 c1' c2' l0 f0 KR
  exact bodyPost_ret (v := .agg #[(.int .i64 (0)), (.int .i64 ((b : Int))), .slice (some ⟨g, 0, none⟩) a a]) (by simp [results, Tryd.results31, go_sem, y0, y1, y2]) rfl
    ⟨⟨⟨g, 0, none⟩, by show w.heap.size ≤ g; omega, rfl, ((HC.out.sets q _ _).sets q _ _).sets q _ _⟩, ((HB1.out.setCell (by simp) _).setCell (by simp) _).setCell (by simp) _⟩
end Go.Proofs.YtleemphfkhbhaaaDoor
