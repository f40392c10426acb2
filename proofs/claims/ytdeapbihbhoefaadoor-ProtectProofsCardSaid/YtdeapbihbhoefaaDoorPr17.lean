/- Part 17 of the texts of the claim: LaidZ, Y13, Kn. -/
import Derived.Test.YtdeapbihbhoefaaDoorCards
import Derived.Test.YtdeapbihbhoefaaDoorTie
import Derived.Test.YtdeapbihbhoefaaDoorPr16
import Derived.Deep.DeepHandedRow
import Derived.Deep.Slices
import Derived.LaidMore
import Derived.Lib.LaidTab
import Derived.Shelf.Vars
import Derived.Test.YtdeapbihbhoefaaDoorPr5

/- The rows of chapter 8. What the rows' list gives: the table of the conditions, the powers of ten. A world for the witnesses. Arguments opened: guards, sections, signals. -/
namespace Go.Proofs.YtdeapbihbhoefaaDoor
open Go.ChangeShapes Go.WideShapes Go.ChangeAt Go.RowKit Go.Flat
open Calm (bcell)

/-- the rows' list. -/
noncomputable def laidList : List (String × DataW Unit) := [("math/bits.deBruijn32tab", Rows.laid_math_bits_deBruijn32tab), ("math/bits.deBruijn64tab", Rows.laid_math_bits_deBruijn64tab), ("internal/strconv.uint64pow10", Rows.laid_internal_strconv_uint64pow10), ("woofer/protect.conditions", Rows.laid_woofer_protect_conditions)]
theorem own : ownKnob Tryd.prog.godebug = none := by kernel_rfl
theorem laidOut : laidOutB Tryd.prog = true := by kernel_rfl
theorem gCond : Tryd.prog.globalNamed "woofer/protect.conditions" = some 0 := by kernel_rfl
theorem tCond : (Tryd.prog.globals[0]?).map (·.type) = some 150 := by kernel_rfl
theorem cellsCond : Tryd.prog.cellsOf 149 = 1 := by kernel_rfl

set_option maxRecDepth 100000 in
theorem cond_of_trod {w : World} {fuel : Nat} {cs : List Value} {b : UInt8} {r : List UInt8} {q : List MemPlace} {f0 : FuncId} (hone : ((List.range Tryd.prog.funcs.size).filter fun f => (Tryd.prog.funcs[f]?).any (·.name.toUTF8.data.toList == b :: r)) = [f0]) (hl : cs.length = 1)
    (h : DataW.trod (funcToken Tryd.prog) Tryd.prog w 0 (fun _ => true) true fuel 149 cs = some (.agg [.held (b :: r)], q)) : cs = [.func (.func f0) #[] #[]] := by
  obtain ⟨y0, n, hy, _, h0⟩ := trod_struct1 Tryd.underlying149 h
  match cs, hl with
  | [v], _ =>
  have h0' : DataW.trod (funcToken Tryd.prog) Tryd.prog w 0 (fun _ => true) true n 147 [v] = some y0 := h0
  obtain ⟨y, q'⟩ := y0
  obtain ⟨rfl, rfl⟩ : DataW.held (b :: r) = y ∧ q = q' := by simpa using hy
  rw [func_of_trod Tryd.underlying147 hone h0']

set_option maxRecDepth 100000 in
theorem lim_of_laid {W : World} (h : laidMetH Tryd.prog laidList W) : Lim W := by
  obtain ⟨g, t, cs, fuel, p, hg, ht, hv, hd⟩ := h.funcs (List.mem_cons_of_mem _ (List.mem_cons_of_mem _ (List.mem_cons_of_mem _ (List.mem_singleton.2 rfl))))
  obtain rfl := Option.some.inj (gCond.symm.trans hg)
  obtain rfl := Option.some.inj (tCond.symm.trans ht)
  obtain ⟨xs, n, _, hx, hl, hxl, hf⟩ := DataW.trod_array Tryd.underlying150 hd
  rw [cellsCond] at hf
  have hl3 : cs.toList.length = 3 := hl.trans (by kernel_rfl)
  obtain ⟨l⟩ := cs
  match l, hl3 with
  | [u0, u1, u2], _ =>
  match xs, hxl with
  | [x0, x1, x2], _ =>
  simp only [Prod.mk.injEq] at hx
  obtain ⟨hx, _⟩ := hx
  have hx' : [x0.1, x1.1, x2.1] = _ := (DataW.agg.inj hx).symm
  obtain ⟨y0, q0⟩ := x0
  obtain ⟨y1, q1⟩ := x1
  obtain ⟨y2, q2⟩ := x2
  simp only [List.cons.injEq, and_true] at hx'
  obtain ⟨rfl, rfl, rfl⟩ := hx'
  have k0 := cond_of_trod (f0 := 145) (by kernel_rfl) rfl (hf 0 (by omega) : _ = some _)
  have k1 := cond_of_trod (f0 := 146) (by kernel_rfl) rfl (hf 1 (by omega) : _ = some _)
  have k2 := cond_of_trod (f0 := 148) (by kernel_rfl) rfl (hf 2 (by omega) : _ = some _)
  have e0 : u0 = .func (.func 145) #[] #[] := by simpa using k0
  have e1 : u1 = .func (.func 146) #[] #[] := by simpa using k1
  have e2 : u2 = .func (.func 148) #[] #[] := by simpa using k2
  subst e0 e1 e2
  have hc : ∀ (i : Nat) (v : Value), (⟨[.func (.func 145) #[] #[], .func (.func 146) #[] #[], .func (.func 148) #[] #[]]⟩ : Array Value)[i]? = some v → W.cell? ⟨0, i, none⟩ = some v := fun i v hi => (World.var?_cell gCond hv i).trans hi
  have h0 := hc 0 _ rfl
  refine ⟨?_, h0, hc 1 _ rfl, hc 2 _ rfl⟩
  rcases Nat.lt_or_ge 0 W.heap.size with h' | h'
  · exact h'
  · unfold World.cell? at h0
    rw [show W.heap[(⟨0, 0, none⟩ : Addr).block]? = none from Array.getElem?_eq_none h'] at h0
    cases h0

theorem tyPow : (Tryd.prog.globals[1]?).map (·.type) = some 164 := by kernel_rfl
set_option maxRecDepth 100000 in
theorem tab_of_laid {W : World} (h : laidMetH Tryd.prog laidList W) : PTab W := by
  refine ⟨lim_of_laid h, ?_⟩
  obtain ⟨⟨ps, hl, _, _⟩, _⟩ : laidMet Tryd.prog [("math/bits.deBruijn32tab", Rows.laid_math_bits_deBruijn32tab), ("math/bits.deBruijn64tab", Rows.laid_math_bits_deBruijn64tab), ("internal/strconv.uint64pow10", Rows.laid_internal_strconv_uint64pow10)] W ∧ _ := h
  obtain ⟨_, _, _, _, _, _, _, _, _, _, hl, _⟩ := hl
  obtain ⟨_, _, _, _, _, _, _, _, _, _, hl, _⟩ := hl
  obtain ⟨g2, t2, cs2, fuel2, p2, _, hg2, ht2, hv2, hd2, hl, _⟩ := hl
  obtain rfl := Option.some.inj (gPow.symm.trans hg2)
  obtain rfl := Option.some.inj (tyPow.symm.trans ht2)
  have e : (Rows.laid_internal_strconv_uint64pow10 : DataW Unit) = Lib.tabData .u64 Lib.pow10Tab := by kernel_rfl
  rw [e] at hd2
  unfold Lib.TabIs
  rw [hv2, ← Lib.cells_of_tab Tryd.underlying164 Tryd.underlying155 (by kernel_rfl) (by kernel_rfl) hd2]

theorem laid_met (os : Os) (args : Array Value) : laidMetH Tryd.prog laidList ((World.doorLaid Tryd.prog 35 os).forCall (fun _ _ => 0) ⟨#[], args, []⟩).memory :=
  laidMetH_of_parts3 (fuel := 8) (laidMet_of_run' 8 (by kernel_rfl) (by kernel_rfl)) (by kernel_rfl) (by kernel_rfl)
theorem door_vars (os : Os) (args : Array Value) : ((World.doorLaid Tryd.prog 35 os).forCall (fun _ _ => 0) ⟨#[], args, []⟩).variablesB Tryd.prog = true := by kernel_rfl
theorem door_rest (os : Os) (args : Array Value) : (((World.doorLaid Tryd.prog 35 os).forCall (fun _ _ => 0) ⟨#[], args, []⟩).heap.toList.drop Tryd.prog.globals.size).take ((begin Tryd.prog (fun _ _ => 0) default).world.heap.size - Tryd.prog.globals.size) =
      (begin Tryd.prog (fun _ _ => 0) default).world.heap.toList.drop Tryd.prog.globals.size := by kernel_rfl

section
variable {H : Type} {enc : TypeId × Value → H} {P : Program} {w : World} {base : Nat} {sp : Nat → Bool} {held : Bool}

theorem cell_lt {w : World} {b o : Nat} {v : Value} (h : w.cell? ⟨b, o, none⟩ = some v) : b < w.heap.size := by
  rcases Nat.lt_or_ge b w.heap.size with h' | h'
  · exact h'
  · unfold World.cell? at h
    rw [show w.heap[(⟨b, o, none⟩ : Addr).block]? = none from Array.getElem?_eq_none h'] at h
    cases h

/-- a slice whose elements are made of integers alone. -/
theorem open_slab (m : Nat) {t e : TypeId} {k : Nat} {fuel : Nat} {cs : List Value} {x : DataW H × List MemPlace} (ht : P.underlying t = some (.slice e)) (he : intsB P m e = true) (hk : P.cellsOf e = k) (hk0 : 0 < k)
    (h : DataW.trod enc P w base sp held fuel t cs = some x) :
    ∃ (A : Option Addr) (len cap : Nat) (zs : Nat → List Int), cs = [.slice A len cap] ∧ len ≤ cap ∧ cap ≤ maxLen ∧ (∀ i, i < len → (zs i).length = k) ∧
      (0 < len → ∃ b o, A = some ⟨b, o, none⟩ ∧ b < w.heap.size ∧ ∀ i j, i < len → j < k → w.cell? ⟨b, o + i * k + j, none⟩ = some (.int .i64 ((zs i).getD j 0))) := by
  subst hk
  rcases Deep.open_slice ht h with ⟨rfl, _⟩ | ⟨a, len, cap, m', n, D, Pl, rfl, _, h1, h2, h3, _, h4⟩
  · exact ⟨none, 0, 0, fun _ => [], rfl, Nat.le_refl _, Nat.zero_le _, fun i hi => by omega, fun h0 => by omega⟩
  · have hlm : len ≤ m' := by rw [h3]; split <;> omega
    obtain ⟨zs, hzs⟩ := Deep.choose_lt (n := len) (α := List Int) (p := fun i z => z.length = P.cellsOf e ∧ ∀ j, j < P.cellsOf e → w.cell? ((a.add (i * P.cellsOf e)).add j) = some (.int .i64 (z.getD j 0))) (fun i hi => by
      obtain ⟨cs', hc, hx⟩ := h4 i (by omega)
      obtain ⟨_, hl, hcell⟩ := World.cells?_some hc
      obtain ⟨hcs, _⟩ := cells_of_ints m he hx
      refine ⟨flat m (D i), ?_, fun j hj => ?_⟩
      · have := congrArg List.length hcs
        simp at this
        omega
      · rw [hcell j hj, hcs]
        have hj' : j < (flat m (D i)).length := by
          have := congrArg List.length hcs
          simp at this
          omega
        simp [List.getD, hj'])
    refine ⟨some a, len, cap, zs, rfl, h1, h2, fun i hi => (hzs i hi).1, fun h0 => ?_⟩
    obtain ⟨b, o, s⟩ := a
    have hs : s = none := by
      have := World.cell?_spot ((hzs 0 h0).2 0 hk0)
      simpa [Addr.add] using this
    subst hs
    refine ⟨b, o, rfl, ?_, fun i j hi hj => ?_⟩
    · have := (hzs 0 h0).2 0 hk0
      rw [add_plain, add_plain] at this
      exact cell_lt this
    · have := (hzs i hi).2 j hj
      rwa [add_plain, add_plain] at this

/-- a slice of integers. -/
theorem open_cells (m : Nat) {t e : TypeId} {fuel : Nat} {cs : List Value} {x : DataW H × List MemPlace} (ht : P.underlying t = some (.slice e)) (he : intsB P m e = true) (hk : P.cellsOf e = 1)
    (h : DataW.trod enc P w base sp held fuel t cs = some x) : ∃ (A : Option Addr) (cap : Nat) (zs : List Int), cs = [.slice A zs.length cap] ∧ zs.length ≤ cap ∧ cap ≤ maxLen ∧ Cells w A zs := by
  obtain ⟨A, len, cap, zs, rfl, h1, h2, _, h3⟩ := open_slab m ht he hk (by omega) h
  refine ⟨A, cap, (List.range len).map fun i => (zs i).getD 0 0, by simp, by simpa using h1, h2, fun h0 => ?_⟩
  obtain ⟨b, o, hA, hb, hc⟩ := h3 (by simpa using h0)
  refine ⟨b, o, hA, hb, fun k hk => ?_⟩
  have hk' : k < len := by simpa using hk
  have := hc k 0 hk' (by omega)
  simp only [Nat.mul_one, Nat.add_zero] at this
  rw [this]
  simp [List.getD, hk']
end

set_option maxRecDepth 100000 in
/-- an argument that is a slice of integers, opened. -/
theorem open_islice {H : Type} {enc : TypeId × Value → H} {w : World} {base : Nat} {r : Reach} {b0 : Nat} {sp : Nat → Bool} {held : Bool} {v : Value} {d : DataW H} {p : List MemPlace}
    (hv : Value.okWide Tryd.prog w r b0 22 v) (hd : DataW.Trod enc Tryd.prog w base sp held 22 v d p) :
    ∃ (A : Option Addr) (c : Nat) (zs : List Int), v = .slice A zs.length c ∧ zs.length ≤ c ∧ c ≤ maxLen ∧ Cells w A zs := by
  obtain ⟨a, len, cap, rfl⟩ := okWide_slice Tryd.underlying22 hv
  obtain ⟨fuel, hf⟩ := hd
  have hf' : DataW.trod enc Tryd.prog w base sp held fuel 22 [.slice a len cap] = some (d, p) := hf
  obtain ⟨A, c, zs, e, h1, h2, k⟩ := open_cells 3 Tryd.underlying22 (by kernel_rfl) (by kernel_rfl) hf'
  exact ⟨A, c, zs, by simpa using e, h1, h2, k⟩

set_option maxRecDepth 100000 in
/-- a guard, opened: three integers and two slices of integers. -/
theorem open_guard {H : Type} {enc : TypeId × Value → H} {w : World} {base : Nat} {r : Reach} {b0 : Nat} {sp : Nat → Bool} {held : Bool} {v : Value} {d : DataW H} {p : List MemPlace}
    (hv : Value.okWide Tryd.prog w r b0 24 v) (hd : DataW.Trod enc Tryd.prog w base sp held 24 v d p) :
    ∃ (lk ht rc : Int) (A1 A2 : Option Addr) (c1 c2 : Nat) (ts gs : List Int), v = .agg #[(.int .i64 (lk)), (.int .i64 (ht)), .slice A1 ts.length c1, (.int .i64 (rc)), .slice A2 gs.length c2] ∧ Cells w A1 ts ∧ Cells w A2 gs := by
  obtain ⟨cs, rfl, hsz⟩ := okWide_struct Tryd.underlying24 hv
  obtain ⟨fuel, hf⟩ := hd
  obtain ⟨xs, n, _, _, hl, hxl, hf⟩ := DataW.trod_struct Tryd.underlying24 hf
  rw [show Tryd.prog.cellsOf 24 = 5 by kernel_rfl] at hsz
  obtain ⟨l⟩ := cs
  match l, hsz with
  | [u0, u1, u2, u3, u4], _ =>
  match xs, hxl with
  | [x0, x1, x2, x3, x4], _ =>
  have hi : Flat.intsB Tryd.prog 3 3 = true := by kernel_rfl
  have h0 : DataW.trod enc Tryd.prog w base sp held n 3 [u0] = some x0 := hf 0 _ rfl
  have h1 : DataW.trod enc Tryd.prog w base sp held n 3 [u1] = some x1 := hf 1 _ rfl
  have h2 : DataW.trod enc Tryd.prog w base sp held n 22 [u2] = some x2 := hf 2 _ rfl
  have h3 : DataW.trod enc Tryd.prog w base sp held n 3 [u3] = some x3 := hf 3 _ rfl
  have h4 : DataW.trod enc Tryd.prog w base sp held n 22 [u4] = some x4 := hf 4 _ rfl
  obtain ⟨lk, e0, _, _⟩ := DataW.trod_int Tryd.underlying3 h0
  obtain ⟨ht, e1, _, _⟩ := DataW.trod_int Tryd.underlying3 h1
  obtain ⟨rc, e3, _, _⟩ := DataW.trod_int Tryd.underlying3 h3
  obtain ⟨A1, c1, ts, e2, _, _, k1⟩ := open_cells 3 Tryd.underlying22 hi (by kernel_rfl) h2
  obtain ⟨A2, c2, gs, e4, _, _, k2⟩ := open_cells 3 Tryd.underlying22 hi (by kernel_rfl) h4
  obtain rfl : u0 = _ := by simpa using e0
  obtain rfl : u1 = _ := by simpa using e1
  obtain rfl : u2 = _ := by simpa using e2
  obtain rfl : u3 = _ := by simpa using e3
  obtain rfl : u4 = _ := by simpa using e4
  exact ⟨lk, ht, rc, A1, A2, c1, c2, ts, gs, rfl, k1, k2⟩

set_option maxRecDepth 100000 in
/-- a state, opened: two integers and a slice of integers. -/
theorem open_state {H : Type} {enc : TypeId × Value → H} {w : World} {base : Nat} {r : Reach} {b0 : Nat} {sp : Nat → Bool} {held : Bool} {v : Value} {d : DataW H} {p : List MemPlace}
    (hv : Value.okWide Tryd.prog w r b0 26 v) (hd : DataW.Trod enc Tryd.prog w base sp held 26 v d p) :
    ∃ (h lv : Int) (A : Option Addr) (c : Nat) (l : List Int), v = .agg #[(.int .i64 (h)), (.int .i64 (lv)), .slice A l.length c] ∧ Cells w A l := by
  obtain ⟨cs, rfl, hsz⟩ := okWide_struct Tryd.underlying26 hv
  obtain ⟨fuel, hf⟩ := hd
  obtain ⟨xs, n, _, _, hl, hxl, hf⟩ := DataW.trod_struct Tryd.underlying26 hf
  rw [show Tryd.prog.cellsOf 26 = 3 by kernel_rfl] at hsz
  obtain ⟨l⟩ := cs
  match l, hsz with
  | [u0, u1, u2], _ =>
  match xs, hxl with
  | [x0, x1, x2], _ =>
  have hi : Flat.intsB Tryd.prog 3 3 = true := by kernel_rfl
  have h0 : DataW.trod enc Tryd.prog w base sp held n 3 [u0] = some x0 := hf 0 _ rfl
  have h1 : DataW.trod enc Tryd.prog w base sp held n 3 [u1] = some x1 := hf 1 _ rfl
  have h2 : DataW.trod enc Tryd.prog w base sp held n 22 [u2] = some x2 := hf 2 _ rfl
  obtain ⟨a, e0, _, _⟩ := DataW.trod_int Tryd.underlying3 h0
  obtain ⟨b, e1, _, _⟩ := DataW.trod_int Tryd.underlying3 h1
  obtain ⟨A1, c1, ts, e2, _, _, k1⟩ := open_cells 3 Tryd.underlying22 hi (by kernel_rfl) h2
  obtain rfl : u0 = _ := by simpa using e0
  obtain rfl : u1 = _ := by simpa using e1
  obtain rfl : u2 = _ := by simpa using e2
  exact ⟨a, b, A1, c1, ts, rfl, k1⟩
end Go.Proofs.YtdeapbihbhoefaaDoor

/- Contract of Print: a guard's words, joined. -/
namespace Go.Proofs.YtdeapbihbhoefaaDoor
open Go.RowKit
open Calm (bcell Blk)

theorem row_some {w : World} {base : Nat} {e : TypeId} {size : Nat} {v : Value} {n : Nat} {xs : List Value} (h : w.ownsRow base e size v n xs) (hn : 0 < n) : ∃ g c, v = .slice (some ⟨g, 0, none⟩) n c ∧ base ≤ g ∧ g < w.heap.size ∧ n ≤ c := by
  rcases h.2 with ⟨_, h1⟩ | ⟨g, cap, cur, rfl, h2, h3, h4, _⟩
  · omega
  · exact ⟨g, cap, rfl, h2, (Array.getElem?_eq_some_iff.1 h3).1, h4⟩
theorem name_list {P : Program} {ops : Array Oper} {Q : Exit → Act → World → Prop} {rest : List Oper} {a : Act} {W : World} (h : ∀ w2, w2 = W → wpList P ops Q rest a w2) : wpList P ops Q rest a W := h _ rfl
theorem name_calls {P : Program} {f : FuncId} {args : Array Value} {W : World} {R : Ending → World → Prop} (h : ∀ w2, w2 = W → Calls P f args w2 R) : Calls P f args W R := h _ rfl
def guardW : List UInt8 := [103, 117, 97, 114, 100]
def tapsW : List UInt8 := [116, 97, 112, 115]
def gainsW : List UInt8 := [103, 97, 105, 110, 115]
/-- the words of a guard's text. -/
def wordsG (lk ht rc : Int) (ts gs : List Int) : List (List UInt8) := [guardW, Lib.itoa lk, Lib.itoa ht, Lib.itoa rc, tapsW] ++ ts.map Lib.itoa ++ [gainsW] ++ gs.map Lib.itoa
def textG (lk ht rc : Int) (ts gs : List Int) : List UInt8 := Lib.join (wordsG lk ht rc ts gs) [32]
theorem inW_of {b : Int} {l : List Int} (h : inB b l) (h0 : 0 ≤ b) (hb : b ≤ 1000000000) : inW l := fun k => by have := inB_get h h0 k; omega
theorem lens_le {xs : List (List UInt8)} {n : Nat} (h : ∀ x ∈ xs, x.length ≤ n) : Lib.lens xs ≤ n * xs.length := by
  induction xs with
  | nil => simp [Lib.lens]
  | cons x xs ih =>
    have h1 := ih (fun y hy => h y (by simp [hy]))
    have h2 := h x (by simp)
    have e : Lib.lens (x :: xs) = x.length + Lib.lens xs := by simp [Lib.lens]
    rw [e, List.length_cons, Nat.mul_add]
    omega
theorem textG_len {lk ht rc : Int} {ts gs : List Int} (h1 : inW ts) (h2 : inW gs) (h3 : inW [lk, ht, rc]) (h4 : ts.length ≤ 1000) (h5 : gs.length ≤ 1000) : (textG lk ht rc ts gs).length ≤ 1000000 := by
  have e : textG lk ht rc ts gs = Lib.join (guardW :: ([Lib.itoa lk, Lib.itoa ht, Lib.itoa rc, tapsW] ++ ts.map Lib.itoa ++ [gainsW] ++ gs.map Lib.itoa)) [32] := rfl
  rw [e, Lib.join_length]
  have hw : ∀ x ∈ wordsG lk ht rc ts gs, x.length ≤ 21 := by
    have hi : ∀ (l : List Int), inW l → ∀ x ∈ l.map Lib.itoa, x.length ≤ 21 := by
      intro l hl x hx
      obtain ⟨n, hn, rfl⟩ := List.mem_map.1 hx
      obtain ⟨k, hk, rfl⟩ := List.mem_iff_getElem.1 hn
      have := hl k
      rw [List.getD_eq_getElem?_getD, List.getElem?_eq_getElem hk] at this
      exact Lib.itoa_length_le _ this.1 this.2
    have h3' := hi _ h3
    intro x hx
    unfold wordsG at hx
    simp only [List.mem_append, List.mem_cons, List.not_mem_nil, or_false] at hx
    rcases hx with (((rfl | rfl | rfl | rfl | rfl) | hx) | rfl) | hx
    · decide
    · exact h3' _ (by simp)
    · exact h3' _ (by simp)
    · exact h3' _ (by simp)
    · decide
    · exact hi _ h1 x hx
    · decide
    · exact hi _ h2 x hx
  have := lens_le hw
  have e2 : (wordsG lk ht rc ts gs).length = 6 + ts.length + gs.length := by unfold wordsG; simp; omega
  rw [e2] at this
  have e3 : wordsG lk ht rc ts gs = guardW :: ([Lib.itoa lk, Lib.itoa ht, Lib.itoa rc, tapsW] ++ ts.map Lib.itoa ++ [gainsW] ++ gs.map Lib.itoa) := rfl
  rw [e3] at this
  simp at this ⊢
  omega
theorem Print_bad (lk ht rc : Int) (ts gs : List Int) (A1 A2 : Option Addr) (M L c1 c2 : Nat) (w : World) (hM : M = ts.length) (hL : L = gs.length) (hT : Cells w A1 ts) (hG : Cells w A2 gs) (h1 : M ≤ 1000) (h2 : L ≤ 1000) (he : guardErr lk ht rc ts gs ≠ 0) :
    Calls Tryd.prog 68 #[.agg #[(.int .i64 (lk)), (.int .i64 (ht)), .slice A1 M c1, (.int .i64 (rc)), .slice A2 L c2]] w fun r w' => r = .returned (.tuple #[.string ⟨#[]⟩, (.int .i64 (guardErr lk ht rc ts gs))]) ∧ Below w.heap.size w w' := by
  have HCG : Hid (∀ W, Cells W A1 ts → Cells W A2 gs → Calls Tryd.prog 20 #[.agg #[(.int .i64 (lk)), (.int .i64 (ht)), .slice A1 M c1, (.int .i64 (rc)), .slice A2 L c2]] W fun r w' => r = .returned (.int .i64 (guardErr lk ht rc ts gs)) ∧ Below W.heap.size W w') := Lib.hid (fun W q1 q2 => by rw [hM, hL]; exact checkGuard_any lk ht rc ts gs A1 A2 c1 c2 W q1 q2 (by omega) (by omega))
  have HT := Lib.hid hT
  have HG := Lib.hid hG
  obtain ⟨E, hE⟩ : ∃ E, E = guardErr lk ht rc ts gs := ⟨_, rfl⟩
  rw [← hE] at HCG he ⊢
  clear hM hL hT hG hE
  go_enter Tryd.func68, Tryd.ntmps68
  go_wp2_with (go_at_call 20; refine (HCG.out _ (HT.out.below (by (repeat (first | (with_reducible exact Below.refl _ _) | ((with_reducible refine Below.setCell ?_ ?_ _); rotate_left 1; focus (first | (simp; done) | (simp; omega) | (simp at *; omega))) | ((with_reducible refine Below.alloc ?_ ?_ _); rotate_left 1; focus (first | (simp; done) | (simp; omega) | (simp at *; omega))) | (with_reducible refine Below.drew ?_) | ((with_reducible refine Calm.step (by assumption) ?_ ?_); rotate_left 1; focus (first | (simp; done) | (simp; omega) | (simp at *; omega))))))) (HG.out.below (by (repeat (first | (with_reducible exact Below.refl _ _) | ((with_reducible refine Below.setCell ?_ ?_ _); rotate_left 1; focus (first | (simp; done) | (simp; omega) | (simp at *; omega))) | ((with_reducible refine Below.alloc ?_ ?_ _); rotate_left 1; focus (first | (simp; done) | (simp; omega) | (simp at *; omega))) | (with_reducible refine Below.drew ?_) | ((with_reducible refine Calm.step (by assumption) ?_ ?_); rotate_left 1; focus (first | (simp; done) | (simp; omega) | (simp at *; omega)))))))).mono ?_; rintro r w1 ⟨rfl, hb1⟩; have HB1 := Lib.hid (show Below w.heap.size w w1 from Below.trans (by (repeat (first | (with_reducible exact Below.refl _ _) | ((with_reducible refine Below.setCell ?_ ?_ _); rotate_left 1; focus (first | (simp; done) | (simp; omega) | (simp at *; omega))) | ((with_reducible refine Below.alloc ?_ ?_ _); rotate_left 1; focus (first | (simp; done) | (simp; omega) | (simp at *; omega))) | (with_reducible refine Below.drew ?_) | ((with_reducible refine Calm.step (by assumption) ?_ ?_); rotate_left 1; focus (first | (simp; done) | (simp; omega) | (simp at *; omega)))))) (hb1.mono (by simp; try omega))); clear hb1)
  go_ret2
  exact ⟨rfl, HB1.out⟩

set_option maxRecDepth 100000 in
set_option maxHeartbeats 2000000 in
theorem Print_ok (lk ht rc : Int) (ts gs : List Int) (A1 A2 : Option Addr) (M L c1 c2 : Nat) (w : World) (hM : M = ts.length) (hL : L = gs.length) (hTab : PTab w) (hT : Cells w A1 ts) (hG : Cells w A2 gs) (h1 : M ≤ 1000) (h2 : L ≤ 1000) (he : guardErr lk ht rc ts gs = 0) :
    Calls Tryd.prog 68 #[.agg #[(.int .i64 (lk)), (.int .i64 (ht)), .slice A1 M c1, (.int .i64 (rc)), .slice A2 L c2]] w fun r w' => r = .returned (.tuple #[.string ⟨(textG lk ht rc ts gs).toArray⟩, (.int .i64 (0))]) ∧ Below w.heap.size w w' := by
  obtain ⟨i0, hii, hz0, hz1, hz2⟩ := info_parts Tryd.infoS
  have hV := guard_valid he
  have vlk := hV.lk
  have vht := hV.ht
  have vrc := hV.rc
  have vts := hV.tl
  have vgs := hV.gl
  have hWT := inW_of hV.tb (by omega) (by omega)
  have hWG : inW gs := fun k => by have := hV.gb k; omega
  have hW3 : inW [lk, ht, rc] := fun k => by
    match k with
    | 0 => simp; omega
    | 1 => simp; omega
    | 2 => simp; omega
    | k + 3 => simp
  have HLEN := Lib.hid (textG_len hWT hWG hW3 (by omega) (by omega))
  have HCG : Hid (∀ W, Cells W A1 ts → Cells W A2 gs → Calls Tryd.prog 20 #[.agg #[(.int .i64 (lk)), (.int .i64 (ht)), .slice A1 M c1, (.int .i64 (rc)), .slice A2 L c2]] W fun r w' => r = .returned (.int .i64 (0)) ∧ Below W.heap.size W w') := Lib.hid (fun W q1 q2 => by
    have := checkGuard_any lk ht rc ts gs A1 A2 c1 c2 W q1 q2 (by omega) (by omega)
    rwa [← hM, ← hL, he] at this)
  have HM1 : Hid (∀ W, PTab W → Cells W A1 ts → Calls Tryd.prog 100 #[.slice A1 M c1, .func (.func 99) #[] #[]] W fun r w' => (∃ v, r = .returned v ∧ w'.ownsRow W.heap.size 9 1 v M (ts.map fun n => sv (Lib.itoa n))) ∧ Below W.heap.size W w') := Lib.hid (fun W q1 q2 => mappedS_any A1 ts M c1 W hM q1 q2 (by omega) hWT)
  have HM2 : Hid (∀ W, PTab W → Cells W A2 gs → Calls Tryd.prog 100 #[.slice A2 L c2, .func (.func 99) #[] #[]] W fun r w' => (∃ v, r = .returned v ∧ w'.ownsRow W.heap.size 9 1 v L (gs.map fun n => sv (Lib.itoa n))) ∧ Below W.heap.size W w') := Lib.hid (fun W q1 q2 => mappedS_any A2 gs L c2 W hL q1 q2 (by omega) hWG)
  obtain ⟨S1, hS1⟩ : ∃ S : ByteArray, S = ⟨(Lib.itoa lk).toArray⟩ := ⟨_, rfl⟩
  obtain ⟨S2, hS2⟩ : ∃ S : ByteArray, S = ⟨(Lib.itoa ht).toArray⟩ := ⟨_, rfl⟩
  obtain ⟨S3, hS3⟩ : ∃ S : ByteArray, S = ⟨(Lib.itoa rc).toArray⟩ := ⟨_, rfl⟩
  have HI1 : Hid (∀ W, PTab W → Calls Tryd.prog 99 #[(.int .i64 (lk))] W fun r w' => r = .returned (.string S1) ∧ Below W.heap.size W w') := Lib.hid (fun W q => by rw [hS1]; exact itoa_any lk W q (by omega) (by omega))
  have HI2 : Hid (∀ W, PTab W → Calls Tryd.prog 99 #[(.int .i64 (ht))] W fun r w' => r = .returned (.string S2) ∧ Below W.heap.size W w') := Lib.hid (fun W q => by rw [hS2]; exact itoa_any ht W q (by omega) (by omega))
  have HI3 : Hid (∀ W, PTab W → Calls Tryd.prog 99 #[(.int .i64 (rc))] W fun r w' => r = .returned (.string S3) ∧ Below W.heap.size W w') := Lib.hid (fun W q => by rw [hS3]; exact itoa_any rc W q (by omega) (by omega))
  have HE1 := Lib.hid hS1
  have HE2 := Lib.hid hS2
  have HE3 := Lib.hid hS3
  have HM := Lib.hid hM
  have HL := Lib.hid hL
  have HT := Lib.hid hT
  have HG := Lib.hid hG
  have HTab := Lib.hid hTab
  have hM1 : 1 ≤ M := by omega
  have hL1 : 1 ≤ L := by omega
  clear hS1 hS2 hS3 hM hL hT hG hTab he hV vlk vht vrc vts vgs hWT hWG hW3
  go_enter Tryd.func68, Tryd.ntmps68
  go_wp2_with (go_at_call 20; refine (HCG.out _ (HT.out.below (by (repeat (first | (with_reducible exact Below.refl _ _) | ((with_reducible refine Below.setCell ?_ ?_ _); rotate_left 1; focus (first | (simp; done) | (simp; omega) | (simp at *; omega))) | ((with_reducible refine Below.alloc ?_ ?_ _); rotate_left 1; focus (first | (simp; done) | (simp; omega) | (simp at *; omega))) | (with_reducible refine Below.drew ?_) | ((with_reducible refine Calm.step (by assumption) ?_ ?_); rotate_left 1; focus (first | (simp; done) | (simp; omega) | (simp at *; omega))))))) (HG.out.below (by (repeat (first | (with_reducible exact Below.refl _ _) | ((with_reducible refine Below.setCell ?_ ?_ _); rotate_left 1; focus (first | (simp; done) | (simp; omega) | (simp at *; omega))) | ((with_reducible refine Below.alloc ?_ ?_ _); rotate_left 1; focus (first | (simp; done) | (simp; omega) | (simp at *; omega))) | (with_reducible refine Below.drew ?_) | ((with_reducible refine Calm.step (by assumption) ?_ ?_); rotate_left 1; focus (first | (simp; done) | (simp; omega) | (simp at *; omega)))))))).mono ?_; rintro r w1 ⟨rfl, hb1⟩; have HB1 := Lib.hid (show Below w.heap.size w w1 from Below.trans (by (repeat (first | (with_reducible exact Below.refl _ _) | ((with_reducible refine Below.setCell ?_ ?_ _); rotate_left 1; focus (first | (simp; done) | (simp; omega) | (simp at *; omega))) | ((with_reducible refine Below.alloc ?_ ?_ _); rotate_left 1; focus (first | (simp; done) | (simp; omega) | (simp at *; omega))) | (with_reducible refine Below.drew ?_) | ((with_reducible refine Calm.step (by assumption) ?_ ?_); rotate_left 1; focus (first | (simp; done) | (simp; omega) | (simp at *; omega)))))) (hb1.mono (by simp; try omega))); have G1 := Lib.hid (show Blk w1 w.heap.size #[(.int .i64 (lk)), (.int .i64 (ht)), .slice A1 M c1, (.int .i64 (rc)), .slice A2 L c2] from Blk.below (by (repeat (first | ((with_reducible refine Blk.at_ ?_); focus (first | rfl | (simp; done) | (simp; omega))) | (with_reducible refine Blk.alloc ?_ _) | (with_reducible refine Blk.below ?_ (by with_reducible assumption)) | (with_reducible refine Blk.drew ?_)))) hb1); obtain ⟨g0, g1, g2, g3, g4, gl, gf⟩ := G1.out.o5; clear hb1)
  refine Rel.region3 9 (by kernel_rfl) (by kernel_rfl) (by kernel_rfl) ?_
  simp only [List.take_succ_cons, List.take_zero, List.drop_succ_cons, List.drop_zero, List.filterMap_cons, List.filterMap_nil]
  iterate 2 (apply Rel.op3; (focus (first | exact Rel.gno rfl | exact Rel.gyes _ true _ rfl rfl rfl | exact Rel.gyes _ false _ rfl rfl rfl)); (focus (intro a W hb hd hbase; obtain ⟨hc, hf⟩ := bcell hb; clear hb hf; simp [Rel.deps, Rel.dep1, Rel.ons, Region.binds, Act.eval] at hd; simp only [Act.eval, List.mem_cons, List.not_mem_nil, not_or, and_imp, or_false, Array.getD_eq_getD_getElem?] at hbase; go_simp; (try go_bits); (try rfl); done)); (try simp only [List.nil_append, List.cons_append]))
  (apply Rel.call3; (focus (first | exact Rel.gno rfl | exact Rel.gyes _ true _ rfl rfl rfl | exact Rel.gyes _ false _ rfl rfl rfl)); (focus (intro a W hb hd hbase; obtain ⟨hc, hf⟩ := bcell hb; clear hb hf; simp [Rel.deps, Rel.dep1, Rel.ons, Region.binds, Act.eval] at hd; simp only [Act.eval, List.mem_cons, List.not_mem_nil, not_or, and_imp, or_false, Array.getD_eq_getD_getElem?] at hbase; go_simp; refine ⟨?_, ?_⟩; rfl; rfl)); (focus (intro W hb; go_at_call 99; exact HI1.out _ (HTab.out.below (HB1.out.trans (hb.mono HB1.out.size))))); (try simp only [List.nil_append, List.cons_append]))
  iterate 2 (apply Rel.op3; (focus (first | exact Rel.gno rfl | exact Rel.gyes _ true _ rfl rfl rfl | exact Rel.gyes _ false _ rfl rfl rfl)); (focus (intro a W hb hd hbase; obtain ⟨hc, hf⟩ := bcell hb; clear hb hf; simp [Rel.deps, Rel.dep1, Rel.ons, Region.binds, Act.eval] at hd; simp only [Act.eval, List.mem_cons, List.not_mem_nil, not_or, and_imp, or_false, Array.getD_eq_getD_getElem?] at hbase; go_simp; (try go_bits); (try rfl); done)); (try simp only [List.nil_append, List.cons_append]))
  (apply Rel.call3; (focus (first | exact Rel.gno rfl | exact Rel.gyes _ true _ rfl rfl rfl | exact Rel.gyes _ false _ rfl rfl rfl)); (focus (intro a W hb hd hbase; obtain ⟨hc, hf⟩ := bcell hb; clear hb hf; simp [Rel.deps, Rel.dep1, Rel.ons, Region.binds, Act.eval] at hd; simp only [Act.eval, List.mem_cons, List.not_mem_nil, not_or, and_imp, or_false, Array.getD_eq_getD_getElem?] at hbase; go_simp; refine ⟨?_, ?_⟩; rfl; rfl)); (focus (intro W hb; go_at_call 99; exact HI2.out _ (HTab.out.below (HB1.out.trans (hb.mono HB1.out.size))))); (try simp only [List.nil_append, List.cons_append]))
  iterate 2 (apply Rel.op3; (focus (first | exact Rel.gno rfl | exact Rel.gyes _ true _ rfl rfl rfl | exact Rel.gyes _ false _ rfl rfl rfl)); (focus (intro a W hb hd hbase; obtain ⟨hc, hf⟩ := bcell hb; clear hb hf; simp [Rel.deps, Rel.dep1, Rel.ons, Region.binds, Act.eval] at hd; simp only [Act.eval, List.mem_cons, List.not_mem_nil, not_or, and_imp, or_false, Array.getD_eq_getD_getElem?] at hbase; go_simp; (try go_bits); (try rfl); done)); (try simp only [List.nil_append, List.cons_append]))
  (apply Rel.call3; (focus (first | exact Rel.gno rfl | exact Rel.gyes _ true _ rfl rfl rfl | exact Rel.gyes _ false _ rfl rfl rfl)); (focus (intro a W hb hd hbase; obtain ⟨hc, hf⟩ := bcell hb; clear hb hf; simp [Rel.deps, Rel.dep1, Rel.ons, Region.binds, Act.eval] at hd; simp only [Act.eval, List.mem_cons, List.not_mem_nil, not_or, and_imp, or_false, Array.getD_eq_getD_getElem?] at hbase; go_simp; refine ⟨?_, ?_⟩; rfl; rfl)); (focus (intro W hb; go_at_call 99; exact HI3.out _ (HTab.out.below (HB1.out.trans (hb.mono HB1.out.size))))); (try simp only [List.nil_append, List.cons_append]))
  refine Rel.done3 ?_
  intro x w2 hb2 hx
  simp only [Rel.facts, Nat.zero_add, Nat.reduceAdd] at hx
  obtain ⟨e0, e1, e2, e3, e4, e5, e6, e7, e8, _⟩ := hx
  simp only [Rel.fill, Nat.zero_add, Nat.reduceAdd, e0, e1, e2, e3, e4, e5, e6, e7, e8]
  simp only [Act.put, List.setIfInBounds_toArray, List.set_cons_zero, List.set_cons_succ]
  clear e0 e1 e2 e3 e4 e5 e6 e7 e8
  have HB2 := Lib.hid (HB1.out.trans (hb2.mono HB1.out.size))
  have G2 := Lib.hid (G1.out.below hb2)
  clear hb2 g0 g1 g2 g3 g4 gl gf
  obtain ⟨g0, g1, g2, g3, g4, gl, gf⟩ := G2.out.o5
  have hg2 := G2.out.lt
  go_wp2_with (go_at_call 100; refine name_calls ?_; intro w3 e3; refine Hid.out ?_)
  unfold Hid
  have hO3 : w3.ownsRow (w.heap.size + 1) 9 1 (.slice (some ⟨w2.heap.size, 0, none⟩) 5 5) 5 (#[.string ⟨#[103, 117, 97, 114, 100]⟩, .string S1, .string S2, .string S3, .string ⟨#[116, 97, 112, 115]⟩] : Array Value).toList := by rw [e3]; exact World.ownsRow_lit w2 _ 5 (by omega) (by decide) rfl
  have HO3 := Lib.hid hO3
  have HB3 := Lib.hid (show Below w.heap.size w w3 by rw [e3]; exact HB2.out.alloc HB2.out.size _)
  have G3 := Lib.hid (show Blk w3 w.heap.size #[(.int .i64 (lk)), (.int .i64 (ht)), .slice A1 M c1, (.int .i64 (rc)), .slice A2 L c2] by rw [e3]; exact G2.out.alloc _)
  clear e3 hO3 g0 g1 g2 g3 g4 gl gf
  refine (HM1.out _ (HTab.out.below HB3.out) (HT.out.below HB3.out)).mono ?_
  rintro r w4 ⟨⟨v1, rfl, ho1⟩, hb4⟩
  obtain ⟨r1, d1, rfl, hr1, hr1l, hd1⟩ := row_some ho1 hM1
  have HO1 := Lib.hid ho1
  have HO4 := Lib.hid (ownsRow_below HO3.out hb4)
  have HB4 := Lib.hid (HB3.out.trans (hb4.mono HB3.out.size))
  have G4 := Lib.hid (G3.out.below hb4)
  have hs4 := HB4.out.size
  have hs3 := G4.out.lt
  clear ho1 hb4
  go_wp2_with (at_builtin; refine wpList_append_own _ rfl _ _ 127 rfl (w.heap.size + 1) 9 i0 (.string ⟨#[]⟩) 1 16 Tryd.underlying127 hii hz0 hz1 hz2 rfl (by decide) _ _ _ rfl HO4.out ⟨r1, 0, none⟩ M d1 (ts.map fun n => sv (Lib.itoa n)) rfl ?c0 ?c1 ?c2 ?c3 ?c4 ?c5 ?_)
  case c0 => simp [HM.out]
  case c1 => exact fun j u hj => HO1.out.cells rfl j u hj
  case c2 => intro u hu; obtain ⟨_, _, rfl⟩ := List.mem_map.1 hu; rfl
  case c3 => unfold maxLen; omega
  case c4 => omega
  case c5 => omega
  intro v5 w5 hO5 hg5 _
  have hrow5 : ∀ j, Value.ownBlock _ = some j → w.heap.size + 1 ≤ j ∧ j < w4.heap.size := HO4.out.lt
  have HO5 := Lib.hid hO5
  have G5 := Lib.hid (grown_blk G4.out hg5 (fun j hj => by have := hrow5 j hj; omega))
  have HB5 := Lib.hid (HB4.out.grown hg5 hs4 (fun j hj => by have := hrow5 j hj; omega))
  have hs5 := G5.out.lt
  clear hO5 hg5 hrow5
  obtain ⟨g0, g1, g2, g3, g4, gl, gf⟩ := G5.out.o5
  go_wp2_with (at_builtin; refine name_list ?_; intro w6 e6; refine Hid.out ?_)
  unfold Hid
  have HB6 := Lib.hid (show Below w.heap.size w w6 by rw [e6]; exact HB5.out.alloc HB5.out.size _)
  have HO6 := Lib.hid (show w6.ownsRow (w.heap.size + 1) 9 1 v5 (5 + M) ((#[.string ⟨#[103, 117, 97, 114, 100]⟩, .string S1, .string S2, .string S3, .string ⟨#[116, 97, 112, 115]⟩] : Array Value).toList ++ ts.map fun n => sv (Lib.itoa n)) by rw [e6]; exact HO5.out.alloc _)
  have G6 := Lib.hid (show Blk w6 w.heap.size #[(.int .i64 (lk)), (.int .i64 (ht)), .slice A1 M c1, (.int .i64 (rc)), .slice A2 L c2] by rw [e6]; exact G5.out.alloc _)
  have HN6 := Lib.hid (show Blk w6 w5.heap.size #[.string ⟨#[103, 97, 105, 110, 115]⟩] by rw [e6]; exact Calm.Blk.new _ _ _)
  clear e6 g0 g1 g2 g3 g4 gl gf
  have hs6 := HB6.out.size
  have hs6g := G6.out.lt
  refine wpList_append_own _ rfl _ _ 127 rfl (w.heap.size + 1) 9 i0 (.string ⟨#[]⟩) 1 16 Tryd.underlying127 hii hz0 hz1 hz2 rfl (by decide) _ _ _ rfl HO6.out ⟨w5.heap.size, 0, none⟩ 1 1 [.string ⟨#[103, 97, 105, 110, 115]⟩] rfl rfl ?d1 ?d2 ?d3 ?d4 ?d5 ?_
  case d1 =>
    intro j u hj
    match j, hj with
    | 0, hj => simp at hj; subst hj; simpa [Addr.add] using HN6.out.c 0
  case d2 => intro u hu; simp at hu; subst hu; rfl
  case d3 => unfold maxLen; omega
  case d4 => omega
  case d5 => omega
  intro v7 w7 hO7 hg7 _
  have hrow7 : ∀ j, Value.ownBlock _ = some j → w.heap.size + 1 ≤ j ∧ j < w6.heap.size := HO6.out.lt
  have HO7 := Lib.hid hO7
  have G7 := Lib.hid (grown_blk G6.out hg7 (fun j hj => by have := hrow7 j hj; omega))
  have HB7 := Lib.hid (HB6.out.grown hg7 hs6 (fun j hj => by have := hrow7 j hj; omega))
  have hs7 := G7.out.lt
  clear hO7 hg7 hrow7 HN6
  obtain ⟨g0, g1, g2, g3, g4, gl, gf⟩ := G7.out.o5
  go_wp2_with (go_at_call 100; refine (HM2.out _ (HTab.out.below HB7.out) (HG.out.below HB7.out)).mono ?_; rintro r w8 ⟨⟨v8, rfl, ho8⟩, hb8⟩; refine Hid.out ?_)
  unfold Hid
  obtain ⟨r8, d8, rfl, hr8, hr8l, hd8⟩ := row_some ho8 hL1
  have HO8 := Lib.hid ho8
  have HP8 := Lib.hid (ownsRow_below HO7.out hb8)
  have HB8 := Lib.hid (HB7.out.trans (hb8.mono HB7.out.size))
  have hs8 := HB8.out.size
  have hs8g := (G7.out.below hb8).lt
  clear ho8 hb8 g0 g1 g2 g3 g4 gl gf
  go_wp2_with (at_builtin; refine wpList_append_own _ rfl _ _ 127 rfl (w.heap.size + 1) 9 i0 (.string ⟨#[]⟩) 1 16 Tryd.underlying127 hii hz0 hz1 hz2 rfl (by decide) _ _ _ rfl HP8.out ⟨r8, 0, none⟩ L d8 (gs.map fun n => sv (Lib.itoa n)) rfl ?e0 ?e1 ?e2 ?e3 ?e4 ?e5 ?_)
  case e0 => simp [HL.out]
  case e1 => exact fun j u hj => HO8.out.cells rfl j u hj
  case e2 => intro u hu; obtain ⟨_, _, rfl⟩ := List.mem_map.1 hu; rfl
  case e3 => unfold maxLen; omega
  case e4 => omega
  case e5 => omega
  intro v9 w9 hO9 hg9 _
  have hrow9 : ∀ j, Value.ownBlock _ = some j → w.heap.size + 1 ≤ j ∧ j < w8.heap.size := HP8.out.lt
  have HB9 := Lib.hid (HB8.out.grown hg9 hs8 (fun j hj => by have := hrow9 j hj; omega))
  have hall : (#[.string ⟨#[103, 117, 97, 114, 100]⟩, .string S1, .string S2, .string S3, .string ⟨#[116, 97, 112, 115]⟩] : Array Value).toList ++ (ts.map fun n => sv (Lib.itoa n)) ++ [.string ⟨#[103, 97, 105, 110, 115]⟩] ++ (gs.map fun n => sv (Lib.itoa n)) = ((wordsG lk ht rc ts gs).map fun l => (⟨l.toArray⟩ : ByteArray)).map Value.string := by
    rw [HE1.out, HE2.out, HE3.out]
    unfold wordsG guardW tapsW gainsW sv
    simp [Function.comp_def]
  have hO9 : w9.ownsRow (w.heap.size + 1) 9 1 v9 (5 + M + 1 + L) (((wordsG lk ht rc ts gs).map fun l => (⟨l.toArray⟩ : ByteArray)).map Value.string) := by rw [← hall]; simpa using hO9
  obtain ⟨r9, d9, rfl, hr9, hr9l, hd9⟩ := row_some hO9 (by omega)
  have hwl : ((wordsG lk ht rc ts gs).map fun l => (⟨l.toArray⟩ : ByteArray)).length = 5 + M + 1 + L := by
    unfold wordsG
    have h1 := HM.out
    have h2 := HL.out
    simp
    omega
  have hmm : (((wordsG lk ht rc ts gs).map fun l => (⟨l.toArray⟩ : ByteArray)).map (·.data.toList)) = wordsG lk ht rc ts gs := by
    rw [List.map_map]
    conv => rhs; rw [← List.map_id (wordsG lk ht rc ts gs)]
    exact List.map_congr_left (fun l _ => by simp)
  have HJ : Hid (Calls Tryd.prog 101 #[.slice (some ⟨r9, 0, none⟩) (5 + M + 1 + L) d9, .string ⟨#[32]⟩] w9 fun e w' => e = .returned (.string ⟨(textG lk ht rc ts gs).toArray⟩) ∧ Below w9.heap.size w9 w') := Lib.hid (by
    have := Tryd.strings_Join r9 0 d9 ((wordsG lk ht rc ts gs).map fun l => (⟨l.toArray⟩ : ByteArray)) ⟨#[32]⟩ w9 (fun j x hj => by
      have := hO9.cells rfl j (.string x) (by rw [List.getElem?_map, hj]; rfl)
      rw [Nat.zero_add]
      have e : (⟨r9, 0, none⟩ : Addr).add j = ⟨r9, j, none⟩ := by unfold Addr.add; split <;> simp_all
      rwa [e] at this) hr9l (by omega) (by omega) (by rw [hmm]; show (textG lk ht rc ts gs).length ≤ _; have := HLEN.out; omega)
    rw [hwl, hmm] at this
    exact this)
  have hs9 := HB9.out.size
  clear hO9 hg9 hrow9 hall hwl hmm
  go_wp2_with (go_at_call 101; refine HJ.out.mono ?_; rintro r w10 ⟨rfl, hb10⟩; refine Hid.out ?_)
  unfold Hid
  have HB10 := Lib.hid (HB9.out.trans (hb10.mono hs9))
  clear hb10
  obtain ⟨T, hT⟩ : ∃ T, T = textG lk ht rc ts gs := ⟨_, rfl⟩
  rw [← hT]
  have HTT := Lib.hid hT
  clear hT HJ HLEN
  go_wp2
  go_ret2
  have e := HTT.out
  subst e
  exact ⟨rfl, HB10.out⟩
end Go.Proofs.YtdeapbihbhoefaaDoor

/- What is known of a value: guards, states, slices of integers, tuples; stable where nothing old turns. Steps of a region by it. -/
namespace Go.Proofs.YtdeapbihbhoefaaDoor
open Go.RowKit
open Calm (bcell Blk)
open Rel (Know Stable)

/-- this value. -/
def KV (v : Value) : Know := fun u _ => u = v
theorem KV.st (v : Value) : Stable (KV v) := fun _ _ _ h _ => h
/-- a slice of n integers. -/
def KS (n : Nat) (l : List Int) : Know := fun u W => ∃ B c, u = .slice B n c ∧ Cells W B l
theorem KS.st (n : Nat) (l : List Int) : Stable (KS n l) := fun _ _ _ ⟨B, c, h1, h2⟩ hb => ⟨B, c, h1, h2.below hb⟩
/-- a guard. -/
def KG (lk ht rc : Int) (M : Nat) (ts : List Int) (L : Nat) (gs : List Int) : Know := fun u W => ∃ A1 c1 A2 c2, u = .agg #[(.int .i64 (lk)), (.int .i64 (ht)), .slice A1 M c1, (.int .i64 (rc)), .slice A2 L c2] ∧ Cells W A1 ts ∧ Cells W A2 gs
theorem KG.st (lk ht rc : Int) (M : Nat) (ts : List Int) (L : Nat) (gs : List Int) : Stable (KG lk ht rc M ts L gs) := fun _ _ _ ⟨A1, c1, A2, c2, h1, h2, h3⟩ hb => ⟨A1, c1, A2, c2, h1, h2.below hb, h3.below hb⟩
/-- a state. -/
def KT (h lv : Int) (n : Nat) (l : List Int) : Know := fun u W => ∃ B c, u = .agg #[(.int .i64 (h)), (.int .i64 (lv)), .slice B n c] ∧ Cells W B l
theorem KT.st (h lv : Int) (n : Nat) (l : List Int) : Stable (KT h lv n l) := fun _ _ _ ⟨B, c, h1, h2⟩ hb => ⟨B, c, h1, h2.below hb⟩
/-- a state whose last outputs lie in a row of integers. -/
def KTI (h lv : Int) (n : Nat) (l : List Int) : Know := fun u W => ∃ B c, u = .agg #[(.int .i64 (h)), (.int .i64 (lv)), .slice B n c] ∧ Cells W B l ∧ ∀ p, B = some p → IntRow W p
theorem KTI.st (h lv : Int) (n : Nat) (l : List Int) : Stable (KTI h lv n l) := fun _ _ _ ⟨B, c, h1, h2, h3⟩ hb => ⟨B, c, h1, h2.below hb, fun p hp => (h3 p hp).below hb⟩
theorem KTI.kt {h lv : Int} {n : Nat} {l : List Int} {u : Value} {W : World} (h1 : KTI h lv n l u W) : KT h lv n l u W := by
  obtain ⟨B, c, h1, h2, _⟩ := h1
  exact ⟨B, c, h1, h2⟩
theorem KTI.zero (W : World) : KTI 0 0 0 [] (.agg #[(.int .i64 (0)), (.int .i64 (0)), .slice none 0 0]) W := ⟨none, 0, rfl, fun h => by simp at h, fun p hp => by cases hp⟩
theorem KS.nil (W : World) : KS 0 [] (.slice none 0 0) W := ⟨none, 0, rfl, fun h => by simp at h⟩
theorem blkc {w : World} {g : Nat} {zs : List Int} (h : Blk w g (zs.map (Value.int .i64)).toArray) : Cells w (some ⟨g, 0, none⟩) zs := fun _ =>
  ⟨g, 0, rfl, h.lt, fun k hk => by rw [Nat.zero_add, h.c k]; simp [hk, List.getD_eq_getElem?_getD]⟩
/-- tuples. -/
def K2 (R1 R2 : Know) : Know := fun u W => ∃ u1 u2, u = .tuple #[u1, u2] ∧ R1 u1 W ∧ R2 u2 W
theorem K2.st {R1 R2 : Know} (h1 : Stable R1) (h2 : Stable R2) : Stable (K2 R1 R2) := fun _ W W' ⟨u1, u2, e, k1, k2⟩ hb => ⟨u1, u2, e, h1 _ W W' k1 hb, h2 _ W W' k2 hb⟩
def K3 (R1 R2 R3 : Know) : Know := fun u W => ∃ u1 u2 u3, u = .tuple #[u1, u2, u3] ∧ R1 u1 W ∧ R2 u2 W ∧ R3 u3 W
theorem K3.st {R1 R2 R3 : Know} (h1 : Stable R1) (h2 : Stable R2) (h3 : Stable R3) : Stable (K3 R1 R2 R3) := fun _ W W' ⟨u1, u2, u3, e, k1, k2, k3⟩ hb => ⟨u1, u2, u3, e, h1 _ W W' k1 hb, h2 _ W W' k2 hb, h3 _ W W' k3 hb⟩
/-- a call hands back what is known, and nothing old turns. -/
def KP (R : Know) (W : World) (e : Ending) (W' : World) : Prop := ∃ v, e = .returned v ∧ R v W' ∧ Below W.heap.size W W'

namespace Rel
section
variable {P : Program} {DS : List Tmp} {w0 : World} {a0 : Act} {T : Ctx → Prop} {Γ : Ctx} {o : Oper} {rest : List Oper}
theorem dep_at {Γ : Ctx} {a : Act} {W : World} : ∀ {js : List Nat}, deps Γ a W js → ∀ (j : Nat) {t : Tmp} {K : Know}, js.contains j = true → Γ[j]? = some (some t, K) → K (a.eval (.tmp t)) W
  | [], _, _, _, _, hj, _ => by simp at hj
  | i :: js, h, j, t, K, hj, hΓ => by
    rcases Bool.eq_false_or_eq_true (i == j) with e | e
    · rw [beq_iff_eq] at e
      subst e
      have h1 := h.1
      rw [hΓ] at h1
      exact h1
    · refine dep_at h.2 j (K := K) ?_ hΓ
      rw [List.contains_cons] at hj
      have : (j == i) = false := by rw [beq_eq_false_iff_ne] at e ⊢; exact fun e2 => e e2.symm
      rwa [this, Bool.false_or] at hj
theorem mvK (t : Tmp) (j : Nat) {K : Know} (hop : o.op = .move (.tmp t)) (hj : (ons o).contains j = true) (hΓ : Γ[j]? = some (some t, K)) (hs : Stable K) (hg : GOK3 Γ o)
    (hn : walk3 P DS w0 a0 T (Γ ++ [(o.dst, K)]) rest) : walk3 P DS w0 a0 T Γ (o :: rest) :=
  opR3 K hs hg (fun a W hb hd _ => ⟨a.eval (.tmp t), by simp [execOp, hop], dep_at hd j hj hΓ⟩) hn
theorem asgK (t : Tmp) (j : Nat) {K : Know} (hop : o.op = .assign (.tmp t)) (hj : (ons o).contains j = true) (hΓ : Γ[j]? = some (some t, K)) (hs : Stable K) (hg : GOK3 Γ o)
    (hn : walk3 P DS w0 a0 T (Γ ++ [(o.dst, K)]) rest) : walk3 P DS w0 a0 T Γ (o :: rest) :=
  opR3 K hs hg (fun a W hb hd _ => ⟨a.eval (.tmp t), by simp [execOp, hop], dep_at hd j hj hΓ⟩) hn
theorem ext20 (t : Tmp) (j : Nat) {R1 R2 : Know} (hop : o.op = .extract (.tmp t) 0) (hj : (ons o).contains j = true) (hΓ : Γ[j]? = some (some t, K2 R1 R2)) (hs : Stable R1) (hg : GOK3 Γ o)
    (hn : walk3 P DS w0 a0 T (Γ ++ [(o.dst, R1)]) rest) : walk3 P DS w0 a0 T Γ (o :: rest) :=
  opR3 R1 hs hg (fun a W hb hd _ => by
    obtain ⟨u1, u2, e, h1, h2⟩ := dep_at hd j hj hΓ
    exact ⟨u1, by simp [execOp, hop, e, Instr.extract, Result.andThen], h1⟩) hn
theorem ext21 (t : Tmp) (j : Nat) {R1 R2 : Know} (hop : o.op = .extract (.tmp t) 1) (hj : (ons o).contains j = true) (hΓ : Γ[j]? = some (some t, K2 R1 R2)) (hs : Stable R2) (hg : GOK3 Γ o)
    (hn : walk3 P DS w0 a0 T (Γ ++ [(o.dst, R2)]) rest) : walk3 P DS w0 a0 T Γ (o :: rest) :=
  opR3 R2 hs hg (fun a W hb hd _ => by
    obtain ⟨u1, u2, e, h1, h2⟩ := dep_at hd j hj hΓ
    exact ⟨u2, by simp [execOp, hop, e, Instr.extract, Result.andThen], h2⟩) hn
theorem ext30 (t : Tmp) (j : Nat) {R1 R2 R3 : Know} (hop : o.op = .extract (.tmp t) 0) (hj : (ons o).contains j = true) (hΓ : Γ[j]? = some (some t, K3 R1 R2 R3)) (hs : Stable R1) (hg : GOK3 Γ o)
    (hn : walk3 P DS w0 a0 T (Γ ++ [(o.dst, R1)]) rest) : walk3 P DS w0 a0 T Γ (o :: rest) :=
  opR3 R1 hs hg (fun a W hb hd _ => by
    obtain ⟨u1, u2, u3, e, h1, h2, h3⟩ := dep_at hd j hj hΓ
    exact ⟨u1, by simp [execOp, hop, e, Instr.extract, Result.andThen], h1⟩) hn
theorem ext31 (t : Tmp) (j : Nat) {R1 R2 R3 : Know} (hop : o.op = .extract (.tmp t) 1) (hj : (ons o).contains j = true) (hΓ : Γ[j]? = some (some t, K3 R1 R2 R3)) (hs : Stable R2) (hg : GOK3 Γ o)
    (hn : walk3 P DS w0 a0 T (Γ ++ [(o.dst, R2)]) rest) : walk3 P DS w0 a0 T Γ (o :: rest) :=
  opR3 R2 hs hg (fun a W hb hd _ => by
    obtain ⟨u1, u2, u3, e, h1, h2, h3⟩ := dep_at hd j hj hΓ
    exact ⟨u2, by simp [execOp, hop, e, Instr.extract, Result.andThen], h2⟩) hn
theorem ext32 (t : Tmp) (j : Nat) {R1 R2 R3 : Know} (hop : o.op = .extract (.tmp t) 2) (hj : (ons o).contains j = true) (hΓ : Γ[j]? = some (some t, K3 R1 R2 R3)) (hs : Stable R3) (hg : GOK3 Γ o)
    (hn : walk3 P DS w0 a0 T (Γ ++ [(o.dst, R3)]) rest) : walk3 P DS w0 a0 T Γ (o :: rest) :=
  opR3 R3 hs hg (fun a W hb hd _ => by
    obtain ⟨u1, u2, u3, e, h1, h2, h3⟩ := dep_at hd j hj hΓ
    exact ⟨u3, by simp [execOp, hop, e, Instr.extract, Result.andThen], h3⟩) hn
theorem callK (f : FuncId) (K : Know) (hs : Stable K) (hg : GOK3 Γ o)
    (h : ∀ (a : Act) (W : World), Below w0.heap.size w0 W → deps Γ a W (ons o) → (∀ t, t ∉ DS → a.eval (.tmp t) = a0.eval (.tmp t)) → ∃ args, (execOp a.eval o).run P W = .ok (.enter f args) W ∧ Calls P f args W (KP K W))
    (hn : walk3 P DS w0 a0 T (Γ ++ [(o.dst, K)]) rest) : walk3 P DS w0 a0 T Γ (o :: rest) :=
  callR3 K hs hg (fun a W hb hd hbase => by
    obtain ⟨args, h1, h2⟩ := h a W hb hd hbase
    exact ⟨f, args, h1, h2⟩) hn
end
end Rel
end Go.Proofs.YtdeapbihbhoefaaDoor
