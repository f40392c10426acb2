/- Part 2 of the texts of the claim: RelG, Turn, P3, P4, P5, P6, P7, Flat, LaidC, P13, P14, P15, S1, Tc1, Tc2. -/
import Derived.Test.YtamldoidalnloaaMm1
import Derived.Laws.AppendOwn
import Derived.WalkKit
import Derived.ProofKit
import Derived.OpenShut
import Derived.Lib.LaidTab
import Derived.Below
import Derived.Carry
import Derived.ChangeSame
import Derived.Test.YtamldoidalnloaaRows
import Derived.Deep.DeepHandedRow
import Derived.Deep.Slices
import Derived.LaidMore

/- Regions whose order is open, the world turning along any relation S (reflexive, transitive): stores in the head. Printed by relg.py. -/
namespace Go.Proofs.Ytamldoidalnloaa.RelG
open Go.RowKit
open Rel (Know dst puts upd puts_agree puts_put Apart apart_of puts_new put_size puts_size puts_other eval_put_same puts_here wanted_of GOK countP_upd left Ln okB sizeB all_listed listed_Ln some_ready fill fill_puts Ctx dep1 deps deps_of facts facts_of ons GOK3)

/-- .. and stays known along S. -/
def Stable (S : World → World → Prop) (R : Know) : Prop := ∀ v W W', R v W → S W W' → R v W'

section
variable {P : Program} {ops : Array Oper} {S : World → World → Prop}

/-- What an operation of the head must show: wherever it comes up. -/
def Ob (S : World → World → Prop) (P : Program) (ops : Array Oper) (n : Nat) (w0 : World) (a0 : Act) (Γ : List Know) (o : Oper) (R : Know) : Prop :=
  ∀ (a : Act) (W : World), S w0 W → a.tmps.size = a0.tmps.size →
    (∀ e ∈ o.after, Region.binds .any e = true → ∀ t, dst ops e.on = some t → ∀ K, Γ[e.on]? = some K → K (a.eval (.tmp t)) W) →
    (∀ t, (∀ j, j < n → dst ops j ≠ some t) → a.eval (.tmp t) = a0.eval (.tmp t)) →
    ∀ (K : Act → World → Prop) (Q : Exit → Act → World → Prop), (∀ v W', R v W' → S W W' → K (a.put o.dst v) W') → o.wp P a W K Q


/-- The walk in the order of the text: at each operation something that stays known is chosen. -/
def walk (S : World → World → Prop) (P : Program) (ops : Array Oper) (n : Nat) (w0 : World) (a0 : Act) (T : List Know → Prop) : List Know → List Oper → Prop
  | Γ, [] => T Γ
  | Γ, o :: l => ∃ R, Stable S R ∧ GOK ops Γ o ∧ (dst ops Γ.length = o.dst → Ob S P ops n w0 a0 Γ o R) ∧ walk S P ops n w0 a0 T (Γ ++ [R]) l


/-- What holds while the head is on its way. -/
structure Inv (S : World → World → Prop) (ops : Array Oper) (n : Nat) (w0 : World) (a0 : Act) (Γ : List Know) (listed : Array Bool) (a : Act) (W : World) : Prop where
  below : S w0 W
  vals : ∃ x : Nat → Value, a = puts ops x (fun j => listed.getD j false) (List.range n) a0 ∧ ∀ j, j < n → listed.getD j false = true → ∀ K, Γ[j]? = some K → K (x j) W


/-- The frame with all values of the head. -/
def fill : List Oper → Nat → (Nat → Value) → Act → Act
  | [], _, _, a => a
  | o :: l, k, x, a => fill l (k + 1) x (a.put o.dst (x k))
end

def Ob3 (S : World → World → Prop) (P : Program) (DS : List Tmp) (w0 : World) (a0 : Act) (Γ : Ctx) (o : Oper) (R : Know) : Prop :=
  ∀ (a : Act) (W : World), S w0 W → deps Γ a W (ons o) → (∀ t, t ∉ DS → a.eval (.tmp t) = a0.eval (.tmp t)) →
    ∀ (K : Act → World → Prop) (Q : Exit → Act → World → Prop), (∀ v W', R v W' → S W W' → K (a.put o.dst v) W') → o.wp P a W K Q

def walk3 (S : World → World → Prop) (P : Program) (DS : List Tmp) (w0 : World) (a0 : Act) (T : Ctx → Prop) : Ctx → List Oper → Prop
  | Γ, [] => T Γ
  | Γ, o :: l => ∃ R, Stable S R ∧ GOK3 Γ o ∧ Ob3 S P DS w0 a0 Γ o R ∧ walk3 S P DS w0 a0 T (Γ ++ [(o.dst, R)]) l
section
variable {S : World → World → Prop} {P : Program} {DS : List Tmp} {w0 : World} {a0 : Act} {T : Ctx → Prop} {Γ : Ctx} {o : Oper} {rest : List Oper}

end
end Go.Proofs.Ytamldoidalnloaa.RelG

/- Worlds that turn in one block alone, each cell of it to what it will be; for stores in the head of a drawn region. -/
namespace Go.Proofs.Ytamldoidalnloaa
open Go.RowKit
open Calm (bcell Blk)
/-- below B all but block g is as it was; each cell of block g is as it was, or as it will be. -/
structure Turns (g : Nat) (new : Array Value) (B : Nat) (W W' : World) : Prop where
  os : W'.os = W.os
  tape : W'.tape = W.tape
  output : W'.output = W.output
  size : W.heap.size ≤ W'.heap.size
  block : ∀ k, k < B → k ≠ g → W'.heap[k]? = W.heap[k]?
  cell : ∀ i, W'.cell? ⟨g, i, none⟩ = W.cell? ⟨g, i, none⟩ ∨ W'.cell? ⟨g, i, none⟩ = new[i]? ∧ ∃ u, W.cell? ⟨g, i, none⟩ = some u
  frozen : ∀ i, W'.frozen? ⟨g, i, none⟩ = W.frozen? ⟨g, i, none⟩
namespace RelG
open Rel (Know Ctx deps facts ons GOK3)
variable {S : World → World → Prop} {P : Program} {DS : List Tmp} {w0 : World} {a0 : Act} {T : Ctx → Prop} {Γ : Ctx} {o : Oper} {rest : List Oper}
end RelG
end Go.Proofs.Ytamldoidalnloaa

/- Contract of (Guard).behind: the state behind an output, and the excursion at it. -/
namespace Go.Proofs.Ytamldoidalnloaa
open Go.RowKit
open Calm (bcell Blk)

/-- the excursion at an output: the sum of the first taps. -/
def exK (ts ps : List Int) (y : Int) : Nat → Int
  | 0 => ts.getD 0 0 * y
  | k + 1 => exK ts ps y k + ts.getD (k + 1) 0 * ps.getD k 0
def exF (ts ps : List Int) (y : Int) : Int := exK ts ps y ps.length
/-- the last outputs behind one. -/
def pushL (ps : List Int) (y : Int) : List Int := (y :: ps).take ps.length
def inB (b : Int) (l : List Int) : Prop := ∀ x ∈ l, -b ≤ x ∧ x ≤ b
theorem inB_get {b : Int} {l : List Int} (h : inB b l) (hb : 0 ≤ b) (k : Nat) : -b ≤ l.getD k 0 ∧ l.getD k 0 ≤ b := by
  rw [List.getD_eq_getElem?_getD]
  rcases Nat.lt_or_ge k l.length with hk | hk
  · rw [List.getElem?_eq_getElem hk]; exact h _ (List.getElem_mem hk)
  · rw [List.getElem?_eq_none hk]; simp only [Option.getD_none]; omega
theorem mul_bd {a b A B : Int} (ha : -A ≤ a ∧ a ≤ A) (hb : -B ≤ b ∧ b ≤ B) : -(A * B) ≤ a * b ∧ a * b ≤ A * B := by
  have hA : 0 ≤ A := by omega
  have h1 : (A - a) * (B + b) ≥ 0 := Int.mul_nonneg (by omega) (by omega)
  have h2 : (A + a) * (B - b) ≥ 0 := Int.mul_nonneg (by omega) (by omega)
  have h3 : (A - a) * (B - b) ≥ 0 := Int.mul_nonneg (by omega) (by omega)
  have h4 : (A + a) * (B + b) ≥ 0 := Int.mul_nonneg (by omega) (by omega)
  simp only [Int.sub_mul, Int.add_mul, Int.mul_add, Int.mul_sub] at h1 h2 h3 h4
  omega
theorem Try.infoI : (Try.prog.info? 3).map (fun i => (i.zero, i.size, i.bytes)) = some (some (.int .i64 0), 1, 8) := by kernel_rfl
/-- n zeros. -/
def zerosA (n : Nat) : List Value := List.replicate n (.int .i64 0)
theorem mk_ints (n : Nat) (hn : n ≤ 1000000) (W : World) : Sem.run Try.prog (Instr.makeSlice 22 (.int .i64 n) (.int .i64 n)) W = .ok (.slice (some ⟨W.heap.size, 0, none⟩) n n) (W.alloc (.cells (zerosA n).toArray 3)) := by
  have e : (zerosA n).toArray = madeCells #[.int .i64 0] n := by
    apply Array.toList_inj.1
    rw [toList_madeCells_one]
    simp [zerosA]
  rw [e]
  exact run_make_row' 22 3 _ 8 Try.underlying22 Try.infoI rfl .i64 .i64 n (by omega) (by omega) W

theorem cells_src {w : World} {b o : Nat} {zs : List Int} (hc : ∀ k, k < zs.length → w.cell? ⟨b, o + k, none⟩ = some (.int .i64 (zs.getD k 0))) (j : Nat) (v : Value) (h : (zs.map (Value.int .i64))[j]? = some v) : w.cell? ((⟨b, o, none⟩ : Addr).add j) = some v := by
  have hadd : (⟨b, o, none⟩ : Addr).add j = ⟨b, o + j, none⟩ := by unfold Addr.add; split <;> simp_all
  rw [List.getElem?_map] at h
  rcases Nat.lt_or_ge j zs.length with hj | hj
  · rw [List.getElem?_eq_getElem hj] at h
    rw [hadd, hc j hj, ← h, List.getD_eq_getElem?_getD, List.getElem?_eq_getElem hj]
    rfl
  · rw [List.getElem?_eq_none hj] at h; cases h
theorem Cells.row {w : World} {g : Nat} {zs : List Int} {t : TypeId} (h : w.heap[g]? = some (.cells (zs.map (Value.int .i64)).toArray t (0, 0))) : Cells w (some ⟨g, 0, none⟩) zs := by
  intro h0
  refine ⟨g, 0, rfl, (Array.getElem?_eq_some_iff.1 h).1, fun k hk => ?_⟩
  simp [World.cell?, h, hk, List.getD_eq_getElem?_getD, List.getElem?_eq_getElem hk]
end Go.Proofs.Ytamldoidalnloaa

/- Contract of (Guard).tails: the excursions that come without further outputs. -/
namespace Go.Proofs.Ytamldoidalnloaa
open Go.RowKit
open Calm (bcell Blk)

/-- the last outputs behind k outputs 0. -/
def psK (ps : List Int) : Nat → List Int
  | 0 => ps
  | k + 1 => pushL (psK ps k) 0
/-- the tails of a state. -/
def tailsL (ts ps : List Int) (n : Nat) : List Int := (List.range n).map fun k => exF ts (psK ps k) 0
def tailsF (ts ps : List Int) : List Int := tailsL ts ps ps.length
theorem Cells.sets {w : World} {A : Option Addr} {zs : List Int} (h : Cells w A zs) {g : Nat} (hg : 0 < zs.length → ∀ p, A = some p → p.block ≠ g) (i : Nat) (v : Value) : Cells (w.setCell ⟨g, i, none⟩ v) A zs := by
  intro h0
  obtain ⟨b, off, hA, hl, hc⟩ := h h0
  have hne : b ≠ g := hg h0 _ hA
  exact ⟨b, off, hA, by simpa using hl, fun k hk => (World.cell?_setCell_other _ _ _ _ (by intro e; cases e; exact hne rfl)).trans (hc k hk)⟩
theorem own_ints {W : World} {base n : Nat} {e : TypeId} {v : Value} {zs : List Int} (h : W.ownsRow base e 1 v n (zs.map (Value.int .i64))) (hn : n = zs.length) : ∃ A c, v = .slice A n c ∧ (∀ p, A = some p → base ≤ p.block) ∧ Cells W A zs := by
  rcases h.2 with ⟨h1, h2⟩ | ⟨g, cap, cur, h1, h2, h3, h4, h5, h6, h7⟩
  · exact ⟨none, 0, by rw [h1, h2], by simp, fun h0 => by omega⟩
  · refine ⟨some ⟨g, 0, none⟩, cap, h1, by rintro p ⟨⟩; exact h2, fun h0 => ⟨g, 0, rfl, (Array.getElem?_eq_some_iff.1 h3).1, fun k hk => ?_⟩⟩
    have hj : (zs.map (Value.int .i64))[k]? = some (.int .i64 (zs.getD k 0)) := by simp [hk, List.getD_eq_getElem?_getD]
    rw [Nat.zero_add, cell_of_row W g k cur _ _ h3]
    rw [← h7, List.getElem?_take] at hj
    split at hj
    · rw [← hj]; simp
    · cases hj

end Go.Proofs.Ytamldoidalnloaa

/- Contracts of slices.IndexFunc and ContainsFunc at (Guard).far, of the third condition and of (Guard).fine. -/
namespace Go.Proofs.Ytamldoidalnloaa
open Go.RowKit
open Calm (bcell Blk)

end Go.Proofs.Ytamldoidalnloaa

/- Contracts of the third condition and of (Guard).fine. -/
namespace Go.Proofs.Ytamldoidalnloaa
open Go.RowKit
open Calm (bcell Blk)

def farAny (rc : Int) (l : List Int) : Bool := l.any fun x => decide (rc < absI x)

end Go.Proofs.Ytamldoidalnloaa

/- Contract of (Guard).fine: whether a state behind an output keeps all conditions. -/
namespace Go.Proofs.Ytamldoidalnloaa
open Go.RowKit
open Calm (bcell Blk)

end Go.Proofs.Ytamldoidalnloaa

/- A value of integers alone (structs and arrays of integers, nested): its cells are its integers, one behind another. And the row's last step under 'Below'. Of no program. -/
namespace Go.Flat
open Go.ChangeShapes Go.WideShapes Go.RowKit

def sideB : List (Nat × Nat) → Nat → Nat → Bool
  | [], off, tot => off == tot
  | (o, c) :: l, off, tot => o == off && sideB l (off + c) tot
/-- the type is made of integers alone, lying side by side. -/
def intsB (P : Program) : Nat → TypeId → Bool
  | 0, _ => false
  | n + 1, t => match P.underlying t with
    | some (.int .i64) => true
    | some (.struct fs) => sideB (fs.toList.map fun f => (f.offset, P.cellsOf f.type)) 0 (P.cellsOf t) && fs.toList.all fun f => intsB P n f.type
    | some (.array k e) => sideB ((List.range k).map fun i => (i * P.cellsOf e, P.cellsOf e)) 0 (P.cellsOf t) && intsB P n e
    | _ => false
/-- the integers of a datum. -/
def flat {H : Type} : Nat → DataW H → List Int
  | 0, _ => []
  | n + 1, .agg ds => ds.flatMap (flat n)
  | _ + 1, .lit (.int _ z) => [z]
  | _ + 1, _ => []

theorem side_cells {cs : List Value} : ∀ (l : List (Nat × Nat)) (zs : List (List Int)) (off : Nat), sideB l off cs.length = true → zs.length = l.length →
    (∀ (i o c : Nat), l[i]? = some (o, c) → ∃ z, zs[i]? = some z ∧ (cs.drop o).take c = z.map (Value.int .i64)) → cs.drop off = zs.flatten.map (Value.int .i64)
  | [], zs, off, hs, hl, _ => by
    obtain rfl : zs = [] := by simpa using hl
    have : off = cs.length := by simpa [sideB] using hs
    subst this
    simp
  | (o, c) :: l, zs, off, hs, hl, hf => by
    obtain ⟨z, zs', rfl⟩ : ∃ z zs', zs = z :: zs' := by
      cases zs with
      | nil => simp at hl
      | cons z zs' => exact ⟨z, zs', rfl⟩
    simp only [sideB, Bool.and_eq_true, beq_iff_eq] at hs
    obtain ⟨rfl, hs⟩ := hs
    obtain ⟨z', hz', h0⟩ := hf 0 o c rfl
    obtain rfl : z = z' := by simpa using hz'
    have ih := side_cells l zs' (o + c) hs (by simpa using hl) (fun i o' c' h => by simpa using hf (i + 1) o' c' (by simpa using h))
    calc cs.drop o = (cs.drop o).take c ++ (cs.drop o).drop c := (List.take_append_drop _ _).symm
      _ = _ := by rw [h0, List.drop_drop, ih]; simp

theorem cells_of_ints {H : Type} {enc : TypeId × Value → H} {P : Program} {w : World} {base : Nat} {sp : Nat → Bool} {held : Bool} :
    ∀ (m : Nat) {fuel : Nat} {t : TypeId} {cs : List Value} {x : DataW H × List MemPlace}, intsB P m t = true → DataW.trod enc P w base sp held fuel t cs = some x → cs = (flat m x.1).map (Value.int .i64) ∧ x.2 = []
  | 0, _, _, _, _, h, _ => by simp [intsB] at h
  | m + 1, fuel, t, cs, x, h, hx => by
    unfold intsB at h
    split at h
    · rename_i ht
      obtain ⟨z, rfl, rfl, _⟩ := DataW.trod_int ht hx
      exact ⟨rfl, rfl⟩
    · rename_i fs ht
      obtain ⟨xs, n, _, rfl, hl, hxl, hf⟩ := DataW.trod_struct ht hx
      simp only [Bool.and_eq_true, List.all_eq_true] at h
      obtain ⟨hs, hi⟩ := h
      have key : ∀ (i : Nat) (f : Field) (y : DataW H × List MemPlace), fs.toList[i]? = some f → xs[i]? = some y → (cs.drop f.offset).take (P.cellsOf f.type) = (flat m y.1).map (Value.int .i64) ∧ y.2 = [] := fun i f y hfi hy =>
        cells_of_ints m (hi f (List.mem_of_getElem? hfi)) ((hf i f (by simpa using hfi)).trans hy)
      have hlen : xs.length = fs.toList.length := by simpa using hxl
      refine ⟨?_, ?_⟩
      · have := side_cells (cs := cs) (fs.toList.map fun f => (f.offset, P.cellsOf f.type)) (xs.map fun y => flat m y.1) 0 (by rw [hl]; exact hs) (by simpa using hxl) (fun i o c hi' => by
          simp only [List.getElem?_map, Option.map_eq_some_iff] at hi'
          obtain ⟨f, hf1, hf2⟩ := hi'
          have hlt : i < xs.length := hlen ▸ (List.getElem?_eq_some_iff.1 hf1).1
          have hy : xs[i]? = some xs[i] := List.getElem?_eq_getElem hlt
          simp only [Prod.mk.injEq] at hf2
          obtain ⟨rfl, rfl⟩ := hf2
          exact ⟨_, by simp [hy], (key i f _ hf1 hy).1⟩)
        rw [List.drop_zero] at this
        refine this.trans ?_
        simp [flat, List.flatMap, List.map_map, Function.comp_def]
      · simp only [List.flatMap_eq_nil_iff]
        intro y hy
        obtain ⟨i, hi'⟩ := List.getElem?_of_mem hy
        have hlt : i < fs.toList.length := hlen ▸ (List.getElem?_eq_some_iff.1 hi').1
        exact (key i _ y (List.getElem?_eq_getElem hlt) hi').2
    · rename_i k e ht
      simp only [Bool.and_eq_true] at h
      obtain ⟨hs, hi⟩ := h
      cases fuel with
      | zero => simp [DataW.trod] at hx
      | succ fuel =>
        simp only [DataW.trod, ht] at hx
        split at hx
        · rename_i hl
          obtain ⟨xs, hm, rfl⟩ := Option.map_eq_some_iff.1 hx
          have hxl : xs.length = k := by simpa using Lib.mapM_length hm
          have key : ∀ (i : Nat) (y : DataW H × List MemPlace), xs[i]? = some y → (cs.drop (i * P.cellsOf e)).take (P.cellsOf e) = (flat m y.1).map (Value.int .i64) ∧ y.2 = [] := fun i y hy => by
            have hlt : i < k := hxl ▸ (List.getElem?_eq_some_iff.1 hy).1
            obtain ⟨b, hb, hf⟩ := Lib.mapM_at hm i i (by simp [hlt])
            obtain rfl := Option.some.inj (hy.symm.trans hb)
            exact cells_of_ints m hi hf
          refine ⟨?_, ?_⟩
          · have := side_cells (cs := cs) ((List.range k).map fun i => (i * P.cellsOf e, P.cellsOf e)) (xs.map fun y => flat m y.1) 0 (by rw [hl]; exact hs) (by simpa using hxl) (fun i o c hi' => by
              simp only [List.getElem?_map, Option.map_eq_some_iff] at hi'
              obtain ⟨j, hj1, hj2⟩ := hi'
              have hlt : i < k := by simpa using (List.getElem?_eq_some_iff.1 hj1).1
              obtain rfl : i = j := by simpa [hlt] using hj1
              have hy : xs[i]? = some (xs[i]'(by omega)) := List.getElem?_eq_getElem (by omega)
              simp only [Prod.mk.injEq] at hj2
              obtain ⟨rfl, rfl⟩ := hj2
              exact ⟨_, by simp [hy], (key i _ hy).1⟩)
            rw [List.drop_zero] at this
            refine this.trans ?_
            simp [flat, List.flatMap, List.map_map, Function.comp_def]
          · simp only [List.flatMap_eq_nil_iff]
            intro y hy
            obtain ⟨i, hi'⟩ := List.getElem?_of_mem hy
            exact (key i y hi').2
        · cases hx
    · cases h

section
variable {H : Type} {enc : TypeId × Value → H} {P : Program}
theorem post_of_below {f : Func} {s : ChangeSpec} {apart fresh handsOn again : Bool} {W W' : World} {args : Array Value} {v : Value} {ds gs : List (DataW H)} {before pa pv : List MemPlace}
    (hW : DataW.Whole enc P f.params.toList s.vars apart W args.toList ds gs before)
    (hres : ∀ (b : Nat) (sp : Nat → Bool) (hd : Bool), DataW.TrodAll enc P W' b sp hd f.resultTypes.toList (v.resultList f.resultTypes.size) (s.fn H (ds ++ gs)).results [])
    (hargs : ∀ sp : Nat → Bool, (∀ p ∈ before, sp p.block = true) → DataW.TrodAll enc P W' 0 sp true f.params.toList args.toList (s.fn H (ds ++ gs)).args pa)
    (hvars : ∀ sp : Nat → Bool, (∀ p ∈ before, sp p.block = true) → DataW.TrodVars enc P W' sp s.vars (s.fn H (ds ++ gs)).vars pv)
    (hps : before = pa ++ pv) (hb : Below W.heap.size W W')
    (hok : ∀ (j : Nat) (t : TypeId) (r : Value), f.resultTypes[j]? = some t → (v.resultList f.resultTypes.size)[j]? = some r → Value.okWide P W' .any 0 t r) :
    s.post enc P f apart fresh handsOn again W args v W' := by
  have hlt : ∀ p ∈ before, p.block < W.heap.size := fun p hp => hW.lt p hp
  have hold : ∀ p ∈ before, (fun b => decide (b < W.heap.size)) p.block = true := fun p hp => by simpa using hlt p hp
  refine ⟨ds, gs, before, [], pa, pv, hW, hres _ _ _, hargs _ hold, hvars _ hold, World.keptBut_mono (fun p hp => ⟨hp, ?_⟩) (hb.frame (· ∈ before)), fun _ => ?_⟩
  · rw [hps, List.mem_append] at hp
    exact Or.inr hp
  · obtain ⟨_, _, _, _, _, hz, hn⟩ := hW
    refine ⟨hok, _, _, ([] ++ pa) ++ pv, ⟨[] ++ pa, pv, trodAll_append (hargs _ (fun _ _ => rfl)) (hres _ _ _), hvars _ (fun _ _ => rfl), rfl, ?_, ?_⟩, ?_⟩
    · intro b off hp
      have hin : MemPlace.cell b off ∈ before := by rw [hps]; simpa using hp
      rw [hb.frozen (hlt _ hin)]
      exact hz b off hin
    · intro ha
      have := hn ha
      rw [hps] at this
      simpa using this
    · intro p hp _
      rw [hps]
      simpa using hp
end

/-- every argument reads behind the call as before it, if below the heap's old size nothing has turned. -/
theorem trodAll_below {H : Type} {enc : TypeId × Value → H} {P : Program} (hl : laidOutB P = true) {W W' : World} (hb : Below W.heap.size W W') {sp : Nat → Bool} :
    ∀ {ts : List TypeId} {vs : List Value} {ds : List (DataW H)} {ps : List MemPlace}, (∀ t ∈ ts, P.readableRec t = true ∧ t < P.types.size) → DataW.TrodAll enc P W 0 (fun _ => true) true ts vs ds ps → (∀ p ∈ ps, p.block < W.heap.size) → (∀ p ∈ ps, sp p.block = true) →
    DataW.TrodAll enc P W' 0 sp true ts vs ds ps
  | [], [], [], _, _, h, _, _ => h
  | t :: ts, v :: vs, d :: ds, _, ht, ⟨p, q, h, hr, rfl⟩, hlt, hs => by
    have h1 := ht t (by simp)
    exact ⟨p, q, WideElems.Trod_stays hl h1.1 h1.2 h (fun x hx => hb.same (hlt x (by simp [hx]))) (fun x hx => hs x (by simp [hx])), trodAll_below hl hb (fun t' h' => ht t' (by simp [h'])) hr (fun x hx => hlt x (by simp [hx])) (fun x hx => hs x (by simp [hx])), rfl⟩
end Go.Flat

/- Arguments opened: signals. No list of rows. -/
namespace Go.Proofs.Ytamldoidalnloaa
open Go.ChangeShapes Go.WideShapes Go.ChangeAt Go.RowKit Go.Flat
open Calm (bcell)
theorem own : ownKnob Try.prog.godebug = none := by kernel_rfl
theorem laidOut : laidOutB Try.prog = true := by kernel_rfl
section
variable {H : Type} {enc : TypeId × Value → H} {P : Program} {w : World} {base : Nat} {sp : Nat → Bool} {held : Bool}

theorem cell_lt {w : World} {b o : Nat} {v : Value} (h : w.cell? ⟨b, o, none⟩ = some v) : b < w.heap.size := by
  rcases Nat.lt_or_ge b w.heap.size with h' | h'
  · exact h'
  · unfold World.cell? at h
    rw [show w.heap[(⟨b, o, none⟩ : Addr).block]? = none from Array.getElem?_eq_none h'] at h
    cases h

/-- a slice whose elements are made of integers alone. -/
theorem open_slab (m : Nat) {t e : TypeId} {k : Nat} {fuel : Nat} {cs : List Value} {x : DataW H × List MemPlace} (ht : P.underlying t = some (.slice e)) (he : intsB P m e = true) (hk : P.cellsOf e = k) (hk0 : 0 < k)
    (h : DataW.trod enc P w base sp held fuel t cs = some x) :
    ∃ (A : Option Addr) (len cap : Nat) (zs : Nat → List Int), cs = [.slice A len cap] ∧ len ≤ cap ∧ cap ≤ maxLen ∧ (∀ i, i < len → (zs i).length = k) ∧
      (0 < len → ∃ b o, A = some ⟨b, o, none⟩ ∧ b < w.heap.size ∧ ∀ i j, i < len → j < k → w.cell? ⟨b, o + i * k + j, none⟩ = some (.int .i64 ((zs i).getD j 0))) := by
  subst hk
  rcases Deep.open_slice ht h with ⟨rfl, _⟩ | ⟨a, len, cap, m', n, D, Pl, rfl, _, h1, h2, h3, _, h4⟩
  · exact ⟨none, 0, 0, fun _ => [], rfl, Nat.le_refl _, Nat.zero_le _, fun i hi => by omega, fun h0 => by omega⟩
  · have hlm : len ≤ m' := by rw [h3]; split <;> omega
    obtain ⟨zs, hzs⟩ := Deep.choose_lt (n := len) (α := List Int) (p := fun i z => z.length = P.cellsOf e ∧ ∀ j, j < P.cellsOf e → w.cell? ((a.add (i * P.cellsOf e)).add j) = some (.int .i64 (z.getD j 0))) (fun i hi => by
      obtain ⟨cs', hc, hx⟩ := h4 i (by omega)
      obtain ⟨_, hl, hcell⟩ := World.cells?_some hc
      obtain ⟨hcs, _⟩ := cells_of_ints m he hx
      refine ⟨flat m (D i), ?_, fun j hj => ?_⟩
      · have := congrArg List.length hcs
        simp at this
        omega
      · rw [hcell j hj, hcs]
        have hj' : j < (flat m (D i)).length := by
          have := congrArg List.length hcs
          simp at this
          omega
        simp [List.getD, hj'])
    refine ⟨some a, len, cap, zs, rfl, h1, h2, fun i hi => (hzs i hi).1, fun h0 => ?_⟩
    obtain ⟨b, o, s⟩ := a
    have hs : s = none := by
      have := World.cell?_spot ((hzs 0 h0).2 0 hk0)
      simpa [Addr.add] using this
    subst hs
    refine ⟨b, o, rfl, ?_, fun i j hi hj => ?_⟩
    · have := (hzs 0 h0).2 0 hk0
      rw [add_plain, add_plain] at this
      exact cell_lt this
    · have := (hzs i hi).2 j hj
      rwa [add_plain, add_plain] at this

end

end Go.Proofs.Ytamldoidalnloaa

/- Contracts of mapped at each's function, of each and of some. -/
namespace Go.Proofs.Ytamldoidalnloaa
open Go.RowKit
open Calm (bcell Blk)

theorem Try.infoE : (Try.prog.info? 24).map (fun i => (i.zero, i.size, i.bytes)) = some (some (.int .i64 0), 1, 8) := by kernel_rfl
def errsK (l : List Int) (lo hi : Int) (k : Nat) : List Int := (l.take k).map fun n => rangeErr n lo hi
theorem errsK_len {l : List Int} {lo hi : Int} {k : Nat} (hk : k ≤ l.length) : (errsK l lo hi k).length = k := by simp [errsK]; omega
theorem errsK_succ {l : List Int} {lo hi : Int} {k : Nat} (hk : k < l.length) : errsK l lo hi (k + 1) = errsK l lo hi k ++ [rangeErr (l.getD k 0) lo hi] := by
  unfold errsK
  rw [List.take_succ_eq_append_getElem hk, List.map_append, List.getD_eq_getElem?_getD, List.getElem?_eq_getElem hk]
  rfl
theorem errsK_all (l : List Int) (lo hi : Int) : errsK l lo hi l.length = l.map fun n => rangeErr n lo hi := by simp [errsK]
/-- the error of a list's numbers. -/
def eachErr (l : List Int) (lo hi : Int) : Int := firstOf (l.map fun n => rangeErr n lo hi)
/-- the error of a number of elements. -/
def someErr (n most : Int) : Int := firstOf [if n = 0 then 12 else 0, if most < n then 5 else 0]
end Go.Proofs.Ytamldoidalnloaa

/- Contract of ascending. -/
namespace Go.Proofs.Ytamldoidalnloaa
open Go.RowKit
open Calm (bcell Blk)

/-- the error of the number at an index. -/
def ascAt (l : List Int) (lo hi : Int) (i : Nat) : Int := firstOf [rangeErr (l.getD i 0) lo hi, if 0 < i ∧ l.getD i 0 ≤ l.getD (i - 1) 0 then 11 else 0]
def ascErr (l : List Int) (lo hi : Int) : Int := firstOf ((List.range l.length).map (ascAt l lo hi))
end Go.Proofs.Ytamldoidalnloaa

/- Contract of CheckGuard. -/
namespace Go.Proofs.Ytamldoidalnloaa
open Go.RowKit
open Calm (bcell Blk)

def guardErr1 (lk ht rc : Int) (ts gs : List Int) : Int := firstOf [rangeErr lk 1 8, rangeErr ht 0 536870912, someErr ts.length 8, eachErr ts (-64) 64, rangeErr rc 0 1048576, someErr gs.length 8]
def guardErr2 (gs : List Int) : Int := firstOf [rangeErr (gs.getD 0 0) 0 16, if gs.getD 0 0 ≠ 0 then 11 else 0, ascErr gs 0 16]
/-- the error of a guard. -/
def guardErr (lk ht rc : Int) (ts gs : List Int) : Int := if guardErr1 lk ht rc ts gs = 0 then guardErr2 gs else guardErr1 lk ht rc ts gs
theorem firstOf_eq_zero {l : List Int} : firstOf l = 0 ↔ ∀ x ∈ l, x = 0 := by
  induction l with
  | nil => simp [firstOf]
  | cons a l ih =>
    by_cases ha : a = 0
    · subst ha
      simp only [firstOf, List.find?_cons, bne_self_eq_false] at ih ⊢
      simpa using ih
    · have : (a != 0) = true := by simpa using ha
      simp [firstOf, this, ha]
end Go.Proofs.Ytamldoidalnloaa

/- Contracts of the small functions of package section. -/
namespace Go.Proofs.Ytamldoidalnloaa
open Go.RowKit
open Calm (bcell Blk)

theorem sWhen_any (b : Bool) (e : Int) (w : World) : Calls Try.prog 81 #[.bool b, (.int .i64 e)] w fun r w' => r = .returned (.int .i64 (if b then e else 0)) ∧ w = w' := by
  cases b <;>
  · go_enter Try.func81, Try.ntmps81
    go_wp2
    go_ret
    exact ⟨rfl, rfl⟩

theorem sWithin_any (n lo hi : Int) (w : World) : Calls Try.prog 100 #[(.int .i64 n), (.int .i64 lo), (.int .i64 hi)] w fun r w' => r = .returned (.int .i64 (rangeErr n lo hi)) ∧ w = w' := by
  rcases Int.lt_or_le n lo with h | h
  · go_enter Try.func100, Try.ntmps100
    go_wp2_with (go_at_call 81; refine (sWhen_any _ _ _).mono ?_; rintro r w' ⟨rfl, rfl⟩)
    go_ret
    exact ⟨ret_i (rangeErr_lo h).symm, rfl⟩
  · rcases Int.lt_or_le hi n with h' | h'
    · go_enter Try.func100, Try.ntmps100
      go_wp2_with (go_at_call 81; refine (sWhen_any _ _ _).mono ?_; rintro r w' ⟨rfl, rfl⟩)
      go_ret
      exact ⟨ret_i (rangeErr_hi h').symm, rfl⟩
    · go_enter Try.func100, Try.ntmps100
      go_wp2_with (go_at_call 81; refine (sWhen_any _ _ _).mono ?_; rintro r w' ⟨rfl, rfl⟩)
      go_ret
      exact ⟨ret_i (rangeErr_in (by omega) (by omega)).symm, rfl⟩

theorem sFirst_any (l : List Int) (A : Option Addr) (c : Nat) (w : World) (hl : l.length ≤ 5000) (hC : Cells w A l) :
    Calls Try.prog 47 #[.slice A l.length c] w fun r w' => r = .returned (.int .i64 (firstOf l)) ∧ w = w' := by
  go_enter Try.func47, Try.ntmps47
  go_wp2
  go_loop [4, 7] (fun _ i => ∃ k : Nat, k ≤ l.length ∧ i = (.int .i64 k) ∧ ∀ j, j < k → l.getD j 0 = 0) (fun _ i => l.length - (intOf i).toNat)
  case atStart => exact ⟨0, Nat.zero_le _, rfl, fun j hj => by omega⟩
  case round =>
    obtain ⟨k, hk, rfl, hz⟩ := hrel
    have HZ := Lib.hid hz
    clear hz
    by_cases hlt : k < l.length
    · obtain ⟨b, off, rfl, hbl, hc⟩ := hC (by omega)
      have hck := hc k hlt
      clear hc hC
      by_cases h0 : l.getD k 0 = 0
      · rw [h0] at hck
        have H0 := Lib.hid h0
        clear h0
        go_wp2
        go_round
        case rel => exact ⟨k + 1, by omega, by go_num, fun j hj => by
          rcases Nat.lt_or_ge j k with hjk | hjk
          · exact HZ.out j hjk
          · obtain rfl : j = k := by omega
            exact H0.out⟩
        case measure => simp [intOf]; omega
      · obtain ⟨x, hx⟩ : ∃ x, x = l.getD k 0 := ⟨_, rfl⟩
        rw [← hx] at hck h0
        have H0 := Lib.hid hx
        clear hx
        go_wp2
        go_ret
        exact ⟨ret_i (by rw [firstOf_take HZ.out hlt (by rw [← H0.out]; exact h0)]; exact H0.out), rfl⟩
    · clear hC
      go_wp2
      go_ret
      exact ⟨ret_i (by rw [firstOf_zero (fun j hj => HZ.out j (by omega))]), rfl⟩


theorem checkTap_any (n : Int) (w : World) : Calls Try.prog 99 #[(.int .i64 n)] w fun r w' => r = .returned (.int .i64 (rangeErr n (-32767) 32767)) ∧ w = w' := by
  go_enter Try.func99, Try.ntmps99
  go_wp2_with (go_at_call 100; refine (sWithin_any _ _ _ _).mono ?_; rintro r w1 ⟨rfl, rfl⟩)
  go_ret
  exact ⟨rfl, rfl⟩
theorem sValue_any (n : Int) (w : World) : Calls Try.prog 85 #[(.int .i64 n)] w fun r w' => r = .returned (.int .i64 (rangeErr n (-32767) 32767)) ∧ w = w' := by
  go_enter Try.func85, Try.ntmps85
  go_wp2_with (go_at_call 100; refine (sWithin_any _ _ _ _).mono ?_; rintro r w1 ⟨rfl, rfl⟩)
  go_ret
  exact ⟨rfl, rfl⟩
set_option maxHeartbeats 1000000 in
theorem sMapTap_any (A : Option Addr) (l : List Int) (c : Nat) (w : World) (hC : Cells w A l) (hn : l.length ≤ 5000) :
    Calls Try.prog 84 #[.slice A l.length c, .func (.func 99) #[] #[]] w fun r w' =>
      (∃ B d, r = .returned (.slice B l.length d) ∧ Cells w' B (l.map fun n => rangeErr n (-32767) 32767)) ∧ Below w.heap.size w w' := by
  obtain ⟨i0, hii, hz0, hz1, hz2⟩ := info_parts Try.infoE
  have HC := Lib.hid hC
  obtain ⟨N, hN⟩ : ∃ N, N = l.length := ⟨_, rfl⟩
  have HN := Lib.hid hN
  have HL : Hid (∀ k, k ≤ N → (errsK l (-32767) 32767 k).length = k) := Lib.hid (fun k hk => errsK_len (by rw [← hN]; exact hk))
  rw [← hN] at hn ⊢
  clear hN hC
  go_enter Try.func84, Try.ntmps84
  go_wp2
  go_loopw [5, 10] (fun v i wr => ∃ k : Nat, k ≤ N ∧ i = (.int .i64 ((k : Int))) ∧ wr.ownsRow w.heap.size 24 1 v (errsK l (-32767) 32767 k).length ((errsK l (-32767) 32767 k).map (Value.int .i64)) ∧ Below w.heap.size w wr) (fun _ i _ => N - (intOf i).toNat)
  case atStart => exact ⟨0, Nat.zero_le _, rfl, World.ownsRow_nil _ _ _ _, Below.refl _ _⟩
  case round =>
    obtain ⟨k, hk, rfl, hown, hB⟩ := hrel
    have HO := Lib.hid hown
    have hle := Lib.hid (HL.out k hk)
    have hsz := hB.size
    clear hown
    by_cases hlt : k < N
    · obtain ⟨b, o, rfl, l1, k1⟩ := HC.out (by rw [← HN.out]; omega)
      have x1 := (hB.cell (p := ⟨b, o + k, none⟩) l1).trans (k1 k (by rw [← HN.out]; exact hlt))
      have HS := Lib.hid (errsK_succ (lo := -32767) (hi := 32767) (show k < l.length by rw [← HN.out]; exact hlt))
      obtain ⟨x, hx⟩ : ∃ x, x = l.getD k 0 := ⟨_, rfl⟩
      rw [← hx] at x1 HS
      clear k1 hx
      go_wp2_with (first
        | (go_at_call 99; refine (checkTap_any x _).mono ?_; rintro r w2 ⟨rfl, rfl⟩)
        | (at_builtin; refine wpList_append_own _ rfl _ _ 74 rfl w.heap.size 24 i0 (.int .i64 0) 1 8 Try.underlying74 hii hz0 hz1 hz2 rfl (by decide) _ _ _ rfl (HO.out.alloc _) ⟨wr.heap.size, 0, none⟩ 1 1 [.int .i64 (rangeErr x (-32767) 32767)] rfl rfl ?c1 ?c2 ?c3 ?c4 ?c5 ?_))
      case c1 =>
        intro j u hj
        match j, hj with
        | 0, hj => simp at hj; subst hj; simp [Addr.add]
      case c2 => intro u hu; simp at hu; subst hu; rfl
      case c3 => have := hle.out; unfold maxLen; omega
      case c4 => have := hle.out; omega
      case c5 => simp; omega
      intro v' w1 hown' hgrow _
      have hB' : Below w.heap.size w w1 := (hB.alloc hsz _).grown hgrow (by simp; omega) (fun j hj => (HO.out.lt j hj).1)
      have HO' := Lib.hid hown'
      clear hgrow hown'
      go_wp2
      go_roundw
      case rel => exact ⟨k + 1, by omega, by go_num, by rw [HS.out]; simpa using HO'.out, hB'⟩
      case measure => simp [intOf]; omega
    · obtain rfl : k = N := by omega
      have hown := HO.out
      have e : errsK l (-32767) 32767 k = l.map fun n => rangeErr n (-32767) 32767 := by rw [HN.out]; exact errsK_all _ _ _
      rw [hle.out, e] at hown
      obtain ⟨B, d, rfl, _, hr⟩ := own_ints hown (by simp [← HN.out])
      have HR := Lib.hid hr
      clear hown e hr
      go_wp2
      go_ret
      exact ⟨⟨B, d, rfl, HR.out⟩, hB⟩
set_option maxHeartbeats 1000000 in
theorem sMapVal_any (A : Option Addr) (l : List Int) (c : Nat) (w : World) (hC : Cells w A l) (hn : l.length ≤ 5000) :
    Calls Try.prog 84 #[.slice A l.length c, .func (.func 85) #[] #[]] w fun r w' =>
      (∃ B d, r = .returned (.slice B l.length d) ∧ Cells w' B (l.map fun n => rangeErr n (-32767) 32767)) ∧ Below w.heap.size w w' := by
  obtain ⟨i0, hii, hz0, hz1, hz2⟩ := info_parts Try.infoE
  have HC := Lib.hid hC
  obtain ⟨N, hN⟩ : ∃ N, N = l.length := ⟨_, rfl⟩
  have HN := Lib.hid hN
  have HL : Hid (∀ k, k ≤ N → (errsK l (-32767) 32767 k).length = k) := Lib.hid (fun k hk => errsK_len (by rw [← hN]; exact hk))
  rw [← hN] at hn ⊢
  clear hN hC
  go_enter Try.func84, Try.ntmps84
  go_wp2
  go_loopw [5, 10] (fun v i wr => ∃ k : Nat, k ≤ N ∧ i = (.int .i64 ((k : Int))) ∧ wr.ownsRow w.heap.size 24 1 v (errsK l (-32767) 32767 k).length ((errsK l (-32767) 32767 k).map (Value.int .i64)) ∧ Below w.heap.size w wr) (fun _ i _ => N - (intOf i).toNat)
  case atStart => exact ⟨0, Nat.zero_le _, rfl, World.ownsRow_nil _ _ _ _, Below.refl _ _⟩
  case round =>
    obtain ⟨k, hk, rfl, hown, hB⟩ := hrel
    have HO := Lib.hid hown
    have hle := Lib.hid (HL.out k hk)
    have hsz := hB.size
    clear hown
    by_cases hlt : k < N
    · obtain ⟨b, o, rfl, l1, k1⟩ := HC.out (by rw [← HN.out]; omega)
      have x1 := (hB.cell (p := ⟨b, o + k, none⟩) l1).trans (k1 k (by rw [← HN.out]; exact hlt))
      have HS := Lib.hid (errsK_succ (lo := -32767) (hi := 32767) (show k < l.length by rw [← HN.out]; exact hlt))
      obtain ⟨x, hx⟩ : ∃ x, x = l.getD k 0 := ⟨_, rfl⟩
      rw [← hx] at x1 HS
      clear k1 hx
      go_wp2_with (first
        | (go_at_call 85; refine (sValue_any x _).mono ?_; rintro r w2 ⟨rfl, rfl⟩)
        | (at_builtin; refine wpList_append_own _ rfl _ _ 74 rfl w.heap.size 24 i0 (.int .i64 0) 1 8 Try.underlying74 hii hz0 hz1 hz2 rfl (by decide) _ _ _ rfl (HO.out.alloc _) ⟨wr.heap.size, 0, none⟩ 1 1 [.int .i64 (rangeErr x (-32767) 32767)] rfl rfl ?c1 ?c2 ?c3 ?c4 ?c5 ?_))
      case c1 =>
        intro j u hj
        match j, hj with
        | 0, hj => simp at hj; subst hj; simp [Addr.add]
      case c2 => intro u hu; simp at hu; subst hu; rfl
      case c3 => have := hle.out; unfold maxLen; omega
      case c4 => have := hle.out; omega
      case c5 => simp; omega
      intro v' w1 hown' hgrow _
      have hB' : Below w.heap.size w w1 := (hB.alloc hsz _).grown hgrow (by simp; omega) (fun j hj => (HO.out.lt j hj).1)
      have HO' := Lib.hid hown'
      clear hgrow hown'
      go_wp2
      go_roundw
      case rel => exact ⟨k + 1, by omega, by go_num, by rw [HS.out]; simpa using HO'.out, hB'⟩
      case measure => simp [intOf]; omega
    · obtain rfl : k = N := by omega
      have hown := HO.out
      have e : errsK l (-32767) 32767 k = l.map fun n => rangeErr n (-32767) 32767 := by rw [HN.out]; exact errsK_all _ _ _
      rw [hle.out, e] at hown
      obtain ⟨B, d, rfl, _, hr⟩ := own_ints hown (by simp [← HN.out])
      have HR := Lib.hid hr
      clear hown e hr
      go_wp2
      go_ret
      exact ⟨⟨B, d, rfl, HR.out⟩, hB⟩

theorem sFirst_cells (l : List Int) (W : World) (hl : l.length ≤ 100) : Calls Try.prog 47 #[.slice (some ⟨W.heap.size, 0, none⟩) l.length l.length] (W.alloc (.cells (l.map (Value.int .i64)).toArray 24)) fun r w' => r = .returned (.int .i64 (firstOf l)) ∧ (W.alloc (.cells (l.map (Value.int .i64)).toArray 24)) = w' :=
  sFirst_any l _ _ _ (by omega) (Cells.row (heap_new rfl))
/-- the error of a signal of sections. -/
def ssigErr (xs : List Int) : Int := firstOf [if 4096 < xs.length then 5 else 0, eachErr xs (-32767) 32767]
set_option maxHeartbeats 1000000 in
theorem sSignal_any (xs : List Int) (A : Option Addr) (c : Nat) (w : World) (hC : Cells w A xs) (hn : xs.length ≤ 5000) :
    Calls Try.prog 49 #[.slice A xs.length c] w fun r w' => r = .returned (.int .i64 (ssigErr xs)) ∧ Below w.heap.size w w' := by
  have HM : Hid (∀ W, Cells W A xs → Calls Try.prog 84 #[.slice A xs.length c, .func (.func 85) #[] #[]] W fun r w' => (∃ B d, r = .returned (.slice B xs.length d) ∧ Cells w' B (xs.map fun n => rangeErr n (-32767) 32767)) ∧ Below W.heap.size W w') := Lib.hid (fun W q => sMapVal_any A xs c W q hn)
  have HF : Hid (∀ W B d, Cells W B (xs.map fun n => rangeErr n (-32767) 32767) → Calls Try.prog 47 #[.slice B xs.length d] W fun r w' => r = .returned (.int .i64 (eachErr xs (-32767) 32767)) ∧ W = w') := Lib.hid (fun W B d q => by
    have e : xs.length = (xs.map fun n => rangeErr n (-32767) 32767).length := by simp
    rw [e]; exact sFirst_any _ B d W (by simpa using hn) q)
  have HF2 : Hid (∀ (W : World) (a b : Int), Calls Try.prog 47 #[.slice (some ⟨W.heap.size, 0, none⟩) 2 2] (W.alloc (.cells #[(.int .i64 a), (.int .i64 b)] 24)) fun r w' => r = .returned (.int .i64 (firstOf [a, b])) ∧ (W.alloc (.cells #[(.int .i64 a), (.int .i64 b)] 24)) = w') := Lib.hid (fun W a b => sFirst_cells [a, b] W (by simp))
  have HS : Hid (ssigErr xs = firstOf [if 4096 < xs.length then 5 else 0, eachErr xs (-32767) 32767]) := Lib.hid rfl
  have HC := Lib.hid hC
  obtain ⟨R, hR⟩ : ∃ R, R = ssigErr xs := ⟨_, rfl⟩
  rw [← hR] at HS ⊢
  generalize xs.length = N at *
  clear hR hC
  by_cases h0 : 4096 < N
  · have h1 : (4096 : Int) < (N : Int) := by omega
    have HS2 : Hid (firstOf [5, eachErr xs (-32767) 32767] = R) := Lib.hid (by rw [HS.out, if_pos h0])
    clear HS
    go_enter Try.func49, Try.ntmps49
    go_wp2_with (first
      | (go_at_call 81; refine (sWhen_any _ _ _).mono ?_; rintro r w' ⟨rfl, rfl⟩)
      | (go_at_call 84; refine (HM.out _ HC.out).mono ?_; rintro r w1 ⟨⟨B, d, rfl, hc1⟩, hb1⟩; have HC1 := Lib.hid hc1; clear hc1; refine Hid.out ?_))
    unfold Hid
    go_wp2_with (go_at_call 47; refine (HF.out _ _ _ HC1.out).mono ?_; rintro r w2 ⟨rfl, rfl⟩; refine Hid.out ?_)
    unfold Hid
    go_wp2_with (go_at_call 47; refine (HF2.out _ _ _).mono ?_; rintro r w2 ⟨rfl, rfl⟩)
    go_ret
    exact ⟨ret_i HS2.out, hb1.alloc hb1.size _⟩
  · have h1 : ¬ (4096 : Int) < (N : Int) := by omega
    have HS2 : Hid (firstOf [0, eachErr xs (-32767) 32767] = R) := Lib.hid (by rw [HS.out, if_neg h0])
    clear HS
    go_enter Try.func49, Try.ntmps49
    go_wp2_with (first
      | (go_at_call 81; refine (sWhen_any _ _ _).mono ?_; rintro r w' ⟨rfl, rfl⟩)
      | (go_at_call 84; refine (HM.out _ HC.out).mono ?_; rintro r w1 ⟨⟨B, d, rfl, hc1⟩, hb1⟩; have HC1 := Lib.hid hc1; clear hc1; refine Hid.out ?_))
    unfold Hid
    go_wp2_with (go_at_call 47; refine (HF.out _ _ _ HC1.out).mono ?_; rintro r w2 ⟨rfl, rfl⟩; refine Hid.out ?_)
    unfold Hid
    go_wp2_with (go_at_call 47; refine (HF2.out _ _ _).mono ?_; rintro r w2 ⟨rfl, rfl⟩)
    go_ret
    exact ⟨ret_i HS2.out, hb1.alloc hb1.size _⟩
end Go.Proofs.Ytamldoidalnloaa

/- Contracts of the small functions of the packages chamber and signal. -/
namespace Go.Proofs.Ytamldoidalnloaa
open Go.RowKit
open Calm (bcell Blk)
theorem name_calls {P : Program} {f : FuncId} {args : Array Value} {W : World} {R : Ending → World → Prop} (h : ∀ w2, w2 = W → Calls P f args w2 R) : Calls P f args W R := h _ rfl
theorem name_list {P : Program} {ops : Array Oper} {Q : Exit → Act → World → Prop} {rest : List Oper} {a : Act} {W : World} (h : ∀ w2, w2 = W → wpList P ops Q rest a w2) : wpList P ops Q rest a W := h _ rfl
theorem name_post {P : Program} {fn : Func} {R : Ending → World → Prop} {e : Exit} {a : Act} {W : World} (h : ∀ w2, w2 = W → bodyPost P fn R e a w2) : bodyPost P fn R e a W := h _ rfl
/-- nothing old turns, as can be seen. -/
theorem bel {b : Nat} {W W' : World} (h : Below b W W' := by (repeat (first | (with_reducible exact Below.refl _ _) | ((with_reducible refine Below.setCell ?_ ?_ _); rotate_left 1; focus (first | (simp; done) | (simp; omega) | (simp at *; omega))) | ((with_reducible refine Below.alloc ?_ ?_ _); rotate_left 1; focus (first | (simp; done) | (simp; omega) | (simp at *; omega))) | (with_reducible refine Below.drew ?_) | ((with_reducible refine Calm.step (by assumption) ?_ ?_); rotate_left 1; focus (first | (simp; done) | (simp; omega) | (simp at *; omega)))))) : Below b W W' := h
/-- all numbers are levels. -/
def lvls (l : List Int) : Prop := ∀ x ∈ l, -1048576 ≤ x ∧ x ≤ 1048576
theorem firstOf_zeros {l : List Int} (h : ∀ x ∈ l, x = 0) : firstOf l = 0 := firstOf_zero fun j hj => by
  rw [List.getD_eq_getElem?_getD, List.getElem?_eq_getElem hj]
  exact h _ (List.getElem_mem hj)
theorem lvls_first {l : List Int} (h : lvls l) : firstOf (l.map fun n => rangeErr n (-1048576) 1048576) = 0 := firstOf_zeros fun x hx => by
  obtain ⟨y, hy, rfl⟩ := List.mem_map.1 hx
  exact rangeErr_in (h y hy).1 (h y hy).2
theorem cWhen_any (b : Bool) (e : Int) (w : World) : Calls Try.prog 37 #[.bool b, (.int .i64 e)] w fun r w' => r = .returned (.int .i64 (if b then e else 0)) ∧ w = w' := by
  cases b <;>
  · go_enter Try.func37, Try.ntmps37
    go_wp2
    go_ret
    exact ⟨rfl, rfl⟩

theorem cWithin_any (n lo hi : Int) (w : World) : Calls Try.prog 40 #[(.int .i64 n), (.int .i64 lo), (.int .i64 hi)] w fun r w' => r = .returned (.int .i64 (rangeErr n lo hi)) ∧ w = w' := by
  rcases Int.lt_or_le n lo with h | h
  · go_enter Try.func40, Try.ntmps40
    go_wp2_with (go_at_call 37; refine (cWhen_any _ _ _).mono ?_; rintro r w' ⟨rfl, rfl⟩)
    go_ret
    exact ⟨ret_i (rangeErr_lo h).symm, rfl⟩
  · rcases Int.lt_or_le hi n with h' | h'
    · go_enter Try.func40, Try.ntmps40
      go_wp2_with (go_at_call 37; refine (cWhen_any _ _ _).mono ?_; rintro r w' ⟨rfl, rfl⟩)
      go_ret
      exact ⟨ret_i (rangeErr_hi h').symm, rfl⟩
    · go_enter Try.func40, Try.ntmps40
      go_wp2_with (go_at_call 37; refine (cWhen_any _ _ _).mono ?_; rintro r w' ⟨rfl, rfl⟩)
      go_ret
      exact ⟨ret_i (rangeErr_in (by omega) (by omega)).symm, rfl⟩

theorem cFirst_any (l : List Int) (A : Option Addr) (c : Nat) (w : World) (hl : l.length ≤ 5000) (hC : Cells w A l) :
    Calls Try.prog 27 #[.slice A l.length c] w fun r w' => r = .returned (.int .i64 (firstOf l)) ∧ w = w' := by
  go_enter Try.func27, Try.ntmps27
  go_wp2
  go_loop [4, 7] (fun _ i => ∃ k : Nat, k ≤ l.length ∧ i = (.int .i64 k) ∧ ∀ j, j < k → l.getD j 0 = 0) (fun _ i => l.length - (intOf i).toNat)
  case atStart => exact ⟨0, Nat.zero_le _, rfl, fun j hj => by omega⟩
  case round =>
    obtain ⟨k, hk, rfl, hz⟩ := hrel
    have HZ := Lib.hid hz
    clear hz
    by_cases hlt : k < l.length
    · obtain ⟨b, off, rfl, hbl, hc⟩ := hC (by omega)
      have hck := hc k hlt
      clear hc hC
      by_cases h0 : l.getD k 0 = 0
      · rw [h0] at hck
        have H0 := Lib.hid h0
        clear h0
        go_wp2
        go_round
        case rel => exact ⟨k + 1, by omega, by go_num, fun j hj => by
          rcases Nat.lt_or_ge j k with hjk | hjk
          · exact HZ.out j hjk
          · obtain rfl : j = k := by omega
            exact H0.out⟩
        case measure => simp [intOf]; omega
      · obtain ⟨x, hx⟩ : ∃ x, x = l.getD k 0 := ⟨_, rfl⟩
        rw [← hx] at hck h0
        have H0 := Lib.hid hx
        clear hx
        go_wp2
        go_ret
        exact ⟨ret_i (by rw [firstOf_take HZ.out hlt (by rw [← H0.out]; exact h0)]; exact H0.out), rfl⟩
    · clear hC
      go_wp2
      go_ret
      exact ⟨ret_i (by rw [firstOf_zero (fun j hj => HZ.out j (by omega))]), rfl⟩


theorem cLevel_any (n : Int) (w : World) : Calls Try.prog 31 #[(.int .i64 n)] w fun r w' => r = .returned (.int .i64 (rangeErr n (-1048576) 1048576)) ∧ w = w' := by
  go_enter Try.func31, Try.ntmps31
  go_wp2_with (go_at_call 40; refine (cWithin_any _ _ _ _).mono ?_; rintro r w1 ⟨rfl, rfl⟩)
  go_ret
  exact ⟨rfl, rfl⟩
set_option maxHeartbeats 1000000 in
theorem cMapLev_any (A : Option Addr) (l : List Int) (c : Nat) (w : World) (hC : Cells w A l) (hn : l.length ≤ 5000) :
    Calls Try.prog 30 #[.slice A l.length c, .func (.func 31) #[] #[]] w fun r w' =>
      (∃ B d, r = .returned (.slice B l.length d) ∧ Cells w' B (l.map fun n => rangeErr n (-1048576) 1048576)) ∧ Below w.heap.size w w' := by
  obtain ⟨i0, hii, hz0, hz1, hz2⟩ := info_parts Try.infoE
  have HC := Lib.hid hC
  obtain ⟨N, hN⟩ : ∃ N, N = l.length := ⟨_, rfl⟩
  have HN := Lib.hid hN
  have HL : Hid (∀ k, k ≤ N → (errsK l (-1048576) 1048576 k).length = k) := Lib.hid (fun k hk => errsK_len (by rw [← hN]; exact hk))
  rw [← hN] at hn ⊢
  clear hN hC
  go_enter Try.func30, Try.ntmps30
  go_wp2
  go_loopw [5, 10] (fun v i wr => ∃ k : Nat, k ≤ N ∧ i = (.int .i64 ((k : Int))) ∧ wr.ownsRow w.heap.size 24 1 v (errsK l (-1048576) 1048576 k).length ((errsK l (-1048576) 1048576 k).map (Value.int .i64)) ∧ Below w.heap.size w wr) (fun _ i _ => N - (intOf i).toNat)
  case atStart => exact ⟨0, Nat.zero_le _, rfl, World.ownsRow_nil _ _ _ _, Below.refl _ _⟩
  case round =>
    obtain ⟨k, hk, rfl, hown, hB⟩ := hrel
    have HO := Lib.hid hown
    have hle := Lib.hid (HL.out k hk)
    have hsz := hB.size
    clear hown
    by_cases hlt : k < N
    · obtain ⟨b, o, rfl, l1, k1⟩ := HC.out (by rw [← HN.out]; omega)
      have x1 := (hB.cell (p := ⟨b, o + k, none⟩) l1).trans (k1 k (by rw [← HN.out]; exact hlt))
      have HS := Lib.hid (errsK_succ (lo := -1048576) (hi := 1048576) (show k < l.length by rw [← HN.out]; exact hlt))
      obtain ⟨x, hx⟩ : ∃ x, x = l.getD k 0 := ⟨_, rfl⟩
      rw [← hx] at x1 HS
      clear k1 hx
      go_wp2_with (first
        | (go_at_call 31; refine (cLevel_any x _).mono ?_; rintro r w2 ⟨rfl, rfl⟩)
        | (at_builtin; refine wpList_append_own _ rfl _ _ 74 rfl w.heap.size 24 i0 (.int .i64 0) 1 8 Try.underlying74 hii hz0 hz1 hz2 rfl (by decide) _ _ _ rfl (HO.out.alloc _) ⟨wr.heap.size, 0, none⟩ 1 1 [.int .i64 (rangeErr x (-1048576) 1048576)] rfl rfl ?c1 ?c2 ?c3 ?c4 ?c5 ?_))
      case c1 =>
        intro j u hj
        match j, hj with
        | 0, hj => simp at hj; subst hj; simp [Addr.add]
      case c2 => intro u hu; simp at hu; subst hu; rfl
      case c3 => have := hle.out; unfold maxLen; omega
      case c4 => have := hle.out; omega
      case c5 => simp; omega
      intro v' w1 hown' hgrow _
      have hB' : Below w.heap.size w w1 := (hB.alloc hsz _).grown hgrow (by simp; omega) (fun j hj => (HO.out.lt j hj).1)
      have HO' := Lib.hid hown'
      clear hgrow hown'
      go_wp2
      go_roundw
      case rel => exact ⟨k + 1, by omega, by go_num, by rw [HS.out]; simpa using HO'.out, hB'⟩
      case measure => simp [intOf]; omega
    · obtain rfl : k = N := by omega
      have hown := HO.out
      have e : errsK l (-1048576) 1048576 k = l.map fun n => rangeErr n (-1048576) 1048576 := by rw [HN.out]; exact errsK_all _ _ _
      rw [hle.out, e] at hown
      obtain ⟨B, d, rfl, _, hr⟩ := own_ints hown (by simp [← HN.out])
      have HR := Lib.hid hr
      clear hown e hr
      go_wp2
      go_ret
      exact ⟨⟨B, d, rfl, HR.out⟩, hB⟩

theorem cFirst_cells (l : List Int) (W : World) (hl : l.length ≤ 100) : Calls Try.prog 27 #[.slice (some ⟨W.heap.size, 0, none⟩) l.length l.length] (W.alloc (.cells (l.map (Value.int .i64)).toArray 24)) fun r w' => r = .returned (.int .i64 (firstOf l)) ∧ (W.alloc (.cells (l.map (Value.int .i64)).toArray 24)) = w' :=
  cFirst_any l _ _ _ (by omega) (Cells.row (heap_new rfl))

theorem gWhen_any (b : Bool) (e : Int) (w : World) : Calls Try.prog 61 #[.bool b, (.int .i64 e)] w fun r w' => r = .returned (.int .i64 (if b then e else 0)) ∧ w = w' := by
  cases b <;>
  · go_enter Try.func61, Try.ntmps61
    go_wp2
    go_ret
    exact ⟨rfl, rfl⟩

theorem gWithin_any (n lo hi : Int) (w : World) : Calls Try.prog 53 #[(.int .i64 n), (.int .i64 lo), (.int .i64 hi)] w fun r w' => r = .returned (.int .i64 (rangeErr n lo hi)) ∧ w = w' := by
  rcases Int.lt_or_le n lo with h | h
  · go_enter Try.func53, Try.ntmps53
    go_wp2_with (go_at_call 61; refine (gWhen_any _ _ _).mono ?_; rintro r w' ⟨rfl, rfl⟩)
    go_ret
    exact ⟨ret_i (rangeErr_lo h).symm, rfl⟩
  · rcases Int.lt_or_le hi n with h' | h'
    · go_enter Try.func53, Try.ntmps53
      go_wp2_with (go_at_call 61; refine (gWhen_any _ _ _).mono ?_; rintro r w' ⟨rfl, rfl⟩)
      go_ret
      exact ⟨ret_i (rangeErr_hi h').symm, rfl⟩
    · go_enter Try.func53, Try.ntmps53
      go_wp2_with (go_at_call 61; refine (gWhen_any _ _ _).mono ?_; rintro r w' ⟨rfl, rfl⟩)
      go_ret
      exact ⟨ret_i (rangeErr_in (by omega) (by omega)).symm, rfl⟩

theorem gFirst_any (l : List Int) (A : Option Addr) (c : Nat) (w : World) (hl : l.length ≤ 5000) (hC : Cells w A l) :
    Calls Try.prog 51 #[.slice A l.length c] w fun r w' => r = .returned (.int .i64 (firstOf l)) ∧ w = w' := by
  go_enter Try.func51, Try.ntmps51
  go_wp2
  go_loop [4, 7] (fun _ i => ∃ k : Nat, k ≤ l.length ∧ i = (.int .i64 k) ∧ ∀ j, j < k → l.getD j 0 = 0) (fun _ i => l.length - (intOf i).toNat)
  case atStart => exact ⟨0, Nat.zero_le _, rfl, fun j hj => by omega⟩
  case round =>
    obtain ⟨k, hk, rfl, hz⟩ := hrel
    have HZ := Lib.hid hz
    clear hz
    by_cases hlt : k < l.length
    · obtain ⟨b, off, rfl, hbl, hc⟩ := hC (by omega)
      have hck := hc k hlt
      clear hc hC
      by_cases h0 : l.getD k 0 = 0
      · rw [h0] at hck
        have H0 := Lib.hid h0
        clear h0
        go_wp2
        go_round
        case rel => exact ⟨k + 1, by omega, by go_num, fun j hj => by
          rcases Nat.lt_or_ge j k with hjk | hjk
          · exact HZ.out j hjk
          · obtain rfl : j = k := by omega
            exact H0.out⟩
        case measure => simp [intOf]; omega
      · obtain ⟨x, hx⟩ : ∃ x, x = l.getD k 0 := ⟨_, rfl⟩
        rw [← hx] at hck h0
        have H0 := Lib.hid hx
        clear hx
        go_wp2
        go_ret
        exact ⟨ret_i (by rw [firstOf_take HZ.out hlt (by rw [← H0.out]; exact h0)]; exact H0.out), rfl⟩
    · clear hC
      go_wp2
      go_ret
      exact ⟨ret_i (by rw [firstOf_zero (fun j hj => HZ.out j (by omega))]), rfl⟩


theorem gLevel_any (n : Int) (w : World) : Calls Try.prog 89 #[(.int .i64 n)] w fun r w' => r = .returned (.int .i64 (rangeErr n (-1048576) 1048576)) ∧ w = w' := by
  go_enter Try.func89, Try.ntmps89
  go_wp2_with (go_at_call 53; refine (gWithin_any _ _ _ _).mono ?_; rintro r w1 ⟨rfl, rfl⟩)
  go_ret
  exact ⟨rfl, rfl⟩
set_option maxHeartbeats 1000000 in
theorem gMapLev_any (A : Option Addr) (l : List Int) (c : Nat) (w : World) (hC : Cells w A l) (hn : l.length ≤ 5000) :
    Calls Try.prog 88 #[.slice A l.length c, .func (.func 89) #[] #[]] w fun r w' =>
      (∃ B d, r = .returned (.slice B l.length d) ∧ Cells w' B (l.map fun n => rangeErr n (-1048576) 1048576)) ∧ Below w.heap.size w w' := by
  obtain ⟨i0, hii, hz0, hz1, hz2⟩ := info_parts Try.infoE
  have HC := Lib.hid hC
  obtain ⟨N, hN⟩ : ∃ N, N = l.length := ⟨_, rfl⟩
  have HN := Lib.hid hN
  have HL : Hid (∀ k, k ≤ N → (errsK l (-1048576) 1048576 k).length = k) := Lib.hid (fun k hk => errsK_len (by rw [← hN]; exact hk))
  rw [← hN] at hn ⊢
  clear hN hC
  go_enter Try.func88, Try.ntmps88
  go_wp2
  go_loopw [5, 10] (fun v i wr => ∃ k : Nat, k ≤ N ∧ i = (.int .i64 ((k : Int))) ∧ wr.ownsRow w.heap.size 24 1 v (errsK l (-1048576) 1048576 k).length ((errsK l (-1048576) 1048576 k).map (Value.int .i64)) ∧ Below w.heap.size w wr) (fun _ i _ => N - (intOf i).toNat)
  case atStart => exact ⟨0, Nat.zero_le _, rfl, World.ownsRow_nil _ _ _ _, Below.refl _ _⟩
  case round =>
    obtain ⟨k, hk, rfl, hown, hB⟩ := hrel
    have HO := Lib.hid hown
    have hle := Lib.hid (HL.out k hk)
    have hsz := hB.size
    clear hown
    by_cases hlt : k < N
    · obtain ⟨b, o, rfl, l1, k1⟩ := HC.out (by rw [← HN.out]; omega)
      have x1 := (hB.cell (p := ⟨b, o + k, none⟩) l1).trans (k1 k (by rw [← HN.out]; exact hlt))
      have HS := Lib.hid (errsK_succ (lo := -1048576) (hi := 1048576) (show k < l.length by rw [← HN.out]; exact hlt))
      obtain ⟨x, hx⟩ : ∃ x, x = l.getD k 0 := ⟨_, rfl⟩
      rw [← hx] at x1 HS
      clear k1 hx
      go_wp2_with (first
        | (go_at_call 89; refine (gLevel_any x _).mono ?_; rintro r w2 ⟨rfl, rfl⟩)
        | (at_builtin; refine wpList_append_own _ rfl _ _ 74 rfl w.heap.size 24 i0 (.int .i64 0) 1 8 Try.underlying74 hii hz0 hz1 hz2 rfl (by decide) _ _ _ rfl (HO.out.alloc _) ⟨wr.heap.size, 0, none⟩ 1 1 [.int .i64 (rangeErr x (-1048576) 1048576)] rfl rfl ?c1 ?c2 ?c3 ?c4 ?c5 ?_))
      case c1 =>
        intro j u hj
        match j, hj with
        | 0, hj => simp at hj; subst hj; simp [Addr.add]
      case c2 => intro u hu; simp at hu; subst hu; rfl
      case c3 => have := hle.out; unfold maxLen; omega
      case c4 => have := hle.out; omega
      case c5 => simp; omega
      intro v' w1 hown' hgrow _
      have hB' : Below w.heap.size w w1 := (hB.alloc hsz _).grown hgrow (by simp; omega) (fun j hj => (HO.out.lt j hj).1)
      have HO' := Lib.hid hown'
      clear hgrow hown'
      go_wp2
      go_roundw
      case rel => exact ⟨k + 1, by omega, by go_num, by rw [HS.out]; simpa using HO'.out, hB'⟩
      case measure => simp [intOf]; omega
    · obtain rfl : k = N := by omega
      have hown := HO.out
      have e : errsK l (-1048576) 1048576 k = l.map fun n => rangeErr n (-1048576) 1048576 := by rw [HN.out]; exact errsK_all _ _ _
      rw [hle.out, e] at hown
      obtain ⟨B, d, rfl, _, hr⟩ := own_ints hown (by simp [← HN.out])
      have HR := Lib.hid hr
      clear hown e hr
      go_wp2
      go_ret
      exact ⟨⟨B, d, rfl, HR.out⟩, hB⟩

theorem gFirst_cells (l : List Int) (W : World) (hl : l.length ≤ 100) : Calls Try.prog 51 #[.slice (some ⟨W.heap.size, 0, none⟩) l.length l.length] (W.alloc (.cells (l.map (Value.int .i64)).toArray 24)) fun r w' => r = .returned (.int .i64 (firstOf l)) ∧ (W.alloc (.cells (l.map (Value.int .i64)).toArray 24)) = w' :=
  gFirst_any l _ _ _ (by omega) (Cells.row (heap_new rfl))

end Go.Proofs.Ytamldoidalnloaa

/- CheckResponse and CheckSequence of lists without an error. -/
namespace Go.Proofs.Ytamldoidalnloaa
open Go.RowKit
open Calm (bcell Blk)
set_option maxHeartbeats 1000000 in
theorem gSequence_ok (xs : List Int) (A : Option Addr) (c N : Nat) (w : World) (hN : N = xs.length) (hC : Cells w A xs) (hn : N ≤ 4096) (hl : lvls xs) :
    Calls Try.prog 54 #[.slice A N c] w fun r w' => r = .returned (.int .i64 0) ∧ Below w.heap.size w w' := by
  have HM : Hid (∀ W, Cells W A xs → Calls Try.prog 88 #[.slice A N c, .func (.func 89) #[] #[]] W fun r w' => (∃ B d, r = .returned (.slice B N d) ∧ Cells w' B (xs.map fun n => rangeErr n (-1048576) 1048576)) ∧ Below W.heap.size W w') := Lib.hid (fun W q => by rw [hN]; exact gMapLev_any A xs c W q (by omega))
  have HF : Hid (∀ W B d, Cells W B (xs.map fun n => rangeErr n (-1048576) 1048576) → Calls Try.prog 51 #[.slice B N d] W fun r w' => r = .returned (.int .i64 0) ∧ W = w') := Lib.hid (fun W B d q => by
    have e : N = (xs.map fun n => rangeErr n (-1048576) 1048576).length := by simp [hN]
    have := gFirst_any _ B d W (by rw [← e]; omega) q
    rwa [lvls_first hl, ← e] at this)
  have HC := Lib.hid hC
  have h1 : ¬ (4096 : Int) < (N : Int) := by omega
  clear hC hN hl
  go_enter Try.func54, Try.ntmps54
  go_wp2_with (first
    | (go_at_call 88; refine (HM.out _ HC.out).mono ?_; rintro r w1 ⟨⟨B, d, rfl, hc1⟩, hb1⟩; have HC1 := Lib.hid hc1; clear hc1; refine Hid.out ?_))
  unfold Hid
  go_wp2_with (go_at_call 51; refine (HF.out _ _ _ HC1.out).mono ?_; rintro r w2 ⟨rfl, rfl⟩)
  go_ret
  exact ⟨rfl, hb1⟩
end Go.Proofs.Ytamldoidalnloaa
