/- Part 1 of the texts of the claim: Calm, A1, A2, A3. -/
import Derived.StillTail
import Derived.Deep.Quiet
import Derived.Below
import Derived.OneCell
import Derived.WalkKit
import Derived.Test.YtpkldjlljoledaaDoorRows
import Derived.WalkSpells
import Derived.WalkLawsBesides
import Derived.Lib.Hide
import Derived.Deep.RegionHeld3
import Derived.Deep.DeepCutAuto

/- Regions whose order is open, and whose operations, but for a forced tail, each have one value in every world of a class: one walk in the order of the text serves. No program. -/
namespace Go.Proofs.YtpkldjlljoledaaDoor.Calm
open Go.RowKit

section
variable {P : Program} {ops : Array Oper} {md : Region.Mode} {C : World → Prop}

/-- The head of a region in any order, then L. -/
def head (P : Program) (md : Region.Mode) (ops : Array Oper) (C : World → Prop) (n : Nat) (L : Array Bool → Act → Prop) : Nat → Array Bool → Act → Prop
  | 0, listed, a => L listed a
  | f + 1, listed, a => Region.ready md ops listed ≠ [] ∧ ∀ i ∈ Region.ready md ops listed, i < n ∧ qOp P ops C i (head P md ops C n L f (listed.setIfInBounds i true)) a

theorem any_of_head {n g : Nat} {L : Array Bool → Act → Prop} {Q' : Exit → Act → World → Prop} (hL : ∀ listed a w, C w → L listed a → wpAny P md ops Q' g listed a w) :
    ∀ (f : Nat) (listed : Array Bool) (a : Act) (w : World), C w → head P md ops C n L f listed a → wpAny P md ops Q' (f + g) listed a w
  | 0, listed, a, w, hw, h => by rw [Nat.zero_add]; exact hL _ _ _ hw h
  | f + 1, listed, a, w, hw, h => by
    rw [show f + 1 + g = (f + g) + 1 by omega]
    exact ⟨fun h0 => absurd h0 h.1, fun i hi => wpOp_of_qOp hw (fun a' w' hw' h' => any_of_head hL f _ a' w' hw' h') (h.2 i hi).2⟩

theorem head_first {n i : Nat} {oi : Oper} {v : Value} {L : Array Bool → Act → Prop} (hi : ops[i]? = some oi) (hsel : ∀ (j : Nat) (o : Oper) cs b, ops[j]? = some o → o.op ≠ .select cs b)
    (hs : Region.sinkB md ops n = true) (hc : Region.chainB md ops n = true) (hn : n < ops.size) (hin : i < n)
    (hdone : ∀ listed a, L listed a → ∀ j ∈ Region.ready md ops listed, n ≤ j) :
    ∀ (f : Nat) (listed : Array Bool) (a : Act), HeadInv md ops n listed →
      (∀ j oj, ops[j]? = some oj → j ≠ i → listed.getD j true = false → (∀ e ∈ oj.after, Region.binds md e = true → e.on ≠ i) → oi.apart ops oj = true) →
      i ∈ Region.ready md ops listed → YieldsIn P ops C oi v a →
      head P md ops C n L f (listed.setIfInBounds i true) (a.put oi.dst v) → head P md ops C n L (f + 1) listed a := by
  have below : ∀ (listed : Array Bool), HeadInv md ops n listed → listed.getD i true = false → ∀ j ∈ Region.ready md ops listed, j < n := by
    intro listed inv hun j hj
    rcases Nat.lt_or_ge j n with h | h
    · exact h
    · exact absurd hj (tail_waits hs hc hn inv _ i rfl hin hun j h)
  intro f
  induction f with
  | zero =>
    intro listed a inv _ hr hy H
    have hun := (mem_ready.1 hr).1
    refine ⟨fun h => (by rw [h] at hr; cases hr), fun j hj => ⟨below listed inv hun j hj, ?_⟩⟩
    by_cases hji : j = i
    · subst hji; exact hy.qOp hi H
    · have h1 := hdone _ _ H j (ready_mono hj hji)
      have h2 := below listed inv hun j hj
      omega
  | succ f ih =>
    intro listed a inv hfree hr hy H
    have hun := (mem_ready.1 hr).1
    refine ⟨fun h => (by rw [h] at hr; cases hr), fun j hj => ⟨below listed inv hun j hj, ?_⟩⟩
    have hjn := below listed inv hun j hj
    by_cases hji : j = i
    · subst hji; exact hy.qOp hi H
    · have h1 := (H.2 j (ready_mono hj hji)).2
      obtain ⟨hjun, oj, hoj, hall⟩ := mem_ready.1 hj
      have hnot : ∀ e ∈ oj.after, Region.binds md e = true → e.on ≠ i := fun e he hb heq => by
        have h3 := hall e he hb
        rw [heq, getD_both hun] at h3
        cases h3
      have h2 := qOp_put hoj (hfree j oj hoj hji hjun hnot) (fun cs b => hsel i oi cs b hi) (fun cs b => hsel j oj cs b hoj) hy h1
      refine qOp_mono (fun a' h3 => ih (listed.setIfInBounds j true) a' (inv.set hj hjn) ?_ (ready_mono hr (Ne.symm hji)) h3.1 ?_) h2
      · intro k ok hk hki hun' hno
        refine hfree k ok hk hki ?_ hno
        by_cases hjk : j = k
        · subst hjk; exact hjun
        · rw [getD_set_ne true hjk] at hun'; exact hun'
      · rw [Array.setIfInBounds_comm _ _ hji]
        exact h3.2

theorem head_lex {n g : Nat} {Lq : Act → Prop} (hsel : Region.noSelect ops = true) (hs : Region.sinkB md ops n = true) (hc : Region.chainB md ops n = true) (hn : n < ops.size) :
    ∀ (l : List Oper) (k : Nat) (listed : Array Bool) (a : Act), (∀ j, j < l.length → l[j]? = ops[k + j]?) → k + l.length = n → HeadInv md ops n listed →
    Region.lexHead md ops g l.length k listed = true → wpQuiet P ops C Lq l a →
    head P md ops C n (fun listed' a' => Region.seqB md ops g n listed' = true ∧ Lq a') l.length listed a
  | [], k, listed, a, _, hk, _, hB, h => by
    have : k = n := by simpa using hk
    subst this
    exact ⟨by simpa [Region.lexHead] using hB, h⟩
  | o :: l, k, listed, a, hl, hk, inv, hB, h => by
    have h0 : ops[k]? = some o := by simpa using (hl 0 (by simp)).symm
    simp only [List.length_cons, Region.lexHead, Bool.and_eq_true] at hB
    obtain ⟨⟨hr, hf⟩, hB'⟩ := hB
    have hkn : k < n := by simp only [List.length_cons] at hk; omega
    have hr' : k ∈ Region.ready md ops listed := by simpa using hr
    have hst : qOp P ops C k (wpQuiet P ops C Lq l) a := by unfold qOp; simp only [h0]; exact h
    obtain ⟨v, hy, hK⟩ := yieldsIn_of_qOp h0 hst
    exact head_first h0 (Region.noSelect_spec hsel) hs hc hn hkn (fun listed' a' hL => seqB_ready hL.1) l.length listed a inv (Region.free_spec h0 hf) hr' hy
      (head_lex hsel hs hc hn l (k + 1) _ _ (fun j hj => by have := hl (j + 1) (by simp; omega); simpa [Nat.add_assoc, Nat.add_comm 1 j] using this) (by simp only [List.length_cons] at hk; omega) (inv.set hr' hkn) hB' hK)

/-- A REGION THAT DRAWS ITS ORDER: n operations that each have one value in every world of the class, then a tail whose order is forced. -/
theorem region_tail {id : Nat} {Q : Exit → Act → World → Prop} {a : Act} {w : World} {l : List Oper} (n : Nat) (hm : P.follows .mixedOrders = true) (hB : Region.lexTailB .any l.toArray n = true)
    (C : World → Prop) (hC : C { w with drawn := w.drawn + 1 })
    (h : wpQuiet P l.toArray C (fun a' => ∀ w', C w' → wpList P l.toArray Q (l.drop n) a' w') (l.take n) a) : (Code.region id l.toArray true).wp P Q a w := by
  simp only [Region.lexTailB, Bool.and_eq_true, decide_eq_true_eq] at hB
  obtain ⟨⟨⟨⟨hsel, hn⟩, hs⟩, hc⟩, hlex⟩ := hB
  have hn' : n < l.length := by simpa using hn
  have htl : (l.take n).length = n := by simp; omega
  have hdl : (l.drop n).length = l.toArray.size - n := by simp
  have inv0 : HeadInv .any l.toArray n (Array.replicate l.toArray.size false) :=
    ⟨by simp, fun j oj _ hl => (by rw [getD_replicate_false] at hl; cases hl), fun t _ ht => getD_in (by simpa using ht) (getD_replicate_false _ _)⟩
  have H := head_lex (md := .any) (g := l.toArray.size - n) hsel hs hc hn (l.take n) 0 _ a (fun j hj => by
    have hj' : j < n := by rw [htl] at hj; exact hj
    simp [hj']) (by simpa using htl) inv0 (by rw [htl]; exact hlex) h
  refine wp_region_any hm ?_
  have := any_of_head (Q' := Q) (g := l.toArray.size - n) (fun listed a' w' hw' hL => by
    have := wpAny_of_seq (md := .any) (Q' := Q) (l.drop n) n listed a' w' (fun j => by simp [List.getElem?_drop]) (by rw [hdl]; exact hL.1) (hL.2 w' hw')
    rwa [hdl] at this) _ _ _ _ hC H
  rw [htl, show n + (l.toArray.size - n) = l.toArray.size by omega] at this
  exact this
/-- The same where every operation has one value. -/
theorem region_all {id : Nat} {Q : Exit → Act → World → Prop} {a : Act} {w : World} {l : List Oper} (hm : P.follows .mixedOrders = true) (hB : Region.lexB .any l.toArray = true)
    (C : World → Prop) (hC : C { w with drawn := w.drawn + 1 })
    (h : wpQuiet P l.toArray C (fun a' => ∀ w', C w' → Q .normal a' w') l a) : (Code.region id l.toArray true).wp P Q a w :=
  wp_region_quiet (C := C) hm hB hC (by simpa using h)

/-- One operation that is carried out, and yields v in every world of the class. -/
theorem op {Q : Act → Prop} {a : Act} {o : Oper} {rest : List Oper} (v : Value) (hw : Region.wanted o (yielded ops a.tmps) = true) (h : ∀ w, C w → (execOp a.eval o).run P w = .ok (.value v) w)
    (hn : wpQuiet P ops C Q rest (a.put o.dst v)) : wpQuiet P ops C Q (o :: rest) a := by
  unfold wpQuiet
  rw [if_pos hw]
  exact ⟨v, fun w hc => by unfold Oper.quietAt; rw [h w hc]; exact ⟨rfl, rfl⟩, hn⟩
/-- A copy. -/
theorem op_move {Q : Act → Prop} {a : Act} {o : Oper} {rest : List Oper} (v : Value) (x : Operand) (hw : Region.wanted o (yielded ops a.tmps) = true) (ho : o.op = .move x ∨ o.op = .assign x) (hv : a.eval x = v)
    (hn : wpQuiet P ops C Q rest (a.put o.dst v)) : wpQuiet P ops C Q (o :: rest) a := by
  refine op v hw (fun w _ => ?_) hn
  unfold execOp
  rcases ho with ho | ho <;> simp [ho, hv]
/-- One that yields nothing (a nil check). -/
theorem op_skip {Q : Act → Prop} {a : Act} {o : Oper} {rest : List Oper} (hw : Region.wanted o (yielded ops a.tmps) = true) (h : ∀ w, C w → (execOp a.eval o).run P w = .ok .skip w)
    (hn : wpQuiet P ops C Q rest (a.put o.dst undef)) : wpQuiet P ops C Q (o :: rest) a := by
  unfold wpQuiet
  rw [if_pos hw]
  exact ⟨undef, fun w hc => by unfold Oper.quietAt; rw [h w hc]; exact ⟨rfl, rfl⟩, hn⟩
/-- One that is passed over. -/
theorem op_not {Q : Act → Prop} {a : Act} {o : Oper} {rest : List Oper} (hw : Region.wanted o (yielded ops a.tmps) = false) (hn : wpQuiet P ops C Q rest (a.put o.dst undef)) : wpQuiet P ops C Q (o :: rest) a := by
  unfold wpQuiet
  rw [if_neg (by rw [hw]; exact Bool.false_ne_true)]
  exact hn
/-- A call, by a contract. -/
theorem op_call {Q : Act → Prop} {a : Act} {o : Oper} {rest : List Oper} (v : Value) (f : FuncId) (args : Array Value) (hw : Region.wanted o (yielded ops a.tmps) = true) (h : ∀ w, C w → (execOp a.eval o).run P w = .ok (.enter f args) w)
    (hc : ∀ w, C w → Calls P f args w fun e w' => e = .returned v ∧ C w') (hn : wpQuiet P ops C Q rest (a.put o.dst v)) : wpQuiet P ops C Q (o :: rest) a := by
  unfold wpQuiet
  rw [if_pos hw]
  exact ⟨v, fun w hw' => by unfold Oper.quietAt; rw [h w hw']; exact ⟨rfl, hc w hw'⟩, hn⟩
theorem below_drawn (w : World) : Below w.heap.size w { w with drawn := w.drawn + 1 } := (Below.refl w.heap.size w).drew
/-- The class 'all that lay when the region began is as it was'. -/
theorem tail_below {id : Nat} {Q : Exit → Act → World → Prop} {a : Act} {w : World} {l : List Oper} (n : Nat) (hm : P.follows .mixedOrders = true) (hB : Region.lexTailB .any l.toArray n = true)
    (h : wpQuiet P l.toArray (fun W => Below w.heap.size w W) (fun a' => ∀ w', Below w.heap.size w w' → wpList P l.toArray Q (l.drop n) a' w') (l.take n) a) : (Code.region id l.toArray true).wp P Q a w :=
  region_tail n hm hB _ (below_drawn w) h
theorem all_below {id : Nat} {Q : Exit → Act → World → Prop} {a : Act} {w : World} {l : List Oper} (hm : P.follows .mixedOrders = true) (hB : Region.lexB .any l.toArray = true)
    (h : wpQuiet P l.toArray (fun W => Below w.heap.size w W) (fun a' => ∀ w', Below w.heap.size w w' → Q .normal a' w') l a) : (Code.region id l.toArray true).wp P Q a w :=
  region_all hm hB _ (below_drawn w) h
/-- A contract that keeps what lay, met in the class. -/
theorem call_below {f : FuncId} {args : Array Value} {v : Value} {w W : World} (hb : Below w.heap.size w W) (h : Calls P f args W fun e W' => e = .returned v ∧ Below W.heap.size W W') :
    Calls P f args W fun e W' => e = .returned v ∧ Below w.heap.size w W' :=
  h.mono fun _ _ ⟨he, h2⟩ => ⟨he, hb.trans (h2.mono hb.size)⟩
theorem call_same {f : FuncId} {args : Array Value} {v : Value} {w W : World} (hb : Below w.heap.size w W) (h : Calls P f args W fun e W' => e = .returned v ∧ W = W') :
    Calls P f args W fun e W' => e = .returned v ∧ Below w.heap.size w W' :=
  h.mono fun _ _ ⟨he, h2⟩ => ⟨he, h2 ▸ hb⟩
end
theorem bcell {W w1 : World} (hb : Below W.heap.size W w1) : (∀ b o, b < W.heap.size → w1.cell? ⟨b, o, none⟩ = W.cell? ⟨b, o, none⟩) ∧ (∀ b o, b < W.heap.size → w1.frozen? ⟨b, o, none⟩ = W.frozen? ⟨b, o, none⟩) :=
  ⟨fun b o h => hb.cell (p := ⟨b, o, none⟩) h, fun b o h => hb.frozen (p := ⟨b, o, none⟩) h⟩
theorem step {B B' : Nat} {a b c : World} (hc : Below B' b c) (h : Below B a b) (hB : B ≤ B') : Below B a c := h.trans (hc.mono hB)
/-- Block g holds just these cells, none of them frozen. -/
structure Blk (w : World) (g : Nat) (cs : Array Value) : Prop where
  lt : g < w.heap.size
  c : ∀ i, w.cell? ⟨g, i, none⟩ = cs[i]?
  f : ∀ i, w.frozen? ⟨g, i, none⟩ = false
theorem Blk.new (w : World) (t : TypeId) (cs : Array Value) : Blk (w.alloc (.cells cs t)) w.heap.size cs :=
  ⟨by simp, fun i => cell_of_row _ _ i cs t (0, 0) (heap_alloc_new w _), fun i => by unfold World.frozen?; rw [heap_alloc_new]; simp⟩
theorem Blk.at_ {w : World} {t : TypeId} {cs : Array Value} {g : Nat} (h : g = w.heap.size) : Blk (w.alloc (.cells cs t)) g cs := h ▸ Blk.new w t cs
theorem Blk.below {w w' : World} {g : Nat} {cs : Array Value} (h : Blk w g cs) (hb : Below w.heap.size w w') : Blk w' g cs :=
  ⟨Nat.lt_of_lt_of_le h.lt hb.size, fun i => (hb.cell (p := ⟨g, i, none⟩) h.lt).trans (h.c i), fun i => (hb.frozen (p := ⟨g, i, none⟩) h.lt).trans (h.f i)⟩
theorem Blk.alloc {w : World} {g : Nat} {cs : Array Value} (h : Blk w g cs) (o : Obj) : Blk (w.alloc o) g cs :=
  h.below ((Below.refl _ _).alloc (Nat.le_refl _) o)
theorem Blk.drew {w : World} {g : Nat} {cs : Array Value} (h : Blk w g cs) : Blk w.drew g cs := ⟨h.1, h.2, h.3⟩
theorem Blk.far {w : World} {g : Nat} {cs : Array Value} (h : Blk w g cs) {p : Addr} (hp : p.block ≠ g) (v : Value) : Blk (w.setCell p v) g cs := by
  have hne : ∀ i, p ≠ ⟨g, i, none⟩ := fun i e => hp (by rw [e])
  exact ⟨by simpa using h.lt, fun i => (World.cell?_setCell_other w p ⟨g, i, none⟩ v (hne i)).trans (h.c i), fun i => by rw [World.frozen?_setCell]; exact h.f i⟩
theorem Blk.cell {w : World} {g : Nat} {cs : Array Value} (h : Blk w g cs) (i : Nat) (v : Value) (hv : cs[i]? = some v) : w.cell? ⟨g, i, none⟩ = some v := (h.c i).trans hv
end Go.Proofs.YtpkldjlljoledaaDoor.Calm

/- Contracts of the small functions of package driver: each returns what its text computes; no old memory changes. -/
namespace Go.Proofs.YtpkldjlljoledaaDoor
open Go.RowKit
open Calm (bcell)

theorem when_yes (e : Int) (w : World) : Calls Tryd.prog 87 #[.bool true, (.int .i64 (e))] w fun r w' => r = .returned (.int .i64 (e)) ∧ w = w' := by
  go_enter Tryd.func87, Tryd.ntmps87
  go_wp2
  go_ret
  exact ⟨rfl, rfl⟩
theorem when_no (e : Int) (w : World) : Calls Tryd.prog 87 #[.bool false, (.int .i64 (e))] w fun r w' => r = .returned (.int .i64 (0)) ∧ w = w' := by
  go_enter Tryd.func87, Tryd.ntmps87
  go_wp2
  go_ret
  exact ⟨rfl, rfl⟩
/-- 'when' at any condition. -/
theorem when_any (b : Bool) (e : Int) (w : World) : Calls Tryd.prog 87 #[.bool b, (.int .i64 (e))] w fun r w' => r = .returned (.int .i64 (if b then e else 0)) ∧ w = w' := by
  cases b
  · exact when_no e w
  · exact when_yes e w

/-- the error of a range, as a number. -/
def rangeErr (n lo hi : Int) : Int := if n < lo ∨ hi < n then 3 else 0
theorem rangeErr_lo {n lo hi : Int} (h : n < lo) : rangeErr n lo hi = 3 := if_pos (.inl h)
theorem rangeErr_hi {n lo hi : Int} (h : hi < n) : rangeErr n lo hi = 3 := if_pos (.inr h)
theorem rangeErr_in {n lo hi : Int} (h : lo ≤ n) (h' : n ≤ hi) : rangeErr n lo hi = 0 := if_neg (by omega)
theorem rangeErr_zero {n lo hi : Int} : rangeErr n lo hi = 0 ↔ lo ≤ n ∧ n ≤ hi := by
  unfold rangeErr; split <;> omega
theorem rangeErr_cases (n lo hi : Int) : rangeErr n lo hi = 0 ∧ lo ≤ n ∧ n ≤ hi ∨ rangeErr n lo hi = 3 ∧ (n < lo ∨ hi < n) := by
  unfold rangeErr; split <;> omega
theorem ret_i {a b : Int} (h : a = b) : Ending.returned (.int .i64 a) = .returned (.int .i64 b) := by rw [h]

theorem within_any (n lo hi : Int) (w : World) : Calls Tryd.prog 80 #[(.int .i64 (n)), (.int .i64 (lo)), (.int .i64 (hi))] w fun r w' => r = .returned (.int .i64 (rangeErr n lo hi)) ∧ w = w' := by
  rcases Int.lt_or_le n lo with h | h
  · go_enter Tryd.func80, Tryd.ntmps80
    go_wp2_with (go_at_call 87; refine (when_any _ _ _).mono ?_; rintro r w' ⟨rfl, rfl⟩)
    go_ret
    exact ⟨ret_i (rangeErr_lo h).symm, rfl⟩
  · rcases Int.lt_or_le hi n with h' | h'
    · go_enter Tryd.func80, Tryd.ntmps80
      go_wp2_with (go_at_call 87; refine (when_any _ _ _).mono ?_; rintro r w' ⟨rfl, rfl⟩)
      go_ret
      exact ⟨ret_i (rangeErr_hi h').symm, rfl⟩
    · go_enter Tryd.func80, Tryd.ntmps80
      go_wp2_with (go_at_call 87; refine (when_any _ _ _).mono ?_; rintro r w' ⟨rfl, rfl⟩)
      go_ret
      exact ⟨ret_i (rangeErr_in (by omega) (by omega)).symm, rfl⟩
theorem checkW_any (n : Int) (w : World) : Calls Tryd.prog 97 #[(.int .i64 (n))] w fun r w' => r = .returned (.int .i64 (rangeErr n 1 8)) ∧ w = w' := by
  go_enter Tryd.func97, Tryd.ntmps97
  go_wp2_with (go_at_call 80; refine (within_any _ _ _ _).mono ?_; rintro r w' ⟨rfl, rfl⟩)
  go_ret
  exact ⟨rfl, rfl⟩

theorem number_any (a b : Int) (w : World) : Calls Tryd.prog 85 #[(.int .i64 (a)), (.int .i64 (b))] w fun r w' => r = .returned (.agg #[(.int .i64 (a)), (.int .i64 (b))]) ∧ Below w.heap.size w w' := by
  go_enter Tryd.func85, Tryd.ntmps85
  go_wp2
  exact bodyPost_ret (v := .agg #[(.int .i64 (a)), (.int .i64 (b))]) (by simp [results, Tryd.results85, go_sem]) rfl ⟨rfl, ((Below.refl _ _).alloc (Nat.le_refl _) _)⟩

/-- the first of some numbers that is not 0. -/
def firstOf (l : List Int) : Int := (l.find? (· != 0)).getD 0
theorem firstOf_take {l : List Int} {k : Nat} (h : ∀ j, j < k → l.getD j 0 = 0) (hk : k < l.length) (hn : l.getD k 0 ≠ 0) : firstOf l = l.getD k 0 := by
  induction l generalizing k with
  | nil => simp at hk
  | cons x l ih =>
    cases k with
    | zero => simp at hn; simp [firstOf, hn]
    | succ k =>
      have h0 : x = 0 := by simpa using h 0 (by omega)
      have := ih (k := k) (fun j hj => by simpa using h (j + 1) (by omega)) (by simpa using hk) (by simpa using hn)
      subst h0
      simpa [firstOf] using this
theorem firstOf_zero {l : List Int} (h : ∀ j, j < l.length → l.getD j 0 = 0) : firstOf l = 0 := by
  induction l with
  | nil => rfl
  | cons x l ih =>
    have h0 : x = 0 := by simpa using h 0 (by simp)
    have := ih (fun j hj => by simpa using h (j + 1) (by simpa using hj))
    subst h0
    simpa [firstOf] using this
theorem first_any (l : List Int) (b off c : Nat) (w : World) (hl : l.length ≤ 64) (hc : ∀ k, k < l.length → w.cell? ⟨b, off + k, none⟩ = some (.int .i64 (l.getD k 0))) :
    Calls Tryd.prog 86 #[.slice (some ⟨b, off, none⟩) l.length c] w fun r w' => r = .returned (.int .i64 (firstOf l)) ∧ w = w' := by
  go_enter Tryd.func86, Tryd.ntmps86
  go_wp2
  go_loop [4, 7] (fun _ i => ∃ k : Nat, k ≤ l.length ∧ i = (.int .i64 (k)) ∧ ∀ j, j < k → l.getD j 0 = 0) (fun _ i => l.length - (intOf i).toNat)
  case atStart => exact ⟨0, Nat.zero_le _, rfl, fun j hj => by omega⟩
  case round =>
    obtain ⟨k, hk, rfl, hz⟩ := hrel
    have HZ := Lib.hid hz
    clear hz
    by_cases hlt : k < l.length
    · have hck := hc k hlt
      clear hc
      by_cases h0 : l.getD k 0 = 0
      · rw [h0] at hck
        have H0 := Lib.hid h0
        clear h0
        go_wp2
        go_round
        case rel => exact ⟨k + 1, by omega, by go_num, fun j hj => by
          rcases Nat.lt_or_ge j k with hjk | hjk
          · exact HZ.out j hjk
          · obtain rfl : j = k := by omega
            exact H0.out⟩
        case measure => simp [intOf]; omega
      · obtain ⟨x, hx⟩ : ∃ x, x = l.getD k 0 := ⟨_, rfl⟩
        rw [← hx] at hck h0
        have H0 := Lib.hid hx
        clear hx
        go_wp2
        go_ret
        exact ⟨ret_i (by rw [firstOf_take HZ.out hlt (by rw [← H0.out]; exact h0)]; exact H0.out), rfl⟩
    · clear hc
      go_wp2
      go_ret
      exact ⟨ret_i (by rw [firstOf_zero (fun j hj => HZ.out j (by omega))]), rfl⟩
end Go.Proofs.YtpkldjlljoledaaDoor

/- Contracts of package driver's arithmetic. -/
namespace Go.Proofs.YtpkldjlljoledaaDoor
open Go.RowKit
open Calm (bcell)

/-- a number whose absolute value is at most M. -/
def Bd (M n : Int) : Prop := -M ≤ n ∧ n ≤ M
theorem Bd.mul {A B a b : Int} (ha : Bd A a) (hb : Bd B b) (hA : 0 ≤ A) : Bd (A * B) (a * b) := by
  obtain ⟨h1, h2⟩ := ha
  obtain ⟨h3, h4⟩ := hb
  have hB : 0 ≤ B := by omega
  constructor
  · rcases Int.le_total 0 a with h | h
    · have e1 : a * (-B) ≤ a * b := Int.mul_le_mul_of_nonneg_left h3 h
      have e2 : A * (-B) ≤ a * (-B) := Int.mul_le_mul_of_nonpos_right h2 (by omega)
      rw [Int.mul_neg] at e2
      omega
    · have e1 : a * B ≤ a * b := Int.mul_le_mul_of_nonpos_left h h4
      have e2 : (-A) * B ≤ a * B := Int.mul_le_mul_of_nonneg_right h1 hB
      rw [Int.neg_mul] at e2
      omega
  · rcases Int.le_total 0 a with h | h
    · have e1 : a * b ≤ a * B := Int.mul_le_mul_of_nonneg_left h4 h
      have e2 : a * B ≤ A * B := Int.mul_le_mul_of_nonneg_right h2 hB
      omega
    · have e1 : a * b ≤ a * (-B) := Int.mul_le_mul_of_nonpos_left h h3
      have e2 : a * (-B) ≤ (-A) * (-B) := Int.mul_le_mul_of_nonpos_right h1 (by omega)
      rw [Int.neg_mul_neg] at e2
      omega

/-- products and sums of complex integers, by parts (plain definitions: the walk does not look into them). -/
def tRe (a b c d : Int) : Int := a * c - b * d
def tIm (a b c d : Int) : Int := a * d + b * c
def pl (a b : Int) : Int := a + b
theorem tRe_bd {A B a b c d : Int} (h1 : Bd A a) (h2 : Bd A b) (h3 : Bd B c) (h4 : Bd B d) (hA : 0 ≤ A) : Bd (2 * (A * B)) (tRe a b c d) := by
  obtain ⟨e1, e2⟩ := h1.mul h3 hA
  obtain ⟨e3, e4⟩ := h2.mul h4 hA
  unfold tRe
  constructor <;> omega
theorem tIm_bd {A B a b c d : Int} (h1 : Bd A a) (h2 : Bd A b) (h3 : Bd B c) (h4 : Bd B d) (hA : 0 ≤ A) : Bd (2 * (A * B)) (tIm a b c d) := by
  obtain ⟨e1, e2⟩ := h1.mul h4 hA
  obtain ⟨e3, e4⟩ := h2.mul h3 hA
  unfold tIm
  constructor <;> omega

theorem plus_any (a b c d : Int) (w : World) (h1 : Bd 1000000000000000 a) (h2 : Bd 1000000000000000 b) (h3 : Bd 1000000000000000 c) (h4 : Bd 1000000000000000 d) :
    Calls Tryd.prog 110 #[.agg #[(.int .i64 (a)), (.int .i64 (b))], .agg #[(.int .i64 (c)), (.int .i64 (d))]] w fun r w' => r = .returned (.agg #[(.int .i64 (pl a c)), (.int .i64 (pl b d))]) ∧ Below w.heap.size w w' := by
  obtain ⟨h11, h12⟩ := h1
  obtain ⟨h21, h22⟩ := h2
  obtain ⟨h31, h32⟩ := h3
  obtain ⟨h41, h42⟩ := h4
  go_enter Tryd.func110, Tryd.ntmps110
  go_wp2_with (first | (go_at_call 85; refine (number_any _ _ _).mono ?_; rintro r w1 ⟨rfl, hb⟩; obtain ⟨hc, hf⟩ := bcell hb; have hz := hb.size; (try simp at hz); (try have hz0 : w.heap.size < w1.heap.size := by omega); (try have hz1 : w.heap.size + 1 < w1.heap.size := by omega); (try have hz2 : w.heap.size + 1 + 1 < w1.heap.size := by omega); (try have hz3 : w.heap.size + 1 + 1 + 1 < w1.heap.size := by omega); (try have hz4 : w.heap.size + 1 + 1 + 1 + 1 < w1.heap.size := by omega); (try have hz5 : w.heap.size + 1 + 1 + 1 + 1 + 1 < w1.heap.size := by omega); (try have hz6 : w.heap.size + 1 + 1 + 1 + 1 + 1 + 1 < w1.heap.size := by omega)))
  exact bodyPost_ret (v := .agg #[(.int .i64 (pl a c)), (.int .i64 (pl b d))]) (by simp [results, Tryd.results110, go_sem, hc, pl]) rfl ⟨rfl, ((((((Below.refl _ _).alloc (Nat.le_refl _) _).alloc (by simp) _).alloc (by simp; omega) _).trans (hb.mono (by simp; omega))).setCell (by simp; omega) _).setCell (by simp; omega) _⟩

theorem times_any (a b c d : Int) (w : World) (h1 : Bd 1000000 a) (h2 : Bd 1000000 b) (h3 : Bd 100000000000 c) (h4 : Bd 100000000000 d) :
    Calls Tryd.prog 111 #[.agg #[(.int .i64 (a)), (.int .i64 (b))], .agg #[(.int .i64 (c)), (.int .i64 (d))]] w fun r w' => r = .returned (.agg #[(.int .i64 (tRe a b c d)), (.int .i64 (tIm a b c d))]) ∧ Below w.heap.size w w' := by
  obtain ⟨e11, e12⟩ := h1.mul h3 (by omega)
  obtain ⟨e21, e22⟩ := h2.mul h4 (by omega)
  obtain ⟨e31, e32⟩ := h1.mul h4 (by omega)
  obtain ⟨e41, e42⟩ := h2.mul h3 (by omega)
  clear h1 h2 h3 h4
  go_enter Tryd.func111, Tryd.ntmps111
  go_wp2_with (first | (go_at_call 85; refine (number_any _ _ _).mono ?_; rintro r w1 ⟨rfl, hb⟩; obtain ⟨hc, hf⟩ := bcell hb; have hz := hb.size; (try simp at hz); (try have hz0 : w.heap.size < w1.heap.size := by omega); (try have hz1 : w.heap.size + 1 < w1.heap.size := by omega); (try have hz2 : w.heap.size + 1 + 1 < w1.heap.size := by omega); (try have hz3 : w.heap.size + 1 + 1 + 1 < w1.heap.size := by omega); (try have hz4 : w.heap.size + 1 + 1 + 1 + 1 < w1.heap.size := by omega); (try have hz5 : w.heap.size + 1 + 1 + 1 + 1 + 1 < w1.heap.size := by omega); (try have hz6 : w.heap.size + 1 + 1 + 1 + 1 + 1 + 1 < w1.heap.size := by omega)))
  exact bodyPost_ret (v := .agg #[(.int .i64 (tRe a b c d)), (.int .i64 (tIm a b c d))]) (by simp [results, Tryd.results111, go_sem, hc, tRe, tIm]) rfl ⟨rfl, ((((((Below.refl _ _).alloc (Nat.le_refl _) _).alloc (by simp) _).alloc (by simp; omega) _).trans (hb.mono (by simp; omega))).setCell (by simp; omega) _).setCell (by simp; omega) _⟩

def mRe (st ma w : Int) : Int := st - w * w * ma
def mIm (lo w : Int) : Int := w * lo
theorem swing_any (k m l w0 : Int) (w : World) (h1 : Bd 100000 k) (h2 : Bd 1000 m) (h3 : Bd 1000 l) (h4 : Bd 8 w0) :
    Calls Tryd.prog 108 #[(.int .i64 (k)), (.int .i64 (m)), (.int .i64 (l)), (.int .i64 (w0))] w fun r w' => r = .returned (.agg #[(.int .i64 (mRe k m w0)), (.int .i64 (mIm l w0))]) ∧ Below w.heap.size w w' := by
  obtain ⟨e11, e12⟩ := h4.mul h4 (by omega)
  obtain ⟨e21, e22⟩ := (h4.mul h4 (by omega)).mul h2 (by omega)
  obtain ⟨e31, e32⟩ := h4.mul h3 (by omega)
  obtain ⟨h11, h12⟩ := h1
  clear h2 h3 h4
  go_enter Tryd.func108, Tryd.ntmps108
  go_wp2_with (first | (go_at_call 85; refine (number_any _ _ _).mono ?_; rintro r w1 ⟨rfl, hb⟩; obtain ⟨hc, hf⟩ := bcell hb; have hz := hb.size; (try simp at hz); (try have hz0 : w.heap.size < w1.heap.size := by omega); (try have hz1 : w.heap.size + 1 < w1.heap.size := by omega); (try have hz2 : w.heap.size + 1 + 1 < w1.heap.size := by omega); (try have hz3 : w.heap.size + 1 + 1 + 1 < w1.heap.size := by omega); (try have hz4 : w.heap.size + 1 + 1 + 1 + 1 < w1.heap.size := by omega); (try have hz5 : w.heap.size + 1 + 1 + 1 + 1 + 1 < w1.heap.size := by omega); (try have hz6 : w.heap.size + 1 + 1 + 1 + 1 + 1 + 1 < w1.heap.size := by omega)))
  exact bodyPost_ret (v := .agg #[(.int .i64 (mRe k m w0)), (.int .i64 (mIm l w0))]) (by simp [results, Tryd.results108, go_sem, hc, mRe, mIm]) rfl ⟨rfl, ((((Below.refl _ _).alloc (Nat.le_refl _) _).trans (hb.mono (by simp))).setCell (by simp) _).setCell (by simp) _⟩

def eRe (re le bl a b c d w : Int) : Int := pl (tRe re (w * le) a b) (tRe 0 (w * bl * bl) c d)
def eIm (re le bl a b c d w : Int) : Int := pl (tIm re (w * le) a b) (tIm 0 (w * bl * bl) c d)
theorem electric_any (re le bl ma st lo a b c d w0 : Int) (w : World) (h1 : Bd 100 re) (h2 : Bd 100 le) (h3 : Bd 100 bl) (h4 : Bd 5000000000 a) (h5 : Bd 5000000000 b) (h6 : Bd 5000000000 c) (h7 : Bd 5000000000 d) (h8 : Bd 8 w0) :
    Calls Tryd.prog 112 #[.agg #[(.int .i64 (re)), (.int .i64 (le)), (.int .i64 (bl)), (.int .i64 (ma)), (.int .i64 (st)), (.int .i64 (lo))], .agg #[(.int .i64 (a)), (.int .i64 (b))], .agg #[(.int .i64 (c)), (.int .i64 (d))], (.int .i64 (w0))] w
      fun r w' => r = .returned (.agg #[(.int .i64 (eRe re le bl a b c d w0)), (.int .i64 (eIm re le bl a b c d w0))]) ∧ Below w.heap.size w w' := by
  have q1 := h8.mul h2 (by omega)
  have q2 := h8.mul h3 (by omega)
  have q3 := q2.mul h3 (by omega)
  have p0 : Bd 1000 re := ⟨by have := h1.1; omega, by have := h1.2; omega⟩
  have p1 : Bd 1000 (w0 * le) := ⟨by have := q1.1; omega, by have := q1.2; omega⟩
  have z0 : Bd 80000 0 := ⟨by omega, by omega⟩
  have t1 := tRe_bd p0 p1 h4 h5 (by omega)
  have t2 := tIm_bd p0 p1 h4 h5 (by omega)
  have t3 := tRe_bd z0 q3 h6 h7 (by omega)
  have t4 := tIm_bd z0 q3 h6 h7 (by omega)
  unfold Bd at *
  obtain ⟨h11, h12⟩ := h1
  obtain ⟨h21, h22⟩ := h2
  obtain ⟨h31, h32⟩ := h3
  obtain ⟨h41, h42⟩ := h4
  obtain ⟨h51, h52⟩ := h5
  obtain ⟨h61, h62⟩ := h6
  obtain ⟨h71, h72⟩ := h7
  obtain ⟨h81, h82⟩ := h8
  obtain ⟨q11, q12⟩ := q1
  obtain ⟨q21, q22⟩ := q2
  obtain ⟨q31, q32⟩ := q3
  obtain ⟨t11, t12⟩ := t1
  obtain ⟨t21, t22⟩ := t2
  obtain ⟨t31, t32⟩ := t3
  obtain ⟨t41, t42⟩ := t4
  go_enter Tryd.func112, Tryd.ntmps112
  go_wp2
  refine Calm.tail_below 20 (by kernel_rfl) (by kernel_rfl) ?_
  simp only [List.take_succ_cons, List.take_zero, List.drop_succ_cons, List.drop_zero]
  repeat (first | (first | (apply Calm.op_move; (focus rfl); (focus (first | exact .inl rfl | exact .inr rfl)); (focus ((try simp only [Act.eval, Array.getD_eq_getD_getElem?, List.getElem?_toArray, List.getElem?_cons_succ, List.getElem?_cons_zero, Option.getD_some]); rfl)); (try simp only [Act.put, List.setIfInBounds_toArray, List.set_cons_zero, List.set_cons_succ])) | (apply Calm.op_not; (focus rfl); (try simp only [Act.put, List.setIfInBounds_toArray, List.set_cons_zero, List.set_cons_succ])) | (apply Calm.op; (focus rfl); (focus (intro W hb; obtain ⟨hc, hf⟩ := bcell hb; clear hb hf; go_simp; (try go_bits); (try rfl); done)); (try simp only [Act.put, List.setIfInBounds_toArray, List.set_cons_zero, List.set_cons_succ]))) | (apply Calm.op_call; (focus rfl); (focus (intro W hb; obtain ⟨hc, hf⟩ := bcell hb; clear hb hf; go_simp; refine ⟨?_, ?_⟩; rfl; rfl)); (focus (intro W hb; first | (go_at_call 85; exact Calm.call_below hb (number_any _ _ _)) | (go_at_call 111; exact Calm.call_below hb (times_any _ _ _ _ _ ⟨by omega, by omega⟩ ⟨by omega, by omega⟩ ⟨by omega, by omega⟩ ⟨by omega, by omega⟩)) | (go_at_call 110; exact Calm.call_below hb (plus_any _ _ _ _ _ ⟨by omega, by omega⟩ ⟨by omega, by omega⟩ ⟨by omega, by omega⟩ ⟨by omega, by omega⟩)))); (try simp only [Act.put, List.setIfInBounds_toArray, List.set_cons_zero, List.set_cons_succ])))
  refine wpQuiet_nil ?_
  intro w1 hb
  obtain ⟨hbc, hbf⟩ := bcell hb
  have hbz := hb.size
  (try simp at hbz)
  (try have hbz0 : w.heap.size < w1.heap.size := by omega)
  (try have hbz1 : w.heap.size + 1 < w1.heap.size := by omega)
  (try have hbz2 : w.heap.size + 1 + 1 < w1.heap.size := by omega)
  (try have hbz3 : w.heap.size + 1 + 1 + 1 < w1.heap.size := by omega)
  (try have hbz4 : w.heap.size + 1 + 1 + 1 + 1 < w1.heap.size := by omega)
  (try have hbz5 : w.heap.size + 1 + 1 + 1 + 1 + 1 < w1.heap.size := by omega)
  go_wp2
  exact bodyPost_ret (v := .agg #[(.int .i64 (eRe re le bl a b c d w0)), (.int .i64 (eIm re le bl a b c d w0))]) (by simp [results, Tryd.results112, go_sem, hbc, eRe, eIm]) rfl ⟨rfl, (((((((Below.refl _ _).alloc (Nat.le_refl _) _).alloc (by simp) _).alloc (by simp; omega) _).alloc (by simp; omega) _).trans (hb.mono (by simp; omega))).setCell (by simp; omega) _).setCell (by simp; omega) _⟩
end Go.Proofs.YtpkldjlljoledaaDoor

/- Contracts of package driver's quotients, for numbers in their ranges. -/
namespace Go.Proofs.YtpkldjlljoledaaDoor
open Go.RowKit
open Calm (bcell)

/-- the numbers of a driver (its stiffness may have that of a box besides) and a frequency are in their ranges. -/
structure Fit (re le bl ma st lo w : Int) : Prop where
  re : 1 ≤ re ∧ re ≤ 50
  le : 0 ≤ le ∧ le ≤ 10
  bl : 1 ≤ bl ∧ bl ≤ 20
  ma : 1 ≤ ma ∧ ma ≤ 100
  st : 1 ≤ st ∧ st ≤ 10000
  lo : 1 ≤ lo ∧ lo ≤ 100
  w : 1 ≤ w ∧ w ≤ 8

theorem mRe_bd {st ma w : Int} (h1 : 0 ≤ st ∧ st ≤ 10000) (h2 : 1 ≤ ma ∧ ma ≤ 100) (h3 : 1 ≤ w ∧ w ≤ 8) : Bd 20000 (mRe st ma w) := by
  have q : Bd 8 w := ⟨by omega, by omega⟩
  have q2 : Bd 100 ma := ⟨by omega, by omega⟩
  obtain ⟨e1, e2⟩ := (q.mul q (by omega)).mul q2 (by omega)
  unfold mRe
  constructor <;> omega
theorem mIm_bd {lo w : Int} (h2 : 1 ≤ lo ∧ lo ≤ 100) (h3 : 1 ≤ w ∧ w ≤ 8) : Bd 20000 (mIm lo w) := by
  have q : Bd 8 w := ⟨by omega, by omega⟩
  have q2 : Bd 100 lo := ⟨by omega, by omega⟩
  obtain ⟨e1, e2⟩ := q.mul q2 (by omega)
  unfold mIm
  constructor <;> omega
theorem eRe_bd {re le bl a b c d w M : Int} (h1 : 1 ≤ re ∧ re ≤ 50) (h2 : 0 ≤ le ∧ le ≤ 10) (h3 : 1 ≤ bl ∧ bl ≤ 20) (hw : 1 ≤ w ∧ w ≤ 8) (ha : Bd M a) (hb : Bd M b) (hc : Bd M c) (hd : Bd M d) (hM : 0 ≤ M) :
    Bd (6560 * M) (eRe re le bl a b c d w) ∧ Bd (6560 * M) (eIm re le bl a b c d w) := by
  have q : Bd 8 w := ⟨by omega, by omega⟩
  have q2 : Bd 10 le := ⟨by omega, by omega⟩
  have q3 : Bd 20 bl := ⟨by omega, by omega⟩
  have p1 := q.mul q2 (by omega)
  have p2 := (q.mul q3 (by omega)).mul q3 (by omega)
  have p0 : Bd 80 re := ⟨by omega, by omega⟩
  have p1' : Bd 80 (w * le) := ⟨by have := p1.1; omega, by have := p1.2; omega⟩
  have p2' : Bd 3200 (w * bl * bl) := ⟨by have := p2.1; omega, by have := p2.2; omega⟩
  have z0 : Bd 3200 0 := ⟨by omega, by omega⟩
  have t1 := tRe_bd p0 p1' ha hb (by omega)
  have t2 := tIm_bd p0 p1' ha hb (by omega)
  have t3 := tRe_bd z0 p2' hc hd (by omega)
  have t4 := tIm_bd z0 p2' hc hd (by omega)
  unfold Bd at *
  unfold eRe eIm pl
  omega

theorem mechanics_any (re le bl ma st lo w0 : Int) (w : World) (hF : Fit re le bl ma st lo w0) :
    Calls Tryd.prog 73 #[.agg #[(.int .i64 (re)), (.int .i64 (le)), (.int .i64 (bl)), (.int .i64 (ma)), (.int .i64 (st)), (.int .i64 (lo))], (.int .i64 (w0))] w fun r w' => r = .returned (.agg #[(.int .i64 (mRe st ma w0)), (.int .i64 (mIm lo w0))]) ∧ Below w.heap.size w w' := by
  obtain ⟨⟨g1, g2⟩, ⟨g3, g4⟩, ⟨g5, g6⟩, ⟨g7, g8⟩, ⟨g9, g10⟩, ⟨g11, g12⟩, ⟨g13, g14⟩⟩ := hF
  go_enter Tryd.func73, Tryd.ntmps73
  go_wp2_with (first | (go_at_call 108; refine (swing_any _ _ _ _ _ ⟨by omega, by omega⟩ ⟨by omega, by omega⟩ ⟨by omega, by omega⟩ ⟨by omega, by omega⟩).mono ?_; rintro r w1 ⟨rfl, hb⟩; obtain ⟨hc, hf⟩ := bcell hb; have hz := hb.size; (try simp at hz); (try have hz0 : w.heap.size < w1.heap.size := by omega); (try have hz1 : w.heap.size + 1 < w1.heap.size := by omega); (try have hz2 : w.heap.size + 1 + 1 < w1.heap.size := by omega); (try have hz3 : w.heap.size + 1 + 1 + 1 < w1.heap.size := by omega); (try have hz4 : w.heap.size + 1 + 1 + 1 + 1 < w1.heap.size := by omega); (try have hz5 : w.heap.size + 1 + 1 + 1 + 1 + 1 < w1.heap.size := by omega); (try have hz6 : w.heap.size + 1 + 1 + 1 + 1 + 1 + 1 < w1.heap.size := by omega)))
  exact bodyPost_ret (v := .agg #[(.int .i64 (mRe st ma w0)), (.int .i64 (mIm lo w0))]) (by simp [results, Tryd.results73, go_sem, hc]) rfl ⟨rfl, (((((Below.refl _ _).alloc (Nat.le_refl _) _).alloc (by simp) _).trans (hb.mono (by simp; omega))).setCell (by simp) _).setCell (by simp) _⟩

def nRe (re le bl ma st lo w : Int) : Int := eRe re le bl (mRe st ma w) (mIm lo w) 1 0 w
def nIm (re le bl ma st lo w : Int) : Int := eIm re le bl (mRe st ma w) (mIm lo w) 1 0 w
theorem Fit.mech {re le bl ma st lo w0 : Int} (hF : Fit re le bl ma st lo w0) : Bd 20000 (mRe st ma w0) ∧ Bd 20000 (mIm lo w0) :=
  ⟨mRe_bd ⟨by have := hF.st; omega, hF.st.2⟩ hF.ma hF.w, mIm_bd hF.lo hF.w⟩
theorem Fit.num {re le bl ma st lo w0 : Int} (hF : Fit re le bl ma st lo w0) : Bd 131200000 (nRe re le bl ma st lo w0) ∧ Bd 131200000 (nIm re le bl ma st lo w0) := by
  obtain ⟨e1, e2⟩ := hF.mech
  have := eRe_bd hF.re hF.le hF.bl hF.w e1 e2 ⟨by omega, by omega⟩ ⟨by omega, by omega⟩ (by omega) (c := 1) (d := 0)
  exact this

theorem numerator_any (re le bl ma st lo w0 : Int) (w : World) (hF : Fit re le bl ma st lo w0) :
    Calls Tryd.prog 109 #[.agg #[(.int .i64 (re)), (.int .i64 (le)), (.int .i64 (bl)), (.int .i64 (ma)), (.int .i64 (st)), (.int .i64 (lo))], (.int .i64 (w0))] w fun r w' => r = .returned (.agg #[(.int .i64 (nRe re le bl ma st lo w0)), (.int .i64 (nIm re le bl ma st lo w0))]) ∧ Below w.heap.size w w' := by
  obtain ⟨⟨m1, m2⟩, ⟨m3, m4⟩⟩ := hF.mech
  obtain ⟨⟨g1, g2⟩, ⟨g3, g4⟩, ⟨g5, g6⟩, ⟨g7, g8⟩, ⟨g9, g10⟩, ⟨g11, g12⟩, ⟨g13, g14⟩⟩ := id hF
  go_enter Tryd.func109, Tryd.ntmps109
  go_wp2
  refine Calm.tail_below 7 (by kernel_rfl) (by kernel_rfl) ?_
  simp only [List.take_succ_cons, List.take_zero, List.drop_succ_cons, List.drop_zero]
  repeat (first | (first | (apply Calm.op_move; (focus rfl); (focus (first | exact .inl rfl | exact .inr rfl)); (focus ((try simp only [Act.eval, Array.getD_eq_getD_getElem?, List.getElem?_toArray, List.getElem?_cons_succ, List.getElem?_cons_zero, Option.getD_some]); rfl)); (try simp only [Act.put, List.setIfInBounds_toArray, List.set_cons_zero, List.set_cons_succ])) | (apply Calm.op_not; (focus rfl); (try simp only [Act.put, List.setIfInBounds_toArray, List.set_cons_zero, List.set_cons_succ])) | (apply Calm.op; (focus rfl); (focus (intro W hb; obtain ⟨hc, hf⟩ := bcell hb; clear hb hf; go_simp; (try go_bits); (try rfl); done)); (try simp only [Act.put, List.setIfInBounds_toArray, List.set_cons_zero, List.set_cons_succ]))) | (apply Calm.op_call; (focus rfl); (focus (intro W hb; obtain ⟨hc, hf⟩ := bcell hb; clear hb hf; go_simp; refine ⟨?_, ?_⟩; rfl; rfl)); (focus (intro W hb; first | (go_at_call 85; exact Calm.call_below hb (number_any _ _ _)) | (go_at_call 73; exact Calm.call_below hb (mechanics_any _ _ _ _ _ _ _ _ hF)) | (go_at_call 112; exact Calm.call_below hb (electric_any _ _ _ _ _ _ _ _ _ _ _ _ ⟨by omega, by omega⟩ ⟨by omega, by omega⟩ ⟨by omega, by omega⟩ ⟨by omega, by omega⟩ ⟨by omega, by omega⟩ ⟨by omega, by omega⟩ ⟨by omega, by omega⟩ ⟨by omega, by omega⟩)))); (try simp only [Act.put, List.setIfInBounds_toArray, List.set_cons_zero, List.set_cons_succ])))
  refine wpQuiet_nil ?_
  intro w1 hb
  obtain ⟨hbc, hbf⟩ := bcell hb
  have hbz := hb.size
  (try simp at hbz)
  (try have hbz0 : w.heap.size < w1.heap.size := by omega)
  (try have hbz1 : w.heap.size + 1 < w1.heap.size := by omega)
  (try have hbz2 : w.heap.size + 1 + 1 < w1.heap.size := by omega)
  (try have hbz3 : w.heap.size + 1 + 1 + 1 < w1.heap.size := by omega)
  (try have hbz4 : w.heap.size + 1 + 1 + 1 + 1 < w1.heap.size := by omega)
  (try have hbz5 : w.heap.size + 1 + 1 + 1 + 1 + 1 < w1.heap.size := by omega)
  go_wp2
  exact bodyPost_ret (v := .agg #[(.int .i64 (nRe re le bl ma st lo w0)), (.int .i64 (nIm re le bl ma st lo w0))]) (by simp [results, Tryd.results109, go_sem, hbc, nRe, nIm]) rfl ⟨rfl, (((((Below.refl _ _).alloc (Nat.le_refl _) _).alloc (by simp) _).trans (hb.mono (by simp; omega))).setCell (by simp) _).setCell (by simp) _⟩

theorem impedance_any (re le bl ma st lo w0 : Int) (w : World) (hF : Fit re le bl ma st lo w0) :
    Calls Tryd.prog 75 #[.agg #[(.int .i64 (re)), (.int .i64 (le)), (.int .i64 (bl)), (.int .i64 (ma)), (.int .i64 (st)), (.int .i64 (lo))], (.int .i64 (w0))] w
      fun r w' => r = .returned (.agg #[(.int .i64 (nRe re le bl ma st lo w0)), (.int .i64 (nIm re le bl ma st lo w0)), (.int .i64 (mRe st ma w0)), (.int .i64 (mIm lo w0))]) ∧ Below w.heap.size w w' := by
  go_enter Tryd.func75, Tryd.ntmps75
  go_wp2
  refine Calm.tail_below 7 (by kernel_rfl) (by kernel_rfl) ?_
  simp only [List.take_succ_cons, List.take_zero, List.drop_succ_cons, List.drop_zero]
  repeat (first | (first | (apply Calm.op_move; (focus rfl); (focus (first | exact .inl rfl | exact .inr rfl)); (focus ((try simp only [Act.eval, Array.getD_eq_getD_getElem?, List.getElem?_toArray, List.getElem?_cons_succ, List.getElem?_cons_zero, Option.getD_some]); rfl)); (try simp only [Act.put, List.setIfInBounds_toArray, List.set_cons_zero, List.set_cons_succ])) | (apply Calm.op_not; (focus rfl); (try simp only [Act.put, List.setIfInBounds_toArray, List.set_cons_zero, List.set_cons_succ])) | (apply Calm.op; (focus rfl); (focus (intro W hb; obtain ⟨hc, hf⟩ := bcell hb; clear hb hf; go_simp; (try go_bits); (try rfl); done)); (try simp only [Act.put, List.setIfInBounds_toArray, List.set_cons_zero, List.set_cons_succ]))) | (apply Calm.op_call; (focus rfl); (focus (intro W hb; obtain ⟨hc, hf⟩ := bcell hb; clear hb hf; go_simp; refine ⟨?_, ?_⟩; rfl; rfl)); (focus (intro W hb; first | (go_at_call 109; exact Calm.call_below hb (numerator_any _ _ _ _ _ _ _ _ hF)) | (go_at_call 73; exact Calm.call_below hb (mechanics_any _ _ _ _ _ _ _ _ hF)))); (try simp only [Act.put, List.setIfInBounds_toArray, List.set_cons_zero, List.set_cons_succ])))
  refine wpQuiet_nil ?_
  intro w1 hb
  obtain ⟨hbc, hbf⟩ := bcell hb
  have hbz := hb.size
  (try simp at hbz)
  (try have hbz0 : w.heap.size < w1.heap.size := by omega)
  (try have hbz1 : w.heap.size + 1 < w1.heap.size := by omega)
  (try have hbz2 : w.heap.size + 1 + 1 < w1.heap.size := by omega)
  (try have hbz3 : w.heap.size + 1 + 1 + 1 < w1.heap.size := by omega)
  (try have hbz4 : w.heap.size + 1 + 1 + 1 + 1 < w1.heap.size := by omega)
  (try have hbz5 : w.heap.size + 1 + 1 + 1 + 1 + 1 < w1.heap.size := by omega)
  go_wp2
  exact bodyPost_ret (v := .agg #[(.int .i64 (nRe re le bl ma st lo w0)), (.int .i64 (nIm re le bl ma st lo w0)), (.int .i64 (mRe st ma w0)), (.int .i64 (mIm lo w0))]) (by simp [results, Tryd.results75, go_sem, hbc]) rfl
    ⟨rfl, (((((((Below.refl _ _).alloc (Nat.le_refl _) _).alloc (by simp) _).trans (hb.mono (by simp; omega))).setCell (by simp) _).setCell (by simp) _).setCell (by simp) _).setCell (by simp) _⟩
theorem excursion_any (re le bl ma st lo w0 : Int) (w : World) (hF : Fit re le bl ma st lo w0) :
    Calls Tryd.prog 76 #[.agg #[(.int .i64 (re)), (.int .i64 (le)), (.int .i64 (bl)), (.int .i64 (ma)), (.int .i64 (st)), (.int .i64 (lo))], (.int .i64 (w0))] w
      fun r w' => r = .returned (.agg #[(.int .i64 (bl)), (.int .i64 (0)), (.int .i64 (nRe re le bl ma st lo w0)), (.int .i64 (nIm re le bl ma st lo w0))]) ∧ Below w.heap.size w w' := by
  go_enter Tryd.func76, Tryd.ntmps76
  go_wp2
  refine Calm.tail_below 7 (by kernel_rfl) (by kernel_rfl) ?_
  simp only [List.take_succ_cons, List.take_zero, List.drop_succ_cons, List.drop_zero]
  repeat (first | (first | (apply Calm.op_move; (focus rfl); (focus (first | exact .inl rfl | exact .inr rfl)); (focus ((try simp only [Act.eval, Array.getD_eq_getD_getElem?, List.getElem?_toArray, List.getElem?_cons_succ, List.getElem?_cons_zero, Option.getD_some]); rfl)); (try simp only [Act.put, List.setIfInBounds_toArray, List.set_cons_zero, List.set_cons_succ])) | (apply Calm.op_not; (focus rfl); (try simp only [Act.put, List.setIfInBounds_toArray, List.set_cons_zero, List.set_cons_succ])) | (apply Calm.op; (focus rfl); (focus (intro W hb; obtain ⟨hc, hf⟩ := bcell hb; clear hb hf; go_simp; (try go_bits); (try rfl); done)); (try simp only [Act.put, List.setIfInBounds_toArray, List.set_cons_zero, List.set_cons_succ]))) | (apply Calm.op_call; (focus rfl); (focus (intro W hb; obtain ⟨hc, hf⟩ := bcell hb; clear hb hf; go_simp; refine ⟨?_, ?_⟩; rfl; rfl)); (focus (intro W hb; first | (go_at_call 85; exact Calm.call_below hb (number_any _ _ _)) | (go_at_call 109; exact Calm.call_below hb (numerator_any _ _ _ _ _ _ _ _ hF)))); (try simp only [Act.put, List.setIfInBounds_toArray, List.set_cons_zero, List.set_cons_succ])))
  refine wpQuiet_nil ?_
  intro w1 hb
  obtain ⟨hbc, hbf⟩ := bcell hb
  have hbz := hb.size
  (try simp at hbz)
  (try have hbz0 : w.heap.size < w1.heap.size := by omega)
  (try have hbz1 : w.heap.size + 1 < w1.heap.size := by omega)
  (try have hbz2 : w.heap.size + 1 + 1 < w1.heap.size := by omega)
  (try have hbz3 : w.heap.size + 1 + 1 + 1 < w1.heap.size := by omega)
  (try have hbz4 : w.heap.size + 1 + 1 + 1 + 1 < w1.heap.size := by omega)
  (try have hbz5 : w.heap.size + 1 + 1 + 1 + 1 + 1 < w1.heap.size := by omega)
  go_wp2
  exact bodyPost_ret (v := .agg #[(.int .i64 (bl)), (.int .i64 (0)), (.int .i64 (nRe re le bl ma st lo w0)), (.int .i64 (nIm re le bl ma st lo w0))]) (by simp [results, Tryd.results76, go_sem, hbc]) rfl
    ⟨rfl, (((((((Below.refl _ _).alloc (Nat.le_refl _) _).alloc (by simp) _).trans (hb.mono (by simp; omega))).setCell (by simp) _).setCell (by simp) _).setCell (by simp) _).setCell (by simp) _⟩
def oRe (bl w : Int) : Int := -w * w * bl
theorem output_any (re le bl ma st lo w0 : Int) (w : World) (hF : Fit re le bl ma st lo w0) :
    Calls Tryd.prog 77 #[.agg #[(.int .i64 (re)), (.int .i64 (le)), (.int .i64 (bl)), (.int .i64 (ma)), (.int .i64 (st)), (.int .i64 (lo))], (.int .i64 (w0))] w
      fun r w' => r = .returned (.agg #[(.int .i64 (oRe bl w0)), (.int .i64 (0)), (.int .i64 (nRe re le bl ma st lo w0)), (.int .i64 (nIm re le bl ma st lo w0))]) ∧ Below w.heap.size w w' := by
  have q : Bd 8 (-w0) := ⟨by have := hF.w; omega, by have := hF.w; omega⟩
  have q' : Bd 8 w0 := ⟨by have := hF.w; omega, by have := hF.w; omega⟩
  have q2 : Bd 20 bl := ⟨by have := hF.bl; omega, by have := hF.bl; omega⟩
  obtain ⟨e1, e2⟩ := q.mul q' (by omega)
  obtain ⟨e3, e4⟩ := (q.mul q' (by omega)).mul q2 (by omega)
  obtain ⟨q1, q2⟩ := q
  obtain ⟨q3, q4⟩ := q'
  go_enter Tryd.func77, Tryd.ntmps77
  go_wp2
  refine Calm.tail_below 12 (by kernel_rfl) (by kernel_rfl) ?_
  simp only [List.take_succ_cons, List.take_zero, List.drop_succ_cons, List.drop_zero]
  repeat (first | (first | (apply Calm.op_move; (focus rfl); (focus (first | exact .inl rfl | exact .inr rfl)); (focus ((try simp only [Act.eval, Array.getD_eq_getD_getElem?, List.getElem?_toArray, List.getElem?_cons_succ, List.getElem?_cons_zero, Option.getD_some]); rfl)); (try simp only [Act.put, List.setIfInBounds_toArray, List.set_cons_zero, List.set_cons_succ])) | (apply Calm.op_not; (focus rfl); (try simp only [Act.put, List.setIfInBounds_toArray, List.set_cons_zero, List.set_cons_succ])) | (apply Calm.op; (focus rfl); (focus (intro W hb; obtain ⟨hc, hf⟩ := bcell hb; clear hb hf; go_simp; (try go_bits); (try rfl); done)); (try simp only [Act.put, List.setIfInBounds_toArray, List.set_cons_zero, List.set_cons_succ]))) | (apply Calm.op_call; (focus rfl); (focus (intro W hb; obtain ⟨hc, hf⟩ := bcell hb; clear hb hf; go_simp; refine ⟨?_, ?_⟩; rfl; rfl)); (focus (intro W hb; first | (go_at_call 85; exact Calm.call_below hb (number_any _ _ _)) | (go_at_call 109; exact Calm.call_below hb (numerator_any _ _ _ _ _ _ _ _ hF)))); (try simp only [Act.put, List.setIfInBounds_toArray, List.set_cons_zero, List.set_cons_succ])))
  refine wpQuiet_nil ?_
  intro w1 hb
  obtain ⟨hbc, hbf⟩ := bcell hb
  have hbz := hb.size
  (try simp at hbz)
  (try have hbz0 : w.heap.size < w1.heap.size := by omega)
  (try have hbz1 : w.heap.size + 1 < w1.heap.size := by omega)
  (try have hbz2 : w.heap.size + 1 + 1 < w1.heap.size := by omega)
  (try have hbz3 : w.heap.size + 1 + 1 + 1 < w1.heap.size := by omega)
  (try have hbz4 : w.heap.size + 1 + 1 + 1 + 1 < w1.heap.size := by omega)
  (try have hbz5 : w.heap.size + 1 + 1 + 1 + 1 + 1 < w1.heap.size := by omega)
  go_wp2
  exact bodyPost_ret (v := .agg #[(.int .i64 (oRe bl w0)), (.int .i64 (0)), (.int .i64 (nRe re le bl ma st lo w0)), (.int .i64 (nIm re le bl ma st lo w0))]) (by simp [results, Tryd.results77, go_sem, hbc, oRe]) rfl
    ⟨rfl, (((((((Below.refl _ _).alloc (Nat.le_refl _) _).alloc (by simp) _).trans (hb.mono (by simp; omega))).setCell (by simp) _).setCell (by simp) _).setCell (by simp) _).setCell (by simp) _⟩

theorem stiffer_any (re le bl ma st lo k : Int) (w : World) (h1 : Bd 100000 st) (h2 : Bd 100000 k) :
    Calls Tryd.prog 82 #[.agg #[(.int .i64 (re)), (.int .i64 (le)), (.int .i64 (bl)), (.int .i64 (ma)), (.int .i64 (st)), (.int .i64 (lo))], (.int .i64 (k))] w fun r w' => r = .returned (.agg #[(.int .i64 (re)), (.int .i64 (le)), (.int .i64 (bl)), (.int .i64 (ma)), (.int .i64 (st + k)), (.int .i64 (lo))]) ∧ Below w.heap.size w w' := by
  obtain ⟨g1, g2⟩ := h1
  obtain ⟨g3, g4⟩ := h2
  go_enter Tryd.func82, Tryd.ntmps82
  go_wp2
  refine bodyPost_ret (v := .agg #[(.int .i64 (re)), (.int .i64 (le)), (.int .i64 (bl)), (.int .i64 (ma)), (.int .i64 (st + k)), (.int .i64 (lo))]) (by simp [results, Tryd.results82, go_sem]) rfl ⟨rfl, ?_⟩
  repeat (first | exact (Below.refl _ _) | refine Below.setCell ?_ (by simp) _ | refine Below.alloc ?_ (by simp) _)

theorem scaled_any (n a b : Int) (w : World) (h1 : Bd 100000 n) (h2 : Bd 100000000000 a) (h3 : Bd 100000000000 b) :
    Calls Tryd.prog 84 #[(.int .i64 (n)), .agg #[(.int .i64 (a)), (.int .i64 (b))]] w fun r w' => r = .returned (.agg #[(.int .i64 (n * a)), (.int .i64 (n * b))]) ∧ Below w.heap.size w w' := by
  obtain ⟨e1, e2⟩ := h1.mul h2 (by omega)
  obtain ⟨e3, e4⟩ := h1.mul h3 (by omega)
  go_enter Tryd.func84, Tryd.ntmps84
  go_wp2_with (first | (go_at_call 85; refine (number_any _ _ _).mono ?_; rintro r w1 ⟨rfl, hb⟩; obtain ⟨hc, hf⟩ := bcell hb; have hz := hb.size; (try simp at hz); (try have hz0 : w.heap.size < w1.heap.size := by omega); (try have hz1 : w.heap.size + 1 < w1.heap.size := by omega); (try have hz2 : w.heap.size + 1 + 1 < w1.heap.size := by omega); (try have hz3 : w.heap.size + 1 + 1 + 1 < w1.heap.size := by omega); (try have hz4 : w.heap.size + 1 + 1 + 1 + 1 < w1.heap.size := by omega); (try have hz5 : w.heap.size + 1 + 1 + 1 + 1 + 1 < w1.heap.size := by omega); (try have hz6 : w.heap.size + 1 + 1 + 1 + 1 + 1 + 1 < w1.heap.size := by omega)))
  refine bodyPost_ret (v := .agg #[(.int .i64 (n * a)), (.int .i64 (n * b))]) (by simp [results, Tryd.results84, go_sem, hc]) rfl ⟨rfl, ?_⟩
  exact ((((Below.refl _ _).alloc (Nat.le_refl _) _).alloc (by simp) _).trans (hb.mono (by simp; omega))).setCell (by simp) _ |>.setCell (by simp) _

theorem numbers_any (re le bl ma st lo : Int) (w : World) :
    Calls Tryd.prog 79 #[.agg #[(.int .i64 (re)), (.int .i64 (le)), (.int .i64 (bl)), (.int .i64 (ma)), (.int .i64 (st)), (.int .i64 (lo))]] w fun r w' => r = .returned (.agg #[(.int .i64 (re)), (.int .i64 (le)), (.int .i64 (bl)), (.int .i64 (ma)), (.int .i64 (st)), (.int .i64 (lo))]) ∧ Below w.heap.size w w' := by
  go_enter Tryd.func79, Tryd.ntmps79
  go_wp2
  refine bodyPost_ret (v := .agg #[(.int .i64 (re)), (.int .i64 (le)), (.int .i64 (bl)), (.int .i64 (ma)), (.int .i64 (st)), (.int .i64 (lo))]) (by simp [results, Tryd.results79, go_sem]) rfl ⟨rfl, ?_⟩
  repeat (first | exact (Below.refl _ _) | refine Below.setCell ?_ (by simp) _ | refine Below.alloc ?_ (by simp) _)
end Go.Proofs.YtpkldjlljoledaaDoor
