/- Part 1 of the texts of the claim: Calm, Rel, Rel2, Rel3, Calm2, Opn, P1, P2. -/
import Derived.StillTail
import Derived.Deep.Quiet
import Derived.Below
import Derived.OneCell
import Derived.WalkKit
import Derived.ArgAppend
import Derived.Test.YtamldoidalnloaaGreatDoorRows
import Derived.WalkSpells
import Derived.WalkLawsBesides
import Derived.Lib.Hide
import Derived.BigQuiet
import Derived.Deep.OwnRows
import Derived.Laws.CopyOwn

/- Regions whose order is open, and whose operations, but for a forced tail, each have one value in every world of a class: one walk in the order of the text serves. No program. -/
namespace Go.Proofs.YtamldoidalnloaaGreatDoor.Calm
open Go.RowKit

section
variable {P : Program} {ops : Array Oper} {md : Region.Mode} {C : World → Prop}

/-- The head of a region in any order, then L. -/
def head (P : Program) (md : Region.Mode) (ops : Array Oper) (C : World → Prop) (n : Nat) (L : Array Bool → Act → Prop) : Nat → Array Bool → Act → Prop
  | 0, listed, a => L listed a
  | f + 1, listed, a => Region.ready md ops listed ≠ [] ∧ ∀ i ∈ Region.ready md ops listed, i < n ∧ qOp P ops C i (head P md ops C n L f (listed.setIfInBounds i true)) a

theorem any_of_head {n g : Nat} {L : Array Bool → Act → Prop} {Q' : Exit → Act → World → Prop} (hL : ∀ listed a w, C w → L listed a → wpAny P md ops Q' g listed a w) :
    ∀ (f : Nat) (listed : Array Bool) (a : Act) (w : World), C w → head P md ops C n L f listed a → wpAny P md ops Q' (f + g) listed a w
  | 0, listed, a, w, hw, h => by rw [Nat.zero_add]; exact hL _ _ _ hw h
  | f + 1, listed, a, w, hw, h => by
    rw [show f + 1 + g = (f + g) + 1 by omega]
    exact ⟨fun h0 => absurd h0 h.1, fun i hi => wpOp_of_qOp hw (fun a' w' hw' h' => any_of_head hL f _ a' w' hw' h') (h.2 i hi).2⟩

theorem head_first {n i : Nat} {oi : Oper} {v : Value} {L : Array Bool → Act → Prop} (hi : ops[i]? = some oi) (hsel : ∀ (j : Nat) (o : Oper) cs b, ops[j]? = some o → o.op ≠ .select cs b)
    (hs : Region.sinkB md ops n = true) (hc : Region.chainB md ops n = true) (hn : n < ops.size) (hin : i < n)
    (hdone : ∀ listed a, L listed a → ∀ j ∈ Region.ready md ops listed, n ≤ j) :
    ∀ (f : Nat) (listed : Array Bool) (a : Act), HeadInv md ops n listed →
      (∀ j oj, ops[j]? = some oj → j ≠ i → listed.getD j true = false → (∀ e ∈ oj.after, Region.binds md e = true → e.on ≠ i) → oi.apart ops oj = true) →
      i ∈ Region.ready md ops listed → YieldsIn P ops C oi v a →
      head P md ops C n L f (listed.setIfInBounds i true) (a.put oi.dst v) → head P md ops C n L (f + 1) listed a := by
  have below : ∀ (listed : Array Bool), HeadInv md ops n listed → listed.getD i true = false → ∀ j ∈ Region.ready md ops listed, j < n := by
    intro listed inv hun j hj
    rcases Nat.lt_or_ge j n with h | h
    · exact h
    · exact absurd hj (tail_waits hs hc hn inv _ i rfl hin hun j h)
  intro f
  induction f with
  | zero =>
    intro listed a inv _ hr hy H
    have hun := (mem_ready.1 hr).1
    refine ⟨fun h => (by rw [h] at hr; cases hr), fun j hj => ⟨below listed inv hun j hj, ?_⟩⟩
    by_cases hji : j = i
    · subst hji; exact hy.qOp hi H
    · have h1 := hdone _ _ H j (ready_mono hj hji)
      have h2 := below listed inv hun j hj
      omega
  | succ f ih =>
    intro listed a inv hfree hr hy H
    have hun := (mem_ready.1 hr).1
    refine ⟨fun h => (by rw [h] at hr; cases hr), fun j hj => ⟨below listed inv hun j hj, ?_⟩⟩
    have hjn := below listed inv hun j hj
    by_cases hji : j = i
    · subst hji; exact hy.qOp hi H
    · have h1 := (H.2 j (ready_mono hj hji)).2
      obtain ⟨hjun, oj, hoj, hall⟩ := mem_ready.1 hj
      have hnot : ∀ e ∈ oj.after, Region.binds md e = true → e.on ≠ i := fun e he hb heq => by
        have h3 := hall e he hb
        rw [heq, getD_both hun] at h3
        cases h3
      have h2 := qOp_put hoj (hfree j oj hoj hji hjun hnot) (fun cs b => hsel i oi cs b hi) (fun cs b => hsel j oj cs b hoj) hy h1
      refine qOp_mono (fun a' h3 => ih (listed.setIfInBounds j true) a' (inv.set hj hjn) ?_ (ready_mono hr (Ne.symm hji)) h3.1 ?_) h2
      · intro k ok hk hki hun' hno
        refine hfree k ok hk hki ?_ hno
        by_cases hjk : j = k
        · subst hjk; exact hjun
        · rw [getD_set_ne true hjk] at hun'; exact hun'
      · rw [Array.setIfInBounds_comm _ _ hji]
        exact h3.2

theorem head_lex {n g : Nat} {Lq : Act → Prop} (hsel : Region.noSelect ops = true) (hs : Region.sinkB md ops n = true) (hc : Region.chainB md ops n = true) (hn : n < ops.size) :
    ∀ (l : List Oper) (k : Nat) (listed : Array Bool) (a : Act), (∀ j, j < l.length → l[j]? = ops[k + j]?) → k + l.length = n → HeadInv md ops n listed →
    Region.lexHead md ops g l.length k listed = true → wpQuiet P ops C Lq l a →
    head P md ops C n (fun listed' a' => Region.seqB md ops g n listed' = true ∧ Lq a') l.length listed a
  | [], k, listed, a, _, hk, _, hB, h => by
    have : k = n := by simpa using hk
    subst this
    exact ⟨by simpa [Region.lexHead] using hB, h⟩
  | o :: l, k, listed, a, hl, hk, inv, hB, h => by
    have h0 : ops[k]? = some o := by simpa using (hl 0 (by simp)).symm
    simp only [List.length_cons, Region.lexHead, Bool.and_eq_true] at hB
    obtain ⟨⟨hr, hf⟩, hB'⟩ := hB
    have hkn : k < n := by simp only [List.length_cons] at hk; omega
    have hr' : k ∈ Region.ready md ops listed := by simpa using hr
    have hst : qOp P ops C k (wpQuiet P ops C Lq l) a := by unfold qOp; simp only [h0]; exact h
    obtain ⟨v, hy, hK⟩ := yieldsIn_of_qOp h0 hst
    exact head_first h0 (Region.noSelect_spec hsel) hs hc hn hkn (fun listed' a' hL => seqB_ready hL.1) l.length listed a inv (Region.free_spec h0 hf) hr' hy
      (head_lex hsel hs hc hn l (k + 1) _ _ (fun j hj => by have := hl (j + 1) (by simp; omega); simpa [Nat.add_assoc, Nat.add_comm 1 j] using this) (by simp only [List.length_cons] at hk; omega) (inv.set hr' hkn) hB' hK)

/-- A REGION THAT DRAWS ITS ORDER: n operations that each have one value in every world of the class, then a tail whose order is forced. -/
theorem region_tail_w {Q : Exit → Act → World → Prop} {a : Act} {w : World} {l : List Oper} (n : Nat) (hB : Region.lexTailB .any l.toArray n = true)
    (C : World → Prop) (hC : C { w with drawn := w.drawn + 1 })
    (h : wpQuiet P l.toArray C (fun a' => ∀ w', C w' → wpList P l.toArray Q (l.drop n) a' w') (l.take n) a) : wpAny P .any l.toArray Q l.toArray.size (Array.replicate l.toArray.size false) a { w with drawn := w.drawn + 1 } := by
  simp only [Region.lexTailB, Bool.and_eq_true, decide_eq_true_eq] at hB
  obtain ⟨⟨⟨⟨hsel, hn⟩, hs⟩, hc⟩, hlex⟩ := hB
  have hn' : n < l.length := by simpa using hn
  have htl : (l.take n).length = n := by simp; omega
  have hdl : (l.drop n).length = l.toArray.size - n := by simp
  have inv0 : HeadInv .any l.toArray n (Array.replicate l.toArray.size false) :=
    ⟨by simp, fun j oj _ hl => (by rw [getD_replicate_false] at hl; cases hl), fun t _ ht => getD_in (by simpa using ht) (getD_replicate_false _ _)⟩
  have H := head_lex (md := .any) (g := l.toArray.size - n) hsel hs hc hn (l.take n) 0 _ a (fun j hj => by
    have hj' : j < n := by rw [htl] at hj; exact hj
    simp [hj']) (by simpa using htl) inv0 (by rw [htl]; exact hlex) h
  have := any_of_head (Q' := Q) (g := l.toArray.size - n) (fun listed a' w' hw' hL => by
    have := wpAny_of_seq (md := .any) (Q' := Q) (l.drop n) n listed a' w' (fun j => by simp [List.getElem?_drop]) (by rw [hdl]; exact hL.1) (hL.2 w' hw')
    rwa [hdl] at this) _ _ _ _ hC H
  rw [htl, show n + (l.toArray.size - n) = l.toArray.size by omega] at this
  exact this
theorem region_tail {id : Nat} {Q : Exit → Act → World → Prop} {a : Act} {w : World} {l : List Oper} (n : Nat) (hm : P.follows .mixedOrders = true) (hB : Region.lexTailB .any l.toArray n = true)
    (C : World → Prop) (hC : C { w with drawn := w.drawn + 1 })
    (h : wpQuiet P l.toArray C (fun a' => ∀ w', C w' → wpList P l.toArray Q (l.drop n) a' w') (l.take n) a) : (Code.region id l.toArray true).wp P Q a w := wp_region_any hm (region_tail_w n hB C hC h)
/-- One operation that is carried out, and yields v in every world of the class. -/
theorem op {Q : Act → Prop} {a : Act} {o : Oper} {rest : List Oper} (v : Value) (hw : Region.wanted o (yielded ops a.tmps) = true) (h : ∀ w, C w → (execOp a.eval o).run P w = .ok (.value v) w)
    (hn : wpQuiet P ops C Q rest (a.put o.dst v)) : wpQuiet P ops C Q (o :: rest) a := by
  unfold wpQuiet
  rw [if_pos hw]
  exact ⟨v, fun w hc => by unfold Oper.quietAt; rw [h w hc]; exact ⟨rfl, rfl⟩, hn⟩
/-- A copy. -/
theorem op_move {Q : Act → Prop} {a : Act} {o : Oper} {rest : List Oper} (v : Value) (x : Operand) (hw : Region.wanted o (yielded ops a.tmps) = true) (ho : o.op = .move x ∨ o.op = .assign x) (hv : a.eval x = v)
    (hn : wpQuiet P ops C Q rest (a.put o.dst v)) : wpQuiet P ops C Q (o :: rest) a := by
  refine op v hw (fun w _ => ?_) hn
  unfold execOp
  rcases ho with ho | ho <;> simp [ho, hv]
theorem below_drawn (w : World) : Below w.heap.size w { w with drawn := w.drawn + 1 } := (Below.refl w.heap.size w).drew
/-- The class 'all that lay when the region began is as it was'. -/
theorem tail_below {id : Nat} {Q : Exit → Act → World → Prop} {a : Act} {w : World} {l : List Oper} (n : Nat) (hm : P.follows .mixedOrders = true) (hB : Region.lexTailB .any l.toArray n = true)
    (h : wpQuiet P l.toArray (fun W => Below w.heap.size w W) (fun a' => ∀ w', Below w.heap.size w w' → wpList P l.toArray Q (l.drop n) a' w') (l.take n) a) : (Code.region id l.toArray true).wp P Q a w :=
  region_tail n hm hB _ (below_drawn w) h
end
theorem bcell {W w1 : World} (hb : Below W.heap.size W w1) : (∀ b o, b < W.heap.size → w1.cell? ⟨b, o, none⟩ = W.cell? ⟨b, o, none⟩) ∧ (∀ b o, b < W.heap.size → w1.frozen? ⟨b, o, none⟩ = W.frozen? ⟨b, o, none⟩) :=
  ⟨fun b o h => hb.cell (p := ⟨b, o, none⟩) h, fun b o h => hb.frozen (p := ⟨b, o, none⟩) h⟩
/-- Block g holds just these cells, none of them frozen. -/
structure Blk (w : World) (g : Nat) (cs : Array Value) : Prop where
  lt : g < w.heap.size
  c : ∀ i, w.cell? ⟨g, i, none⟩ = cs[i]?
  f : ∀ i, w.frozen? ⟨g, i, none⟩ = false
theorem Blk.new (w : World) (t : TypeId) (cs : Array Value) : Blk (w.alloc (.cells cs t)) w.heap.size cs :=
  ⟨by simp, fun i => cell_of_row _ _ i cs t (0, 0) (heap_alloc_new w _), fun i => by unfold World.frozen?; rw [heap_alloc_new]; simp⟩
theorem Blk.at_ {w : World} {t : TypeId} {cs : Array Value} {g : Nat} (h : g = w.heap.size) : Blk (w.alloc (.cells cs t)) g cs := h ▸ Blk.new w t cs
theorem Blk.below {w w' : World} {g : Nat} {cs : Array Value} (h : Blk w g cs) (hb : Below w.heap.size w w') : Blk w' g cs :=
  ⟨Nat.lt_of_lt_of_le h.lt hb.size, fun i => (hb.cell (p := ⟨g, i, none⟩) h.lt).trans (h.c i), fun i => (hb.frozen (p := ⟨g, i, none⟩) h.lt).trans (h.f i)⟩
theorem Blk.alloc {w : World} {g : Nat} {cs : Array Value} (h : Blk w g cs) (o : Obj) : Blk (w.alloc o) g cs :=
  h.below ((Below.refl _ _).alloc (Nat.le_refl _) o)
theorem Blk.far {w : World} {g : Nat} {cs : Array Value} (h : Blk w g cs) {p : Addr} (hp : p.block ≠ g) (v : Value) : Blk (w.setCell p v) g cs := by
  have hne : ∀ i, p ≠ ⟨g, i, none⟩ := fun i e => hp (by rw [e])
  exact ⟨by simpa using h.lt, fun i => (World.cell?_setCell_other w p ⟨g, i, none⟩ v (hne i)).trans (h.c i), fun i => by rw [World.frozen?_setCell]; exact h.f i⟩
theorem Blk.cell {w : World} {g : Nat} {cs : Array Value} (h : Blk w g cs) (i : Nat) (v : Value) (hv : cs[i]? = some v) : w.cell? ⟨g, i, none⟩ = some v := (h.c i).trans hv
end Go.Proofs.YtamldoidalnloaaGreatDoor.Calm

/- Regions whose order is open, and whose head makes memory: each operation leaves a value of which something is known, whatever else has come up; then a forced tail. No program. -/
namespace Go.Proofs.YtamldoidalnloaaGreatDoor.Rel
open Go.RowKit

/-- What is known of a value in a world. -/
abbrev Know := Value → World → Prop
/-- .. and stays known when only new memory turns. -/
def Stable (R : Know) : Prop := ∀ v W W', R v W → Below W.heap.size W W' → R v W'

section
variable {P : Program} {ops : Array Oper}

def dst (ops : Array Oper) (j : Nat) : Option Tmp := (ops[j]?).bind (·.dst)

/-- The values of the operations that have come up, in their slots. -/
def puts (ops : Array Oper) (x : Nat → Value) (p : Nat → Bool) : List Nat → Act → Act
  | [], a => a
  | j :: L, a => puts ops x p L (if p j then a.put (dst ops j) (x j) else a)

def upd {α : Type} (x : Nat → α) (i : Nat) (v : α) : Nat → α := fun j => if j = i then v else x j

theorem puts_agree {x x' : Nat → Value} {p p' : Nat → Bool} : ∀ (L : List Nat) (a : Act), (∀ j ∈ L, p j = p' j ∧ (p j = true → x j = x' j)) → puts ops x p L a = puts ops x' p' L a
  | [], _, _ => rfl
  | j :: L, a, h => by
    obtain ⟨h1, h2⟩ := h j (by simp)
    have h3 : ∀ k ∈ L, p k = p' k ∧ (p k = true → x k = x' k) := fun k hk => h k (by simp [hk])
    unfold puts
    by_cases hp : p j = true
    · rw [if_pos hp, if_pos (h1 ▸ hp), h2 hp]
      exact puts_agree L _ h3
    · rw [if_neg hp, if_neg (by rw [← h1]; exact hp)]
      exact puts_agree L _ h3

theorem puts_put {x : Nat → Value} {p : Nat → Bool} {d : Option Tmp} {v : Value} : ∀ (L : List Nat) (a : Act), (∀ j ∈ L, p j = true → ∀ t, d = some t → dst ops j ≠ some t) → puts ops x p L (a.put d v) = (puts ops x p L a).put d v
  | [], _, _ => rfl
  | j :: L, a, h => by
    have h3 : ∀ k ∈ L, p k = true → ∀ t, d = some t → dst ops k ≠ some t := fun k hk => h k (by simp [hk])
    unfold puts
    by_cases hp : p j = true
    · rw [if_pos hp, if_pos hp, Act.put_comm a v (x j) (h j (by simp) hp)]
      exact puts_put L _ h3
    · rw [if_neg hp, if_neg hp]
      exact puts_put L _ h3

/-- distinct slots. -/
def Apart (ops : Array Oper) (n : Nat) : Prop := ∀ i j, i < n → j < n → i ≠ j → ∀ t, dst ops i = some t → dst ops j ≠ some t
def apartB (ops : Array Oper) (n : Nat) : Bool := (List.range n).all fun i => (List.range n).all fun j => i == j || (match dst ops i, dst ops j with | some a, some b => a != b | _, _ => true)
theorem apart_of {n : Nat} (h : apartB ops n = true) : Apart ops n := by
  intro i j hi hj hij t ht hj'
  have h1 := List.all_eq_true.1 (List.all_eq_true.1 h i (List.mem_range.2 hi)) j (List.mem_range.2 hj)
  simp [hij, ht, hj'] at h1

theorem puts_new {x : Nat → Value} {p : Nat → Bool} {i : Nat} {v : Value} {n : Nat} (hap : Apart ops n) (hi : i < n) (hpi : p i = false) :
    ∀ (L : List Nat) (a : Act), L.Nodup → i ∈ L → (∀ j ∈ L, j < n) → (puts ops x p L a).put (dst ops i) v = puts ops (upd x i v) (upd p i true) L a
  | [], _, _, h, _ => by simp at h
  | j :: L, a, hn, hm, hl => by
    rw [List.nodup_cons] at hn
    unfold puts
    by_cases hji : j = i
    · subst hji
      rw [if_neg (by rw [hpi]; exact Bool.false_ne_true), if_pos (by simp [upd])]
      have e1 : upd x j v j = v := by simp [upd]
      rw [e1, ← puts_put L a (fun k hk hpk t ht => hap j k hi (hl k (by simp [hk])) (fun e => hn.1 (e ▸ hk)) t ht)]
      refine puts_agree L _ (fun k hk => ?_)
      have hkj : k ≠ j := fun e => hn.1 (e ▸ hk)
      exact ⟨by simp [upd, hkj], fun _ => by simp [upd, hkj]⟩
    · have e1 : upd x i v j = x j := by simp [upd, hji]
      have e2 : upd p i true j = p j := by simp [upd, hji]
      rw [e1, e2]
      exact puts_new hap hi hpi L _ hn.2 ((List.mem_cons.1 hm).resolve_left (Ne.symm hji)) (fun k hk => hl k (by simp [hk]))

theorem put_size (a : Act) (d : Option Tmp) (v : Value) : (a.put d v).tmps.size = a.tmps.size := by
  cases d <;> simp [Act.put]
theorem puts_size {x : Nat → Value} {p : Nat → Bool} : ∀ (L : List Nat) (a : Act), (puts ops x p L a).tmps.size = a.tmps.size
  | [], _ => rfl
  | j :: L, a => by
    unfold puts
    rw [puts_size L]
    split
    · exact put_size _ _ _
    · rfl
theorem puts_other {x : Nat → Value} {p : Nat → Bool} {t : Tmp} : ∀ (L : List Nat) (a : Act), (∀ j ∈ L, dst ops j ≠ some t) → (puts ops x p L a).eval (.tmp t) = a.eval (.tmp t)
  | [], _, _ => rfl
  | j :: L, a, h => by
    unfold puts
    rw [puts_other L _ (fun k hk => h k (by simp [hk]))]
    split
    · exact Act.eval_put (fun d hd e => h j (by simp) (by injection e with e; rw [hd, e]))
    · rfl
theorem eval_put_same {a : Act} {t : Tmp} {v : Value} (h : t < a.tmps.size) : (a.put (some t) v).eval (.tmp t) = v := by
  simp [Act.put, Act.eval, h]
theorem puts_here {x : Nat → Value} {p : Nat → Bool} {i n : Nat} {t : Tmp} (hap : Apart ops n) (hi : i < n) (hp : p i = true) (hd : dst ops i = some t) :
    ∀ (L : List Nat) (a : Act), L.Nodup → i ∈ L → (∀ j ∈ L, j < n) → t < a.tmps.size → (puts ops x p L a).eval (.tmp t) = x i
  | [], _, _, h, _, _ => by simp at h
  | j :: L, a, hn, hm, hl, hs => by
    rw [List.nodup_cons] at hn
    unfold puts
    by_cases hji : j = i
    · subst hji
      rw [if_pos hp, puts_other L _ (fun k hk => hap j k hi (hl k (by simp [hk])) (fun e => hn.1 (e ▸ hk)) t hd), hd]
      exact eval_put_same hs
    · refine puts_here hap hi hp hd L _ hn.2 ((List.mem_cons.1 hm).resolve_left (Ne.symm hji)) (fun k hk => hl k (by simp [hk])) ?_
      split
      · rw [put_size]; exact hs
      · exact hs

/-- What an operation of the head must show: wherever it comes up. -/
def Ob (P : Program) (ops : Array Oper) (n : Nat) (w0 : World) (a0 : Act) (Γ : List Know) (o : Oper) (R : Know) : Prop :=
  ∀ (a : Act) (W : World), Below w0.heap.size w0 W → a.tmps.size = a0.tmps.size →
    (∀ e ∈ o.after, Region.binds .any e = true → ∀ t, dst ops e.on = some t → ∀ K, Γ[e.on]? = some K → K (a.eval (.tmp t)) W) →
    (∀ t, (∀ j, j < n → dst ops j ≠ some t) → a.eval (.tmp t) = a0.eval (.tmp t)) →
    ∀ (K : Act → World → Prop) (Q : Exit → Act → World → Prop), (∀ v W', R v W' → Below W.heap.size W W' → K (a.put o.dst v) W') → o.wp P a W K Q

theorem wanted_of {o : Oper} {a : Act} {g : Nat} {b : Bool} {t : Tmp} (hg : o.guard = some (g, b)) (hd : dst ops g = some t) (h1 : a.eval (.tmp t) = .bool b) (h3 : t < a.tmps.size) : Region.wanted o (yielded ops a.tmps) = true := by
  have h4 : a.tmps[t]? = some (.bool b) := by
    rw [Array.getElem?_eq_getElem h3]
    simpa [Act.eval, Array.getD, h3] using h1
  have hd' : (ops[g]?).bind (·.dst) = some t := hd
  unfold Region.wanted yielded
  rw [hg]
  simp only [hd', Option.bind_some, h4]
  simp
/-- The operation is carried out: it has no guard, or the guard is known. -/
def GOK (ops : Array Oper) (Γ : List Know) (o : Oper) : Prop :=
  o.guard = none ∨ ∃ g b t, o.guard = some (g, b) ∧ (∃ e ∈ o.after, Region.binds .any e = true ∧ e.on = g) ∧ dst ops g = some t ∧ Γ[g]? = some (fun u _ => u = .bool b)
theorem GOK.mono {Γ Δ : List Know} {o : Oper} (h : GOK ops Γ o) (hsub : ∀ (g : Nat) (K : Know), Γ[g]? = some K → Δ[g]? = some K) : GOK ops Δ o := by
  rcases h with h | ⟨g, b, t, h1, h2, h3, h4⟩
  · exact .inl h
  · exact .inr ⟨g, b, t, h1, h2, h3, hsub _ _ h4⟩
/-- The walk in the order of the text: at each operation something that stays known is chosen. -/
def walk (P : Program) (ops : Array Oper) (n : Nat) (w0 : World) (a0 : Act) (T : List Know → Prop) : List Know → List Oper → Prop
  | Γ, [] => T Γ
  | Γ, o :: l => ∃ R, Stable R ∧ GOK ops Γ o ∧ (dst ops Γ.length = o.dst → Ob P ops n w0 a0 Γ o R) ∧ walk P ops n w0 a0 T (Γ ++ [R]) l

/-- all edges go back. -/
def backB (ops : Array Oper) : Bool := (List.range ops.size).all fun i => match ops[i]? with | some o => o.after.all fun e => decide (e.on < i) || !Region.binds .any e | none => true

theorem walk_all {n : Nat} {w0 : World} {a0 : Act} {T : List Know → Prop} : ∀ (l : List Oper) (Γ : List Know), walk P ops n w0 a0 T Γ l →
    ∃ Δ : List Know, Δ.length = l.length ∧ T (Γ ++ Δ) ∧ ∀ k o, l[k]? = some o → ∃ R, Δ[k]? = some R ∧ Stable R ∧ GOK ops (Γ ++ Δ.take k) o ∧ (dst ops (Γ.length + k) = o.dst → Ob P ops n w0 a0 (Γ ++ Δ.take k) o R)
  | [], Γ, h => ⟨[], rfl, by simpa [walk] using h, fun k o hk => by simp at hk⟩
  | o :: l, Γ, h => by
    obtain ⟨R, hs, hg, hob, hw⟩ := h
    obtain ⟨Δ, hl, hT, hall⟩ := walk_all l _ hw
    refine ⟨R :: Δ, by simp [hl], by simpa using hT, fun k o' hk => ?_⟩
    cases k with
    | zero =>
      obtain rfl : o = o' := by simpa using hk
      exact ⟨R, rfl, hs, by simpa using hg, by simpa using hob⟩
    | succ k =>
      obtain ⟨R', h1, h2, h3, h4⟩ := hall k o' (by simpa using hk)
      refine ⟨R', by simpa using h1, h2, by simpa using h3, fun hd => ?_⟩
      have := h4 (by rw [← hd]; congr 1; simp; omega)
      simpa using this

theorem Ob.mono {n : Nat} {w0 : World} {a0 : Act} {Γ Δ : List Know} {o : Oper} {R : Know} (h : Ob P ops n w0 a0 Γ o R) (hsub : ∀ e ∈ o.after, ∀ K, Γ[e.on]? = some K → Δ[e.on]? = some K) : Ob P ops n w0 a0 Δ o R :=
  fun a W hb hz hd hbase K Q hK => h a W hb hz (fun e he hbd t ht K' hK' => hd e he hbd t ht K' (hsub e he K' hK')) hbase K Q hK

/-- What holds while the head is on its way. -/
structure Inv (ops : Array Oper) (n : Nat) (w0 : World) (a0 : Act) (Γ : List Know) (listed : Array Bool) (a : Act) (W : World) : Prop where
  below : Below w0.heap.size w0 W
  vals : ∃ x : Nat → Value, a = puts ops x (fun j => listed.getD j false) (List.range n) a0 ∧ ∀ j, j < n → listed.getD j false = true → ∀ K, Γ[j]? = some K → K (x j) W

theorem countP_upd {i : Nat} {p : Nat → Bool} (hp : p i = true) : ∀ (L : List Nat), L.Nodup → i ∈ L → L.countP p = L.countP (upd p i false) + 1
  | [], _, h => by simp at h
  | j :: L, hn, hm => by
    rw [List.nodup_cons] at hn
    by_cases hji : j = i
    · subst hji
      have e : ∀ M : List Nat, j ∉ M → M.countP (upd p j false) = M.countP p := by
        intro M hM
        induction M with
        | nil => rfl
        | cons k M ih =>
          have hk : k ≠ j := fun e => hM (by simp [e])
          simp [List.countP_cons, ih (fun h => hM (by simp [h])), upd, hk]
      simp [List.countP_cons, hp, upd, e L hn.1]
    · have := countP_upd hp L hn.2 ((List.mem_cons.1 hm).resolve_left (Ne.symm hji))
      have e : upd p i false j = p j := by simp [upd, hji]
      simp only [List.countP_cons, this, e]
      omega

def left (n : Nat) (listed : Array Bool) : Nat := (List.range n).countP fun j => !listed.getD j false

def Ln (n size : Nat) : Array Bool := ((List.range size).map fun j => decide (j < n)).toArray
def okB (ops : Array Oper) (n : Nat) : Bool :=
  decide (n < ops.size) && Region.sinkB .any ops n && Region.chainB .any ops n && Region.seqB .any ops (ops.size - n) n (Ln n ops.size) && apartB ops n && backB ops
def sizeB (ops : Array Oper) (n N : Nat) : Bool := (List.range n).all fun i => match dst ops i with | some t => decide (t < N) | none => true

theorem all_listed {n : Nat} {listed : Array Bool} (h : left n listed = 0) : ∀ j, j < n → listed.getD j false = true := by
  intro j hj
  have := List.countP_eq_zero.1 h j (List.mem_range.2 hj)
  simpa using this
theorem listed_Ln {n : Nat} {listed : Array Bool} (inv : HeadInv .any ops n listed) (h : left n listed = 0) (hn : n ≤ ops.size) : listed = Ln n ops.size := by
  apply Array.ext
  · simp [Ln, inv.size]
  · intro j h1 h2
    have hj : j < ops.size := by rw [← inv.size]; exact h1
    by_cases hjn : j < n
    · have := all_listed h j hjn
      simp [h1] at this
      simp [Ln, this, hjn]
    · have := inv.tail j (by omega) hj
      simp [h1] at this
      simp [Ln, this, hjn]
theorem some_ready {n : Nat} {listed : Array Bool} (inv : HeadInv .any ops n listed) (hback : backB ops = true) (hn : n < ops.size) :
    ∀ (m k : Nat), k < m → k < n → listed.getD k true = false → ∃ i, i ∈ Region.ready .any ops listed
  | 0, _, h, _, _ => by omega
  | m + 1, k, hk, hkn, hun => by
    obtain ⟨o, ho⟩ : ∃ o, ops[k]? = some o := ⟨_, Array.getElem?_eq_getElem (by omega)⟩
    by_cases hall : ∀ e ∈ o.after, Region.binds .any e = true → listed.getD e.on false = true
    · exact ⟨k, mem_ready.2 ⟨hun, o, ho, hall⟩⟩
    · have : ∃ e, e ∈ o.after ∧ Region.binds .any e = true ∧ ¬ listed.getD e.on false = true := by
        apply Classical.byContradiction
        intro hno
        exact hall (fun e he hb => Classical.byContradiction fun h => hno ⟨e, he, hb, h⟩)
      obtain ⟨e, he, hb, hne⟩ := this
      have h1 := List.all_eq_true.1 hback k (List.mem_range.2 (by omega))
      simp only [ho] at h1
      have h2 := Array.all_eq_true'.1 h1 e he
      have hlt : e.on < k := by simpa [hb] using h2
      have hs : e.on < listed.size := by rw [inv.size]; omega
      exact some_ready inv hback hn m e.on (by omega) (by omega) (getD_in hs (by simpa using hne))

theorem go {n : Nat} {Q : Exit → Act → World → Prop} {w0 : World} {a0 : Act} {Γ : List Know} (hok : okB ops n = true) (hsz : sizeB ops n a0.tmps.size = true)
    (hΓ : ∀ k, k < n → ∃ o R, ops[k]? = some o ∧ Γ[k]? = some R ∧ Stable R ∧ GOK ops Γ o ∧ Ob P ops n w0 a0 Γ o R)
    (hend : ∀ (x : Nat → Value) (W : World), Below w0.heap.size w0 W → (∀ j, j < n → ∀ K, Γ[j]? = some K → K (x j) W) → wpAny P .any ops Q (ops.size - n) (Ln n ops.size) (puts ops x (fun _ => true) (List.range n) a0) W) :
    ∀ (f : Nat) (listed : Array Bool) (a : Act) (W : World), HeadInv .any ops n listed → left n listed = f → Inv ops n w0 a0 Γ listed a W → wpAny P .any ops Q (f + (ops.size - n)) listed a W := by
  simp only [okB, Bool.and_eq_true, decide_eq_true_eq] at hok
  obtain ⟨⟨⟨⟨⟨hn, hs⟩, hc⟩, _⟩, hap⟩, hback⟩ := hok
  have hap := apart_of hap
  intro f
  induction f with
  | zero =>
    intro listed a W inv hl hI
    obtain ⟨hb, x, rfl, hx⟩ := hI
    have hall := all_listed hl
    rw [Nat.zero_add]
    rw [puts_agree (p' := fun _ => true) (x' := x) (List.range n) a0 (fun j hj => ⟨hall j (List.mem_range.1 hj), fun _ => rfl⟩), listed_Ln inv hl (by omega)]
    exact hend x W hb (fun j hj K hK => hx j hj (hall j hj) K hK)
  | succ f ih =>
    intro listed a W inv hl hI
    have hex : ∃ k, k < n ∧ listed.getD k true = false := by
      apply Classical.byContradiction
      intro hno
      have : left n listed = 0 := List.countP_eq_zero.2 (fun j hj => by
        have hj := List.mem_range.1 hj
        have hjs : j < listed.size := by rw [inv.size]; omega
        cases h : listed.getD j false with
        | true => simp
        | false => exact absurd ⟨j, hj, getD_in hjs h⟩ hno)
      omega
    obtain ⟨k, hk, hun⟩ := hex
    rw [show f + 1 + (ops.size - n) = (f + (ops.size - n)) + 1 by omega]
    refine ⟨fun h0 => ?_, fun i hi => ?_⟩
    · obtain ⟨i, hi⟩ := some_ready inv hback hn (k + 1) k (by omega) hk hun
      rw [h0] at hi
      cases hi
    have hin : i < n := by
      rcases Nat.lt_or_ge i n with h | h
      · exact h
      · exact absurd hi (tail_waits hs hc hn inv _ k rfl hk hun i h)
    obtain ⟨hiun, oi, hoi, hdeps⟩ := mem_ready.1 hi
    obtain ⟨o, R, ho, hR, hst, hg, hob⟩ := hΓ i hin
    obtain rfl : oi = o := Option.some.inj (hoi.symm.trans ho)
    obtain ⟨hb, x, rfl, hx⟩ := hI
    have hdi : dst ops i = oi.dst := by simp [dst, ho]
    have his : i < listed.size := by rw [inv.size]; omega
    have hif : listed.getD i false = false := getD_both hiun
    have hszt : ∀ j t, j < n → dst ops j = some t → t < a0.tmps.size := fun j t hj hd => by
      have := List.all_eq_true.1 hsz j (List.mem_range.2 hj)
      simpa [hd] using this
    have back : ∀ e ∈ oi.after, Region.binds .any e = true → e.on < i := fun e he hbd => by
      have h1 := List.all_eq_true.1 hback i (List.mem_range.2 (by omega))
      simp only [ho] at h1
      simpa [hbd] using Array.all_eq_true'.1 h1 e he
    unfold wpOp
    simp only [ho]
    have hwant : Region.wanted oi (yielded ops (puts ops x (fun j => listed.getD j false) (List.range n) a0).tmps) = true := by
      rcases hg with hg | ⟨g, b, t, hg, ⟨e, he, hbd, rfl⟩, hd, hK⟩
      · simp [Region.wanted, hg]
      · have hel := hdeps e he hbd
        have hen : e.on < n := by have := back e he hbd; omega
        have h1 := puts_here (x := x) (p := fun j => listed.getD j false) hap hen hel hd (List.range n) a0 (List.nodup_range) (List.mem_range.2 hen) (fun j hj => List.mem_range.1 hj) (hszt _ _ hen hd)
        have h2 : x e.on = .bool b := hx e.on hen hel _ hK
        have h3 : t < (puts ops x (fun j => listed.getD j false) (List.range n) a0).tmps.size := by rw [puts_size]; exact hszt _ _ hen hd
        rw [h2] at h1
        exact wanted_of hg hd h1 h3
    rw [if_pos hwant]
    refine .inl (hob _ W hb (puts_size _ _) ?_ ?_ _ _ ?_)
    · intro e he hbd t ht K hK
      have hel := hdeps e he hbd
      have hen : e.on < n := by have := back e he hbd; omega
      rw [puts_here hap hen hel ht (List.range n) a0 (List.nodup_range) (List.mem_range.2 hen) (fun j hj => List.mem_range.1 hj) (hszt _ _ hen ht)]
      exact hx e.on hen hel K hK
    · intro t ht
      exact puts_other _ _ (fun j hj => ht j (List.mem_range.1 hj))
    · intro v W' hv hb'
      have hget : ∀ j, (listed.setIfInBounds i true).getD j false = upd (fun j => listed.getD j false) i true j := by
        intro j
        by_cases hji : j = i
        · subst hji
          simp [upd, his]
        · rw [getD_set_ne false (Ne.symm hji)]
          simp [upd, hji]
      refine ih _ _ W' (inv.set hi hin) ?_ ⟨hb.trans (hb'.mono hb.size), upd x i v, ?_, ?_⟩
      · have h1 := countP_upd (i := i) (p := fun j => !listed.getD j false) (by simp [hif]) (List.range n) List.nodup_range (List.mem_range.2 hin)
        have h2 : left n (listed.setIfInBounds i true) = (List.range n).countP (upd (fun j => !listed.getD j false) i false) := by
          unfold left
          congr 1
          funext j
          rw [hget j]
          by_cases hji : j = i <;> simp [upd, hji]
        unfold left at hl
        omega
      · rw [← hdi, puts_new hap hin hif (List.range n) a0 List.nodup_range (List.mem_range.2 hin) (fun j hj => List.mem_range.1 hj)]
        exact puts_agree _ _ (fun j _ => ⟨(hget j).symm, fun _ => rfl⟩)
      · intro j hj hlj K hK
        rw [hget j] at hlj
        by_cases hji : j = i
        · subst hji
          obtain rfl : R = K := Option.some.inj (hR.symm.trans hK)
          simpa [upd] using hv
        · have e1 : upd x i v j = x j := by simp [upd, hji]
          have e2 : listed.getD j false = true := by simpa [upd, hji] using hlj
          rw [e1]
          obtain ⟨_, R', _, hR', hst', _⟩ := hΓ j hj
          obtain rfl : R' = K := Option.some.inj (hR'.symm.trans hK)
          exact hst' _ _ _ (hx j hj e2 _ hK) hb'

/-- The frame with all values of the head. -/
def fill : List Oper → Nat → (Nat → Value) → Act → Act
  | [], _, _, a => a
  | o :: l, k, x, a => fill l (k + 1) x (a.put o.dst (x k))
theorem fill_puts {x : Nat → Value} : ∀ (l : List Oper) (k : Nat) (a : Act), (∀ j, j < l.length → l[j]? = ops[k + j]?) → fill l k x a = puts ops x (fun _ => true) (List.range' k l.length) a
  | [], _, _, _ => rfl
  | o :: l, k, a, h => by
    have h0 : ops[k]? = some o := by simpa using (h 0 (by simp)).symm
    have hd : dst ops k = o.dst := by simp [dst, h0]
    simp only [fill, List.length_cons, List.range'_succ, puts, if_true, hd]
    exact fill_puts l (k + 1) _ (fun j hj => by have := h (j + 1) (by simp; omega); simpa [Nat.add_assoc, Nat.add_comm 1 j] using this)

/-- ████ The region. -/
theorem region_w {Q : Exit → Act → World → Prop} {a : Act} {w : World} {l : List Oper} (n : Nat) (hok : okB l.toArray n = true) (hsz : sizeB l.toArray n a.tmps.size = true)
    (h : walk P l.toArray n w a (fun (Γ : List Know) => ∀ (x : Nat → Value) (W : World), Below w.heap.size w W → (∀ (j : Nat) (K : Know), Γ[j]? = some K → K (x j) W) → wpList P l.toArray Q (l.drop n) (fill (l.take n) 0 x a) W) [] (l.take n)) :
    wpAny P .any l.toArray Q l.toArray.size (Array.replicate l.toArray.size false) a { w with drawn := w.drawn + 1 } := by
  have hok' := hok
  simp only [okB, Bool.and_eq_true, decide_eq_true_eq] at hok'
  obtain ⟨⟨⟨⟨⟨hn, _⟩, _⟩, hseq⟩, _⟩, hback⟩ := hok'
  have hn' : n < l.length := by simpa using hn
  have htl : (l.take n).length = n := by simp; omega
  obtain ⟨Δ, hlen, hT, hall⟩ := walk_all _ _ h
  rw [List.nil_append] at hT
  rw [htl] at hlen
  have hget : ∀ k, k < n → (l.take n)[k]? = l.toArray[k]? := fun k hk => by simp [List.getElem?_take, hk]
  have hΓ : ∀ k, k < n → ∃ o R, l.toArray[k]? = some o ∧ Δ[k]? = some R ∧ Stable R ∧ GOK l.toArray Δ o ∧ Ob P l.toArray n w a Δ o R := by
    intro k hk
    obtain ⟨o, ho⟩ : ∃ o, l.toArray[k]? = some o := ⟨_, Array.getElem?_eq_getElem (by simp; omega)⟩
    obtain ⟨R, h1, h2, h3, h4⟩ := hall k o (by rw [hget k hk, ho])
    rw [List.nil_append] at h3
    refine ⟨o, R, ho, h1, h2, h3.mono (fun g K hK => by
      rw [List.getElem?_take] at hK
      split at hK
      · exact hK
      · cases hK), (h4 (by simp only [List.length_nil, Nat.zero_add]; simp [dst, ho])).mono fun e he K hK => ?_⟩
    rw [List.nil_append] at hK
    rw [List.getElem?_take] at hK
    split at hK
    · exact hK
    · cases hK
  have inv0 : HeadInv .any l.toArray n (Array.replicate l.toArray.size false) :=
    ⟨by simp, fun j oj _ hl => (by rw [getD_replicate_false] at hl; cases hl), fun t _ ht => getD_in (by simpa using ht) (getD_replicate_false _ _)⟩
  have hleft : left n (Array.replicate l.toArray.size false) = n := by
    unfold left
    rw [List.countP_eq_length.2 (fun j _ => by rw [getD_replicate_false]; rfl), List.length_range]
  have hputs : ∀ x, puts l.toArray x (fun _ => true) (List.range n) a = fill (l.take n) 0 x a := fun x => by
    rw [fill_puts (ops := l.toArray) (l.take n) 0 a (fun j hj => by rw [htl] at hj; rw [hget j hj, Nat.zero_add]), htl, List.range_eq_range']
  have H := go (P := P) (Q := Q) (w0 := w) (a0 := a) hok hsz hΓ (fun x W hb hx => by
    have hdl : (l.drop n).length = l.toArray.size - n := by simp
    have := wpAny_of_seq (md := .any) (Q' := Q) (ops := l.toArray) (P := P) (l.drop n) n (Ln n l.toArray.size) (fill (l.take n) 0 x a) W (fun j => by simp [List.getElem?_drop]) (by rw [hdl]; exact hseq)
      (hT x W hb (fun j K hK => hx j (by
        have := (List.getElem?_eq_some_iff.1 hK).1
        omega) K hK))
    rw [hputs x, ← hdl]
    exact this) n _ a { w with drawn := w.drawn + 1 } inv0 hleft ⟨Calm.below_drawn w, fun _ => undef, by
      rw [puts_agree (p' := fun _ => false) (x' := fun _ => undef) (List.range n) a (fun j _ => ⟨getD_replicate_false _ _, fun _ => rfl⟩)]
      exact (show ∀ (L : List Nat) (b : Act), b = puts l.toArray (fun _ => undef) (fun _ => false) L b from fun L => by
        induction L with
        | nil => intro b; rfl
        | cons j L ih => intro b; unfold puts; simpa using ih b) _ _, fun j _ hl => by rw [getD_replicate_false] at hl; cases hl⟩
  have e : n + (l.toArray.size - n) = l.toArray.size := by omega
  rw [e] at H
  exact H
/-! ### As a prover walks it -/
abbrev Ctx := List (Option Tmp × Know)
def dep1 : Option (Option Tmp × Know) → Act → World → Prop
  | some (some t, K), a, W => K (a.eval (.tmp t)) W
  | _, _, _ => True
def deps (Γ : Ctx) (a : Act) (W : World) : List Nat → Prop
  | [] => True
  | j :: js => dep1 Γ[j]? a W ∧ deps Γ a W js
theorem deps_of {Γ : Ctx} {a : Act} {W : World} : ∀ (js : List Nat), (∀ j ∈ js, dep1 Γ[j]? a W) → deps Γ a W js
  | [], _ => trivial
  | j :: js, h => ⟨h j (by simp), deps_of js (fun k hk => h k (by simp [hk]))⟩
def facts (x : Nat → Value) (W : World) : Nat → Ctx → Prop
  | _, [] => True
  | k, (_, K) :: l => K (x k) W ∧ facts x W (k + 1) l
theorem facts_of {x : Nat → Value} {W : World} : ∀ (l : Ctx) (k : Nat), (∀ (j : Nat) (K : Know), (l.map (·.2))[j]? = some K → K (x (k + j)) W) → facts x W k l
  | [], _, _ => trivial
  | (d, K) :: l, k, h => ⟨h 0 K rfl, facts_of l (k + 1) (fun j K' hj => by have := h (j + 1) K' (by simpa using hj); rw [show k + 1 + j = k + (j + 1) by omega]; exact this)⟩
section
variable {DS : List Tmp} {w0 : World} {a0 : Act} {T : Ctx → Prop} {Γ : Ctx} {o : Oper} {rest : List Oper}
theorem stable_eq (v : Value) : Stable (fun u _ => u = v) := fun _ _ _ h _ => h
/-- A new block that holds just these cells. -/
def New (B : Nat) (cs : Array Value) : Know := fun u W => ∃ g, u = .pointer (some ⟨g, 0, none⟩) ∧ B ≤ g ∧ Calm.Blk W g cs
theorem stable_new (B : Nat) (cs : Array Value) : Stable (New B cs) := fun _ _ _ ⟨g, h1, h2, h3⟩ hb => ⟨g, h1, h2, h3.below hb⟩
end
end
end Go.Proofs.YtamldoidalnloaaGreatDoor.Rel

/- More for regions whose head makes memory: a slice of its own. -/
namespace Go.Proofs.YtamldoidalnloaaGreatDoor.Rel
open Go.RowKit
variable {P : Program} {DS : List Tmp} {w0 : World} {a0 : Act} {T : Ctx → Prop} {Γ : Ctx} {o : Oper} {rest : List Oper}
/-- A new slice that holds just these cells. -/
def NewS (B n c : Nat) (cs : Array Value) : Know := fun u W => ∃ g, u = .slice (some ⟨g, 0, none⟩) n c ∧ B ≤ g ∧ Calm.Blk W g cs
theorem stable_newS (B n c : Nat) (cs : Array Value) : Stable (NewS B n c cs) := fun _ _ _ ⟨g, h1, h2, h3⟩ hb => ⟨g, h1, h2, h3.below hb⟩
end Go.Proofs.YtamldoidalnloaaGreatDoor.Rel
namespace Go.Proofs.YtamldoidalnloaaGreatDoor.Calm
open Go.RowKit
end Go.Proofs.YtamldoidalnloaaGreatDoor.Calm

/- Regions whose order is open and whose edges bind in part; an append and a call with relational results in the head. -/
namespace Go.Proofs.YtamldoidalnloaaGreatDoor.Rel
open Go.RowKit
/-- the operations that this one waits for. -/
def ons (o : Oper) : List Nat := (o.after.toList.filter fun e => Region.binds .any e).map (·.on)
def Ob3 (P : Program) (DS : List Tmp) (w0 : World) (a0 : Act) (Γ : Ctx) (o : Oper) (R : Know) : Prop :=
  ∀ (a : Act) (W : World), Below w0.heap.size w0 W → deps Γ a W (ons o) → (∀ t, t ∉ DS → a.eval (.tmp t) = a0.eval (.tmp t)) →
    ∀ (K : Act → World → Prop) (Q : Exit → Act → World → Prop), (∀ v W', R v W' → Below W.heap.size W W' → K (a.put o.dst v) W') → o.wp P a W K Q
def GOK3 (Γ : Ctx) (o : Oper) : Prop := o.guard = none ∨ ∃ g b t, o.guard = some (g, b) ∧ g ∈ ons o ∧ Γ[g]? = some (some t, fun u _ => u = .bool b)
def walk3 (P : Program) (DS : List Tmp) (w0 : World) (a0 : Act) (T : Ctx → Prop) : Ctx → List Oper → Prop
  | Γ, [] => T Γ
  | Γ, o :: l => ∃ R, Stable R ∧ GOK3 Γ o ∧ Ob3 P DS w0 a0 Γ o R ∧ walk3 P DS w0 a0 T (Γ ++ [(o.dst, R)]) l
theorem walk_of_walk3 {P : Program} {ops : Array Oper} {n : Nat} {DS : List Tmp} {w0 : World} {a0 : Act} {T : Ctx → Prop} {T' : List Know → Prop} (hDS : ∀ t, t ∉ DS → ∀ j, j < n → dst ops j ≠ some t)
    (hT : ∀ Γ, T Γ → T' (Γ.map (·.2))) :
    ∀ (l : List Oper) (Γ : Ctx), (∀ j, j < l.length → l[j]? = ops[Γ.length + j]?) → (∀ j d R, Γ[j]? = some (d, R) → dst ops j = d) → walk3 P DS w0 a0 T Γ l → walk P ops n w0 a0 T' (Γ.map (·.2)) l
  | [], Γ, _, _, h => hT Γ h
  | o :: l, Γ, hl, hΓ, h => by
    obtain ⟨R, hs, hg, hob, hw⟩ := h
    have h0 : ops[Γ.length]? = some o := by simpa using (hl 0 (by simp)).symm
    have hg' : GOK ops (Γ.map (·.2)) o := by
      rcases hg with hg | ⟨g, b, t, hg, hin, hΓg⟩
      · exact .inl hg
      · obtain ⟨e, he, rfl⟩ := List.mem_map.1 hin
        obtain ⟨he1, he2⟩ := List.mem_filter.1 he
        exact .inr ⟨e.on, b, t, hg, ⟨e, by simpa using he1, he2, rfl⟩, hΓ _ _ _ hΓg, by simp [hΓg]⟩
    refine ⟨R, hs, hg', fun _ => ?_, ?_⟩
    · intro a W hb hz hd hbase K Q hK
      refine hob a W hb (deps_of _ fun j hj => ?_) (fun t ht => hbase t (fun j hj => hDS t ht j hj)) K Q hK
      obtain ⟨e, he, rfl⟩ := List.mem_map.1 hj
      obtain ⟨he1, he2⟩ := List.mem_filter.1 he
      have he' : e ∈ o.after := by simpa using he1
      cases hc : Γ[e.on]? with
      | none => trivial
      | some c =>
        obtain ⟨d, K'⟩ := c
        cases d with
        | none => trivial
        | some t => exact hd e he' he2 t (hΓ _ _ _ hc) K' (by simp [hc])
    · have := walk_of_walk3 hDS hT l (Γ ++ [(o.dst, R)]) (fun j hj => by
        have := hl (j + 1) (by simp; omega)
        simpa [Nat.add_assoc, Nat.add_comm 1 j] using this) (fun j d R' hj => by
        rcases Nat.lt_or_ge j Γ.length with h | h
        · rw [List.getElem?_append_left h] at hj
          exact hΓ j d R' hj
        · have hjl : j < (Γ ++ [(o.dst, R)]).length := (List.getElem?_eq_some_iff.1 hj).1
          obtain rfl : j = Γ.length := by simp at hjl; omega
          simp at hj
          rw [← hj.1]
          simp [dst, h0]) hw
      simpa using this
theorem region3_w {P : Program} {Q : Exit → Act → World → Prop} {a : Act} {w : World} {l : List Oper} (n : Nat) (hok : okB l.toArray n = true) (hsz : sizeB l.toArray n a.tmps.size = true)
    (h : walk3 P ((l.take n).filterMap (·.dst)) w a (fun Γ => ∀ (x : Nat → Value) (W : World), Below w.heap.size w W → facts x W 0 Γ → wpList P l.toArray Q (l.drop n) (fill (l.take n) 0 x a) W) [] (l.take n)) :
    wpAny P .any l.toArray Q l.toArray.size (Array.replicate l.toArray.size false) a { w with drawn := w.drawn + 1 } := by
  have hn' : n < l.length := by
    simp only [okB, Bool.and_eq_true, decide_eq_true_eq] at hok
    simpa using hok.1.1.1.1.1
  have htl : (l.take n).length = n := by simp; omega
  refine region_w n hok hsz (walk_of_walk3 (n := n) (fun t ht j hj hd => ht ?_) (fun Γ hT x W hb hx => hT x W hb (facts_of Γ 0 (fun j K hj => by rw [Nat.zero_add]; exact hx j K hj))) (l.take n) [] (fun j hj => by
      rw [htl] at hj
      simp [List.getElem?_take, hj]) (fun j d R hj => by simp at hj) h)
  have hlj : j < l.length := by omega
  simp [dst, hlj] at hd
  exact List.mem_filterMap.2 ⟨l[j], List.mem_iff_getElem.2 ⟨j, by omega, by simp⟩, hd⟩
theorem region3 {P : Program} {id : Nat} {Q : Exit → Act → World → Prop} {a : Act} {w : World} {l : List Oper} (n : Nat) (hm : P.follows .mixedOrders = true) (hok : okB l.toArray n = true) (hsz : sizeB l.toArray n a.tmps.size = true)
    (h : walk3 P ((l.take n).filterMap (·.dst)) w a (fun Γ => ∀ (x : Nat → Value) (W : World), Below w.heap.size w W → facts x W 0 Γ → wpList P l.toArray Q (l.drop n) (fill (l.take n) 0 x a) W) [] (l.take n)) :
    (Code.region id l.toArray true).wp P Q a w := wp_region_any hm (region3_w n hok hsz h)
section
variable {P : Program} {DS : List Tmp} {w0 : World} {a0 : Act} {T : Ctx → Prop} {Γ : Ctx} {o : Oper} {rest : List Oper}
theorem gno {Γ : Ctx} {o : Oper} (h : o.guard = none) : GOK3 Γ o := .inl h
theorem op3 (v : Value) (hg : GOK3 Γ o) (h : ∀ (a : Act) (W : World), Below w0.heap.size w0 W → deps Γ a W (ons o) → (∀ t, t ∉ DS → a.eval (.tmp t) = a0.eval (.tmp t)) → (execOp a.eval o).run P W = .ok (.value v) W)
    (hn : walk3 P DS w0 a0 T (Γ ++ [(o.dst, fun u _ => u = v)]) rest) : walk3 P DS w0 a0 T Γ (o :: rest) :=
  ⟨_, stable_eq v, hg, fun a W hb hd hbase K Q hK => by
    unfold Oper.wp
    rw [h a W hb hd hbase]
    exact hK v W rfl (Below.refl _ _), hn⟩
theorem build3 (t : TypeId) (n c : Nat) (cs : Array Value) (hg : GOK3 Γ o)
    (h : ∀ (a : Act) (W : World), Below w0.heap.size w0 W → deps Γ a W (ons o) → (∀ t, t ∉ DS → a.eval (.tmp t) = a0.eval (.tmp t)) → (execOp a.eval o).run P W = .ok (.value (.slice (some ⟨W.heap.size, 0, none⟩) n c)) (W.alloc (.cells cs t)))
    (hn : walk3 P DS w0 a0 T (Γ ++ [(o.dst, NewS w0.heap.size n c cs)]) rest) : walk3 P DS w0 a0 T Γ (o :: rest) :=
  ⟨_, stable_newS _ n c cs, hg, fun a W hb hd hbase K Q hK => by
    unfold Oper.wp
    rw [h a W hb hd hbase]
    exact hK _ _ ⟨_, rfl, hb.size, Calm.Blk.new W t cs⟩ ((Below.refl _ _).alloc (Nat.le_refl _) _), hn⟩
/-- A slice that owns a row. -/
def OwnS (B : Nat) (e : TypeId) (size n : Nat) (xs : List Value) : Know := fun u W => W.ownsRow B e size u n xs
theorem stable_ownS (B : Nat) (e : TypeId) (size n : Nat) (xs : List Value) : Stable (OwnS B e size n xs) := fun u W W' h hb => by
  refine ⟨h.1, ?_⟩
  rcases h.2 with h2 | ⟨g, cap, cur, h1, h2, h3, h4⟩
  · exact .inl h2
  · exact .inr ⟨g, cap, cur, h1, h2, (hb.block g (Array.getElem?_eq_some_iff.1 h3).1).trans h3, h4⟩
/-- An empty slice of its own that is not nil. -/
def Empty (B : Nat) (e : TypeId) (size : Nat) : Know := fun u W => (∃ g, u = .slice (some ⟨g, 0, none⟩) 0 0) ∧ W.ownsRow B e size u 0 []
theorem stable_empty (B : Nat) (e : TypeId) (size : Nat) : Stable (Empty B e size) := fun u W W' h hb => ⟨h.1, stable_ownS B e size 0 [] u W W' h.2 hb⟩
theorem empty3 (e : TypeId) (size : Nat) (hg : GOK3 Γ o)
    (h : ∀ (a : Act) (W : World), (execOp a.eval o).run P W = .ok (.value (.slice (some ⟨W.heap.size, 0, none⟩) 0 0)) (W.alloc (.cells #[] e)))
    (hn : walk3 P DS w0 a0 T (Γ ++ [(o.dst, Empty w0.heap.size e size)]) rest) : walk3 P DS w0 a0 T Γ (o :: rest) :=
  ⟨_, stable_empty _ _ _, hg, fun a W hb hd hbase K Q hK => by
    unfold Oper.wp
    rw [h a W]
    refine hK _ _ ⟨⟨_, rfl⟩, by simp, .inr ⟨_, 0, #[], rfl, hb.size, by show (W.heap.push _)[W.heap.size]? = _; simp, Nat.le_refl _, Nat.zero_le _, by simp, by simp⟩⟩ ((Below.refl _ _).alloc (Nat.le_refl _) _), hn⟩
theorem run_append_zero (W : World) (t ty e : TypeId) (i : TypeInfo) (z : Value) (ht : P.underlying t = some (.slice e)) (hi : P.info? e = some i) (hz : i.zero = some z) (b : Addr) (A : Option Addr) (c : Nat) :
    (Builtin.append_ #[t, t] ty #[.slice (some b) 0 0, .slice A 0 c]).run P W = .ok (.slice (some b) 0 0) W := by
  have hl : ∀ (x : Addr), (loadCells x 0).run P W = .ok #[] W := fun x => by simpa using run_loadCells_list (P := P) W x [] (by simp)
  cases A <;> simp [Builtin.append_, run_underlying ht, sizeOf, typeInfo, zeroValue, hi, hz, Builtin.lenOf, Builtin.firstCells, storeCells, hl]
/-- 'append([]T{}, l...)'. -/
theorem app3 (s x : Operand) (t : TypeId) (hop : o.op = .call { callee := .builtin .append, args := #[s, x], argTypes := #[t, t] }) (e : TypeId) (i : TypeInfo) (z : Value) (size bytes : Nat)
    (ht : P.underlying t = some (.slice e)) (hi : P.info? e = some i) (hz : i.zero = some z) (hsize : i.size = size) (hby : i.bytes = bytes) (hzs : z.cells.size = size) (hsz : 0 < size) (n : Nat) (news : List Value) (hl : news.length = n * size) (h1 : ∀ u ∈ news, u.oneCell' = true) (h63 : n ≤ maxLen) (hbytes : n * bytes ≤ 140737488355328) (hg : GOK3 Γ o)
    (h : ∀ (a : Act) (W : World), Below w0.heap.size w0 W → deps Γ a W (ons o) → (∀ t, t ∉ DS → a.eval (.tmp t) = a0.eval (.tmp t)) → (∃ v0, a.eval s = v0 ∧ Empty w0.heap.size e size v0 W) ∧ ∃ A c, a.eval x = .slice A n c ∧ (0 < n → ∃ ad, A = some ad ∧ ∀ j u, news[j]? = some u → W.cell? (ad.add j) = some u))
    (hn : walk3 P DS w0 a0 T (Γ ++ [(o.dst, OwnS w0.heap.size e size n news)]) rest) : walk3 P DS w0 a0 T Γ (o :: rest) :=
  ⟨_, stable_ownS _ _ _ _ _, hg, fun a W hb hd hbase K Q hK => by
    obtain ⟨⟨v0, hs, ⟨g, hgv⟩, hown⟩, A, c, hx, hc⟩ := h a W hb hd hbase
    subst hgv
    rcases Nat.eq_zero_or_pos n with rfl | hpos
    · obtain rfl : news = [] := List.eq_nil_of_length_eq_zero (by omega)
      have hrun := run_append_zero (P := P) W t o.type e i z ht hi hz ⟨g, 0, none⟩ A c
      unfold Oper.wp
      simp [execOp, hop, resolve, invoke, builtin, hs, hx, hrun, Result.andThen]
      exact hK _ _ hown (Below.refl _ _)
    · obtain ⟨ad, rfl, hc2⟩ := hc hpos
      obtain ⟨v', w', hrun, r1, r2⟩ := run_append_arg_grows (P := P) W t o.type e i z size bytes ht hi hz hsize hby hzs hsz ⟨g, 0, none⟩ 0 0 [] (by simp) (by simp) ad n c news hl hc2 (by omega) (by omega) (by rw [Nat.zero_add]; exact hbytes)
      unfold Oper.wp
      simp [execOp, hop, resolve, invoke, builtin, hs, hx, hrun, Result.andThen]
      refine hK v' w' ?_ ((Below.refl W.heap.size W).grown r2 (Nat.le_refl _) (fun k hk => by cases hk))
      have r1' : w'.ownsRow W.heap.size e size v' n news := by simpa using r1
      refine ⟨r1'.1, ?_⟩
      rcases r1'.2 with h2 | ⟨g', cap, cur, h1, h2, h3⟩
      · exact .inl h2
      · exact .inr ⟨g', cap, cur, h1, Nat.le_trans hb.size h2, h3⟩, hn⟩
/-- A call, by a contract. -/
theorem callR3 (R : Know) (hs : Stable R) (hg : GOK3 Γ o)
    (h : ∀ (a : Act) (W : World), Below w0.heap.size w0 W → deps Γ a W (ons o) → (∀ t, t ∉ DS → a.eval (.tmp t) = a0.eval (.tmp t)) → ∃ f args, (execOp a.eval o).run P W = .ok (.enter f args) W ∧ Calls P f args W fun e W' => ∃ v, e = .returned v ∧ R v W' ∧ Below W.heap.size W W')
    (hn : walk3 P DS w0 a0 T (Γ ++ [(o.dst, R)]) rest) : walk3 P DS w0 a0 T Γ (o :: rest) :=
  ⟨R, hs, hg, fun a W hb hd hbase K Q hK => by
    obtain ⟨f, args, hrun, hc⟩ := h a W hb hd hbase
    unfold Oper.wp
    rw [hrun]
    simp only [Oper.upon]
    refine hc.mono ?_
    rintro e W' ⟨v, rfl, hR, hbb⟩
    exact hK v W' hR hbb, hn⟩
/-- A call whose arguments and result are known. -/
theorem call3 (v : Value) (f : FuncId) (args : Array Value) (hg : GOK3 Γ o)
    (h : ∀ (a : Act) (W : World), Below w0.heap.size w0 W → deps Γ a W (ons o) → (∀ t, t ∉ DS → a.eval (.tmp t) = a0.eval (.tmp t)) → (execOp a.eval o).run P W = .ok (.enter f args) W)
    (hc : ∀ W, Below w0.heap.size w0 W → Calls P f args W fun e W' => e = .returned v ∧ Below W.heap.size W W')
    (hn : walk3 P DS w0 a0 T (Γ ++ [(o.dst, fun u _ => u = v)]) rest) : walk3 P DS w0 a0 T Γ (o :: rest) :=
  callR3 _ (stable_eq v) hg (fun a W hb hd hbase => ⟨f, args, h a W hb hd hbase, (hc W hb).mono fun e W' ⟨he, hb'⟩ => ⟨v, he, rfl, hb'⟩⟩) hn
theorem done3 (h : T Γ) : walk3 P DS w0 a0 T Γ [] := h
end
end Go.Proofs.YtamldoidalnloaaGreatDoor.Rel

/- The walk of Calm, its goal behind a name of its own: a goal 'wpQuiet ..' unfolds by itself over operations that are passed over, which is slow. -/
namespace Go.Proofs.YtamldoidalnloaaGreatDoor.Calm
open Go.RowKit

section
variable {P : Program} {ops : Array Oper} {C : World → Prop}
structure Still (P : Program) (ops : Array Oper) (C : World → Prop) (Q : Act → Prop) (rest : List Oper) (a : Act) : Prop where
  h : wpQuiet P ops C Q rest a
end
end Go.Proofs.YtamldoidalnloaaGreatDoor.Calm

/- A block known whole, opened: its cells, its place, its marks. No program. -/
namespace Go.Proofs.YtamldoidalnloaaGreatDoor.Calm
theorem Blk.o1 {w : World} {g : Nat} {a0 : Value} (h : Blk w g #[a0]) : w.cell? ⟨g, 0, none⟩ = some a0 ∧ g < w.heap.size ∧ ∀ i, w.frozen? ⟨g, i, none⟩ = false :=
  ⟨h.cell 0 _ rfl, h.lt, h.f⟩
theorem Blk.o2 {w : World} {g : Nat} {a0 a1 : Value} (h : Blk w g #[a0, a1]) : w.cell? ⟨g, 0, none⟩ = some a0 ∧ w.cell? ⟨g, 1, none⟩ = some a1 ∧ g < w.heap.size ∧ ∀ i, w.frozen? ⟨g, i, none⟩ = false :=
  ⟨h.cell 0 _ rfl, h.cell 1 _ rfl, h.lt, h.f⟩
theorem Blk.o3 {w : World} {g : Nat} {a0 a1 a2 : Value} (h : Blk w g #[a0, a1, a2]) : w.cell? ⟨g, 0, none⟩ = some a0 ∧ w.cell? ⟨g, 1, none⟩ = some a1 ∧ w.cell? ⟨g, 2, none⟩ = some a2 ∧ g < w.heap.size ∧ ∀ i, w.frozen? ⟨g, i, none⟩ = false :=
  ⟨h.cell 0 _ rfl, h.cell 1 _ rfl, h.cell 2 _ rfl, h.lt, h.f⟩
end Go.Proofs.YtamldoidalnloaaGreatDoor.Calm

/- Contracts of the small functions of package protect: each returns what its text computes; no old memory changes. -/
namespace Go.Proofs.YtamldoidalnloaaGreatDoor
open Go.RowKit
open Calm (bcell Blk)

theorem Calm.Blk.of_block {w w' : World} {g : Nat} {cs : Array Value} (h : Blk w g cs) (e : w'.heap[g]? = w.heap[g]?) : Blk w' g cs := by
  refine ⟨?_, fun i => ?_, fun i => ?_⟩
  · have h1 := Array.getElem?_eq_getElem h.lt
    rw [h1] at e
    exact (Array.getElem?_eq_some_iff.1 e).1
  · exact (World.cell?_of_block (w := w) (a := ⟨g, i, none⟩) e).trans (h.c i)
  · exact (World.frozen?_of_block (w := w) (a := ⟨g, i, none⟩) e).trans (h.f i)
theorem Calm.Blk.set {w : World} {g : Nat} {cs : Array Value} (h : Blk w g cs) {i : Nat} (hi : i < cs.size) (v : Value) : Blk (w.setCell ⟨g, i, none⟩ v) g (cs.setIfInBounds i v) := by
  refine ⟨by simpa using h.lt, fun j => ?_, fun j => by rw [World.frozen?_setCell]; exact h.f j⟩
  by_cases hj : j = i
  · subst hj
    rw [World.cell?_setCell_same' _ _ _ (by rw [h.c]; simp [hi])]
    simp [hi]
  · rw [World.cell?_setCell_other _ _ _ _ (by intro e; cases e; exact hj rfl), h.c]
    rw [Array.getElem?_setIfInBounds_ne (by omega)]
theorem Calm.Blk.row {w : World} {g : Nat} {cs : Array Value} {t : TypeId} (h : w.heap[g]? = some (.cells cs t (0, 0))) : Blk w g cs :=
  ⟨(Array.getElem?_eq_some_iff.1 h).1, fun i => cell_of_row _ _ i cs t (0, 0) h, fun i => by unfold World.frozen?; rw [h]; simp⟩

theorem heap_new {w : World} {o : Obj} {k : Nat} (h : k = w.heap.size) : (w.alloc o).heap[k]? = some o := h ▸ heap_alloc_new w o
theorem name_world {P : Program} {C : Code} {Q : Exit → Act → World → Prop} {a : Act} {W : World} (h : ∀ w2, w2 = W → C.wp P Q a w2) : C.wp P Q a W := h _ rfl

/-- the error of a range, as a number. -/
def rangeErr (n lo hi : Int) : Int := if n < lo ∨ hi < n then 3 else 0
theorem rangeErr_lo {n lo hi : Int} (h : n < lo) : rangeErr n lo hi = 3 := if_pos (.inl h)
theorem rangeErr_hi {n lo hi : Int} (h : hi < n) : rangeErr n lo hi = 3 := if_pos (.inr h)
theorem rangeErr_in {n lo hi : Int} (h : lo ≤ n) (h' : n ≤ hi) : rangeErr n lo hi = 0 := if_neg (by omega)
theorem ret_i {a b : Int} (h : a = b) : Ending.returned (.int .i64 a) = .returned (.int .i64 b) := by rw [h]

/-- the first of some numbers that is not 0. -/
def firstOf (l : List Int) : Int := (l.find? (· != 0)).getD 0
theorem firstOf_take {l : List Int} {k : Nat} (h : ∀ j, j < k → l.getD j 0 = 0) (hk : k < l.length) (hn : l.getD k 0 ≠ 0) : firstOf l = l.getD k 0 := by
  induction l generalizing k with
  | nil => simp at hk
  | cons x l ih =>
    cases k with
    | zero => simp at hn; simp [firstOf, hn]
    | succ k =>
      have h0 : x = 0 := by simpa using h 0 (by omega)
      have := ih (k := k) (fun j hj => by simpa using h (j + 1) (by omega)) (by simpa using hk) (by simpa using hn)
      subst h0
      simpa [firstOf] using this
theorem firstOf_zero {l : List Int} (h : ∀ j, j < l.length → l.getD j 0 = 0) : firstOf l = 0 := by
  induction l with
  | nil => rfl
  | cons x l ih =>
    have h0 : x = 0 := by simpa using h 0 (by simp)
    have := ih (fun j hj => by simpa using h (j + 1) (by simpa using hj))
    subst h0
    simpa [firstOf] using this
/-- the slice of these integers lies in memory (an empty one anywhere, or nowhere). -/
def Cells (w : World) (A : Option Addr) (zs : List Int) : Prop :=
  0 < zs.length → ∃ b off, A = some ⟨b, off, none⟩ ∧ b < w.heap.size ∧ ∀ k, k < zs.length → w.cell? ⟨b, off + k, none⟩ = some (.int .i64 (zs.getD k 0))
theorem Cells.below {w w' : World} {A : Option Addr} {zs : List Int} (h : Cells w A zs) (hb : Below w.heap.size w w') : Cells w' A zs := by
  intro h0
  obtain ⟨b, off, hA, hl, hc⟩ := h h0
  exact ⟨b, off, hA, Nat.lt_of_lt_of_le hl hb.size, fun k hk => (hb.cell (p := ⟨b, off + k, none⟩) hl).trans (hc k hk)⟩
theorem ownsRow_below {w w' : World} {B e size n : Nat} {v : Value} {xs : List Value} (h : w.ownsRow B e size v n xs) (hb : Below w.heap.size w w') : w'.ownsRow B e size v n xs := by
  refine ⟨h.1, ?_⟩
  rcases h.2 with hn | ⟨g, cap, cur, rfl, hg, hgg, rest⟩
  · exact .inl hn
  · exact .inr ⟨g, cap, cur, rfl, hg, by rw [hb.block g (Array.getElem?_eq_some_iff.1 hgg).1]; exact hgg, rest⟩

theorem grown_blk {W W' : World} {g : Nat} {cs : Array Value} {row : Option Nat} (K : Blk W g cs) (hg : W.grownBy W' row) (hne : ∀ k, row = some k → k ≠ g) : Blk W' g cs :=
  K.of_block (hg.block g K.lt (fun e => hne g e.symm rfl))
/-- the absolute value. -/
def absI (n : Int) : Int := max n (-n)
end Go.Proofs.YtamldoidalnloaaGreatDoor

/- Contracts of package protect: heat, reach. -/
namespace Go.Proofs.YtamldoidalnloaaGreatDoor
open Go.RowKit
open Calm (bcell Blk)

end Go.Proofs.YtamldoidalnloaaGreatDoor
