/- Part 2 of the texts of the claim: Rel3, Calm2, Opn, P1, P2. -/
import Derived.Test.YtdeapbihbhoefaaDoorPr1
import Derived.ArgAppend
import Derived.Test.YtdeapbihbhoefaaDoorRows
import Derived.WalkKit
import Derived.WalkSpells
import Derived.WalkLawsBesides
import Derived.Lib.Hide
import Derived.BigQuiet
import Derived.Deep.OwnRows
import Derived.Laws.CopyOwn

/- Regions whose order is open and whose edges bind in part; an append and a call with relational results in the head. -/
namespace Go.Proofs.YtdeapbihbhoefaaDoor.Rel
open Go.RowKit
/-- the operations that this one waits for. -/
def ons (o : Oper) : List Nat := (o.after.toList.filter fun e => Region.binds .any e).map (·.on)
def Ob3 (P : Program) (DS : List Tmp) (w0 : World) (a0 : Act) (Γ : Ctx) (o : Oper) (R : Know) : Prop :=
  ∀ (a : Act) (W : World), Below w0.heap.size w0 W → deps Γ a W (ons o) → (∀ t, t ∉ DS → a.eval (.tmp t) = a0.eval (.tmp t)) →
    ∀ (K : Act → World → Prop) (Q : Exit → Act → World → Prop), (∀ v W', R v W' → Below W.heap.size W W' → K (a.put o.dst v) W') → o.wp P a W K Q
def GOK3 (Γ : Ctx) (o : Oper) : Prop := o.guard = none ∨ ∃ g b t, o.guard = some (g, b) ∧ g ∈ ons o ∧ Γ[g]? = some (some t, fun u _ => u = .bool b)
def walk3 (P : Program) (DS : List Tmp) (w0 : World) (a0 : Act) (T : Ctx → Prop) : Ctx → List Oper → Prop
  | Γ, [] => T Γ
  | Γ, o :: l => ∃ R, Stable R ∧ GOK3 Γ o ∧ Ob3 P DS w0 a0 Γ o R ∧ walk3 P DS w0 a0 T (Γ ++ [(o.dst, R)]) l
theorem walk_of_walk3 {P : Program} {ops : Array Oper} {n : Nat} {DS : List Tmp} {w0 : World} {a0 : Act} {T : Ctx → Prop} {T' : List Know → Prop} (hDS : ∀ t, t ∉ DS → ∀ j, j < n → dst ops j ≠ some t)
    (hT : ∀ Γ, T Γ → T' (Γ.map (·.2))) :
    ∀ (l : List Oper) (Γ : Ctx), (∀ j, j < l.length → l[j]? = ops[Γ.length + j]?) → (∀ j d R, Γ[j]? = some (d, R) → dst ops j = d) → walk3 P DS w0 a0 T Γ l → walk P ops n w0 a0 T' (Γ.map (·.2)) l
  | [], Γ, _, _, h => hT Γ h
  | o :: l, Γ, hl, hΓ, h => by
    obtain ⟨R, hs, hg, hob, hw⟩ := h
    have h0 : ops[Γ.length]? = some o := by simpa using (hl 0 (by simp)).symm
    have hg' : GOK ops (Γ.map (·.2)) o := by
      rcases hg with hg | ⟨g, b, t, hg, hin, hΓg⟩
      · exact .inl hg
      · obtain ⟨e, he, rfl⟩ := List.mem_map.1 hin
        obtain ⟨he1, he2⟩ := List.mem_filter.1 he
        exact .inr ⟨e.on, b, t, hg, ⟨e, by simpa using he1, he2, rfl⟩, hΓ _ _ _ hΓg, by simp [hΓg]⟩
    refine ⟨R, hs, hg', fun _ => ?_, ?_⟩
    · intro a W hb hz hd hbase K Q hK
      refine hob a W hb (deps_of _ fun j hj => ?_) (fun t ht => hbase t (fun j hj => hDS t ht j hj)) K Q hK
      obtain ⟨e, he, rfl⟩ := List.mem_map.1 hj
      obtain ⟨he1, he2⟩ := List.mem_filter.1 he
      have he' : e ∈ o.after := by simpa using he1
      cases hc : Γ[e.on]? with
      | none => trivial
      | some c =>
        obtain ⟨d, K'⟩ := c
        cases d with
        | none => trivial
        | some t => exact hd e he' he2 t (hΓ _ _ _ hc) K' (by simp [hc])
    · have := walk_of_walk3 hDS hT l (Γ ++ [(o.dst, R)]) (fun j hj => by
        have := hl (j + 1) (by simp; omega)
        simpa [Nat.add_assoc, Nat.add_comm 1 j] using this) (fun j d R' hj => by
        rcases Nat.lt_or_ge j Γ.length with h | h
        · rw [List.getElem?_append_left h] at hj
          exact hΓ j d R' hj
        · have hjl : j < (Γ ++ [(o.dst, R)]).length := (List.getElem?_eq_some_iff.1 hj).1
          obtain rfl : j = Γ.length := by simp at hjl; omega
          simp at hj
          rw [← hj.1]
          simp [dst, h0]) hw
      simpa using this
theorem region3_w {P : Program} {Q : Exit → Act → World → Prop} {a : Act} {w : World} {l : List Oper} (n : Nat) (hok : okB l.toArray n = true) (hsz : sizeB l.toArray n a.tmps.size = true)
    (h : walk3 P ((l.take n).filterMap (·.dst)) w a (fun Γ => ∀ (x : Nat → Value) (W : World), Below w.heap.size w W → facts x W 0 Γ → wpList P l.toArray Q (l.drop n) (fill (l.take n) 0 x a) W) [] (l.take n)) :
    wpAny P .any l.toArray Q l.toArray.size (Array.replicate l.toArray.size false) a { w with drawn := w.drawn + 1 } := by
  have hn' : n < l.length := by
    simp only [okB, Bool.and_eq_true, decide_eq_true_eq] at hok
    simpa using hok.1.1.1.1.1
  have htl : (l.take n).length = n := by simp; omega
  refine region_w n hok hsz (walk_of_walk3 (n := n) (fun t ht j hj hd => ht ?_) (fun Γ hT x W hb hx => hT x W hb (facts_of Γ 0 (fun j K hj => by rw [Nat.zero_add]; exact hx j K hj))) (l.take n) [] (fun j hj => by
      rw [htl] at hj
      simp [List.getElem?_take, hj]) (fun j d R hj => by simp at hj) h)
  have hlj : j < l.length := by omega
  simp [dst, hlj] at hd
  exact List.mem_filterMap.2 ⟨l[j], List.mem_iff_getElem.2 ⟨j, by omega, by simp⟩, hd⟩
theorem region3 {P : Program} {id : Nat} {Q : Exit → Act → World → Prop} {a : Act} {w : World} {l : List Oper} (n : Nat) (hm : P.follows .mixedOrders = true) (hok : okB l.toArray n = true) (hsz : sizeB l.toArray n a.tmps.size = true)
    (h : walk3 P ((l.take n).filterMap (·.dst)) w a (fun Γ => ∀ (x : Nat → Value) (W : World), Below w.heap.size w W → facts x W 0 Γ → wpList P l.toArray Q (l.drop n) (fill (l.take n) 0 x a) W) [] (l.take n)) :
    (Code.region id l.toArray true).wp P Q a w := wp_region_any hm (region3_w n hok hsz h)
section
variable {P : Program} {DS : List Tmp} {w0 : World} {a0 : Act} {T : Ctx → Prop} {Γ : Ctx} {o : Oper} {rest : List Oper}
theorem gno {Γ : Ctx} {o : Oper} (h : o.guard = none) : GOK3 Γ o := .inl h
theorem gyes {Γ : Ctx} {o : Oper} (g : Nat) (b : Bool) (t : Tmp) (h1 : o.guard = some (g, b)) (h2 : (ons o).contains g = true) (h3 : Γ[g]? = some (some t, fun u _ => u = .bool b)) : GOK3 Γ o :=
  .inr ⟨g, b, t, h1, by simpa using h2, h3⟩
theorem op3 (v : Value) (hg : GOK3 Γ o) (h : ∀ (a : Act) (W : World), Below w0.heap.size w0 W → deps Γ a W (ons o) → (∀ t, t ∉ DS → a.eval (.tmp t) = a0.eval (.tmp t)) → (execOp a.eval o).run P W = .ok (.value v) W)
    (hn : walk3 P DS w0 a0 T (Γ ++ [(o.dst, fun u _ => u = v)]) rest) : walk3 P DS w0 a0 T Γ (o :: rest) :=
  ⟨_, stable_eq v, hg, fun a W hb hd hbase K Q hK => by
    unfold Oper.wp
    rw [h a W hb hd hbase]
    exact hK v W rfl (Below.refl _ _), hn⟩
/-- One operation that only reads, of whose result R is known. -/
theorem opR3 (R : Know) (hs : Stable R) (hg : GOK3 Γ o) (h : ∀ (a : Act) (W : World), Below w0.heap.size w0 W → deps Γ a W (ons o) → (∀ t, t ∉ DS → a.eval (.tmp t) = a0.eval (.tmp t)) → ∃ v, (execOp a.eval o).run P W = .ok (.value v) W ∧ R v W)
    (hn : walk3 P DS w0 a0 T (Γ ++ [(o.dst, R)]) rest) : walk3 P DS w0 a0 T Γ (o :: rest) :=
  ⟨_, hs, hg, fun a W hb hd hbase K Q hK => by
    obtain ⟨v, h1, h2⟩ := h a W hb hd hbase
    unfold Oper.wp
    rw [h1]
    exact hK v W h2 (Below.refl _ _), hn⟩
theorem build3 (t : TypeId) (n c : Nat) (cs : Array Value) (hg : GOK3 Γ o)
    (h : ∀ (a : Act) (W : World), Below w0.heap.size w0 W → deps Γ a W (ons o) → (∀ t, t ∉ DS → a.eval (.tmp t) = a0.eval (.tmp t)) → (execOp a.eval o).run P W = .ok (.value (.slice (some ⟨W.heap.size, 0, none⟩) n c)) (W.alloc (.cells cs t)))
    (hn : walk3 P DS w0 a0 T (Γ ++ [(o.dst, NewS w0.heap.size n c cs)]) rest) : walk3 P DS w0 a0 T Γ (o :: rest) :=
  ⟨_, stable_newS _ n c cs, hg, fun a W hb hd hbase K Q hK => by
    unfold Oper.wp
    rw [h a W hb hd hbase]
    exact hK _ _ ⟨_, rfl, hb.size, Calm.Blk.new W t cs⟩ ((Below.refl _ _).alloc (Nat.le_refl _) _), hn⟩
/-- A slice that owns a row. -/
def OwnS (B : Nat) (e : TypeId) (size n : Nat) (xs : List Value) : Know := fun u W => W.ownsRow B e size u n xs
theorem stable_ownS (B : Nat) (e : TypeId) (size n : Nat) (xs : List Value) : Stable (OwnS B e size n xs) := fun u W W' h hb => by
  refine ⟨h.1, ?_⟩
  rcases h.2 with h2 | ⟨g, cap, cur, h1, h2, h3, h4⟩
  · exact .inl h2
  · exact .inr ⟨g, cap, cur, h1, h2, (hb.block g (Array.getElem?_eq_some_iff.1 h3).1).trans h3, h4⟩
/-- An empty slice of its own that is not nil. -/
def Empty (B : Nat) (e : TypeId) (size : Nat) : Know := fun u W => (∃ g, u = .slice (some ⟨g, 0, none⟩) 0 0) ∧ W.ownsRow B e size u 0 []
theorem stable_empty (B : Nat) (e : TypeId) (size : Nat) : Stable (Empty B e size) := fun u W W' h hb => ⟨h.1, stable_ownS B e size 0 [] u W W' h.2 hb⟩
theorem empty3 (e : TypeId) (size : Nat) (hg : GOK3 Γ o)
    (h : ∀ (a : Act) (W : World), (execOp a.eval o).run P W = .ok (.value (.slice (some ⟨W.heap.size, 0, none⟩) 0 0)) (W.alloc (.cells #[] e)))
    (hn : walk3 P DS w0 a0 T (Γ ++ [(o.dst, Empty w0.heap.size e size)]) rest) : walk3 P DS w0 a0 T Γ (o :: rest) :=
  ⟨_, stable_empty _ _ _, hg, fun a W hb hd hbase K Q hK => by
    unfold Oper.wp
    rw [h a W]
    refine hK _ _ ⟨⟨_, rfl⟩, by simp, .inr ⟨_, 0, #[], rfl, hb.size, by show (W.heap.push _)[W.heap.size]? = _; simp, Nat.le_refl _, Nat.zero_le _, by simp, by simp⟩⟩ ((Below.refl _ _).alloc (Nat.le_refl _) _), hn⟩
theorem run_append_zero (W : World) (t ty e : TypeId) (i : TypeInfo) (z : Value) (ht : P.underlying t = some (.slice e)) (hi : P.info? e = some i) (hz : i.zero = some z) (b : Addr) (A : Option Addr) (c : Nat) :
    (Builtin.append_ #[t, t] ty #[.slice (some b) 0 0, .slice A 0 c]).run P W = .ok (.slice (some b) 0 0) W := by
  have hl : ∀ (x : Addr), (loadCells x 0).run P W = .ok #[] W := fun x => by simpa using run_loadCells_list (P := P) W x [] (by simp)
  cases A <;> simp [Builtin.append_, run_underlying ht, sizeOf, typeInfo, zeroValue, hi, hz, Builtin.lenOf, Builtin.firstCells, storeCells, hl]
/-- 'append([]T{}, l...)'. -/
theorem app3 (s x : Operand) (t : TypeId) (hop : o.op = .call { callee := .builtin .append, args := #[s, x], argTypes := #[t, t] }) (e : TypeId) (i : TypeInfo) (z : Value) (size bytes : Nat)
    (ht : P.underlying t = some (.slice e)) (hi : P.info? e = some i) (hz : i.zero = some z) (hsize : i.size = size) (hby : i.bytes = bytes) (hzs : z.cells.size = size) (hsz : 0 < size) (n : Nat) (news : List Value) (hl : news.length = n * size) (h1 : ∀ u ∈ news, u.oneCell' = true) (h63 : n ≤ maxLen) (hbytes : n * bytes ≤ 140737488355328) (hg : GOK3 Γ o)
    (h : ∀ (a : Act) (W : World), Below w0.heap.size w0 W → deps Γ a W (ons o) → (∀ t, t ∉ DS → a.eval (.tmp t) = a0.eval (.tmp t)) → (∃ v0, a.eval s = v0 ∧ Empty w0.heap.size e size v0 W) ∧ ∃ A c, a.eval x = .slice A n c ∧ (0 < n → ∃ ad, A = some ad ∧ ∀ j u, news[j]? = some u → W.cell? (ad.add j) = some u))
    (hn : walk3 P DS w0 a0 T (Γ ++ [(o.dst, OwnS w0.heap.size e size n news)]) rest) : walk3 P DS w0 a0 T Γ (o :: rest) :=
  ⟨_, stable_ownS _ _ _ _ _, hg, fun a W hb hd hbase K Q hK => by
    obtain ⟨⟨v0, hs, ⟨g, hgv⟩, hown⟩, A, c, hx, hc⟩ := h a W hb hd hbase
    subst hgv
    rcases Nat.eq_zero_or_pos n with rfl | hpos
    · obtain rfl : news = [] := List.eq_nil_of_length_eq_zero (by omega)
      have hrun := run_append_zero (P := P) W t o.type e i z ht hi hz ⟨g, 0, none⟩ A c
      unfold Oper.wp
      simp [execOp, hop, resolve, invoke, builtin, hs, hx, hrun, Result.andThen]
      exact hK _ _ hown (Below.refl _ _)
    · obtain ⟨ad, rfl, hc2⟩ := hc hpos
      obtain ⟨v', w', hrun, r1, r2⟩ := run_append_arg_grows (P := P) W t o.type e i z size bytes ht hi hz hsize hby hzs hsz ⟨g, 0, none⟩ 0 0 [] (by simp) (by simp) ad n c news hl hc2 (by omega) (by omega) (by rw [Nat.zero_add]; exact hbytes)
      unfold Oper.wp
      simp [execOp, hop, resolve, invoke, builtin, hs, hx, hrun, Result.andThen]
      refine hK v' w' ?_ ((Below.refl W.heap.size W).grown r2 (Nat.le_refl _) (fun k hk => by cases hk))
      have r1' : w'.ownsRow W.heap.size e size v' n news := by simpa using r1
      refine ⟨r1'.1, ?_⟩
      rcases r1'.2 with h2 | ⟨g', cap, cur, h1, h2, h3⟩
      · exact .inl h2
      · exact .inr ⟨g', cap, cur, h1, Nat.le_trans hb.size h2, h3⟩, hn⟩
/-- A call, by a contract. -/
theorem callR3 (R : Know) (hs : Stable R) (hg : GOK3 Γ o)
    (h : ∀ (a : Act) (W : World), Below w0.heap.size w0 W → deps Γ a W (ons o) → (∀ t, t ∉ DS → a.eval (.tmp t) = a0.eval (.tmp t)) → ∃ f args, (execOp a.eval o).run P W = .ok (.enter f args) W ∧ Calls P f args W fun e W' => ∃ v, e = .returned v ∧ R v W' ∧ Below W.heap.size W W')
    (hn : walk3 P DS w0 a0 T (Γ ++ [(o.dst, R)]) rest) : walk3 P DS w0 a0 T Γ (o :: rest) :=
  ⟨R, hs, hg, fun a W hb hd hbase K Q hK => by
    obtain ⟨f, args, hrun, hc⟩ := h a W hb hd hbase
    unfold Oper.wp
    rw [hrun]
    simp only [Oper.upon]
    refine hc.mono ?_
    rintro e W' ⟨v, rfl, hR, hbb⟩
    exact hK v W' hR hbb, hn⟩
/-- A call whose arguments and result are known. -/
theorem call3 (v : Value) (f : FuncId) (args : Array Value) (hg : GOK3 Γ o)
    (h : ∀ (a : Act) (W : World), Below w0.heap.size w0 W → deps Γ a W (ons o) → (∀ t, t ∉ DS → a.eval (.tmp t) = a0.eval (.tmp t)) → (execOp a.eval o).run P W = .ok (.enter f args) W)
    (hc : ∀ W, Below w0.heap.size w0 W → Calls P f args W fun e W' => e = .returned v ∧ Below W.heap.size W W')
    (hn : walk3 P DS w0 a0 T (Γ ++ [(o.dst, fun u _ => u = v)]) rest) : walk3 P DS w0 a0 T Γ (o :: rest) :=
  callR3 _ (stable_eq v) hg (fun a W hb hd hbase => ⟨f, args, h a W hb hd hbase, (hc W hb).mono fun e W' ⟨he, hb'⟩ => ⟨v, he, rfl, hb'⟩⟩) hn
theorem done3 (h : T Γ) : walk3 P DS w0 a0 T Γ [] := h
end
end Go.Proofs.YtdeapbihbhoefaaDoor.Rel

/- The walk of Calm, its goal behind a name of its own: a goal 'wpQuiet ..' unfolds by itself over operations that are passed over, which is slow. -/
namespace Go.Proofs.YtdeapbihbhoefaaDoor.Calm
open Go.RowKit

section
variable {P : Program} {ops : Array Oper} {C : World → Prop}
structure Still (P : Program) (ops : Array Oper) (C : World → Prop) (Q : Act → Prop) (rest : List Oper) (a : Act) : Prop where
  h : wpQuiet P ops C Q rest a
theorem still_op {Q : Act → Prop} {a : Act} {o : Oper} {rest : List Oper} (v : Value) (hw : Region.wanted o (yielded ops a.tmps) = true) (h : ∀ w, C w → (execOp a.eval o).run P w = .ok (.value v) w)
    (hn : Still P ops C Q rest (a.put o.dst v)) : Still P ops C Q (o :: rest) a := ⟨op v hw h hn.h⟩
theorem still_op_move {Q : Act → Prop} {a : Act} {o : Oper} {rest : List Oper} (v : Value) (x : Operand) (hw : Region.wanted o (yielded ops a.tmps) = true) (ho : o.op = .move x ∨ o.op = .assign x) (hv : a.eval x = v)
    (hn : Still P ops C Q rest (a.put o.dst v)) : Still P ops C Q (o :: rest) a := ⟨op_move v x hw ho hv hn.h⟩
theorem still_op_not {Q : Act → Prop} {a : Act} {o : Oper} {rest : List Oper} (hw : Region.wanted o (yielded ops a.tmps) = false) (hn : Still P ops C Q rest (a.put o.dst undef)) : Still P ops C Q (o :: rest) a := ⟨op_not hw hn.h⟩
theorem still_op_call {Q : Act → Prop} {a : Act} {o : Oper} {rest : List Oper} (v : Value) (f : FuncId) (args : Array Value) (hw : Region.wanted o (yielded ops a.tmps) = true) (h : ∀ w, C w → (execOp a.eval o).run P w = .ok (.enter f args) w)
    (hc : ∀ w, C w → Calls P f args w fun e w' => e = .returned v ∧ C w') (hn : Still P ops C Q rest (a.put o.dst v)) : Still P ops C Q (o :: rest) a := ⟨op_call v f args hw h hc hn.h⟩
theorem still_nil {Q : Act → Prop} {a : Act} (h : Q a) : Still P ops C Q [] a := ⟨wpQuiet_nil h⟩
theorem still_tail {id : Nat} {Q : Exit → Act → World → Prop} {a : Act} {w : World} {l : List Oper} (n : Nat) (hm : P.follows .mixedOrders = true) (hB : Region.lexTailB .any l.toArray n = true)
    (h : Still P l.toArray (fun W => Below w.heap.size w W) (fun a' => ∀ w', Below w.heap.size w w' → wpList P l.toArray Q (l.drop n) a' w') (l.take n) a) : (Code.region id l.toArray true).wp P Q a w :=
  tail_below n hm hB h.h
theorem still_all {id : Nat} {Q : Exit → Act → World → Prop} {a : Act} {w : World} {l : List Oper} (hm : P.follows .mixedOrders = true) (hB : Region.lexB .any l.toArray = true)
    (h : Still P l.toArray (fun W => Below w.heap.size w W) (fun a' => ∀ w', Below w.heap.size w w' → Q .normal a' w') l a) : (Code.region id l.toArray true).wp P Q a w :=
  all_below hm hB h.h
end
end Go.Proofs.YtdeapbihbhoefaaDoor.Calm

/- A block known whole, opened: its cells, its place, its marks. No program. -/
namespace Go.Proofs.YtdeapbihbhoefaaDoor.Calm
theorem Blk.o1 {w : World} {g : Nat} {a0 : Value} (h : Blk w g #[a0]) : w.cell? ⟨g, 0, none⟩ = some a0 ∧ g < w.heap.size ∧ ∀ i, w.frozen? ⟨g, i, none⟩ = false :=
  ⟨h.cell 0 _ rfl, h.lt, h.f⟩
theorem Blk.o2 {w : World} {g : Nat} {a0 a1 : Value} (h : Blk w g #[a0, a1]) : w.cell? ⟨g, 0, none⟩ = some a0 ∧ w.cell? ⟨g, 1, none⟩ = some a1 ∧ g < w.heap.size ∧ ∀ i, w.frozen? ⟨g, i, none⟩ = false :=
  ⟨h.cell 0 _ rfl, h.cell 1 _ rfl, h.lt, h.f⟩
theorem Blk.o3 {w : World} {g : Nat} {a0 a1 a2 : Value} (h : Blk w g #[a0, a1, a2]) : w.cell? ⟨g, 0, none⟩ = some a0 ∧ w.cell? ⟨g, 1, none⟩ = some a1 ∧ w.cell? ⟨g, 2, none⟩ = some a2 ∧ g < w.heap.size ∧ ∀ i, w.frozen? ⟨g, i, none⟩ = false :=
  ⟨h.cell 0 _ rfl, h.cell 1 _ rfl, h.cell 2 _ rfl, h.lt, h.f⟩
theorem Blk.o4 {w : World} {g : Nat} {a0 a1 a2 a3 : Value} (h : Blk w g #[a0, a1, a2, a3]) : w.cell? ⟨g, 0, none⟩ = some a0 ∧ w.cell? ⟨g, 1, none⟩ = some a1 ∧ w.cell? ⟨g, 2, none⟩ = some a2 ∧ w.cell? ⟨g, 3, none⟩ = some a3 ∧ g < w.heap.size ∧ ∀ i, w.frozen? ⟨g, i, none⟩ = false :=
  ⟨h.cell 0 _ rfl, h.cell 1 _ rfl, h.cell 2 _ rfl, h.cell 3 _ rfl, h.lt, h.f⟩
theorem Blk.o5 {w : World} {g : Nat} {a0 a1 a2 a3 a4 : Value} (h : Blk w g #[a0, a1, a2, a3, a4]) : w.cell? ⟨g, 0, none⟩ = some a0 ∧ w.cell? ⟨g, 1, none⟩ = some a1 ∧ w.cell? ⟨g, 2, none⟩ = some a2 ∧ w.cell? ⟨g, 3, none⟩ = some a3 ∧ w.cell? ⟨g, 4, none⟩ = some a4 ∧ g < w.heap.size ∧ ∀ i, w.frozen? ⟨g, i, none⟩ = false :=
  ⟨h.cell 0 _ rfl, h.cell 1 _ rfl, h.cell 2 _ rfl, h.cell 3 _ rfl, h.cell 4 _ rfl, h.lt, h.f⟩
theorem Blk.o6 {w : World} {g : Nat} {a0 a1 a2 a3 a4 a5 : Value} (h : Blk w g #[a0, a1, a2, a3, a4, a5]) : w.cell? ⟨g, 0, none⟩ = some a0 ∧ w.cell? ⟨g, 1, none⟩ = some a1 ∧ w.cell? ⟨g, 2, none⟩ = some a2 ∧ w.cell? ⟨g, 3, none⟩ = some a3 ∧ w.cell? ⟨g, 4, none⟩ = some a4 ∧ w.cell? ⟨g, 5, none⟩ = some a5 ∧ g < w.heap.size ∧ ∀ i, w.frozen? ⟨g, i, none⟩ = false :=
  ⟨h.cell 0 _ rfl, h.cell 1 _ rfl, h.cell 2 _ rfl, h.cell 3 _ rfl, h.cell 4 _ rfl, h.cell 5 _ rfl, h.lt, h.f⟩
theorem Blk.o7 {w : World} {g : Nat} {a0 a1 a2 a3 a4 a5 a6 : Value} (h : Blk w g #[a0, a1, a2, a3, a4, a5, a6]) : w.cell? ⟨g, 0, none⟩ = some a0 ∧ w.cell? ⟨g, 1, none⟩ = some a1 ∧ w.cell? ⟨g, 2, none⟩ = some a2 ∧ w.cell? ⟨g, 3, none⟩ = some a3 ∧ w.cell? ⟨g, 4, none⟩ = some a4 ∧ w.cell? ⟨g, 5, none⟩ = some a5 ∧ w.cell? ⟨g, 6, none⟩ = some a6 ∧ g < w.heap.size ∧ ∀ i, w.frozen? ⟨g, i, none⟩ = false :=
  ⟨h.cell 0 _ rfl, h.cell 1 _ rfl, h.cell 2 _ rfl, h.cell 3 _ rfl, h.cell 4 _ rfl, h.cell 5 _ rfl, h.cell 6 _ rfl, h.lt, h.f⟩
theorem Blk.o8 {w : World} {g : Nat} {a0 a1 a2 a3 a4 a5 a6 a7 : Value} (h : Blk w g #[a0, a1, a2, a3, a4, a5, a6, a7]) : w.cell? ⟨g, 0, none⟩ = some a0 ∧ w.cell? ⟨g, 1, none⟩ = some a1 ∧ w.cell? ⟨g, 2, none⟩ = some a2 ∧ w.cell? ⟨g, 3, none⟩ = some a3 ∧ w.cell? ⟨g, 4, none⟩ = some a4 ∧ w.cell? ⟨g, 5, none⟩ = some a5 ∧ w.cell? ⟨g, 6, none⟩ = some a6 ∧ w.cell? ⟨g, 7, none⟩ = some a7 ∧ g < w.heap.size ∧ ∀ i, w.frozen? ⟨g, i, none⟩ = false :=
  ⟨h.cell 0 _ rfl, h.cell 1 _ rfl, h.cell 2 _ rfl, h.cell 3 _ rfl, h.cell 4 _ rfl, h.cell 5 _ rfl, h.cell 6 _ rfl, h.cell 7 _ rfl, h.lt, h.f⟩
theorem Blk.o9 {w : World} {g : Nat} {a0 a1 a2 a3 a4 a5 a6 a7 a8 : Value} (h : Blk w g #[a0, a1, a2, a3, a4, a5, a6, a7, a8]) : w.cell? ⟨g, 0, none⟩ = some a0 ∧ w.cell? ⟨g, 1, none⟩ = some a1 ∧ w.cell? ⟨g, 2, none⟩ = some a2 ∧ w.cell? ⟨g, 3, none⟩ = some a3 ∧ w.cell? ⟨g, 4, none⟩ = some a4 ∧ w.cell? ⟨g, 5, none⟩ = some a5 ∧ w.cell? ⟨g, 6, none⟩ = some a6 ∧ w.cell? ⟨g, 7, none⟩ = some a7 ∧ w.cell? ⟨g, 8, none⟩ = some a8 ∧ g < w.heap.size ∧ ∀ i, w.frozen? ⟨g, i, none⟩ = false :=
  ⟨h.cell 0 _ rfl, h.cell 1 _ rfl, h.cell 2 _ rfl, h.cell 3 _ rfl, h.cell 4 _ rfl, h.cell 5 _ rfl, h.cell 6 _ rfl, h.cell 7 _ rfl, h.cell 8 _ rfl, h.lt, h.f⟩
theorem Blk.o10 {w : World} {g : Nat} {a0 a1 a2 a3 a4 a5 a6 a7 a8 a9 : Value} (h : Blk w g #[a0, a1, a2, a3, a4, a5, a6, a7, a8, a9]) : w.cell? ⟨g, 0, none⟩ = some a0 ∧ w.cell? ⟨g, 1, none⟩ = some a1 ∧ w.cell? ⟨g, 2, none⟩ = some a2 ∧ w.cell? ⟨g, 3, none⟩ = some a3 ∧ w.cell? ⟨g, 4, none⟩ = some a4 ∧ w.cell? ⟨g, 5, none⟩ = some a5 ∧ w.cell? ⟨g, 6, none⟩ = some a6 ∧ w.cell? ⟨g, 7, none⟩ = some a7 ∧ w.cell? ⟨g, 8, none⟩ = some a8 ∧ w.cell? ⟨g, 9, none⟩ = some a9 ∧ g < w.heap.size ∧ ∀ i, w.frozen? ⟨g, i, none⟩ = false :=
  ⟨h.cell 0 _ rfl, h.cell 1 _ rfl, h.cell 2 _ rfl, h.cell 3 _ rfl, h.cell 4 _ rfl, h.cell 5 _ rfl, h.cell 6 _ rfl, h.cell 7 _ rfl, h.cell 8 _ rfl, h.cell 9 _ rfl, h.lt, h.f⟩
end Go.Proofs.YtdeapbihbhoefaaDoor.Calm

/- Contracts of the small functions of package protect: each returns what its text computes; no old memory changes. -/
namespace Go.Proofs.YtdeapbihbhoefaaDoor
open Go.RowKit
open Calm (bcell Blk)

theorem Calm.Blk.of_block {w w' : World} {g : Nat} {cs : Array Value} (h : Blk w g cs) (e : w'.heap[g]? = w.heap[g]?) : Blk w' g cs := by
  refine ⟨?_, fun i => ?_, fun i => ?_⟩
  · have h1 := Array.getElem?_eq_getElem h.lt
    rw [h1] at e
    exact (Array.getElem?_eq_some_iff.1 e).1
  · exact (World.cell?_of_block (w := w) (a := ⟨g, i, none⟩) e).trans (h.c i)
  · exact (World.frozen?_of_block (w := w) (a := ⟨g, i, none⟩) e).trans (h.f i)
theorem Calm.Blk.set {w : World} {g : Nat} {cs : Array Value} (h : Blk w g cs) {i : Nat} (hi : i < cs.size) (v : Value) : Blk (w.setCell ⟨g, i, none⟩ v) g (cs.setIfInBounds i v) := by
  refine ⟨by simpa using h.lt, fun j => ?_, fun j => by rw [World.frozen?_setCell]; exact h.f j⟩
  by_cases hj : j = i
  · subst hj
    rw [World.cell?_setCell_same' _ _ _ (by rw [h.c]; simp [hi])]
    simp [hi]
  · rw [World.cell?_setCell_other _ _ _ _ (by intro e; cases e; exact hj rfl), h.c]
    rw [Array.getElem?_setIfInBounds_ne (by omega)]
theorem Calm.Blk.set2 {w : World} {g : Nat} {u0 u1 : Value} (h : Blk w g #[u0, u1]) (a b : Value) : Blk ((w.setCell ⟨g, 0, none⟩ a).setCell ⟨g, 1, none⟩ b) g #[a, b] :=
  (h.set (i := 0) (by simp) a).set (i := 1) (by simp) b
theorem Calm.Blk.upto {w w' : World} {g B : Nat} {cs : Array Value} (h : Blk w g cs) (hb : Below B w w') (hg : g < B) : Blk w' g cs := h.of_block (hb.block g hg)
theorem Calm.Blk.row {w : World} {g : Nat} {cs : Array Value} {t : TypeId} (h : w.heap[g]? = some (.cells cs t (0, 0))) : Blk w g cs :=
  ⟨(Array.getElem?_eq_some_iff.1 h).1, fun i => cell_of_row _ _ i cs t (0, 0) h, fun i => by unfold World.frozen?; rw [h]; simp⟩

theorem heap_new {w : World} {o : Obj} {k : Nat} (h : k = w.heap.size) : (w.alloc o).heap[k]? = some o := h ▸ heap_alloc_new w o
theorem heap_old {w : World} {o : Obj} {k : Nat} {v : Option Obj} (hl : k < w.heap.size) (h : w.heap[k]? = v) : (w.alloc o).heap[k]? = v := (Below.heap_alloc _ _ _ hl).trans h

theorem name_world {P : Program} {C : Code} {Q : Exit → Act → World → Prop} {a : Act} {W : World} (h : ∀ w2, w2 = W → C.wp P Q a w2) : C.wp P Q a W := h _ rfl

theorem when_any (b : Bool) (e : Int) (w : World) : Calls Tryd.prog 74 #[.bool b, (.int .i64 (e))] w fun r w' => r = .returned (.int .i64 (if b then e else 0)) ∧ w = w' := by
  cases b <;>
  · go_enter Tryd.func74, Tryd.ntmps74
    go_wp2
    go_ret
    exact ⟨rfl, rfl⟩

/-- the error of a range, as a number. -/
def rangeErr (n lo hi : Int) : Int := if n < lo ∨ hi < n then 3 else 0
theorem rangeErr_lo {n lo hi : Int} (h : n < lo) : rangeErr n lo hi = 3 := if_pos (.inl h)
theorem rangeErr_hi {n lo hi : Int} (h : hi < n) : rangeErr n lo hi = 3 := if_pos (.inr h)
theorem rangeErr_in {n lo hi : Int} (h : lo ≤ n) (h' : n ≤ hi) : rangeErr n lo hi = 0 := if_neg (by omega)
theorem rangeErr_zero {n lo hi : Int} : rangeErr n lo hi = 0 ↔ lo ≤ n ∧ n ≤ hi := by
  unfold rangeErr; split <;> omega
theorem rangeErr_cases (n lo hi : Int) : rangeErr n lo hi = 0 ∧ lo ≤ n ∧ n ≤ hi ∨ rangeErr n lo hi = 3 ∧ (n < lo ∨ hi < n) := by
  unfold rangeErr; split <;> omega
theorem ret_i {a b : Int} (h : a = b) : Ending.returned (.int .i64 a) = .returned (.int .i64 b) := by rw [h]

theorem within_any (n lo hi : Int) (w : World) : Calls Tryd.prog 71 #[(.int .i64 (n)), (.int .i64 (lo)), (.int .i64 (hi))] w fun r w' => r = .returned (.int .i64 (rangeErr n lo hi)) ∧ w = w' := by
  rcases Int.lt_or_le n lo with h | h
  · go_enter Tryd.func71, Tryd.ntmps71
    go_wp2_with (go_at_call 74; refine (when_any _ _ _).mono ?_; rintro r w' ⟨rfl, rfl⟩)
    go_ret
    exact ⟨ret_i (rangeErr_lo h).symm, rfl⟩
  · rcases Int.lt_or_le hi n with h' | h'
    · go_enter Tryd.func71, Tryd.ntmps71
      go_wp2_with (go_at_call 74; refine (when_any _ _ _).mono ?_; rintro r w' ⟨rfl, rfl⟩)
      go_ret
      exact ⟨ret_i (rangeErr_hi h').symm, rfl⟩
    · go_enter Tryd.func71, Tryd.ntmps71
      go_wp2_with (go_at_call 74; refine (when_any _ _ _).mono ?_; rintro r w' ⟨rfl, rfl⟩)
      go_ret
      exact ⟨ret_i (rangeErr_in (by omega) (by omega)).symm, rfl⟩

/-- the first of some numbers that is not 0. -/
def firstOf (l : List Int) : Int := (l.find? (· != 0)).getD 0
theorem firstOf_take {l : List Int} {k : Nat} (h : ∀ j, j < k → l.getD j 0 = 0) (hk : k < l.length) (hn : l.getD k 0 ≠ 0) : firstOf l = l.getD k 0 := by
  induction l generalizing k with
  | nil => simp at hk
  | cons x l ih =>
    cases k with
    | zero => simp at hn; simp [firstOf, hn]
    | succ k =>
      have h0 : x = 0 := by simpa using h 0 (by omega)
      have := ih (k := k) (fun j hj => by simpa using h (j + 1) (by omega)) (by simpa using hk) (by simpa using hn)
      subst h0
      simpa [firstOf] using this
theorem firstOf_zero {l : List Int} (h : ∀ j, j < l.length → l.getD j 0 = 0) : firstOf l = 0 := by
  induction l with
  | nil => rfl
  | cons x l ih =>
    have h0 : x = 0 := by simpa using h 0 (by simp)
    have := ih (fun j hj => by simpa using h (j + 1) (by simpa using hj))
    subst h0
    simpa [firstOf] using this
/-- the slice of these integers lies in memory (an empty one anywhere, or nowhere). -/
def Cells (w : World) (A : Option Addr) (zs : List Int) : Prop :=
  0 < zs.length → ∃ b off, A = some ⟨b, off, none⟩ ∧ b < w.heap.size ∧ ∀ k, k < zs.length → w.cell? ⟨b, off + k, none⟩ = some (.int .i64 (zs.getD k 0))
theorem Cells.below {w w' : World} {A : Option Addr} {zs : List Int} (h : Cells w A zs) (hb : Below w.heap.size w w') : Cells w' A zs := by
  intro h0
  obtain ⟨b, off, hA, hl, hc⟩ := h h0
  exact ⟨b, off, hA, Nat.lt_of_lt_of_le hl hb.size, fun k hk => (hb.cell (p := ⟨b, off + k, none⟩) hl).trans (hc k hk)⟩
theorem ownsRow_below {w w' : World} {B e size n : Nat} {v : Value} {xs : List Value} (h : w.ownsRow B e size v n xs) (hb : Below w.heap.size w w') : w'.ownsRow B e size v n xs := by
  refine ⟨h.1, ?_⟩
  rcases h.2 with hn | ⟨g, cap, cur, rfl, hg, hgg, rest⟩
  · exact .inl hn
  · exact .inr ⟨g, cap, cur, rfl, hg, by rw [hb.block g (Array.getElem?_eq_some_iff.1 hgg).1]; exact hgg, rest⟩

theorem grown_blk {W W' : World} {g : Nat} {cs : Array Value} {row : Option Nat} (K : Blk W g cs) (hg : W.grownBy W' row) (hne : ∀ k, row = some k → k ≠ g) : Blk W' g cs :=
  K.of_block (hg.block g K.lt (fun e => hne g e.symm rfl))
theorem grown_cells {W W' : World} {A : Option Addr} {zs : List Int} {row : Option Nat} (h : Cells W A zs) (hg : W.grownBy W' row) (hne : ∀ k, row = some k → ∀ p, A = some p → k ≠ p.block) : Cells W' A zs := by
  intro h0
  obtain ⟨b, off, hA, hl, hc⟩ := h h0
  have hb : W'.heap[b]? = W.heap[b]? := hg.block b hl (fun e => hne b e.symm _ hA rfl)
  exact ⟨b, off, hA, Nat.lt_of_lt_of_le hl hg.size, fun k hk => (World.cell?_of_block (w := W) (a := ⟨b, off + k, none⟩) hb).trans (hc k hk)⟩
/-- this block is a row of integers. -/
def IntRow (w : World) (B : Addr) : Prop := ∃ cur, w.heap[B.block]? = some (.cells cur 3 (0, 0))
theorem IntRow.below {w w' : World} {B : Addr} (h : IntRow w B) (hb : Below w.heap.size w w') : IntRow w' B := by
  obtain ⟨cur, h⟩ := h
  exact ⟨cur, (hb.block _ (Array.getElem?_eq_some_iff.1 h).1).trans h⟩
theorem IntRow.ne {w : World} {B : Addr} (h : IntRow w B) {g : Nat} {cs : Array Value} {t : TypeId} (hg : w.heap[g]? = some (.cells cs t (0, 0))) (ht : t ≠ 3) : B.block ≠ g := by
  obtain ⟨cur, h⟩ := h
  rintro rfl
  rw [h] at hg
  cases hg
  exact ht rfl
theorem IntRow.sets {w : World} {B : Addr} (h : IntRow w B) {g : Nat} (hg : B.block ≠ g) (i : Nat) (v : Value) : IntRow (w.setCell ⟨g, i, none⟩ v) B := by
  obtain ⟨cur, h⟩ := h
  exact ⟨cur, (Below.heap_setCell _ _ _ _ hg).trans h⟩
theorem first_any (l : List Int) (A : Option Addr) (c : Nat) (w : World) (hl : l.length ≤ 5000) (hC : Cells w A l) :
    Calls Tryd.prog 70 #[.slice A l.length c] w fun r w' => r = .returned (.int .i64 (firstOf l)) ∧ w = w' := by
  go_enter Tryd.func70, Tryd.ntmps70
  go_wp2
  go_loop [4, 7] (fun _ i => ∃ k : Nat, k ≤ l.length ∧ i = (.int .i64 (k)) ∧ ∀ j, j < k → l.getD j 0 = 0) (fun _ i => l.length - (intOf i).toNat)
  case atStart => exact ⟨0, Nat.zero_le _, rfl, fun j hj => by omega⟩
  case round =>
    obtain ⟨k, hk, rfl, hz⟩ := hrel
    have HZ := Lib.hid hz
    clear hz
    by_cases hlt : k < l.length
    · obtain ⟨b, off, rfl, hbl, hc⟩ := hC (by omega)
      have hck := hc k hlt
      clear hc hC
      by_cases h0 : l.getD k 0 = 0
      · rw [h0] at hck
        have H0 := Lib.hid h0
        clear h0
        go_wp2
        go_round
        case rel => exact ⟨k + 1, by omega, by go_num, fun j hj => by
          rcases Nat.lt_or_ge j k with hjk | hjk
          · exact HZ.out j hjk
          · obtain rfl : j = k := by omega
            exact H0.out⟩
        case measure => simp [intOf]; omega
      · obtain ⟨x, hx⟩ : ∃ x, x = l.getD k 0 := ⟨_, rfl⟩
        rw [← hx] at hck h0
        have H0 := Lib.hid hx
        clear hx
        go_wp2
        go_ret
        exact ⟨ret_i (by rw [firstOf_take HZ.out hlt (by rw [← H0.out]; exact h0)]; exact H0.out), rfl⟩
    · clear hC
      go_wp2
      go_ret
      exact ⟨ret_i (by rw [firstOf_zero (fun j hj => HZ.out j (by omega))]), rfl⟩

/-- the absolute value. -/
def absI (n : Int) : Int := max n (-n)
theorem absI_nonneg (n : Int) : 0 ≤ absI n := by unfold absI; omega
theorem absI_le {n b : Int} : absI n ≤ b ↔ -b ≤ n ∧ n ≤ b := by unfold absI; omega
theorem abs_any (n : Int) (w : World) (h : -4611686018427387904 ≤ n ∧ n ≤ 4611686018427387904) : Calls Tryd.prog 88 #[(.int .i64 (n))] w fun r w' => r = .returned (.int .i64 (absI n)) ∧ w = w' := by
  obtain ⟨h1, h2⟩ := h
  go_enter Tryd.func88, Tryd.ntmps88
  go_wp2
  all_goals (go_ret; exact ⟨ret_i (by unfold absI; omega), rfl⟩)
end Go.Proofs.YtdeapbihbhoefaaDoor

/- Contracts of package protect: heat, reach. -/
namespace Go.Proofs.YtdeapbihbhoefaaDoor
open Go.RowKit
open Calm (bcell Blk)

/-- a heat behind the output 0. -/
def coolF (lk h : Int) : Int := h - h / 2 ^ lk.toNat
theorem shr_bd (lk : Int) {h : Int} (h0 : 0 ≤ h) : 0 ≤ h / 2 ^ lk.toNat ∧ h / 2 ^ lk.toNat ≤ h :=
  ⟨Int.ediv_nonneg h0 (Int.le_of_lt (Int.pow_pos (by decide))), Int.ediv_le_self _ h0⟩
theorem coolF_bd (lk : Int) {h : Int} (h0 : 0 ≤ h) : 0 ≤ coolF lk h ∧ coolF lk h ≤ h := by
  have := shr_bd lk h0
  unfold coolF
  omega
theorem cooled_any (lk ht rc h : Int) (A1 A2 : Option Addr) (n1 c1 n2 c2 : Nat) (w : World) (hl : 1 ≤ lk ∧ lk ≤ 8) (h0 : 0 ≤ h ∧ h ≤ 1099511627776) :
    Calls Tryd.prog 92 #[.agg #[(.int .i64 (lk)), (.int .i64 (ht)), .slice A1 n1 c1, (.int .i64 (rc)), .slice A2 n2 c2], (.int .i64 (h))] w fun r w' => r = .returned (.int .i64 (coolF lk h)) ∧ Below w.heap.size w w' := by
  obtain ⟨h1, h2⟩ := hl
  obtain ⟨h3, h4⟩ := h0
  obtain ⟨h5, h6⟩ := shr_bd lk h3
  go_enter Tryd.func92, Tryd.ntmps92
  go_wp2
  go_ret
  exact ⟨rfl, by (repeat (first | (with_reducible exact Below.refl _ _) | ((with_reducible refine Below.setCell ?_ ?_ _); rotate_left 1; focus (first | (simp; done) | (simp; omega) | (simp at *; omega))) | ((with_reducible refine Below.alloc ?_ ?_ _); rotate_left 1; focus (first | (simp; done) | (simp; omega) | (simp at *; omega))) | (with_reducible refine Below.drew ?_) | ((with_reducible refine Calm.step (by assumption) ?_ ?_); rotate_left 1; focus (first | (simp; done) | (simp; omega) | (simp at *; omega)))))⟩
theorem far_any (lk ht rc x : Int) (A1 A2 : Option Addr) (n1 c1 n2 c2 : Nat) (w : World) (hx : -1099511627776 ≤ x ∧ x ≤ 1099511627776) :
    Calls Tryd.prog 147 #[.agg #[(.int .i64 (lk)), (.int .i64 (ht)), .slice A1 n1 c1, (.int .i64 (rc)), .slice A2 n2 c2], (.int .i64 (x))] w fun r w' => r = .returned (.bool (decide (rc < absI x))) ∧ Below w.heap.size w w' := by
  obtain ⟨h1, h2⟩ := hx
  go_enter Tryd.func147, Tryd.ntmps147
  go_wp2
  refine Calm.tail_below 4 (by kernel_rfl) (by kernel_rfl) ?_
  simp only [List.take_succ_cons, List.take_zero, List.drop_succ_cons, List.drop_zero]
  repeat (first | (first | (apply Calm.op_move; (focus rfl); (focus (first | exact .inl rfl | exact .inr rfl)); (focus ((try simp only [Act.eval, Array.getD_eq_getD_getElem?, List.getElem?_toArray, List.getElem?_cons_succ, List.getElem?_cons_zero, Option.getD_some]); rfl)); (try simp only [Act.put, List.setIfInBounds_toArray, List.set_cons_zero, List.set_cons_succ])) | (apply Calm.op_not; (focus rfl); (try simp only [Act.put, List.setIfInBounds_toArray, List.set_cons_zero, List.set_cons_succ])) | (apply Calm.op; (focus rfl); (focus (intro W hb; obtain ⟨hc, hf⟩ := bcell hb; clear hb hf; go_simp; (try go_bits); (try rfl); done)); (try simp only [Act.put, List.setIfInBounds_toArray, List.set_cons_zero, List.set_cons_succ]))) | (apply Calm.op_call; (focus rfl); (focus (intro W hb; obtain ⟨hc, hf⟩ := bcell hb; clear hb hf; go_simp; refine ⟨?_, ?_⟩; rfl; rfl)); (focus (intro W hb; first | (go_at_call 88; exact Calm.call_same hb (abs_any _ _ ⟨by omega, by omega⟩)))); (try simp only [Act.put, List.setIfInBounds_toArray, List.set_cons_zero, List.set_cons_succ])))
  refine wpQuiet_nil ?_
  intro w1 hb
  obtain ⟨hbc, hbf⟩ := bcell hb
  have hbz := hb.size
  (try simp at hbz)
  (try have hbz0 : w.heap.size < w1.heap.size := by omega)
  (try have hbz1 : w.heap.size + 1 < w1.heap.size := by omega)
  (try have hbz2 : w.heap.size + 1 + 1 < w1.heap.size := by omega)
  (try have hbz3 : w.heap.size + 1 + 1 + 1 < w1.heap.size := by omega)
  (try have hbz4 : w.heap.size + 1 + 1 + 1 + 1 < w1.heap.size := by omega)
  (try have hbz5 : w.heap.size + 1 + 1 + 1 + 1 + 1 < w1.heap.size := by omega)
  go_wp2
  go_ret
  exact ⟨rfl, by (repeat (first | (with_reducible exact Below.refl _ _) | ((with_reducible refine Below.setCell ?_ ?_ _); rotate_left 1; focus (first | (simp; done) | (simp; omega) | (simp at *; omega))) | ((with_reducible refine Below.alloc ?_ ?_ _); rotate_left 1; focus (first | (simp; done) | (simp; omega) | (simp at *; omega))) | (with_reducible refine Below.drew ?_) | ((with_reducible refine Calm.step (by assumption) ?_ ?_); rotate_left 1; focus (first | (simp; done) | (simp; omega) | (simp at *; omega)))))⟩
theorem cond1_any (lk ht rc h lv x : Int) (A1 A2 A3 : Option Addr) (n1 c1 n2 c2 n3 c3 : Nat) (w : World) :
    Calls Tryd.prog 145 #[.agg #[(.int .i64 (lk)), (.int .i64 (ht)), .slice A1 n1 c1, (.int .i64 (rc)), .slice A2 n2 c2], .agg #[(.int .i64 (h)), (.int .i64 (lv)), .slice A3 n3 c3], (.int .i64 (x))] w fun r w' => r = .returned (.bool (decide (h ≤ ht))) ∧ Below w.heap.size w w' := by
  go_enter Tryd.func145, Tryd.ntmps145
  go_wp2
  go_ret
  exact ⟨rfl, by (repeat (first | (with_reducible exact Below.refl _ _) | ((with_reducible refine Below.setCell ?_ ?_ _); rotate_left 1; focus (first | (simp; done) | (simp; omega) | (simp at *; omega))) | ((with_reducible refine Below.alloc ?_ ?_ _); rotate_left 1; focus (first | (simp; done) | (simp; omega) | (simp at *; omega))) | (with_reducible refine Below.drew ?_) | ((with_reducible refine Calm.step (by assumption) ?_ ?_); rotate_left 1; focus (first | (simp; done) | (simp; omega) | (simp at *; omega)))))⟩
theorem cond2_any (lk ht rc h lv x : Int) (A1 A2 A3 : Option Addr) (n1 c1 n2 c2 n3 c3 : Nat) (w : World) (hx : -1099511627776 ≤ x ∧ x ≤ 1099511627776) :
    Calls Tryd.prog 146 #[.agg #[(.int .i64 (lk)), (.int .i64 (ht)), .slice A1 n1 c1, (.int .i64 (rc)), .slice A2 n2 c2], .agg #[(.int .i64 (h)), (.int .i64 (lv)), .slice A3 n3 c3], (.int .i64 (x))] w fun r w' => r = .returned (.bool (!decide (rc < absI x))) ∧ Below w.heap.size w w' := by
  go_enter Tryd.func146, Tryd.ntmps146
  go_wp2_with (first | (go_at_call 147; refine (far_any _ _ _ _ _ _ _ _ _ _ _ ⟨by omega, by omega⟩).mono ?_; rintro r w1 ⟨rfl, hb⟩; obtain ⟨hc, hf⟩ := bcell hb; have hz := hb.size; (try simp at hz); (try have hz0 : w.heap.size < w1.heap.size := by omega); (try have hz1 : w.heap.size + 1 < w1.heap.size := by omega); (try have hz2 : w.heap.size + 1 + 1 < w1.heap.size := by omega); (try have hz3 : w.heap.size + 1 + 1 + 1 < w1.heap.size := by omega); (try have hz4 : w.heap.size + 1 + 1 + 1 + 1 < w1.heap.size := by omega); (try have hz5 : w.heap.size + 1 + 1 + 1 + 1 + 1 < w1.heap.size := by omega); (try have hz6 : w.heap.size + 1 + 1 + 1 + 1 + 1 + 1 < w1.heap.size := by omega)))
  go_ret
  exact ⟨rfl, by (repeat (first | (with_reducible exact Below.refl _ _) | ((with_reducible refine Below.setCell ?_ ?_ _); rotate_left 1; focus (first | (simp; done) | (simp; omega) | (simp at *; omega))) | ((with_reducible refine Below.alloc ?_ ?_ _); rotate_left 1; focus (first | (simp; done) | (simp; omega) | (simp at *; omega))) | (with_reducible refine Below.drew ?_) | ((with_reducible refine Calm.step (by assumption) ?_ ?_); rotate_left 1; focus (first | (simp; done) | (simp; omega) | (simp at *; omega)))))⟩
end Go.Proofs.YtdeapbihbhoefaaDoor
