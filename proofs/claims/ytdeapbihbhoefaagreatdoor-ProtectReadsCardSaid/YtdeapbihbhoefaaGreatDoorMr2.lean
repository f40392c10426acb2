/- Part 2 of the texts of the claim: Rel3, Calm2, Opn, P1, RT0, IterM, P2, RelG, Turn. -/
import Derived.Test.YtdeapbihbhoefaaGreatDoorMr1
import Derived.ArgAppend
import Derived.Test.YtdeapbihbhoefaaGreatDoorRows
import Derived.WalkKit
import Derived.WalkSpells
import Derived.WalkLawsBesides
import Derived.Lib.Hide
import Derived.BigQuiet
import Derived.Deep.OwnRows
import Derived.Laws.CopyOwn
import Derived.RangeFuncNested
import Derived.RangeFuncBound
import Derived.RangeFuncCalls
import Derived.RangeFuncLeaves

/- Regions whose order is open and whose edges bind in part; an append and a call with relational results in the head. -/
namespace Go.Proofs.YtdeapbihbhoefaaGreatDoor.Rel
open Go.RowKit
/-- the operations that this one waits for. -/
def ons (o : Oper) : List Nat := (o.after.toList.filter fun e => Region.binds .any e).map (·.on)
def Ob3 (P : Program) (DS : List Tmp) (w0 : World) (a0 : Act) (Γ : Ctx) (o : Oper) (R : Know) : Prop :=
  ∀ (a : Act) (W : World), Below w0.heap.size w0 W → deps Γ a W (ons o) → (∀ t, t ∉ DS → a.eval (.tmp t) = a0.eval (.tmp t)) →
    ∀ (K : Act → World → Prop) (Q : Exit → Act → World → Prop), (∀ v W', R v W' → Below W.heap.size W W' → K (a.put o.dst v) W') → o.wp P a W K Q
def GOK3 (Γ : Ctx) (o : Oper) : Prop := o.guard = none ∨ ∃ g b t, o.guard = some (g, b) ∧ g ∈ ons o ∧ Γ[g]? = some (some t, fun u _ => u = .bool b)
def walk3 (P : Program) (DS : List Tmp) (w0 : World) (a0 : Act) (T : Ctx → Prop) : Ctx → List Oper → Prop
  | Γ, [] => T Γ
  | Γ, o :: l => ∃ R, Stable R ∧ GOK3 Γ o ∧ Ob3 P DS w0 a0 Γ o R ∧ walk3 P DS w0 a0 T (Γ ++ [(o.dst, R)]) l
theorem walk_of_walk3 {P : Program} {ops : Array Oper} {n : Nat} {DS : List Tmp} {w0 : World} {a0 : Act} {T : Ctx → Prop} {T' : List Know → Prop} (hDS : ∀ t, t ∉ DS → ∀ j, j < n → dst ops j ≠ some t)
    (hT : ∀ Γ, T Γ → T' (Γ.map (·.2))) :
    ∀ (l : List Oper) (Γ : Ctx), (∀ j, j < l.length → l[j]? = ops[Γ.length + j]?) → (∀ j d R, Γ[j]? = some (d, R) → dst ops j = d) → walk3 P DS w0 a0 T Γ l → walk P ops n w0 a0 T' (Γ.map (·.2)) l
  | [], Γ, _, _, h => hT Γ h
  | o :: l, Γ, hl, hΓ, h => by
    obtain ⟨R, hs, hg, hob, hw⟩ := h
    have h0 : ops[Γ.length]? = some o := by simpa using (hl 0 (by simp)).symm
    have hg' : GOK ops (Γ.map (·.2)) o := by
      rcases hg with hg | ⟨g, b, t, hg, hin, hΓg⟩
      · exact .inl hg
      · obtain ⟨e, he, rfl⟩ := List.mem_map.1 hin
        obtain ⟨he1, he2⟩ := List.mem_filter.1 he
        exact .inr ⟨e.on, b, t, hg, ⟨e, by simpa using he1, he2, rfl⟩, hΓ _ _ _ hΓg, by simp [hΓg]⟩
    refine ⟨R, hs, hg', fun _ => ?_, ?_⟩
    · intro a W hb hz hd hbase K Q hK
      refine hob a W hb (deps_of _ fun j hj => ?_) (fun t ht => hbase t (fun j hj => hDS t ht j hj)) K Q hK
      obtain ⟨e, he, rfl⟩ := List.mem_map.1 hj
      obtain ⟨he1, he2⟩ := List.mem_filter.1 he
      have he' : e ∈ o.after := by simpa using he1
      cases hc : Γ[e.on]? with
      | none => trivial
      | some c =>
        obtain ⟨d, K'⟩ := c
        cases d with
        | none => trivial
        | some t => exact hd e he' he2 t (hΓ _ _ _ hc) K' (by simp [hc])
    · have := walk_of_walk3 hDS hT l (Γ ++ [(o.dst, R)]) (fun j hj => by
        have := hl (j + 1) (by simp; omega)
        simpa [Nat.add_assoc, Nat.add_comm 1 j] using this) (fun j d R' hj => by
        rcases Nat.lt_or_ge j Γ.length with h | h
        · rw [List.getElem?_append_left h] at hj
          exact hΓ j d R' hj
        · have hjl : j < (Γ ++ [(o.dst, R)]).length := (List.getElem?_eq_some_iff.1 hj).1
          obtain rfl : j = Γ.length := by simp at hjl; omega
          simp at hj
          rw [← hj.1]
          simp [dst, h0]) hw
      simpa using this
theorem region3_w {P : Program} {Q : Exit → Act → World → Prop} {a : Act} {w : World} {l : List Oper} (n : Nat) (hok : okB l.toArray n = true) (hsz : sizeB l.toArray n a.tmps.size = true)
    (h : walk3 P ((l.take n).filterMap (·.dst)) w a (fun Γ => ∀ (x : Nat → Value) (W : World), Below w.heap.size w W → facts x W 0 Γ → wpList P l.toArray Q (l.drop n) (fill (l.take n) 0 x a) W) [] (l.take n)) :
    wpAny P .any l.toArray Q l.toArray.size (Array.replicate l.toArray.size false) a { w with drawn := w.drawn + 1 } := by
  have hn' : n < l.length := by
    simp only [okB, Bool.and_eq_true, decide_eq_true_eq] at hok
    simpa using hok.1.1.1.1.1
  have htl : (l.take n).length = n := by simp; omega
  refine region_w n hok hsz (walk_of_walk3 (n := n) (fun t ht j hj hd => ht ?_) (fun Γ hT x W hb hx => hT x W hb (facts_of Γ 0 (fun j K hj => by rw [Nat.zero_add]; exact hx j K hj))) (l.take n) [] (fun j hj => by
      rw [htl] at hj
      simp [List.getElem?_take, hj]) (fun j d R hj => by simp at hj) h)
  have hlj : j < l.length := by omega
  simp [dst, hlj] at hd
  exact List.mem_filterMap.2 ⟨l[j], List.mem_iff_getElem.2 ⟨j, by omega, by simp⟩, hd⟩
theorem region3 {P : Program} {id : Nat} {Q : Exit → Act → World → Prop} {a : Act} {w : World} {l : List Oper} (n : Nat) (hm : P.follows .mixedOrders = true) (hok : okB l.toArray n = true) (hsz : sizeB l.toArray n a.tmps.size = true)
    (h : walk3 P ((l.take n).filterMap (·.dst)) w a (fun Γ => ∀ (x : Nat → Value) (W : World), Below w.heap.size w W → facts x W 0 Γ → wpList P l.toArray Q (l.drop n) (fill (l.take n) 0 x a) W) [] (l.take n)) :
    (Code.region id l.toArray true).wp P Q a w := wp_region_any hm (region3_w n hok hsz h)
section
variable {P : Program} {DS : List Tmp} {w0 : World} {a0 : Act} {T : Ctx → Prop} {Γ : Ctx} {o : Oper} {rest : List Oper}
theorem gno {Γ : Ctx} {o : Oper} (h : o.guard = none) : GOK3 Γ o := .inl h
theorem gyes {Γ : Ctx} {o : Oper} (g : Nat) (b : Bool) (t : Tmp) (h1 : o.guard = some (g, b)) (h2 : (ons o).contains g = true) (h3 : Γ[g]? = some (some t, fun u _ => u = .bool b)) : GOK3 Γ o :=
  .inr ⟨g, b, t, h1, by simpa using h2, h3⟩
theorem op3 (v : Value) (hg : GOK3 Γ o) (h : ∀ (a : Act) (W : World), Below w0.heap.size w0 W → deps Γ a W (ons o) → (∀ t, t ∉ DS → a.eval (.tmp t) = a0.eval (.tmp t)) → (execOp a.eval o).run P W = .ok (.value v) W)
    (hn : walk3 P DS w0 a0 T (Γ ++ [(o.dst, fun u _ => u = v)]) rest) : walk3 P DS w0 a0 T Γ (o :: rest) :=
  ⟨_, stable_eq v, hg, fun a W hb hd hbase K Q hK => by
    unfold Oper.wp
    rw [h a W hb hd hbase]
    exact hK v W rfl (Below.refl _ _), hn⟩
/-- One operation that only reads, of whose result R is known. -/
theorem opR3 (R : Know) (hs : Stable R) (hg : GOK3 Γ o) (h : ∀ (a : Act) (W : World), Below w0.heap.size w0 W → deps Γ a W (ons o) → (∀ t, t ∉ DS → a.eval (.tmp t) = a0.eval (.tmp t)) → ∃ v, (execOp a.eval o).run P W = .ok (.value v) W ∧ R v W)
    (hn : walk3 P DS w0 a0 T (Γ ++ [(o.dst, R)]) rest) : walk3 P DS w0 a0 T Γ (o :: rest) :=
  ⟨_, hs, hg, fun a W hb hd hbase K Q hK => by
    obtain ⟨v, h1, h2⟩ := h a W hb hd hbase
    unfold Oper.wp
    rw [h1]
    exact hK v W h2 (Below.refl _ _), hn⟩
theorem run_append_zero (W : World) (t ty e : TypeId) (i : TypeInfo) (z : Value) (ht : P.underlying t = some (.slice e)) (hi : P.info? e = some i) (hz : i.zero = some z) (b : Addr) (A : Option Addr) (c : Nat) :
    (Builtin.append_ #[t, t] ty #[.slice (some b) 0 0, .slice A 0 c]).run P W = .ok (.slice (some b) 0 0) W := by
  have hl : ∀ (x : Addr), (loadCells x 0).run P W = .ok #[] W := fun x => by simpa using run_loadCells_list (P := P) W x [] (by simp)
  cases A <;> simp [Builtin.append_, run_underlying ht, sizeOf, typeInfo, zeroValue, hi, hz, Builtin.lenOf, Builtin.firstCells, storeCells, hl]
/-- A call, by a contract. -/
theorem callR3 (R : Know) (hs : Stable R) (hg : GOK3 Γ o)
    (h : ∀ (a : Act) (W : World), Below w0.heap.size w0 W → deps Γ a W (ons o) → (∀ t, t ∉ DS → a.eval (.tmp t) = a0.eval (.tmp t)) → ∃ f args, (execOp a.eval o).run P W = .ok (.enter f args) W ∧ Calls P f args W fun e W' => ∃ v, e = .returned v ∧ R v W' ∧ Below W.heap.size W W')
    (hn : walk3 P DS w0 a0 T (Γ ++ [(o.dst, R)]) rest) : walk3 P DS w0 a0 T Γ (o :: rest) :=
  ⟨R, hs, hg, fun a W hb hd hbase K Q hK => by
    obtain ⟨f, args, hrun, hc⟩ := h a W hb hd hbase
    unfold Oper.wp
    rw [hrun]
    simp only [Oper.upon]
    refine hc.mono ?_
    rintro e W' ⟨v, rfl, hR, hbb⟩
    exact hK v W' hR hbb, hn⟩
/-- A call whose arguments and result are known. -/
theorem call3 (v : Value) (f : FuncId) (args : Array Value) (hg : GOK3 Γ o)
    (h : ∀ (a : Act) (W : World), Below w0.heap.size w0 W → deps Γ a W (ons o) → (∀ t, t ∉ DS → a.eval (.tmp t) = a0.eval (.tmp t)) → (execOp a.eval o).run P W = .ok (.enter f args) W)
    (hc : ∀ W, Below w0.heap.size w0 W → Calls P f args W fun e W' => e = .returned v ∧ Below W.heap.size W W')
    (hn : walk3 P DS w0 a0 T (Γ ++ [(o.dst, fun u _ => u = v)]) rest) : walk3 P DS w0 a0 T Γ (o :: rest) :=
  callR3 _ (stable_eq v) hg (fun a W hb hd hbase => ⟨f, args, h a W hb hd hbase, (hc W hb).mono fun e W' ⟨he, hb'⟩ => ⟨v, he, rfl, hb'⟩⟩) hn
theorem done3 (h : T Γ) : walk3 P DS w0 a0 T Γ [] := h
end
end Go.Proofs.YtdeapbihbhoefaaGreatDoor.Rel

/- The walk of Calm, its goal behind a name of its own: a goal 'wpQuiet ..' unfolds by itself over operations that are passed over, which is slow. -/
namespace Go.Proofs.YtdeapbihbhoefaaGreatDoor.Calm
open Go.RowKit

section
variable {P : Program} {ops : Array Oper} {C : World → Prop}
structure Still (P : Program) (ops : Array Oper) (C : World → Prop) (Q : Act → Prop) (rest : List Oper) (a : Act) : Prop where
  h : wpQuiet P ops C Q rest a
end
end Go.Proofs.YtdeapbihbhoefaaGreatDoor.Calm

/- A block known whole, opened: its cells, its place, its marks. No program. -/
namespace Go.Proofs.YtdeapbihbhoefaaGreatDoor.Calm
theorem Blk.o1 {w : World} {g : Nat} {a0 : Value} (h : Blk w g #[a0]) : w.cell? ⟨g, 0, none⟩ = some a0 ∧ g < w.heap.size ∧ ∀ i, w.frozen? ⟨g, i, none⟩ = false :=
  ⟨h.cell 0 _ rfl, h.lt, h.f⟩
theorem Blk.o2 {w : World} {g : Nat} {a0 a1 : Value} (h : Blk w g #[a0, a1]) : w.cell? ⟨g, 0, none⟩ = some a0 ∧ w.cell? ⟨g, 1, none⟩ = some a1 ∧ g < w.heap.size ∧ ∀ i, w.frozen? ⟨g, i, none⟩ = false :=
  ⟨h.cell 0 _ rfl, h.cell 1 _ rfl, h.lt, h.f⟩
theorem Blk.o3 {w : World} {g : Nat} {a0 a1 a2 : Value} (h : Blk w g #[a0, a1, a2]) : w.cell? ⟨g, 0, none⟩ = some a0 ∧ w.cell? ⟨g, 1, none⟩ = some a1 ∧ w.cell? ⟨g, 2, none⟩ = some a2 ∧ g < w.heap.size ∧ ∀ i, w.frozen? ⟨g, i, none⟩ = false :=
  ⟨h.cell 0 _ rfl, h.cell 1 _ rfl, h.cell 2 _ rfl, h.lt, h.f⟩
theorem Blk.o5 {w : World} {g : Nat} {a0 a1 a2 a3 a4 : Value} (h : Blk w g #[a0, a1, a2, a3, a4]) : w.cell? ⟨g, 0, none⟩ = some a0 ∧ w.cell? ⟨g, 1, none⟩ = some a1 ∧ w.cell? ⟨g, 2, none⟩ = some a2 ∧ w.cell? ⟨g, 3, none⟩ = some a3 ∧ w.cell? ⟨g, 4, none⟩ = some a4 ∧ g < w.heap.size ∧ ∀ i, w.frozen? ⟨g, i, none⟩ = false :=
  ⟨h.cell 0 _ rfl, h.cell 1 _ rfl, h.cell 2 _ rfl, h.cell 3 _ rfl, h.cell 4 _ rfl, h.lt, h.f⟩
theorem Blk.o8 {w : World} {g : Nat} {a0 a1 a2 a3 a4 a5 a6 a7 : Value} (h : Blk w g #[a0, a1, a2, a3, a4, a5, a6, a7]) : w.cell? ⟨g, 0, none⟩ = some a0 ∧ w.cell? ⟨g, 1, none⟩ = some a1 ∧ w.cell? ⟨g, 2, none⟩ = some a2 ∧ w.cell? ⟨g, 3, none⟩ = some a3 ∧ w.cell? ⟨g, 4, none⟩ = some a4 ∧ w.cell? ⟨g, 5, none⟩ = some a5 ∧ w.cell? ⟨g, 6, none⟩ = some a6 ∧ w.cell? ⟨g, 7, none⟩ = some a7 ∧ g < w.heap.size ∧ ∀ i, w.frozen? ⟨g, i, none⟩ = false :=
  ⟨h.cell 0 _ rfl, h.cell 1 _ rfl, h.cell 2 _ rfl, h.cell 3 _ rfl, h.cell 4 _ rfl, h.cell 5 _ rfl, h.cell 6 _ rfl, h.cell 7 _ rfl, h.lt, h.f⟩
theorem Blk.o9 {w : World} {g : Nat} {a0 a1 a2 a3 a4 a5 a6 a7 a8 : Value} (h : Blk w g #[a0, a1, a2, a3, a4, a5, a6, a7, a8]) : w.cell? ⟨g, 0, none⟩ = some a0 ∧ w.cell? ⟨g, 1, none⟩ = some a1 ∧ w.cell? ⟨g, 2, none⟩ = some a2 ∧ w.cell? ⟨g, 3, none⟩ = some a3 ∧ w.cell? ⟨g, 4, none⟩ = some a4 ∧ w.cell? ⟨g, 5, none⟩ = some a5 ∧ w.cell? ⟨g, 6, none⟩ = some a6 ∧ w.cell? ⟨g, 7, none⟩ = some a7 ∧ w.cell? ⟨g, 8, none⟩ = some a8 ∧ g < w.heap.size ∧ ∀ i, w.frozen? ⟨g, i, none⟩ = false :=
  ⟨h.cell 0 _ rfl, h.cell 1 _ rfl, h.cell 2 _ rfl, h.cell 3 _ rfl, h.cell 4 _ rfl, h.cell 5 _ rfl, h.cell 6 _ rfl, h.cell 7 _ rfl, h.cell 8 _ rfl, h.lt, h.f⟩
end Go.Proofs.YtdeapbihbhoefaaGreatDoor.Calm

/- Contracts of the small functions of package protect: each returns what its text computes; no old memory changes. -/
namespace Go.Proofs.YtdeapbihbhoefaaGreatDoor
open Go.RowKit
open Calm (bcell Blk)

theorem Calm.Blk.of_block {w w' : World} {g : Nat} {cs : Array Value} (h : Blk w g cs) (e : w'.heap[g]? = w.heap[g]?) : Blk w' g cs := by
  refine ⟨?_, fun i => ?_, fun i => ?_⟩
  · have h1 := Array.getElem?_eq_getElem h.lt
    rw [h1] at e
    exact (Array.getElem?_eq_some_iff.1 e).1
  · exact (World.cell?_of_block (w := w) (a := ⟨g, i, none⟩) e).trans (h.c i)
  · exact (World.frozen?_of_block (w := w) (a := ⟨g, i, none⟩) e).trans (h.f i)
theorem Calm.Blk.set {w : World} {g : Nat} {cs : Array Value} (h : Blk w g cs) {i : Nat} (hi : i < cs.size) (v : Value) : Blk (w.setCell ⟨g, i, none⟩ v) g (cs.setIfInBounds i v) := by
  refine ⟨by simpa using h.lt, fun j => ?_, fun j => by rw [World.frozen?_setCell]; exact h.f j⟩
  by_cases hj : j = i
  · subst hj
    rw [World.cell?_setCell_same' _ _ _ (by rw [h.c]; simp [hi])]
    simp [hi]
  · rw [World.cell?_setCell_other _ _ _ _ (by intro e; cases e; exact hj rfl), h.c]
    rw [Array.getElem?_setIfInBounds_ne (by omega)]
theorem Calm.Blk.set2 {w : World} {g : Nat} {u0 u1 : Value} (h : Blk w g #[u0, u1]) (a b : Value) : Blk ((w.setCell ⟨g, 0, none⟩ a).setCell ⟨g, 1, none⟩ b) g #[a, b] :=
  (h.set (i := 0) (by simp) a).set (i := 1) (by simp) b
theorem Calm.Blk.upto {w w' : World} {g B : Nat} {cs : Array Value} (h : Blk w g cs) (hb : Below B w w') (hg : g < B) : Blk w' g cs := h.of_block (hb.block g hg)
theorem Calm.Blk.row {w : World} {g : Nat} {cs : Array Value} {t : TypeId} (h : w.heap[g]? = some (.cells cs t (0, 0))) : Blk w g cs :=
  ⟨(Array.getElem?_eq_some_iff.1 h).1, fun i => cell_of_row _ _ i cs t (0, 0) h, fun i => by unfold World.frozen?; rw [h]; simp⟩

theorem heap_new {w : World} {o : Obj} {k : Nat} (h : k = w.heap.size) : (w.alloc o).heap[k]? = some o := h ▸ heap_alloc_new w o
theorem heap_old {w : World} {o : Obj} {k : Nat} {v : Option Obj} (hl : k < w.heap.size) (h : w.heap[k]? = v) : (w.alloc o).heap[k]? = v := (Below.heap_alloc _ _ _ hl).trans h

theorem name_world {P : Program} {C : Code} {Q : Exit → Act → World → Prop} {a : Act} {W : World} (h : ∀ w2, w2 = W → C.wp P Q a w2) : C.wp P Q a W := h _ rfl

theorem when_any (b : Bool) (e : Int) (w : World) : Calls Tryz.prog 68 #[.bool b, (.int .i64 e)] w fun r w' => r = .returned (.int .i64 (if b then e else 0)) ∧ w = w' := by
  cases b <;>
  · go_enter Tryz.func68, Tryz.ntmps68
    go_wp2
    go_ret
    exact ⟨rfl, rfl⟩

/-- the error of a range, as a number. -/
def rangeErr (n lo hi : Int) : Int := if n < lo ∨ hi < n then 3 else 0
theorem rangeErr_lo {n lo hi : Int} (h : n < lo) : rangeErr n lo hi = 3 := if_pos (.inl h)
theorem rangeErr_hi {n lo hi : Int} (h : hi < n) : rangeErr n lo hi = 3 := if_pos (.inr h)
theorem rangeErr_in {n lo hi : Int} (h : lo ≤ n) (h' : n ≤ hi) : rangeErr n lo hi = 0 := if_neg (by omega)
theorem rangeErr_zero {n lo hi : Int} : rangeErr n lo hi = 0 ↔ lo ≤ n ∧ n ≤ hi := by
  unfold rangeErr; split <;> omega
theorem ret_i {a b : Int} (h : a = b) : Ending.returned (.int .i64 a) = .returned (.int .i64 b) := by rw [h]

theorem within_any (n lo hi : Int) (w : World) : Calls Tryz.prog 66 #[(.int .i64 n), (.int .i64 lo), (.int .i64 hi)] w fun r w' => r = .returned (.int .i64 (rangeErr n lo hi)) ∧ w = w' := by
  rcases Int.lt_or_le n lo with h | h
  · go_enter Tryz.func66, Tryz.ntmps66
    go_wp2_with (go_at_call 68; refine (when_any _ _ _).mono ?_; rintro r w' ⟨rfl, rfl⟩)
    go_ret
    exact ⟨ret_i (rangeErr_lo h).symm, rfl⟩
  · rcases Int.lt_or_le hi n with h' | h'
    · go_enter Tryz.func66, Tryz.ntmps66
      go_wp2_with (go_at_call 68; refine (when_any _ _ _).mono ?_; rintro r w' ⟨rfl, rfl⟩)
      go_ret
      exact ⟨ret_i (rangeErr_hi h').symm, rfl⟩
    · go_enter Tryz.func66, Tryz.ntmps66
      go_wp2_with (go_at_call 68; refine (when_any _ _ _).mono ?_; rintro r w' ⟨rfl, rfl⟩)
      go_ret
      exact ⟨ret_i (rangeErr_in (by omega) (by omega)).symm, rfl⟩

/-- the first of some numbers that is not 0. -/
def firstOf (l : List Int) : Int := (l.find? (· != 0)).getD 0
theorem firstOf_take {l : List Int} {k : Nat} (h : ∀ j, j < k → l.getD j 0 = 0) (hk : k < l.length) (hn : l.getD k 0 ≠ 0) : firstOf l = l.getD k 0 := by
  induction l generalizing k with
  | nil => simp at hk
  | cons x l ih =>
    cases k with
    | zero => simp at hn; simp [firstOf, hn]
    | succ k =>
      have h0 : x = 0 := by simpa using h 0 (by omega)
      have := ih (k := k) (fun j hj => by simpa using h (j + 1) (by omega)) (by simpa using hk) (by simpa using hn)
      subst h0
      simpa [firstOf] using this
theorem firstOf_zero {l : List Int} (h : ∀ j, j < l.length → l.getD j 0 = 0) : firstOf l = 0 := by
  induction l with
  | nil => rfl
  | cons x l ih =>
    have h0 : x = 0 := by simpa using h 0 (by simp)
    have := ih (fun j hj => by simpa using h (j + 1) (by simpa using hj))
    subst h0
    simpa [firstOf] using this
/-- the slice of these integers lies in memory (an empty one anywhere, or nowhere). -/
def Cells (w : World) (A : Option Addr) (zs : List Int) : Prop :=
  0 < zs.length → ∃ b off, A = some ⟨b, off, none⟩ ∧ b < w.heap.size ∧ ∀ k, k < zs.length → w.cell? ⟨b, off + k, none⟩ = some (.int .i64 (zs.getD k 0))
theorem Cells.below {w w' : World} {A : Option Addr} {zs : List Int} (h : Cells w A zs) (hb : Below w.heap.size w w') : Cells w' A zs := by
  intro h0
  obtain ⟨b, off, hA, hl, hc⟩ := h h0
  exact ⟨b, off, hA, Nat.lt_of_lt_of_le hl hb.size, fun k hk => (hb.cell (p := ⟨b, off + k, none⟩) hl).trans (hc k hk)⟩
theorem ownsRow_below {w w' : World} {B e size n : Nat} {v : Value} {xs : List Value} (h : w.ownsRow B e size v n xs) (hb : Below w.heap.size w w') : w'.ownsRow B e size v n xs := by
  refine ⟨h.1, ?_⟩
  rcases h.2 with hn | ⟨g, cap, cur, rfl, hg, hgg, rest⟩
  · exact .inl hn
  · exact .inr ⟨g, cap, cur, rfl, hg, by rw [hb.block g (Array.getElem?_eq_some_iff.1 hgg).1]; exact hgg, rest⟩

theorem grown_blk {W W' : World} {g : Nat} {cs : Array Value} {row : Option Nat} (K : Blk W g cs) (hg : W.grownBy W' row) (hne : ∀ k, row = some k → k ≠ g) : Blk W' g cs :=
  K.of_block (hg.block g K.lt (fun e => hne g e.symm rfl))
theorem grown_cells {W W' : World} {A : Option Addr} {zs : List Int} {row : Option Nat} (h : Cells W A zs) (hg : W.grownBy W' row) (hne : ∀ k, row = some k → ∀ p, A = some p → k ≠ p.block) : Cells W' A zs := by
  intro h0
  obtain ⟨b, off, hA, hl, hc⟩ := h h0
  have hb : W'.heap[b]? = W.heap[b]? := hg.block b hl (fun e => hne b e.symm _ hA rfl)
  exact ⟨b, off, hA, Nat.lt_of_lt_of_le hl hg.size, fun k hk => (World.cell?_of_block (w := W) (a := ⟨b, off + k, none⟩) hb).trans (hc k hk)⟩
/-- this block is a row of integers. -/
def IntRow (w : World) (B : Addr) : Prop := ∃ cur, w.heap[B.block]? = some (.cells cur 3 (0, 0))
theorem IntRow.below {w w' : World} {B : Addr} (h : IntRow w B) (hb : Below w.heap.size w w') : IntRow w' B := by
  obtain ⟨cur, h⟩ := h
  exact ⟨cur, (hb.block _ (Array.getElem?_eq_some_iff.1 h).1).trans h⟩
theorem IntRow.ne {w : World} {B : Addr} (h : IntRow w B) {g : Nat} {cs : Array Value} {t : TypeId} (hg : w.heap[g]? = some (.cells cs t (0, 0))) (ht : t ≠ 3) : B.block ≠ g := by
  obtain ⟨cur, h⟩ := h
  rintro rfl
  rw [h] at hg
  cases hg
  exact ht rfl
theorem IntRow.sets {w : World} {B : Addr} (h : IntRow w B) {g : Nat} (hg : B.block ≠ g) (i : Nat) (v : Value) : IntRow (w.setCell ⟨g, i, none⟩ v) B := by
  obtain ⟨cur, h⟩ := h
  exact ⟨cur, (Below.heap_setCell _ _ _ _ hg).trans h⟩
theorem first_any (l : List Int) (A : Option Addr) (c : Nat) (w : World) (hl : l.length ≤ 5000) (hC : Cells w A l) :
    Calls Tryz.prog 49 #[.slice A l.length c] w fun r w' => r = .returned (.int .i64 (firstOf l)) ∧ w = w' := by
  go_enter Tryz.func49, Tryz.ntmps49
  go_wp2
  go_loop [4, 7] (fun _ i => ∃ k : Nat, k ≤ l.length ∧ i = (.int .i64 k) ∧ ∀ j, j < k → l.getD j 0 = 0) (fun _ i => l.length - (intOf i).toNat)
  case atStart => exact ⟨0, Nat.zero_le _, rfl, fun j hj => by omega⟩
  case round =>
    obtain ⟨k, hk, rfl, hz⟩ := hrel
    have HZ := Lib.hid hz
    clear hz
    by_cases hlt : k < l.length
    · obtain ⟨b, off, rfl, hbl, hc⟩ := hC (by omega)
      have hck := hc k hlt
      clear hc hC
      by_cases h0 : l.getD k 0 = 0
      · rw [h0] at hck
        have H0 := Lib.hid h0
        clear h0
        go_wp2
        go_round
        case rel => exact ⟨k + 1, by omega, by go_num, fun j hj => by
          rcases Nat.lt_or_ge j k with hjk | hjk
          · exact HZ.out j hjk
          · obtain rfl : j = k := by omega
            exact H0.out⟩
        case measure => simp [intOf]; omega
      · obtain ⟨x, hx⟩ : ∃ x, x = l.getD k 0 := ⟨_, rfl⟩
        rw [← hx] at hck h0
        have H0 := Lib.hid hx
        clear hx
        go_wp2
        go_ret
        exact ⟨ret_i (by rw [firstOf_take HZ.out hlt (by rw [← H0.out]; exact h0)]; exact H0.out), rfl⟩
    · clear hC
      go_wp2
      go_ret
      exact ⟨ret_i (by rw [firstOf_zero (fun j hj => HZ.out j (by omega))]), rfl⟩

/-- the absolute value. -/
def absI (n : Int) : Int := max n (-n)
theorem abs_any (n : Int) (w : World) (h : -4611686018427387904 ≤ n ∧ n ≤ 4611686018427387904) : Calls Tryz.prog 59 #[(.int .i64 n)] w fun r w' => r = .returned (.int .i64 (absI n)) ∧ w = w' := by
  obtain ⟨h1, h2⟩ := h
  go_enter Tryz.func59, Tryz.ntmps59
  go_wp2
  all_goals (go_ret; exact ⟨ret_i (by unfold absI; omega), rfl⟩)
end Go.Proofs.YtdeapbihbhoefaaGreatDoor

/- Contracts of the reference's Text (at no negative number) and Number. -/
namespace Go.Proofs.YtdeapbihbhoefaaGreatDoor
open Go.RowKit
open Go.Lib
open Calm (bcell Blk)

theorem take_snoc (s : ByteArray) (k : Nat) (h : k < s.size) : s.data.toList.take (k + 1) = s.data.toList.take k ++ [s[k]] := by
  rw [List.take_succ_eq_append_getElem (by simpa using h)]; rfl
theorem size_list (s : ByteArray) : s.data.toList.length = s.size := by simp
theorem numL_none_len {l : List UInt8} (h : l.length = 0 ∨ 9 < l.length) : numL l = none := by
  unfold numL Canon
  rw [if_neg]
  rintro ⟨h1, h2, _⟩
  rcases h with h | h
  · exact h2 (List.eq_nil_of_length_eq_zero h)
  · omega
theorem numL_none_zero {s : ByteArray} (h : 1 < s.size) (h0 : s[0].toNat = 48) : numL s.data.toList = none := by
  unfold numL Canon
  rw [if_neg]
  rintro ⟨_, _, _, h2⟩
  refine h2 (by rw [size_list]; exact h) ?_
  rw [List.head?_eq_getElem?, List.getElem?_eq_getElem (by rw [size_list]; omega)]
  exact congrArg some (UInt8.toNat_inj.1 h0)
theorem numL_none_dig {s : ByteArray} {k : Nat} (h : k < s.size) (hb : ¬ (48 ≤ s[k].toNat ∧ s[k].toNat ≤ 57)) : numL s.data.toList = none := by
  unfold numL Canon
  rw [if_neg]
  rintro ⟨_, _, h2, _⟩
  rw [List.all_eq_true] at h2
  exact hb (digB_iff.1 (h2 s[k] (by exact List.getElem_mem (by rw [size_list]; exact h))))
theorem numL_some_of {s : ByteArray} (h1 : 0 < s.size) (h9 : s.size ≤ 9) (h0 : 1 < s.size → ¬ s[0].toNat = 48) (hd : s.data.toList.all digB = true) : numL s.data.toList = some (valL s.data.toList) := by
  unfold numL Canon
  rw [if_pos]
  refine ⟨by rw [size_list]; exact h9, ?_, hd, fun h2 e => ?_⟩
  · intro e
    have := size_list s
    rw [e] at this
    simp at this
    omega
  · rw [size_list] at h2
    rw [List.head?_eq_getElem?, List.getElem?_eq_getElem (by rw [size_list]; omega)] at e
    exact h0 h2 (by rw [show s[0] = 48 from Option.some.inj e]; rfl)
end Go.Proofs.YtdeapbihbhoefaaGreatDoor

/- The law of 'for x, y := range seq' over an iterator that keeps a variable of its own in cells, reads some blocks, and calls; the body never leaves the loop. -/
namespace Go.Proofs.YtdeapbihbhoefaaGreatDoor
open Go.RowKit

/-- Whatever lies in a block of S lies as it lay. -/
def Same (S : Nat → Prop) (W W' : World) : Prop := ∀ k o, S k → W.heap[k]? = some o → W'.heap[k]? = some o
theorem Same.refl (S : Nat → Prop) (W : World) : Same S W W := fun _ _ _ h => h
theorem Same.alloc {S : Nat → Prop} {W W' : World} (h : Same S W W') (o : Obj) : Same S W (W'.alloc o) := fun k o1 hk ho => by
  have h1 := h k o1 hk ho
  exact (Below.heap_alloc _ _ _ (Array.getElem?_eq_some_iff.1 h1).1).trans h1
theorem Same.eq {S : Nat → Prop} {W W' : World} (h : Same S W W') {k : Nat} (hk : S k) (hl : k < W.heap.size) : W'.heap[k]? = W.heap[k]? := by
  have e := Array.getElem?_eq_getElem hl
  rw [h k _ hk e, e]

/-- How a body that never leaves the loop may end. -/
def iterPost (S : Nat → Prop) (W : World) (I : World → Prop) : Exit → Act → World → Prop
  | .normal, _, W' => Same S W W' ∧ I W'
  | _, _, _ => False

end Go.Proofs.YtdeapbihbhoefaaGreatDoor

/- Contracts of package protect: heat, reach. -/
namespace Go.Proofs.YtdeapbihbhoefaaGreatDoor
open Go.RowKit
open Calm (bcell Blk)

/-- a heat behind the output 0. -/
def coolF (lk h : Int) : Int := h - h / 2 ^ lk.toNat
theorem shr_bd (lk : Int) {h : Int} (h0 : 0 ≤ h) : 0 ≤ h / 2 ^ lk.toNat ∧ h / 2 ^ lk.toNat ≤ h :=
  ⟨Int.ediv_nonneg h0 (Int.le_of_lt (Int.pow_pos (by decide))), Int.ediv_le_self _ h0⟩
theorem coolF_bd (lk : Int) {h : Int} (h0 : 0 ≤ h) : 0 ≤ coolF lk h ∧ coolF lk h ≤ h := by
  have := shr_bd lk h0
  unfold coolF
  omega
theorem cooled_any (lk ht rc h : Int) (A1 A2 : Option Addr) (n1 c1 n2 c2 : Nat) (w : World) (hl : 1 ≤ lk ∧ lk ≤ 8) (h0 : 0 ≤ h ∧ h ≤ 1099511627776) :
    Calls Tryz.prog 63 #[.agg #[(.int .i64 lk), (.int .i64 ht), .slice A1 n1 c1, (.int .i64 rc), .slice A2 n2 c2], (.int .i64 h)] w fun r w' => r = .returned (.int .i64 (coolF lk h)) ∧ Below w.heap.size w w' := by
  obtain ⟨h1, h2⟩ := hl
  obtain ⟨h3, h4⟩ := h0
  obtain ⟨h5, h6⟩ := shr_bd lk h3
  go_enter Tryz.func63, Tryz.ntmps63
  go_wp2
  go_ret
  exact ⟨rfl, by (repeat (first | (with_reducible exact Below.refl _ _) | ((with_reducible refine Below.setCell ?_ ?_ _); rotate_left 1; focus (first | (simp; done) | (simp; omega) | (simp at *; omega))) | ((with_reducible refine Below.alloc ?_ ?_ _); rotate_left 1; focus (first | (simp; done) | (simp; omega) | (simp at *; omega))) | (with_reducible refine Below.drew ?_) | ((with_reducible refine Calm.step (by assumption) ?_ ?_); rotate_left 1; focus (first | (simp; done) | (simp; omega) | (simp at *; omega)))))⟩
theorem far_any (lk ht rc x : Int) (A1 A2 : Option Addr) (n1 c1 n2 c2 : Nat) (w : World) (hx : -1099511627776 ≤ x ∧ x ≤ 1099511627776) :
    Calls Tryz.prog 138 #[.agg #[(.int .i64 lk), (.int .i64 ht), .slice A1 n1 c1, (.int .i64 rc), .slice A2 n2 c2], (.int .i64 x)] w fun r w' => r = .returned (.bool (decide (rc < absI x))) ∧ Below w.heap.size w w' := by
  obtain ⟨h1, h2⟩ := hx
  go_enter Tryz.func138, Tryz.ntmps138
  go_wp2
  refine Calm.tail_below 4 (by kernel_rfl) (by kernel_rfl) ?_
  simp only [List.take_succ_cons, List.take_zero, List.drop_succ_cons, List.drop_zero]
  repeat (first | (first | (apply Calm.op_move; (focus rfl); (focus (first | exact .inl rfl | exact .inr rfl)); (focus ((try simp only [Act.eval, Array.getD_eq_getD_getElem?, List.getElem?_toArray, List.getElem?_cons_succ, List.getElem?_cons_zero, Option.getD_some]); rfl)); (try simp only [Act.put, List.setIfInBounds_toArray, List.set_cons_zero, List.set_cons_succ])) | (apply Calm.op_not; (focus rfl); (try simp only [Act.put, List.setIfInBounds_toArray, List.set_cons_zero, List.set_cons_succ])) | (apply Calm.op; (focus rfl); (focus (intro W hb; obtain ⟨hc, hf⟩ := bcell hb; clear hb hf; go_simp; (try go_bits); (try rfl); done)); (try simp only [Act.put, List.setIfInBounds_toArray, List.set_cons_zero, List.set_cons_succ]))) | (apply Calm.op_call; (focus rfl); (focus (intro W hb; obtain ⟨hc, hf⟩ := bcell hb; clear hb hf; go_simp; refine ⟨?_, ?_⟩; rfl; rfl)); (focus (intro W hb; first | (go_at_call 59; exact Calm.call_same hb (abs_any _ _ ⟨by omega, by omega⟩)))); (try simp only [Act.put, List.setIfInBounds_toArray, List.set_cons_zero, List.set_cons_succ])))
  refine wpQuiet_nil ?_
  intro w1 hb
  obtain ⟨hbc, hbf⟩ := bcell hb
  have hbz := hb.size
  (try simp at hbz)
  (try have hbz0 : w.heap.size < w1.heap.size := by omega)
  (try have hbz1 : w.heap.size + 1 < w1.heap.size := by omega)
  (try have hbz2 : w.heap.size + 1 + 1 < w1.heap.size := by omega)
  (try have hbz3 : w.heap.size + 1 + 1 + 1 < w1.heap.size := by omega)
  (try have hbz4 : w.heap.size + 1 + 1 + 1 + 1 < w1.heap.size := by omega)
  (try have hbz5 : w.heap.size + 1 + 1 + 1 + 1 + 1 < w1.heap.size := by omega)
  go_wp2
  go_ret
  exact ⟨rfl, by (repeat (first | (with_reducible exact Below.refl _ _) | ((with_reducible refine Below.setCell ?_ ?_ _); rotate_left 1; focus (first | (simp; done) | (simp; omega) | (simp at *; omega))) | ((with_reducible refine Below.alloc ?_ ?_ _); rotate_left 1; focus (first | (simp; done) | (simp; omega) | (simp at *; omega))) | (with_reducible refine Below.drew ?_) | ((with_reducible refine Calm.step (by assumption) ?_ ?_); rotate_left 1; focus (first | (simp; done) | (simp; omega) | (simp at *; omega)))))⟩
theorem cond1_any (lk ht rc h lv x : Int) (A1 A2 A3 : Option Addr) (n1 c1 n2 c2 n3 c3 : Nat) (w : World) :
    Calls Tryz.prog 136 #[.agg #[(.int .i64 lk), (.int .i64 ht), .slice A1 n1 c1, (.int .i64 rc), .slice A2 n2 c2], .agg #[(.int .i64 h), (.int .i64 lv), .slice A3 n3 c3], (.int .i64 x)] w fun r w' => r = .returned (.bool (decide (h ≤ ht))) ∧ Below w.heap.size w w' := by
  go_enter Tryz.func136, Tryz.ntmps136
  go_wp2
  go_ret
  exact ⟨rfl, by (repeat (first | (with_reducible exact Below.refl _ _) | ((with_reducible refine Below.setCell ?_ ?_ _); rotate_left 1; focus (first | (simp; done) | (simp; omega) | (simp at *; omega))) | ((with_reducible refine Below.alloc ?_ ?_ _); rotate_left 1; focus (first | (simp; done) | (simp; omega) | (simp at *; omega))) | (with_reducible refine Below.drew ?_) | ((with_reducible refine Calm.step (by assumption) ?_ ?_); rotate_left 1; focus (first | (simp; done) | (simp; omega) | (simp at *; omega)))))⟩
theorem cond2_any (lk ht rc h lv x : Int) (A1 A2 A3 : Option Addr) (n1 c1 n2 c2 n3 c3 : Nat) (w : World) (hx : -1099511627776 ≤ x ∧ x ≤ 1099511627776) :
    Calls Tryz.prog 137 #[.agg #[(.int .i64 lk), (.int .i64 ht), .slice A1 n1 c1, (.int .i64 rc), .slice A2 n2 c2], .agg #[(.int .i64 h), (.int .i64 lv), .slice A3 n3 c3], (.int .i64 x)] w fun r w' => r = .returned (.bool (!decide (rc < absI x))) ∧ Below w.heap.size w w' := by
  go_enter Tryz.func137, Tryz.ntmps137
  go_wp2_with (first | (go_at_call 138; refine (far_any _ _ _ _ _ _ _ _ _ _ _ ⟨by omega, by omega⟩).mono ?_; rintro r w1 ⟨rfl, hb⟩; obtain ⟨hc, hf⟩ := bcell hb; have hz := hb.size; (try simp at hz); (try have hz0 : w.heap.size < w1.heap.size := by omega); (try have hz1 : w.heap.size + 1 < w1.heap.size := by omega); (try have hz2 : w.heap.size + 1 + 1 < w1.heap.size := by omega); (try have hz3 : w.heap.size + 1 + 1 + 1 < w1.heap.size := by omega); (try have hz4 : w.heap.size + 1 + 1 + 1 + 1 < w1.heap.size := by omega); (try have hz5 : w.heap.size + 1 + 1 + 1 + 1 + 1 < w1.heap.size := by omega); (try have hz6 : w.heap.size + 1 + 1 + 1 + 1 + 1 + 1 < w1.heap.size := by omega)))
  go_ret
  exact ⟨rfl, by (repeat (first | (with_reducible exact Below.refl _ _) | ((with_reducible refine Below.setCell ?_ ?_ _); rotate_left 1; focus (first | (simp; done) | (simp; omega) | (simp at *; omega))) | ((with_reducible refine Below.alloc ?_ ?_ _); rotate_left 1; focus (first | (simp; done) | (simp; omega) | (simp at *; omega))) | (with_reducible refine Below.drew ?_) | ((with_reducible refine Calm.step (by assumption) ?_ ?_); rotate_left 1; focus (first | (simp; done) | (simp; omega) | (simp at *; omega)))))⟩
end Go.Proofs.YtdeapbihbhoefaaGreatDoor

/- Regions whose order is open, the world turning along any relation S (reflexive, transitive): stores in the head. Printed by relg.py. -/
namespace Go.Proofs.YtdeapbihbhoefaaGreatDoor.RelG
open Go.RowKit
open Rel (Know dst puts upd puts_agree puts_put Apart apart_of puts_new put_size puts_size puts_other eval_put_same puts_here wanted_of GOK countP_upd left Ln okB sizeB all_listed listed_Ln some_ready fill fill_puts Ctx dep1 deps deps_of facts facts_of ons GOK3)

/-- .. and stays known along S. -/
def Stable (S : World → World → Prop) (R : Know) : Prop := ∀ v W W', R v W → S W W' → R v W'

section
variable {P : Program} {ops : Array Oper} {S : World → World → Prop}

/-- What an operation of the head must show: wherever it comes up. -/
def Ob (S : World → World → Prop) (P : Program) (ops : Array Oper) (n : Nat) (w0 : World) (a0 : Act) (Γ : List Know) (o : Oper) (R : Know) : Prop :=
  ∀ (a : Act) (W : World), S w0 W → a.tmps.size = a0.tmps.size →
    (∀ e ∈ o.after, Region.binds .any e = true → ∀ t, dst ops e.on = some t → ∀ K, Γ[e.on]? = some K → K (a.eval (.tmp t)) W) →
    (∀ t, (∀ j, j < n → dst ops j ≠ some t) → a.eval (.tmp t) = a0.eval (.tmp t)) →
    ∀ (K : Act → World → Prop) (Q : Exit → Act → World → Prop), (∀ v W', R v W' → S W W' → K (a.put o.dst v) W') → o.wp P a W K Q


/-- The walk in the order of the text: at each operation something that stays known is chosen. -/
def walk (S : World → World → Prop) (P : Program) (ops : Array Oper) (n : Nat) (w0 : World) (a0 : Act) (T : List Know → Prop) : List Know → List Oper → Prop
  | Γ, [] => T Γ
  | Γ, o :: l => ∃ R, Stable S R ∧ GOK ops Γ o ∧ (dst ops Γ.length = o.dst → Ob S P ops n w0 a0 Γ o R) ∧ walk S P ops n w0 a0 T (Γ ++ [R]) l


theorem walk_all {n : Nat} {w0 : World} {a0 : Act} {T : List Know → Prop} : ∀ (l : List Oper) (Γ : List Know), walk S P ops n w0 a0 T Γ l →
    ∃ Δ : List Know, Δ.length = l.length ∧ T (Γ ++ Δ) ∧ ∀ k o, l[k]? = some o → ∃ R, Δ[k]? = some R ∧ Stable S R ∧ GOK ops (Γ ++ Δ.take k) o ∧ (dst ops (Γ.length + k) = o.dst → Ob S P ops n w0 a0 (Γ ++ Δ.take k) o R)
  | [], Γ, h => ⟨[], rfl, by simpa [walk] using h, fun k o hk => by simp at hk⟩
  | o :: l, Γ, h => by
    obtain ⟨R, hs, hg, hob, hw⟩ := h
    obtain ⟨Δ, hl, hT, hall⟩ := walk_all l _ hw
    refine ⟨R :: Δ, by simp [hl], by simpa using hT, fun k o' hk => ?_⟩
    cases k with
    | zero =>
      obtain rfl : o = o' := by simpa using hk
      exact ⟨R, rfl, hs, by simpa using hg, by simpa using hob⟩
    | succ k =>
      obtain ⟨R', h1, h2, h3, h4⟩ := hall k o' (by simpa using hk)
      refine ⟨R', by simpa using h1, h2, by simpa using h3, fun hd => ?_⟩
      have := h4 (by rw [← hd]; congr 1; simp; omega)
      simpa using this

theorem Ob.mono {n : Nat} {w0 : World} {a0 : Act} {Γ Δ : List Know} {o : Oper} {R : Know} (h : Ob S P ops n w0 a0 Γ o R) (hsub : ∀ e ∈ o.after, ∀ K, Γ[e.on]? = some K → Δ[e.on]? = some K) : Ob S P ops n w0 a0 Δ o R :=
  fun a W hb hz hd hbase K Q hK => h a W hb hz (fun e he hbd t ht K' hK' => hd e he hbd t ht K' (hsub e he K' hK')) hbase K Q hK

/-- What holds while the head is on its way. -/
structure Inv (S : World → World → Prop) (ops : Array Oper) (n : Nat) (w0 : World) (a0 : Act) (Γ : List Know) (listed : Array Bool) (a : Act) (W : World) : Prop where
  below : S w0 W
  vals : ∃ x : Nat → Value, a = puts ops x (fun j => listed.getD j false) (List.range n) a0 ∧ ∀ j, j < n → listed.getD j false = true → ∀ K, Γ[j]? = some K → K (x j) W


theorem go (ht' : ∀ a b c, S a b → S b c → S a c) {n : Nat} {Q : Exit → Act → World → Prop} {w0 : World} {a0 : Act} {Γ : List Know} (hok : okB ops n = true) (hsz : sizeB ops n a0.tmps.size = true)
    (hΓ : ∀ k, k < n → ∃ o R, ops[k]? = some o ∧ Γ[k]? = some R ∧ Stable S R ∧ GOK ops Γ o ∧ Ob S P ops n w0 a0 Γ o R)
    (hend : ∀ (x : Nat → Value) (W : World), S w0 W → (∀ j, j < n → ∀ K, Γ[j]? = some K → K (x j) W) → wpAny P .any ops Q (ops.size - n) (Ln n ops.size) (puts ops x (fun _ => true) (List.range n) a0) W) :
    ∀ (f : Nat) (listed : Array Bool) (a : Act) (W : World), HeadInv .any ops n listed → left n listed = f → Inv S ops n w0 a0 Γ listed a W → wpAny P .any ops Q (f + (ops.size - n)) listed a W := by
  simp only [okB, Bool.and_eq_true, decide_eq_true_eq] at hok
  obtain ⟨⟨⟨⟨⟨hn, hs⟩, hc⟩, _⟩, hap⟩, hback⟩ := hok
  have hap := apart_of hap
  intro f
  induction f with
  | zero =>
    intro listed a W inv hl hI
    obtain ⟨hb, x, rfl, hx⟩ := hI
    have hall := all_listed hl
    rw [Nat.zero_add]
    rw [puts_agree (p' := fun _ => true) (x' := x) (List.range n) a0 (fun j hj => ⟨hall j (List.mem_range.1 hj), fun _ => rfl⟩), listed_Ln inv hl (by omega)]
    exact hend x W hb (fun j hj K hK => hx j hj (hall j hj) K hK)
  | succ f ih =>
    intro listed a W inv hl hI
    have hex : ∃ k, k < n ∧ listed.getD k true = false := by
      apply Classical.byContradiction
      intro hno
      have : left n listed = 0 := List.countP_eq_zero.2 (fun j hj => by
        have hj := List.mem_range.1 hj
        have hjs : j < listed.size := by rw [inv.size]; omega
        cases h : listed.getD j false with
        | true => simp
        | false => exact absurd ⟨j, hj, getD_in hjs h⟩ hno)
      omega
    obtain ⟨k, hk, hun⟩ := hex
    rw [show f + 1 + (ops.size - n) = (f + (ops.size - n)) + 1 by omega]
    refine ⟨fun h0 => ?_, fun i hi => ?_⟩
    · obtain ⟨i, hi⟩ := some_ready inv hback hn (k + 1) k (by omega) hk hun
      rw [h0] at hi
      cases hi
    have hin : i < n := by
      rcases Nat.lt_or_ge i n with h | h
      · exact h
      · exact absurd hi (tail_waits hs hc hn inv _ k rfl hk hun i h)
    obtain ⟨hiun, oi, hoi, hdeps⟩ := mem_ready.1 hi
    obtain ⟨o, R, ho, hR, hst, hg, hob⟩ := hΓ i hin
    obtain rfl : oi = o := Option.some.inj (hoi.symm.trans ho)
    obtain ⟨hb, x, rfl, hx⟩ := hI
    have hdi : dst ops i = oi.dst := by simp [dst, ho]
    have his : i < listed.size := by rw [inv.size]; omega
    have hif : listed.getD i false = false := getD_both hiun
    have hszt : ∀ j t, j < n → dst ops j = some t → t < a0.tmps.size := fun j t hj hd => by
      have := List.all_eq_true.1 hsz j (List.mem_range.2 hj)
      simpa [hd] using this
    have back : ∀ e ∈ oi.after, Region.binds .any e = true → e.on < i := fun e he hbd => by
      have h1 := List.all_eq_true.1 hback i (List.mem_range.2 (by omega))
      simp only [ho] at h1
      simpa [hbd] using Array.all_eq_true'.1 h1 e he
    unfold wpOp
    simp only [ho]
    have hwant : Region.wanted oi (yielded ops (puts ops x (fun j => listed.getD j false) (List.range n) a0).tmps) = true := by
      rcases hg with hg | ⟨g, b, t, hg, ⟨e, he, hbd, rfl⟩, hd, hK⟩
      · simp [Region.wanted, hg]
      · have hel := hdeps e he hbd
        have hen : e.on < n := by have := back e he hbd; omega
        have h1 := puts_here (x := x) (p := fun j => listed.getD j false) hap hen hel hd (List.range n) a0 (List.nodup_range) (List.mem_range.2 hen) (fun j hj => List.mem_range.1 hj) (hszt _ _ hen hd)
        have h2 : x e.on = .bool b := hx e.on hen hel _ hK
        have h3 : t < (puts ops x (fun j => listed.getD j false) (List.range n) a0).tmps.size := by rw [puts_size]; exact hszt _ _ hen hd
        rw [h2] at h1
        exact wanted_of hg hd h1 h3
    rw [if_pos hwant]
    refine .inl (hob _ W hb (puts_size _ _) ?_ ?_ _ _ ?_)
    · intro e he hbd t ht K hK
      have hel := hdeps e he hbd
      have hen : e.on < n := by have := back e he hbd; omega
      rw [puts_here hap hen hel ht (List.range n) a0 (List.nodup_range) (List.mem_range.2 hen) (fun j hj => List.mem_range.1 hj) (hszt _ _ hen ht)]
      exact hx e.on hen hel K hK
    · intro t ht
      exact puts_other _ _ (fun j hj => ht j (List.mem_range.1 hj))
    · intro v W' hv hb'
      have hget : ∀ j, (listed.setIfInBounds i true).getD j false = upd (fun j => listed.getD j false) i true j := by
        intro j
        by_cases hji : j = i
        · subst hji
          simp [upd, his]
        · rw [getD_set_ne false (Ne.symm hji)]
          simp [upd, hji]
      refine ih _ _ W' (inv.set hi hin) ?_ ⟨ht' _ _ _ hb hb', upd x i v, ?_, ?_⟩
      · have h1 := countP_upd (i := i) (p := fun j => !listed.getD j false) (by simp [hif]) (List.range n) List.nodup_range (List.mem_range.2 hin)
        have h2 : left n (listed.setIfInBounds i true) = (List.range n).countP (upd (fun j => !listed.getD j false) i false) := by
          unfold left
          congr 1
          funext j
          rw [hget j]
          by_cases hji : j = i <;> simp [upd, hji]
        unfold left at hl
        omega
      · rw [← hdi, puts_new hap hin hif (List.range n) a0 List.nodup_range (List.mem_range.2 hin) (fun j hj => List.mem_range.1 hj)]
        exact puts_agree _ _ (fun j _ => ⟨(hget j).symm, fun _ => rfl⟩)
      · intro j hj hlj K hK
        rw [hget j] at hlj
        by_cases hji : j = i
        · subst hji
          obtain rfl : R = K := Option.some.inj (hR.symm.trans hK)
          simpa [upd] using hv
        · have e1 : upd x i v j = x j := by simp [upd, hji]
          have e2 : listed.getD j false = true := by simpa [upd, hji] using hlj
          rw [e1]
          obtain ⟨_, R', _, hR', hst', _⟩ := hΓ j hj
          obtain rfl : R' = K := Option.some.inj (hR'.symm.trans hK)
          exact hst' _ _ _ (hx j hj e2 _ hK) hb'

/-- The frame with all values of the head. -/
def fill : List Oper → Nat → (Nat → Value) → Act → Act
  | [], _, _, a => a
  | o :: l, k, x, a => fill l (k + 1) x (a.put o.dst (x k))
theorem fill_puts {x : Nat → Value} : ∀ (l : List Oper) (k : Nat) (a : Act), (∀ j, j < l.length → l[j]? = ops[k + j]?) → fill l k x a = puts ops x (fun _ => true) (List.range' k l.length) a
  | [], _, _, _ => rfl
  | o :: l, k, a, h => by
    have h0 : ops[k]? = some o := by simpa using (h 0 (by simp)).symm
    have hd : dst ops k = o.dst := by simp [dst, h0]
    simp only [fill, List.length_cons, List.range'_succ, puts, if_true, hd]
    exact fill_puts l (k + 1) _ (fun j hj => by have := h (j + 1) (by simp; omega); simpa [Nat.add_assoc, Nat.add_comm 1 j] using this)

/-- ████ The region. -/
theorem region_w (ht' : ∀ a b c, S a b → S b c → S a c) (hdr : ∀ W, S W { W with drawn := W.drawn + 1 }) {Q : Exit → Act → World → Prop} {a : Act} {w : World} {l : List Oper} (n : Nat) (hok : okB l.toArray n = true) (hsz : sizeB l.toArray n a.tmps.size = true)
    (h : walk S P l.toArray n w a (fun (Γ : List Know) => ∀ (x : Nat → Value) (W : World), S w W → (∀ (j : Nat) (K : Know), Γ[j]? = some K → K (x j) W) → wpList P l.toArray Q (l.drop n) (fill (l.take n) 0 x a) W) [] (l.take n)) :
    wpAny P .any l.toArray Q l.toArray.size (Array.replicate l.toArray.size false) a { w with drawn := w.drawn + 1 } := by
  have hok' := hok
  simp only [okB, Bool.and_eq_true, decide_eq_true_eq] at hok'
  obtain ⟨⟨⟨⟨⟨hn, _⟩, _⟩, hseq⟩, _⟩, hback⟩ := hok'
  have hn' : n < l.length := by simpa using hn
  have htl : (l.take n).length = n := by simp; omega
  obtain ⟨Δ, hlen, hT, hall⟩ := walk_all _ _ h
  rw [List.nil_append] at hT
  rw [htl] at hlen
  have hget : ∀ k, k < n → (l.take n)[k]? = l.toArray[k]? := fun k hk => by simp [List.getElem?_take, hk]
  have hΓ : ∀ k, k < n → ∃ o R, l.toArray[k]? = some o ∧ Δ[k]? = some R ∧ Stable S R ∧ GOK l.toArray Δ o ∧ Ob S P l.toArray n w a Δ o R := by
    intro k hk
    obtain ⟨o, ho⟩ : ∃ o, l.toArray[k]? = some o := ⟨_, Array.getElem?_eq_getElem (by simp; omega)⟩
    obtain ⟨R, h1, h2, h3, h4⟩ := hall k o (by rw [hget k hk, ho])
    rw [List.nil_append] at h3
    refine ⟨o, R, ho, h1, h2, h3.mono (fun g K hK => by
      rw [List.getElem?_take] at hK
      split at hK
      · exact hK
      · cases hK), (h4 (by simp only [List.length_nil, Nat.zero_add]; simp [dst, ho])).mono fun e he K hK => ?_⟩
    rw [List.nil_append] at hK
    rw [List.getElem?_take] at hK
    split at hK
    · exact hK
    · cases hK
  have inv0 : HeadInv .any l.toArray n (Array.replicate l.toArray.size false) :=
    ⟨by simp, fun j oj _ hl => (by rw [getD_replicate_false] at hl; cases hl), fun t _ ht => getD_in (by simpa using ht) (getD_replicate_false _ _)⟩
  have hleft : left n (Array.replicate l.toArray.size false) = n := by
    unfold left
    rw [List.countP_eq_length.2 (fun j _ => by rw [getD_replicate_false]; rfl), List.length_range]
  have hputs : ∀ x, puts l.toArray x (fun _ => true) (List.range n) a = fill (l.take n) 0 x a := fun x => by
    rw [fill_puts (ops := l.toArray) (l.take n) 0 a (fun j hj => by rw [htl] at hj; rw [hget j hj, Nat.zero_add]), htl, List.range_eq_range']
  have H := go ht' (P := P) (Q := Q) (w0 := w) (a0 := a) hok hsz hΓ (fun x W hb hx => by
    have hdl : (l.drop n).length = l.toArray.size - n := by simp
    have := wpAny_of_seq (md := .any) (Q' := Q) (ops := l.toArray) (P := P) (l.drop n) n (Ln n l.toArray.size) (fill (l.take n) 0 x a) W (fun j => by simp [List.getElem?_drop]) (by rw [hdl]; exact hseq)
      (hT x W hb (fun j K hK => hx j (by
        have := (List.getElem?_eq_some_iff.1 hK).1
        omega) K hK))
    rw [hputs x, ← hdl]
    exact this) n _ a { w with drawn := w.drawn + 1 } inv0 hleft ⟨hdr w, fun _ => undef, by
      rw [puts_agree (p' := fun _ => false) (x' := fun _ => undef) (List.range n) a (fun j _ => ⟨getD_replicate_false _ _, fun _ => rfl⟩)]
      exact (show ∀ (L : List Nat) (b : Act), b = puts l.toArray (fun _ => undef) (fun _ => false) L b from fun L => by
        induction L with
        | nil => intro b; rfl
        | cons j L ih => intro b; unfold puts; simpa using ih b) _ _, fun j _ hl => by rw [getD_replicate_false] at hl; cases hl⟩
  have e : n + (l.toArray.size - n) = l.toArray.size := by omega
  rw [e] at H
  exact H
end

def Ob3 (S : World → World → Prop) (P : Program) (DS : List Tmp) (w0 : World) (a0 : Act) (Γ : Ctx) (o : Oper) (R : Know) : Prop :=
  ∀ (a : Act) (W : World), S w0 W → deps Γ a W (ons o) → (∀ t, t ∉ DS → a.eval (.tmp t) = a0.eval (.tmp t)) →
    ∀ (K : Act → World → Prop) (Q : Exit → Act → World → Prop), (∀ v W', R v W' → S W W' → K (a.put o.dst v) W') → o.wp P a W K Q

def walk3 (S : World → World → Prop) (P : Program) (DS : List Tmp) (w0 : World) (a0 : Act) (T : Ctx → Prop) : Ctx → List Oper → Prop
  | Γ, [] => T Γ
  | Γ, o :: l => ∃ R, Stable S R ∧ GOK3 Γ o ∧ Ob3 S P DS w0 a0 Γ o R ∧ walk3 S P DS w0 a0 T (Γ ++ [(o.dst, R)]) l
theorem walk_of_walk3 {S : World → World → Prop} {P : Program} {ops : Array Oper} {n : Nat} {DS : List Tmp} {w0 : World} {a0 : Act} {T : Ctx → Prop} {T' : List Know → Prop} (hDS : ∀ t, t ∉ DS → ∀ j, j < n → dst ops j ≠ some t)
    (hT : ∀ Γ, T Γ → T' (Γ.map (·.2))) :
    ∀ (l : List Oper) (Γ : Ctx), (∀ j, j < l.length → l[j]? = ops[Γ.length + j]?) → (∀ j d R, Γ[j]? = some (d, R) → dst ops j = d) → walk3 S P DS w0 a0 T Γ l → walk S P ops n w0 a0 T' (Γ.map (·.2)) l
  | [], Γ, _, _, h => hT Γ h
  | o :: l, Γ, hl, hΓ, h => by
    obtain ⟨R, hs, hg, hob, hw⟩ := h
    have h0 : ops[Γ.length]? = some o := by simpa using (hl 0 (by simp)).symm
    have hg' : GOK ops (Γ.map (·.2)) o := by
      rcases hg with hg | ⟨g, b, t, hg, hin, hΓg⟩
      · exact .inl hg
      · obtain ⟨e, he, rfl⟩ := List.mem_map.1 hin
        obtain ⟨he1, he2⟩ := List.mem_filter.1 he
        exact .inr ⟨e.on, b, t, hg, ⟨e, by simpa using he1, he2, rfl⟩, hΓ _ _ _ hΓg, by simp [hΓg]⟩
    refine ⟨R, hs, hg', fun _ => ?_, ?_⟩
    · intro a W hb hz hd hbase K Q hK
      refine hob a W hb (deps_of _ fun j hj => ?_) (fun t ht => hbase t (fun j hj => hDS t ht j hj)) K Q hK
      obtain ⟨e, he, rfl⟩ := List.mem_map.1 hj
      obtain ⟨he1, he2⟩ := List.mem_filter.1 he
      have he' : e ∈ o.after := by simpa using he1
      cases hc : Γ[e.on]? with
      | none => trivial
      | some c =>
        obtain ⟨d, K'⟩ := c
        cases d with
        | none => trivial
        | some t => exact hd e he' he2 t (hΓ _ _ _ hc) K' (by simp [hc])
    · have := walk_of_walk3 hDS hT l (Γ ++ [(o.dst, R)]) (fun j hj => by
        have := hl (j + 1) (by simp; omega)
        simpa [Nat.add_assoc, Nat.add_comm 1 j] using this) (fun j d R' hj => by
        rcases Nat.lt_or_ge j Γ.length with h | h
        · rw [List.getElem?_append_left h] at hj
          exact hΓ j d R' hj
        · have hjl : j < (Γ ++ [(o.dst, R)]).length := (List.getElem?_eq_some_iff.1 hj).1
          obtain rfl : j = Γ.length := by simp at hjl; omega
          simp at hj
          rw [← hj.1]
          simp [dst, h0]) hw
      simpa using this

theorem region3_w {S : World → World → Prop} (ht' : ∀ a b c, S a b → S b c → S a c) (hdr : ∀ W, S W { W with drawn := W.drawn + 1 }) {P : Program} {Q : Exit → Act → World → Prop} {a : Act} {w : World} {l : List Oper} (n : Nat) (hok : okB l.toArray n = true) (hsz : sizeB l.toArray n a.tmps.size = true)
    (h : walk3 S P ((l.take n).filterMap (·.dst)) w a (fun Γ => ∀ (x : Nat → Value) (W : World), S w W → facts x W 0 Γ → wpList P l.toArray Q (l.drop n) (fill (l.take n) 0 x a) W) [] (l.take n)) :
    wpAny P .any l.toArray Q l.toArray.size (Array.replicate l.toArray.size false) a { w with drawn := w.drawn + 1 } := by
  have hn' : n < l.length := by
    simp only [okB, Bool.and_eq_true, decide_eq_true_eq] at hok
    simpa using hok.1.1.1.1.1
  have htl : (l.take n).length = n := by simp; omega
  refine region_w ht' hdr n hok hsz (walk_of_walk3 (n := n) (fun t ht j hj hd => ht ?_) (fun Γ hT x W hb hx => hT x W hb (facts_of Γ 0 (fun j K hj => by rw [Nat.zero_add]; exact hx j K hj))) (l.take n) [] (fun j hj => by
      rw [htl] at hj
      simp [List.getElem?_take, hj]) (fun j d R hj => by simp at hj) h)
  have hlj : j < l.length := by omega
  simp [dst, hlj] at hd
  exact List.mem_filterMap.2 ⟨l[j], List.mem_iff_getElem.2 ⟨j, by omega, by simp⟩, hd⟩
theorem region3 {S : World → World → Prop} (ht' : ∀ a b c, S a b → S b c → S a c) (hdr : ∀ W, S W { W with drawn := W.drawn + 1 }) {P : Program} {id : Nat} {Q : Exit → Act → World → Prop} {a : Act} {w : World} {l : List Oper} (n : Nat) (hm : P.follows .mixedOrders = true) (hok : okB l.toArray n = true) (hsz : sizeB l.toArray n a.tmps.size = true)
    (h : walk3 S P ((l.take n).filterMap (·.dst)) w a (fun Γ => ∀ (x : Nat → Value) (W : World), S w W → facts x W 0 Γ → wpList P l.toArray Q (l.drop n) (fill (l.take n) 0 x a) W) [] (l.take n)) :
    (Code.region id l.toArray true).wp P Q a w := wp_region_any hm (region3_w ht' hdr n hok hsz h)
section
variable {S : World → World → Prop} {P : Program} {DS : List Tmp} {w0 : World} {a0 : Act} {T : Ctx → Prop} {Γ : Ctx} {o : Oper} {rest : List Oper}

theorem op3 (hr : ∀ W, S W W) (v : Value) (hg : GOK3 Γ o) (h : ∀ (a : Act) (W : World), S w0 W → deps Γ a W (ons o) → (∀ t, t ∉ DS → a.eval (.tmp t) = a0.eval (.tmp t)) → (execOp a.eval o).run P W = .ok (.value v) W)
    (hn : walk3 S P DS w0 a0 T (Γ ++ [(o.dst, fun u _ => u = v)]) rest) : walk3 S P DS w0 a0 T Γ (o :: rest) :=
  ⟨_, fun _ _ _ h _ => h, hg, fun a W hb hd hbase K Q hK => by
    unfold Oper.wp
    rw [h a W hb hd hbase]
    exact hK v W rfl (hr W), hn⟩
/-- An operation that stores: what it does to the world is along S. -/
theorem store3 (R : World → Prop) (hs : ∀ W W', R W → S W W' → R W') (hg : GOK3 Γ o)
    (h : ∀ (a : Act) (W : World), S w0 W → deps Γ a W (ons o) → (∀ t, t ∉ DS → a.eval (.tmp t) = a0.eval (.tmp t)) → ∃ W', (execOp a.eval o).run P W = .ok .skip W' ∧ R W' ∧ S W W')
    (hn : walk3 S P DS w0 a0 T (Γ ++ [(o.dst, fun _ W => R W)]) rest) : walk3 S P DS w0 a0 T Γ (o :: rest) :=
  ⟨fun _ W => R W, fun _ W W' h hS => hs W W' h hS, hg, fun a W hb hd hbase K Q hK => by
    obtain ⟨W', hrun, hR, hS⟩ := h a W hb hd hbase
    unfold Oper.wp
    rw [hrun]
    exact hK undef W' hR hS, hn⟩
theorem done3 (h : T Γ) : walk3 S P DS w0 a0 T Γ [] := h
end
end Go.Proofs.YtdeapbihbhoefaaGreatDoor.RelG

/- Worlds that turn in one block alone, each cell of it to what it will be; for stores in the head of a drawn region. -/
namespace Go.Proofs.YtdeapbihbhoefaaGreatDoor
open Go.RowKit
open Calm (bcell Blk)
/-- below B all but block g is as it was; each cell of block g is as it was, or as it will be. -/
structure Turns (g : Nat) (new : Array Value) (B : Nat) (W W' : World) : Prop where
  os : W'.os = W.os
  tape : W'.tape = W.tape
  output : W'.output = W.output
  size : W.heap.size ≤ W'.heap.size
  block : ∀ k, k < B → k ≠ g → W'.heap[k]? = W.heap[k]?
  cell : ∀ i, W'.cell? ⟨g, i, none⟩ = W.cell? ⟨g, i, none⟩ ∨ W'.cell? ⟨g, i, none⟩ = new[i]? ∧ ∃ u, W.cell? ⟨g, i, none⟩ = some u
  frozen : ∀ i, W'.frozen? ⟨g, i, none⟩ = W.frozen? ⟨g, i, none⟩
theorem Turns.refl (g : Nat) (new : Array Value) (B : Nat) (W : World) : Turns g new B W W := ⟨rfl, rfl, rfl, Nat.le_refl _, fun _ _ _ => rfl, fun _ => .inl rfl, fun _ => rfl⟩
theorem Turns.trans {g : Nat} {new : Array Value} {B : Nat} (a b c : World) (h : Turns g new B a b) (h' : Turns g new B b c) : Turns g new B a c := by
  refine ⟨h'.os.trans h.os, h'.tape.trans h.tape, h'.output.trans h.output, Nat.le_trans h.size h'.size, fun k hk hg => (h'.block k hk hg).trans (h.block k hk hg), fun i => ?_, fun i => (h'.frozen i).trans (h.frozen i)⟩
  rcases h'.cell i with e' | ⟨e', u', hu'⟩
  · rcases h.cell i with e | ⟨e, hu⟩
    · exact .inl (e'.trans e)
    · exact .inr ⟨e'.trans e, hu⟩
  · rcases h.cell i with e | ⟨_, hu⟩
    · exact .inr ⟨e', u', e ▸ hu'⟩
    · exact .inr ⟨e', hu⟩
theorem Turns.drawn {g : Nat} {new : Array Value} {B : Nat} (W : World) : Turns g new B W { W with drawn := W.drawn + 1 } := ⟨rfl, rfl, rfl, Nat.le_refl _, fun _ _ _ => rfl, fun _ => .inl rfl, fun _ => rfl⟩
theorem Turns.of {g : Nat} {new : Array Value} {B : Nat} {W W' : World} (h : Below W.heap.size W W') (hg : g < W.heap.size) (hB : B ≤ W.heap.size) : Turns g new B W W' :=
  ⟨h.os, h.tape, h.output, h.size, fun k hk _ => h.block k (by omega), fun i => .inl (h.cell (p := ⟨g, i, none⟩) hg), fun i => h.frozen (p := ⟨g, i, none⟩) hg⟩
theorem Turns.below {g : Nat} {new : Array Value} {B B' : Nat} {W W' : World} (h : Turns g new B W W') (h1 : B' ≤ g) (h2 : B' ≤ B) : Below B' W W' :=
  ⟨h.os, h.tape, h.output, h.size, fun k hk => h.block k (by omega) (by omega)⟩
theorem Turns.has {g : Nat} {new cs : Array Value} {B : Nat} {W W' : World} (h : Turns g new B W W') (hB : Blk W g cs) (hsz : new.size = cs.size) {i : Nat} (hi : i < cs.size) : ∃ u, W'.cell? ⟨g, i, none⟩ = some u := by
  rcases h.cell i with e | ⟨e, _⟩
  · exact ⟨cs[i], by rw [e, hB.c i]; simp [hi]⟩
  · exact ⟨new[i]'(by omega), by rw [e]; simp [hsz, hi]⟩
theorem Turns.put {g : Nat} {new : Array Value} {B : Nat} {W : World} {i : Nat} {u v : Value} (hu : W.cell? ⟨g, i, none⟩ = some u) (hv : new[i]? = some v) : Turns g new B W (W.setCell ⟨g, i, none⟩ v) := by
  refine ⟨rfl, rfl, rfl, by simp [World.setCell], fun k _ hk => Below.heap_setCell _ _ _ _ hk, fun j => ?_, fun j => World.frozen?_setCell ..⟩
  by_cases hij : i = j
  · subst hij
    exact .inr ⟨(World.cell?_setCell_same W _ v hu).trans hv.symm, u, hu⟩
  · exact .inl (World.cell?_setCell_other W ⟨g, i, none⟩ ⟨g, j, none⟩ v (by intro e; cases e; exact hij rfl))
theorem Turns.old {g : Nat} {new : Array Value} {B : Nat} {W W' : World} (h : Turns g new B W W') : (∀ b o, b < B → b ≠ g → W'.cell? ⟨b, o, none⟩ = W.cell? ⟨b, o, none⟩) ∧ (∀ b o, b < B → b ≠ g → W'.frozen? ⟨b, o, none⟩ = W.frozen? ⟨b, o, none⟩) :=
  ⟨fun b o hb hg => World.cell?_of_block (w := W) (a := ⟨b, o, none⟩) (h.block b hb hg), fun b o hb hg => World.frozen?_of_block (w := W) (a := ⟨b, o, none⟩) (h.block b hb hg)⟩
/-- a stored cell stays what it will be. -/
theorem Turns.stays {g : Nat} {new : Array Value} {B : Nat} {i : Nat} {v : Value} (hv : new[i]? = some v) (W W' : World) (h : W.cell? ⟨g, i, none⟩ = some v) (hS : Turns g new B W W') : W'.cell? ⟨g, i, none⟩ = some v :=
  (hS.cell i).elim (fun e => e.trans h) (fun e => e.1.trans hv)
namespace RelG
open Rel (Know Ctx deps facts ons GOK3)
variable {S : World → World → Prop} {P : Program} {DS : List Tmp} {w0 : World} {a0 : Act} {T : Ctx → Prop} {Γ : Ctx} {o : Oper} {rest : List Oper}
theorem call3 (hof : ∀ W W', S w0 W → Below W.heap.size W W' → S W W') (v : Value) (f : FuncId) (args : Array Value) (hg : GOK3 Γ o)
    (h : ∀ (a : Act) (W : World), S w0 W → deps Γ a W (ons o) → (∀ t, t ∉ DS → a.eval (.tmp t) = a0.eval (.tmp t)) → (execOp a.eval o).run P W = .ok (.enter f args) W)
    (hc : ∀ W, S w0 W → Calls P f args W fun e W' => e = .returned v ∧ Below W.heap.size W W')
    (hn : walk3 S P DS w0 a0 T (Γ ++ [(o.dst, fun u _ => u = v)]) rest) : walk3 S P DS w0 a0 T Γ (o :: rest) :=
  ⟨fun u _ => u = v, fun _ _ _ h _ => h, hg, fun a W hb hd hbase K Q hK => by
    have hrun := h a W hb hd hbase
    unfold Oper.wp
    rw [hrun]
    simp only [Oper.upon]
    refine (hc W hb).mono ?_
    rintro e W' ⟨rfl, hbb⟩
    exact hK v W' rfl (hof W W' hb hbb), hn⟩
end RelG
end Go.Proofs.YtdeapbihbhoefaaGreatDoor
