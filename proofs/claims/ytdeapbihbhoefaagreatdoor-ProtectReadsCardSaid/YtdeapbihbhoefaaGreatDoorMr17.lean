/- Part 17 of the texts of the claim: StR, Opz, RT4, Kc. -/
import Derived.Test.YtdeapbihbhoefaaGreatDoorMr16
import Derived.Test.YtdeapbihbhoefaaGreatDoorMr8
import Derived.Laws.Rows
import Derived.Test.YtdeapbihbhoefaaGreatDoorMr6
import Derived.Test.YtdeapbihbhoefaaGreatDoorMr10
import Derived.Test.YtdeapbihbhoefaaGreatDoorMr7
import Derived.Test.YtdeapbihbhoefaaGreatDoorMr14

/- A drawn region in whose head a struct is stored into a block that the region itself has made: worlds in which rows of integers stay, and blocks of one type turn to what they will be. -/
namespace Go.Proofs.YtdeapbihbhoefaaGreatDoor
open Go.RowKit
open Calm (bcell Blk)
open Rel (Know)

/-- rows of integers stay. -/
def IntKeep (W W' : World) : Prop := ∀ (k : Nat) (cur : Array Value), W.heap[k]? = some (.cells cur 3 (0, 0)) → W'.heap[k]? = some (.cells cur 3 (0, 0))
theorem IntKeep.of {W W' : World} (h : Below W.heap.size W W') : IntKeep W W' := fun _ _ hk => (h.block _ (Array.getElem?_eq_some_iff.1 hk).1).trans hk
theorem IntKeep.refl (W : World) : IntKeep W W := fun _ _ h => h
def IStable (K : Know) : Prop := ∀ u W W', K u W → IntKeep W W' → K u W'
theorem IStable.st {K : Know} (h : IStable K) : Rel.Stable K := fun u W W' hk hb => h u W W' hk (IntKeep.of hb)
theorem KV.ik (v : Value) : IStable (KV v) := fun _ _ _ h _ => h
theorem IntRow.keep {W W' : World} {B : Addr} (h : IntRow W B) (hk : IntKeep W W') : IntRow W' B := by
  obtain ⟨cur, h⟩ := h
  exact ⟨cur, hk _ _ h⟩
theorem Cells.keep {W W' : World} {B : Option Addr} {l : List Int} (h : Cells W B l) (hi : ∀ p, B = some p → IntRow W p) (hk : IntKeep W W') : Cells W' B l := by
  intro h0
  obtain ⟨b, off, rfl, hl, hc⟩ := h h0
  obtain ⟨cur, hcur⟩ := hi _ rfl
  have e := hk _ _ hcur
  refine ⟨b, off, rfl, (Array.getElem?_eq_some_iff.1 e).1, fun k hk2 => ?_⟩
  exact (World.cell?_of_block (w := W) (a := ⟨b, off + k, none⟩) (e.trans hcur.symm)).trans (hc k hk2)
theorem KTI.ik (h lv : Int) (n : Nat) (l : List Int) : IStable (KTI h lv n l) := fun _ _ _ ⟨B, c, h1, h2, h3⟩ hk => ⟨B, c, h1, h2.keep h3 hk, fun p hp => (h3 p hp).keep hk⟩
/-- a guard whose lists lie in rows of integers. -/
def KGI (lk ht rc : Int) (M : Nat) (ts : List Int) (L : Nat) (gs : List Int) : Know := fun u W => ∃ A1 c1 A2 c2, u = .agg #[(.int .i64 lk), (.int .i64 ht), .slice A1 M c1, (.int .i64 rc), .slice A2 L c2] ∧ Cells W A1 ts ∧ Cells W A2 gs ∧ (∀ p, A1 = some p → IntRow W p) ∧ ∀ p, A2 = some p → IntRow W p
theorem KGI.ik (lk ht rc : Int) (M : Nat) (ts : List Int) (L : Nat) (gs : List Int) : IStable (KGI lk ht rc M ts L gs) := fun _ _ _ ⟨A1, c1, A2, c2, h1, h2, h3, h4, h5⟩ hk => ⟨A1, c1, A2, c2, h1, h2.keep h4 hk, h3.keep h5 hk, fun p hp => (h4 p hp).keep hk, fun p hp => (h5 p hp).keep hk⟩
theorem KGI.kg {lk ht rc : Int} {M : Nat} {ts : List Int} {L : Nat} {gs : List Int} {u : Value} {W : World} (h : KGI lk ht rc M ts L gs u W) : KG lk ht rc M ts L gs u W := by
  obtain ⟨A1, c1, A2, c2, h1, h2, h3, _⟩ := h
  exact ⟨A1, c1, A2, c2, h1, h2, h3⟩
/-- a slice that lies in a row of integers. -/
def KSI (n : Nat) (l : List Int) : Know := fun u W => ∃ B c, u = .slice B n c ∧ Cells W B l ∧ ∀ p, B = some p → IntRow W p
theorem KSI.ik (n : Nat) (l : List Int) : IStable (KSI n l) := fun _ _ _ ⟨B, c, h1, h2, h3⟩ hk => ⟨B, c, h1, h2.keep h3 hk, fun p hp => (h3 p hp).keep hk⟩
theorem K3.ik {R1 R2 R3 : Know} (h1 : IStable R1) (h2 : IStable R2) (h3 : IStable R3) : IStable (K3 R1 R2 R3) := fun _ W W' ⟨u1, u2, u3, e, k1, k2, k3⟩ hb => ⟨u1, u2, u3, e, h1 _ W W' k1 hb, h2 _ W W' k2 hb, h3 _ W W' k3 hb⟩

/-- the block is of this type. -/
def IsTy (W : World) (g : Nat) (t : TypeId) : Prop := ∃ cs, W.heap[g]? = some (.cells cs t (0, 0))
theorem IsTy.below {W W' : World} {g : Nat} {t : TypeId} (h : IsTy W g t) (hb : Below W.heap.size W W') : IsTy W' g t := by
  obtain ⟨cs, h⟩ := h
  exact ⟨cs, (hb.block _ (Array.getElem?_eq_some_iff.1 h).1).trans h⟩
theorem IsTy.put {W : World} {g : Nat} {t : TypeId} (h : IsTy W g t) (i : Nat) (v : Value) : IsTy (W.setCell ⟨g, i, none⟩ v) g t := by
  obtain ⟨cs, h⟩ := h
  exact ⟨_, heap_setCell_same W g i cs t v h⟩
theorem IntKeep.put {W0 W : World} (h : IntKeep W0 W) {g : Nat} {t : TypeId} (ht : IsTy W g t) (hne : t ≠ 3) (i : Nat) (v : Value) : IntKeep W0 (W.setCell ⟨g, i, none⟩ v) := fun k cur hk => by
  have h1 := h k cur hk
  obtain ⟨cs, hg⟩ := ht
  by_cases hkg : k = g
  · rw [hkg, hg] at h1
    cases h1
    exact absurd rfl hne
  · exact (Below.heap_setCell _ _ _ _ hkg).trans h1
theorem KSI.put {n : Nat} {l : List Int} {u : Value} {W : World} {g : Nat} {t : TypeId} (h : KSI n l u W) (ht : IsTy W g t) (hne : t ≠ 3) (i : Nat) (v : Value) : KSI n l u (W.setCell ⟨g, i, none⟩ v) := by
  obtain ⟨B, c, h1, h2, h3⟩ := h
  obtain ⟨cs, hg⟩ := ht
  exact ⟨B, c, h1, h2.sets (fun _ p hp => (h3 p hp).ne hg hne) i v, fun p hp => (h3 p hp).sets ((h3 p hp).ne hg hne) i v⟩
theorem IsTy.new {W : World} {t : TypeId} {cs : Array Value} : IsTy (W.alloc (.cells cs t)) W.heap.size t := ⟨cs, heap_new rfl⟩
/-- below B nothing turns; of the newer blocks only those of the type T turn, to what is known. -/
structure Sty (T : TypeId) (K : Know) (B : Nat) (W W' : World) : Prop where
  os : W'.os = W.os
  tape : W'.tape = W.tape
  output : W'.output = W.output
  size : W.heap.size ≤ W'.heap.size
  ne : T ≠ 3
  block : ∀ k, k < W.heap.size → W'.heap[k]? = W.heap[k]? ∨ (B ≤ k ∧ (∃ cs, W.heap[k]? = some (.cells cs T (0, 0))) ∧ ∃ cs, W'.heap[k]? = some (.cells cs T (0, 0)) ∧ K (.agg cs) W')
theorem Sty.refl {T : TypeId} {K : Know} {B : Nat} (hT : T ≠ 3) (W : World) : Sty T K B W W := ⟨rfl, rfl, rfl, Nat.le_refl _, hT, fun _ _ => .inl rfl⟩
theorem Sty.keep {T : TypeId} {K : Know} {B : Nat} {W W' : World} (h : Sty T K B W W') : IntKeep W W' := by
  intro k cur hk
  rcases h.block k (Array.getElem?_eq_some_iff.1 hk).1 with e | ⟨_, ⟨cs, e⟩, _⟩
  · exact e.trans hk
  · rw [hk] at e
    cases e
    exact absurd rfl h.ne
theorem Sty.trans {T : TypeId} {K : Know} (hK : IStable K) {B : Nat} (a b c : World) (h : Sty T K B a b) (k : Sty T K B b c) : Sty T K B a c := by
  refine ⟨k.os.trans h.os, k.tape.trans h.tape, k.output.trans h.output, Nat.le_trans h.size k.size, h.ne, fun i hi => ?_⟩
  rcases k.block i (Nat.lt_of_lt_of_le hi h.size) with e | ⟨hB, ⟨cs, e⟩, cs', e', hk'⟩
  · rcases h.block i hi with e2 | ⟨hB, h1, cs, e2, hk⟩
    · exact .inl (e.trans e2)
    · exact .inr ⟨hB, h1, cs, e.trans e2, hK _ _ _ hk k.keep⟩
  · rcases h.block i hi with e2 | ⟨hB, h1, _⟩
    · exact .inr ⟨hB, ⟨cs, e2.symm.trans e⟩, cs', e', hk'⟩
    · exact .inr ⟨hB, h1, cs', e', hk'⟩
theorem Sty.drawn {T : TypeId} {K : Know} {B : Nat} (hT : T ≠ 3) (W : World) : Sty T K B W { W with drawn := W.drawn + 1 } := ⟨rfl, rfl, rfl, Nat.le_refl _, hT, fun _ _ => .inl rfl⟩
theorem Sty.of {T : TypeId} {K : Know} {B : Nat} (hT : T ≠ 3) {W W' : World} (h : Below W.heap.size W W') : Sty T K B W W' := ⟨h.os, h.tape, h.output, h.size, hT, fun k hk => .inl (h.block k hk)⟩
theorem Sty.below {T : TypeId} {K : Know} {B : Nat} {W W' : World} (h : Sty T K B W W') (hB : B ≤ W.heap.size) : Below B W W' :=
  ⟨h.os, h.tape, h.output, h.size, fun k hk => (h.block k (by omega)).elim id (fun h2 => by omega)⟩

set_option maxRecDepth 100000 in
/-- a state stored. -/
theorem run_storeS {W : World} {g : Nat} {u0 u1 u2 : Value} {h lv : Int} {B : Option Addr} {n c : Nat} (hg : W.heap[g]? = some (.cells #[u0, u1, u2] 45 (0, 0))) {o : Oper} {ρ : Operand → Value} {p v : Tmp} (hop : o.op = .store 45 (.tmp p) (.tmp v))
    (hp : ρ (.tmp p) = .pointer (some ⟨g, 0, none⟩)) (hv : ρ (.tmp v) = .agg #[(.int .i64 h), (.int .i64 lv), .slice B n c]) : (execOp ρ o).run Tryz.prog W = .ok .skip (((W.setCell ⟨g, 0, none⟩ (.int .i64 h)).setCell ⟨g, 1, none⟩ (.int .i64 lv)).setCell ⟨g, 2, none⟩ (.slice B n c)) := by
  have K := Calm.Blk.row hg
  obtain ⟨c0, c1, c2, l, f⟩ := K.o3
  have f0 := K.f 0
  have f1 := K.f 1
  have f2 := K.f 2
  clear K
  obtain ⟨dst, op, type, pos, after, guard⟩ := o
  simp only at hop
  subst hop
  go_simp
theorem set3_heap {W : World} {g : Nat} {u0 u1 u2 : Value} {t : TypeId} (a b c : Value) (hg : W.heap[g]? = some (.cells #[u0, u1, u2] t (0, 0))) : (((W.setCell ⟨g, 0, none⟩ a).setCell ⟨g, 1, none⟩ b).setCell ⟨g, 2, none⟩ c).heap[g]? = some (.cells #[a, b, c] t (0, 0)) := by
  exact heap_setCell_same _ g 2 _ t c (heap_setCell_same _ g 1 _ t b (heap_setCell_same W g 0 _ t a hg))

namespace RelH
open Rel (ons)
section
variable {S : World → World → Prop} {P : Program} {DS : List Tmp} {w0 : World} {a0 : Act} {T : Ctx → Prop} {Γ : Ctx} {o : Oper} {rest : List Oper}
theorem dep_at {x : Nat → Value} {Γ : Ctx} {a : Act} {W : World} : ∀ {js : List Nat}, deps x Γ a W js → ∀ (j : Nat) {t : Tmp} {R : DK}, js.contains j = true → Γ[j]? = some (some t, R) → x j = a.eval (.tmp t) ∧ R x (a.eval (.tmp t)) W
  | [], _, _, _, _, hj, _ => by simp at hj
  | i :: js, h, j, t, R, hj, hΓ => by
    rcases Bool.eq_false_or_eq_true (i == j) with e | e
    · rw [beq_iff_eq] at e
      subst e
      have h1 := h.1
      rw [hΓ] at h1
      exact h1
    · refine dep_at h.2 j ?_ hΓ
      rw [List.contains_cons] at hj
      have : (j == i) = false := by rw [beq_eq_false_iff_ne] at e ⊢; exact fun e2 => e e2.symm
      rwa [this, Bool.false_or] at hj
theorem dep_k {x : Nat → Value} {Γ : Ctx} {a : Act} {W : World} {js : List Nat} (h : deps x Γ a W js) (j : Nat) {t : Tmp} {K : Know} (hj : js.contains j = true) (hΓ : Γ[j]? = some (some t, fun _ => K)) : K (a.eval (.tmp t)) W := (dep_at h j hj hΓ).2
theorem sk {K : Know} (hk : ∀ W W', S W W' → IntKeep W W') (h : IStable K) : Stable S (fun _ => K) := fun _ _ W W' h1 hS => h _ W W' h1 (hk W W' hS)
theorem mvH (hr : ∀ W, S W W) (hk : ∀ W W', S W W' → IntKeep W W') (t : Tmp) (j : Nat) {K : Know} (hop : o.op = .move (.tmp t)) (hj : (ons o).contains j = true) (hΓ : Γ[j]? = some (some t, fun _ => K)) (hs : IStable K) (hg : GOK3 Γ o)
    (hn : walk3 S P DS w0 a0 T (Γ ++ [(o.dst, fun _ => K)]) rest) : walk3 S P DS w0 a0 T Γ (o :: rest) :=
  opR3 hr _ (sk hk hs) loc_const hg (fun a W x hb hd _ => ⟨a.eval (.tmp t), by simp [execOp, hop], dep_k hd j hj hΓ⟩) hn
theorem ext30H (hr : ∀ W, S W W) (hk : ∀ W W', S W W' → IntKeep W W') (t : Tmp) (j : Nat) {R1 R2 R3 : Know} (hop : o.op = .extract (.tmp t) 0) (hj : (ons o).contains j = true) (hΓ : Γ[j]? = some (some t, fun _ => K3 R1 R2 R3)) (hs : IStable R1) (hg : GOK3 Γ o)
    (hn : walk3 S P DS w0 a0 T (Γ ++ [(o.dst, fun _ => R1)]) rest) : walk3 S P DS w0 a0 T Γ (o :: rest) :=
  opR3 hr _ (sk hk hs) loc_const hg (fun a W x hb hd _ => by
    obtain ⟨u1, u2, u3, e, h1, h2, h3⟩ := dep_k hd j hj hΓ
    exact ⟨u1, by simp [execOp, hop, e, Instr.extract, Result.andThen], h1⟩) hn
theorem ext31H (hr : ∀ W, S W W) (hk : ∀ W W', S W W' → IntKeep W W') (t : Tmp) (j : Nat) {R1 R2 R3 : Know} (hop : o.op = .extract (.tmp t) 1) (hj : (ons o).contains j = true) (hΓ : Γ[j]? = some (some t, fun _ => K3 R1 R2 R3)) (hs : IStable R2) (hg : GOK3 Γ o)
    (hn : walk3 S P DS w0 a0 T (Γ ++ [(o.dst, fun _ => R2)]) rest) : walk3 S P DS w0 a0 T Γ (o :: rest) :=
  opR3 hr _ (sk hk hs) loc_const hg (fun a W x hb hd _ => by
    obtain ⟨u1, u2, u3, e, h1, h2, h3⟩ := dep_k hd j hj hΓ
    exact ⟨u2, by simp [execOp, hop, e, Instr.extract, Result.andThen], h2⟩) hn
theorem ext32H (hr : ∀ W, S W W) (hk : ∀ W W', S W W' → IntKeep W W') (t : Tmp) (j : Nat) {R1 R2 R3 : Know} (hop : o.op = .extract (.tmp t) 2) (hj : (ons o).contains j = true) (hΓ : Γ[j]? = some (some t, fun _ => K3 R1 R2 R3)) (hs : IStable R3) (hg : GOK3 Γ o)
    (hn : walk3 S P DS w0 a0 T (Γ ++ [(o.dst, fun _ => R3)]) rest) : walk3 S P DS w0 a0 T Γ (o :: rest) :=
  opR3 hr _ (sk hk hs) loc_const hg (fun a W x hb hd _ => by
    obtain ⟨u1, u2, u3, e, h1, h2, h3⟩ := dep_k hd j hj hΓ
    exact ⟨u3, by simp [execOp, hop, e, Instr.extract, Result.andThen], h3⟩) hn
theorem callH (hk : ∀ W W', S W W' → IntKeep W W') (hof : ∀ W W', Below W.heap.size W W' → S W W') (f : FuncId) (K : Know) (hs : IStable K) (hg : GOK3 Γ o)
    (h : ∀ (a : Act) (W : World) (x : Nat → Value), S w0 W → deps x Γ a W (ons o) → (∀ t, t ∉ DS → a.eval (.tmp t) = a0.eval (.tmp t)) → ∃ args, (execOp a.eval o).run P W = .ok (.enter f args) W ∧ Calls P f args W (KP K W))
    (hn : walk3 S P DS w0 a0 T (Γ ++ [(o.dst, fun _ => K)]) rest) : walk3 S P DS w0 a0 T Γ (o :: rest) :=
  callR3 _ (sk hk hs) loc_const (fun W W' _ hb => hof W W' hb) hg (fun a W x hb hd hbase => by
    obtain ⟨args, h1, h2⟩ := h a W x hb hd hbase
    exact ⟨f, args, h1, h2⟩) hn
end
/-- a new block of the type that may turn. -/
def NewY (T : TypeId) (n B : Nat) : DK := fun _ u W => ∃ g, u = .pointer (some ⟨g, 0, none⟩) ∧ B ≤ g ∧ ∃ cs, W.heap[g]? = some (.cells cs T (0, 0)) ∧ cs.size = n
/-- the block is what it will be. -/
def DoneY (T : TypeId) (K : Know) (j B : Nat) : DK := fun x _ W => ∃ g, x j = .pointer (some ⟨g, 0, none⟩) ∧ B ≤ g ∧ ∃ cs, W.heap[g]? = some (.cells cs T (0, 0)) ∧ K (.agg cs) W
section
variable {Ty : TypeId} {K : Know} {P : Program} {DS : List Tmp} {w0 : World} {a0 : Act} {T : Ctx → Prop} {Γ : Ctx} {o : Oper} {rest : List Oper}
theorem NewY.st {n B : Nat} (hn : ∀ cs W, K (.agg cs) W → cs.size = n) : Stable (Sty Ty K B) (NewY Ty n B) := by
  rintro _ u W W' ⟨g, h1, h2, cs, h3, h4⟩ hS
  refine ⟨g, h1, h2, ?_⟩
  rcases hS.block g (Array.getElem?_eq_some_iff.1 h3).1 with e | ⟨_, _, cs', e, hk⟩
  · exact ⟨cs, e.trans h3, h4⟩
  · exact ⟨cs', e, hn _ _ hk⟩
theorem DoneY.st {j B : Nat} (hK : IStable K) : Stable (Sty Ty K B) (DoneY Ty K j B) := by
  rintro x u W W' ⟨g, h1, h2, cs, h3, h4⟩ hS
  refine ⟨g, h1, h2, ?_⟩
  rcases hS.block g (Array.getElem?_eq_some_iff.1 h3).1 with e | ⟨_, _, cs', e, hk⟩
  · exact ⟨cs, e.trans h3, hK _ _ _ h4 hS.keep⟩
  · exact ⟨cs', e, hk⟩
theorem allocH (hT : Ty ≠ 3) {n : Nat} (hn : ∀ cs W, K (.agg cs) W → cs.size = n) (cs : Array Value) (hcs : cs.size = n) (hg : GOK3 Γ o)
    (h : ∀ (a : Act) (W : World), (execOp a.eval o).run P W = .ok (.value (.pointer (some ⟨W.heap.size, 0, none⟩))) (W.alloc (.cells cs Ty)))
    (hr : walk3 (Sty Ty K w0.heap.size) P DS w0 a0 T (Γ ++ [(o.dst, NewY Ty n w0.heap.size)]) rest) : walk3 (Sty Ty K w0.heap.size) P DS w0 a0 T Γ (o :: rest) :=
  opW3 _ (NewY.st hn) loc_const hg (fun a W x hb hd hbase => ⟨_, _, h a W, ⟨_, rfl, hb.size, cs, heap_alloc_new W _, hcs⟩, Sty.of hT ((Below.refl _ _).alloc (Nat.le_refl _) _)⟩) hr
end
section
variable {P : Program} {DS : List Tmp} {w0 : World} {a0 : Act} {T : Ctx → Prop} {Γ : Ctx} {o : Oper} {rest : List Oper}
/-- a state stored into the new block. -/
theorem storeH {h lv : Int} {n : Nat} {l : List Int} (p v : Tmp) (jp jv : Nat) (hop : o.op = .store 45 (.tmp p) (.tmp v)) (hp : (ons o).contains jp = true) (hv : (ons o).contains jv = true)
    (hΓp : Γ[jp]? = some (some p, NewY 45 3 w0.heap.size)) (hΓv : Γ[jv]? = some (some v, fun _ => KTI h lv n l)) (hg : GOK3 Γ o)
    (hn : walk3 (Sty 45 (KTI h lv n l) w0.heap.size) Tryz.prog DS w0 a0 T (Γ ++ [(o.dst, DoneY 45 (KTI h lv n l) jp w0.heap.size)]) rest) : walk3 (Sty 45 (KTI h lv n l) w0.heap.size) Tryz.prog DS w0 a0 T Γ (o :: rest) :=
  ⟨_, DoneY.st (KTI.ik h lv n l), fun x y he v W ⟨g, h1, h2⟩ => ⟨g, by
      obtain ⟨e, he1, rfl⟩ := List.mem_map.1 (show jp ∈ ons o by simpa using hp)
      obtain ⟨he2, he3⟩ := List.mem_filter.1 he1
      rw [← he e (by simpa using he2) he3]
      exact h1, h2⟩, hg, fun a W x hb hd hbase K Q hK => by
    obtain ⟨e1, g, h1, h2, cs, h3, h4⟩ := dep_at hd jp hp hΓp
    obtain ⟨B, c, h5, h6, h7⟩ := dep_k hd jv hv hΓv
    obtain ⟨cl⟩ := cs
    match cl, h4 with
    | [u0, u1, u2], _ =>
    have hrun := run_storeS h3 hop h1 h5
    have hne : ∀ p, B = some p → p.block ≠ g := fun p hp => (h7 p hp).ne h3 (by decide)
    have hg' := set3_heap (.int .i64 h) (.int .i64 lv) (.slice B n c) h3
    have hkt : KTI h lv n l (.agg #[(.int .i64 h), (.int .i64 lv), .slice B n c]) (((W.setCell ⟨g, 0, none⟩ (.int .i64 h)).setCell ⟨g, 1, none⟩ (.int .i64 lv)).setCell ⟨g, 2, none⟩ (.slice B n c)) :=
      ⟨B, c, rfl, ((h6.sets (fun _ => hne) 0 _).sets (fun _ => hne) 1 _).sets (fun _ => hne) 2 _, fun p hp => (((h7 p hp).sets (hne p hp) 0 _).sets (hne p hp) 1 _).sets (hne p hp) 2 _⟩
    unfold Oper.wp
    rw [hrun]
    refine hK undef _ ⟨g, e1.trans h1, h2, _, hg', hkt⟩ ⟨rfl, rfl, rfl, by simp [World.setCell], by decide, fun k hk => ?_⟩
    rcases Nat.decEq k g with hkg | rfl
    · exact .inl (by rw [Below.heap_setCell _ _ _ _ hkg, Below.heap_setCell _ _ _ _ hkg, Below.heap_setCell _ _ _ _ hkg])
    · exact .inr ⟨h2, ⟨_, h3⟩, _, hg', hkt⟩, hn⟩
end
end RelH
end Go.Proofs.YtdeapbihbhoefaaGreatDoor

/- Steps of drawn regions whose side conditions are found by themselves. -/
namespace Go.Proofs.YtdeapbihbhoefaaGreatDoor
open Go.RowKit
open Calm (bcell Blk)
namespace Rel
section
variable {P : Program} {DS : List Tmp} {w0 : World} {a0 : Act} {T : Ctx → Prop} {Γ : Ctx} {o : Oper} {rest : List Oper}
theorem opz {v : Value} (hg : GOK3 Γ o := by (first | exact Rel.gno rfl | exact Rel.gyes _ true _ rfl rfl rfl | exact Rel.gyes _ false _ rfl rfl rfl)) (h : (∀ (a : Act) (W : World), Below w0.heap.size w0 W → deps Γ a W (ons o) → (∀ t, t ∉ DS → a.eval (.tmp t) = a0.eval (.tmp t)) → (execOp a.eval o).run P W = .ok (.value v) W) := by intro a W hb hd hbase; obtain ⟨hc, hf⟩ := bcell hb; clear hb hf; simp [Rel.deps, Rel.dep1, Rel.ons, Region.binds, Act.eval, KV] at hd; simp only [Act.eval, List.mem_cons, List.not_mem_nil, not_or, and_imp, or_false, Array.getD_eq_getD_getElem?] at hbase; go_simp; (try go_bits); (try rfl); done)
    (hn : walk3 P DS w0 a0 T (Γ ++ [(o.dst, fun u _ => u = v)]) rest) : walk3 P DS w0 a0 T Γ (o :: rest) := op3 v hg h hn
end
end Rel
namespace RelH
open Rel (ons)
section
variable {S : World → World → Prop} {P : Program} {DS : List Tmp} {w0 : World} {a0 : Act} {T : Ctx → Prop} {Γ : Ctx} {o : Oper} {rest : List Oper}
theorem opz (hr : ∀ W, S W W) {v : Value} (hg : GOK3 Γ o := by (first | exact RelH.gno rfl | exact RelH.gyes _ true _ rfl rfl rfl | exact RelH.gyes _ false _ rfl rfl rfl)) (h : (∀ (a : Act) (W : World) (x : Nat → Value), S w0 W → deps x Γ a W (ons o) → (∀ t, t ∉ DS → a.eval (.tmp t) = a0.eval (.tmp t)) → (execOp a.eval o).run P W = .ok (.value v) W) := by intro a W x hS hd hbase; have hb := hS.below (Nat.le_refl _); clear hS; obtain ⟨hc, hf⟩ := bcell hb; clear hb hf; simp [RelH.deps, RelH.dep1, Rel.ons, Region.binds, Act.eval, KV] at hd; simp only [Act.eval, List.mem_cons, List.not_mem_nil, not_or, and_imp, or_false, Array.getD_eq_getD_getElem?] at hbase; go_simp; (try go_bits); (try rfl); done)
    (hn : walk3 S P DS w0 a0 T (Γ ++ [(o.dst, fun _ u _ => u = v)]) rest) : walk3 S P DS w0 a0 T Γ (o :: rest) := op3 hr v hg h hn
end
end RelH
/-- nothing old turns, as can be seen. -/
theorem bel {b : Nat} {W W' : World} (h : Below b W W' := by (repeat (first | (with_reducible exact Below.refl _ _) | ((with_reducible refine Below.setCell ?_ ?_ _); rotate_left 1; (focus (first | (simp; done) | (simp; omega) | (simp at *; omega)))) | ((with_reducible refine Below.alloc ?_ ?_ _); rotate_left 1; (focus (first | (simp; done) | (simp; omega) | (simp at *; omega))))))) : Below b W W' := h
end Go.Proofs.YtdeapbihbhoefaaGreatDoor

/- The program's reader: integers. -/
namespace Go.Proofs.YtdeapbihbhoefaaGreatDoor
open Go.RowKit
open Go.Lib
open Calm (bcell Blk)
theorem but_grown {g : Nat} {w W W' : World} {row : Option Nat} (h : But g w W) (hg : W.grownBy W' row) (hr : ∀ k, row = some k → w.heap.size ≤ k) : But g w W' :=
  ⟨hg.os.trans h.os, hg.tape.trans h.tape, hg.output.trans h.output, Nat.le_trans h.size hg.size, fun k hk => (hg.block k (Nat.lt_of_lt_of_le hk.1 h.size) (fun e => by have := hr k e.symm; have := hk.1; omega)).trans (h.block k hk)⟩
theorem turn_blk {w1 : World} {g : Nat} {x y : Value} (K : Blk w1 g #[x, y]) (v u : Value) (o : Obj) : Blk (((w1.setCell ⟨g, 0, none⟩ v).setCell ⟨g, 1, none⟩ u).drew.alloc o) g #[v, u] ∧ But g w1 (((w1.setCell ⟨g, 0, none⟩ v).setCell ⟨g, 1, none⟩ u).drew.alloc o) := by
  refine ⟨?_, ((But.put w1 0 v).trans (But.put _ 1 u)).trans ((But.drawn _).trans (But.of ((Below.refl _ _).alloc (Nat.le_refl _) _)))⟩
  have := (((K.set (i := 0) (by simp) v).set (i := 1) (by simp) u)).drew.alloc o
  simpa using this
theorem all_snoc (f : Bool) (P : List (List UInt8)) (x : List UInt8) : (f || !(P ++ [x]).all isS) = ((f || !P.all isS) || !isS x) := by
  rw [List.all_append]
  simp only [List.all_cons, List.all_nil, Bool.and_true]
  cases f <;> cases P.all isS <;> cases isS x <;> rfl
theorem pre_stop {m : List UInt8} {P R : List (List UInt8)} (h : ∀ x ∈ P, x ≠ m) (hr : R = [] ∨ R.head? = some m) : preW m (P ++ R) = P ∧ postW m (P ++ R) = R := by
  rcases hr with rfl | hr
  · rw [List.append_nil]; exact preW_all h
  · cases R with
    | nil => cases hr
    | cons y R =>
      simp at hr
      subst hr
      exact preW_app h
def sliceLen : Value → Nat
  | .slice _ n _ => n
  | _ => 0
set_option maxHeartbeats 8000000 in
set_option maxRecDepth 100000 in
theorem ints_any' (g : Nat) (W : List (List UInt8)) (f : Bool) (m : List UInt8) (w : World) (hB : WB W) (h : RdS g W f w) :
    Calls Tryz.prog 42 #[.pointer (some ⟨g, 0, none⟩), .string ⟨m.toArray⟩] w fun r w' => ∃ B c, r = .returned (.slice B (preW m W).length c) ∧ Cells w' B ((preW m W).map valS) ∧ (∀ p, B = some p → w.heap.size ≤ p.block) ∧ RdS g (intsR m (W, f)).1 (intsR m (W, f)).2 w' ∧ But g w w' := by
  obtain ⟨A0, k0, c0⟩ := h
  have hg := k0.lt
  have HB := Lib.hid hB
  have HK0 := Lib.hid k0
  have HC0 := Lib.hid c0
  obtain ⟨i0, hii, hz0, hz1, hz2⟩ := info_parts Tryz.infoI
  have HW0 := Lib.hid hB.1
  clear hB k0 c0
  go_enter Tryz.func42, Tryz.ntmps42
  go_wp2
  go_loopw [5] (fun o wq => ∃ (P R : List (List UInt8)) (A : Option Addr), W = P ++ R ∧ (∀ x ∈ P, x ≠ m) ∧ wq.ownsRow w.heap.size 3 1 o P.length ((P.map valS).map (Value.int .i64)) ∧ Blk wq g #[.slice A R.length R.length, .bool (f || !P.all isS)] ∧ WC w g A R ∧ But g w wq) (fun o _ => W.length + 1 - sliceLen o)
  case atStart => exact ⟨[], W, A0, rfl, (fun x hx => by cases hx), World.ownsRow_nil _ _ _ _, by simpa using HK0.out, HC0.out, But.refl _ _⟩
  case round =>
    obtain ⟨P, R, A, hW, hP, ho, hk, hc, hb⟩ := hrel
    obtain ⟨C, d, rfl⟩ := own_slice ho
    have HWW := Lib.hid hW
    have HPP := Lib.hid hP
    have HO := Lib.hid ho
    have HK := Lib.hid hk
    have HC := Lib.hid hc
    have HBB := Lib.hid hb
    have hlen : P.length + R.length ≤ 5000 := by have := HW0.out; rw [hW, List.length_append] at this; exact this
    obtain ⟨f0, f1, fl, ff⟩ := hk.o2
    clear hW hP ho hk hc hb
    cases R with
    | nil =>
      go_wp2
      go_ret
      obtain ⟨B', c', e1, hge, hcc⟩ := own_ints (zs := P.map valS) HO.out (by simp)
      cases e1
      obtain ⟨s1, s2⟩ := pre_stop HPP.out (.inl rfl)
      rw [HWW.out]
      unfold intsR
      simp only
      rw [s1, s2]
      exact ⟨C, d, rfl, hcc, hge, ⟨A, HK.out, WC.nil _⟩, HBB.out⟩
    | cons x R =>
      obtain ⟨b, off, hA, hne, hbl, hcell⟩ := (HC.out.but HBB.out) (by simp)
      subst hA
      have hc0 := hcell 0 x rfl
      rw [Nat.add_zero] at hc0
      have hRl : R.length ≤ 5000 := by simp at hlen; omega
      by_cases hx : x = m
      · have e1 : (x == m) = true := by rw [hx]; exact beq_self_eq_true _
        have HX := Lib.hid hx
        clear hx hcell
        go_wp2
        go_ret
        obtain ⟨B', c', e1, hge, hcc⟩ := own_ints (zs := P.map valS) HO.out (by simp)
        cases e1
        obtain ⟨s1, s2⟩ := pre_stop (R := x :: R) HPP.out (.inr (by rw [HX.out]; rfl))
        rw [HWW.out]
        unfold intsR
        simp only
        rw [s1, s2]
        exact ⟨C, d, rfl, hcc, hge, ⟨_, HK.out, HC.out.but HBB.out⟩, HBB.out⟩
      · have e1 : (x == m) = false := beq_eq_false_iff_ne.2 hx
        have HX := Lib.hid hx
        have hx4 : x.length ≤ 4096 := HB.out.2 x (by rw [HWW.out]; simp)
        have HIN : Hid (∀ W : World, Calls Tryz.prog 77 #[.string ⟨x.toArray⟩] W fun r w' => r = .returned (.tuple #[(.int .i64 (valS x)), .bool (isS x)]) ∧ Below W.heap.size W w') := Lib.hid (fun W => integer_P ⟨x.toArray⟩ W (by show x.toArray.size ≤ 4096; simpa using hx4))
        obtain ⟨V, hV⟩ : ∃ V, V = valS x := ⟨_, rfl⟩
        obtain ⟨S, hS⟩ : ∃ S, S = isS x := ⟨_, rfl⟩
        rw [← hV, ← hS] at HIN
        obtain ⟨q, hq⟩ : ∃ q, q = (f || !P.all isS) := ⟨_, rfl⟩
        have HQ := Lib.hid (show (f || !(P ++ [x]).all isS) = (q || !S) by rw [all_snoc, ← hq, ← hS])
        have HVV := Lib.hid hV
        rw [← hq] at f1 HK
        have hsl : W.length = P.length + (R.length + 1) := by rw [HWW.out]; simp
        have HSL := Lib.hid hsl
        clear hx hcell hV hS hq hx4 hsl
        go_wp2_with (go_at_call 77; refine (HIN.out _).mono ?_; rintro r w2 ⟨rfl, hb2⟩; refine Hid.out ?_)
        unfold Hid
        have K2 := Lib.hid (HK.out.below hb2)
        have HB2 := Lib.hid (HBB.out.trans (But.of hb2))
        have HO2 := Lib.hid (ownsRow_below HO.out hb2)
        have hz2' := HB2.out.size
        clear hb2 HIN f0 f1 fl ff hc0 HK HO
        obtain ⟨f0, f1, fl, ff⟩ := K2.out.o2
        cases q
        · cases R with
          | nil =>
            go_wp2
            go_region
            go_wp2_with (at_builtin; refine name_list ?_; intro w3 e3; refine Hid.out ?_)
            obtain ⟨t1, t2⟩ := turn_blk K2.out (.slice (some ⟨b, off, none⟩) 0 0) (.bool (!S)) (.cells #[(.int .i64 V)] 3)
            have K3 : Blk w3 g #[.slice (some ⟨b, off, none⟩) 0 0, .bool (!S)] := by rw [e3]; exact t1
            have HB3 := Lib.hid (show But g w w3 by rw [e3]; exact HB2.out.trans t2)
            have KR3 := Lib.hid (show Blk w3 w2.heap.size #[(.int .i64 V)] by have q := Calm.Blk.new (((w2.setCell ⟨g, 0, none⟩ (.slice (some ⟨b, off, none⟩) 0 0)).setCell ⟨g, 1, none⟩ (.bool (!S))).drew) 3 #[(.int .i64 V)]; rw [show (((w2.setCell ⟨g, 0, none⟩ (.slice (some ⟨b, off, none⟩) 0 0)).setCell ⟨g, 1, none⟩ (.bool (!S))).drew).heap.size = w2.heap.size by simp [World.drew]] at q; rw [e3]; exact q)
            have hz3 : w3.heap.size = w2.heap.size + 1 := by rw [e3]; simp [World.drew]
            have hlt0 := HO2.out.lt
            have HO3 := Lib.hid (ownsRow_block (W' := w3) HO2.out (fun k hk => by rw [e3]; exact t2.block k ⟨(hlt0 k hk).2, by have := (hlt0 k hk).1; omega⟩))
            have HK3 := Lib.hid K3
            clear e3 t1 t2 K3 f0 f1 fl ff
            unfold Hid
            refine wpList_append_own _ rfl _ _ 22 rfl (w.heap.size) 3 i0 _ 1 8 Tryz.underlying22 hii hz0 hz1 hz2 rfl (by decide) _ _ _ rfl HO3.out ⟨w2.heap.size, 0, none⟩ 1 1 [(.int .i64 V)] rfl rfl ?c1 ?c2 ?c3 ?c4 ?c5 ?_
            case c1 =>
              intro j u hj
              match j, hj with
              | 0, hj => simp at hj; subst hj; exact KR3.out.cell 0 _ rfl
            case c2 => intro u hu; simp at hu; subst hu; rfl
            case c3 => unfold maxLen; omega
            case c4 => omega
            case c5 => omega
            intro v4 w4 hown' hgrow _
            obtain ⟨C4, d4, rfl⟩ := own_slice hown'
            have hlt3 := HO3.out.lt
            have HB4 := Lib.hid (but_grown HB3.out hgrow (fun j hj => (hlt3 j hj).1))
            have HK4 := Lib.hid (grown_blk HK3.out hgrow (fun j hj => by have := (hlt3 j hj).1; omega))
            have HO4 := Lib.hid hown'
            clear hown' hgrow hlt3 hlt0
            go_wp2
            go_roundw
            case rel => exact ⟨P ++ [x], [], _, by rw [HWW.out]; simp, (fun z hz => (List.mem_append.1 hz).elim (HPP.out z) (fun h => by obtain rfl := List.mem_singleton.1 h; exact HX.out)), by rw [List.length_append, List.map_append, List.map_append]; rw [HVV.out] at HO4; exact HO4.out, by rw [HQ.out]; exact HK4.out, (WC.nil _), HB4.out⟩
            case measure => have := HSL.out; simp [sliceLen] at *; omega
          | cons y R =>
            go_wp2
            go_region
            go_wp2_with (at_builtin; refine name_list ?_; intro w3 e3; refine Hid.out ?_)
            obtain ⟨t1, t2⟩ := turn_blk K2.out (.slice (some ⟨b, off + 1, none⟩) (R.length + 1) (R.length + 1)) (.bool (!S)) (.cells #[(.int .i64 V)] 3)
            have K3 : Blk w3 g #[.slice (some ⟨b, off + 1, none⟩) (R.length + 1) (R.length + 1), .bool (!S)] := by rw [e3]; exact t1
            have HB3 := Lib.hid (show But g w w3 by rw [e3]; exact HB2.out.trans t2)
            have KR3 := Lib.hid (show Blk w3 w2.heap.size #[(.int .i64 V)] by have q := Calm.Blk.new (((w2.setCell ⟨g, 0, none⟩ (.slice (some ⟨b, off + 1, none⟩) (R.length + 1) (R.length + 1))).setCell ⟨g, 1, none⟩ (.bool (!S))).drew) 3 #[(.int .i64 V)]; rw [show (((w2.setCell ⟨g, 0, none⟩ (.slice (some ⟨b, off + 1, none⟩) (R.length + 1) (R.length + 1))).setCell ⟨g, 1, none⟩ (.bool (!S))).drew).heap.size = w2.heap.size by simp [World.drew]] at q; rw [e3]; exact q)
            have hz3 : w3.heap.size = w2.heap.size + 1 := by rw [e3]; simp [World.drew]
            have hlt0 := HO2.out.lt
            have HO3 := Lib.hid (ownsRow_block (W' := w3) HO2.out (fun k hk => by rw [e3]; exact t2.block k ⟨(hlt0 k hk).2, by have := (hlt0 k hk).1; omega⟩))
            have HK3 := Lib.hid K3
            clear e3 t1 t2 K3 f0 f1 fl ff
            unfold Hid
            refine wpList_append_own _ rfl _ _ 22 rfl (w.heap.size) 3 i0 _ 1 8 Tryz.underlying22 hii hz0 hz1 hz2 rfl (by decide) _ _ _ rfl HO3.out ⟨w2.heap.size, 0, none⟩ 1 1 [(.int .i64 V)] rfl rfl ?c1 ?c2 ?c3 ?c4 ?c5 ?_
            case c1 =>
              intro j u hj
              match j, hj with
              | 0, hj => simp at hj; subst hj; exact KR3.out.cell 0 _ rfl
            case c2 => intro u hu; simp at hu; subst hu; rfl
            case c3 => unfold maxLen; omega
            case c4 => omega
            case c5 => omega
            intro v4 w4 hown' hgrow _
            obtain ⟨C4, d4, rfl⟩ := own_slice hown'
            have hlt3 := HO3.out.lt
            have HB4 := Lib.hid (but_grown HB3.out hgrow (fun j hj => (hlt3 j hj).1))
            have HK4 := Lib.hid (grown_blk HK3.out hgrow (fun j hj => by have := (hlt3 j hj).1; omega))
            have HO4 := Lib.hid hown'
            clear hown' hgrow hlt3 hlt0
            go_wp2
            go_roundw
            case rel => exact ⟨P ++ [x], y :: R, _, by rw [HWW.out]; simp, (fun z hz => (List.mem_append.1 hz).elim (HPP.out z) (fun h => by obtain rfl := List.mem_singleton.1 h; exact HX.out)), by rw [List.length_append, List.map_append, List.map_append]; rw [HVV.out] at HO4; exact HO4.out, by rw [HQ.out]; exact HK4.out, HC.out.tail, HB4.out⟩
            case measure => have := HSL.out; simp [sliceLen] at *; omega
        · cases R with
          | nil =>
            go_wp2
            go_region
            go_wp2_with (at_builtin; refine name_list ?_; intro w3 e3; refine Hid.out ?_)
            obtain ⟨t1, t2⟩ := turn_blk K2.out (.slice (some ⟨b, off, none⟩) 0 0) (.bool true) (.cells #[(.int .i64 V)] 3)
            have K3 : Blk w3 g #[.slice (some ⟨b, off, none⟩) 0 0, .bool true] := by rw [e3]; exact t1
            have HB3 := Lib.hid (show But g w w3 by rw [e3]; exact HB2.out.trans t2)
            have KR3 := Lib.hid (show Blk w3 w2.heap.size #[(.int .i64 V)] by have q := Calm.Blk.new (((w2.setCell ⟨g, 0, none⟩ (.slice (some ⟨b, off, none⟩) 0 0)).setCell ⟨g, 1, none⟩ (.bool true)).drew) 3 #[(.int .i64 V)]; rw [show (((w2.setCell ⟨g, 0, none⟩ (.slice (some ⟨b, off, none⟩) 0 0)).setCell ⟨g, 1, none⟩ (.bool true)).drew).heap.size = w2.heap.size by simp [World.drew]] at q; rw [e3]; exact q)
            have hz3 : w3.heap.size = w2.heap.size + 1 := by rw [e3]; simp [World.drew]
            have hlt0 := HO2.out.lt
            have HO3 := Lib.hid (ownsRow_block (W' := w3) HO2.out (fun k hk => by rw [e3]; exact t2.block k ⟨(hlt0 k hk).2, by have := (hlt0 k hk).1; omega⟩))
            have HK3 := Lib.hid K3
            clear e3 t1 t2 K3 f0 f1 fl ff
            unfold Hid
            refine wpList_append_own _ rfl _ _ 22 rfl (w.heap.size) 3 i0 _ 1 8 Tryz.underlying22 hii hz0 hz1 hz2 rfl (by decide) _ _ _ rfl HO3.out ⟨w2.heap.size, 0, none⟩ 1 1 [(.int .i64 V)] rfl rfl ?c1 ?c2 ?c3 ?c4 ?c5 ?_
            case c1 =>
              intro j u hj
              match j, hj with
              | 0, hj => simp at hj; subst hj; exact KR3.out.cell 0 _ rfl
            case c2 => intro u hu; simp at hu; subst hu; rfl
            case c3 => unfold maxLen; omega
            case c4 => omega
            case c5 => omega
            intro v4 w4 hown' hgrow _
            obtain ⟨C4, d4, rfl⟩ := own_slice hown'
            have hlt3 := HO3.out.lt
            have HB4 := Lib.hid (but_grown HB3.out hgrow (fun j hj => (hlt3 j hj).1))
            have HK4 := Lib.hid (grown_blk HK3.out hgrow (fun j hj => by have := (hlt3 j hj).1; omega))
            have HO4 := Lib.hid hown'
            clear hown' hgrow hlt3 hlt0
            go_wp2
            go_roundw
            case rel => exact ⟨P ++ [x], [], _, by rw [HWW.out]; simp, (fun z hz => (List.mem_append.1 hz).elim (HPP.out z) (fun h => by obtain rfl := List.mem_singleton.1 h; exact HX.out)), by rw [List.length_append, List.map_append, List.map_append]; rw [HVV.out] at HO4; exact HO4.out, by rw [HQ.out]; exact HK4.out, (WC.nil _), HB4.out⟩
            case measure => have := HSL.out; simp [sliceLen] at *; omega
          | cons y R =>
            go_wp2
            go_region
            go_wp2_with (at_builtin; refine name_list ?_; intro w3 e3; refine Hid.out ?_)
            obtain ⟨t1, t2⟩ := turn_blk K2.out (.slice (some ⟨b, off + 1, none⟩) (R.length + 1) (R.length + 1)) (.bool true) (.cells #[(.int .i64 V)] 3)
            have K3 : Blk w3 g #[.slice (some ⟨b, off + 1, none⟩) (R.length + 1) (R.length + 1), .bool true] := by rw [e3]; exact t1
            have HB3 := Lib.hid (show But g w w3 by rw [e3]; exact HB2.out.trans t2)
            have KR3 := Lib.hid (show Blk w3 w2.heap.size #[(.int .i64 V)] by have q := Calm.Blk.new (((w2.setCell ⟨g, 0, none⟩ (.slice (some ⟨b, off + 1, none⟩) (R.length + 1) (R.length + 1))).setCell ⟨g, 1, none⟩ (.bool true)).drew) 3 #[(.int .i64 V)]; rw [show (((w2.setCell ⟨g, 0, none⟩ (.slice (some ⟨b, off + 1, none⟩) (R.length + 1) (R.length + 1))).setCell ⟨g, 1, none⟩ (.bool true)).drew).heap.size = w2.heap.size by simp [World.drew]] at q; rw [e3]; exact q)
            have hz3 : w3.heap.size = w2.heap.size + 1 := by rw [e3]; simp [World.drew]
            have hlt0 := HO2.out.lt
            have HO3 := Lib.hid (ownsRow_block (W' := w3) HO2.out (fun k hk => by rw [e3]; exact t2.block k ⟨(hlt0 k hk).2, by have := (hlt0 k hk).1; omega⟩))
            have HK3 := Lib.hid K3
            clear e3 t1 t2 K3 f0 f1 fl ff
            unfold Hid
            refine wpList_append_own _ rfl _ _ 22 rfl (w.heap.size) 3 i0 _ 1 8 Tryz.underlying22 hii hz0 hz1 hz2 rfl (by decide) _ _ _ rfl HO3.out ⟨w2.heap.size, 0, none⟩ 1 1 [(.int .i64 V)] rfl rfl ?c1 ?c2 ?c3 ?c4 ?c5 ?_
            case c1 =>
              intro j u hj
              match j, hj with
              | 0, hj => simp at hj; subst hj; exact KR3.out.cell 0 _ rfl
            case c2 => intro u hu; simp at hu; subst hu; rfl
            case c3 => unfold maxLen; omega
            case c4 => omega
            case c5 => omega
            intro v4 w4 hown' hgrow _
            obtain ⟨C4, d4, rfl⟩ := own_slice hown'
            have hlt3 := HO3.out.lt
            have HB4 := Lib.hid (but_grown HB3.out hgrow (fun j hj => (hlt3 j hj).1))
            have HK4 := Lib.hid (grown_blk HK3.out hgrow (fun j hj => by have := (hlt3 j hj).1; omega))
            have HO4 := Lib.hid hown'
            clear hown' hgrow hlt3 hlt0
            go_wp2
            go_roundw
            case rel => exact ⟨P ++ [x], y :: R, _, by rw [HWW.out]; simp, (fun z hz => (List.mem_append.1 hz).elim (HPP.out z) (fun h => by obtain rfl := List.mem_singleton.1 h; exact HX.out)), by rw [List.length_append, List.map_append, List.map_append]; rw [HVV.out] at HO4; exact HO4.out, by rw [HQ.out]; exact HK4.out, HC.out.tail, HB4.out⟩
            case measure => have := HSL.out; simp [sliceLen] at *; omega
end Go.Proofs.YtdeapbihbhoefaaGreatDoor

/- The program's functions as contracts over what is known of their arguments, errors and all. -/
namespace Go.Proofs.YtdeapbihbhoefaaGreatDoor
open Go.RowKit
open Calm (bcell Blk)

def begLv (E : Int) (L : Nat) : Int := if E = 0 then ((L - 1 : Nat) : Int) else 0
def begPs (E : Int) (M : Nat) : List Int := if E = 0 then List.replicate (M - 1) 0 else []
theorem cBegin {lk ht rc : Int} {ts gs : List Int} {M L N : Nat} {u : Value} {W : World} (hM : M = ts.length) (hL : L = gs.length) (h1 : M ≤ 1000) (h2 : L ≤ 1000) (hu : KG lk ht rc M ts L gs u W) (hN : N = (begPs (guardErr lk ht rc ts gs) M).length) :
    Calls Tryz.prog 22 #[u] W (KP (K2 (KTI 0 (begLv (guardErr lk ht rc ts gs) L) N (begPs (guardErr lk ht rc ts gs) M)) (KV (.int .i64 (guardErr lk ht rc ts gs)))) W) := by
  obtain ⟨A1, c1, A2, c2, rfl, hT, hG⟩ := hu
  unfold begPs begLv at *
  by_cases he : guardErr lk ht rc ts gs = 0
  · rw [if_pos he] at hN ⊢
    rw [if_pos he, he]
    rw [List.length_replicate] at hN
    subst hN
    exact (Begin_ok lk ht rc ts gs A1 A2 M L c1 c2 W hM hL hT hG h1 h2 he).mono fun e W' ⟨⟨B, _, h, hc, hi⟩, hb⟩ => ⟨_, h, ⟨_, _, rfl, ⟨_, _, rfl, hc, fun p hp => by cases hp; exact hi⟩, rfl⟩, hb⟩
  · rw [if_neg he] at hN ⊢
    rw [if_neg he]
    subst hN
    exact (Begin_bad lk ht rc ts gs A1 A2 M L c1 c2 W hM hL hT hG h1 h2 he).mono fun e W' ⟨h, hb⟩ => ⟨_, h, ⟨_, _, rfl, KTI.zero _, rfl⟩, hb⟩
/-- what Behind hands back. -/
structure BehR where
  h : Int
  lv : Int
  ps : List Int
  ex : Int
  err : Int
def behR (lk ht rc : Int) (ts gs : List Int) (h lv : Int) (ps : List Int) (y : Int) : BehR :=
  if bothErr lk ht rc ts gs h lv ps y = 0 then (if 536870912 < coolF lk h + y * y then ⟨0, 0, [], 0, 4⟩ else ⟨coolF lk h + y * y, lv, pushL ps y, exF ts ps y, 0⟩) else ⟨0, 0, [], 0, bothErr lk ht rc ts gs h lv ps y⟩
theorem cBehind {lk ht rc h lv y : Int} {ts gs ps : List Int} {M L N N2 : Nat} {u v : Value} {W : World} (hM : M = ts.length) (hL : L = gs.length) (hN : N = ps.length) (h1 : M ≤ 1000) (h2 : L ≤ 1000) (h3 : N ≤ 1000) (hLim : Lim W) (hu : KG lk ht rc M ts L gs u W) (hv : KT h lv N ps v W)
    (hN2 : N2 = (behR lk ht rc ts gs h lv ps y).ps.length) :
    Calls Tryz.prog 18 #[u, v, (.int .i64 y)] W (KP (K3 (KTI (behR lk ht rc ts gs h lv ps y).h (behR lk ht rc ts gs h lv ps y).lv N2 (behR lk ht rc ts gs h lv ps y).ps) (KV (.int .i64 ((behR lk ht rc ts gs h lv ps y).ex))) (KV (.int .i64 ((behR lk ht rc ts gs h lv ps y).err)))) W) := by
  obtain ⟨A1, c1, A2, c2, rfl, hT, hG⟩ := hu
  obtain ⟨A3, c3, rfl, hP⟩ := hv
  unfold behR at *
  by_cases he : bothErr lk ht rc ts gs h lv ps y = 0
  · rw [if_pos he] at hN2 ⊢
    by_cases hl : 536870912 < coolF lk h + y * y
    · rw [if_pos hl] at hN2 ⊢
      subst hN2
      exact (Behind_large lk ht rc h lv y ts gs ps A1 A2 A3 M L N c1 c2 c3 W hM hL hN hLim hT hG hP h1 h2 h3 he hl).mono fun e W' ⟨h, hb⟩ => ⟨_, h, ⟨_, _, _, rfl, KTI.zero _, rfl, rfl⟩, hb⟩
    · rw [if_neg hl] at hN2 ⊢
      have e : N2 = N := by rw [hN2, hN]; exact pushL_len ps y
      subst e
      exact (Behind_ok lk ht rc h lv y ts gs ps A1 A2 A3 M L N2 c1 c2 c3 W hM hL hN hLim hT hG hP h1 h2 h3 he hl).mono fun e W' ⟨⟨B, _, h, hc, hi⟩, hb⟩ => ⟨_, h, ⟨_, _, _, rfl, ⟨_, _, rfl, hc, fun p hp => by cases hp; exact hi⟩, rfl, rfl⟩, hb⟩
  · rw [if_neg he] at hN2 ⊢
    subst hN2
    exact (Behind_bad lk ht rc h lv y ts gs ps A1 A2 A3 M L N c1 c2 c3 W hM hL hN hLim hT hG hP h1 h2 h3 he).mono fun e W' ⟨h, hb⟩ => ⟨_, h, ⟨_, _, _, rfl, KTI.zero _, rfl, rfl⟩, hb⟩
/-- what Step hands back. -/
structure StepR where
  out : Int
  h : Int
  lv : Int
  ps : List Int
  err : Int
def stepR (lk ht rc : Int) (ts gs : List Int) (h lv : Int) (ps : List Int) (y : Int) : StepR :=
  if bothErr lk ht rc ts gs h lv ps y = 0 then (if fineF ht rc h 0 ts ps = true then ⟨outF lk ht rc ts gs ⟨h, lv.toNat, ps⟩ y, (stF lk ht rc ts gs ⟨h, lv.toNat, ps⟩ y).h, ((stF lk ht rc ts gs ⟨h, lv.toNat, ps⟩ y).lv : Int), (stF lk ht rc ts gs ⟨h, lv.toNat, ps⟩ y).ps, 0⟩ else ⟨0, 0, 0, [], 20⟩) else ⟨0, 0, 0, [], bothErr lk ht rc ts gs h lv ps y⟩
theorem cStep {lk ht rc h lv y : Int} {ts gs ps : List Int} {M L N N2 : Nat} {u v : Value} {W : World} (hM : M = ts.length) (hL : L = gs.length) (hN : N = ps.length) (h1 : M ≤ 1000) (h2 : L ≤ 1000) (h3 : N ≤ 1000) (hLim : Lim W) (hu : KG lk ht rc M ts L gs u W) (hv : KT h lv N ps v W)
    (hN2 : N2 = (stepR lk ht rc ts gs h lv ps y).ps.length) :
    Calls Tryz.prog 24 #[u, v, (.int .i64 y)] W (KP (K3 (KV (.int .i64 ((stepR lk ht rc ts gs h lv ps y).out))) (KTI (stepR lk ht rc ts gs h lv ps y).h (stepR lk ht rc ts gs h lv ps y).lv N2 (stepR lk ht rc ts gs h lv ps y).ps) (KV (.int .i64 ((stepR lk ht rc ts gs h lv ps y).err)))) W) := by
  obtain ⟨A1, c1, A2, c2, rfl, hT, hG⟩ := hu
  obtain ⟨A3, c3, rfl, hP⟩ := hv
  unfold stepR at *
  by_cases he : bothErr lk ht rc ts gs h lv ps y = 0
  · rw [if_pos he] at hN2 ⊢
    have hS := stErr_zero (bothErr_zero he).1
    by_cases hf : fineF ht rc h 0 ts ps = true
    · rw [if_pos hf] at hN2 ⊢
      have hlv : lv = (lv.toNat : Int) := by have := hS.lv.1; omega
      obtain ⟨k, rfl⟩ : ∃ k : Nat, lv = k := ⟨lv.toNat, hlv⟩
      rw [Int.toNat_natCast] at hN2 ⊢
      have e : N2 = N := by rw [hN2, hN]; exact pushL_len ps _
      subst e
      exact (Step_ok lk ht rc h y k ts gs ps A1 A2 A3 M L N2 c1 c2 c3 W hM hL hN hLim hT hG hP h1 h2 h3 he (fine_good hS hf)).mono fun e W' ⟨⟨B, _, h, hc, hi⟩, hb⟩ => ⟨_, h, ⟨_, _, _, rfl, rfl, ⟨_, _, rfl, hc, fun p hp => by cases hp; exact hi⟩, rfl⟩, hb⟩
    · rw [if_neg hf] at hN2 ⊢
      subst hN2
      exact (Step_unsafe lk ht rc h lv y ts gs ps A1 A2 A3 M L N c1 c2 c3 W hM hL hN hLim hT hG hP h1 h2 h3 he (by simpa using hf)).mono fun e W' ⟨h, hb⟩ => ⟨_, h, ⟨_, _, _, rfl, rfl, KTI.zero _, rfl⟩, hb⟩
  · rw [if_neg he] at hN2 ⊢
    subst hN2
    exact (Step_bad lk ht rc h lv y ts gs ps A1 A2 A3 M L N c1 c2 c3 W hM hL hN hLim hT hG hP h1 h2 h3 he).mono fun e W' ⟨h, hb⟩ => ⟨_, h, ⟨_, _, _, rfl, rfl, KTI.zero _, rfl⟩, hb⟩
def tailR (lk ht rc : Int) (ts gs : List Int) (h lv : Int) (ps : List Int) : List Int := if stErr lk ht rc ts gs h lv ps = 0 then tailsF ts ps else []
theorem cTails {lk ht rc h lv : Int} {ts gs ps : List Int} {M L N N2 : Nat} {u v : Value} {W : World} (hM : M = ts.length) (hL : L = gs.length) (hN : N = ps.length) (h1 : M ≤ 1000) (h2 : L ≤ 1000) (h3 : N ≤ 1000) (hLim : Lim W) (hu : KG lk ht rc M ts L gs u W) (hv : KT h lv N ps v W)
    (hN2 : N2 = (tailR lk ht rc ts gs h lv ps).length) :
    Calls Tryz.prog 20 #[u, v] W (KP (K2 (KS N2 (tailR lk ht rc ts gs h lv ps)) (KV (.int .i64 (stErr lk ht rc ts gs h lv ps)))) W) := by
  obtain ⟨A1, c1, A2, c2, rfl, hT, hG⟩ := hu
  obtain ⟨A3, c3, rfl, hP⟩ := hv
  unfold tailR at *
  by_cases he : stErr lk ht rc ts gs h lv ps = 0
  · rw [if_pos he] at hN2 ⊢
    rw [he]
    have e : N2 = N := by rw [hN2, hN]; exact tailsL_len _ _ _
    subst e
    exact (Tails_ok lk ht rc h lv ts gs ps A1 A2 A3 M L N2 c1 c2 c3 W hM hL hN hLim hT hG hP h1 h2 h3 he).mono fun e W' ⟨⟨B, c, h, hc⟩, hb⟩ => ⟨_, h, ⟨_, _, rfl, ⟨_, _, rfl, hc⟩, rfl⟩, hb⟩
  · rw [if_neg he] at hN2 ⊢
    subst hN2
    exact (Tails_bad lk ht rc h lv ts gs ps A1 A2 A3 M L N c1 c2 c3 W hM hL hN hLim hT hG hP h1 h2 h3 he).mono fun e W' ⟨h, hb⟩ => ⟨_, h, ⟨_, _, rfl, KS.nil _, rfl⟩, hb⟩

def safeR (lk ht rc : Int) (ts gs : List Int) (h lv : Int) (ps : List Int) : Bool := if stErr lk ht rc ts gs h lv ps = 0 then fineF ht rc h 0 ts ps else false
theorem cSafe {lk ht rc h lv : Int} {ts gs ps : List Int} {M L N : Nat} {u v : Value} {W : World} (hM : M = ts.length) (hL : L = gs.length) (hN : N = ps.length) (h1 : M ≤ 1000) (h2 : L ≤ 1000) (h3 : N ≤ 1000) (hLim : Lim W) (hu : KG lk ht rc M ts L gs u W) (hv : KT h lv N ps v W) :
    Calls Tryz.prog 19 #[u, v] W (KP (K2 (KV (.bool (safeR lk ht rc ts gs h lv ps))) (KV (.int .i64 (stErr lk ht rc ts gs h lv ps)))) W) := by
  obtain ⟨A1, c1, A2, c2, rfl, hT, hG⟩ := hu
  obtain ⟨A3, c3, rfl, hP⟩ := hv
  unfold safeR
  by_cases he : stErr lk ht rc ts gs h lv ps = 0
  · rw [if_pos he, he]
    exact (Safe_ok lk ht rc h lv ts gs ps A1 A2 A3 M L N c1 c2 c3 W hM hL hN hLim hT hG hP h1 h2 h3 he).mono fun e W' ⟨h, hb⟩ => ⟨_, h, ⟨_, _, rfl, rfl, rfl⟩, hb⟩
  · rw [if_neg he]
    exact (Safe_bad lk ht rc h lv ts gs ps A1 A2 A3 M L N c1 c2 c3 W hM hL hN hLim hT hG hP h1 h2 h3 he).mono fun e W' ⟨h, hb⟩ => ⟨_, h, ⟨_, _, rfl, rfl, rfl⟩, hb⟩
def relR (lk ht rc : Int) (ts gs : List Int) (h lv : Int) (ps : List Int) : Int × Int :=
  if stErr lk ht rc ts gs h lv ps = 0 then (if fineF ht rc h 0 ts ps = true then (((gs.length - 1 - lv.toNat : Nat) : Int), 0) else (0, 20)) else (0, stErr lk ht rc ts gs h lv ps)
theorem cRelease {lk ht rc h lv : Int} {ts gs ps : List Int} {M L N : Nat} {u v : Value} {W : World} (hM : M = ts.length) (hL : L = gs.length) (hN : N = ps.length) (h1 : M ≤ 1000) (h2 : L ≤ 1000) (h3 : N ≤ 1000) (hLim : Lim W) (hu : KG lk ht rc M ts L gs u W) (hv : KT h lv N ps v W) :
    Calls Tryz.prog 32 #[u, v] W (KP (K2 (KV (.int .i64 ((relR lk ht rc ts gs h lv ps).1))) (KV (.int .i64 ((relR lk ht rc ts gs h lv ps).2)))) W) := by
  obtain ⟨A1, c1, A2, c2, rfl, hT, hG⟩ := hu
  obtain ⟨A3, c3, rfl, hP⟩ := hv
  unfold relR
  by_cases he : stErr lk ht rc ts gs h lv ps = 0
  · rw [if_pos he]
    have hS := stErr_zero he
    by_cases hf : fineF ht rc h 0 ts ps = true
    · rw [if_pos hf]
      have hlv : lv = (lv.toNat : Int) := by have := hS.lv.1; omega
      obtain ⟨k, rfl⟩ : ∃ k : Nat, lv = k := ⟨lv.toNat, hlv⟩
      rw [Int.toNat_natCast, ← hL]
      exact (Release_ok lk ht rc h k ts gs ps A1 A2 A3 M L N c1 c2 c3 W hM hL hN hLim hT hG hP h1 h2 h3 he (fine_good hS hf)).mono fun e W' ⟨h, hb⟩ => ⟨_, h, ⟨_, _, rfl, rfl, rfl⟩, hb⟩
    · rw [if_neg hf]
      exact (Release_unsafe lk ht rc h lv ts gs ps A1 A2 A3 M L N c1 c2 c3 W hM hL hN hLim hT hG hP h1 h2 h3 he (by simpa using hf)).mono fun e W' ⟨h, hb⟩ => ⟨_, h, ⟨_, _, rfl, rfl, rfl⟩, hb⟩
  · rw [if_neg he]
    exact (Release_bad lk ht rc h lv ts gs ps A1 A2 A3 M L N c1 c2 c3 W hM hL hN hLim hT hG hP h1 h2 h3 he).mono fun e W' ⟨h, hb⟩ => ⟨_, h, ⟨_, _, rfl, rfl, rfl⟩, hb⟩
def runR (lk ht rc : Int) (ts gs xs : List Int) : List Int := if runErr lk ht rc ts gs xs = 0 then outsK lk ht rc ts gs xs xs.length else []
def lvsR (lk ht rc : Int) (ts gs xs : List Int) : List Int := if runErr lk ht rc ts gs xs = 0 then lvsK lk ht rc ts gs xs xs.length else []
theorem cRun {lk ht rc : Int} {ts gs xs : List Int} {M L N N2 : Nat} {u v : Value} {W : World} (hM : M = ts.length) (hL : L = gs.length) (hN : N = xs.length) (h1 : M ≤ 1000) (h2 : L ≤ 1000) (h3 : N ≤ 5000) (hLim : Lim W) (hu : KG lk ht rc M ts L gs u W) (hv : KS N xs v W)
    (hN2 : N2 = (runR lk ht rc ts gs xs).length) :
    Calls Tryz.prog 25 #[u, v] W (KP (K2 (KS N2 (runR lk ht rc ts gs xs)) (KV (.int .i64 (runErr lk ht rc ts gs xs)))) W) := by
  obtain ⟨A1, c1, A2, c2, rfl, hT, hG⟩ := hu
  obtain ⟨A3, c3, rfl, hX⟩ := hv
  unfold runR at *
  by_cases he : runErr lk ht rc ts gs xs = 0
  · rw [if_pos he] at hN2 ⊢
    rw [he]
    have hz := runErr_zero he
    subst hM hL hN
    have e : N2 = xs.length := by rw [hN2]; exact outsK_len _ _ _ _ _ _ _
    subst e
    exact (run_ok lk ht rc ts gs xs A1 A2 A3 c1 c2 c3 W hLim (guard_valid hz.1) hT hG hX (sigErr_in hz.2) (by omega) (by omega) h3 he).mono fun e W' ⟨⟨B, d, h, hc⟩, hb⟩ => ⟨_, h, ⟨_, _, rfl, ⟨_, _, rfl, hc⟩, rfl⟩, hb⟩
  · rw [if_neg he] at hN2 ⊢
    subst hM hL hN hN2
    exact (Run_bad lk ht rc ts gs xs A1 A2 A3 c1 c2 c3 W hT hG hX (by omega) (by omega) h3 he).mono fun e W' ⟨h, hb⟩ => ⟨_, h, ⟨_, _, rfl, KS.nil _, rfl⟩, hb⟩
theorem cLevels {lk ht rc : Int} {ts gs xs : List Int} {M L N N2 : Nat} {u v : Value} {W : World} (hM : M = ts.length) (hL : L = gs.length) (hN : N = xs.length) (h1 : M ≤ 1000) (h2 : L ≤ 1000) (h3 : N ≤ 5000) (hLim : Lim W) (hu : KG lk ht rc M ts L gs u W) (hv : KS N xs v W)
    (hN2 : N2 = (lvsR lk ht rc ts gs xs).length) :
    Calls Tryz.prog 27 #[u, v] W (KP (K2 (KS N2 (lvsR lk ht rc ts gs xs)) (KV (.int .i64 (runErr lk ht rc ts gs xs)))) W) := by
  obtain ⟨A1, c1, A2, c2, rfl, hT, hG⟩ := hu
  obtain ⟨A3, c3, rfl, hX⟩ := hv
  unfold lvsR at *
  by_cases he : runErr lk ht rc ts gs xs = 0
  · rw [if_pos he] at hN2 ⊢
    rw [he]
    have hz := runErr_zero he
    subst hM hL hN
    have e : N2 = xs.length := by rw [hN2]; exact lvsK_len _ _ _ _ _ _ _
    subst e
    exact (levels_ok lk ht rc ts gs xs A1 A2 A3 c1 c2 c3 W hLim (guard_valid hz.1) hT hG hX (sigErr_in hz.2) (by omega) (by omega) h3 he).mono fun e W' ⟨⟨B, d, h, hc⟩, hb⟩ => ⟨_, h, ⟨_, _, rfl, ⟨_, _, rfl, hc⟩, rfl⟩, hb⟩
  · rw [if_neg he] at hN2 ⊢
    subst hM hL hN hN2
    exact (Levels_bad lk ht rc ts gs xs A1 A2 A3 c1 c2 c3 W hT hG hX (by omega) (by omega) h3 he).mono fun e W' ⟨h, hb⟩ => ⟨_, h, ⟨_, _, rfl, KS.nil _, rfl⟩, hb⟩
def pkHR (lk ht rc : Int) (ts gs xs : List Int) : Int := if runErr lk ht rc ts gs xs = 0 then pkH lk xs xs.length else 0
def pkXR (lk ht rc : Int) (ts gs xs : List Int) : Int := if runErr lk ht rc ts gs xs = 0 then pkX ts xs xs.length else 0
theorem cPeaks {lk ht rc : Int} {ts gs xs : List Int} {M L N : Nat} {u v : Value} {W : World} (hM : M = ts.length) (hL : L = gs.length) (hN : N = xs.length) (h1 : M ≤ 1000) (h2 : L ≤ 1000) (h3 : N ≤ 5000) (hu : KG lk ht rc M ts L gs u W) (hv : KS N xs v W) :
    Calls Tryz.prog 26 #[u, v] W (KP (K2 (KV (.agg #[(.int .i64 (pkHR lk ht rc ts gs xs)), (.int .i64 (pkXR lk ht rc ts gs xs))])) (KV (.int .i64 (runErr lk ht rc ts gs xs)))) W) := by
  obtain ⟨A1, c1, A2, c2, rfl, hT, hG⟩ := hu
  obtain ⟨A3, c3, rfl, hX⟩ := hv
  unfold pkHR pkXR
  subst hM hL hN
  by_cases he : runErr lk ht rc ts gs xs = 0
  · rw [if_pos he, if_pos he, he]
    have hz := runErr_zero he
    exact (peaks_ok lk ht rc ts gs xs A1 A2 A3 c1 c2 c3 W (guard_valid hz.1) hT hG hX (sigErr_in hz.2) (by omega) (by omega) h3 he).mono fun e W' ⟨h, hb⟩ => ⟨_, h, ⟨_, _, rfl, rfl, rfl⟩, hb⟩
  · rw [if_neg he, if_neg he]
    exact (Peaks_bad lk ht rc ts gs xs A1 A2 A3 c1 c2 c3 W hT hG hX (by omega) (by omega) h3 he).mono fun e W' ⟨h, hb⟩ => ⟨_, h, ⟨_, _, rfl, rfl, rfl⟩, hb⟩
def stdR (lk ht rc : Int) (ts gs : List Int) : Int := if guardErr lk ht rc ts gs = 0 then (stdF lk ht : Int) else 0
def quiR (lk ht rc : Int) (ts gs : List Int) : Int := if guardErr lk ht rc ts gs = 0 then quietF lk ht rc ts else 0
theorem cSteady {lk ht rc : Int} {ts gs : List Int} {M L : Nat} {u : Value} {W : World} (hM : M = ts.length) (hL : L = gs.length) (h1 : M ≤ 1000) (h2 : L ≤ 1000) (hu : KG lk ht rc M ts L gs u W) :
    Calls Tryz.prog 29 #[u] W (KP (K2 (KV (.int .i64 (stdR lk ht rc ts gs))) (KV (.int .i64 (guardErr lk ht rc ts gs)))) W) := by
  obtain ⟨A1, c1, A2, c2, rfl, hT, hG⟩ := hu
  exact (Steady_any lk ht rc ts gs A1 A2 M L c1 c2 W hM hL hT hG h1 h2).mono fun e W' ⟨h, hb⟩ => ⟨_, h, ⟨_, _, rfl, rfl, rfl⟩, hb⟩
theorem cQuiet {lk ht rc : Int} {ts gs : List Int} {M L : Nat} {u : Value} {W : World} (hM : M = ts.length) (hL : L = gs.length) (h1 : M ≤ 1000) (h2 : L ≤ 1000) (hu : KG lk ht rc M ts L gs u W) :
    Calls Tryz.prog 30 #[u] W (KP (K2 (KV (.int .i64 (quiR lk ht rc ts gs))) (KV (.int .i64 (guardErr lk ht rc ts gs)))) W) := by
  obtain ⟨A1, c1, A2, c2, rfl, hT, hG⟩ := hu
  exact (Quiet_any lk ht rc ts gs A1 A2 M L c1 c2 W hM hL hT hG h1 h2).mono fun e W' ⟨h, hb⟩ => ⟨_, h, ⟨_, _, rfl, rfl, rfl⟩, hb⟩
theorem cCool {lk ht rc a b : Int} {ts gs : List Int} {M L : Nat} {u : Value} {W : World} (hM : M = ts.length) (hL : L = gs.length) (h1 : M ≤ 1000) (h2 : L ≤ 1000) (hu : KG lk ht rc M ts L gs u W) :
    Calls Tryz.prog 31 #[u, (.int .i64 a), (.int .i64 b)] W (KP (K2 (KV (.int .i64 ((coolE lk ht rc ts gs a b).1))) (KV (.int .i64 ((coolE lk ht rc ts gs a b).2)))) W) := by
  obtain ⟨A1, c1, A2, c2, rfl, hT, hG⟩ := hu
  exact (Cool_any lk ht rc a b ts gs A1 A2 M L c1 c2 W hM hL hT hG h1 h2).mono fun e W' ⟨h, hb⟩ => ⟨_, h, ⟨_, _, rfl, rfl, rfl⟩, hb⟩
def enR (xs : List Int) : Int := if sigErr xs = 0 then enF xs else 0
theorem cEnergy {xs : List Int} {N : Nat} {v : Value} {W : World} (hN : N = xs.length) (h3 : N ≤ 5000) (hv : KS N xs v W) :
    Calls Tryz.prog 34 #[v] W (KP (K2 (KV (.int .i64 (enR xs))) (KV (.int .i64 (sigErr xs)))) W) := by
  obtain ⟨A3, c3, rfl, hX⟩ := hv
  subst hN
  exact (Energy_any xs A3 c3 W hX h3 (fun e => sigErr_in e)).mono fun e W' ⟨h, hb⟩ => ⟨_, h, ⟨_, _, rfl, rfl, rfl⟩, hb⟩
def loudR (lk ht rc : Int) (ts gs ls : List Int) (n : Int) : List Int := if loudErr lk ht rc ts gs ls n = 0 then (loudF lk ht rc ts gs ls n.toNat).getD [] else []
def loudE (lk ht rc : Int) (ts gs ls : List Int) (n : Int) : Int := if loudErr lk ht rc ts gs ls n = 0 then (if (loudF lk ht rc ts gs ls n.toNat).isSome then 0 else 24) else loudErr lk ht rc ts gs ls n
theorem loudErr_zero {lk ht rc n : Int} {ts gs ls : List Int} (e : loudErr lk ht rc ts gs ls n = 0) : guardErr lk ht rc ts gs = 0 ∧ (1 ≤ ls.length ∧ ls.length ≤ 6) ∧ ascErr ls (-2048) 2048 = 0 ∧ 0 ≤ n ∧ n ≤ 6 := by
  have h := firstOf_eq_zero.1 e
  have h1 := h (someErr ls.length 6) (by simp)
  have h2 := rangeErr_zero.1 (h (rangeErr n 0 6) (by simp))
  refine ⟨h _ (by simp), ?_, h (ascErr ls (-2048) 2048) (by simp), h2⟩
  unfold someErr at h1
  have h3 := firstOf_eq_zero.1 h1
  have h4 := h3 (if (ls.length : Int) = 0 then 12 else 0) (by simp)
  have h5 := h3 (if (6 : Int) < (ls.length : Int) then 5 else 0) (by simp)
  split at h4
  · omega
  · split at h5 <;> omega
theorem ascErr_in {l : List Int} {lo hi : Int} (e : ascErr l lo hi = 0) : ∀ x ∈ l, lo ≤ x ∧ x ≤ hi := by
  intro x hx
  obtain ⟨k, hk, rfl⟩ := List.mem_iff_getElem.1 hx
  have h1 := firstOf_eq_zero.1 e (ascAt l lo hi k) (List.mem_map.2 ⟨k, List.mem_range.2 hk, rfl⟩)
  have h2 := firstOf_eq_zero.1 h1 (rangeErr (l.getD k 0) lo hi) (by simp)
  have h3 := rangeErr_zero.1 h2
  rw [List.getD_eq_getElem?_getD, List.getElem?_eq_getElem hk] at h3
  exact h3
theorem cLoudest {lk ht rc n : Int} {ts gs ls : List Int} {M L N N2 : Nat} {u v : Value} {W : World} (hM : M = ts.length) (hL : L = gs.length) (hN : N = ls.length) (h1 : M ≤ 1000) (h2 : L ≤ 1000) (h3 : N ≤ 1000) (hLim : Lim W) (hu : KG lk ht rc M ts L gs u W) (hv : KS N ls v W)
    (hN2 : N2 = (loudR lk ht rc ts gs ls n).length) :
    Calls Tryz.prog 33 #[u, v, (.int .i64 n)] W (KP (K2 (KS N2 (loudR lk ht rc ts gs ls n)) (KV (.int .i64 (loudE lk ht rc ts gs ls n)))) W) := by
  obtain ⟨A1, c1, A2, c2, rfl, hT, hG⟩ := hu
  obtain ⟨A3, c3, rfl, hX⟩ := hv
  unfold loudR loudE at *
  by_cases he : loudErr lk ht rc ts gs ls n = 0
  · rw [if_pos he] at hN2 ⊢
    rw [if_pos he]
    obtain ⟨g1, g2, g3, g4, g5⟩ := loudErr_zero he
    obtain ⟨k, rfl⟩ : ∃ k : Nat, n = k := ⟨n.toNat, by omega⟩
    rw [Int.toNat_natCast] at hN2 ⊢
    subst hN2
    exact (Loudest_ok lk ht rc k ts gs ls A1 A2 A3 c1 c2 c3 M L N W hM hL hN hLim (guard_valid g1) hT hG hX (by omega) (by omega) (ascErr_in g3) he).mono fun e W' ⟨⟨B, d, h, hc⟩, hb⟩ => ⟨_, h, ⟨_, _, rfl, ⟨_, _, rfl, hc⟩, rfl⟩, hb⟩
  · rw [if_neg he] at hN2 ⊢
    rw [if_neg he]
    subst hN2
    exact (Loudest_bad lk ht rc n ts gs ls A1 A2 A3 c1 c2 c3 M L N W hM hL hN hT hG hX (by omega) (by omega) (by omega) he).mono fun e W' ⟨h, hb⟩ => ⟨_, h, ⟨_, _, rfl, KS.nil _, rfl⟩, hb⟩
def textR (lk ht rc : Int) (ts gs : List Int) : List UInt8 := if guardErr lk ht rc ts gs = 0 then textG lk ht rc ts gs else []
theorem cPrint {lk ht rc : Int} {ts gs : List Int} {M L : Nat} {u : Value} {W : World} (hM : M = ts.length) (hL : L = gs.length) (h1 : M ≤ 1000) (h2 : L ≤ 1000) (hTab : PTab W) (hu : KG lk ht rc M ts L gs u W) :
    Calls Tryz.prog 7 #[u] W (KP (K2 (KV (.string ⟨(textR lk ht rc ts gs).toArray⟩)) (KV (.int .i64 (guardErr lk ht rc ts gs)))) W) := by
  obtain ⟨A1, c1, A2, c2, rfl, hT, hG⟩ := hu
  unfold textR
  by_cases he : guardErr lk ht rc ts gs = 0
  · rw [if_pos he, he]
    exact (Print_ok lk ht rc ts gs A1 A2 M L c1 c2 W hM hL hTab hT hG h1 h2 he).mono fun e W' ⟨h, hb⟩ => ⟨_, h, ⟨_, _, rfl, rfl, rfl⟩, hb⟩
  · rw [if_neg he]
    exact (Print_bad lk ht rc ts gs A1 A2 M L c1 c2 W hM hL hT hG h1 h2 he).mono fun e W' ⟨h, hb⟩ => ⟨_, h, ⟨_, _, rfl, rfl, rfl⟩, hb⟩
end Go.Proofs.YtdeapbihbhoefaaGreatDoor
