/- Part 17 of the texts of the claim: StR, AwK. -/
import Derived.Test.YtdeapbihbhoefaaDoorLz16
import Derived.Test.YtdeapbihbhoefaaDoorLz9
import Derived.Laws.Rows
import Derived.Test.YtdeapbihbhoefaaDoorLz7

/- A drawn region in whose head a struct is stored into a block that the region itself has made: worlds in which rows of integers stay, and blocks of one type turn to what they will be. -/
namespace Go.Proofs.YtdeapbihbhoefaaDoor
open Go.RowKit
open Calm (bcell Blk)
open Rel (Know)

/-- rows of integers stay. -/
def IntKeep (W W' : World) : Prop := ∀ (k : Nat) (cur : Array Value), W.heap[k]? = some (.cells cur 3 (0, 0)) → W'.heap[k]? = some (.cells cur 3 (0, 0))
theorem IntKeep.of {W W' : World} (h : Below W.heap.size W W') : IntKeep W W' := fun _ _ hk => (h.block _ (Array.getElem?_eq_some_iff.1 hk).1).trans hk
def IStable (K : Know) : Prop := ∀ u W W', K u W → IntKeep W W' → K u W'
theorem IStable.st {K : Know} (h : IStable K) : Rel.Stable K := fun u W W' hk hb => h u W W' hk (IntKeep.of hb)
theorem KV.ik (v : Value) : IStable (KV v) := fun _ _ _ h _ => h
theorem IntRow.keep {W W' : World} {B : Addr} (h : IntRow W B) (hk : IntKeep W W') : IntRow W' B := by
  obtain ⟨cur, h⟩ := h
  exact ⟨cur, hk _ _ h⟩
theorem Cells.keep {W W' : World} {B : Option Addr} {l : List Int} (h : Cells W B l) (hi : ∀ p, B = some p → IntRow W p) (hk : IntKeep W W') : Cells W' B l := by
  intro h0
  obtain ⟨b, off, rfl, hl, hc⟩ := h h0
  obtain ⟨cur, hcur⟩ := hi _ rfl
  have e := hk _ _ hcur
  refine ⟨b, off, rfl, (Array.getElem?_eq_some_iff.1 e).1, fun k hk2 => ?_⟩
  exact (World.cell?_of_block (w := W) (a := ⟨b, off + k, none⟩) (e.trans hcur.symm)).trans (hc k hk2)
theorem KTI.ik (h lv : Int) (n : Nat) (l : List Int) : IStable (KTI h lv n l) := fun _ _ _ ⟨B, c, h1, h2, h3⟩ hk => ⟨B, c, h1, h2.keep h3 hk, fun p hp => (h3 p hp).keep hk⟩
/-- a guard whose lists lie in rows of integers. -/
def KGI (lk ht rc : Int) (M : Nat) (ts : List Int) (L : Nat) (gs : List Int) : Know := fun u W => ∃ A1 c1 A2 c2, u = .agg #[(.int .i64 lk), (.int .i64 ht), .slice A1 M c1, (.int .i64 rc), .slice A2 L c2] ∧ Cells W A1 ts ∧ Cells W A2 gs ∧ (∀ p, A1 = some p → IntRow W p) ∧ ∀ p, A2 = some p → IntRow W p
theorem KGI.ik (lk ht rc : Int) (M : Nat) (ts : List Int) (L : Nat) (gs : List Int) : IStable (KGI lk ht rc M ts L gs) := fun _ _ _ ⟨A1, c1, A2, c2, h1, h2, h3, h4, h5⟩ hk => ⟨A1, c1, A2, c2, h1, h2.keep h4 hk, h3.keep h5 hk, fun p hp => (h4 p hp).keep hk, fun p hp => (h5 p hp).keep hk⟩
theorem KGI.kg {lk ht rc : Int} {M : Nat} {ts : List Int} {L : Nat} {gs : List Int} {u : Value} {W : World} (h : KGI lk ht rc M ts L gs u W) : KG lk ht rc M ts L gs u W := by
  obtain ⟨A1, c1, A2, c2, h1, h2, h3, _⟩ := h
  exact ⟨A1, c1, A2, c2, h1, h2, h3⟩
/-- a slice that lies in a row of integers. -/
def KSI (n : Nat) (l : List Int) : Know := fun u W => ∃ B c, u = .slice B n c ∧ Cells W B l ∧ ∀ p, B = some p → IntRow W p
theorem KSI.ik (n : Nat) (l : List Int) : IStable (KSI n l) := fun _ _ _ ⟨B, c, h1, h2, h3⟩ hk => ⟨B, c, h1, h2.keep h3 hk, fun p hp => (h3 p hp).keep hk⟩
theorem KSI.ks {n : Nat} {l : List Int} {u : Value} {W : World} (h : KSI n l u W) : KS n l u W := by
  obtain ⟨B, c, h1, h2, _⟩ := h
  exact ⟨B, c, h1, h2⟩
theorem K3.ik {R1 R2 R3 : Know} (h1 : IStable R1) (h2 : IStable R2) (h3 : IStable R3) : IStable (K3 R1 R2 R3) := fun _ W W' ⟨u1, u2, u3, e, k1, k2, k3⟩ hb => ⟨u1, u2, u3, e, h1 _ W W' k1 hb, h2 _ W W' k2 hb, h3 _ W W' k3 hb⟩

/-- the block is of this type. -/
def IsTy (W : World) (g : Nat) (t : TypeId) : Prop := ∃ cs, W.heap[g]? = some (.cells cs t (0, 0))
theorem IsTy.below {W W' : World} {g : Nat} {t : TypeId} (h : IsTy W g t) (hb : Below W.heap.size W W') : IsTy W' g t := by
  obtain ⟨cs, h⟩ := h
  exact ⟨cs, (hb.block _ (Array.getElem?_eq_some_iff.1 h).1).trans h⟩
theorem IsTy.put {W : World} {g : Nat} {t : TypeId} (h : IsTy W g t) (i : Nat) (v : Value) : IsTy (W.setCell ⟨g, i, none⟩ v) g t := by
  obtain ⟨cs, h⟩ := h
  exact ⟨_, heap_setCell_same W g i cs t v h⟩
theorem KSI.put {n : Nat} {l : List Int} {u : Value} {W : World} {g : Nat} {t : TypeId} (h : KSI n l u W) (ht : IsTy W g t) (hne : t ≠ 3) (i : Nat) (v : Value) : KSI n l u (W.setCell ⟨g, i, none⟩ v) := by
  obtain ⟨B, c, h1, h2, h3⟩ := h
  obtain ⟨cs, hg⟩ := ht
  exact ⟨B, c, h1, h2.sets (fun _ p hp => (h3 p hp).ne hg hne) i v, fun p hp => (h3 p hp).sets ((h3 p hp).ne hg hne) i v⟩
/-- below B nothing turns; of the newer blocks only those of the type T turn, to what is known. -/
structure Sty (T : TypeId) (K : Know) (B : Nat) (W W' : World) : Prop where
  os : W'.os = W.os
  tape : W'.tape = W.tape
  output : W'.output = W.output
  size : W.heap.size ≤ W'.heap.size
  ne : T ≠ 3
  block : ∀ k, k < W.heap.size → W'.heap[k]? = W.heap[k]? ∨ (B ≤ k ∧ (∃ cs, W.heap[k]? = some (.cells cs T (0, 0))) ∧ ∃ cs, W'.heap[k]? = some (.cells cs T (0, 0)) ∧ K (.agg cs) W')
theorem Sty.refl {T : TypeId} {K : Know} {B : Nat} (hT : T ≠ 3) (W : World) : Sty T K B W W := ⟨rfl, rfl, rfl, Nat.le_refl _, hT, fun _ _ => .inl rfl⟩
theorem Sty.keep {T : TypeId} {K : Know} {B : Nat} {W W' : World} (h : Sty T K B W W') : IntKeep W W' := by
  intro k cur hk
  rcases h.block k (Array.getElem?_eq_some_iff.1 hk).1 with e | ⟨_, ⟨cs, e⟩, _⟩
  · exact e.trans hk
  · rw [hk] at e
    cases e
    exact absurd rfl h.ne
theorem Sty.trans {T : TypeId} {K : Know} (hK : IStable K) {B : Nat} (a b c : World) (h : Sty T K B a b) (k : Sty T K B b c) : Sty T K B a c := by
  refine ⟨k.os.trans h.os, k.tape.trans h.tape, k.output.trans h.output, Nat.le_trans h.size k.size, h.ne, fun i hi => ?_⟩
  rcases k.block i (Nat.lt_of_lt_of_le hi h.size) with e | ⟨hB, ⟨cs, e⟩, cs', e', hk'⟩
  · rcases h.block i hi with e2 | ⟨hB, h1, cs, e2, hk⟩
    · exact .inl (e.trans e2)
    · exact .inr ⟨hB, h1, cs, e.trans e2, hK _ _ _ hk k.keep⟩
  · rcases h.block i hi with e2 | ⟨hB, h1, _⟩
    · exact .inr ⟨hB, ⟨cs, e2.symm.trans e⟩, cs', e', hk'⟩
    · exact .inr ⟨hB, h1, cs', e', hk'⟩
theorem Sty.drawn {T : TypeId} {K : Know} {B : Nat} (hT : T ≠ 3) (W : World) : Sty T K B W { W with drawn := W.drawn + 1 } := ⟨rfl, rfl, rfl, Nat.le_refl _, hT, fun _ _ => .inl rfl⟩
theorem Sty.of {T : TypeId} {K : Know} {B : Nat} (hT : T ≠ 3) {W W' : World} (h : Below W.heap.size W W') : Sty T K B W W' := ⟨h.os, h.tape, h.output, h.size, hT, fun k hk => .inl (h.block k hk)⟩
theorem Sty.below {T : TypeId} {K : Know} {B : Nat} {W W' : World} (h : Sty T K B W W') (hB : B ≤ W.heap.size) : Below B W W' :=
  ⟨h.os, h.tape, h.output, h.size, fun k hk => (h.block k (by omega)).elim id (fun h2 => by omega)⟩

set_option maxRecDepth 100000 in
/-- a state stored. -/
theorem run_storeS {W : World} {g : Nat} {u0 u1 u2 : Value} {h lv : Int} {B : Option Addr} {n c : Nat} (hg : W.heap[g]? = some (.cells #[u0, u1, u2] 30 (0, 0))) {o : Oper} {ρ : Operand → Value} {p v : Tmp} (hop : o.op = .store 30 (.tmp p) (.tmp v))
    (hp : ρ (.tmp p) = .pointer (some ⟨g, 0, none⟩)) (hv : ρ (.tmp v) = .agg #[(.int .i64 h), (.int .i64 lv), .slice B n c]) : (execOp ρ o).run Tryd.prog W = .ok .skip (((W.setCell ⟨g, 0, none⟩ (.int .i64 h)).setCell ⟨g, 1, none⟩ (.int .i64 lv)).setCell ⟨g, 2, none⟩ (.slice B n c)) := by
  have K := Calm.Blk.row hg
  obtain ⟨c0, c1, c2, l, f⟩ := K.o3
  have f0 := K.f 0
  have f1 := K.f 1
  have f2 := K.f 2
  clear K
  obtain ⟨dst, op, type, pos, after, guard⟩ := o
  simp only at hop
  subst hop
  go_simp
theorem set3_heap {W : World} {g : Nat} {u0 u1 u2 : Value} {t : TypeId} (a b c : Value) (hg : W.heap[g]? = some (.cells #[u0, u1, u2] t (0, 0))) : (((W.setCell ⟨g, 0, none⟩ a).setCell ⟨g, 1, none⟩ b).setCell ⟨g, 2, none⟩ c).heap[g]? = some (.cells #[a, b, c] t (0, 0)) := by
  exact heap_setCell_same _ g 2 _ t c (heap_setCell_same _ g 1 _ t b (heap_setCell_same W g 0 _ t a hg))

namespace RelH
open Rel (ons)
section
variable {S : World → World → Prop} {P : Program} {DS : List Tmp} {w0 : World} {a0 : Act} {T : Ctx → Prop} {Γ : Ctx} {o : Oper} {rest : List Oper}
theorem dep_at {x : Nat → Value} {Γ : Ctx} {a : Act} {W : World} : ∀ {js : List Nat}, deps x Γ a W js → ∀ (j : Nat) {t : Tmp} {R : DK}, js.contains j = true → Γ[j]? = some (some t, R) → x j = a.eval (.tmp t) ∧ R x (a.eval (.tmp t)) W
  | [], _, _, _, _, hj, _ => by simp at hj
  | i :: js, h, j, t, R, hj, hΓ => by
    rcases Bool.eq_false_or_eq_true (i == j) with e | e
    · rw [beq_iff_eq] at e
      subst e
      have h1 := h.1
      rw [hΓ] at h1
      exact h1
    · refine dep_at h.2 j ?_ hΓ
      rw [List.contains_cons] at hj
      have : (j == i) = false := by rw [beq_eq_false_iff_ne] at e ⊢; exact fun e2 => e e2.symm
      rwa [this, Bool.false_or] at hj
theorem dep_k {x : Nat → Value} {Γ : Ctx} {a : Act} {W : World} {js : List Nat} (h : deps x Γ a W js) (j : Nat) {t : Tmp} {K : Know} (hj : js.contains j = true) (hΓ : Γ[j]? = some (some t, fun _ => K)) : K (a.eval (.tmp t)) W := (dep_at h j hj hΓ).2
theorem sk {K : Know} (hk : ∀ W W', S W W' → IntKeep W W') (h : IStable K) : Stable S (fun _ => K) := fun _ _ W W' h1 hS => h _ W W' h1 (hk W W' hS)
theorem mvH (hr : ∀ W, S W W) (hk : ∀ W W', S W W' → IntKeep W W') (t : Tmp) (j : Nat) {K : Know} (hop : o.op = .move (.tmp t)) (hj : (ons o).contains j = true) (hΓ : Γ[j]? = some (some t, fun _ => K)) (hs : IStable K) (hg : GOK3 Γ o)
    (hn : walk3 S P DS w0 a0 T (Γ ++ [(o.dst, fun _ => K)]) rest) : walk3 S P DS w0 a0 T Γ (o :: rest) :=
  opR3 hr _ (sk hk hs) loc_const hg (fun a W x hb hd _ => ⟨a.eval (.tmp t), by simp [execOp, hop], dep_k hd j hj hΓ⟩) hn
theorem ext30H (hr : ∀ W, S W W) (hk : ∀ W W', S W W' → IntKeep W W') (t : Tmp) (j : Nat) {R1 R2 R3 : Know} (hop : o.op = .extract (.tmp t) 0) (hj : (ons o).contains j = true) (hΓ : Γ[j]? = some (some t, fun _ => K3 R1 R2 R3)) (hs : IStable R1) (hg : GOK3 Γ o)
    (hn : walk3 S P DS w0 a0 T (Γ ++ [(o.dst, fun _ => R1)]) rest) : walk3 S P DS w0 a0 T Γ (o :: rest) :=
  opR3 hr _ (sk hk hs) loc_const hg (fun a W x hb hd _ => by
    obtain ⟨u1, u2, u3, e, h1, h2, h3⟩ := dep_k hd j hj hΓ
    exact ⟨u1, by simp [execOp, hop, e, Instr.extract, Result.andThen], h1⟩) hn
theorem ext31H (hr : ∀ W, S W W) (hk : ∀ W W', S W W' → IntKeep W W') (t : Tmp) (j : Nat) {R1 R2 R3 : Know} (hop : o.op = .extract (.tmp t) 1) (hj : (ons o).contains j = true) (hΓ : Γ[j]? = some (some t, fun _ => K3 R1 R2 R3)) (hs : IStable R2) (hg : GOK3 Γ o)
    (hn : walk3 S P DS w0 a0 T (Γ ++ [(o.dst, fun _ => R2)]) rest) : walk3 S P DS w0 a0 T Γ (o :: rest) :=
  opR3 hr _ (sk hk hs) loc_const hg (fun a W x hb hd _ => by
    obtain ⟨u1, u2, u3, e, h1, h2, h3⟩ := dep_k hd j hj hΓ
    exact ⟨u2, by simp [execOp, hop, e, Instr.extract, Result.andThen], h2⟩) hn
theorem ext32H (hr : ∀ W, S W W) (hk : ∀ W W', S W W' → IntKeep W W') (t : Tmp) (j : Nat) {R1 R2 R3 : Know} (hop : o.op = .extract (.tmp t) 2) (hj : (ons o).contains j = true) (hΓ : Γ[j]? = some (some t, fun _ => K3 R1 R2 R3)) (hs : IStable R3) (hg : GOK3 Γ o)
    (hn : walk3 S P DS w0 a0 T (Γ ++ [(o.dst, fun _ => R3)]) rest) : walk3 S P DS w0 a0 T Γ (o :: rest) :=
  opR3 hr _ (sk hk hs) loc_const hg (fun a W x hb hd _ => by
    obtain ⟨u1, u2, u3, e, h1, h2, h3⟩ := dep_k hd j hj hΓ
    exact ⟨u3, by simp [execOp, hop, e, Instr.extract, Result.andThen], h3⟩) hn
theorem callH (hk : ∀ W W', S W W' → IntKeep W W') (hof : ∀ W W', Below W.heap.size W W' → S W W') (f : FuncId) (K : Know) (hs : IStable K) (hg : GOK3 Γ o)
    (h : ∀ (a : Act) (W : World) (x : Nat → Value), S w0 W → deps x Γ a W (ons o) → (∀ t, t ∉ DS → a.eval (.tmp t) = a0.eval (.tmp t)) → ∃ args, (execOp a.eval o).run P W = .ok (.enter f args) W ∧ Calls P f args W (KP K W))
    (hn : walk3 S P DS w0 a0 T (Γ ++ [(o.dst, fun _ => K)]) rest) : walk3 S P DS w0 a0 T Γ (o :: rest) :=
  callR3 _ (sk hk hs) loc_const (fun W W' _ hb => hof W W' hb) hg (fun a W x hb hd hbase => by
    obtain ⟨args, h1, h2⟩ := h a W x hb hd hbase
    exact ⟨f, args, h1, h2⟩) hn
end
/-- a new block of the type that may turn. -/
def NewY (T : TypeId) (n B : Nat) : DK := fun _ u W => ∃ g, u = .pointer (some ⟨g, 0, none⟩) ∧ B ≤ g ∧ ∃ cs, W.heap[g]? = some (.cells cs T (0, 0)) ∧ cs.size = n
/-- the block is what it will be. -/
def DoneY (T : TypeId) (K : Know) (j B : Nat) : DK := fun x _ W => ∃ g, x j = .pointer (some ⟨g, 0, none⟩) ∧ B ≤ g ∧ ∃ cs, W.heap[g]? = some (.cells cs T (0, 0)) ∧ K (.agg cs) W
section
variable {Ty : TypeId} {K : Know} {P : Program} {DS : List Tmp} {w0 : World} {a0 : Act} {T : Ctx → Prop} {Γ : Ctx} {o : Oper} {rest : List Oper}
theorem NewY.st {n B : Nat} (hn : ∀ cs W, K (.agg cs) W → cs.size = n) : Stable (Sty Ty K B) (NewY Ty n B) := by
  rintro _ u W W' ⟨g, h1, h2, cs, h3, h4⟩ hS
  refine ⟨g, h1, h2, ?_⟩
  rcases hS.block g (Array.getElem?_eq_some_iff.1 h3).1 with e | ⟨_, _, cs', e, hk⟩
  · exact ⟨cs, e.trans h3, h4⟩
  · exact ⟨cs', e, hn _ _ hk⟩
theorem DoneY.st {j B : Nat} (hK : IStable K) : Stable (Sty Ty K B) (DoneY Ty K j B) := by
  rintro x u W W' ⟨g, h1, h2, cs, h3, h4⟩ hS
  refine ⟨g, h1, h2, ?_⟩
  rcases hS.block g (Array.getElem?_eq_some_iff.1 h3).1 with e | ⟨_, _, cs', e, hk⟩
  · exact ⟨cs, e.trans h3, hK _ _ _ h4 hS.keep⟩
  · exact ⟨cs', e, hk⟩
theorem allocH (hT : Ty ≠ 3) {n : Nat} (hn : ∀ cs W, K (.agg cs) W → cs.size = n) (cs : Array Value) (hcs : cs.size = n) (hg : GOK3 Γ o)
    (h : ∀ (a : Act) (W : World), (execOp a.eval o).run P W = .ok (.value (.pointer (some ⟨W.heap.size, 0, none⟩))) (W.alloc (.cells cs Ty)))
    (hr : walk3 (Sty Ty K w0.heap.size) P DS w0 a0 T (Γ ++ [(o.dst, NewY Ty n w0.heap.size)]) rest) : walk3 (Sty Ty K w0.heap.size) P DS w0 a0 T Γ (o :: rest) :=
  opW3 _ (NewY.st hn) loc_const hg (fun a W x hb hd hbase => ⟨_, _, h a W, ⟨_, rfl, hb.size, cs, heap_alloc_new W _, hcs⟩, Sty.of hT ((Below.refl _ _).alloc (Nat.le_refl _) _)⟩) hr
end
section
variable {P : Program} {DS : List Tmp} {w0 : World} {a0 : Act} {T : Ctx → Prop} {Γ : Ctx} {o : Oper} {rest : List Oper}
/-- a state stored into the new block. -/
theorem storeH {h lv : Int} {n : Nat} {l : List Int} (p v : Tmp) (jp jv : Nat) (hop : o.op = .store 30 (.tmp p) (.tmp v)) (hp : (ons o).contains jp = true) (hv : (ons o).contains jv = true)
    (hΓp : Γ[jp]? = some (some p, NewY 30 3 w0.heap.size)) (hΓv : Γ[jv]? = some (some v, fun _ => KTI h lv n l)) (hg : GOK3 Γ o)
    (hn : walk3 (Sty 30 (KTI h lv n l) w0.heap.size) Tryd.prog DS w0 a0 T (Γ ++ [(o.dst, DoneY 30 (KTI h lv n l) jp w0.heap.size)]) rest) : walk3 (Sty 30 (KTI h lv n l) w0.heap.size) Tryd.prog DS w0 a0 T Γ (o :: rest) :=
  ⟨_, DoneY.st (KTI.ik h lv n l), fun x y he v W ⟨g, h1, h2⟩ => ⟨g, by
      obtain ⟨e, he1, rfl⟩ := List.mem_map.1 (show jp ∈ ons o by simpa using hp)
      obtain ⟨he2, he3⟩ := List.mem_filter.1 he1
      rw [← he e (by simpa using he2) he3]
      exact h1, h2⟩, hg, fun a W x hb hd hbase K Q hK => by
    obtain ⟨e1, g, h1, h2, cs, h3, h4⟩ := dep_at hd jp hp hΓp
    obtain ⟨B, c, h5, h6, h7⟩ := dep_k hd jv hv hΓv
    obtain ⟨cl⟩ := cs
    match cl, h4 with
    | [u0, u1, u2], _ =>
    have hrun := run_storeS h3 hop h1 h5
    have hne : ∀ p, B = some p → p.block ≠ g := fun p hp => (h7 p hp).ne h3 (by decide)
    have hg' := set3_heap (.int .i64 h) (.int .i64 lv) (.slice B n c) h3
    have hkt : KTI h lv n l (.agg #[(.int .i64 h), (.int .i64 lv), .slice B n c]) (((W.setCell ⟨g, 0, none⟩ (.int .i64 h)).setCell ⟨g, 1, none⟩ (.int .i64 lv)).setCell ⟨g, 2, none⟩ (.slice B n c)) :=
      ⟨B, c, rfl, ((h6.sets (fun _ => hne) 0 _).sets (fun _ => hne) 1 _).sets (fun _ => hne) 2 _, fun p hp => (((h7 p hp).sets (hne p hp) 0 _).sets (hne p hp) 1 _).sets (hne p hp) 2 _⟩
    unfold Oper.wp
    rw [hrun]
    refine hK undef _ ⟨g, e1.trans h1, h2, _, hg', hkt⟩ ⟨rfl, rfl, rfl, by simp [World.setCell], by decide, fun k hk => ?_⟩
    rcases Nat.decEq k g with hkg | rfl
    · exact .inl (by rw [Below.heap_setCell _ _ _ _ hkg, Below.heap_setCell _ _ _ _ hkg, Below.heap_setCell _ _ _ _ hkg])
    · exact .inr ⟨h2, ⟨_, h3⟩, _, hg', hkt⟩, hn⟩
end
end RelH
end Go.Proofs.YtdeapbihbhoefaaDoor

/- The example's guard, and what the program's functions answer for it. -/
namespace Go.Proofs.YtdeapbihbhoefaaDoor
open Go.RowKit
open Calm (bcell Blk)

set_option maxRecDepth 100000 in
theorem usual_K (W : World) : Calls Tryd.prog 67 #[] W (KP (KGI 1 100 20 2 [1, 2] 3 [0, 8, 16]) W) := by
  go_enter Tryd.func67, Tryd.ntmps67
  go_wp2
  refine bodyPost_ret (v := .agg #[(.int .i64 1), (.int .i64 100), .slice (some ⟨W.heap.size + 1, 0, none⟩) 2 2, (.int .i64 20), .slice (some ⟨W.heap.size + 1 + 1, 0, none⟩) 3 3]) (by simp [results, Tryd.results67, go_sem]) rfl ?_
  refine ⟨_, rfl, ⟨_, _, _, _, rfl, ?_, ?_, fun p hp => ?_, fun p hp => ?_⟩, ?_⟩
  · exact blkc (zs := [1, 2]) (show Blk _ (W.heap.size + 1) #[(.int .i64 1), (.int .i64 2)] from by (repeat (first | ((with_reducible refine Blk.at_ ?_); focus (first | rfl | (simp; done) | (simp; omega))) | (with_reducible refine Blk.alloc ?_ _) | (with_reducible refine Blk.below ?_ (by with_reducible assumption)) | (with_reducible refine Blk.drew ?_))))
  · exact blkc (zs := [0, 8, 16]) (show Blk _ (W.heap.size + 1 + 1) #[(.int .i64 0), (.int .i64 8), (.int .i64 16)] from by (repeat (first | ((with_reducible refine Blk.at_ ?_); focus (first | rfl | (simp; done) | (simp; omega))) | (with_reducible refine Blk.alloc ?_ _) | (with_reducible refine Blk.below ?_ (by with_reducible assumption)) | (with_reducible refine Blk.drew ?_))))
  · cases hp; exact ⟨_, heap_old (by simp) (heap_new (by simp))⟩
  · cases hp; exact ⟨_, heap_new (by simp)⟩
  · (repeat (first | (with_reducible exact Below.refl _ _) | ((with_reducible refine Below.setCell ?_ ?_ _); rotate_left 1; focus (first | (simp; done) | (simp; omega) | (simp at *; omega))) | ((with_reducible refine Below.alloc ?_ ?_ _); rotate_left 1; focus (first | (simp; done) | (simp; omega) | (simp at *; omega))) | (with_reducible refine Below.drew ?_) | ((with_reducible refine Calm.step (by assumption) ?_ ?_); rotate_left 1; focus (first | (simp; done) | (simp; omega) | (simp at *; omega)))))
theorem aw_g : guardErr 1 100 20 [1, 2] [0, 8, 16] = 0 := by decide
theorem aw_b : behR 1 100 20 [1, 2] [0, 8, 16] 0 2 [0] 6 = ⟨36, 2, [6], 6, 0⟩ := by kernel_rfl
theorem aw_b2 : behR 1 100 20 [1, 2] [0, 8, 16] 0 2 [0] 11 = ⟨121, 2, [11], 11, 0⟩ := by kernel_rfl
theorem aw_t : tailR 1 100 20 [1, 2] [0, 8, 16] 36 2 [6] = [12] := by kernel_rfl
theorem aw_s : safeR 1 100 20 [1, 2] [0, 8, 16] 121 2 [11] = false := by kernel_rfl
theorem aw_st : stepR 1 100 20 [1, 2] [0, 8, 16] 0 2 [0] 12 = ⟨6, 36, 1, [6], 0⟩ := by kernel_rfl
theorem aw_e6 : runErr 1 100 20 [1, 2] [0, 8, 16] [6, 6, 6] = 0 := by kernel_rfl
theorem aw_e12 : runErr 1 100 20 [1, 2] [0, 8, 16] [12, 12] = 0 := by kernel_rfl
theorem aw_r : runR 1 100 20 [1, 2] [0, 8, 16] [6, 6, 6] = [6, 6, 6] := by kernel_rfl
theorem aw_p1 : pkHR 1 100 20 [1, 2] [0, 8, 16] [6, 6, 6] = 63 := by kernel_rfl
theorem aw_p2 : pkXR 1 100 20 [1, 2] [0, 8, 16] [6, 6, 6] = 18 := by kernel_rfl
theorem aw_l : lvsR 1 100 20 [1, 2] [0, 8, 16] [12, 12] = [1, 1] := by kernel_rfl
theorem aw_sd : stdR 1 100 20 [1, 2] [0, 8, 16] = 7 := by kernel_rfl
theorem aw_q : quiR 1 100 20 [1, 2] [0, 8, 16] = 6 := by kernel_rfl
theorem aw_c : coolE 1 100 20 [1, 2] [0, 8, 16] 100 10 = (4, 0) := by kernel_rfl
theorem aw_c2 : coolE 1 100 20 [1, 2] [0, 8, 16] 1 0 = (0, 24) := by kernel_rfl
theorem aw_rl : relR 1 100 20 [1, 2] [0, 8, 16] 0 0 [0] = (2, 0) := by kernel_rfl
theorem aw_lo : loudR 1 100 20 [1, 2] [0, 8, 16] [-10, 3, 9] 2 = [-10, 3] := by kernel_rfl
theorem aw_le : loudE 1 100 20 [1, 2] [0, 8, 16] [-10, 3, 9] 2 = 0 := by kernel_rfl
theorem aw_en : enR [-10, 3] = 109 := by kernel_rfl
theorem aw_es : sigErr [-10, 3] = 0 := by kernel_rfl
theorem aw_tx : textR 1 100 20 [1, 2] [0, 8, 16] = [103, 117, 97, 114, 100, 32, 49, 32, 49, 48, 48, 32, 50, 48, 32, 116, 97, 112, 115, 32, 49, 32, 50, 32, 103, 97, 105, 110, 115, 32, 48, 32, 56, 32, 49, 54] := by kernel_rfl
theorem aw_begin {u : Value} {W : World} (hu : (KG 1 100 20 2 [1, 2] 3 [0, 8, 16]) u W) : Calls Tryd.prog 16 #[u] W (KP (K2 (KTI 0 2 1 [0]) (KV (.int .i64 0))) W) := by
  have h := cBegin (ts := [1, 2]) (gs := [0, 8, 16]) (N := 1) rfl rfl (by decide) (by decide) hu (by rw [aw_g]; rfl)
  rw [aw_g] at h
  exact h
theorem aw_behind {u v : Value} {W : World} (hL : Lim W) (hu : (KG 1 100 20 2 [1, 2] 3 [0, 8, 16]) u W) (hv : KT 0 2 1 [0] v W) : Calls Tryd.prog 28 #[u, v, (.int .i64 6)] W (KP (K3 (KTI 36 2 1 [6]) (KV (.int .i64 6)) (KV (.int .i64 0))) W) := by
  have h := cBehind (ts := [1, 2]) (gs := [0, 8, 16]) (ps := [0]) (N2 := 1) (y := 6) rfl rfl rfl (by decide) (by decide) (by decide) hL hu hv (by rw [aw_b]; rfl)
  rw [aw_b] at h
  exact h
theorem aw_behind2 {u v : Value} {W : World} (hL : Lim W) (hu : (KG 1 100 20 2 [1, 2] 3 [0, 8, 16]) u W) (hv : KT 0 2 1 [0] v W) : Calls Tryd.prog 28 #[u, v, (.int .i64 11)] W (KP (K3 (KTI 121 2 1 [11]) (KV (.int .i64 11)) (KV (.int .i64 0))) W) := by
  have h := cBehind (ts := [1, 2]) (gs := [0, 8, 16]) (ps := [0]) (N2 := 1) (y := 11) rfl rfl rfl (by decide) (by decide) (by decide) hL hu hv (by rw [aw_b2]; rfl)
  rw [aw_b2] at h
  exact h
theorem aw_s0 : stErr 1 100 20 [1, 2] [0, 8, 16] 36 2 [6] = 0 := by decide
theorem aw_s1 : stErr 1 100 20 [1, 2] [0, 8, 16] 121 2 [11] = 0 := by decide
theorem aw_tails {u v : Value} {W : World} (hL : Lim W) (hu : (KG 1 100 20 2 [1, 2] 3 [0, 8, 16]) u W) (hv : KT 36 2 1 [6] v W) : Calls Tryd.prog 26 #[u, v] W (KP (K2 (KS 1 [12]) (KV (.int .i64 0))) W) := by
  have h := cTails (ts := [1, 2]) (gs := [0, 8, 16]) (ps := [6]) (N2 := 1) rfl rfl rfl (by decide) (by decide) (by decide) hL hu hv (by rw [aw_t]; rfl)
  rw [aw_t, aw_s0] at h
  exact h
theorem aw_safe {u v : Value} {W : World} (hL : Lim W) (hu : (KG 1 100 20 2 [1, 2] 3 [0, 8, 16]) u W) (hv : KT 121 2 1 [11] v W) : Calls Tryd.prog 27 #[u, v] W (KP (K2 (KV (.bool false)) (KV (.int .i64 0))) W) := by
  have h := cSafe (ts := [1, 2]) (gs := [0, 8, 16]) (ps := [11]) rfl rfl rfl (by decide) (by decide) (by decide) hL hu hv
  rw [aw_s, aw_s1] at h
  exact h
theorem aw_step {u v : Value} {W : World} (hL : Lim W) (hu : (KG 1 100 20 2 [1, 2] 3 [0, 8, 16]) u W) (hv : KT 0 2 1 [0] v W) : Calls Tryd.prog 29 #[u, v, (.int .i64 12)] W (KP (K3 (KV (.int .i64 6)) (KTI 36 1 1 [6]) (KV (.int .i64 0))) W) := by
  have h := cStep (ts := [1, 2]) (gs := [0, 8, 16]) (ps := [0]) (N2 := 1) (y := 12) rfl rfl rfl (by decide) (by decide) (by decide) hL hu hv (by rw [aw_st]; rfl)
  rw [aw_st] at h
  exact h
theorem aw_run {u v : Value} {W : World} (hL : Lim W) (hu : (KG 1 100 20 2 [1, 2] 3 [0, 8, 16]) u W) (hv : KS 3 [6, 6, 6] v W) : Calls Tryd.prog 40 #[u, v] W (KP (K2 (KS 3 [6, 6, 6]) (KV (.int .i64 0))) W) := by
  have h := cRun (ts := [1, 2]) (gs := [0, 8, 16]) (xs := [6, 6, 6]) (N2 := 3) rfl rfl rfl (by decide) (by decide) (by decide) hL hu hv (by rw [aw_r]; rfl)
  rw [aw_r, aw_e6] at h
  exact h
theorem aw_peaks {u v : Value} {W : World} (hu : (KG 1 100 20 2 [1, 2] 3 [0, 8, 16]) u W) (hv : KS 3 [6, 6, 6] v W) : Calls Tryd.prog 43 #[u, v] W (KP (K2 (KV (.agg #[(.int .i64 63), (.int .i64 18)])) (KV (.int .i64 0))) W) := by
  have h := cPeaks (ts := [1, 2]) (gs := [0, 8, 16]) (xs := [6, 6, 6]) rfl rfl rfl (by decide) (by decide) (by decide) hu hv
  rw [aw_p1, aw_p2, aw_e6] at h
  exact h
theorem aw_levels {u v : Value} {W : World} (hL : Lim W) (hu : (KG 1 100 20 2 [1, 2] 3 [0, 8, 16]) u W) (hv : KS 2 [12, 12] v W) : Calls Tryd.prog 42 #[u, v] W (KP (K2 (KS 2 [1, 1]) (KV (.int .i64 0))) W) := by
  have h := cLevels (ts := [1, 2]) (gs := [0, 8, 16]) (xs := [12, 12]) (N2 := 2) rfl rfl rfl (by decide) (by decide) (by decide) hL hu hv (by rw [aw_l]; rfl)
  rw [aw_l, aw_e12] at h
  exact h
theorem aw_steady {u : Value} {W : World} (hu : (KG 1 100 20 2 [1, 2] 3 [0, 8, 16]) u W) : Calls Tryd.prog 48 #[u] W (KP (K2 (KV (.int .i64 7)) (KV (.int .i64 0))) W) := by
  have h := cSteady (ts := [1, 2]) (gs := [0, 8, 16]) rfl rfl (by decide) (by decide) hu
  rw [aw_sd, aw_g] at h
  exact h
theorem aw_quiet {u : Value} {W : World} (hu : (KG 1 100 20 2 [1, 2] 3 [0, 8, 16]) u W) : Calls Tryd.prog 49 #[u] W (KP (K2 (KV (.int .i64 6)) (KV (.int .i64 0))) W) := by
  have h := cQuiet (ts := [1, 2]) (gs := [0, 8, 16]) rfl rfl (by decide) (by decide) hu
  rw [aw_q, aw_g] at h
  exact h
theorem aw_cool {u : Value} {W : World} (hu : (KG 1 100 20 2 [1, 2] 3 [0, 8, 16]) u W) : Calls Tryd.prog 50 #[u, (.int .i64 100), (.int .i64 10)] W (KP (K2 (KV (.int .i64 4)) (KV (.int .i64 0))) W) := by
  have h := cCool (ts := [1, 2]) (gs := [0, 8, 16]) (a := 100) (b := 10) rfl rfl (by decide) (by decide) hu
  rw [aw_c] at h
  exact h
theorem aw_cool2 {u : Value} {W : World} (hu : (KG 1 100 20 2 [1, 2] 3 [0, 8, 16]) u W) : Calls Tryd.prog 50 #[u, (.int .i64 1), (.int .i64 0)] W (KP (K2 (KV (.int .i64 0)) (KV (.int .i64 24))) W) := by
  have h := cCool (ts := [1, 2]) (gs := [0, 8, 16]) (a := 1) (b := 0) rfl rfl (by decide) (by decide) hu
  rw [aw_c2] at h
  exact h
theorem aw_release {u v : Value} {W : World} (hL : Lim W) (hu : (KG 1 100 20 2 [1, 2] 3 [0, 8, 16]) u W) (hv : KT 0 0 1 [0] v W) : Calls Tryd.prog 30 #[u, v] W (KP (K2 (KV (.int .i64 2)) (KV (.int .i64 0))) W) := by
  have h := cRelease (ts := [1, 2]) (gs := [0, 8, 16]) (ps := [0]) rfl rfl rfl (by decide) (by decide) (by decide) hL hu hv
  rw [aw_rl] at h
  exact h
theorem aw_loudest {u v : Value} {W : World} (hL : Lim W) (hu : (KG 1 100 20 2 [1, 2] 3 [0, 8, 16]) u W) (hv : KS 3 [-10, 3, 9] v W) : Calls Tryd.prog 55 #[u, v, (.int .i64 2)] W (KP (K2 (KS 2 [-10, 3]) (KV (.int .i64 0))) W) := by
  have h := cLoudest (ts := [1, 2]) (gs := [0, 8, 16]) (ls := [-10, 3, 9]) (N2 := 2) (n := 2) rfl rfl rfl (by decide) (by decide) (by decide) hL hu hv (by rw [aw_lo]; rfl)
  rw [aw_lo, aw_le] at h
  exact h
theorem aw_energy {v : Value} {W : World} (hv : KS 2 [-10, 3] v W) : Calls Tryd.prog 56 #[v] W (KP (K2 (KV (.int .i64 109)) (KV (.int .i64 0))) W) := by
  have h := cEnergy (xs := [-10, 3]) rfl (by decide) hv
  rw [aw_en, aw_es] at h
  exact h
theorem aw_print {u : Value} {W : World} (hTab : PTab W) (hu : (KG 1 100 20 2 [1, 2] 3 [0, 8, 16]) u W) : Calls Tryd.prog 68 #[u] W (KP (K2 (KV (.string ⟨#[103, 117, 97, 114, 100, 32, 49, 32, 49, 48, 48, 32, 50, 48, 32, 116, 97, 112, 115, 32, 49, 32, 50, 32, 103, 97, 105, 110, 115, 32, 48, 32, 56, 32, 49, 54]⟩)) (KV (.int .i64 0))) W) := by
  have h := cPrint (ts := [1, 2]) (gs := [0, 8, 16]) rfl rfl (by decide) (by decide) hTab hu
  rw [aw_tx, aw_g] at h
  exact h
/-- two slices held against each other. -/
theorem same_K {a b : List Int} {n m : Nat} {u v : Value} {W : World} (h1 : n = a.length) (h2 : m = b.length) (h3 : n ≤ 100000) (h4 : m ≤ 100000) (hu : KS n a u W) (hv : KS m b v W) : Calls Tryd.prog 38 #[u, v] W (KP (KV (.bool (decide (a = b)))) W) := by
  obtain ⟨A, c, rfl, hA⟩ := hu
  obtain ⟨B, d, rfl, hB⟩ := hv
  subst h1 h2
  exact (sameInts_any A B a b c d W hA hB h3 h4).mono fun e W' ⟨h, hb⟩ => ⟨_, h, rfl, hb⟩
theorem same_T {a b : List Int} {n m : Nat} {u v : Value} {W : World} (e : a = b) (h1 : n = a.length) (h2 : m = b.length) (h3 : n ≤ 100000) (hu : KS n a u W) (hv : KS m b v W) : Calls Tryd.prog 38 #[u, v] W (KP (KV (.bool true)) W) := by
  subst e
  have h := same_K h1 h2 h3 (by omega) hu hv
  rwa [decide_eq_true rfl] at h
theorem aw_pk (W : World) : Sem.run Tryd.prog (binOp BinOp.neq 68 (.agg #[(.int .i64 63), (.int .i64 18)]) (.agg #[(.int .i64 63), (.int .i64 18)])) W = .ok (.bool false) W := by kernel_rfl
end Go.Proofs.YtdeapbihbhoefaaDoor
