/- Part 10 of the texts of the claim: Sett, X3, X4. -/
import Derived.Test.YtdeapbihbhoefaaDoorPr9
import Derived.Test.YtdeapbihbhoefaaDoorPr3

/- Worlds that turn in rows of their own alone, each of them at one index to one value; an append onto a row that the region itself made. No program. -/
namespace Go.Proofs.YtdeapbihbhoefaaDoor
open Go.RowKit
open Calm (bcell Blk)
/-- below B nothing turns; a block from B on is as it was, or has x at its index n. -/
structure Sett (n : Nat) (x : Value) (B : Nat) (W W' : World) : Prop where
  below : Below B W W'
  row : ∀ g, B ≤ g → g < W.heap.size → W'.heap[g]? = W.heap[g]? ∨ ∃ cur t, W.heap[g]? = some (.cells cur t (0, 0)) ∧ W'.heap[g]? = some (.cells (cur.setIfInBounds n x) t (0, 0))
theorem Sett.refl {n : Nat} {x : Value} {B : Nat} (W : World) : Sett n x B W W := ⟨Below.refl _ _, fun _ _ _ => .inl rfl⟩
theorem set_twice (cur : Array Value) (n : Nat) (x : Value) : (cur.setIfInBounds n x).setIfInBounds n x = cur.setIfInBounds n x := by
  apply Array.ext
  · simp
  · intro i h1 h2
    simp [Array.getElem_setIfInBounds]
theorem Sett.trans {n : Nat} {x : Value} {B : Nat} (a b c : World) (h : Sett n x B a b) (h' : Sett n x B b c) : Sett n x B a c := by
  refine ⟨h.below.trans h'.below, fun g hg hl => ?_⟩
  have hl' : g < b.heap.size := Nat.lt_of_lt_of_le hl h.below.size
  rcases h'.row g hg hl' with e' | ⟨cur', t', e1', e2'⟩
  · rcases h.row g hg hl with e | ⟨cur, t, e1, e2⟩
    · exact .inl (e'.trans e)
    · exact .inr ⟨cur, t, e1, e'.trans e2⟩
  · rcases h.row g hg hl with e | ⟨cur, t, e1, e2⟩
    · exact .inr ⟨cur', t', e.symm.trans e1', e2'⟩
    · rw [e2] at e1'
      cases e1'
      exact .inr ⟨cur, _, e1, by rw [e2', set_twice]⟩
theorem Sett.drawn {n : Nat} {x : Value} {B : Nat} (W : World) : Sett n x B W { W with drawn := W.drawn + 1 } := ⟨⟨rfl, rfl, rfl, Nat.le_refl _, fun _ _ => rfl⟩, fun _ _ _ => .inl rfl⟩
theorem Sett.of {n : Nat} {x : Value} {B : Nat} {W W' : World} (h : Below W.heap.size W W') (hB : B ≤ W.heap.size) : Sett n x B W W' := ⟨h.mono hB, fun g _ hl => .inl (h.block g hl)⟩
theorem Sett.ofGe {n : Nat} {x : Value} {w0 W W' : World} (hS : Sett n x w0.heap.size w0 W) (h : Below W.heap.size W W') : Sett n x w0.heap.size W W' := Sett.of h hS.below.size
theorem take_set_list (l : List Value) (m n : Nat) (x : Value) : (l.set n x).take m = (l.take m).set n x := List.take_set
theorem ownsRow_sett {n : Nat} {x : Value} {B : Nat} {W W' : World} {e m : Nat} {v : Value} {ys : List Value} (h : W.ownsRow B e 1 v m ys) (hS : Sett n x B W W') (hy : ys.set n x = ys) : W'.ownsRow B e 1 v m ys := by
  refine ⟨h.1, ?_⟩
  rcases h.2 with h2 | ⟨g, cap, cur, h1, h2, h3, h4, h5, h6, h7⟩
  · exact .inl h2
  · refine .inr ?_
    rcases hS.row g h2 (Array.getElem?_eq_some_iff.1 h3).1 with e1 | ⟨cur', t, e1, e2⟩
    · exact ⟨g, cap, cur, h1, h2, e1.trans h3, h4, h5, h6, h7⟩
    · rw [h3] at e1
      cases e1
      refine ⟨g, cap, _, h1, h2, e2, h4, h5, by simpa using h6, ?_⟩
      rw [Array.toList_setIfInBounds, take_set_list, h7, hy]
theorem Blk.sett {n : Nat} {x : Value} {B : Nat} {W W' : World} {g : Nat} {cs : Array Value} (h : Calm.Blk W g cs) (hS : Sett n x B W W') (hg : B ≤ g) (hy : cs.setIfInBounds n x = cs) : Calm.Blk W' g cs := by
  rcases hS.row g hg h.lt with e1 | ⟨cur, t, e1, e2⟩
  · exact ⟨Nat.lt_of_lt_of_le h.lt hS.below.size, fun i => (World.cell?_of_block (w := W) (a := ⟨g, i, none⟩) e1).trans (h.c i), fun i => (World.frozen?_of_block (w := W) (a := ⟨g, i, none⟩) e1).trans (h.f i)⟩
  · refine ⟨Nat.lt_of_lt_of_le h.lt hS.below.size, fun i => ?_, fun i => ?_⟩
    · have h1 : cur[i]? = cs[i]? := by rw [← h.c i, cell_of_row W g i cur t _ e1]
      rw [cell_of_row W' g i _ t _ e2, Array.getElem?_setIfInBounds]
      have h2 : (cs.setIfInBounds n x)[i]? = cs[i]? := by rw [hy]
      rw [Array.getElem?_setIfInBounds] at h2
      have hsz : (n < cur.size) = (n < cs.size) := by
        have h3 : cur[n]? = cs[n]? := by rw [← h.c n, cell_of_row W g n cur t _ e1]
        apply propext
        constructor
        · intro hh
          rw [Array.getElem?_eq_getElem hh] at h3
          exact (Array.getElem?_eq_some_iff.1 h3.symm).1
        · intro hh
          rw [Array.getElem?_eq_getElem hh] at h3
          exact (Array.getElem?_eq_some_iff.1 h3).1
      split
      · rename_i hni
        rw [if_pos hni] at h2
        split
        · rename_i hlt
          rw [if_pos (by rw [← hsz]; exact hlt)] at h2
          exact h2
        · rename_i hlt
          rw [if_neg (by rw [← hsz]; exact hlt)] at h2
          exact h2
      · exact h1
    · have h1 := h.f i
      unfold World.frozen? at h1 ⊢
      simp only [e1] at h1
      simp only [e2]
      exact h1
/-- One value appended onto a row of the region's own. -/
theorem append_sett {P : Program} (B : Nat) (t ty e : TypeId) (i : TypeInfo) (z : Value) (bytes : Nat) (ht : P.underlying t = some (.slice e)) (hi : P.info? e = some i) (hz : i.zero = some z) (hsize : i.size = 1) (hby : i.bytes = bytes) (hzs : z.cells.size = 1)
    (u : Value) (n : Nat) (xs : List Value) (x : Value) (h1 : x.oneCell' = true) (W : World) (hown : W.ownsRow B e 1 u n xs) (hb : B ≤ W.heap.size) (h63 : n + 1 ≤ maxLen) (hbytes : (n + 1) * bytes ≤ 140737488355328) (b c : Nat) (hx : W.cell? ⟨b, 0, none⟩ = some x) :
    ∃ v' W', (Builtin.append_ #[t, t] ty #[u, .slice (some ⟨b, 0, none⟩) 1 c]).run P W = .ok v' W' ∧ W'.ownsRow B e 1 v' (n + 1) (xs ++ [x]) ∧ Sett n x B W W' := by
  have hadd : ∀ j v, [x][j]? = some v → W.cell? ((⟨b, 0, none⟩ : Addr).add j) = some v := by
    intro j v hj
    match j, hj with
    | 0, hj => simp at hj; subst hj; simpa [Addr.add] using hx
  have hone : ∀ v ∈ [x], v.oneCell' = true := fun v hv => by simp at hv; subst hv; exact h1
  obtain ⟨v', W', r1, r2, r3, _, r5⟩ := run_append_own_at (P := P) W B t ty e i z 1 bytes ht hi hz hsize hby hzs (by decide) u n xs hown ⟨b, 0, none⟩ 1 c [x] rfl hadd hone h63 hbytes hb
  refine ⟨v', W', r1, r2, ?_⟩
  rcases hown.2 with ⟨hu, hn0⟩ | ⟨g, cap, cur, hu, hbg, hg, hnc, hcm, hcs, htake⟩
  · have hun : u.ownBlock = none := by rw [hu]; rfl
    rw [hun] at r3
    exact Sett.of ⟨r3.os, r3.tape, r3.output, r3.size, fun k hk => r3.block k hk (by simp)⟩ hb
  · have hun : u.ownBlock = some g := by rw [hu]; rfl
    by_cases hroom : n + 1 ≤ cap
    · have hrun := run_append_room (P := P) W t ty e i ht hi g n cap cur hg ⟨b, 0, none⟩ 1 c [x] (by rw [hsize]; rfl) hadd hone hroom (by rw [hsize, hcs]; simp; omega)
      rw [hsize, Nat.mul_one, show n + [x].length = n + 1 from rfl, ← hu, r1] at hrun
      injection hrun with q1 q2
      have hh := setRow_heap W g cur (cur.toList.take n ++ [x] ++ cur.toList.drop (n + 1)).toArray e (0, 0) hg
      rw [← q2] at hh
      have hset : (cur.toList.take n ++ [x] ++ cur.toList.drop (n + 1)).toArray = cur.setIfInBounds n x := by
        apply Array.toList_inj.1
        rw [Array.toList_setIfInBounds, List.set_eq_take_append_cons_drop]
        rw [if_pos (by simp; omega)]
        simp
      rw [hset] at hh
      refine ⟨⟨r3.os, r3.tape, r3.output, r3.size, fun k hk => r3.block k (by omega) (by rw [hun]; simp; omega)⟩, fun k hk hl => ?_⟩
      by_cases hkg : k = g
      · subst hkg
        exact .inr ⟨cur, e, hg, hh⟩
      · exact .inl (r3.block k hl (by rw [hun]; simpa using hkg))
    · have hcell : ∀ j v, xs[j]? = some v → W.cell? ((⟨g, 0, none⟩ : Addr).add j) = some v := hown.cells (g := g) (by rw [hun])
      have hgr := run_append_grow (P := P) W t ty e i z ht hi hz ⟨g, 0, none⟩ n cap xs (by rw [hown.1, hsize]) hcell ⟨b, 0, none⟩ 1 c [x] (by rw [hsize]; rfl) hadd (by omega) (by simp only [maxLen] at h63; omega) (growslice_fits (by omega) (by rw [hby]; exact hbytes))
      rw [← hu, r1] at hgr
      injection hgr with q1 q2
      have hW : ∀ k, k < W.heap.size → W'.heap[k]? = W.heap[k]? := fun k hk => by rw [q2]; exact Below.heap_alloc _ _ _ hk
      exact Sett.of ⟨r3.os, r3.tape, r3.output, r3.size, hW⟩ hb
namespace RelH
open Rel (ons)
variable {S : World → World → Prop} {P : Program} {DS : List Tmp} {w0 : World} {a0 : Act} {U : Ctx → Prop} {Γ : Ctx} {o : Oper} {rest : List Oper}
/-- A call, by a contract. -/
theorem callR3 (R : DK) (hs : Stable S R) (hl : Loc o R) (hof : ∀ W W', S w0 W → Below W.heap.size W W' → S W W') (hg : GOK3 Γ o)
    (h : ∀ (a : Act) (W : World) (x : Nat → Value), S w0 W → deps x Γ a W (ons o) → (∀ t, t ∉ DS → a.eval (.tmp t) = a0.eval (.tmp t)) → ∃ f args, (execOp a.eval o).run P W = .ok (.enter f args) W ∧ Calls P f args W fun e W' => ∃ v, e = .returned v ∧ R x v W' ∧ Below W.heap.size W W')
    (hn : walk3 S P DS w0 a0 U (Γ ++ [(o.dst, R)]) rest) : walk3 S P DS w0 a0 U Γ (o :: rest) :=
  ⟨R, hs, hl, hg, fun a W x hb hd hbase K Q hK => by
    obtain ⟨f, args, hrun, hc⟩ := h a W x hb hd hbase
    unfold Oper.wp
    rw [hrun]
    simp only [Oper.upon]
    refine hc.mono ?_
    rintro e W' ⟨v, rfl, hR, hbb⟩
    exact hK v W' hR (hof W W' hb hbb), hn⟩
/-- One operation that only reads, of whose result R is known. -/
theorem opR3 (hr : ∀ W, S W W) (R : DK) (hs : Stable S R) (hl : Loc o R) (hg : GOK3 Γ o)
    (h : ∀ (a : Act) (W : World) (x : Nat → Value), S w0 W → deps x Γ a W (ons o) → (∀ t, t ∉ DS → a.eval (.tmp t) = a0.eval (.tmp t)) → ∃ v, (execOp a.eval o).run P W = .ok (.value v) W ∧ R x v W)
    (hn : walk3 S P DS w0 a0 U (Γ ++ [(o.dst, R)]) rest) : walk3 S P DS w0 a0 U Γ (o :: rest) :=
  opW3 R hs hl hg (fun a W x hb hd hbase => by
    obtain ⟨v, h1, h2⟩ := h a W x hb hd hbase
    exact ⟨v, W, h1, h2, hr W⟩) hn
end RelH
end Go.Proofs.YtdeapbihbhoefaaDoor

/- (search).visit where nothing is left to visit: the louder of what is best so far and a list. -/
namespace Go.Proofs.YtdeapbihbhoefaaDoor
open Go.RowKit
open Calm (bcell Blk)

/-- all that lay is as it was, but for one block. -/
structure But (sb : Nat) (w w' : World) : Prop where
  os : w'.os = w.os
  tape : w'.tape = w.tape
  output : w'.output = w.output
  size : w.heap.size ≤ w'.heap.size
  block : ∀ k, Rest sb w.heap.size k → w'.heap[k]? = w.heap[k]?
theorem But.refl (sb : Nat) (w : World) : But sb w w := ⟨rfl, rfl, rfl, Nat.le_refl _, fun _ _ => rfl⟩
theorem But.trans {sb : Nat} {a b c : World} (h : But sb a b) (k : But sb b c) : But sb a c :=
  ⟨k.os.trans h.os, k.tape.trans h.tape, k.output.trans h.output, Nat.le_trans h.size k.size, fun i hi => (k.block i ⟨Nat.lt_of_lt_of_le hi.1 h.size, hi.2⟩).trans (h.block i hi)⟩
theorem But.of {sb : Nat} {w w' : World} (h : Below w.heap.size w w') : But sb w w' := ⟨h.os, h.tape, h.output, h.size, fun k hk => h.block k hk.1⟩
theorem But.drawn {sb : Nat} (w : World) : But sb w { w with drawn := w.drawn + 1 } := ⟨rfl, rfl, rfl, Nat.le_refl _, fun _ _ => rfl⟩
theorem But.put {sb : Nat} (w : World) (i : Nat) (v : Value) : But sb w (w.setCell ⟨sb, i, none⟩ v) := ⟨rfl, rfl, rfl, by simp [World.setCell], fun k hk => Below.heap_setCell _ _ _ _ hk.2⟩
theorem But.below {sb B : Nat} {w w' : World} (h : But sb w w') (h1 : B ≤ sb) (h2 : B ≤ w.heap.size) : Below B w w' := ⟨h.os, h.tape, h.output, h.size, fun k hk => h.block k ⟨by omega, by omega⟩⟩
theorem Cells.but {w w' : World} {A : Option Addr} {zs : List Int} {sb : Nat} (h : Cells w A zs) (ho : Off sb A) (hW : But sb w w') : Cells w' A zs := h.rest ho hW.block
theorem Lim.but {w w' : World} {sb : Nat} (h : Lim w) (hs : sb ≠ 0) (hW : But sb w w') : Lim w' := h.rest hs hW.block
theorem blk_but {w w' : World} {g sb : Nat} {cs : Array Value} (h : Blk w g cs) (hg : g ≠ sb) (hW : But sb w w') : Blk w' g cs := h.of_block (hW.block g ⟨h.lt, hg⟩)

/-- the louder of what is best so far and a list. -/
def updB (b : Option (List Int)) (l : List Int) : Option (List Int) := match b with
  | none => some l
  | some b' => if enF b' < enF l then some l else some b'
/-- the best list of all that n further outputs make. -/
def visF (lk ht rc : Int) (ts ls : List Int) : Nat → List Int → St → Option (List Int) → Option (List Int)
  | 0, l, _, b => updB b l
  | n + 1, l, s, b => (keptK lk ht rc ts s ls ls.length).foldl (fun b x => visF lk ht rc ts ls n (l ++ [x.1]) x.2 b) b
/-- a search, in its block. -/
def SB (lk ht rc : Int) (A1 A2 A5 : Option Addr) (M c1 L c2 N c5 : Nat) (sb : Nat) (b : Option (List Int)) (w : World) : Prop :=
  ∃ B d, Blk w sb #[(.int .i64 (lk)), (.int .i64 (ht)), .slice A1 M c1, (.int .i64 (rc)), .slice A2 L c2, .slice A5 N c5, .slice B (b.getD []).length d, (.int .i64 (enF (b.getD []))), .bool b.isSome] ∧ Cells w B (b.getD []) ∧ Off sb B
theorem SB.of {lk ht rc : Int} {A1 A2 A5 : Option Addr} {M c1 L c2 N c5 sb : Nat} {b : Option (List Int)} {w w' : World} (h : SB lk ht rc A1 A2 A5 M c1 L c2 N c5 sb b w) (hb : Below w.heap.size w w') : SB lk ht rc A1 A2 A5 M c1 L c2 N c5 sb b w' := by
  obtain ⟨B, d, h1, h2, h3⟩ := h
  exact ⟨B, d, h1.below hb, h2.below hb, h3⟩

/-- worlds that turn in one block alone, in its cells 6 and 7. -/
structure SetR (sb n : Nat) (l : List Int) (E : Int) (W W' : World) : Prop where
  but : But sb W W'
  rest : ∀ i, i ≠ 6 → i ≠ 7 → W'.cell? ⟨sb, i, none⟩ = W.cell? ⟨sb, i, none⟩
  fr : ∀ i, W'.frozen? ⟨sb, i, none⟩ = W.frozen? ⟨sb, i, none⟩
  c6 : W'.cell? ⟨sb, 6, none⟩ = W.cell? ⟨sb, 6, none⟩ ∨ ∃ B d, W'.cell? ⟨sb, 6, none⟩ = some (.slice B n d) ∧ Cells W' B l ∧ Off sb B
  c7 : W'.cell? ⟨sb, 7, none⟩ = W.cell? ⟨sb, 7, none⟩ ∨ W'.cell? ⟨sb, 7, none⟩ = some (.int .i64 (E))
theorem SetR.refl {sb n : Nat} {l : List Int} {E : Int} (W : World) : SetR sb n l E W W := ⟨But.refl _ _, fun _ _ _ => rfl, fun _ => rfl, .inl rfl, .inl rfl⟩
theorem SetR.trans {sb n : Nat} {l : List Int} {E : Int} (a b c : World) (h : SetR sb n l E a b) (k : SetR sb n l E b c) : SetR sb n l E a c := by
  refine ⟨h.but.trans k.but, fun i h1 h2 => (k.rest i h1 h2).trans (h.rest i h1 h2), fun i => (k.fr i).trans (h.fr i), ?_, ?_⟩
  · rcases k.c6 with e | e
    · rcases h.c6 with e' | ⟨B, d, e1, e2, e3⟩
      · exact .inl (e.trans e')
      · exact .inr ⟨B, d, e.trans e1, e2.but e3 k.but, e3⟩
    · exact .inr e
  · rcases k.c7 with e | e
    · rcases h.c7 with e' | e'
      · exact .inl (e.trans e')
      · exact .inr (e.trans e')
    · exact .inr e
theorem SetR.drawn {sb n : Nat} {l : List Int} {E : Int} (W : World) : SetR sb n l E W { W with drawn := W.drawn + 1 } := ⟨But.drawn W, fun _ _ _ => rfl, fun _ => rfl, .inl rfl, .inl rfl⟩
theorem SetR.of {sb n : Nat} {l : List Int} {E : Int} {W W' : World} (h : Below W.heap.size W W') (hs : sb < W.heap.size) : SetR sb n l E W W' :=
  ⟨But.of h, fun i _ _ => h.cell (p := ⟨sb, i, none⟩) hs, fun i => h.frozen (p := ⟨sb, i, none⟩) hs, .inl (h.cell (p := ⟨sb, 6, none⟩) hs), .inl (h.cell (p := ⟨sb, 7, none⟩) hs)⟩
def IsB (sb n : Nat) (l : List Int) (W : World) : Prop := ∃ B d, W.cell? ⟨sb, 6, none⟩ = some (.slice B n d) ∧ Cells W B l ∧ Off sb B
theorem IsB.stays {sb n : Nat} {l : List Int} {E : Int} (W W' : World) (h : IsB sb n l W) (hS : SetR sb n l E W W') : IsB sb n l W' := by
  rcases hS.c6 with e | e
  · obtain ⟨B, d, h1, h2, h3⟩ := h
    exact ⟨B, d, e.trans h1, h2.but h3 hS.but, h3⟩
  · exact e
def IsE (sb : Nat) (E : Int) (W : World) : Prop := W.cell? ⟨sb, 7, none⟩ = some (.int .i64 (E))
theorem IsE.stays {sb n : Nat} {l : List Int} {E : Int} (W W' : World) (h : IsE sb E W) (hS : SetR sb n l E W W') : IsE sb E W' := by
  rcases hS.c7 with e | e
  · exact e.trans h
  · exact e
theorem SetR.has6 {sb n : Nat} {l : List Int} {E : Int} {W W' : World} (hS : SetR sb n l E W W') {u : Value} (h : W.cell? ⟨sb, 6, none⟩ = some u) : ∃ u, W'.cell? ⟨sb, 6, none⟩ = some u := by
  rcases hS.c6 with e | ⟨B, d, e, _⟩
  · exact ⟨u, e.trans h⟩
  · exact ⟨_, e⟩
theorem SetR.has7 {sb n : Nat} {l : List Int} {E : Int} {W W' : World} (hS : SetR sb n l E W W') {u : Value} (h : W.cell? ⟨sb, 7, none⟩ = some u) : ∃ u, W'.cell? ⟨sb, 7, none⟩ = some u := by
  rcases hS.c7 with e | e
  · exact ⟨u, e.trans h⟩
  · exact ⟨_, e⟩
theorem SetR.blk {sb n : Nat} {l : List Int} {E : Int} {W W' : World} {a0 a1 a2 a3 a4 a5 u6 u7 u8 v6 v7 : Value} (hS : SetR sb n l E W W') (h : Blk W sb #[a0, a1, a2, a3, a4, a5, u6, u7, u8]) (h6 : W'.cell? ⟨sb, 6, none⟩ = some v6) (h7 : W'.cell? ⟨sb, 7, none⟩ = some v7) :
    Blk W' sb #[a0, a1, a2, a3, a4, a5, v6, v7, u8] := by
  refine ⟨Nat.lt_of_lt_of_le h.lt hS.but.size, fun i => ?_, fun i => (hS.fr i).trans (h.f i)⟩
  by_cases e6 : i = 6
  · subst e6; exact h6
  · by_cases e7 : i = 7
    · subst e7; exact h7
    · rw [hS.rest i e6 e7, h.c i]
      rcases Nat.lt_or_ge i 9 with h9 | h9
      · have : i = 0 ∨ i = 1 ∨ i = 2 ∨ i = 3 ∨ i = 4 ∨ i = 5 ∨ i = 8 := by omega
        rcases this with rfl | rfl | rfl | rfl | rfl | rfl | rfl <;> rfl
      · rw [Array.getElem?_eq_none (by simpa using h9), Array.getElem?_eq_none (by simpa using h9)]
theorem ne_off {sb i j : Nat} (h : i ≠ j) : (⟨sb, i, none⟩ : Addr) ≠ ⟨sb, j, none⟩ := fun e => h (by cases e; rfl)
theorem SetR.put6 {sb n : Nat} {l : List Int} {E : Int} {W : World} {u : Value} {B : Option Addr} {d : Nat} (hu : W.cell? ⟨sb, 6, none⟩ = some u) (hC : Cells W B l) (ho : Off sb B) :
    IsB sb n l (W.setCell ⟨sb, 6, none⟩ (.slice B n d)) ∧ SetR sb n l E W (W.setCell ⟨sb, 6, none⟩ (.slice B n d)) := by
  have h6 := World.cell?_setCell_same W _ (.slice B n d) hu
  have hC' : Cells (W.setCell ⟨sb, 6, none⟩ (.slice B n d)) B l := hC.but ho (But.put W 6 _)
  exact ⟨⟨B, d, h6, hC', ho⟩, But.put W 6 _, fun i h1 _ => World.cell?_setCell_other W _ _ _ (ne_off (by omega)), fun j => World.frozen?_setCell .., .inr ⟨B, d, h6, hC', ho⟩, .inl (World.cell?_setCell_other W _ _ _ (ne_off (by omega)))⟩
theorem SetR.put7 {sb n : Nat} {l : List Int} {E : Int} {W : World} {u : Value} (hu : W.cell? ⟨sb, 7, none⟩ = some u) :
    IsE sb E (W.setCell ⟨sb, 7, none⟩ (.int .i64 (E))) ∧ SetR sb n l E W (W.setCell ⟨sb, 7, none⟩ (.int .i64 (E))) := by
  have h7 := World.cell?_setCell_same W _ (.int .i64 (E)) hu
  exact ⟨h7, But.put W 7 _, fun i _ h2 => World.cell?_setCell_other W _ _ _ (ne_off (by omega)), fun j => World.frozen?_setCell .., .inl (World.cell?_setCell_other W _ _ _ (ne_off (by omega))), .inr h7⟩

namespace RelG
open Rel (Know Ctx deps facts ons GOK3)
variable {S : World → World → Prop} {P : Program} {DS : List Tmp} {w0 : World} {a0 : Act} {T : Ctx → Prop} {Γ : Ctx} {o : Oper} {rest : List Oper}
/-- A call of whose result R is known. -/
theorem callR3 (R : Know) (hs : Stable S R) (hof : ∀ W W', S w0 W → Below W.heap.size W W' → S W W') (hg : GOK3 Γ o)
    (h : ∀ (a : Act) (W : World), S w0 W → deps Γ a W (ons o) → (∀ t, t ∉ DS → a.eval (.tmp t) = a0.eval (.tmp t)) → ∃ f args, (execOp a.eval o).run P W = .ok (.enter f args) W ∧ Calls P f args W fun e W' => ∃ v, e = .returned v ∧ R v W' ∧ Below W.heap.size W W')
    (hn : walk3 S P DS w0 a0 T (Γ ++ [(o.dst, R)]) rest) : walk3 S P DS w0 a0 T Γ (o :: rest) :=
  ⟨R, hs, hg, fun a W hb hd hbase K Q hK => by
    obtain ⟨f, args, hrun, hc⟩ := h a W hb hd hbase
    unfold Oper.wp
    rw [hrun]
    simp only [Oper.upon]
    refine hc.mono ?_
    rintro e W' ⟨v, rfl, hR, hbb⟩
    exact hK v W' hR (hof W W' hb hbb), hn⟩
end RelG

set_option maxHeartbeats 4000000 in
set_option maxRecDepth 100000 in
theorem visit_zero (lk ht rc : Int) (s : St) (l : List Int) (b : Option (List Int)) (A1 A2 A3 A5 A6 : Option Addr) (M L Q N K c1 c2 c3 c5 c6 : Nat) (sb : Nat) (w : World) (hK : K = l.length) (hK2 : K ≤ 5000) (hX : Cells w A6 l) (hl : inB 2048 l) (hS : SB lk ht rc A1 A2 A5 M c1 L c2 N c5 sb b w) (o6 : Off sb A6) :
    Calls Tryd.prog 94 #[.pointer (some ⟨sb, 0, none⟩), .slice A6 K c6, .agg #[(.int .i64 (s.h)), (.int .i64 ((s.lv : Int))), .slice A3 Q c3], (.int .i64 (0))] w fun r w' => r = .returned (.tuple #[]) ∧ SB lk ht rc A1 A2 A5 M c1 L c2 N c5 sb (updB b l) w' ∧ But sb w w' := by
  have HEN : Hid (∀ W, Cells W A6 l → Calls Tryd.prog 96 #[.slice A6 K c6] W fun r w' => r = .returned (.int .i64 (enF l)) ∧ W = w') := Lib.hid (fun W q => by rw [hK]; exact energy_any l A6 c6 W q hl (by omega))
  have HCL : Hid (∀ W, Cells W A6 l → Calls Tryd.prog 105 #[.slice A6 K c6] W fun r w' => (∃ B d, r = .returned (.slice B K d) ∧ w'.ownsRow W.heap.size 3 1 (.slice B K d) K (l.map (Value.int .i64))) ∧ Below W.heap.size W w') := Lib.hid (fun W q => clone_any l A6 K c6 W hK q hK2)
  have HX := Lib.hid hX
  have HO6 := Lib.hid o6
  have HK := Lib.hid hK
  obtain ⟨B0, d0, K0, hCB, hOB⟩ := hS
  have HK0 := Lib.hid K0
  have HU : Hid ((b = none ∨ enF (b.getD []) < enF l → updB b l = some l) ∧ (b.isSome = true → ¬ enF (b.getD []) < enF l → updB b l = b)) := Lib.hid (by
    cases b with
    | none => exact ⟨fun _ => rfl, fun h => by cases h⟩
    | some b' => exact ⟨fun h => if_pos (by rcases h with h | h; cases h; exact h), fun _ h => if_neg h⟩)
  have HST : Hid (∀ w', But sb w w' → Blk w' sb #[(.int .i64 (lk)), (.int .i64 (ht)), .slice A1 M c1, (.int .i64 (rc)), .slice A2 L c2, .slice A5 N c5, .slice B0 (b.getD []).length d0, (.int .i64 (enF (b.getD []))), .bool b.isSome] → SB lk ht rc A1 A2 A5 M c1 L c2 N c5 sb b w') := Lib.hid (fun w' hw hk => ⟨B0, d0, hk, hCB.but hOB hw, hOB⟩)
  have HFN : Hid (b = none ∨ b.isSome = true) := Lib.hid (by cases b; exact .inl rfl; exact .inr rfl)
  have HF0 : Hid (b = none → b.isSome = false) := Lib.hid (by rintro rfl; rfl)
  obtain ⟨E, hE⟩ : ∃ E, E = enF l := ⟨_, rfl⟩
  obtain ⟨E0, hE0⟩ : ∃ E0, E0 = enF (b.getD []) := ⟨_, rfl⟩
  obtain ⟨n0, hn0⟩ : ∃ n0, n0 = (b.getD []).length := ⟨_, rfl⟩
  obtain ⟨F, hF⟩ : ∃ F, F = b.isSome := ⟨_, rfl⟩
  have HE := Lib.hid hE
  rw [← hE] at HEN HU
  rw [← hE0] at HU HST HK0
  rw [← hn0] at HST HK0
  rw [← hF] at HU HST HK0 HFN HF0
  obtain ⟨c00, c01, c02, c03, c04, c05, c06, c07, c08, l0, f0⟩ := HK0.out.o9
  clear hE hE0 hn0 hF hK hX hl o6 K0 hCB
  have sl1 : sb < w.heap.size + 1 := by omega
  have sl2 : sb < w.heap.size + 1 + 1 := by omega
  have sl3 : sb < w.heap.size + 1 + 1 + 1 := by omega
  have hcase : ((F = false ∨ F = true ∧ E0 < E) ∧ updB b l = some l) ∨ (F = true ∧ ¬ E0 < E ∧ updB b l = b) := by
    rcases HFN.out with h | h
    · exact .inl ⟨.inl (HF0.out h), HU.out.1 (.inl h)⟩
    · by_cases h2 : E0 < E
      · exact .inl ⟨.inr ⟨h, h2⟩, HU.out.1 (.inr h2)⟩
      · exact .inr ⟨h, h2, HU.out.2 h h2⟩
  rcases hcase with ⟨hF, hu⟩ | ⟨rfl, hlt, hu⟩
  · rw [hu]
    clear HU HST HFN HF0 hu
    rcases hF with rfl | ⟨rfl, hlt⟩
    all_goals (
      go_enter Tryd.func94, Tryd.ntmps94
      go_wp2_with (go_at_call 96; refine (HEN.out _ (HX.out.below (by (repeat (first | (with_reducible exact Below.refl _ _) | ((with_reducible refine Below.setCell ?_ ?_ _); rotate_left 1; focus (first | (simp; done) | (simp; omega) | (simp at *; omega))) | ((with_reducible refine Below.alloc ?_ ?_ _); rotate_left 1; focus (first | (simp; done) | (simp; omega) | (simp at *; omega))) | (with_reducible refine Below.drew ?_) | ((with_reducible refine Calm.step (by assumption) ?_ ?_); rotate_left 1; focus (first | (simp; done) | (simp; omega) | (simp at *; omega)))))))).mono ?_; rintro r w1 ⟨rfl, rfl⟩)
      refine name_world ?_
      intro w4 e4
      have KS := (show Blk w4 sb _ from by rw [e4]; exact HK0.out.below (by (repeat (first | (with_reducible exact Below.refl _ _) | ((with_reducible refine Below.setCell ?_ ?_ _); rotate_left 1; focus (first | (simp; done) | (simp; omega) | (simp at *; omega))) | ((with_reducible refine Below.alloc ?_ ?_ _); rotate_left 1; focus (first | (simp; done) | (simp; omega) | (simp at *; omega))) | (with_reducible refine Below.drew ?_) | ((with_reducible refine Calm.step (by assumption) ?_ ?_); rotate_left 1; focus (first | (simp; done) | (simp; omega) | (simp at *; omega)))))))
      have P4 : Blk w4 w.heap.size #[.pointer (some ⟨sb, 0, none⟩)] := by rw [e4]; (repeat (first | ((with_reducible refine Blk.at_ ?_); focus (first | rfl | (simp; done) | (simp; omega))) | (with_reducible refine Blk.alloc ?_ _) | (with_reducible refine Blk.below ?_ (by with_reducible assumption)) | (with_reducible refine Blk.drew ?_)))
      have P5 : Blk w4 (w.heap.size + 1) #[.slice A6 K c6] := by rw [e4]; (repeat (first | ((with_reducible refine Blk.at_ ?_); focus (first | rfl | (simp; done) | (simp; omega))) | (with_reducible refine Blk.alloc ?_ _) | (with_reducible refine Blk.below ?_ (by with_reducible assumption)) | (with_reducible refine Blk.drew ?_)))
      have HX4 := Lib.hid (show Cells w4 A6 l from by rw [e4]; exact HX.out.below (by (repeat (first | (with_reducible exact Below.refl _ _) | ((with_reducible refine Below.setCell ?_ ?_ _); rotate_left 1; focus (first | (simp; done) | (simp; omega) | (simp at *; omega))) | ((with_reducible refine Below.alloc ?_ ?_ _); rotate_left 1; focus (first | (simp; done) | (simp; omega) | (simp at *; omega))) | (with_reducible refine Below.drew ?_) | ((with_reducible refine Calm.step (by assumption) ?_ ?_); rotate_left 1; focus (first | (simp; done) | (simp; omega) | (simp at *; omega)))))))
      have HB4 := Lib.hid (show But sb w w4 from by rw [e4]; exact But.of (by (repeat (first | (with_reducible exact Below.refl _ _) | ((with_reducible refine Below.setCell ?_ ?_ _); rotate_left 1; focus (first | (simp; done) | (simp; omega) | (simp at *; omega))) | ((with_reducible refine Below.alloc ?_ ?_ _); rotate_left 1; focus (first | (simp; done) | (simp; omega) | (simp at *; omega))) | (with_reducible refine Below.drew ?_) | ((with_reducible refine Calm.step (by assumption) ?_ ?_); rotate_left 1; focus (first | (simp; done) | (simp; omega) | (simp at *; omega)))))))
      clear e4 c00 c01 c02 c03 c04 c05 c06 c07 c08 f0
      have HKS := Lib.hid KS
      have ls := KS.lt
      have hTC : Hid (∀ W, SetR sb K l E w4 W → (∀ o, W.cell? ⟨w.heap.size, o, none⟩ = w4.cell? ⟨w.heap.size, o, none⟩) ∧ (∀ o, W.cell? ⟨w.heap.size + 1, o, none⟩ = w4.cell? ⟨w.heap.size + 1, o, none⟩)) := Lib.hid (fun W hS =>
        ⟨fun o => World.cell?_of_block (w := w4) (a := ⟨w.heap.size, o, none⟩) (hS.but.block _ ⟨P4.lt, (show w.heap.size ≠ sb from by omega)⟩), fun o => World.cell?_of_block (w := w4) (a := ⟨w.heap.size + 1, o, none⟩) (hS.but.block _ ⟨P5.lt, (show w.heap.size + 1 ≠ sb from by omega)⟩)⟩)
      obtain ⟨p4, p4l, p4f⟩ := P4.o1
      obtain ⟨p5, p5l, p5f⟩ := P5.o1
      clear KS P4 P5
      (try simp only [Act.put, List.setIfInBounds_toArray, List.set_cons_zero, List.set_cons_succ])
      refine RelG.region3 (S := SetR sb K l E) SetR.trans SetR.drawn 14 (by kernel_rfl) (by kernel_rfl) (by kernel_rfl) ?_
      simp only [List.take_succ_cons, List.take_zero, List.drop_succ_cons, List.drop_zero, List.filterMap_cons, List.filterMap_nil]
      iterate 4 (apply RelG.op3 SetR.refl; (focus (first | exact Rel.gno rfl | exact Rel.gyes _ true _ rfl rfl rfl | exact Rel.gyes _ false _ rfl rfl rfl)); (focus (intro a W hb hd hbase; obtain ⟨hc4, hc5⟩ := hTC.out W hb; clear hb; simp [Rel.deps, Rel.dep1, Rel.ons, Region.binds, Act.eval] at hd; simp only [Act.eval, List.mem_cons, List.not_mem_nil, not_or, and_imp, or_false, Array.getD_eq_getD_getElem?] at hbase; go_simp; (try go_bits); (try rfl); done)); (try simp only [List.nil_append, List.cons_append]))
      refine RelG.callR3 (fun u W => ∃ B d, u = .slice B K d ∧ Cells W B l ∧ Off sb B) (fun u W W' h hS => by
        obtain ⟨B, d, h1, h2, h3⟩ := h
        exact ⟨B, d, h1, h2.but h3 hS.but, h3⟩) (fun W W' hS hb => SetR.of hb (Nat.lt_of_lt_of_le ls hS.but.size)) (Rel.gno rfl) ?_ ?_
      · intro a W hb hd hbase
        refine ⟨105, #[.slice A6 K c6], ?_, (HCL.out W (HX4.out.but HO6.out hb.but)).mono ?_⟩
        · clear hb
          simp [Rel.deps, Rel.dep1, Rel.ons, Region.binds, Act.eval] at hd; simp only [Act.eval, List.mem_cons, List.not_mem_nil, not_or, and_imp, or_false, Array.getD_eq_getD_getElem?] at hbase
          go_simp
          (first | done | rfl | (refine ⟨?_, ?_⟩ <;> rfl))
        · rintro e W' ⟨⟨B, d, rfl, ho⟩, hbb⟩
          obtain ⟨B', d', e1, hge, hcc⟩ := own_ints ho HK.out
          cases e1
          refine ⟨_, rfl, ⟨B, d, rfl, hcc, fun p hp => ?_⟩, hbb⟩
          have h1 := hge p hp
          have h2 := hb.but.size
          omega
      (try simp only [List.nil_append, List.cons_append])
      iterate 3 (apply RelG.op3 SetR.refl; (focus (first | exact Rel.gno rfl | exact Rel.gyes _ true _ rfl rfl rfl | exact Rel.gyes _ false _ rfl rfl rfl)); (focus (intro a W hb hd hbase; obtain ⟨hc4, hc5⟩ := hTC.out W hb; clear hb; simp [Rel.deps, Rel.dep1, Rel.ons, Region.binds, Act.eval] at hd; simp only [Act.eval, List.mem_cons, List.not_mem_nil, not_or, and_imp, or_false, Array.getD_eq_getD_getElem?] at hbase; go_simp; (try go_bits); (try rfl); done)); (try simp only [List.nil_append, List.cons_append]))
      refine RelG.store3 (IsB sb K l) IsB.stays (Rel.gno rfl) ?_ ?_
      · intro a W hb hd hbase
        obtain ⟨u6, hu6⟩ := hb.has6 (HKS.out.cell 6 _ rfl)
        have hf6 := (hb.fr 6).trans (HKS.out.f 6)
        clear hb
        simp [Rel.deps, Rel.dep1, Rel.ons, Region.binds, Act.eval] at hd
        obtain ⟨h35, ⟨B, ⟨d, h32⟩, hcc, hoo⟩, _⟩ := hd
        obtain ⟨r1, r2⟩ := SetR.put6 (n := K) (l := l) (E := E) (d := d) hu6 hcc hoo
        refine ⟨_, ?_, r1, r2⟩
        clear r1 r2 hcc
        go_simp
      (try simp only [List.nil_append, List.cons_append])
      iterate 2 (apply RelG.op3 SetR.refl; (focus (first | exact Rel.gno rfl | exact Rel.gyes _ true _ rfl rfl rfl | exact Rel.gyes _ false _ rfl rfl rfl)); (focus (intro a W hb hd hbase; obtain ⟨hc4, hc5⟩ := hTC.out W hb; clear hb; simp [Rel.deps, Rel.dep1, Rel.ons, Region.binds, Act.eval] at hd; simp only [Act.eval, List.mem_cons, List.not_mem_nil, not_or, and_imp, or_false, Array.getD_eq_getD_getElem?] at hbase; go_simp; (try go_bits); (try rfl); done)); (try simp only [List.nil_append, List.cons_append]))
      refine RelG.store3 (IsE sb E) IsE.stays (Rel.gno rfl) ?_ ?_
      · intro a W hb hd hbase
        obtain ⟨u7, hu7⟩ := hb.has7 (HKS.out.cell 7 _ rfl)
        have hf7 := (hb.fr 7).trans (HKS.out.f 7)
        clear hb
        simp [Rel.deps, Rel.dep1, Rel.ons, Region.binds, Act.eval] at hd
        obtain ⟨r1, r2⟩ := SetR.put7 (n := K) (l := l) (E := E) hu7
        refine ⟨_, ?_, r1, r2⟩
        clear r1 r2
        obtain ⟨h37, h33, -⟩ := hd
        go_simp
      (try simp only [List.nil_append, List.cons_append])
      iterate 2 (apply RelG.op3 SetR.refl; (focus (first | exact Rel.gno rfl | exact Rel.gyes _ true _ rfl rfl rfl | exact Rel.gyes _ false _ rfl rfl rfl)); (focus (intro a W hb hd hbase; obtain ⟨hc4, hc5⟩ := hTC.out W hb; clear hb; simp [Rel.deps, Rel.dep1, Rel.ons, Region.binds, Act.eval] at hd; simp only [Act.eval, List.mem_cons, List.not_mem_nil, not_or, and_imp, or_false, Array.getD_eq_getD_getElem?] at hbase; go_simp; (try go_bits); (try rfl); done)); (try simp only [List.nil_append, List.cons_append]))
      refine RelG.done3 ?_
      intro x w5 hS hx
      simp only [Rel.facts, Nat.zero_add, Nat.reduceAdd] at hx
      obtain ⟨e0, e1, e2, e3, ⟨B, d, e4, -, -⟩, e5, e6, e7, s8, e9, e10, s11, e12, e13, _⟩ := hx
      simp only [RelG.fill, Nat.zero_add, Nat.reduceAdd, e0, e1, e2, e3, e4, e5, e6, e7, e9, e10, e12, e13]
      simp only [Act.put, List.setIfInBounds_toArray, List.set_cons_zero, List.set_cons_succ]
      obtain ⟨B6, d6, z6, hC6, hO6'⟩ := s8
      have K5 := hS.blk HKS.out z6 s11
      have HK5 := Lib.hid K5
      have HB5 := Lib.hid (HB4.out.trans hS.but)
      have HC6 := Lib.hid hC6
      have HO5 := Lib.hid hO6'
      obtain ⟨c00, c01, c02, c03, c04, c05, c06, c07, c08, l5, f5⟩ := K5.o9
      clear hS e0 e1 e2 e3 e4 e5 e6 e7 z6 s11 e9 e10 e12 e13 K5 hC6 hO6' p4 p4l p4f p5 p5l p5f
      go_wp2
      refine bodyPost_ret (v := .tuple #[]) (by simp [results, Tryd.results94, go_sem]) rfl ⟨rfl, ⟨B6, d6, ?_, ?_, HO5.out⟩, HB5.out.trans (But.put w5 8 _)⟩
      · have h8 := HK5.out.set (i := 8) (by simp) (.bool true)
        show Blk _ sb #[(.int .i64 (lk)), (.int .i64 (ht)), .slice A1 M c1, (.int .i64 (rc)), .slice A2 L c2, .slice A5 N c5, .slice B6 l.length d6, (.int .i64 (enF l)), .bool true]
        rw [← HK.out, ← HE.out]
        exact h8
      · exact HC6.out.but HO5.out (But.put w5 8 _))
  · rw [hu]
    go_enter Tryd.func94, Tryd.ntmps94
    go_wp2_with (go_at_call 96; refine (HEN.out _ (HX.out.below (by (repeat (first | (with_reducible exact Below.refl _ _) | ((with_reducible refine Below.setCell ?_ ?_ _); rotate_left 1; focus (first | (simp; done) | (simp; omega) | (simp at *; omega))) | ((with_reducible refine Below.alloc ?_ ?_ _); rotate_left 1; focus (first | (simp; done) | (simp; omega) | (simp at *; omega))) | (with_reducible refine Below.drew ?_) | ((with_reducible refine Calm.step (by assumption) ?_ ?_); rotate_left 1; focus (first | (simp; done) | (simp; omega) | (simp at *; omega)))))))).mono ?_; rintro r w1 ⟨rfl, rfl⟩)
    refine bodyPost_ret (v := .tuple #[]) (by simp [results, Tryd.results94, go_sem]) rfl ?_
    refine ⟨rfl, HST.out _ (But.of ?_) (HK0.out.below ?_), But.of ?_⟩ <;> (repeat (first | (with_reducible exact Below.refl _ _) | ((with_reducible refine Below.setCell ?_ ?_ _); rotate_left 1; focus (first | (simp; done) | (simp; omega) | (simp at *; omega))) | ((with_reducible refine Below.alloc ?_ ?_ _); rotate_left 1; focus (first | (simp; done) | (simp; omega) | (simp at *; omega))) | (with_reducible refine Below.drew ?_) | ((with_reducible refine Calm.step (by assumption) ?_ ?_); rotate_left 1; focus (first | (simp; done) | (simp; omega) | (simp at *; omega)))))
end Go.Proofs.YtdeapbihbhoefaaDoor

/- (search).visit: the best list of all that further outputs make. -/
namespace Go.Proofs.YtdeapbihbhoefaaDoor
open Go.RowKit
open Calm (bcell Blk)

theorem RelH.region3In {S : World → World → Prop} (ht' : ∀ a b c, S a b → S b c → S a c) (hdr : ∀ W, S W { W with drawn := W.drawn + 1 }) {P : Program} {id r m : Nat} {Q : Exit → Act → World → Prop} {a : Act} {w : World} {l : List Oper} (n : Nat) (hm : P.follows .mixedOrders = true) (hd : noDefer l = true) (hQ : ¬ LetsOut Q) (hok : Rel.okB l.toArray n = true) (hsz : Rel.sizeB l.toArray n a.tmps.size = true)
    (h : RelH.walk3 S P ((l.take n).filterMap (·.dst)) w a (fun Γ => ∀ (x : Nat → Value) (W : World), S w W → RelH.facts x W 0 Γ → wpList P l.toArray Q (l.drop n) (RelH.fill (l.take n) 0 x a) W) [] (l.take n)) :
    (Code.region id l.toArray true).wpIn (Fence.wide.inRound r) m P Q a w :=
  wpIn_region_any hm (wpAny_inRound (fun i o hi c hc => by
    unfold noDefer at hd
    rw [List.all_eq_true] at hd
    have := hd o (List.mem_of_getElem? (by simpa using hi))
    rw [hc] at this
    cases this) hQ _ _ _ _ (RelH.region3_w ht' hdr n hok hsz h))

theorem ownsRow_base {w : World} {base base' e size n : Nat} {v : Value} {xs : List Value} (h : w.ownsRow base e size v n xs) (hb : base' ≤ base) : w.ownsRow base' e size v n xs := by
  refine ⟨h.1, ?_⟩
  rcases h.2 with h | ⟨g, cap, cur, h1, h2, h3⟩
  · exact .inl h
  · exact .inr ⟨g, cap, cur, h1, Nat.le_trans hb h2, h3⟩
/-- the contract of visit at n further outputs. -/
def VisC (lk ht rc : Int) (ts gs ls : List Int) (A1 A2 A5 : Option Addr) (M L Q N c1 c2 c5 sb n : Nat) : Prop :=
  ∀ (l : List Int) (s : St) (b : Option (List Int)) (A3 A6 : Option Addr) (K c3 c6 : Nat) (w : World), K = l.length → K + n ≤ 100 → Good ht rc ts gs s → inB 2048 l → Cells w A6 l → Cells w A3 s.ps → Cells w A1 ts → Cells w A5 ls → Lim w →
    SB lk ht rc A1 A2 A5 M c1 L c2 N c5 sb b w → Off sb A6 → Off sb A3 →
    Calls Tryd.prog 94 #[.pointer (some ⟨sb, 0, none⟩), .slice A6 K c6, .agg #[(.int .i64 (s.h)), (.int .i64 ((s.lv : Int))), .slice A3 Q c3], (.int .i64 (n))] w fun r w' => r = .returned (.tuple #[]) ∧ SB lk ht rc A1 A2 A5 M c1 L c2 N c5 sb (visF lk ht rc ts ls n l s b) w' ∧ But sb w w'

theorem cells_grown {X Y : World} {A : Option Addr} {zs : List Int} {row : Option Nat} (h : Cells X A zs) (hg : X.grownBy Y row) (hrow : ∀ r, row = some r → ∃ o : Obj, X.heap[r]? = some o ∧ o.isCells = false) : Cells Y A zs := by
  intro h0
  obtain ⟨b, off, hA, hl, hc⟩ := h h0
  exact ⟨b, off, hA, Nat.lt_of_lt_of_le hl hg.size, fun k hk => cell_kept (hc k hk) hg hrow⟩
theorem heapRow_any (B : Nat) {cs : Array Value} {t : TypeId} {X Y : World} {row : Option Nat} (h : X.heap[B]? = some (.cells cs t (0, 0))) (hg : X.grownBy Y row) (hrow : ∀ r, row = some r → ∃ o : Obj, X.heap[r]? = some o ∧ o.isCells = false) : Y.heap[B]? = some (.cells cs t (0, 0)) :=
  (hg.block B (Array.getElem?_eq_some_iff.1 h).1 (fun e' => by obtain ⟨o, ho, hc⟩ := hrow B e'.symm; rw [h] at ho; cases ho; cases hc)).trans h
theorem sb_own {β : Type} {lk ht rc : Int} {A1 A2 A5 : Option Addr} {M c1 L c2 N c5 sb B : Nat} (f : β → Option (List Int)) (hB : sb < B) : OwnFrom B (fun (s : β) W => SB lk ht rc A1 A2 A5 M c1 L c2 N c5 sb (f s) W) := by
  rintro s X Y row ⟨B0, d, h1, h2, h3⟩ hg hrow
  exact ⟨B0, d, h1.of_block (hg.block sb h1.lt (fun e => by have := (hrow sb e.symm).1; omega)), cells_grown h2 hg (fun r e => (hrow r e).2), h3⟩
theorem but_own {β : Type} (w6 : World) (sb : Nat) : OwnFrom w6.heap.size (fun (_ : β) W => But sb w6 W) := by
  rintro s X Y row h hg hrow
  exact ⟨hg.os.trans h.os, hg.tape.trans h.tape, hg.output.trans h.output, Nat.le_trans h.size hg.size, fun k hk => (hg.block k (Nat.lt_of_lt_of_le hk.1 h.size) (fun e => by have h1 := (hrow k e.symm).1; have h2 := hk.1; omega)).trans (h.block k hk)⟩

set_option maxHeartbeats 4000000 in
set_option maxRecDepth 100000 in
theorem visit_succ (lk ht rc : Int) (ts gs ls : List Int) (A1 A2 A5 : Option Addr) (M L Q N c1 c2 c5 sb n : Nat) (hM : M = ts.length) (hQ : Q + 1 = ts.length) (hN : N = ls.length) (hN2 : N ≤ 5000) (hV : Valid lk ht rc ts gs) (hls : inB 2048 ls)
    (oG : sb ≠ 0) (o1 : Off sb A1) (o5 : Off sb A5) (IH : VisC lk ht rc ts gs ls A1 A2 A5 M L Q N c1 c2 c5 sb n) : VisC lk ht rc ts gs ls A1 A2 A5 M L Q N c1 c2 c5 sb (n + 1) := by
  intro l s b A3 A6 K c3 c6 w hK hK2 hS hl hX hP hT hX5 hL hSB o6 o3
  have hfn : ∀ f, Fence.wide.fn f = True := fun _ => rfl
  have HIH := Lib.hid IH
  have HX := Lib.hid hX
  have HSB := Lib.hid hSB
  obtain ⟨B0, d0, K0, -, -⟩ := hSB
  have HK0 := Lib.hid K0
  obtain ⟨c00, c01, c02, c03, c04, c05, c06, c07, c08, l0, f0⟩ := K0.o9
  have HKP : Hid (∀ W, Calls Tryd.prog 106 #[.agg #[(.int .i64 (lk)), (.int .i64 (ht)), .slice A1 M c1, (.int .i64 (rc)), .slice A2 L c2], .agg #[(.int .i64 (s.h)), (.int .i64 ((s.lv : Int))), .slice A3 Q c3], .slice A5 N c5] W fun e w' => e = .returned (.func (.func 111) #[] #[.pointer (some ⟨W.heap.size + 1 + 1, 0, none⟩), .pointer (some ⟨W.heap.size, 0, none⟩), .pointer (some ⟨W.heap.size + 1, 0, none⟩)]) ∧
      Below W.heap.size W w' ∧ Blk w' W.heap.size #[(.int .i64 (lk)), (.int .i64 (ht)), .slice A1 M c1, (.int .i64 (rc)), .slice A2 L c2] ∧ Blk w' (W.heap.size + 1) #[(.int .i64 (s.h)), (.int .i64 ((s.lv : Int))), .slice A3 Q c3] ∧ Blk w' (W.heap.size + 1 + 1) #[.slice A5 N c5]) := Lib.hid (fun W => kept_any lk ht rc s A1 A2 A3 A5 M L Q N c1 c2 c3 c5 W)
  have HIT : Hid (∀ (W : World) (Gb Sb Lb m : Nat), 1 ≤ m → Cells W A1 ts → Cells W A3 s.ps → Cells W A5 ls → Lim W → Blk W Gb #[(.int .i64 (lk)), (.int .i64 (ht)), .slice A1 M c1, (.int .i64 (rc)), .slice A2 L c2] → Blk W Sb #[(.int .i64 (s.h)), (.int .i64 ((s.lv : Int))), .slice A3 Q c3] → Blk W Lb #[.slice A5 N c5] → Gb ≠ sb → Sb ≠ sb → Lb ≠ sb → sb < Gb →
      IterR Fence.wide m Tryd.prog 111 #[.pointer (some ⟨Lb, 0, none⟩), .pointer (some ⟨Gb, 0, none⟩), .pointer (some ⟨Sb, 0, none⟩)] 2 (KeptR Q sb) (keptK lk ht rc ts s ls N) (Rest sb W.heap.size) W) := Lib.hid (fun W Gb Sb Lb m hm q1 q3 q5 qL kG kS kL e1 e2 e3 e4 =>
    kept1_iter lk ht rc s ts gs ls A1 A2 A3 A5 M L Q N c1 c2 c3 c5 Gb Sb Lb sb W m hM (by have := hS.pl; omega) hN hV hS hls hN2 qL q1 q3 q5 kG kS kL oG o1 o3 o5 e1 e2 e3 e4 hm)
  have hn0 : ((n : Int) + 1 == 0) = false := beq_eq_false_iff_ne.2 (by omega)
  have hsbw : sb < w.heap.size := l0
  have sl1 : sb < w.heap.size + 1 := by omega
  have sl2 : sb < w.heap.size + 1 + 1 := by omega
  have sl3 : sb < w.heap.size + 1 + 1 + 1 := by omega
  have sl4 : sb < w.heap.size + 1 + 1 + 1 + 1 := by omega
  have HK := Lib.hid hK
  have HK2 := Lib.hid hK2
  have HN := Lib.hid hN
  have HV := Lib.hid hV
  have HS := Lib.hid hS
  have HLS := Lib.hid hls
  have HL := Lib.hid hl
  have HP := Lib.hid hP
  have HT := Lib.hid hT
  have HX5 := Lib.hid hX5
  have HLI := Lib.hid hL
  have HO6 := Lib.hid o6
  have HO5 := Lib.hid o5
  have HO3 := Lib.hid o3
  have HO1 := Lib.hid o1
  clear hX K0 IH hM hQ hN hV hls o1 o5 hK hK2 hS hl hP hT hX5 hL o6 o3
  rw [show (((n + 1 : Nat) : Int)) = (n : Int) + 1 by omega]
  refine (callsIn_wide (n := 10)).1 ?_
  refine callsIn_of_wp_marks Tryd.func94 rfl trivial ?_ rfl
  simp only [Tryd.ntmps94, List.size_toArray, List.length_cons, List.length_nil, Nat.reduceAdd, Nat.reduceSub, Array.replicate_succ, Array.replicate_zero, List.push_toArray, List.append_toArray, List.nil_append, List.cons_append]
  gi_wp2
  refine wpIn_wide.2 ?_
  refine name_world ?_
  intro w4 e4
  have hs4 : w4.heap.size = w.heap.size + 4 := by rw [e4]; simp
  have KS4 : Blk w4 sb _ := (show Blk w4 sb _ from by rw [e4]; exact HK0.out.below (by (repeat (first | (with_reducible exact Below.refl _ _) | ((with_reducible refine Below.setCell ?_ ?_ _); rotate_left 1; focus (first | (simp; done) | (simp; omega) | (simp at *; omega))) | ((with_reducible refine Below.alloc ?_ ?_ _); rotate_left 1; focus (first | (simp; done) | (simp; omega) | (simp at *; omega))) | (with_reducible refine Below.drew ?_) | ((with_reducible refine Calm.step (by assumption) ?_ ?_); rotate_left 1; focus (first | (simp; done) | (simp; omega) | (simp at *; omega)))))))
  have P4 : Blk w4 w.heap.size #[.pointer (some ⟨sb, 0, none⟩)] := by rw [e4]; (repeat (first | ((with_reducible refine Blk.at_ ?_); focus (first | rfl | (simp; done) | (simp; omega))) | (with_reducible refine Blk.alloc ?_ _) | (with_reducible refine Blk.below ?_ (by with_reducible assumption)) | (with_reducible refine Blk.drew ?_)))
  have P5 : Blk w4 (w.heap.size + 1) #[.slice A6 K c6] := by rw [e4]; (repeat (first | ((with_reducible refine Blk.at_ ?_); focus (first | rfl | (simp; done) | (simp; omega))) | (with_reducible refine Blk.alloc ?_ _) | (with_reducible refine Blk.below ?_ (by with_reducible assumption)) | (with_reducible refine Blk.drew ?_)))
  have P6 : Blk w4 (w.heap.size + 2) #[(.int .i64 (s.h)), (.int .i64 ((s.lv : Int))), .slice A3 Q c3] := by rw [e4]; (repeat (first | ((with_reducible refine Blk.at_ ?_); focus (first | rfl | (simp; done) | (simp; omega))) | (with_reducible refine Blk.alloc ?_ _) | (with_reducible refine Blk.below ?_ (by with_reducible assumption)) | (with_reducible refine Blk.drew ?_)))
  have P7 : Blk w4 (w.heap.size + 3) #[(.int .i64 ((n : Int) + 1))] := by rw [e4]; (repeat (first | ((with_reducible refine Blk.at_ ?_); focus (first | rfl | (simp; done) | (simp; omega))) | (with_reducible refine Blk.alloc ?_ _) | (with_reducible refine Blk.below ?_ (by with_reducible assumption)) | (with_reducible refine Blk.drew ?_)))
  have HB4 := Lib.hid (show Below w.heap.size w w4 from by rw [e4]; (repeat (first | (with_reducible exact Below.refl _ _) | ((with_reducible refine Below.setCell ?_ ?_ _); rotate_left 1; focus (first | (simp; done) | (simp; omega) | (simp at *; omega))) | ((with_reducible refine Below.alloc ?_ ?_ _); rotate_left 1; focus (first | (simp; done) | (simp; omega) | (simp at *; omega))) | (with_reducible refine Below.drew ?_) | ((with_reducible refine Calm.step (by assumption) ?_ ?_); rotate_left 1; focus (first | (simp; done) | (simp; omega) | (simp at *; omega))))))
  clear e4 c00 c01 c02 c03 c04 c05 c06 c07 c08 f0 l0
  have HP4 := Lib.hid P4
  have HP5 := Lib.hid P5
  have HP7 := Lib.hid P7
  have ls4 := KS4.lt
  obtain ⟨c00, c01, c02, c03, c04, c05, c06, c07, c08, l0, f0⟩ := KS4.o9
  obtain ⟨p4, p4l, p4f⟩ := P4.o1
  obtain ⟨p6, p61, p62, p6l, p6f⟩ := P6.o3
  clear KS4 P4 P5 P6 P7
  (try simp only [Act.put, List.setIfInBounds_toArray, List.set_cons_zero, List.set_cons_succ])
  refine Rel.region3 9 (by kernel_rfl) (by kernel_rfl) (by kernel_rfl) ?_
  simp only [List.take_succ_cons, List.take_zero, List.drop_succ_cons, List.drop_zero, List.filterMap_cons, List.filterMap_nil]
  repeat (apply Rel.op3; (focus (first | exact Rel.gno rfl | exact Rel.gyes _ true _ rfl rfl rfl | exact Rel.gyes _ false _ rfl rfl rfl)); (focus (intro a W hb hd hbase; obtain ⟨hc, hf⟩ := bcell hb; clear hb hf; simp [Rel.deps, Rel.dep1, Rel.ons, Region.binds, Act.eval] at hd; simp only [Act.eval, List.mem_cons, List.not_mem_nil, not_or, and_imp, or_false, Array.getD_eq_getD_getElem?] at hbase; go_simp; (try go_bits); (try rfl); done)); (try simp only [List.nil_append, List.cons_append]))
  refine Rel.done3 ?_
  intro x w5 hb5 hx
  simp only [Rel.facts, Nat.zero_add, Nat.reduceAdd] at hx
  obtain ⟨e0, e1, e2, e3, e4, e5, e6, e7, e8, _⟩ := hx
  simp only [Rel.fill, Nat.zero_add, Nat.reduceAdd, e0, e1, e2, e3, e4, e5, e6, e7, e8]
  simp only [Act.put, List.setIfInBounds_toArray, List.set_cons_zero, List.set_cons_succ]
  clear e0 e1 e2 e3 e4 e5 e6 e7 e8
  clear c00 c01 c02 c03 c04 c05 c06 c07 c08 l0 f0 p4 p4l p4f p6 p61 p62 p6l p6f
  have hs5 := hb5.size
  have HB5 := Lib.hid (HB4.out.trans (hb5.mono (by omega)))
  have HP4' := Lib.hid (HP4.out.below hb5)
  have HP5' := Lib.hid (HP5.out.below hb5)
  have HP7' := Lib.hid (HP7.out.below hb5)
  clear hb5 HB4 HP4 HP5 HP7
  go_wp2_with (go_at_call 106; refine (HKP.out _).mono ?_; rintro r w6 ⟨rfl, hb6, kG, kS, kL⟩)
  have hs6 := hb6.size
  have gl6 := kG.lt
  have hsb6 : sb < w6.heap.size := by omega
  have HB6 := Lib.hid (HB5.out.trans (hb6.mono (by omega)))
  have HP46 := Lib.hid (HP4'.out.below hb6)
  have HP56 := Lib.hid (HP5'.out.below hb6)
  have HP76 := Lib.hid (HP7'.out.below hb6)
  have HSB6 := Lib.hid (HSB.out.of HB6.out)
  have HIT6 := Lib.hid (HIT.out w6 w5.heap.size (w5.heap.size + 1) (w5.heap.size + 1 + 1) 9 (by omega) (HT.out.below HB6.out) (HP.out.below HB6.out) (HX5.out.below HB6.out) (HLI.out.below HB6.out) kG kS kL (by omega) (by omega) (by omega) (by omega))
  have HC6 := Lib.hid (show Cells w6 A1 ts ∧ Cells w6 A5 ls ∧ Cells w6 A6 l ∧ Lim w6 from ⟨HT.out.below HB6.out, HX5.out.below HB6.out, HX.out.below HB6.out, HLI.out.below HB6.out⟩)
  clear hb6 kG kS kL HIT HKP HP4' HP5' HP7' HB5
  gi_wp2
  have hIO : OwnFrom w6.heap.size (fun (pre : List (Int × St)) W => SB lk ht rc A1 A2 A5 M c1 L c2 N c5 sb (pre.foldl (fun b x => visF lk ht rc ts ls n (l ++ [x.1]) x.2 b) b) W ∧ But sb w6 W) :=
    OwnFrom.and (sb_own (fun pre : List (Int × St) => pre.foldl (fun b x => visF lk ht rc ts ls n (l ++ [x.1]) x.2 b) b) hsb6) (but_own w6 sb)
  have HIO := Lib.hid hIO
  refine range_iterR (F := Fence.wide) (n := 10) rfl (by decide) (gf := 111) (lb := #[.pointer (some ⟨w5.heap.size + 1 + 1, 0, none⟩), .pointer (some ⟨w5.heap.size, 0, none⟩), .pointer (some ⟨w5.heap.size + 1, 0, none⟩)]) rfl trivial (enters_of Tryd.func111 (by kernel_rfl) rfl)
    (all := keptK lk ht rc ts s ls N) (R := KeptR Q sb) (C := Rest sb w6.heap.size) (fun k hk => hk.1) HIT6.out
    _ hIO ⟨HSB6.out, But.refl _ _⟩
    (fun (pre : List (Int × St)) (x : Int × St) (a' : Act) (W : World) => (SB lk ht rc A1 A2 A5 M c1 L c2 N c5 sb (pre.foldl (fun b x => visF lk ht rc ts ls n (l ++ [x.1]) x.2 b) b) W ∧ But sb w6 W) ∧
      ∃ Bx B c, w6.heap.size + 1 < Bx ∧ W.heap[Bx]? = some (.cells #[(.int .i64 (x.2.h)), (.int .i64 ((x.2.lv : Int))), .slice (some B) Q c] 30 (0, 0)) ∧ Cells W (some B) x.2.ps ∧ B.block ≠ sb ∧ a' = { tmps := #[.pointer (some ⟨sb, 0, none⟩), .slice A6 K c6, .agg #[(.int .i64 (s.h)), (.int .i64 ((s.lv : Int))), .slice A3 Q c3], (.int .i64 ((n : Int) + 1)), .pointer (some ⟨w.heap.size, 0, none⟩), .pointer (some ⟨w.heap.size + 1, 0, none⟩), .pointer (some ⟨w.heap.size + 1 + 1, 0, none⟩), .pointer (some ⟨w.heap.size + 1 + 1 + 1, 0, none⟩), undef, (.int .i64 (x.1)), .pointer (some ⟨Bx, 0, none⟩), (.int .i64 ((n : Int) + 1)), .bool false, undef, undef, undef, undef, undef, undef, undef, undef, undef, undef, undef, undef, undef, undef, undef, undef, undef, undef, undef, undef, undef, undef, undef, undef, undef, undef, undef, .pointer (some ⟨sb, 0, none⟩), .pointer (some ⟨sb, 0, none⟩), .pointer (some ⟨sb, 0, none⟩), .agg #[(.int .i64 (lk)), (.int .i64 (ht)), .slice A1 M c1, (.int .i64 (rc)), .slice A2 L c2], .agg #[(.int .i64 (s.h)), (.int .i64 ((s.lv : Int))), .slice A3 Q c3], .pointer (some ⟨sb, 0, none⟩), .pointer (some ⟨sb, 0, none⟩), .pointer (some ⟨sb, 5, none⟩), .slice A5 N c5, .func (.func 111) #[] #[.pointer (some ⟨w5.heap.size + 1 + 1, 0, none⟩), .pointer (some ⟨w5.heap.size, 0, none⟩), .pointer (some ⟨w5.heap.size + 1, 0, none⟩)], (.int .i64 (x.1)), .agg #[(.int .i64 (x.2.h)), (.int .i64 ((x.2.lv : Int))), .slice (some B) Q c], undef, undef, undef, undef, undef, undef, undef, undef, undef, undef], defers := [] })
    ?hax ?assign ?body ?done
  case hax =>
    rintro pre x a' u X Y row ⟨hi, Bx, B, c, h1, h2, h3, h4, h5⟩ hg hrow
    exact ⟨HIO.out pre X Y row hi hg hrow, Bx, B, c, h1, heapRow_any Bx h2 hg (fun r e => (hrow r e).2), cells_grown h3 hg (fun r e => (hrow r e).2), h4, h5⟩
  case assign =>
    rintro r pre x v W hi ⟨post, hpost⟩ hsz hcb hvs ⟨B, c, rfl, hC, hne⟩
    have hsem : ∀ (ρ : Operand → Value) (o : Oper), (∀ c, o.op ≠ .defer c) → Oper.semAt (some r) ρ o = execOp ρ o := Oper.semAt_some r
    have HI := Lib.hid hi
    have HCX := Lib.hid hC
    clear hi hIO hpost hcb hC
    gi_wp2
    exact ⟨(Same.refl _ _).alloc _, HIO.out.alloc _ HI.out, W.heap.size, B, c, hsz, World.alloc_heap_new W _, HCX.out.below ((Below.refl _ _).alloc (Nat.le_refl _) _), hne, rfl⟩
  case body =>
    rintro r pre ⟨y, z⟩ a' W ⟨⟨hsb, hbut⟩, Bx, B, c, hBx, hx, hC, hne, rfl⟩ ⟨post, hpost⟩ hsz hcb
    have hmem : (y, z) ∈ keptK lk ht rc ts s ls N := by rw [hpost]; simp
    obtain ⟨g1, g2, -, -⟩ := keptK_good HS.out HLS.out N (y, z) hmem
    have HG1 := Lib.hid g1
    have HG2 := Lib.hid g2
    have hn100 : n ≤ 100 := by have := HK2.out; omega
    have ls6 : sb < W.heap.size := Nat.lt_of_lt_of_le hsb6 hbut.size
    have q4 := blk_but HP46.out (by omega) hbut
    have q5 := blk_but HP56.out (by omega) hbut
    have q7 := blk_but HP76.out (by omega) hbut
    have qx := Calm.Blk.row hx
    obtain ⟨p4, p4l, p4f⟩ := q4.o1
    obtain ⟨p5, p5l, p5f⟩ := q5.o1
    obtain ⟨p7, p7l, p7f⟩ := q7.o1
    obtain ⟨x0, x1, x2, xl, xf⟩ := qx.o3
    have HCW := Lib.hid (show Cells W A1 ts ∧ Cells W A5 ls ∧ Cells W A6 l ∧ Lim W ∧ Cells W (some B) z.ps from ⟨HC6.out.1.but HO1.out hbut, HC6.out.2.1.but HO5.out hbut, HC6.out.2.2.1.but HO6.out hbut, HC6.out.2.2.2.but oG hbut, hC⟩)
    have HSBW := Lib.hid hsb
    have HBW := Lib.hid hbut
    have hTC := Lib.hid (fun (W' : World) (hS : Sett K (.int .i64 (y)) W.heap.size W W') => bcell hS.below)
    obtain ⟨i1, hi1, jz0, jz1, jz2⟩ := info_parts Tryd.infoI
    clear hpost hmem g1 g2 hIO hsb hbut hcb hx hC q4 q5 q7 qx
    refine wpIn_block ?_
    refine RelH.region3In (S := Sett K (.int .i64 (y)) W.heap.size) Sett.trans Sett.drawn 9 (by kernel_rfl) (by kernel_rfl) (by rintro ⟨a, w, h⟩; exact h) (by kernel_rfl) (by kernel_rfl) ?_
    simp only [List.take_succ_cons, List.take_zero, List.drop_succ_cons, List.drop_zero, List.filterMap_cons, List.filterMap_nil]
    iterate 2 (apply RelH.op3 Sett.refl; (focus (first | exact RelH.gno rfl | exact RelH.gyes _ true _ rfl rfl rfl | exact RelH.gyes _ false _ rfl rfl rfl)); (focus (intro a W x hb hd hbase; obtain ⟨hc, hf⟩ := hTC.out W hb; clear hb hf; simp [RelH.deps, RelH.dep1, Rel.ons, Region.binds, Act.eval] at hd; simp only [Act.eval, List.mem_cons, List.not_mem_nil, not_or, and_imp, or_false, Array.getD_eq_getD_getElem?] at hbase; go_simp; (try go_bits); (try rfl); done)); (try simp only [List.nil_append, List.cons_append]))
    refine RelH.callR3 (fun _ u W' => W'.ownsRow W.heap.size 3 1 u K (l.map (Value.int .i64))) (fun x v W W' h hS => ownsRow_sett h hS (by rw [List.set_eq_of_length_le (by simp; have := HK.out; omega)])) RelH.loc_const (fun W W' hS h => Sett.ofGe hS h) (RelH.gno rfl) ?_ ?_
    · intro a W' x hb hd hbase
      refine ⟨105, #[.slice A6 K c6], ?_, (clone_any l A6 K c6 W' HK.out (HCW.out.2.2.1.below hb.below) (by have := HK2.out; omega)).mono ?_⟩
      · clear hb
        simp [RelH.deps, RelH.dep1, Rel.ons, Region.binds, Act.eval] at hd
        go_simp
        (first | done | rfl | (refine ⟨?_, ?_⟩ <;> rfl))
      · rintro e W2 ⟨⟨B', d', rfl, ho⟩, hbb⟩
        exact ⟨_, rfl, ownsRow_base ho hb.below.size, hbb⟩
    (try simp only [List.nil_append, List.cons_append])
    iterate 1 (apply RelH.op3 Sett.refl; (focus (first | exact RelH.gno rfl | exact RelH.gyes _ true _ rfl rfl rfl | exact RelH.gyes _ false _ rfl rfl rfl)); (focus (intro a W x hb hd hbase; obtain ⟨hc, hf⟩ := hTC.out W hb; clear hb hf; simp [RelH.deps, RelH.dep1, Rel.ons, Region.binds, Act.eval] at hd; simp only [Act.eval, List.mem_cons, List.not_mem_nil, not_or, and_imp, or_false, Array.getD_eq_getD_getElem?] at hbase; go_simp; (try go_bits); (try rfl); done)); (try simp only [List.nil_append, List.cons_append]))
    refine RelH.opW3 (fun _ => Rel.NewS W.heap.size 1 1 #[(.int .i64 (y))]) (fun x v W W' h hS => by
      obtain ⟨g, h1, h2, h3⟩ := h
      refine ⟨g, h1, h2, Blk.sett h3 hS h2 ?_⟩
      apply Array.toList_inj.1
      rw [Array.toList_setIfInBounds]
      cases K with
      | zero => rfl
      | succ q => simp) RelH.loc_const (RelH.gno rfl) ?_ ?_
    · intro a W' x hb hd hbase
      simp [RelH.deps, RelH.dep1, Rel.ons, Region.binds, Act.eval] at hd
      refine ⟨.slice (some ⟨W'.heap.size, 0, none⟩) 1 1, W'.alloc (.cells #[(.int .i64 (y))] 3), ?_, ⟨_, rfl, hb.below.size, Calm.Blk.new W' _ _⟩, Sett.of ((Below.refl _ _).alloc (Nat.le_refl _) _) hb.below.size⟩
      go_simp
      (first | done | rfl | (refine ⟨?_, ?_⟩ <;> rfl))
    (try simp only [List.nil_append, List.cons_append])
    refine RelH.app3 (fun _ u W' => W'.ownsRow W.heap.size 3 1 u (K + 1) (l.map (Value.int .i64) ++ [(.int .i64 (y))])) (fun x v W W' h hS => ownsRow_sett h hS (by
      have hl : (l.map (Value.int .i64)).length = K := by simp; exact HK.out.symm
      rw [← hl]; simp)) RelH.loc_const (.tmp 54) (.tmp 56) 22 rfl (RelH.gno rfl) ?_ ?_
    · intro a W' x hb hd hbase
      simp [RelH.deps, RelH.dep1, Rel.ons, Region.binds] at hd
      obtain ⟨⟨_, ho⟩, ⟨_, hx⟩, _⟩ := hd
      obtain ⟨g, hxv, _, hxk⟩ := hx
      rw [hxv]
      exact append_sett (P := Tryd.prog) W.heap.size 22 22 3 i1 _ 8 Tryd.underlying22 hi1 jz0 jz1 jz2 rfl _ K _ (.int .i64 (y)) rfl W' ho hb.below.size (by unfold maxLen; have := HK2.out; omega) (by have := HK2.out; omega) g 1 (hxk.cell 0 _ rfl)
    (try simp only [List.nil_append, List.cons_append])
    iterate 3 (apply RelH.op3 Sett.refl; (focus (first | exact RelH.gno rfl | exact RelH.gyes _ true _ rfl rfl rfl | exact RelH.gyes _ false _ rfl rfl rfl)); (focus (intro a W x hb hd hbase; obtain ⟨hc, hf⟩ := hTC.out W hb; clear hb hf; simp [RelH.deps, RelH.dep1, Rel.ons, Region.binds, Act.eval] at hd; simp only [Act.eval, List.mem_cons, List.not_mem_nil, not_or, and_imp, or_false, Array.getD_eq_getD_getElem?] at hbase; go_simp; (try go_bits); (try rfl); done)); (try simp only [List.nil_append, List.cons_append]))
    refine RelH.done3 ?_
    intro x w7 hS hx
    simp only [RelH.facts, Nat.zero_add, Nat.reduceAdd] at hx
    obtain ⟨e0, e1, e2, e3, -, e5, e6, e7, e8, _⟩ := hx
    obtain ⟨B7, d7, v7⟩ := own_slice e5
    rw [v7] at e5
    obtain ⟨B7', d7', v8, hge, hcc⟩ := own_ints (zs := l ++ [y]) (by simpa using e5) (by simp; exact HK.out)
    cases v8
    simp only [RelH.fill, Nat.zero_add, Nat.reduceAdd, e0, e1, v7, e3, e6, e7, e8]
    simp only [Act.put, List.setIfInBounds_toArray, List.set_cons_zero, List.set_cons_succ]
    have hbw := hS.below
    have HB7 := Lib.hid hbw
    have HC7 := Lib.hid hcc
    have HGE := Lib.hid hge
    have HIV := Lib.hid (HIH.out (l ++ [y]) z _ (some B) B7 (K + 1) c d7 w7 (by simp; exact HK.out) (by have := HK2.out; omega) HG1.out (fun q hq => by
      rcases List.mem_append.1 hq with hq | hq
      · exact HL.out q hq
      · obtain rfl := List.mem_singleton.1 hq
        exact HG2.out) hcc (HCW.out.2.2.2.2.below hbw) (HCW.out.1.below hbw) (HCW.out.2.1.below hbw) (HCW.out.2.2.2.1.below hbw) (HSBW.out.of hbw) (fun p hp => by have := hge p hp; omega) (fun p hp => by cases hp; exact hne))
    clear hbw hcc hge e0 e1 e2 e3 e5 v7 e6 e7 e8 hS hTC p4 p4l p4f p5 p5l p5f p7 p7l p7f x0 x1 x2 xl xf
    go_wp2_with (go_at_call 94; refine HIV.out.mono ?_; rintro e w9 ⟨rfl, hs9, hb9⟩)
    refine ⟨fun k o hk ho => ?_, ?_, ?_⟩
    · have hk1 := (Array.getElem?_eq_some_iff.1 ho).1
      have hk2 : k ≠ sb := by
        rcases hk with hk | rfl | rfl
        · exact hk.2
        · omega
        · omega
      have h1 := HB7.out.size
      rw [hb9.block k ⟨by omega, hk2⟩, HB7.out.block k hk1]
      exact ho
    · rw [List.foldl_append]
      exact hs9
    · exact (HBW.out.trans (But.of HB7.out)).trans hb9
  case done =>
    rintro W ⟨hsb, hbut⟩ hdef
    obtain ⟨h1, h2⟩ := HIO.out.putObj (s := keptK lk ht rc ts s ls N) (.deferred none) ⟨hsb, hbut⟩ (Nat.le_refl _) hdef rfl
    have H1 := Lib.hid h1
    have H2 := Lib.hid h2
    have HD := Lib.hid hdef
    clear hsb hbut hIO h1 h2 hdef
    gi_wp2
    refine ⟨by simp, .inl ⟨_, _, rfl, run_takeDeferred HD.out, ?_⟩⟩
    refine ⟨.tuple #[], by simp [results, Tryd.results94, go_sem], rfl, ?_, (But.of HB6.out).trans H2.out⟩
    have h1 := H1.out
    have e : visF lk ht rc ts ls (n + 1) l s b = (keptK lk ht rc ts s ls N).foldl (fun b x => visF lk ht rc ts ls n (l ++ [x.1]) x.2 b) b := by rw [HN.out]; rfl
    rw [e]
    exact h1
end Go.Proofs.YtdeapbihbhoefaaDoor
