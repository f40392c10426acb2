/- Part 6 of the texts of the claim: P11, Grw, RelL, P9. -/
import Derived.Test.YtdeapbihbhoefaaGreatDoorMt5
import Derived.Test.YtdeapbihbhoefaaGreatDoorMt3
import Derived.Maps.AppendAt

/- Contract of (Guard).rest: the state at rest. -/
namespace Go.Proofs.YtdeapbihbhoefaaGreatDoor
open Go.RowKit
open Calm (bcell Blk)

theorem getD_zeros (n k : Nat) : (List.replicate n (0 : Int)).getD k 0 = 0 := by
  rw [List.getD_eq_getElem?_getD, List.getElem?_replicate]
  split <;> rfl
theorem cells_zeros {w : World} {g n : Nat} (h : Blk w g (zerosA n).toArray) : Cells w (some ⟨g, 0, none⟩) (List.replicate n 0) := by
  intro h0
  refine ⟨g, 0, rfl, h.lt, fun k hk => ?_⟩
  rw [Nat.zero_add, h.c k, getD_zeros]
  simp at hk
  simp [zerosA, hk]
set_option maxHeartbeats 1000000 in
theorem rest_typed (lk ht rc : Int) (A1 A2 : Option Addr) (n1 c1 n2 c2 : Nat) (w : World) (h1 : 1 ≤ n1 ∧ n1 ≤ 1000000) (h2 : 1 ≤ n2 ∧ n2 ≤ 1000000) :
    Calls Tryz.prog 55 #[.agg #[(.int .i64 lk), (.int .i64 ht), .slice A1 n1 c1, (.int .i64 rc), .slice A2 n2 c2]] w fun r w' => (∃ B, w.heap.size ≤ B.block ∧ r = .returned (.agg #[(.int .i64 0), (.int .i64 (((n2 - 1 : Nat) : Int))), .slice (some B) (n1 - 1) (n1 - 1)]) ∧ Cells w' (some B) (List.replicate (n1 - 1) 0) ∧ IntRow w' B) ∧ Below w.heap.size w w' := by
  obtain ⟨a, rfl⟩ : ∃ a, n1 = a + 1 := ⟨n1 - 1, by omega⟩
  obtain ⟨b, rfl⟩ : ∃ b, n2 = b + 1 := ⟨n2 - 1, by omega⟩
  have hmk := mk_ints a (by omega)
  have e1 : ((a + 1 : Nat) : Int) - 1 = (a : Int) := by omega
  have e2 : ((b + 1 : Nat) : Int) - 1 = (b : Int) := by omega
  have E1 := Lib.hid e1
  have E2 := Lib.hid e2
  simp only [Nat.add_sub_cancel]
  obtain ⟨b1, b2⟩ := h1
  obtain ⟨b3, b4⟩ := h2
  clear e1 e2
  go_enter Tryz.func55, Tryz.ntmps55
  go_wp2
  refine Rel.region3 9 (by kernel_rfl) (by kernel_rfl) (by kernel_rfl) ?_
  simp only [List.take_succ_cons, List.take_zero, List.drop_succ_cons, List.drop_zero, List.filterMap_cons, List.filterMap_nil]
  iterate 8 (apply Rel.op3; (focus (first | exact Rel.gno rfl | exact Rel.gyes _ true _ rfl rfl rfl | exact Rel.gyes _ false _ rfl rfl rfl)); (focus (intro a W hb hd hbase; obtain ⟨hc, hf⟩ := bcell hb; clear hb hf; simp [Rel.deps, Rel.dep1, Rel.ons, Region.binds, Act.eval] at hd; simp only [Act.eval, List.mem_cons, List.not_mem_nil, not_or, and_imp, or_false, Array.getD_eq_getD_getElem?] at hbase; go_simp; (try go_bits); (try rfl); done)); (try simp only [List.nil_append, List.cons_append]))
  refine Rel.buildT3 3 a a (zerosA a).toArray (Rel.gno rfl) ?_ ?_
  · intro ac W hb hd hbase
    simp [Rel.deps, Rel.dep1, Rel.ons, Region.binds, Act.eval] at hd
    go_simp
  (try simp only [List.nil_append, List.cons_append])
  refine Rel.done3 ?_
  intro x w1 hb1 hx
  simp only [Rel.facts, Nat.zero_add, Nat.reduceAdd] at hx
  obtain ⟨e0, e1, e2, e3, e4, e5, e6, e7, ⟨g, e8, hg, hKR⟩, _⟩ := hx
  simp only [Rel.fill, Nat.zero_add, Nat.reduceAdd, e0, e1, e2, e3, e4, e5, e6, e7, e8]
  simp only [Act.put, List.setIfInBounds_toArray, List.set_cons_zero, List.set_cons_succ]
  clear e0 e1 e2 e3 e4 e5 e6 e7 e8 hmk
  have K2 : Blk w1 (w.heap.size + 1) #[(.int .i64 0), (.int .i64 0), .slice none 0 0] := Blk.below (by (repeat (first | ((with_reducible refine Blk.at_ ?_); focus (first | rfl | (simp; done) | (simp; omega))) | (with_reducible refine Blk.alloc ?_ _) | (with_reducible refine Blk.below ?_ (by with_reducible assumption)) | (with_reducible refine Blk.drew ?_)))) hb1
  have HB1 : Hid (Below w.heap.size w w1) := Lib.hid (Below.trans (by (repeat (first | (with_reducible exact Below.refl _ _) | ((with_reducible refine Below.setCell ?_ ?_ _); rotate_left 1; focus (first | (simp; done) | (simp; omega) | (simp at *; omega))) | ((with_reducible refine Below.alloc ?_ ?_ _); rotate_left 1; focus (first | (simp; done) | (simp; omega) | (simp at *; omega))) | (with_reducible refine Below.drew ?_) | ((with_reducible refine Calm.step (by assumption) ?_ ?_); rotate_left 1; focus (first | (simp; done) | (simp; omega) | (simp at *; omega)))))) (hb1.mono (by simp; omega)))
  have hK := Calm.Blk.row hKR
  have HC := Lib.hid (cells_zeros hK)
  have HI : Hid (IntRow w1 ⟨g, 0, none⟩) := Lib.hid ⟨_, hKR⟩
  clear hKR
  simp at hg
  have HK2 := Lib.hid K2
  obtain ⟨c0, c1', c2', l0, f0⟩ := K2.o3
  clear hb1 hK K2
  go_wp2
  have KR := HK2.out.set3 (.int .i64 0) (.int .i64 ((b : Int))) (.slice (some ⟨g, 0, none⟩) a a)
  obtain ⟨y0, y1, y2, yl, yf⟩ := KR.o3
  have q : 0 < (List.replicate a (0 : Int)).length → ∀ p, some (⟨g, 0, none⟩ : Addr) = some p → p.block ≠ w.heap.size + 1 := fun _ p hp => by cases hp; show g ≠ _; omega
  have q2 : (⟨g, 0, none⟩ : Addr).block ≠ w.heap.size + 1 := by show g ≠ _; omega
  clear c0 c1' c2' l0 f0 KR
  exact bodyPost_ret (v := .agg #[(.int .i64 0), (.int .i64 ((b : Int))), .slice (some ⟨g, 0, none⟩) a a]) (by simp [results, Tryz.results55, go_sem, y0, y1, y2]) rfl
    ⟨⟨⟨g, 0, none⟩, by show w.heap.size ≤ g; omega, rfl, ((HC.out.sets q _ _).sets q _ _).sets q _ _, ((HI.out.sets q2 _ _).sets q2 _ _).sets q2 _ _⟩, ((HB1.out.setCell (by simp) _).setCell (by simp) _).setCell (by simp) _⟩
theorem rest_any (lk ht rc : Int) (A1 A2 : Option Addr) (n1 c1 n2 c2 : Nat) (w : World) (h1 : 1 ≤ n1 ∧ n1 ≤ 1000000) (h2 : 1 ≤ n2 ∧ n2 ≤ 1000000) :
    Calls Tryz.prog 55 #[.agg #[(.int .i64 lk), (.int .i64 ht), .slice A1 n1 c1, (.int .i64 rc), .slice A2 n2 c2]] w fun r w' => (∃ B, w.heap.size ≤ B.block ∧ r = .returned (.agg #[(.int .i64 0), (.int .i64 (((n2 - 1 : Nat) : Int))), .slice (some B) (n1 - 1) (n1 - 1)]) ∧ Cells w' (some B) (List.replicate (n1 - 1) 0)) ∧ Below w.heap.size w w' :=
  (rest_typed lk ht rc A1 A2 n1 c1 n2 c2 w h1 h2).mono fun _ _ ⟨⟨B, p1, p2, p3, _⟩, p4⟩ => ⟨⟨B, p1, p2, p3⟩, p4⟩
end Go.Proofs.YtdeapbihbhoefaaGreatDoor

/- Worlds that turn in the row of one slice alone, which is as it was or as an append in place leaves it; an append in the head of a drawn region. No program. -/
namespace Go.Proofs.YtdeapbihbhoefaaGreatDoor
open Go.RowKit
open Calm (bcell Blk)
/-- all that lay is as it was, but some blocks, each of which is as it was or as T says. -/
structure Grw (T : Nat → Obj → Prop) (W W' : World) : Prop where
  os : W'.os = W.os
  tape : W'.tape = W.tape
  output : W'.output = W.output
  size : W.heap.size ≤ W'.heap.size
  block : ∀ k, k < W.heap.size → W'.heap[k]? = W.heap[k]? ∨ ∃ o, T k o ∧ W'.heap[k]? = some o
theorem Grw.refl {T : Nat → Obj → Prop} (W : World) : Grw T W W := ⟨rfl, rfl, rfl, Nat.le_refl _, fun _ _ => .inl rfl⟩
theorem Grw.trans {T : Nat → Obj → Prop} (a b c : World) (h : Grw T a b) (h' : Grw T b c) : Grw T a c := by
  refine ⟨h'.os.trans h.os, h'.tape.trans h.tape, h'.output.trans h.output, Nat.le_trans h.size h'.size, fun k hk => ?_⟩
  rcases h'.block k (Nat.lt_of_lt_of_le hk h.size) with e' | e'
  · rcases h.block k hk with e | ⟨o, e1, e2⟩
    · exact .inl (e'.trans e)
    · exact .inr ⟨o, e1, e'.trans e2⟩
  · exact .inr e'
theorem Grw.drawn {T : Nat → Obj → Prop} (W : World) : Grw T W { W with drawn := W.drawn + 1 } := ⟨rfl, rfl, rfl, Nat.le_refl _, fun _ _ => .inl rfl⟩
theorem Grw.of {T : Nat → Obj → Prop} {W W' : World} (h : Below W.heap.size W W') : Grw T W W' := ⟨h.os, h.tape, h.output, h.size, fun k hk => .inl (h.block k hk)⟩
theorem Grw.below {T : Nat → Obj → Prop} {B : Nat} {W W' : World} (h : Grw T W W') (hg : ∀ k o, T k o → B ≤ k) (hB : B ≤ W.heap.size) : Below B W W' :=
  ⟨h.os, h.tape, h.output, h.size, fun k hk => (h.block k (by omega)).elim id (fun ⟨o, e1, _⟩ => by have := hg k o e1; omega)⟩
theorem ownsRow_block {W W' : World} {base e size n : Nat} {v : Value} {xs : List Value} (h : W.ownsRow base e size v n xs) (hb : ∀ k, v.ownBlock = some k → W'.heap[k]? = W.heap[k]?) : W'.ownsRow base e size v n xs := by
  refine ⟨h.1, ?_⟩
  rcases h.2 with h2 | ⟨g, cap, cur, h1, h2, h3, h4⟩
  · exact .inl h2
  · exact .inr ⟨g, cap, cur, h1, h2, (hb g (by rw [h1]; rfl)).trans h3, h4⟩
/-- what an append leaves: a row, in the old block or in a new one. -/
def RowAt (base e : Nat) (g : Option Nat) (o1 : Obj) (B n : Nat) (ys : List Value) : Rel.Know := fun v W =>
  W.ownsRow base e 1 v n ys ∧ ((∃ k, g = some k ∧ v.ownBlock = some k ∧ W.heap[k]? = some o1) ∨ ∃ k, v.ownBlock = some k ∧ B ≤ k)
theorem RowAt.stable {T : Nat → Obj → Prop} {base e : Nat} {g : Option Nat} {o1 : Obj} {B n : Nat} {ys : List Value} (hT : ∀ k o, T k o → k < B) (hg : ∀ k o, g = some k → T k o → o = o1) (v : Value) (W W' : World)
    (h : RowAt base e g o1 B n ys v W) (hS : Grw T W W') : RowAt base e g o1 B n ys v W' := by
  obtain ⟨h, hv⟩ := h
  rcases hv with ⟨k, hk, h1, h2⟩ | ⟨k, h1, h2⟩
  · have e1 : W'.heap[k]? = some o1 := (hS.block k (h.lt k h1).2).elim (fun e => e.trans h2) (fun ⟨o, e1, e2⟩ => by rw [e2, hg k o hk e1])
    exact ⟨ownsRow_block h (fun j hj => by rw [h1] at hj; cases hj; exact e1.trans h2.symm), .inl ⟨k, hk, h1, e1⟩⟩
  · have e1 : W'.heap[k]? = W.heap[k]? := (hS.block k (h.lt k h1).2).elim id (fun ⟨o, e1, _⟩ => by have := hT k o e1; omega)
    exact ⟨ownsRow_block h (fun j hj => by rw [h1] at hj; cases hj; exact e1), .inr ⟨k, h1, h2⟩⟩
/-- One value appended, wherever the world has turned to along Grw. -/
theorem append_grw {P : Program} (base : Nat) (t ty e : TypeId) (i : TypeInfo) (z : Value) (bytes : Nat) (ht : P.underlying t = some (.slice e)) (hi : P.info? e = some i) (hz : i.zero = some z) (hsize : i.size = 1) (hby : i.bytes = bytes) (hzs : z.cells.size = 1)
    (u : Value) (n : Nat) (xs : List Value) (x : Value) (h1 : x.oneCell' = true) (W0 : World) (hown : W0.ownsRow base e 1 u n xs) (hb : base ≤ W0.heap.size) (h63 : n + 1 ≤ maxLen) (hbytes : (n + 1) * bytes ≤ 140737488355328) :
    ∃ (g : Option Nat) (o1 : Obj), (∀ k, g = some k → u.ownBlock = some k ∧ base ≤ k ∧ k < W0.heap.size) ∧
      ∀ T : Nat → Obj → Prop, (∀ k, u.ownBlock = some k → ∀ o, T k o ↔ g = some k ∧ o = o1) →
      ∀ W, Grw T W0 W → ∀ b c, W.cell? ⟨b, 0, none⟩ = some x → ∃ v' W', (Builtin.append_ #[t, t] ty #[u, .slice (some ⟨b, 0, none⟩) 1 c]).run P W = .ok v' W' ∧ RowAt base e g o1 W0.heap.size (n + 1) (xs ++ [x]) v' W' ∧ Grw T W W' ∧ ((g ≠ none ∧ v'.ownBlock = g) ∨ v'.ownBlock = some W.heap.size) := by
  have hadd : ∀ {W : World} {b : Nat}, W.cell? ⟨b, 0, none⟩ = some x → ∀ j v, [x][j]? = some v → W.cell? ((⟨b, 0, none⟩ : Addr).add j) = some v := by
    intro W b hx j v hj
    match j, hj with
    | 0, hj => simp at hj; subst hj; simpa [Addr.add] using hx
  have hone : ∀ v ∈ [x], v.oneCell' = true := fun v hv => by simp at hv; subst hv; exact h1
  have hbb : ∀ {W : World}, W0.heap.size ≤ W.heap.size → base ≤ W.heap.size := fun h => by omega
  have fin : ∀ {W : World} {b c : Nat}, W0.heap.size ≤ W.heap.size → W.cell? ⟨b, 0, none⟩ = some x → W.ownsRow base e 1 u n xs →
      ∃ v' W', (Builtin.append_ #[t, t] ty #[u, .slice (some ⟨b, 0, none⟩) 1 c]).run P W = .ok v' W' ∧ W'.ownsRow base e 1 v' (n + 1) (xs ++ [x]) ∧ W.grownBy W' u.ownBlock ∧ (v'.ownBlock = u.ownBlock ∨ v'.ownBlock = some W.heap.size) := by
    intro W b c hs hx ho
    obtain ⟨v', W', r1, r2, r3, _, r5⟩ := run_append_own_at (P := P) W base t ty e i z 1 bytes ht hi hz hsize hby hzs (by decide) u n xs ho ⟨b, 0, none⟩ 1 c [x] rfl (hadd hx) hone h63 hbytes (hbb hs)
    exact ⟨v', W', r1, r2, r3, r5⟩
  rcases hown.2 with ⟨hu, hn0⟩ | ⟨g, cap, cur, hu, hbg, hg, hnc, hcm, hcs, htake⟩
  · refine ⟨none, .cells #[] e (0, 0), (fun k hk => by cases hk), fun T hT W hS b c hx => ?_⟩
    obtain ⟨v', W', r1, r2, r3, r5⟩ := fin (c := c) hS.size hx ⟨hown.1, .inl ⟨hu, hn0⟩⟩
    have hun : u.ownBlock = none := by rw [hu]; rfl
    rw [hun] at r3 r5
    have r6 : v'.ownBlock = some W.heap.size := by
      rcases r5 with r5 | r5
      · exfalso
        rcases r2.2 with ⟨_, q⟩ | ⟨g', _, _, q, _⟩
        · omega
        · rw [q] at r5; cases r5
      · exact r5
    exact ⟨v', W', r1, ⟨r2, .inr ⟨_, r6, hS.size⟩⟩, ⟨r3.os, r3.tape, r3.output, r3.size, fun k hk => .inl (r3.block k hk (by simp))⟩, .inr r6⟩
  · have hgl : g < W0.heap.size := (Array.getElem?_eq_some_iff.1 hg).1
    have hun : u.ownBlock = some g := by rw [hu]; rfl
    by_cases hroom : n + 1 ≤ cap
    · refine ⟨some g, .cells (cur.toList.take n ++ [x] ++ cur.toList.drop (n + 1)).toArray e (0, 0), (fun k hk => by cases hk; exact ⟨hun, hbg, hgl⟩), fun T hT W hS b c hx => ?_⟩
      have hlen : (cur.toList.take n).length = n := by simp; omega
      obtain ⟨cur', hg', hs', ht', hd'⟩ : ∃ cur' : Array Value, W.heap[g]? = some (.cells cur' e (0, 0)) ∧ cur'.size = cur.size ∧ cur'.toList.take n = cur.toList.take n ∧ cur'.toList.drop (n + 1) = cur.toList.drop (n + 1) := by
        rcases hS.block g hgl with e1 | ⟨oo, e0, e1⟩
        · exact ⟨cur, e1.trans hg, rfl, rfl, rfl⟩
        · rw [((hT g hun oo).1 e0).2] at e1
          refine ⟨_, e1, ?_, ?_, ?_⟩
          · simp; omega
          · simp only [List.append_assoc]
            exact List.take_left' hlen
          · simp only []
            exact List.drop_left' (by simp; omega)
      have hrun := run_append_room (P := P) W t ty e i ht hi g n cap cur' hg' ⟨b, 0, none⟩ 1 c [x] (by rw [hsize]; rfl) (hadd hx) hone hroom (by rw [hsize, hs', hcs]; simp; omega)
      rw [hsize, Nat.mul_one, ht', show n + [x].length = n + 1 from rfl, hd'] at hrun
      have hh := setRow_heap W g cur' (cur.toList.take n ++ [x] ++ cur.toList.drop (n + 1)).toArray e (0, 0) hg'
      refine ⟨.slice (some ⟨g, 0, none⟩) (n + 1) cap, _, by rw [hu]; exact hrun, ⟨⟨by simp [hown.1], .inr ⟨g, cap, _, rfl, hbg, hh, hroom, hcm, ?_, ?_⟩⟩, .inl ⟨g, rfl, rfl, hh⟩⟩, ⟨rfl, rfl, rfl, by simp, fun k _ => ?_⟩, .inl ⟨by simp, rfl⟩⟩
      · simp; omega
      · have hx' : cur.toList.take n = xs := by simpa using htake
        simp only [Nat.mul_one]
        rw [hx']
        exact List.take_left' (by simp [hown.1])
      · by_cases hk : k = g
        · subst hk; exact .inr ⟨_, (hT k hun _).2 ⟨rfl, rfl⟩, hh⟩
        · exact .inl (setRow_other W g k _ hk)
    · refine ⟨none, .cells #[] e (0, 0), (fun k hk => by cases hk), fun T hT W hS b c hx => ?_⟩
      have hsame : ∀ k, u.ownBlock = some k → W.heap[k]? = W0.heap[k]? := fun k hk => (hS.block k (hown.lt k hk).2).elim id (fun ⟨o, e1, _⟩ => by cases ((hT k hk o).1 e1).1)
      have ho : W.ownsRow base e 1 u n xs := ownsRow_block hown hsame
      obtain ⟨v', W', r1, r2, r3, r5⟩ := fin (c := c) hS.size hx ho
      have hcell : ∀ j v, xs[j]? = some v → W.cell? ((⟨g, 0, none⟩ : Addr).add j) = some v := ho.cells (g := g) (by rw [hun])
      have hgr := run_append_grow (P := P) W t ty e i z ht hi hz ⟨g, 0, none⟩ n cap xs (by rw [hown.1, hsize]) hcell ⟨b, 0, none⟩ 1 c [x] (by rw [hsize]; rfl) (hadd hx) (by omega) (by simp only [maxLen] at h63; omega) (growslice_fits (by omega) (by rw [hby]; exact hbytes))
      rw [← hu, r1] at hgr
      injection hgr with q1 q2
      have hW : ∀ k, k < W.heap.size → W'.heap[k]? = W.heap[k]? := fun k hk => by rw [q2]; exact Below.heap_alloc _ _ _ hk
      exact ⟨v', W', r1, ⟨r2, .inr ⟨W.heap.size, by rw [q1]; rfl, hS.size⟩⟩, ⟨r3.os, r3.tape, r3.output, r3.size, fun k hk => .inl (hW k hk)⟩, .inr (by rw [q1]; rfl)⟩
end Go.Proofs.YtdeapbihbhoefaaGreatDoor

/- RelH with one limb more: a slot that operations of the head overwrite is as it was for an operation that all of them wait for. Regions whose order is open, where what is known of a value may name the values that its operation waited for (RelG with one limb more). No program. -/
namespace Go.Proofs.YtdeapbihbhoefaaGreatDoor.RelL
open Go.RowKit
open Rel (dst puts upd puts_agree puts_put Apart apart_of puts_new put_size puts_size puts_other eval_put_same puts_here wanted_of countP_upd left Ln okB sizeB all_listed listed_Ln some_ready ons)

/-- What is known of the value of an operation: the values of all operations, this one's, the world. -/
abbrev DK := (Nat → Value) → Value → World → Prop
/-- .. it names no value but those that the operation waited for. -/
def Loc (o : Oper) (R : DK) : Prop := ∀ x y : Nat → Value, (∀ e ∈ o.after, Region.binds .any e = true → x e.on = y e.on) → ∀ v W, R x v W → R y v W
def GOK (ops : Array Oper) (Γ : List DK) (o : Oper) : Prop :=
  o.guard = none ∨ ∃ g b t, o.guard = some (g, b) ∧ (∃ e ∈ o.after, Region.binds .any e = true ∧ e.on = g) ∧ dst ops g = some t ∧ Γ[g]? = some (fun _ u _ => u = .bool b)
theorem GOK.mono {ops : Array Oper} {Γ Δ : List DK} {o : Oper} (h : GOK ops Γ o) (hsub : ∀ (g : Nat) (K : DK), Γ[g]? = some K → Δ[g]? = some K) : GOK ops Δ o := by
  rcases h with h | ⟨g, b, t, h1, h2, h3, h4⟩
  · exact .inl h
  · exact .inr ⟨g, b, t, h1, h2, h3, hsub _ _ h4⟩

/-- .. and stays known along S. -/
def Stable (S : World → World → Prop) (R : DK) : Prop := ∀ x v W W', R x v W → S W W' → R x v W'

section
variable {P : Program} {ops : Array Oper} {S : World → World → Prop}

/-- What an operation of the head must show: wherever it comes up. -/
def lateB (ops : Array Oper) (n i t : Nat) : Bool := (List.range n).all fun j => (dst ops j != some t) || (match ops[j]? with | some oj => oj.after.toList.any (fun e => Region.binds .any e && e.on == i) | none => false)
theorem late_off {ops : Array Oper} {n i t : Nat} (h : lateB ops n i t = true) {j : Nat} (hj : j < n) (hd : dst ops j = some t) : ∃ oj, ops[j]? = some oj ∧ ∃ e ∈ oj.after, Region.binds .any e = true ∧ e.on = i := by
  have h1 := List.all_eq_true.1 h j (List.mem_range.2 hj)
  cases ho : ops[j]? with
  | none => rw [hd, ho] at h1; simp at h1
  | some oj =>
    rw [hd, ho] at h1
    simp only [bne_self_eq_false, Bool.false_or, List.any_eq_true, Bool.and_eq_true, beq_iff_eq] at h1
    obtain ⟨e, he, h2, h3⟩ := h1
    exact ⟨oj, rfl, e, by simpa using he, h2, h3⟩
theorem puts_off {ops : Array Oper} {x : Nat → Value} {p : Nat → Bool} {t : Tmp} : ∀ (L : List Nat) (a : Act), (∀ j ∈ L, p j = true → dst ops j ≠ some t) → (puts ops x p L a).eval (.tmp t) = a.eval (.tmp t)
  | [], _, _ => rfl
  | j :: L, a, h => by
    unfold puts
    rw [puts_off L _ (fun k hk => h k (by simp [hk]))]
    cases hp : p j with
    | false => simp
    | true =>
      simp only [if_true]
      refine Act.eval_put (fun d hd => ?_)
      rintro h1
      cases h1
      exact h j (by simp) hp hd
def Ob (S : World → World → Prop) (P : Program) (ops : Array Oper) (n : Nat) (w0 : World) (a0 : Act) (i : Nat) (Γ : List DK) (o : Oper) (R : DK) : Prop :=
  ∀ (a : Act) (W : World) (x : Nat → Value), S w0 W → a.tmps.size = a0.tmps.size →
    (∀ e ∈ o.after, Region.binds .any e = true → ∀ t, dst ops e.on = some t → x e.on = a.eval (.tmp t)) →
    (∀ e ∈ o.after, Region.binds .any e = true → ∀ K, Γ[e.on]? = some K → K x (x e.on) W) →
    (∀ t, (∀ j, j < n → dst ops j ≠ some t) → a.eval (.tmp t) = a0.eval (.tmp t)) → (∀ t, lateB ops n i t = true → a.eval (.tmp t) = a0.eval (.tmp t)) →
    ∀ (K : Act → World → Prop) (Q : Exit → Act → World → Prop), (∀ v W', R x v W' → S W W' → K (a.put o.dst v) W') → o.wp P a W K Q


/-- The walk in the order of the text: at each operation something that stays known is chosen. -/
def walk (S : World → World → Prop) (P : Program) (ops : Array Oper) (n : Nat) (w0 : World) (a0 : Act) (T : List DK → Prop) : List DK → List Oper → Prop
  | Γ, [] => T Γ
  | Γ, o :: l => ∃ R, Stable S R ∧ Loc o R ∧ GOK ops Γ o ∧ (dst ops Γ.length = o.dst → Ob S P ops n w0 a0 Γ.length Γ o R) ∧ walk S P ops n w0 a0 T (Γ ++ [R]) l


theorem walk_all {n : Nat} {w0 : World} {a0 : Act} {T : List DK → Prop} : ∀ (l : List Oper) (Γ : List DK), walk S P ops n w0 a0 T Γ l →
    ∃ Δ : List DK, Δ.length = l.length ∧ T (Γ ++ Δ) ∧ ∀ k o, l[k]? = some o → ∃ R, Δ[k]? = some R ∧ Stable S R ∧ Loc o R ∧ GOK ops (Γ ++ Δ.take k) o ∧ (dst ops (Γ.length + k) = o.dst → Ob S P ops n w0 a0 (Γ.length + k) (Γ ++ Δ.take k) o R)
  | [], Γ, h => ⟨[], rfl, by simpa [walk] using h, fun k o hk => by simp at hk⟩
  | o :: l, Γ, h => by
    obtain ⟨R, hs, hlc, hg, hob, hw⟩ := h
    obtain ⟨Δ, hl, hT, hall⟩ := walk_all l _ hw
    refine ⟨R :: Δ, by simp [hl], by simpa using hT, fun k o' hk => ?_⟩
    cases k with
    | zero =>
      obtain rfl : o = o' := by simpa using hk
      exact ⟨R, rfl, hs, hlc, by simpa using hg, by simpa using hob⟩
    | succ k =>
      obtain ⟨R', h1, h2, h2', h3, h4⟩ := hall k o' (by simpa using hk)
      refine ⟨R', by simpa using h1, h2, h2', by simpa using h3, fun hd => ?_⟩
      have := h4 (by rw [← hd]; congr 1; simp; omega)
      have e : (Γ ++ [R]).length + k = Γ.length + (k + 1) := by simp; omega
      rw [e] at this
      simpa using this

theorem Ob.mono {n i : Nat} {w0 : World} {a0 : Act} {Γ Δ : List DK} {o : Oper} {R : DK} (h : Ob S P ops n w0 a0 i Γ o R) (hsub : ∀ e ∈ o.after, ∀ K, Γ[e.on]? = some K → Δ[e.on]? = some K) : Ob S P ops n w0 a0 i Δ o R :=
  fun a W x hb hz hx hd hbase hlt K Q hK => h a W x hb hz hx (fun e he hbd K' hK' => hd e he hbd K' (hsub e he K' hK')) hbase hlt K Q hK

/-- What holds while the head is on its way. -/
structure Inv (S : World → World → Prop) (ops : Array Oper) (n : Nat) (w0 : World) (a0 : Act) (Γ : List DK) (listed : Array Bool) (a : Act) (W : World) : Prop where
  below : S w0 W
  vals : ∃ x : Nat → Value, a = puts ops x (fun j => listed.getD j false) (List.range n) a0 ∧ ∀ j, j < n → listed.getD j false = true → ∀ K, Γ[j]? = some K → K x (x j) W


theorem go (ht' : ∀ a b c, S a b → S b c → S a c) {n : Nat} {Q : Exit → Act → World → Prop} {w0 : World} {a0 : Act} {Γ : List DK} (hok : okB ops n = true) (hsz : sizeB ops n a0.tmps.size = true)
    (hΓ : ∀ k, k < n → ∃ o R, ops[k]? = some o ∧ Γ[k]? = some R ∧ Stable S R ∧ Loc o R ∧ GOK ops Γ o ∧ Ob S P ops n w0 a0 k Γ o R)
    (hend : ∀ (x : Nat → Value) (W : World), S w0 W → (∀ j, j < n → ∀ K, Γ[j]? = some K → K x (x j) W) → wpAny P .any ops Q (ops.size - n) (Ln n ops.size) (puts ops x (fun _ => true) (List.range n) a0) W) :
    ∀ (f : Nat) (listed : Array Bool) (a : Act) (W : World), HeadInv .any ops n listed → left n listed = f → Inv S ops n w0 a0 Γ listed a W → wpAny P .any ops Q (f + (ops.size - n)) listed a W := by
  simp only [okB, Bool.and_eq_true, decide_eq_true_eq] at hok
  obtain ⟨⟨⟨⟨⟨hn, hs⟩, hc⟩, _⟩, hap⟩, hback⟩ := hok
  have hap := apart_of hap
  intro f
  induction f with
  | zero =>
    intro listed a W inv hl hI
    obtain ⟨hb, x, rfl, hx⟩ := hI
    have hall := all_listed hl
    rw [Nat.zero_add]
    rw [puts_agree (p' := fun _ => true) (x' := x) (List.range n) a0 (fun j hj => ⟨hall j (List.mem_range.1 hj), fun _ => rfl⟩), listed_Ln inv hl (by omega)]
    exact hend x W hb (fun j hj K hK => hx j hj (hall j hj) K hK)
  | succ f ih =>
    intro listed a W inv hl hI
    have hex : ∃ k, k < n ∧ listed.getD k true = false := by
      apply Classical.byContradiction
      intro hno
      have : left n listed = 0 := List.countP_eq_zero.2 (fun j hj => by
        have hj := List.mem_range.1 hj
        have hjs : j < listed.size := by rw [inv.size]; omega
        cases h : listed.getD j false with
        | true => simp
        | false => exact absurd ⟨j, hj, getD_in hjs h⟩ hno)
      omega
    obtain ⟨k, hk, hun⟩ := hex
    rw [show f + 1 + (ops.size - n) = (f + (ops.size - n)) + 1 by omega]
    refine ⟨fun h0 => ?_, fun i hi => ?_⟩
    · obtain ⟨i, hi⟩ := some_ready inv hback hn (k + 1) k (by omega) hk hun
      rw [h0] at hi
      cases hi
    have hin : i < n := by
      rcases Nat.lt_or_ge i n with h | h
      · exact h
      · exact absurd hi (tail_waits hs hc hn inv _ k rfl hk hun i h)
    obtain ⟨hiun, oi, hoi, hdeps⟩ := mem_ready.1 hi
    obtain ⟨o, R, ho, hR, hst, hlc, hg, hob⟩ := hΓ i hin
    obtain rfl : oi = o := Option.some.inj (hoi.symm.trans ho)
    obtain ⟨hb, x, rfl, hx⟩ := hI
    have hdi : dst ops i = oi.dst := by simp [dst, ho]
    have his : i < listed.size := by rw [inv.size]; omega
    have hif : listed.getD i false = false := getD_both hiun
    have hszt : ∀ j t, j < n → dst ops j = some t → t < a0.tmps.size := fun j t hj hd => by
      have := List.all_eq_true.1 hsz j (List.mem_range.2 hj)
      simpa [hd] using this
    have back : ∀ e ∈ oi.after, Region.binds .any e = true → e.on < i := fun e he hbd => by
      have h1 := List.all_eq_true.1 hback i (List.mem_range.2 (by omega))
      simp only [ho] at h1
      simpa [hbd] using Array.all_eq_true'.1 h1 e he
    unfold wpOp
    simp only [ho]
    have hwant : Region.wanted oi (yielded ops (puts ops x (fun j => listed.getD j false) (List.range n) a0).tmps) = true := by
      rcases hg with hg | ⟨g, b, t, hg, ⟨e, he, hbd, rfl⟩, hd, hK⟩
      · simp [Region.wanted, hg]
      · have hel := hdeps e he hbd
        have hen : e.on < n := by have := back e he hbd; omega
        have h1 := puts_here (x := x) (p := fun j => listed.getD j false) hap hen hel hd (List.range n) a0 (List.nodup_range) (List.mem_range.2 hen) (fun j hj => List.mem_range.1 hj) (hszt _ _ hen hd)
        have h2 : x e.on = .bool b := hx e.on hen hel _ hK
        have h3 : t < (puts ops x (fun j => listed.getD j false) (List.range n) a0).tmps.size := by rw [puts_size]; exact hszt _ _ hen hd
        rw [h2] at h1
        exact wanted_of hg hd h1 h3
    rw [if_pos hwant]
    refine .inl (hob _ W x hb (puts_size _ _) ?_ ?_ ?_ ?_ _ _ ?_)
    · intro e he hbd t ht
      have hel := hdeps e he hbd
      have hen : e.on < n := by have := back e he hbd; omega
      rw [puts_here hap hen hel ht (List.range n) a0 (List.nodup_range) (List.mem_range.2 hen) (fun j hj => List.mem_range.1 hj) (hszt _ _ hen ht)]
    · intro e he hbd K hK
      exact hx e.on (by have := back e he hbd; omega) (hdeps e he hbd) K hK
    · intro t ht
      exact puts_other _ _ (fun j hj => ht j (List.mem_range.1 hj))
    · intro t ht
      refine puts_off _ _ (fun j hj hp hd => ?_)
      obtain ⟨oj, hoj, e, he, hbd, hon⟩ := late_off ht (List.mem_range.1 hj) hd
      have h1 := inv.closed j oj hoj hp e he hbd
      rw [hon, hif] at h1
      cases h1
    · intro v W' hv hb'
      have hget : ∀ j, (listed.setIfInBounds i true).getD j false = upd (fun j => listed.getD j false) i true j := by
        intro j
        by_cases hji : j = i
        · subst hji
          simp [upd, his]
        · rw [getD_set_ne false (Ne.symm hji)]
          simp [upd, hji]
      refine ih _ _ W' (inv.set hi hin) ?_ ⟨ht' _ _ _ hb hb', upd x i v, ?_, ?_⟩
      · have h1 := countP_upd (i := i) (p := fun j => !listed.getD j false) (by simp [hif]) (List.range n) List.nodup_range (List.mem_range.2 hin)
        have h2 : left n (listed.setIfInBounds i true) = (List.range n).countP (upd (fun j => !listed.getD j false) i false) := by
          unfold left
          congr 1
          funext j
          rw [hget j]
          by_cases hji : j = i <;> simp [upd, hji]
        unfold left at hl
        omega
      · rw [← hdi, puts_new hap hin hif (List.range n) a0 List.nodup_range (List.mem_range.2 hin) (fun j hj => List.mem_range.1 hj)]
        exact puts_agree _ _ (fun j _ => ⟨(hget j).symm, fun _ => rfl⟩)
      · intro j hj hlj K hK
        rw [hget j] at hlj
        by_cases hji : j = i
        · subst hji
          obtain rfl : R = K := Option.some.inj (hR.symm.trans hK)
          have h1 : R (upd x j v) v W' := hlc x (upd x j v) (fun e he hbd => by
            have := back e he hbd
            simp [upd, show e.on ≠ j by omega]) v W' hv
          simpa [upd] using h1
        · have e1 : upd x i v j = x j := by simp [upd, hji]
          have e2 : listed.getD j false = true := by simpa [upd, hji] using hlj
          rw [e1]
          obtain ⟨oj, R', hoj', hR', hst', hlc', _⟩ := hΓ j hj
          obtain rfl : R' = K := Option.some.inj (hR'.symm.trans hK)
          refine hlc' x (upd x i v) (fun e he hbd => ?_) _ _ (hst' _ _ _ _ (hx j hj e2 _ hK) hb')
          have h1 := inv.closed j oj hoj' e2 e he hbd
          have h2 : e.on ≠ i := fun h => by rw [h, hif] at h1; cases h1
          simp [upd, h2]

/-- The frame with all values of the head. -/
def fill : List Oper → Nat → (Nat → Value) → Act → Act
  | [], _, _, a => a
  | o :: l, k, x, a => fill l (k + 1) x (a.put o.dst (x k))
theorem fill_puts {x : Nat → Value} : ∀ (l : List Oper) (k : Nat) (a : Act), (∀ j, j < l.length → l[j]? = ops[k + j]?) → fill l k x a = puts ops x (fun _ => true) (List.range' k l.length) a
  | [], _, _, _ => rfl
  | o :: l, k, a, h => by
    have h0 : ops[k]? = some o := by simpa using (h 0 (by simp)).symm
    have hd : dst ops k = o.dst := by simp [dst, h0]
    simp only [fill, List.length_cons, List.range'_succ, puts, if_true, hd]
    exact fill_puts l (k + 1) _ (fun j hj => by have := h (j + 1) (by simp; omega); simpa [Nat.add_assoc, Nat.add_comm 1 j] using this)

/-- ████ The region. -/
theorem region_w (ht' : ∀ a b c, S a b → S b c → S a c) (hdr : ∀ W, S W { W with drawn := W.drawn + 1 }) {Q : Exit → Act → World → Prop} {a : Act} {w : World} {l : List Oper} (n : Nat) (hok : okB l.toArray n = true) (hsz : sizeB l.toArray n a.tmps.size = true)
    (h : walk S P l.toArray n w a (fun (Γ : List DK) => ∀ (x : Nat → Value) (W : World), S w W → (∀ (j : Nat) (K : DK), Γ[j]? = some K → K x (x j) W) → wpList P l.toArray Q (l.drop n) (fill (l.take n) 0 x a) W) [] (l.take n)) :
    wpAny P .any l.toArray Q l.toArray.size (Array.replicate l.toArray.size false) a { w with drawn := w.drawn + 1 } := by
  have hok' := hok
  simp only [okB, Bool.and_eq_true, decide_eq_true_eq] at hok'
  obtain ⟨⟨⟨⟨⟨hn, _⟩, _⟩, hseq⟩, _⟩, hback⟩ := hok'
  have hn' : n < l.length := by simpa using hn
  have htl : (l.take n).length = n := by simp; omega
  obtain ⟨Δ, hlen, hT, hall⟩ := walk_all _ _ h
  rw [List.nil_append] at hT
  rw [htl] at hlen
  have hget : ∀ k, k < n → (l.take n)[k]? = l.toArray[k]? := fun k hk => by simp [List.getElem?_take, hk]
  have hΓ : ∀ k, k < n → ∃ o R, l.toArray[k]? = some o ∧ Δ[k]? = some R ∧ Stable S R ∧ Loc o R ∧ GOK l.toArray Δ o ∧ Ob S P l.toArray n w a k Δ o R := by
    intro k hk
    obtain ⟨o, ho⟩ : ∃ o, l.toArray[k]? = some o := ⟨_, Array.getElem?_eq_getElem (by simp; omega)⟩
    obtain ⟨R, h1, h2, h2', h3, h4⟩ := hall k o (by rw [hget k hk, ho])
    rw [List.nil_append] at h3
    simp only [List.length_nil, Nat.zero_add] at h4
    refine ⟨o, R, ho, h1, h2, h2', h3.mono (fun g K hK => by
      rw [List.getElem?_take] at hK
      split at hK
      · exact hK
      · cases hK), (h4 (by simp [dst, ho])).mono fun e he K hK => ?_⟩
    rw [List.nil_append] at hK
    rw [List.getElem?_take] at hK
    split at hK
    · exact hK
    · cases hK
  have inv0 : HeadInv .any l.toArray n (Array.replicate l.toArray.size false) :=
    ⟨by simp, fun j oj _ hl => (by rw [getD_replicate_false] at hl; cases hl), fun t _ ht => getD_in (by simpa using ht) (getD_replicate_false _ _)⟩
  have hleft : left n (Array.replicate l.toArray.size false) = n := by
    unfold left
    rw [List.countP_eq_length.2 (fun j _ => by rw [getD_replicate_false]; rfl), List.length_range]
  have hputs : ∀ x, puts l.toArray x (fun _ => true) (List.range n) a = fill (l.take n) 0 x a := fun x => by
    rw [fill_puts (ops := l.toArray) (l.take n) 0 a (fun j hj => by rw [htl] at hj; rw [hget j hj, Nat.zero_add]), htl, List.range_eq_range']
  have H := go ht' (P := P) (Q := Q) (w0 := w) (a0 := a) hok hsz hΓ (fun x W hb hx => by
    have hdl : (l.drop n).length = l.toArray.size - n := by simp
    have := wpAny_of_seq (md := .any) (Q' := Q) (ops := l.toArray) (P := P) (l.drop n) n (Ln n l.toArray.size) (fill (l.take n) 0 x a) W (fun j => by simp [List.getElem?_drop]) (by rw [hdl]; exact hseq)
      (hT x W hb (fun j K hK => hx j (by
        have := (List.getElem?_eq_some_iff.1 hK).1
        omega) K hK))
    rw [hputs x, ← hdl]
    exact this) n _ a { w with drawn := w.drawn + 1 } inv0 hleft ⟨hdr w, fun _ => undef, by
      rw [puts_agree (p' := fun _ => false) (x' := fun _ => undef) (List.range n) a (fun j _ => ⟨getD_replicate_false _ _, fun _ => rfl⟩)]
      exact (show ∀ (L : List Nat) (b : Act), b = puts l.toArray (fun _ => undef) (fun _ => false) L b from fun L => by
        induction L with
        | nil => intro b; rfl
        | cons j L ih => intro b; unfold puts; simpa using ih b) _ _, fun j _ hl => by rw [getD_replicate_false] at hl; cases hl⟩
  have e : n + (l.toArray.size - n) = l.toArray.size := by omega
  rw [e] at H
  exact H
end

abbrev Ctx := List (Option Tmp × DK)
def dep1 (x : Nat → Value) (j : Nat) : Option (Option Tmp × DK) → Act → World → Prop
  | some (some t, K), a, W => x j = a.eval (.tmp t) ∧ K x (a.eval (.tmp t)) W
  | _, _, _ => True
def deps (x : Nat → Value) (Γ : Ctx) (a : Act) (W : World) : List Nat → Prop
  | [] => True
  | j :: js => dep1 x j Γ[j]? a W ∧ deps x Γ a W js
theorem deps_of {x : Nat → Value} {Γ : Ctx} {a : Act} {W : World} : ∀ (js : List Nat), (∀ j ∈ js, dep1 x j Γ[j]? a W) → deps x Γ a W js
  | [], _ => trivial
  | j :: js, h => ⟨h j (by simp), deps_of js (fun k hk => h k (by simp [hk]))⟩
def facts (x : Nat → Value) (W : World) : Nat → Ctx → Prop
  | _, [] => True
  | k, (_, K) :: l => K x (x k) W ∧ facts x W (k + 1) l
theorem facts_of {x : Nat → Value} {W : World} : ∀ (l : Ctx) (k : Nat), (∀ (j : Nat) (K : DK), (l.map (·.2))[j]? = some K → K x (x (k + j)) W) → facts x W k l
  | [], _, _ => trivial
  | (d, K) :: l, k, h => ⟨h 0 K rfl, facts_of l (k + 1) (fun j K' hj => by have := h (j + 1) K' (by simpa using hj); rw [show k + 1 + j = k + (j + 1) by omega]; exact this)⟩
def GOK3 (Γ : Ctx) (o : Oper) : Prop := o.guard = none ∨ ∃ g b t, o.guard = some (g, b) ∧ g ∈ ons o ∧ Γ[g]? = some (some t, fun _ u _ => u = .bool b)
theorem gno {Γ : Ctx} {o : Oper} (h : o.guard = none) : GOK3 Γ o := .inl h
def Ob3 (S : World → World → Prop) (P : Program) (LT : Nat → Nat → Bool) (DS : List Tmp) (w0 : World) (a0 : Act) (Γ : Ctx) (o : Oper) (R : DK) : Prop :=
  ∀ (a : Act) (W : World) (x : Nat → Value), S w0 W → deps x Γ a W (ons o) → (∀ t, t ∉ DS → a.eval (.tmp t) = a0.eval (.tmp t)) → (∀ t, LT Γ.length t = true → a.eval (.tmp t) = a0.eval (.tmp t)) →
    ∀ (K : Act → World → Prop) (Q : Exit → Act → World → Prop), (∀ v W', R x v W' → S W W' → K (a.put o.dst v) W') → o.wp P a W K Q

def walk3 (S : World → World → Prop) (P : Program) (LT : Nat → Nat → Bool) (DS : List Tmp) (w0 : World) (a0 : Act) (T : Ctx → Prop) : Ctx → List Oper → Prop
  | Γ, [] => T Γ
  | Γ, o :: l => ∃ R, Stable S R ∧ Loc o R ∧ GOK3 Γ o ∧ Ob3 S P LT DS w0 a0 Γ o R ∧ walk3 S P LT DS w0 a0 T (Γ ++ [(o.dst, R)]) l
theorem walk_of_walk3 {S : World → World → Prop} {P : Program} {ops : Array Oper} {n : Nat} {DS : List Tmp} {LT : Nat → Nat → Bool} (hLT : LT = lateB ops n) {w0 : World} {a0 : Act} {T : Ctx → Prop} {T' : List DK → Prop} (hDS : ∀ t, t ∉ DS → ∀ j, j < n → dst ops j ≠ some t)
    (hT : ∀ Γ, T Γ → T' (Γ.map (·.2))) :
    ∀ (l : List Oper) (Γ : Ctx), (∀ j, j < l.length → l[j]? = ops[Γ.length + j]?) → (∀ j d R, Γ[j]? = some (d, R) → dst ops j = d) → walk3 S P LT DS w0 a0 T Γ l → walk S P ops n w0 a0 T' (Γ.map (·.2)) l
  | [], Γ, _, _, h => hT Γ h
  | o :: l, Γ, hl, hΓ, h => by
    obtain ⟨R, hs, hlc, hg, hob, hw⟩ := h
    have h0 : ops[Γ.length]? = some o := by simpa using (hl 0 (by simp)).symm
    have hg' : GOK ops (Γ.map (·.2)) o := by
      rcases hg with hg | ⟨g, b, t, hg, hin, hΓg⟩
      · exact .inl hg
      · obtain ⟨e, he, rfl⟩ := List.mem_map.1 hin
        obtain ⟨he1, he2⟩ := List.mem_filter.1 he
        exact .inr ⟨e.on, b, t, hg, ⟨e, by simpa using he1, he2, rfl⟩, hΓ _ _ _ hΓg, by simp [hΓg]⟩
    refine ⟨R, hs, hlc, hg', fun _ => ?_, ?_⟩
    · intro a W x hb hz hx hd hbase hlt K Q hK
      refine hob a W x hb (deps_of _ fun j hj => ?_) (fun t ht => hbase t (fun j hj => hDS t ht j hj)) (fun t ht => hlt t (by rw [List.length_map, ← hLT]; exact ht)) K Q hK
      obtain ⟨e, he, rfl⟩ := List.mem_map.1 hj
      obtain ⟨he1, he2⟩ := List.mem_filter.1 he
      have he' : e ∈ o.after := by simpa using he1
      cases hc : Γ[e.on]? with
      | none => trivial
      | some c =>
        obtain ⟨d, K'⟩ := c
        cases d with
        | none => trivial
        | some t =>
          have h1 := hx e he' he2 t (hΓ _ _ _ hc)
          have h2 := hd e he' he2 K' (by simp [hc])
          exact ⟨h1, h1 ▸ h2⟩
    · have := walk_of_walk3 hLT hDS hT l (Γ ++ [(o.dst, R)]) (fun j hj => by
        have := hl (j + 1) (by simp; omega)
        simpa [Nat.add_assoc, Nat.add_comm 1 j] using this) (fun j d R' hj => by
        rcases Nat.lt_or_ge j Γ.length with h | h
        · rw [List.getElem?_append_left h] at hj
          exact hΓ j d R' hj
        · have hjl : j < (Γ ++ [(o.dst, R)]).length := (List.getElem?_eq_some_iff.1 hj).1
          obtain rfl : j = Γ.length := by simp at hjl; omega
          simp at hj
          rw [← hj.1]
          simp [dst, h0]) hw
      simpa using this

theorem region3_w {S : World → World → Prop} (ht' : ∀ a b c, S a b → S b c → S a c) (hdr : ∀ W, S W { W with drawn := W.drawn + 1 }) {P : Program} {Q : Exit → Act → World → Prop} {a : Act} {w : World} {l : List Oper} (n : Nat) (hok : okB l.toArray n = true) (hsz : sizeB l.toArray n a.tmps.size = true)
    (h : walk3 S P (lateB l.toArray n) ((l.take n).filterMap (·.dst)) w a (fun Γ => ∀ (x : Nat → Value) (W : World), S w W → facts x W 0 Γ → wpList P l.toArray Q (l.drop n) (fill (l.take n) 0 x a) W) [] (l.take n)) :
    wpAny P .any l.toArray Q l.toArray.size (Array.replicate l.toArray.size false) a { w with drawn := w.drawn + 1 } := by
  have hn' : n < l.length := by
    simp only [okB, Bool.and_eq_true, decide_eq_true_eq] at hok
    simpa using hok.1.1.1.1.1
  have htl : (l.take n).length = n := by simp; omega
  refine region_w ht' hdr n hok hsz (walk_of_walk3 (n := n) rfl (fun t ht j hj hd => ht ?_) (fun Γ hT x W hb hx => hT x W hb (facts_of Γ 0 (fun j K hj => by rw [Nat.zero_add]; exact hx j K hj))) (l.take n) [] (fun j hj => by
      rw [htl] at hj
      simp [List.getElem?_take, hj]) (fun j d R hj => by simp at hj) h)
  have hlj : j < l.length := by omega
  simp [dst, hlj] at hd
  exact List.mem_filterMap.2 ⟨l[j], List.mem_iff_getElem.2 ⟨j, by omega, by simp⟩, hd⟩
theorem region3 {S : World → World → Prop} (ht' : ∀ a b c, S a b → S b c → S a c) (hdr : ∀ W, S W { W with drawn := W.drawn + 1 }) {P : Program} {id : Nat} {Q : Exit → Act → World → Prop} {a : Act} {w : World} {l : List Oper} (n : Nat) (hm : P.follows .mixedOrders = true) (hok : okB l.toArray n = true) (hsz : sizeB l.toArray n a.tmps.size = true)
    (h : walk3 S P (lateB l.toArray n) ((l.take n).filterMap (·.dst)) w a (fun Γ => ∀ (x : Nat → Value) (W : World), S w W → facts x W 0 Γ → wpList P l.toArray Q (l.drop n) (fill (l.take n) 0 x a) W) [] (l.take n)) :
    (Code.region id l.toArray true).wp P Q a w := wp_region_any hm (region3_w ht' hdr n hok hsz h)
section
variable {S : World → World → Prop} {P : Program} {LT : Nat → Nat → Bool} {DS : List Tmp} {w0 : World} {a0 : Act} {T : Ctx → Prop} {Γ : Ctx} {o : Oper} {rest : List Oper}

theorem loc_const {o : Oper} {R : Value → World → Prop} : Loc o (fun _ => R) := fun _ _ _ _ _ h => h
theorem op3 (hr : ∀ W, S W W) (v : Value) (hg : GOK3 Γ o) (h : ∀ (a : Act) (W : World) (x : Nat → Value), S w0 W → deps x Γ a W (ons o) → (∀ t, t ∉ DS → a.eval (.tmp t) = a0.eval (.tmp t)) → (execOp a.eval o).run P W = .ok (.value v) W)
    (hn : walk3 S P LT DS w0 a0 T (Γ ++ [(o.dst, fun _ u _ => u = v)]) rest) : walk3 S P LT DS w0 a0 T Γ (o :: rest) :=
  ⟨_, fun _ _ _ _ h _ => h, loc_const, hg, fun a W x hb hd hbase _ K Q hK => by
    unfold Oper.wp
    rw [h a W x hb hd hbase]
    exact hK v W rfl (hr W), hn⟩
/-- One operation that yields a value, and may turn the world. -/
theorem opW3 (R : DK) (hs : Stable S R) (hl : Loc o R) (hg : GOK3 Γ o)
    (h : ∀ (a : Act) (W : World) (x : Nat → Value), S w0 W → deps x Γ a W (ons o) → (∀ t, t ∉ DS → a.eval (.tmp t) = a0.eval (.tmp t)) → ∃ v W', (execOp a.eval o).run P W = .ok (.value v) W' ∧ R x v W' ∧ S W W')
    (hn : walk3 S P LT DS w0 a0 T (Γ ++ [(o.dst, R)]) rest) : walk3 S P LT DS w0 a0 T Γ (o :: rest) :=
  ⟨R, hs, hl, hg, fun a W x hb hd hbase _ K Q hK => by
    obtain ⟨v, W', hrun, hR, hS⟩ := h a W x hb hd hbase
    unfold Oper.wp
    rw [hrun]
    exact hK v W' hR hS, hn⟩
/-- An append. -/
theorem app3 (R : DK) (hs : Stable S R) (hl : Loc o R) (s y : Operand) (t : TypeId) (hop : o.op = .call { callee := .builtin .append, args := #[s, y], argTypes := #[t, t] }) (hg : GOK3 Γ o)
    (h : ∀ (a : Act) (W : World) (x : Nat → Value), S w0 W → deps x Γ a W (ons o) → (∀ t, t ∉ DS → a.eval (.tmp t) = a0.eval (.tmp t)) → ∃ v W', (Builtin.append_ #[t, t] o.type #[a.eval s, a.eval y]).run P W = .ok v W' ∧ R x v W' ∧ S W W')
    (hn : walk3 S P LT DS w0 a0 T (Γ ++ [(o.dst, R)]) rest) : walk3 S P LT DS w0 a0 T Γ (o :: rest) :=
  ⟨R, hs, hl, hg, fun a W x hb hd hbase _ K Q hK => by
    obtain ⟨v, W', hrun, hR, hS⟩ := h a W x hb hd hbase
    unfold Oper.wp
    simp [execOp, hop, resolve, invoke, builtin, hrun, Result.andThen]
    exact hK v W' hR hS, hn⟩
/-- A copy of a slot that later operations of the head overwrite. -/
theorem late3 (hr : ∀ W, S W W) (t : Nat) (v : Value) (ho : o.op = .move (.tmp t)) (hl : LT Γ.length t = true) (hv : a0.eval (.tmp t) = v) (hg : GOK3 Γ o)
    (hn : walk3 S P LT DS w0 a0 T (Γ ++ [(o.dst, fun _ u _ => u = v)]) rest) : walk3 S P LT DS w0 a0 T Γ (o :: rest) :=
  ⟨_, fun _ _ _ _ h _ => h, loc_const, hg, fun a W x hb hd hbase hlt K Q hK => by
    unfold Oper.wp
    have e : (execOp a.eval o).run P W = .ok (.value v) W := by
      unfold execOp
      simp [ho, hlt t hl, hv]
    rw [e]
    exact hK v W rfl (hr W), hn⟩
theorem done3 (h : T Γ) : walk3 S P LT DS w0 a0 T Γ [] := h
end
end Go.Proofs.YtdeapbihbhoefaaGreatDoor.RelL

/- Several slices of integers, each in a row of its own; two of them grow in one drawn region. No function of the program. -/
namespace Go.Proofs.YtdeapbihbhoefaaGreatDoor
open Go.RowKit
open Calm (bcell Blk)
def Apt (u v : Value) : Prop := ∀ k, u.ownBlock = some k → v.ownBlock ≠ some k
theorem Apt.symm {u v : Value} (h : Apt u v) : Apt v u := fun k hv hu => h k hu hv
def OwnI (W : World) (base : Nat) (p : Value × List Int) : Prop := W.ownsRow base 3 1 p.1 p.2.length (p.2.map fun z => (.int .i64 z))
/-- slices of integers, no two of them in one row. -/
def Rows (W : World) (base : Nat) (ps : List (Value × List Int)) : Prop := (∀ p ∈ ps, OwnI W base p) ∧ ps.Pairwise (fun p q => Apt p.1 q.1)
theorem Rows.kept {W W' : World} {base : Nat} {ps : List (Value × List Int)} (h : Rows W base ps) (hb : ∀ p ∈ ps, ∀ k, p.1.ownBlock = some k → W'.heap[k]? = W.heap[k]?) : Rows W' base ps :=
  ⟨fun p hp => ownsRow_block (h.1 p hp) (hb p hp), h.2⟩
theorem Rows.below {W W' : World} {base : Nat} {ps : List (Value × List Int)} (h : Rows W base ps) (hb : Below W.heap.size W W') : Rows W' base ps :=
  h.kept fun p hp k hk => hb.block k ((h.1 p hp).lt k hk).2
theorem Rows.setCell {W : World} {base : Nat} {ps : List (Value × List Int)} (h : Rows W base ps) {q : Addr} (hq : q.block < base) (v : Value) : Rows (W.setCell q v) base ps :=
  h.kept fun p hp k hk => Below.heap_setCell _ _ _ _ (by have := ((h.1 p hp).lt k hk).1; omega)
theorem Rows.rot {W : World} {base : Nat} {a b c d e f : Value × List Int} (h : Rows W base [a, b, c, d, e, f]) : Rows W base [c, d, e, f, a, b] := by
  obtain ⟨h1, h2⟩ := h
  refine ⟨fun p hp => h1 p (by simp at hp ⊢; rcases hp with h | h | h | h | h | h <;> simp [h]), ?_⟩
  simp only [List.pairwise_cons, List.mem_cons, List.not_mem_nil, or_false, forall_eq_or_imp, forall_eq, List.Pairwise.nil, and_true, false_implies, implies_true] at h2 ⊢
  obtain ⟨⟨a1, a2, a3, a4, a5⟩, ⟨b1, b2, b3, b4⟩, ⟨c1, c2, c3⟩, ⟨d1, d2⟩, e1⟩ := h2
  exact ⟨⟨c1, c2, c3, a2.symm, b1.symm⟩, ⟨d1, d2, a3.symm, b2.symm⟩, ⟨e1, a4.symm, b3.symm⟩, ⟨a5.symm, b4.symm⟩, a1⟩
theorem pair_grw (base : Nat) (u1 u2 : Value) (l1 l2 : List Int) (ps : List (Value × List Int)) (x1 x2 : Int) (W0 : World) (hR : Rows W0 base ((u1, l1) :: (u2, l2) :: ps)) (hb : base ≤ W0.heap.size) (h1 : l1.length ≤ 100000) (h2 : l2.length ≤ 100000) :
    ∃ (T : Nat → Obj → Prop) (R1 : Value → World → Prop) (R2 : Value → Value → World → Prop), (∀ k o, T k o → (base ≤ k ∧ k < W0.heap.size) ∧ (u1.ownBlock = some k ∨ u2.ownBlock = some k)) ∧
      (∀ v W W', R1 v W → Grw T W W' → R1 v W') ∧ (∀ v1 v W W', R2 v1 v W → Grw T W W' → R2 v1 v W') ∧
      (∀ W, Grw T W0 W → ∀ b c, W.cell? ⟨b, 0, none⟩ = some (.int .i64 x1) → ∃ v' W', (Builtin.append_ #[22, 22] 22 #[u1, .slice (some ⟨b, 0, none⟩) 1 c]).run Tryz.prog W = .ok v' W' ∧ R1 v' W' ∧ Grw T W W') ∧
      (∀ W v1, Grw T W0 W → R1 v1 W → ∀ b c, W.cell? ⟨b, 0, none⟩ = some (.int .i64 x2) → ∃ v' W', (Builtin.append_ #[22, 22] 22 #[u2, .slice (some ⟨b, 0, none⟩) 1 c]).run Tryz.prog W = .ok v' W' ∧ R2 v1 v' W' ∧ Grw T W W') ∧
      (∀ W v1 v2, Grw T W0 W → R1 v1 W → R2 v1 v2 W → Rows W base ((v1, l1 ++ [x1]) :: (v2, l2 ++ [x2]) :: ps)) := by
  obtain ⟨i1, hi1, jz0, jz1, jz2⟩ := info_parts Tryz.infoI
  obtain ⟨hO, hP⟩ := hR
  have hO1 := hO (u1, l1) (by simp)
  have hO2 := hO (u2, l2) (by simp)
  simp only [List.pairwise_cons, List.mem_cons, forall_eq_or_imp] at hP
  obtain ⟨⟨p12, p1⟩, p2, pp⟩ := hP
  obtain ⟨g1, o1, q1, s1⟩ := append_grw (P := Tryz.prog) base 22 22 3 i1 _ 8 Tryz.underlying22 hi1 jz0 jz1 jz2 rfl u1 l1.length _ (.int .i64 x1) rfl W0 hO1 hb (by unfold maxLen; omega) (by omega)
  obtain ⟨g2, o2, q2, s2⟩ := append_grw (P := Tryz.prog) base 22 22 3 i1 _ 8 Tryz.underlying22 hi1 jz0 jz1 jz2 rfl u2 l2.length _ (.int .i64 x2) rfl W0 hO2 hb (by unfold maxLen; omega) (by omega)
  have n12 : ∀ k, g1 = some k → g2 ≠ some k := fun k h h' => p12 k (q1 k h).1 (q2 k h').1
  refine ⟨fun k o => g1 = some k ∧ o = o1 ∨ g2 = some k ∧ o = o2, RowAt base 3 g1 o1 W0.heap.size (l1.length + 1) (l1.map (fun z => ((.int .i64 z) : Value)) ++ [(.int .i64 x1)]), fun v1 v W => RowAt base 3 g2 o2 W0.heap.size (l2.length + 1) (l2.map (fun z => ((.int .i64 z) : Value)) ++ [(.int .i64 x2)]) v W ∧ Apt v1 v, ?_, ?_, ?_, ?_, ?_, ?_⟩
  · rintro k o (⟨h, _⟩ | ⟨h, _⟩)
    · exact ⟨(q1 k h).2, .inl (q1 k h).1⟩
    · exact ⟨(q2 k h).2, .inr (q2 k h).1⟩
  · refine fun v W W' h hS => RowAt.stable ?_ ?_ v W W' h hS
    · rintro k o (⟨h, _⟩ | ⟨h, _⟩)
      · exact (q1 k h).2.2
      · exact (q2 k h).2.2
    · rintro k o hk (⟨_, h⟩ | ⟨h, _⟩)
      · exact h
      · exact absurd h (n12 k hk)
  · refine fun v1 v W W' h hS => ⟨RowAt.stable ?_ ?_ v W W' h.1 hS, h.2⟩
    · rintro k o (⟨h, _⟩ | ⟨h, _⟩)
      · exact (q1 k h).2.2
      · exact (q2 k h).2.2
    · rintro k o hk (⟨h, _⟩ | ⟨_, h⟩)
      · exact absurd hk (n12 k h)
      · exact h
  · intro W hS b c hx
    obtain ⟨v', W', r1, r2, r3, _⟩ := s1 (fun k o => g1 = some k ∧ o = o1 ∨ g2 = some k ∧ o = o2) (fun k hk o => ⟨fun h => h.elim id (fun h => absurd (q2 k h.1).1 (p12 k hk)), fun h => .inl h⟩) W hS b c hx
    exact ⟨v', W', r1, r2, r3⟩
  · intro W v1 hS hv1 b c hx
    obtain ⟨v', W', r1, r2, r3, r4⟩ := s2 (fun k o => g1 = some k ∧ o = o1 ∨ g2 = some k ∧ o = o2) (fun k hk o => ⟨fun h => h.elim (fun h => absurd hk (p12 k (q1 k h.1).1)) id, fun h => .inr h⟩) W hS b c hx
    refine ⟨v', W', r1, ⟨r2, fun k hk hk' => ?_⟩, r3⟩
    have hlt := (hv1.1.lt k hk).2
    rcases r4 with ⟨r5, r6⟩ | r6
    · rw [hk'] at r6
      have e2 := q2 k r6.symm
      rcases hv1.2 with ⟨k1, e3, e4, _⟩ | ⟨k1, e4, e5⟩
      · rw [hk] at e4; cases e4
        exact n12 k e3 r6.symm
      · rw [hk] at e4; cases e4
        omega
    · rw [hk'] at r6; cases r6
      omega
  · intro W v1 v2 hS hv1 hv2
    have old : ∀ p ∈ ps, ∀ k, p.1.ownBlock = some k → k < W0.heap.size ∧ W.heap[k]? = W0.heap[k]? := by
      intro p hp k hk
      have hlt := ((hO p (by simp [hp])).lt k hk).2
      refine ⟨hlt, (hS.block k hlt).elim id ?_⟩
      rintro ⟨o, ⟨h, _⟩ | ⟨h, _⟩, _⟩
      · exact absurd hk (p1 p hp k (q1 k h).1)
      · exact absurd hk (p2 p hp k (q2 k h).1)
    refine ⟨fun p hp => ?_, ?_⟩
    · simp only [List.mem_cons] at hp
      rcases hp with rfl | rfl | hp
      · unfold OwnI; simpa using hv1.1
      · unfold OwnI; simpa using hv2.1.1
      · exact ownsRow_block (hO p (by simp [hp])) (fun k hk => (old p hp k hk).2)
    · simp only [List.pairwise_cons, List.mem_cons, forall_eq_or_imp]
      refine ⟨⟨hv2.2, fun p hp k hk hk' => ?_⟩, fun p hp k hk hk' => ?_, pp⟩
      · rcases hv1.2 with ⟨k1, e3, e4, _⟩ | ⟨k1, e4, e5⟩
        · rw [hk] at e4; cases e4
          exact p1 p hp k (q1 k e3).1 hk'
        · rw [hk] at e4; cases e4
          have := (old p hp k hk').1
          omega
      · rcases hv2.1.2 with ⟨k1, e3, e4, _⟩ | ⟨k1, e4, e5⟩
        · rw [hk] at e4; cases e4
          exact p2 p hp k (q2 k e3).1 hk'
        · rw [hk] at e4; cases e4
          have := (old p hp k hk').1
          omega
theorem NewS.grw {T : Nat → Obj → Prop} {B n c : Nat} {cs : Array Value} (hT : ∀ k o, T k o → k < B) : RelL.Stable (Grw T) (fun _ => Rel.NewS B n c cs) := by
  rintro _ v W W' ⟨g, h1, h2, h3⟩ hS
  exact ⟨g, h1, h2, h3.of_block ((hS.block g h3.lt).elim id (fun ⟨o, e1, _⟩ => by have := hT g o e1; omega))⟩
namespace RelL
open Rel (ons)
variable {T : Nat → Obj → Prop} {P : Program} {LT : Nat → Nat → Bool} {DS : List Tmp} {w0 : World} {a0 : Act} {U : Ctx → Prop} {Γ : Ctx} {o : Oper} {rest : List Oper}
theorem build3 (hT : ∀ k o, T k o → k < w0.heap.size) (t : TypeId) (n c : Nat) (cs : Array Value) (hg : GOK3 Γ o)
    (h : ∀ (a : Act) (W : World) (x : Nat → Value), Grw T w0 W → deps x Γ a W (ons o) → (∀ t, t ∉ DS → a.eval (.tmp t) = a0.eval (.tmp t)) → (execOp a.eval o).run P W = .ok (.value (.slice (some ⟨W.heap.size, 0, none⟩) n c)) (W.alloc (.cells cs t)))
    (hn : walk3 (Grw T) P LT DS w0 a0 U (Γ ++ [(o.dst, fun _ => Rel.NewS w0.heap.size n c cs)]) rest) : walk3 (Grw T) P LT DS w0 a0 U Γ (o :: rest) :=
  opW3 _ (NewS.grw hT) loc_const hg (fun a W x hb hd hbase => ⟨_, _, h a W x hb hd hbase, ⟨_, rfl, hb.size, Calm.Blk.new W t cs⟩, Grw.of ((Below.refl _ _).alloc (Nat.le_refl _) _)⟩) hn
end RelL
end Go.Proofs.YtdeapbihbhoefaaGreatDoor
