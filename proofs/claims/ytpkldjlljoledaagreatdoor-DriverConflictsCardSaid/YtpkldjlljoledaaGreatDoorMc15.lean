/- Part 15 of the texts of the claim: Sett, It4, It5. -/
import Derived.Test.YtpkldjlljoledaaGreatDoorMc14
import Derived.Test.YtpkldjlljoledaaGreatDoorMc11
import Derived.Maps.OwnIn
import Derived.Maps.OwnSet
import Derived.Maps.RangeWalk
import Derived.Laws.BitsLemmas
import Derived.Test.YtpkldjlljoledaaGreatDoorMc9

/- Worlds that turn in rows of their own alone, each of them at one index to one value; an append onto a row that the region itself made. No program. -/
namespace Go.Proofs.YtpkldjlljoledaaGreatDoor
open Go.RowKit
open Calm (bcell Blk)
/-- below B nothing turns; a block from B on is as it was, or has x at its index n. -/
structure Sett (n : Nat) (x : Value) (B : Nat) (W W' : World) : Prop where
  below : Below B W W'
  row : ∀ g, B ≤ g → g < W.heap.size → W'.heap[g]? = W.heap[g]? ∨ ∃ cur t, W.heap[g]? = some (.cells cur t (0, 0)) ∧ W'.heap[g]? = some (.cells (cur.setIfInBounds n x) t (0, 0))
theorem Sett.refl {n : Nat} {x : Value} {B : Nat} (W : World) : Sett n x B W W := ⟨Below.refl _ _, fun _ _ _ => .inl rfl⟩
theorem set_twice (cur : Array Value) (n : Nat) (x : Value) : (cur.setIfInBounds n x).setIfInBounds n x = cur.setIfInBounds n x := by
  apply Array.ext
  · simp
  · intro i h1 h2
    simp [Array.getElem_setIfInBounds]
theorem Sett.trans {n : Nat} {x : Value} {B : Nat} (a b c : World) (h : Sett n x B a b) (h' : Sett n x B b c) : Sett n x B a c := by
  refine ⟨h.below.trans h'.below, fun g hg hl => ?_⟩
  have hl' : g < b.heap.size := Nat.lt_of_lt_of_le hl h.below.size
  rcases h'.row g hg hl' with e' | ⟨cur', t', e1', e2'⟩
  · rcases h.row g hg hl with e | ⟨cur, t, e1, e2⟩
    · exact .inl (e'.trans e)
    · exact .inr ⟨cur, t, e1, e'.trans e2⟩
  · rcases h.row g hg hl with e | ⟨cur, t, e1, e2⟩
    · exact .inr ⟨cur', t', e.symm.trans e1', e2'⟩
    · rw [e2] at e1'
      cases e1'
      exact .inr ⟨cur, _, e1, by rw [e2', set_twice]⟩
theorem Sett.drawn {n : Nat} {x : Value} {B : Nat} (W : World) : Sett n x B W { W with drawn := W.drawn + 1 } := ⟨⟨rfl, rfl, rfl, Nat.le_refl _, fun _ _ => rfl⟩, fun _ _ _ => .inl rfl⟩
theorem Sett.of {n : Nat} {x : Value} {B : Nat} {W W' : World} (h : Below W.heap.size W W') (hB : B ≤ W.heap.size) : Sett n x B W W' := ⟨h.mono hB, fun g _ hl => .inl (h.block g hl)⟩
theorem Sett.ofGe {n : Nat} {x : Value} {w0 W W' : World} (hS : Sett n x w0.heap.size w0 W) (h : Below W.heap.size W W') : Sett n x w0.heap.size W W' := Sett.of h hS.below.size
theorem take_set_list (l : List Value) (m n : Nat) (x : Value) : (l.set n x).take m = (l.take m).set n x := List.take_set
theorem ownsRow_sett {n : Nat} {x : Value} {B : Nat} {W W' : World} {e m : Nat} {v : Value} {ys : List Value} (h : W.ownsRow B e 1 v m ys) (hS : Sett n x B W W') (hy : ys.set n x = ys) : W'.ownsRow B e 1 v m ys := by
  refine ⟨h.1, ?_⟩
  rcases h.2 with h2 | ⟨g, cap, cur, h1, h2, h3, h4, h5, h6, h7⟩
  · exact .inl h2
  · refine .inr ?_
    rcases hS.row g h2 (Array.getElem?_eq_some_iff.1 h3).1 with e1 | ⟨cur', t, e1, e2⟩
    · exact ⟨g, cap, cur, h1, h2, e1.trans h3, h4, h5, h6, h7⟩
    · rw [h3] at e1
      cases e1
      refine ⟨g, cap, _, h1, h2, e2, h4, h5, by simpa using h6, ?_⟩
      rw [Array.toList_setIfInBounds, take_set_list, h7, hy]
theorem Blk.sett {n : Nat} {x : Value} {B : Nat} {W W' : World} {g : Nat} {cs : Array Value} (h : Calm.Blk W g cs) (hS : Sett n x B W W') (hg : B ≤ g) (hy : cs.setIfInBounds n x = cs) : Calm.Blk W' g cs := by
  rcases hS.row g hg h.lt with e1 | ⟨cur, t, e1, e2⟩
  · exact ⟨Nat.lt_of_lt_of_le h.lt hS.below.size, fun i => (World.cell?_of_block (w := W) (a := ⟨g, i, none⟩) e1).trans (h.c i), fun i => (World.frozen?_of_block (w := W) (a := ⟨g, i, none⟩) e1).trans (h.f i)⟩
  · refine ⟨Nat.lt_of_lt_of_le h.lt hS.below.size, fun i => ?_, fun i => ?_⟩
    · have h1 : cur[i]? = cs[i]? := by rw [← h.c i, cell_of_row W g i cur t _ e1]
      rw [cell_of_row W' g i _ t _ e2, Array.getElem?_setIfInBounds]
      have h2 : (cs.setIfInBounds n x)[i]? = cs[i]? := by rw [hy]
      rw [Array.getElem?_setIfInBounds] at h2
      have hsz : (n < cur.size) = (n < cs.size) := by
        have h3 : cur[n]? = cs[n]? := by rw [← h.c n, cell_of_row W g n cur t _ e1]
        apply propext
        constructor
        · intro hh
          rw [Array.getElem?_eq_getElem hh] at h3
          exact (Array.getElem?_eq_some_iff.1 h3.symm).1
        · intro hh
          rw [Array.getElem?_eq_getElem hh] at h3
          exact (Array.getElem?_eq_some_iff.1 h3).1
      split
      · rename_i hni
        rw [if_pos hni] at h2
        split
        · rename_i hlt
          rw [if_pos (by rw [← hsz]; exact hlt)] at h2
          exact h2
        · rename_i hlt
          rw [if_neg (by rw [← hsz]; exact hlt)] at h2
          exact h2
      · exact h1
    · have h1 := h.f i
      unfold World.frozen? at h1 ⊢
      simp only [e1] at h1
      simp only [e2]
      exact h1
/-- One value appended onto a row of the region's own. -/
theorem append_sett {P : Program} (B : Nat) (t ty e : TypeId) (i : TypeInfo) (z : Value) (bytes : Nat) (ht : P.underlying t = some (.slice e)) (hi : P.info? e = some i) (hz : i.zero = some z) (hsize : i.size = 1) (hby : i.bytes = bytes) (hzs : z.cells.size = 1)
    (u : Value) (n : Nat) (xs : List Value) (x : Value) (h1 : x.oneCell' = true) (W : World) (hown : W.ownsRow B e 1 u n xs) (hb : B ≤ W.heap.size) (h63 : n + 1 ≤ maxLen) (hbytes : (n + 1) * bytes ≤ 140737488355328) (b c : Nat) (hx : W.cell? ⟨b, 0, none⟩ = some x) :
    ∃ v' W', (Builtin.append_ #[t, t] ty #[u, .slice (some ⟨b, 0, none⟩) 1 c]).run P W = .ok v' W' ∧ W'.ownsRow B e 1 v' (n + 1) (xs ++ [x]) ∧ Sett n x B W W' := by
  have hadd : ∀ j v, [x][j]? = some v → W.cell? ((⟨b, 0, none⟩ : Addr).add j) = some v := by
    intro j v hj
    match j, hj with
    | 0, hj => simp at hj; subst hj; simpa [Addr.add] using hx
  have hone : ∀ v ∈ [x], v.oneCell' = true := fun v hv => by simp at hv; subst hv; exact h1
  obtain ⟨v', W', r1, r2, r3, _, r5⟩ := run_append_own_at (P := P) W B t ty e i z 1 bytes ht hi hz hsize hby hzs (by decide) u n xs hown ⟨b, 0, none⟩ 1 c [x] rfl hadd hone h63 hbytes hb
  refine ⟨v', W', r1, r2, ?_⟩
  rcases hown.2 with ⟨hu, hn0⟩ | ⟨g, cap, cur, hu, hbg, hg, hnc, hcm, hcs, htake⟩
  · have hun : u.ownBlock = none := by rw [hu]; rfl
    rw [hun] at r3
    exact Sett.of ⟨r3.os, r3.tape, r3.output, r3.size, fun k hk => r3.block k hk (by simp)⟩ hb
  · have hun : u.ownBlock = some g := by rw [hu]; rfl
    by_cases hroom : n + 1 ≤ cap
    · have hrun := run_append_room (P := P) W t ty e i ht hi g n cap cur hg ⟨b, 0, none⟩ 1 c [x] (by rw [hsize]; rfl) hadd hone hroom (by rw [hsize, hcs]; simp; omega)
      rw [hsize, Nat.mul_one, show n + [x].length = n + 1 from rfl, ← hu, r1] at hrun
      injection hrun with q1 q2
      have hh := setRow_heap W g cur (cur.toList.take n ++ [x] ++ cur.toList.drop (n + 1)).toArray e (0, 0) hg
      rw [← q2] at hh
      have hset : (cur.toList.take n ++ [x] ++ cur.toList.drop (n + 1)).toArray = cur.setIfInBounds n x := by
        apply Array.toList_inj.1
        rw [Array.toList_setIfInBounds, List.set_eq_take_append_cons_drop]
        rw [if_pos (by simp; omega)]
        simp
      rw [hset] at hh
      refine ⟨⟨r3.os, r3.tape, r3.output, r3.size, fun k hk => r3.block k (by omega) (by rw [hun]; simp; omega)⟩, fun k hk hl => ?_⟩
      by_cases hkg : k = g
      · subst hkg
        exact .inr ⟨cur, e, hg, hh⟩
      · exact .inl (r3.block k hl (by rw [hun]; simpa using hkg))
    · have hcell : ∀ j v, xs[j]? = some v → W.cell? ((⟨g, 0, none⟩ : Addr).add j) = some v := hown.cells (g := g) (by rw [hun])
      have hgr := run_append_grow (P := P) W t ty e i z ht hi hz ⟨g, 0, none⟩ n cap xs (by rw [hown.1, hsize]) hcell ⟨b, 0, none⟩ 1 c [x] (by rw [hsize]; rfl) hadd (by omega) (by simp only [maxLen] at h63; omega) (growslice_fits (by omega) (by rw [hby]; exact hbytes))
      rw [← hu, r1] at hgr
      injection hgr with q1 q2
      have hW : ∀ k, k < W.heap.size → W'.heap[k]? = W.heap[k]? := fun k hk => by rw [q2]; exact Below.heap_alloc _ _ _ hk
      exact Sett.of ⟨r3.os, r3.tape, r3.output, r3.size, hW⟩ hb
namespace RelH
open Rel (ons)
variable {S : World → World → Prop} {P : Program} {DS : List Tmp} {w0 : World} {a0 : Act} {U : Ctx → Prop} {Γ : Ctx} {o : Oper} {rest : List Oper}
/-- A call, by a contract. -/
theorem callR3 (R : DK) (hs : Stable S R) (hl : Loc o R) (hof : ∀ W W', S w0 W → Below W.heap.size W W' → S W W') (hg : GOK3 Γ o)
    (h : ∀ (a : Act) (W : World) (x : Nat → Value), S w0 W → deps x Γ a W (ons o) → (∀ t, t ∉ DS → a.eval (.tmp t) = a0.eval (.tmp t)) → ∃ f args, (execOp a.eval o).run P W = .ok (.enter f args) W ∧ Calls P f args W fun e W' => ∃ v, e = .returned v ∧ R x v W' ∧ Below W.heap.size W W')
    (hn : walk3 S P DS w0 a0 U (Γ ++ [(o.dst, R)]) rest) : walk3 S P DS w0 a0 U Γ (o :: rest) :=
  ⟨R, hs, hl, hg, fun a W x hb hd hbase K Q hK => by
    obtain ⟨f, args, hrun, hc⟩ := h a W x hb hd hbase
    unfold Oper.wp
    rw [hrun]
    simp only [Oper.upon]
    refine hc.mono ?_
    rintro e W' ⟨v, rfl, hR, hbb⟩
    exact hK v W' hR (hof W W' hb hbb), hn⟩
/-- One operation that only reads, of whose result R is known. -/
theorem opR3 (hr : ∀ W, S W W) (R : DK) (hs : Stable S R) (hl : Loc o R) (hg : GOK3 Γ o)
    (h : ∀ (a : Act) (W : World) (x : Nat → Value), S w0 W → deps x Γ a W (ons o) → (∀ t, t ∉ DS → a.eval (.tmp t) = a0.eval (.tmp t)) → ∃ v, (execOp a.eval o).run P W = .ok (.value v) W ∧ R x v W)
    (hn : walk3 S P DS w0 a0 U (Γ ++ [(o.dst, R)]) rest) : walk3 S P DS w0 a0 U Γ (o :: rest) :=
  opW3 R hs hl hg (fun a W x hb hd hbase => by
    obtain ⟨v, h1, h2⟩ := h a W x hb hd hbase
    exact ⟨v, W, h1, h2, hr W⟩) hn
end RelH
end Go.Proofs.YtpkldjlljoledaaGreatDoor

/- Contract of (Class).explained. -/
namespace Go.Proofs.YtpkldjlljoledaaGreatDoor
open Go.RowKit
open Calm (bcell Blk)

/-- the readings that are explained, as bits. -/
def maskN (p : Int × Int × Int → Bool) (zs : List (Int × Int × Int)) : Nat → Nat
  | 0 => 0
  | k + 1 => if p (zs.getD k (0, 0, 0)) = true then maskN p zs k ||| 2 ^ k else maskN p zs k
theorem maskN_lt (p : Int × Int × Int → Bool) (zs : List (Int × Int × Int)) : ∀ k, maskN p zs k < 2 ^ k
  | 0 => by simp [maskN]
  | k + 1 => by
    have h := maskN_lt p zs k
    have h2 : 2 ^ k < 2 ^ (k + 1) := Nat.pow_lt_pow_right (by decide) (by omega)
    unfold maskN
    split
    · exact Nat.or_lt_two_pow (Nat.lt_trans h h2) h2
    · exact Nat.lt_trans h h2
theorem wraps_i64 (n : Int) (h₀ : 0 ≤ n) (h₁ : n < 2 ^ 62) : IntKind.i64.wrap n = n := by rw [IntKind.wrap_i64]; omega
theorem or64 (a b : Nat) (ha : a < 2 ^ 62) (hb : b < 2 ^ 62) : bits .or .i64 a b = ((a ||| b : Nat) : Int) := (bits_nat .i64 62 (by decide) wraps_i64 a b ha hb).2
theorem and64 (a b : Nat) (ha : a < 2 ^ 62) (hb : b < 2 ^ 62) : bits .and .i64 a b = ((a &&& b : Nat) : Int) := (bits_nat .i64 62 (by decide) wraps_i64 a b ha hb).1

theorem wrap_two (k : Nat) (h : k < 9) : wrap64 ((2 : Int) ^ k) = ((2 ^ k : Nat) : Int) := by
  have hk : k = 0 ∨ k = 1 ∨ k = 2 ∨ k = 3 ∨ k = 4 ∨ k = 5 ∨ k = 6 ∨ k = 7 ∨ k = 8 := by omega
  rcases hk with rfl | rfl | rfl | rfl | rfl | rfl | rfl | rfl | rfl <;> first | rfl | (simp [wrap64]; done)
theorem two_lt (k : Nat) (h : k < 9) : 2 ^ k < 2 ^ 62 := Nat.pow_lt_pow_right (by decide) (by omega)
theorem Tryz.keyI : Go.Maps.Keyed Tryz.prog 3 := Go.Maps.int_keyed Tryz.underlying3
def fitOf (re le bl : Int) (x : Int × Int × Int) (z : Int × Int × Int) : Bool := fitB re le bl x.1 x.2.1 x.2.2 z.1 z.2.1 z.2.2
def maskOf (re le bl : Int) (zs : List (Int × Int × Int)) (x : Int × Int × Int) : Nat := maskN (fitOf re le bl x) zs zs.length
/-- a map whose keys are the masks of these drivers. -/
def MaskMap (re le bl : Int) (zs xs : List (Int × Int × Int)) (n : Nat) (B : Nat) (W : World) : Prop :=
  ∃ D : DataW Unit, W.ownsMap Tryz.prog 3 (plainElem Tryz.prog 4) B n D ∧ ∀ kl, Maps.has D kl = true ↔ ∃ x ∈ xs, kl = .int .i64 (maskOf re le bl zs x : Nat)
theorem MaskMap.kept {re le bl : Int} {zs xs : List (Int × Int × Int)} {n B : Nat} {W W' : World} {row : Option Nat} (h : MaskMap re le bl zs xs n B W) (hg : W.grownBy W' row) (hne : some B ≠ row) : MaskMap re le bl zs xs n B W' := by
  obtain ⟨D, h1, h2⟩ := h
  exact ⟨D, h1.kept hg hne, h2⟩
theorem MaskMap.lt {re le bl : Int} {zs xs : List (Int × Int × Int)} {n B : Nat} {W : World} (h : MaskMap re le bl zs xs n B W) : B < W.heap.size := by
  obtain ⟨D, h1, h2⟩ := h
  exact h1.lt
theorem grownBy_setCellAny (W : World) (a : Addr) (v : Value) : W.grownBy (W.setCell a v) (some a.block) :=
  ⟨rfl, rfl, rfl, (KeepsWalks.setCell W _ v).size, fun k _ hk => Below.heap_setCell _ _ _ k (fun e => hk (by rw [e]))⟩
theorem grownBy_below {W W' : World} (h : Below W.heap.size W W') (row : Option Nat) : W.grownBy W' row := ⟨h.os, h.tape, h.output, h.size, fun k hk _ => h.block k hk⟩
theorem MaskMap.put {re le bl : Int} {zs xs : List (Int × Int × Int)} {n B : Nat} {W : World} {x : Int × Int × Int} {D : DataW Unit} (h1 : W.ownsMap Tryz.prog 3 (plainElem Tryz.prog 4) B n (D.put (.int .i64 (maskOf re le bl zs x : Nat)) (.lit (.bool true))))
    (hD : Maps.IsMap D) (h2 : ∀ kl, Maps.has D kl = true ↔ ∃ y ∈ xs, kl = .int .i64 (maskOf re le bl zs y : Nat)) : MaskMap re le bl zs (xs ++ [x]) n B W := by
  refine ⟨_, h1, fun kl => ?_⟩
  by_cases hkl : kl = .int .i64 (maskOf re le bl zs x : Nat)
  · subst hkl
    rw [Maps.has_put_same hD (by simp [WideAt.IsKeyLit])]
    exact ⟨fun _ => ⟨x, by simp, rfl⟩, fun _ => rfl⟩
  · rw [Maps.has_put_other hkl, h2]
    constructor
    · rintro ⟨y, hy, rfl⟩
      exact ⟨y, by simp [hy], rfl⟩
    · rintro ⟨y, hy, rfl⟩
      rcases List.mem_append.1 hy with h | h
      · exact ⟨y, h, rfl⟩
      · simp at h; subst h; exact absurd rfl hkl

set_option maxRecDepth 100000 in
set_option maxHeartbeats 8000000 in
theorem explained_any (re le bl ma st lo m k r : Int) (A : Option Addr) (zs : List (Int × Int × Int)) (c : Nat) (w : World) (hC : RCells w A zs) (hn : zs.length ≤ 8) (h : regErr re le bl ma st lo m k r zs = 0) :
    Calls Tryz.prog 63 #[.agg #[(.int .i64 (re)), (.int .i64 (le)), (.int .i64 (bl)), (.int .i64 (ma)), (.int .i64 (st)), (.int .i64 (lo)), (.int .i64 (m)), (.int .i64 (k)), (.int .i64 (r))], .slice A zs.length c] w fun x w' => ∃ B, x = .returned (.map (some B)) ∧ w.heap.size ≤ B ∧ MaskMap re le bl zs (drvs ma st lo m k r) 4096 B w' ∧ Below w.heap.size w w' := by
  have hmm := @run_makeMap Tryz.prog
  have hfn : ∀ f, Fence.wide.fn f = True := fun _ => rfl
  have h3 := firstOf_eq_zero.1 (show firstOf [classErr re le bl ma st lo m k r, readsErr zs] = 0 from h)
  have H4 := Lib.hid (show classErr re le bl ma st lo m k r = 0 from h3 _ (by simp))
  have H5 := Lib.hid (show readsErr zs = 0 from h3 _ (by simp))
  have HC := Lib.hid hC
  obtain ⟨N, hN⟩ : ∃ N, N = zs.length := ⟨_, rfl⟩
  have HN := Lib.hid hN
  rw [← hN] at hn ⊢
  clear hC h h3 hN
  refine (callsIn_wide (n := 10)).1 ?_
  refine callsIn_of_wp_marks Tryz.func63 rfl trivial ?_ rfl
  simp only [Tryz.ntmps63, List.size_toArray, List.length_cons, List.length_nil, Nat.reduceAdd, Nat.reduceSub, Array.replicate_succ, Array.replicate_zero, List.push_toArray, List.append_toArray, List.nil_append, List.cons_append]
  gi_wp2_with (gi_at_call 57; refine (callsIn_wide.2 (drivers_any re le bl ma st lo m k r _)).mono ?_; rintro r w5 ⟨rfl, hb5, K5⟩; obtain ⟨hc5, hf5⟩ := bcell hb5)
  have hL5 : w5.heap[w.heap.size + 1]? = some (.cells #[.slice A N c] 38 (0, 0)) := (hb5.block _ (by simp; try omega)).trans (heap_old (by simp; try omega) (heap_old (by simp; try omega) (heap_new (by simp))))
  have hO5 : w5.heap[w.heap.size + 1 + 1 + 1]? = some (.cells #[.map (some (w.heap.size + 1 + 1))] 126 (0, 0)) := (hb5.block _ (by simp)).trans (heap_new (by simp))
  have hM5 : MaskMap re le bl zs [] 0 (w.heap.size + 1 + 1) w5 := by
    refine MaskMap.kept (row := none) (MaskMap.kept (row := none) ⟨.map [], ?_, ?_⟩ (World.grownBy_alloc _ _ none) (by simp)) (grownBy_below hb5 none) (by simp)
    · have := World.ownsMap_made (H := Unit) ((w.alloc (.cells #[(.int .i64 (re)), (.int .i64 (le)), (.int .i64 (bl)), (.int .i64 (ma)), (.int .i64 (st)), (.int .i64 (lo)), (.int .i64 (m)), (.int .i64 (k)), (.int .i64 (r))] 36)).alloc (.cells #[.slice A N c] 38)) Tryz.prog 3 (plainElem Tryz.prog 4)
      simpa using this
    · intro kl; simp [Maps.has]
  have HB5 := Lib.hid (show Below w.heap.size w w5 from (((((Below.refl w.heap.size w).alloc (Nat.le_refl _) _).alloc (by simp) _).alloc (by simp; try omega) _).alloc (by simp; try omega) _).trans (hb5.mono (by simp; omega)))
  simp only [World.size_alloc] at K5
  have hz5 := K5.lt
  clear hb5 hc5 hf5 hmm
  obtain ⟨hd, ⟨a1, a2⟩, ⟨a3, a4⟩, ⟨a5, a6⟩⟩ := class_zero (classErr_zero H4.out).1
  have HLEN := Lib.hid (drvs_bound H4.out)
  have HZ := Lib.hid (readErrs_all (show firstOf (readErrs zs) = 0 by
        have := H5.out
        unfold readsErr at this
        split at this
        · simp at this
        · exact this))
  obtain ⟨_, _, _, d1, d2, d3⟩ := drvErr_zero hd
  have HD := Lib.hid hd
  have hLb := Lib.hid hL5
  have hOb := Lib.hid hO5
  have hIO : OwnFrom w5.heap.size (fun (pre : List (Int × Int × Int)) W => (MaskMap re le bl zs pre pre.length (w.heap.size + 1 + 1) W ∧ ((∀ k, k < w5.heap.size → k ≠ w.heap.size + 1 + 1 → W.heap[k]? = w5.heap[k]?) ∧ Below w.heap.size w W))) :=
    OwnFrom.and (fun pre X Y row hs hg hrow => hs.kept hg (fun e => by have := (hrow _ e.symm).1; omega)) (OwnFrom.and (kb_own w5 _) (ownFrom_below (Nat.le_refl _) (by omega)))
  have HIO := Lib.hid hIO
  refine range_iter (F := Fence.wide) (n := 10) rfl (by decide) (gf := 100) (lb := #[.pointer (some ⟨w.heap.size + 1 + 1 + 1 + 1, 0, none⟩)]) rfl trivial (enters_of Tryz.func100 (by kernel_rfl) rfl)
    (enc := encD re le bl) (all := drvs ma st lo m k r) (Cb := w.heap.size + 1 + 1 + 1 + 1) hz5 (drivers1_iter re le bl ma st lo m k r _ w5 _ ⟨d1, d2, d3⟩ ⟨a2, a4, a6⟩ K5) rfl
    _
    hIO ?his ⟨hM5, fun _ _ _ => rfl, HB5.out⟩
    (fun (pre : List (Int × Int × Int)) (x : Int × Int × Int) (a' : Act) (W : World) => (MaskMap re le bl zs pre pre.length (w.heap.size + 1 + 1) W ∧ ((∀ k, k < w5.heap.size → k ≠ w.heap.size + 1 + 1 → W.heap[k]? = w5.heap[k]?) ∧ Below w.heap.size w W)) ∧
      ∃ Bx, w5.heap.size + 2 < Bx ∧ W.heap[Bx]? = some (.cells #[(.int .i64 (re)), (.int .i64 (le)), (.int .i64 (bl)), (.int .i64 (x.1)), (.int .i64 (x.2.1)), (.int .i64 (x.2.2))] 34 (0, 0)) ∧ a' = { tmps := #[.agg #[(.int .i64 (re)), (.int .i64 (le)), (.int .i64 (bl)), (.int .i64 (ma)), (.int .i64 (st)), (.int .i64 (lo)), (.int .i64 (m)), (.int .i64 (k)), (.int .i64 (r))], .slice A N c, .pointer (some ⟨w.heap.size, 0, none⟩), .pointer (some ⟨w.heap.size + 1, 0, none⟩), .map none, .pointer (some ⟨w.heap.size + 1 + 1 + 1, 0, none⟩), .pointer (some ⟨Bx, 0, none⟩), undef, undef, undef, .map (some (w.heap.size + 1 + 1)), .agg #[(.int .i64 (re)), (.int .i64 (le)), (.int .i64 (bl)), (.int .i64 (ma)), (.int .i64 (st)), (.int .i64 (lo)), (.int .i64 (m)), (.int .i64 (k)), (.int .i64 (r))], .func (.func 100) #[] #[.pointer (some ⟨w.heap.size + 1 + 1 + 1 + 1, 0, none⟩)], encD re le bl x, undef, undef, undef, undef, undef, undef, undef, undef, undef, undef, undef, undef, undef, undef, undef, undef, undef, undef], defers := [] })
    ?hax ?assign ?body ?done
  case his =>
    rintro pre W i v ⟨hv, hk, hB⟩
    exact ⟨hv.kept (grownBy_setCellAny _ _ _) (by simp; omega), fun k h1 h2 => (Below.heap_setCell _ _ _ _ (by simp; omega)).trans (hk k h1 h2), hB.setCell (by simp; omega) v⟩
  case hax =>
    rintro pre x a' s X Y row ⟨hi, Bx, h1, h2, h3⟩ hg hrow
    exact ⟨hIO pre X Y row hi hg hrow, Bx, h1, heapRow_own _ _ _ s X Y row h2 hg (fun r e => (hrow r e).2), h3⟩
  case assign =>
    rintro l pre x W hi ⟨post, hpost⟩ hsz hcb
    have hsem : ∀ (ρ : Operand → Value) (o : Oper), (∀ c, o.op ≠ .defer c) → Oper.semAt (some l) ρ o = execOp ρ o := Oper.semAt_some l
    have HI := Lib.hid hi
    clear hi hIO hpost hcb
    dsimp only [encD]
    gi_wp2
    exact ⟨(Same.refl _ _).alloc _, HIO.out.alloc _ HI.out, W.heap.size, hsz, World.alloc_heap_new W _, rfl⟩
  case body =>
    rintro l pre ⟨x1, x2, x3⟩ a' W ⟨⟨hv, hk, hB⟩, Bx, hBx, hx, rfl⟩ ⟨post, hpost⟩ hsz hcb
    have hsem : ∀ (ρ : Operand → Value) (o : Oper), (∀ c, o.op ≠ .defer c) → Oper.semAt (some l) ρ o = execOp ρ o := Oper.semAt_some l
    obtain ⟨⟨b1, b2⟩, ⟨b3, b4⟩, ⟨b5, b6⟩⟩ := mem_drvs (show (x1, x2, x3) ∈ drvs ma st lo m k r by rw [hpost]; simp)
    simp only at b1 b2 b3 b4 b5 b6
    have hdx := Lib.hid (drvErr_move HD.out (show 1 ≤ x1 ∧ x1 ≤ 100 by omega) (show 1 ≤ x2 ∧ x2 ≤ 5000 by omega) (show 1 ≤ x3 ∧ x3 ≤ 100 by omega))
    have hlen : pre.length + 1 ≤ 4096 := by have h1 := HLEN.out; rw [hpost] at h1; simp at h1; omega
    have hBlt := (Array.getElem?_eq_some_iff.1 hx).1
    have e1 := hk (w.heap.size + 1) (by omega) (by omega)
    have e3 := hk (w.heap.size + 1 + 1 + 1) (by omega) (by omega)
    have lc := cell_of_row W _ 0 _ _ _ (e1.trans hLb.out)
    have oc := cell_of_row W _ 0 _ _ _ (e3.trans hOb.out)
    have x0 := cell_of_row W _ 0 _ _ _ hx
    have x1' := cell_of_row W _ 1 _ _ _ hx
    have x2' := cell_of_row W _ 2 _ _ _ hx
    have x3' := cell_of_row W _ 3 _ _ _ hx
    have x4' := cell_of_row W _ 4 _ _ _ hx
    have x5' := cell_of_row W _ 5 _ _ _ hx
    simp at lc oc x0 x1' x2' x3' x4' x5'
    have hwl : w.heap.size + 1 + 1 + 1 < W.heap.size := by omega
    have hWw : w.heap.size ≤ W.heap.size := by omega
    have RCW := Lib.hid (HC.out.below hB)
    have HV := Lib.hid hv
    have HK := Lib.hid hk
    have HB := Lib.hid hB
    have HX := Lib.hid hx
    clear hv hk hB hx e1 e3 hpost hcb b1 b2 b3 b4 b5 b6 hIO hL5 hO5 hM5
    gi_wp2
    gi_loopw [7, 16] (fun s i wr => ∃ k : Nat, k ≤ N ∧ s = (.int .i64 ((maskN (fitOf re le bl (x1, x2, x3)) zs k : Nat))) ∧ i = (.int .i64 (k)) ∧ Below W.heap.size W wr) (fun _ i _ => N - (intOf i).toNat)
    case atStart => exact ⟨0, Nat.zero_le _, rfl, rfl, Below.refl _ _⟩
    case round =>
      obtain ⟨k, hk, rfl, rfl, hBr⟩ := hrel
      have hszr := hBr.size
      have hBx2 : Bx < wr.heap.size := by omega
      have hwl2 : w.heap.size + 1 + 1 + 1 < wr.heap.size := by omega
      obtain ⟨hcr, hfr⟩ := bcell hBr
      have HBR := Lib.hid hBr
      obtain ⟨s0, hs0⟩ : ∃ s0, s0 = maskN (fitOf re le bl (x1, x2, x3)) zs k := ⟨_, rfl⟩
      have hsl := maskN_lt (fitOf re le bl (x1, x2, x3)) zs k
      rw [← hs0] at hsl ⊢
      have HS0 := Lib.hid hs0
      clear hs0 hBr
      by_cases hlt : k < N
      · have hlt2 : k < zs.length := by rw [← HN.out]; exact hlt
        obtain ⟨b, o, rfl, l1, k1⟩ := RCW.out (by omega)
        obtain ⟨y1, y2, y3⟩ := k1 k hlt2
        have hE := HZ.out k hlt2
        have HST := Lib.hid (show maskN (fitOf re le bl (x1, x2, x3)) zs (k + 1) = if fitOf re le bl (x1, x2, x3) (zs.getD k (0, 0, 0)) = true then s0 ||| 2 ^ k else s0 by rw [HS0.out]; rfl)
        obtain ⟨⟨u1, u2, u3⟩, hu⟩ : ∃ x, x = zs.getD k (0, 0, 0) := ⟨_, rfl⟩
        rw [← hu] at y1 y2 y3 hE
        have HU := Lib.hid hu
        clear hu k1
        simp only [] at y1 y2 y3 hE
        obtain ⟨q1, q2, q3, _⟩ := readErr_zero hE
        have hF := fit_of hdx.out q1
        clear hE hlt2
        cases hf : fitB re le bl x1 x2 x3 u1 u2 u3
        · have HF := Lib.hid hf
          clear hf
          gi_wp2_with (gi_at_call 99; refine (CallsIn.inRound l (callsIn_wide.2 (fits_any re le bl x1 x2 x3 u1 u2 u3 _ hF q2 q3))).mono ?_; rw [HF.out]; rintro r w6 ⟨rfl, hb6⟩)
          have hb7 := hb6.size
          go_roundw
          case rel =>
            refine ⟨k + 1, by omega, ?_, by go_num, HBR.out.trans ((((Below.refl wr.heap.size wr).alloc (Nat.le_refl _) _).trans (hb6.mono (by simp))).mono hszr)⟩
            rw [HST.out, ← HU.out, if_neg (by simp [fitOf, HF.out])]
          case measure => simp [intOf]; omega
        · have HF := Lib.hid hf
          clear hf
          gi_wp2_with (gi_at_call 99; refine (CallsIn.inRound l (callsIn_wide.2 (fits_any re le bl x1 x2 x3 u1 u2 u3 _ hF q2 q3))).mono ?_; rw [HF.out]; rintro r w6 ⟨rfl, hb6⟩)
          have hb7 := hb6.size
          go_roundw
          case rel =>
            refine ⟨k + 1, by omega, ?_, by go_num, HBR.out.trans ((((Below.refl wr.heap.size wr).alloc (Nat.le_refl _) _).trans (hb6.mono (by simp))).mono hszr)⟩
            rw [HST.out, ← HU.out, if_pos (by simp [fitOf, HF.out]), wrap_two k (by omega), or64 _ _ (Nat.lt_trans hsl (two_lt k (by omega))) (two_lt k (by omega))]
          case measure => simp [intOf]; omega
      · obtain rfl : k = N := by omega
        have hwr := HV.out.kept (grownBy_below HBR.out none) (by simp)
        obtain ⟨D0, hown, hkeys⟩ := hwr
        have HOWN := Lib.hid hown
        have HKEYS := Lib.hid hkeys
        have HSM := Lib.hid (show s0 = maskOf re le bl zs (x1, x2, x3) by rw [HS0.out, HN.out]; rfl)
        have hs62 : s0 < 2 ^ 62 := Nat.lt_trans hsl (two_lt k (by omega))
        clear hown hkeys
        gi_wp2_with (gi_at_mapUpdate; refine wpListIn_mapUpdate_own _ rfl _ _ _ 126 rfl 3 4 Tryz.keyI Tryz.underlying126 _ (w.heap.size + 1 + 1) pre.length _ rfl HOWN.out (by unfold maxLen; omega) _ _ _ rfl rfl (Go.Maps.keyOf_int_mk Tryz.underlying3 (WalkArith.wf_i64 (by omega))) _ [] (plainElem_bool Tryz.underlying4 true) ?_; intro w9 hown9 hgrow9)
        have hm9 : MaskMap re le bl zs (pre ++ [(x1, x2, x3)]) (pre ++ [(x1, x2, x3)]).length (w.heap.size + 1 + 1) w9 := by
          rw [List.length_append]
          rw [HSM.out] at hown9
          exact MaskMap.put hown9 HOWN.out.isMap HKEYS.out
        refine ⟨Same.grown ((Same.refl _ _).below HBR.out (fun k hk => by rcases hk with rfl | rfl | rfl | rfl <;> omega)) hgrow9 (fun k e hk => by cases e; rcases hk with h | h | h | h <;> omega), hm9, fun k h1 h2 => (hgrow9.block k (by omega) (fun e => h2 (by cases e; rfl))).trans ((HBR.out.block k (by omega)).trans (HK.out k h1 h2)), ?_⟩
        exact (HB.out.trans (HBR.out.mono hWw)).grown hgrow9 (by omega) (fun k e => by cases e; omega)
  case done =>
    rintro W ⟨hv, hk, hB⟩ hdef
    have oc := cell_of_row W _ 0 _ _ _ ((hk (w.heap.size + 1 + 1 + 1) (by omega) (by omega)).trans hOb.out)
    simp at oc
    obtain ⟨D0, hown, hkeys⟩ := hv
    have hM : MaskMap re le bl zs (drvs ma st lo m k r) 4096 (w.heap.size + 1 + 1) W := ⟨D0, hown.mono HLEN.out, hkeys⟩
    have HM := Lib.hid hM
    have HB := Lib.hid hB
    have HDEF := Lib.hid hdef
    have hDl := (Array.getElem?_eq_some_iff.1 hdef).1
    have hBm := hown.lt
    have hBd : w.heap.size + 1 + 1 ≠ w5.heap.size := by omega
    clear hIO hown hkeys hk hdef hB hM hL5 hO5 hM5
    gi_wp2
    refine ⟨by simp, .inl ⟨_, _, rfl, run_takeDeferred HDEF.out, ?_⟩⟩
    exact ⟨_, results_tmp rfl _ _ _, _, rfl, by omega, HM.out.kept (grownBy_putObj' _ _ _) (by simp; omega), HB.out.trans (belowK_b (w := w) (Nat.le_refl _) W _ _ _ (by omega) HDEF.out rfl rfl)⟩
end Go.Proofs.YtpkldjlljoledaaGreatDoor

/- Contracts of members and earlier. -/
namespace Go.Proofs.YtpkldjlljoledaaGreatDoor
open Go.RowKit
open Calm (bcell Blk)

/-- the indices in a set, as far as i. -/
def memN (s i : Nat) : List Nat := (List.range i).filter fun j => s / 2 ^ j % 2 == 1
def memL (s : Nat) : List Nat := memN s 8
def ints (l : List Nat) : List Value := l.map fun n => (.int .i64 ((n : Nat)))
theorem ints_append (a b : List Nat) : ints (a ++ b) = ints a ++ ints b := by simp [ints]
theorem memN_succ (s i : Nat) : memN s (i + 1) = memN s i ++ (if s / 2 ^ i % 2 = 1 then [i] else []) := by
  unfold memN
  rw [List.range_succ, List.filter_append]
  by_cases h : s / 2 ^ i % 2 = 1 <;> simp [h]
theorem memN_le (s i : Nat) : (memN s i).length ≤ i := Nat.le_trans (List.length_filter_le _ _) (by simp)
theorem memN_end (s i j : Nat) (h : s / 2 ^ i = 0) (hij : i ≤ j) : memN s j = memN s i := by
  induction hij with
  | refl => rfl
  | @step j hj ih =>
    rw [memN_succ, ih]
    have : s / 2 ^ j = 0 := by
      have h1 : s < 2 ^ i := by
        rcases Nat.lt_or_ge s (2 ^ i) with h1 | h1
        · exact h1
        · have := Nat.div_pos h1 (Nat.two_pow_pos i); omega
      exact Nat.div_eq_of_lt (Nat.lt_of_lt_of_le h1 (Nat.pow_le_pow_right (by decide) hj))
    simp [this]
theorem div_top (s : Nat) (h : s < 256) : s / 2 ^ 8 = 0 := Nat.div_eq_of_lt h
theorem memL_eq (s i : Nat) (h : s / 2 ^ i = 0) (hi : i ≤ 8) : memL s = memN s i := memN_end s i 8 h hi
theorem memL_pos (s : Nat) (h : s < 256) (h1 : 1 ≤ s) : 0 < (memL s).length := by
  rcases Nat.eq_zero_or_pos (memL s).length with h0 | h0
  · exfalso
    have h2 := List.filter_eq_nil_iff.1 (List.eq_nil_of_length_eq_zero h0)
    have f0 := h2 0 (by simp)
    have f1 := h2 1 (by simp)
    have f2 := h2 2 (by simp)
    have f3 := h2 3 (by simp)
    have f4 := h2 4 (by simp)
    have f5 := h2 5 (by simp)
    have f6 := h2 6 (by simp)
    have f7 := h2 7 (by simp)
    simp at f0 f1 f2 f3 f4 f5 f6 f7
    omega
  · exact h0
theorem and_one (n : Nat) (h : n < 256) : bits .and .i64 (n : Nat) 1 = ((n % 2 : Nat) : Int) := by
  have := and64 n 1 (Nat.lt_trans h (by decide)) (by decide)
  rw [Nat.and_one_is_mod] at this
  exact this

set_option maxRecDepth 100000 in
set_option maxHeartbeats 4000000 in
theorem members_any (s : Nat) (w : World) (hs : s < 256) : Calls Tryz.prog 64 #[(.int .i64 ((s : Nat)))] w fun x w' => ∃ v, x = .returned v ∧ w'.ownsRow w.heap.size 3 1 v (memL s).length (ints (memL s)) ∧ Below w.heap.size w w' := by
  obtain ⟨i0, hi, hz0, hz1, hz2⟩ := info_parts Tryz.infoI
  go_enter Tryz.func64, Tryz.ntmps64
  go_wp2
  go_loopw [3, 4] (fun v i wr => ∃ k : Nat, k ≤ 8 ∧ i = (.int .i64 ((k : Nat))) ∧ wr.ownsRow w.heap.size 3 1 v (memN s k).length (ints (memN s k)) ∧ Below w.heap.size w wr) (fun _ i _ => 8 - (intOf i).toNat)
  case atStart => exact ⟨0, by omega, rfl, World.ownsRow_nil _ _ _ _, Below.refl _ _⟩
  case round =>
    obtain ⟨k, hk, rfl, hown, hB⟩ := hrel
    have hsz := hB.size
    have hle := memN_le s k
    obtain ⟨t, ht⟩ : ∃ t, t = s / 2 ^ k := ⟨_, rfl⟩
    have htl : t < 256 := by rw [ht]; exact Nat.lt_of_le_of_lt (Nat.div_le_self _ _) hs
    have ha := and_one t htl
    have hdv : ((s : Nat) : Int) / 2 ^ k = ((t : Nat) : Int) := by rw [ht]; simp
    have HT := Lib.hid ht
    have HO := Lib.hid hown
    have hk8 : k = 8 → t = 0 := fun e => by rw [ht, e]; exact div_top s hs
    have HS := Lib.hid (memN_succ s k)
    clear ht hown
    by_cases h0 : t = 0
    · have HE := Lib.hid (memL_eq s k (by rw [← HT.out]; exact h0) hk)
      subst h0
      clear hk8
      go_wp2
      go_ret
      exact ⟨_, rfl, by rw [HE.out]; exact HO.out, hB⟩
    · have hk7 : k < 8 := by rcases Nat.lt_or_ge k 8 with h | h; exact h; exact absurd (hk8 (by omega)) h0
      have htp : ¬ ((t : Nat) : Int) = 0 := by omega
      clear hk8
      rcases Nat.mod_two_eq_zero_or_one t with h2 | h2
      · have ha2 : bits .and .i64 (t : Nat) 1 = 0 := by rw [ha, h2]; rfl
        have H2 := Lib.hid h2
        clear ha h2
        go_wp2
        go_roundw
        case rel => exact ⟨k + 1, by omega, by go_num, by rw [HS.out, ← HT.out, if_neg (by rw [H2.out]; decide), List.append_nil]; exact HO.out, hB⟩
        case measure => simp [intOf]; omega
      · have ha2 : bits .and .i64 (t : Nat) 1 = 1 := by rw [ha, h2]; rfl
        have H2 := Lib.hid h2
        clear ha h2
        go_wp2_with (at_builtin; refine wpList_append_own _ rfl _ _ 43 rfl w.heap.size 3 i0 _ 1 8 Tryz.underlying43 hi hz0 hz1 hz2 rfl (by decide) _ _ _ rfl (HO.out.alloc _) ⟨wr.heap.size, 0, none⟩ 1 1 [(.int .i64 ((k : Nat)))] rfl rfl (by intro j u hj; match j, hj with | 0, hj => simp at hj; subst hj; simp [Addr.add]) (by intro u hu; simp at hu; subst hu; rfl) (by unfold maxLen; omega) (by omega) (by simp; omega) ?_; intro v' w2 hown' hgrow _)
        have hB2 : Below w.heap.size w w2 := (hB.alloc hsz _).grown hgrow (by simp; omega) (fun j hj => (HO.out.lt j hj).1)
        have HO2 := Lib.hid hown'
        clear hgrow hown'
        go_roundw
        case rel =>
          refine ⟨k + 1, by omega, by go_num, ?_, hB2⟩
          rw [HS.out, ← HT.out, if_pos H2.out, ints_append, List.length_append]
          exact HO2.out
        case measure => simp [intOf]; omega

/-- the first of two lists of one length. -/
def lexI : List Int → List Int → Bool
  | x :: a, y :: b => if x = y then lexI a b else decide (x < y)
  | _, _ => false
def earlierI (a b : List Int) : Bool := if a.length = b.length then lexI a b else decide (a.length < b.length)
theorem lexI_at : ∀ (a b : List Int) (k : Nat), (∀ j, j < k → a.getD j 0 = b.getD j 0) → k < a.length → k < b.length → a.getD k 0 ≠ b.getD k 0 → lexI a b = decide (a.getD k 0 < b.getD k 0)
  | x :: a, y :: b, 0, _, _, _, h => by
    simp at h
    simp [lexI, h]
  | x :: a, y :: b, k + 1, hj, h1, h2, h => by
    have e : x = y := by simpa using hj 0 (by omega)
    have := lexI_at a b k (fun j hjk => by simpa using hj (j + 1) (by omega)) (by simpa using h1) (by simpa using h2) (by simpa using h)
    simpa [lexI, e] using this
  | [], _, k, _, h1, _, _ => by simp at h1
  | _ :: _, [], k, _, _, h2, _ => by simp at h2
theorem lexI_same : ∀ (a b : List Int), a.length = b.length → (∀ j, j < a.length → a.getD j 0 = b.getD j 0) → lexI a b = false
  | [], [], _, _ => rfl
  | x :: a, y :: b, hl, hj => by
    have e : x = y := by simpa using hj 0 (by simp)
    have := lexI_same a b (by simpa using hl) (fun j hjk => by simpa using hj (j + 1) (by simpa using hjk))
    simpa [lexI, e] using this
  | [], _ :: _, hl, _ => by simp at hl
  | _ :: _, [], hl, _ => by simp at hl

set_option maxRecDepth 100000 in
set_option maxHeartbeats 4000000 in
theorem earlier_any (A B : Option Addr) (a b : List Int) (ca cb : Nat) (w : World) (hA : Cells w A a) (hB : Cells w B b) (h1 : a.length ≤ 1000) (h2 : b.length ≤ 1000) :
    Calls Tryz.prog 65 #[.slice A a.length ca, .slice B b.length cb] w fun x w' => x = .returned (.bool (earlierI a b)) ∧ w = w' := by
  obtain ⟨E, hE⟩ : ∃ E, E = earlierI a b := ⟨_, rfl⟩
  have HE := Lib.hid hE
  have HCA := Lib.hid hA
  have HCB := Lib.hid hB
  obtain ⟨N, hN⟩ : ∃ N, N = a.length := ⟨_, rfl⟩
  obtain ⟨M, hM⟩ : ∃ M, M = b.length := ⟨_, rfl⟩
  have HN := Lib.hid hN
  have HM := Lib.hid hM
  rw [← hE]
  rw [← hN] at h1 ⊢
  rw [← hM] at h2 ⊢
  clear hE hA hB hN hM
  by_cases hnm : N = M
  · have HNM := Lib.hid hnm
    subst hnm
    go_enter Tryz.func65, Tryz.ntmps65
    go_wp2
    go_loopw [19] (fun i wr => ∃ k : Nat, k ≤ N ∧ i = (.int .i64 ((k : Nat))) ∧ (∀ j, j < k → a.getD j 0 = b.getD j 0) ∧ wr = w) (fun i _ => N - (intOf i).toNat)
    case atStart => exact ⟨0, by omega, rfl, fun j hj => by omega, rfl⟩
    case round =>
      obtain ⟨k, hk, rfl, hz, rfl⟩ := hrel
      have HZ := Lib.hid hz
      clear hz
      by_cases hlt : k < N
      · have l1 : k < a.length := by rw [← HN.out]; exact hlt
        have l2 : k < b.length := by rw [← HM.out]; exact hlt
        obtain ⟨g, o, rfl, q1, k1⟩ := HCA.out (by omega)
        obtain ⟨g', o', rfl, q2, k2⟩ := HCB.out (by omega)
        have y1 := k1 k l1
        have y2 := k2 k l2
        obtain ⟨x, hx⟩ : ∃ x, x = a.getD k 0 := ⟨_, rfl⟩
        obtain ⟨y, hy⟩ : ∃ y, y = b.getD k 0 := ⟨_, rfl⟩
        rw [← hx] at y1
        rw [← hy] at y2
        have HX := Lib.hid hx
        have HY := Lib.hid hy
        clear k1 k2 hx hy l1 l2
        by_cases hxy : x = y
        · have HXY := Lib.hid hxy
          subst hxy
          go_wp2
          go_roundw
          case rel =>
            refine ⟨k + 1, by omega, by go_num, fun j hj => ?_, by first | rfl | trivial⟩
            rcases Nat.lt_or_ge j k with h | h
            · exact HZ.out j h
            · obtain rfl : j = k := by omega
              rw [← HX.out, ← HY.out]
          case measure => simp [intOf]; omega
        · have HEE := Lib.hid (show E = decide (x < y) by
            rw [HE.out]
            unfold earlierI
            rw [if_pos (HN.out.symm.trans HM.out), HX.out, HY.out]
            exact lexI_at a b k HZ.out (by rw [← HN.out]; exact hlt) (by rw [← HM.out]; exact hlt) (by rw [← HX.out, ← HY.out]; exact hxy))
          go_wp2
          go_ret
          exact ⟨by rw [HEE.out]; rfl, rfl⟩
      · obtain rfl : k = N := by omega
        have HEE := Lib.hid (show E = false by
          rw [HE.out]
          unfold earlierI
          rw [if_pos (HN.out.symm.trans HM.out)]
          exact lexI_same a b (HN.out.symm.trans HM.out) (by rw [← HN.out]; exact HZ.out))
        go_wp2
        go_ret
        exact ⟨by rw [HEE.out]; rfl, rfl⟩
  · have HEE := Lib.hid (show E = decide (N < M) by
      rw [HE.out]
      unfold earlierI
      rw [if_neg (by rw [← HN.out, ← HM.out]; exact hnm), HN.out, HM.out])
    have hnm2 : ¬ (N : Int) = (M : Int) := by omega
    go_enter Tryz.func65, Tryz.ntmps65
    go_wp2
    go_ret
    exact ⟨by rw [HEE.out]; simp, rfl⟩
end Go.Proofs.YtpkldjlljoledaaGreatDoor
