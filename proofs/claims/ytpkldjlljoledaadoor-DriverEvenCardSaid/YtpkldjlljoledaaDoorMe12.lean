/- Part 12 of the texts of the claim: It1, Ev0, C12, K2, EvenP, B7. -/
import Derived.Test.YtpkldjlljoledaaDoorMe11
import Derived.Test.YtpkldjlljoledaaDoorMe1
import Derived.Lib.Hide
import Derived.Shelf.Abstract
import Derived.WalkKit
import Derived.OwnWalkIn
import Derived.TacticsInMore
import Derived.LoopNIn
import Derived.LoopIn
import Derived.Test.YtpkldjlljoledaaDoorMe10
import Derived.Test.YtpkldjlljoledaaDoorMe8

/- Contracts of (Class).drivers and of the iterator that it hands out. -/
namespace Go.Proofs.YtpkldjlljoledaaDoor
open Go.RowKit
open Calm (bcell Blk)

theorem Calm.Blk.set {w : World} {g : Nat} {cs : Array Value} (h : Blk w g cs) {i : Nat} (hi : i < cs.size) (v : Value) : Blk (w.setCell ⟨g, i, none⟩ v) g (cs.setIfInBounds i v) := by
  refine ⟨by simpa using h.lt, fun j => ?_, fun j => by rw [World.frozen?_setCell]; exact h.f j⟩
  by_cases hj : j = i
  · subst hj
    rw [World.cell?_setCell_same' _ _ _ (by rw [h.c]; simp [hi])]
    simp [hi]
  · rw [World.cell?_setCell_other _ _ _ _ (by intro e; cases e; exact hj rfl), h.c]
    rw [Array.getElem?_setIfInBounds_ne (by omega)]
theorem Calm.Blk.of_block {w w' : World} {g : Nat} {cs : Array Value} (h : Blk w g cs) (e : w'.heap[g]? = w.heap[g]?) : Blk w' g cs := by
  refine ⟨?_, fun i => ?_, fun i => ?_⟩
  · have h1 := Array.getElem?_eq_getElem h.lt
    rw [h1] at e
    exact (Array.getElem?_eq_some_iff.1 e).1
  · exact (World.cell?_of_block (w := w) (a := ⟨g, i, none⟩) e).trans (h.c i)
  · exact (World.frozen?_of_block (w := w) (a := ⟨g, i, none⟩) e).trans (h.f i)

theorem drivers_any (re le bl ma st lo m k r : Int) (w : World) :
    Calls Tryd.prog 103 #[.agg #[(.int .i64 (re)), (.int .i64 (le)), (.int .i64 (bl)), (.int .i64 (ma)), (.int .i64 (st)), (.int .i64 (lo)), (.int .i64 (m)), (.int .i64 (k)), (.int .i64 (r))]] w fun e w' => e = .returned (.func (.func 118) #[] #[.pointer (some ⟨w.heap.size, 0, none⟩)]) ∧
      Below w.heap.size w w' ∧ Blk w' w.heap.size #[(.int .i64 (re)), (.int .i64 (le)), (.int .i64 (bl)), (.int .i64 (ma)), (.int .i64 (st)), (.int .i64 (lo)), (.int .i64 (m)), (.int .i64 (k)), (.int .i64 (r))] := by
  go_enter Tryd.func103, Tryd.ntmps103
  go_wp2
  go_ret
  exact ⟨by first | rfl | (simp; done), by (repeat (first | (with_reducible exact Below.refl _ _) | ((with_reducible refine Below.setCell ?_ ?_ _); rotate_left 1; focus (first | (simp; done) | (simp; omega) | (simp at *; omega))) | ((with_reducible refine Below.alloc ?_ ?_ _); rotate_left 1; focus (first | (simp; done) | (simp; omega) | (simp at *; omega))) | (with_reducible refine Below.drew ?_) | ((with_reducible refine Calm.step (by assumption) ?_ ?_); rotate_left 1; focus (first | (simp; done) | (simp; omega) | (simp at *; omega))))), by (repeat (first | ((with_reducible refine Blk.at_ ?_); focus (first | rfl | (simp; done) | (simp; omega))) | (with_reducible refine Blk.alloc ?_ _) | (with_reducible refine Blk.below ?_ (by with_reducible assumption)) | (with_reducible refine Blk.drew ?_)))⟩

/-- a driver of the class as the program hands it over. -/
def encD (re le bl : Int) (x : Int × Int × Int) : Value := .agg #[(.int .i64 (re)), (.int .i64 (le)), (.int .i64 (bl)), (.int .i64 (x.1)), (.int .i64 (x.2.1)), (.int .i64 (x.2.2))]

set_option maxRecDepth 100000 in
set_option maxHeartbeats 4000000 in
theorem drivers1_iter (re le bl ma st lo m k r : Int) (Cb : Nat) (w : World) (n : Nat) (h1 : (1 ≤ ma ∧ ma ≤ 100) ∧ (1 ≤ st ∧ st ≤ 5000) ∧ (1 ≤ lo ∧ lo ≤ 100)) (h2 : m ≤ 100 ∧ k ≤ 5000 ∧ r ≤ 100)
    (hK : Blk w Cb #[(.int .i64 (re)), (.int .i64 (le)), (.int .i64 (bl)), (.int .i64 (ma)), (.int .i64 (st)), (.int .i64 (lo)), (.int .i64 (m)), (.int .i64 (k)), (.int .i64 (r))]) :
    Iter Fence.wide n Tryd.prog 118 #[.pointer (some ⟨Cb, 0, none⟩)] (encD re le bl) (drvs ma st lo m k r) Cb w := by
  intro l J W hCW hCl hle hJa hJs hY h0
  have K := Calm.Blk.of_block hK hCW
  have hne : ¬ W.heap.size = Cb := by omega
  have hne2 : ¬ Cb = W.heap.size := by omega
  have hlt : Cb < W.heap.size := by omega
  have HCW := Lib.hid hCW
  have HJA := Lib.hid hJa
  have HJS := Lib.hid hJs
  have HK := Lib.hid hK
  clear hCW hJa hJs hK
  have c0 := K.cell 0 (.int .i64 (re)) rfl
  have c1 := K.cell 1 (.int .i64 (le)) rfl
  have c2 := K.cell 2 (.int .i64 (bl)) rfl
  have c3 := K.cell 3 (.int .i64 (ma)) rfl
  have c4 := K.cell 4 (.int .i64 (st)) rfl
  have c5 := K.cell 5 (.int .i64 (lo)) rfl
  have c6 := K.cell 6 (.int .i64 (m)) rfl
  have c7 := K.cell 7 (.int .i64 (k)) rfl
  have c8 := K.cell 8 (.int .i64 (r)) rfl
  refine callsIn_of_wp Tryd.func118 rfl trivial ?_ rfl
  simp only [Tryd.ntmps118, List.size_toArray, List.length_cons, List.length_nil, Nat.reduceAdd, Nat.reduceSub, Array.replicate_succ, Array.replicate_zero, List.push_toArray, List.append_toArray, List.nil_append, List.cons_append]
  obtain ⟨M, hM⟩ : ∃ M, M = (m + 1 - ma).toNat := ⟨_, rfl⟩
  obtain ⟨S, hS⟩ : ∃ S, S = (k + 1 - st).toNat := ⟨_, rfl⟩
  obtain ⟨L, hL⟩ : ∃ L, L = (r + 1 - lo).toNat := ⟨_, rfl⟩
  have hall : drvs ma st lo m k r = rowM ma st lo S L M := by rw [hM, hS, hL]; rfl
  rw [hall] at hY ⊢
  have HY := Lib.hid hY
  have HM := Lib.hid hM
  have HS := Lib.hid hS
  have HL := Lib.hid hL
  clear hall hM hS hL hY
  obtain ⟨⟨a1, a2⟩, ⟨a3, a4⟩, ⟨a5, a6⟩⟩ := h1
  obtain ⟨a7, a8, a9⟩ := h2
  have hM2 : (M : Int) ≤ 100 := by have := HM.out; omega
  have hS2 : (S : Int) ≤ 5000 := by have := HS.out; omega
  have hL2 : (L : Int) ≤ 100 := by have := HL.out; omega
  gi_wp2
  gi_loopw [10] (fun _ wr => ∃ (i : Nat) (x y : Int), i ≤ M ∧ Blk wr W.heap.size #[(.int .i64 (re)), (.int .i64 (le)), (.int .i64 (bl)), (.int .i64 (ma + i)), (.int .i64 (x)), (.int .i64 (y))] ∧ J (rowM ma st lo S L i) wr ∧ wr.heap[Cb]? = w.heap[Cb]?) (fun _ wr => (m + 1 - intOf ((wr.cell? ⟨W.heap.size, 3, none⟩).getD undef)).toNat)
  case atStart =>
    exact ⟨0, st, lo, Nat.zero_le _, by simpa using Blk.new _ _ _, by show J [] _; exact HJA.out _ _ _ h0, (Below.heap_alloc _ _ _ hlt).trans HCW.out⟩
  case round =>
    obtain ⟨i, x, y, hi, K1, hJ1, hC1⟩ := hrel
    have Kc1 := Calm.Blk.of_block HK.out hC1
    clear c0 c1 c2 c3 c4 c5 c6 c7 c8
    have d0 := K1.cell 0 (.int .i64 (re)) rfl
    have d1 := K1.cell 1 (.int .i64 (le)) rfl
    have d2 := K1.cell 2 (.int .i64 (bl)) rfl
    have d3 := K1.cell 3 (.int .i64 (ma + i)) rfl
    have d4 := K1.cell 4 (.int .i64 (x)) rfl
    have d5 := K1.cell 5 (.int .i64 (y)) rfl
    have c3 := Kc1.cell 3 (.int .i64 (ma)) rfl
    have c4 := Kc1.cell 4 (.int .i64 (st)) rfl
    have c5 := Kc1.cell 5 (.int .i64 (lo)) rfl
    have c6 := Kc1.cell 6 (.int .i64 (m)) rfl
    have c7 := Kc1.cell 7 (.int .i64 (k)) rfl
    have c8 := Kc1.cell 8 (.int .i64 (r)) rfl
    have df := K1.f
    by_cases hi2 : i < M
    · have hi3 : ma + i ≤ m := by have := HM.out; omega
      gi_wp2
      gi_loopw [23] (fun _ wr => ∃ (j : Nat) (y : Int), j ≤ S ∧ Blk wr W.heap.size #[(.int .i64 (re)), (.int .i64 (le)), (.int .i64 (bl)), (.int .i64 (ma + i)), (.int .i64 (st + j)), (.int .i64 (y))] ∧ J (rowM ma st lo S L i ++ rowS (ma + i) st lo L j) wr ∧ wr.heap[Cb]? = w.heap[Cb]?) (fun _ wr => (k + 1 - intOf ((wr.cell? ⟨W.heap.size, 4, none⟩).getD undef)).toNat)
      case atStart =>
        exact ⟨0, y, Nat.zero_le _, by simpa using K1.set (i := 4) (by simp) (.int .i64 (st)), by have := HJS.out _ _ 4 (.int .i64 (st)) hJ1; simpa [rowS] using this, (Below.heap_setCell _ _ _ _ hne2).trans hC1⟩
      case round =>
        obtain ⟨j, y2, hj, K2, hJ2, hC2⟩ := hrel
        have Kc2 := Calm.Blk.of_block HK.out hC2
        clear d0 d1 d2 d3 d4 d5 df c3 c4 c5 c6 c7 c8
        have d0 := K2.cell 0 (.int .i64 (re)) rfl
        have d1 := K2.cell 1 (.int .i64 (le)) rfl
        have d2 := K2.cell 2 (.int .i64 (bl)) rfl
        have d3 := K2.cell 3 (.int .i64 (ma + i)) rfl
        have d4 := K2.cell 4 (.int .i64 (st + j)) rfl
        have d5 := K2.cell 5 (.int .i64 (y2)) rfl
        have c3 := Kc2.cell 3 (.int .i64 (ma)) rfl
        have c4 := Kc2.cell 4 (.int .i64 (st)) rfl
        have c5 := Kc2.cell 5 (.int .i64 (lo)) rfl
        have c6 := Kc2.cell 6 (.int .i64 (m)) rfl
        have c7 := Kc2.cell 7 (.int .i64 (k)) rfl
        have c8 := Kc2.cell 8 (.int .i64 (r)) rfl
        have df := K2.f
        by_cases hj2 : j < S
        · have hj3 : st + j ≤ k := by have := HS.out; omega
          gi_wp2
          gi_loopw [36] (fun _ wr => ∃ kk : Nat, kk ≤ L ∧ Blk wr W.heap.size #[(.int .i64 (re)), (.int .i64 (le)), (.int .i64 (bl)), (.int .i64 (ma + i)), (.int .i64 (st + j)), (.int .i64 (lo + kk))] ∧ J (rowM ma st lo S L i ++ rowS (ma + i) st lo L j ++ rowL (ma + i) (st + j) lo kk) wr ∧ wr.heap[Cb]? = w.heap[Cb]?) (fun _ wr => (r + 1 - intOf ((wr.cell? ⟨W.heap.size, 5, none⟩).getD undef)).toNat)
          case atStart =>
            exact ⟨0, Nat.zero_le _, by simpa using K2.set (i := 5) (by simp) (.int .i64 (lo)), by have := HJS.out _ _ 5 (.int .i64 (lo)) hJ2; simpa [rowL] using this, (Below.heap_setCell _ _ _ _ hne2).trans hC2⟩
          case round =>
            obtain ⟨kk, hk, K3, hJ3, hC3⟩ := hrel
            have Kc3 := Calm.Blk.of_block HK.out hC3
            clear d0 d1 d2 d3 d4 d5 df c3 c4 c5 c6 c7 c8
            have d0 := K3.cell 0 (.int .i64 (re)) rfl
            have d1 := K3.cell 1 (.int .i64 (le)) rfl
            have d2 := K3.cell 2 (.int .i64 (bl)) rfl
            have d3 := K3.cell 3 (.int .i64 (ma + i)) rfl
            have d4 := K3.cell 4 (.int .i64 (st + j)) rfl
            have d5 := K3.cell 5 (.int .i64 (lo + kk)) rfl
            have c3 := Kc3.cell 3 (.int .i64 (ma)) rfl
            have c4 := Kc3.cell 4 (.int .i64 (st)) rfl
            have c5 := Kc3.cell 5 (.int .i64 (lo)) rfl
            have c6 := Kc3.cell 6 (.int .i64 (m)) rfl
            have c7 := Kc3.cell 7 (.int .i64 (k)) rfl
            have c8 := Kc3.cell 8 (.int .i64 (r)) rfl
            have df := K3.f
            by_cases hk2 : kk < L
            · have hk3 : lo + kk ≤ r := by have := HL.out; omega
              obtain ⟨fn, tmps, assign, body, hy, hR⟩ := HY.out _ (ma + i, st + j, lo + kk) wr hJ3 K3.lt hC3 (row_next ma st lo M S L i j kk hi2 hj2 hk2)
              dsimp only [encD] at hy
              gi_wp2
              refine ⟨fun h => by simp [Fence.wide] at h, hR.mono ?_⟩
              rintro e W3 ⟨rfl, hJ4, hD4, hC4⟩
              have K4 := Calm.Blk.of_block K3 hD4
              have hC5 := hC4.trans hC3
              have e1 : lo + ((kk + 1 : Nat) : Int) = lo + kk + 1 := by omega
              have HE1 := Lib.hid e1
              clear e1 d0 d1 d2 d3 d4 d5 df c3 c4 c5 c6 c7 c8
              have d5 := K4.cell 5 (.int .i64 (lo + kk)) rfl
              have df := K4.f
              gi_wp2
              go_roundw
              case rel =>
                refine ⟨kk + 1, by omega, ?_, ?_, (Below.heap_setCell _ _ _ _ hne2).trans hC5⟩
                · rw [HE1.out]; exact K4.set (i := 5) (by simp) (.int .i64 (lo + kk + 1))
                · rw [rowL_succ, ← List.append_assoc]; exact HJS.out _ _ _ _ hJ4
              case measure =>
                rw [(K4.set (i := 5) (by simp) (.int .i64 (lo + kk + 1))).c 5, K3.c 5]; simp [intOf]; omega
            · obtain rfl : kk = L := by omega
              have hk3 : ¬ lo + kk ≤ r := by have := HL.out; omega
              have e1 : st + ((j + 1 : Nat) : Int) = st + j + 1 := by omega
              have HE1 := Lib.hid e1
              clear e1
              gi_wp2
              go_roundw
              case rel =>
                refine ⟨j + 1, lo + kk, by omega, ?_, ?_, (Below.heap_setCell _ _ _ _ hne2).trans hC3⟩
                · rw [HE1.out]; exact K3.set (i := 4) (by simp) (.int .i64 (st + j + 1))
                · rw [rowS_succ, ← List.append_assoc]; exact HJS.out _ _ _ _ hJ3
              case measure =>
                rw [(K3.set (i := 4) (by simp) (.int .i64 (st + j + 1))).c 4, K2.c 4]; simp [intOf]; omega
        · obtain rfl : j = S := by omega
          have hj3 : ¬ st + j ≤ k := by have := HS.out; omega
          have e1 : ma + ((i + 1 : Nat) : Int) = ma + i + 1 := by omega
          have HE1 := Lib.hid e1
          clear e1
          gi_wp2
          go_roundw
          case rel =>
            refine ⟨i + 1, st + j, y2, by omega, ?_, ?_, (Below.heap_setCell _ _ _ _ hne2).trans hC2⟩
            · rw [HE1.out]; exact K2.set (i := 3) (by simp) (.int .i64 (ma + i + 1))
            · rw [rowM_succ]; exact HJS.out _ _ _ _ hJ2
          case measure =>
            rw [(K2.set (i := 3) (by simp) (.int .i64 (ma + i + 1))).c 3, K1.c 3]; simp [intOf]; omega
    · obtain rfl : i = M := by omega
      have hi3 : ¬ ma + i ≤ m := by have := HM.out; omega
      gi_wp2
      go_end0
      exact ⟨⟨_, rfl⟩, hJ1⟩
end Go.Proofs.YtpkldjlljoledaaDoor

/- The world in a round of DriverEven: three structs, six slices; what a drawn region makes of it. -/
namespace Go.Proofs.YtpkldjlljoledaaDoor
open Go.RowKit
open Calm (bcell Blk)
theorem Grw.look {T : Nat → Obj → Prop} {W W' : World} (h : Grw T W W') {B : Nat} (hT : ∀ k o, T k o → B ≤ k ∧ k < W.heap.size) (hB : B ≤ W.heap.size) :
    (∀ b o, b < B → W'.cell? ⟨b, o, none⟩ = W.cell? ⟨b, o, none⟩) ∧ (∀ b o, b < B → W'.frozen? ⟨b, o, none⟩ = W.frozen? ⟨b, o, none⟩) :=
  have hb := h.below (fun k o hk => (hT k o hk).1) hB
  ⟨fun b o hl => hb.cell (p := ⟨b, o, none⟩) hl, fun b o hl => hb.frozen (p := ⟨b, o, none⟩) hl⟩
theorem NewS.grw {T : Nat → Obj → Prop} {B n c : Nat} {cs : Array Value} (hT : ∀ k o, T k o → k < B) : RelH.Stable (Grw T) (fun _ => Rel.NewS B n c cs) := by
  rintro _ v W W' ⟨g, h1, h2, h3⟩ hS
  exact ⟨g, h1, h2, h3.of_block ((hS.block g h3.lt).elim id (fun ⟨o, e1, _⟩ => by have := hT g o e1; omega))⟩
namespace RelH
open Rel (ons)
variable {T : Nat → Obj → Prop} {P : Program} {DS : List Tmp} {w0 : World} {a0 : Act} {U : Ctx → Prop} {Γ : Ctx} {o : Oper} {rest : List Oper}
theorem build3 (hT : ∀ k o, T k o → k < w0.heap.size) (t : TypeId) (n c : Nat) (cs : Array Value) (hg : GOK3 Γ o)
    (h : ∀ (a : Act) (W : World) (x : Nat → Value), Grw T w0 W → deps x Γ a W (ons o) → (∀ t, t ∉ DS → a.eval (.tmp t) = a0.eval (.tmp t)) → (execOp a.eval o).run P W = .ok (.value (.slice (some ⟨W.heap.size, 0, none⟩) n c)) (W.alloc (.cells cs t)))
    (hn : walk3 (Grw T) P DS w0 a0 U (Γ ++ [(o.dst, fun _ => Rel.NewS w0.heap.size n c cs)]) rest) : walk3 (Grw T) P DS w0 a0 U Γ (o :: rest) :=
  opW3 _ (NewS.grw hT) loc_const hg (fun a W x hb hd hbase => ⟨_, _, h a W x hb hd hbase, ⟨_, rfl, hb.size, Calm.Blk.new W t cs⟩, Grw.of ((Below.refl _ _).alloc (Nat.le_refl _) _)⟩) hn
end RelH
/-- the world in a round: c, three structs of two slices, their rows from B on. -/
structure EvW (w : World) (X : Array Value) (B g1 g2 g3 : Nat) (a1 a2 a3 a4 a5 a6 : Value) (l1 l2 l3 l4 l5 l6 : List Int) (W : World) : Prop where
  below : Below w.heap.size w W
  hX : Blk W w.heap.size X
  k1 : Blk W g1 #[a1, a2]
  k2 : Blk W g2 #[a3, a4]
  k3 : Blk W g3 #[a5, a6]
  rows : Rows W B [(a1, l1), (a2, l2), (a3, l3), (a4, l4), (a5, l5), (a6, l6)]
  hB : B ≤ W.heap.size
  ne : g1 ≠ g2 ∧ g1 ≠ g3 ∧ g2 ≠ g3
  lo : w.heap.size < g1 ∧ w.heap.size < g2 ∧ w.heap.size < g3
  hi : g1 < B ∧ g2 < B ∧ g3 < B
theorem EvW.mono {w : World} {X : Array Value} {B g1 g2 g3 : Nat} {a1 a2 a3 a4 a5 a6 : Value} {l1 l2 l3 l4 l5 l6 : List Int} {W W' : World} (h : EvW w X B g1 g2 g3 a1 a2 a3 a4 a5 a6 l1 l2 l3 l4 l5 l6 W) (hb : Below W.heap.size W W') :
    EvW w X B g1 g2 g3 a1 a2 a3 a4 a5 a6 l1 l2 l3 l4 l5 l6 W' :=
  ⟨h.below.trans (hb.mono h.below.size), h.hX.below hb, h.k1.below hb, h.k2.below hb, h.k3.below hb, h.rows.below hb, Nat.le_trans h.hB hb.size, h.ne, h.lo, h.hi⟩
theorem EvW.step {w : World} {X : Array Value} {B g1 g2 g3 : Nat} {a1 a2 a3 a4 a5 a6 : Value} {l1 l2 l3 l4 l5 l6 : List Int} {W W' : World} (h : EvW w X B g1 g2 g3 a1 a2 a3 a4 a5 a6 l1 l2 l3 l4 l5 l6 W)
    {T : Nat → Obj → Prop} (hS : Grw T W W') (hT : ∀ k o, T k o → B ≤ k ∧ k < W.heap.size) {v1 v2 : Value} {x1 x2 : Int}
    (hR : Rows W' B ((v1, l1 ++ [x1]) :: (v2, l2 ++ [x2]) :: [(a3, l3), (a4, l4), (a5, l5), (a6, l6)])) :
    EvW w X B g2 g3 g1 a3 a4 a5 a6 v1 v2 l3 l4 l5 l6 (l1 ++ [x1]) (l2 ++ [x2]) ((W'.setCell ⟨g1, 0, none⟩ v1).setCell ⟨g1, 1, none⟩ v2) := by
  have hb : Below B W W' := hS.below (fun k o hk => (hT k o hk).1) h.hB
  obtain ⟨n1, n2, n3⟩ := h.ne
  obtain ⟨q1, q2, q3⟩ := h.lo
  obtain ⟨r1, r2, r3⟩ := h.hi
  have hX := h.hX.of (by omega : w.heap.size < B) hb
  have k1 := h.k1.of r1 hb
  have k2 := h.k2.of r2 hb
  have k3 := h.k3.of r3 hb
  have e1 : Blk ((W'.setCell ⟨g1, 0, none⟩ v1).setCell ⟨g1, 1, none⟩ v2) g1 #[v1, v2] := by
    have := (k1.set (i := 0) (by simp) v1).set (i := 1) (by simp) v2
    simpa using this
  refine ⟨(h.below.trans (hb.mono (by omega))).setCell (p := ⟨g1, 0, none⟩) (Nat.le_of_lt q1) _ |>.setCell (p := ⟨g1, 1, none⟩) (Nat.le_of_lt q1) _, (hX.far (p := ⟨g1, 0, none⟩) (show g1 ≠ w.heap.size by omega) _).far (p := ⟨g1, 1, none⟩) (show g1 ≠ w.heap.size by omega) _,
    (k2.far (p := ⟨g1, 0, none⟩) n1 _).far (p := ⟨g1, 1, none⟩) n1 _, (k3.far (p := ⟨g1, 0, none⟩) n2 _).far (p := ⟨g1, 1, none⟩) n2 _, e1, ?_, ?_, ⟨n3, Ne.symm n1, Ne.symm n2⟩, ⟨q2, q3, q1⟩, ⟨r2, r3, r1⟩⟩
  · exact ((hR.setCell (q := ⟨g1, 0, none⟩) r1 v1).setCell (q := ⟨g1, 1, none⟩) r1 v2).rot
  · have := h.hB; have := hS.size; simp; omega
end Go.Proofs.YtpkldjlljoledaaDoor

/- Contract of the reference's keeps. %still -/
namespace Go.Proofs.YtpkldjlljoledaaDoor
open Go.RowKit
open Calm (bcell Blk)

set_option maxHeartbeats 4000000 in
set_option maxRecDepth 100000 in
theorem keeps_any (xs ys : List Int) (i n : Nat) (fo st : Int) (A1 A2 : Option Addr) (c1 c2 : Nat) (w : World)
    (hN : n = xs.length / 2) (h16 : xs.length ≤ 100) (hC1 : Cells w A1 xs) (hC2 : Cells w A2 ys) (hl : ys.length = xs.length) (hi : i < xs.length) (hn : n < xs.length)
    (h1 : ∀ x ∈ xs, 1 ≤ x ∧ x ≤ 999999999) (h2 : ∀ y ∈ ys, 1 ≤ y ∧ y ≤ 999999999) (hf : 1 ≤ fo ∧ fo ≤ 100) (hs : 100 ≤ st ∧ st ≤ 1000) :
    Calls Tryd.prog 94 #[.agg #[.slice A1 xs.length c1, .slice A2 ys.length c2], (.int .i64 (i)), (.int .i64 (fo)), (.int .i64 (st))] w fun r w' => r = .returned (.bool (fineB xs ys n fo st i)) ∧ Below w.heap.size w w' := by
  obtain ⟨b1, o1, rfl, l1, m1⟩ := hC1 (by omega)
  obtain ⟨b2, o2, rfl, l2, m2⟩ := hC2 (by omega)
  rw [hl] at m2 ⊢
  have x1 := m1 i hi
  have x2 := m1 n hn
  have y1 := m2 i hi
  have y2 := m2 n hn
  have a1 := h1 _ (getD_mem hi)
  have a2 := h1 _ (getD_mem hn)
  have e1 := h2 _ (getD_mem (k := i) (by omega))
  have e2 := h2 _ (getD_mem (k := n) (by omega))
  unfold fineB
  have hq : Int.tdiv (xs.length : Int) 2 = n := by rw [Int.tdiv_eq_ediv_of_nonneg (by omega)]; omega
  have hq2 : (xs.length : Int) / 2 = n := by omega
  clear hN
  clear m1 m2 hC1 hC2 h1 h2 hl
  generalize xs.length = N at *
  generalize xs.getD i 0 = x at *
  generalize xs.getD n 0 = x' at *
  generalize ys.getD i 0 = y at *
  generalize ys.getD n 0 = y' at *
  have p1 : Bd 100 fo := ⟨by omega, by omega⟩
  have p2 : Bd 999999999 x' := ⟨by omega, by omega⟩
  have p3 : Bd 1000 st := ⟨by omega, by omega⟩
  have p4 : Bd 999999999 y' := ⟨by omega, by omega⟩
  obtain ⟨u1, u2⟩ := p1.mul p2 (by omega)
  obtain ⟨u3, u4⟩ := p3.mul p4 (by omega)
  clear p1 p2 p3 p4
  by_cases v1 : fo * x' ≤ 100 * x
  · rw [decide_eq_true v1]
    by_cases v2 : 100 * y ≤ st * y'
    · rw [decide_eq_true v2]
      go_enter Tryd.func94, Tryd.ntmps94
      go_wp2
      refine Calm.still_tail 29 (by kernel_rfl) (by kernel_rfl) ?_
      simp only [List.take_succ_cons, List.take_zero, List.drop_succ_cons, List.drop_zero]
      repeat (first | (apply Calm.still_op_move; (focus rfl); (focus (first | exact .inl rfl | exact .inr rfl)); (focus ((try simp only [Act.eval, Array.getD_eq_getD_getElem?, List.getElem?_toArray, List.getElem?_cons_succ, List.getElem?_cons_zero, Option.getD_some]); rfl)); (try simp only [Act.put, List.setIfInBounds_toArray, List.set_cons_zero, List.set_cons_succ])) | (apply Calm.still_op_not; (focus rfl); (try simp only [Act.put, List.setIfInBounds_toArray, List.set_cons_zero, List.set_cons_succ])) | (apply Calm.still_op; (focus rfl); (focus (intro W hb; obtain ⟨hc, hf⟩ := bcell hb; clear hb hf; go_simp; (try go_bits); (try rfl); done)); (try simp only [Act.put, List.setIfInBounds_toArray, List.set_cons_zero, List.set_cons_succ])))
      refine Calm.still_nil ?_
      intro w1 hb
      obtain ⟨hbc, hbf⟩ := bcell hb
      have hbz := hb.size
      (try simp at hbz)
      (try have hbz0 : w.heap.size < w1.heap.size := by omega)
      (try have hbz1 : w.heap.size + 1 < w1.heap.size := by omega)
      (try have hbz2 : w.heap.size + 1 + 1 < w1.heap.size := by omega)
      (try have hbz3 : w.heap.size + 1 + 1 + 1 < w1.heap.size := by omega)
      (try have hbz4 : w.heap.size + 1 + 1 + 1 + 1 < w1.heap.size := by omega)
      (try have hbz5 : w.heap.size + 1 + 1 + 1 + 1 + 1 < w1.heap.size := by omega)
      go_wp2
      go_ret
      refine ⟨by first | rfl | (simp; done) | (simp; omega), ?_⟩
      repeat (first | (with_reducible exact Below.refl _ _) | ((with_reducible refine Below.setCell ?_ ?_ _); rotate_left 1; focus (first | (simp; done) | (simp; omega) | (simp at *; omega))) | ((with_reducible refine Below.alloc ?_ ?_ _); rotate_left 1; focus (first | (simp; done) | (simp; omega) | (simp at *; omega))) | (with_reducible refine Below.drew ?_) | ((with_reducible refine Calm.step (by assumption) ?_ ?_); rotate_left 1; focus (first | (simp; done) | (simp; omega) | (simp at *; omega))))
    · rw [decide_eq_false v2]
      go_enter Tryd.func94, Tryd.ntmps94
      go_wp2
      refine Calm.still_tail 29 (by kernel_rfl) (by kernel_rfl) ?_
      simp only [List.take_succ_cons, List.take_zero, List.drop_succ_cons, List.drop_zero]
      repeat (first | (apply Calm.still_op_move; (focus rfl); (focus (first | exact .inl rfl | exact .inr rfl)); (focus ((try simp only [Act.eval, Array.getD_eq_getD_getElem?, List.getElem?_toArray, List.getElem?_cons_succ, List.getElem?_cons_zero, Option.getD_some]); rfl)); (try simp only [Act.put, List.setIfInBounds_toArray, List.set_cons_zero, List.set_cons_succ])) | (apply Calm.still_op_not; (focus rfl); (try simp only [Act.put, List.setIfInBounds_toArray, List.set_cons_zero, List.set_cons_succ])) | (apply Calm.still_op; (focus rfl); (focus (intro W hb; obtain ⟨hc, hf⟩ := bcell hb; clear hb hf; go_simp; (try go_bits); (try rfl); done)); (try simp only [Act.put, List.setIfInBounds_toArray, List.set_cons_zero, List.set_cons_succ])))
      refine Calm.still_nil ?_
      intro w1 hb
      obtain ⟨hbc, hbf⟩ := bcell hb
      have hbz := hb.size
      (try simp at hbz)
      (try have hbz0 : w.heap.size < w1.heap.size := by omega)
      (try have hbz1 : w.heap.size + 1 < w1.heap.size := by omega)
      (try have hbz2 : w.heap.size + 1 + 1 < w1.heap.size := by omega)
      (try have hbz3 : w.heap.size + 1 + 1 + 1 < w1.heap.size := by omega)
      (try have hbz4 : w.heap.size + 1 + 1 + 1 + 1 < w1.heap.size := by omega)
      (try have hbz5 : w.heap.size + 1 + 1 + 1 + 1 + 1 < w1.heap.size := by omega)
      go_wp2
      go_ret
      refine ⟨by first | rfl | (simp; done) | (simp; omega), ?_⟩
      repeat (first | (with_reducible exact Below.refl _ _) | ((with_reducible refine Below.setCell ?_ ?_ _); rotate_left 1; focus (first | (simp; done) | (simp; omega) | (simp at *; omega))) | ((with_reducible refine Below.alloc ?_ ?_ _); rotate_left 1; focus (first | (simp; done) | (simp; omega) | (simp at *; omega))) | (with_reducible refine Below.drew ?_) | ((with_reducible refine Calm.step (by assumption) ?_ ?_); rotate_left 1; focus (first | (simp; done) | (simp; omega) | (simp at *; omega))))
  · rw [decide_eq_false v1]
    go_enter Tryd.func94, Tryd.ntmps94
    go_wp2
    refine Calm.still_tail 29 (by kernel_rfl) (by kernel_rfl) ?_
    simp only [List.take_succ_cons, List.take_zero, List.drop_succ_cons, List.drop_zero]
    (first | (apply Calm.still_op_move; (focus rfl); (focus (first | exact .inl rfl | exact .inr rfl)); (focus ((try simp only [Act.eval, Array.getD_eq_getD_getElem?, List.getElem?_toArray, List.getElem?_cons_succ, List.getElem?_cons_zero, Option.getD_some]); rfl)); (try simp only [Act.put, List.setIfInBounds_toArray, List.set_cons_zero, List.set_cons_succ])) | (apply Calm.still_op_not; (focus rfl); (try simp only [Act.put, List.setIfInBounds_toArray, List.set_cons_zero, List.set_cons_succ])) | (apply Calm.still_op; (focus rfl); (focus (intro W hb; obtain ⟨hc, hf⟩ := bcell hb; clear hb hf; go_simp; (try go_bits); (try rfl); done)); (try simp only [Act.put, List.setIfInBounds_toArray, List.set_cons_zero, List.set_cons_succ])))
    (first | (apply Calm.still_op_move; (focus rfl); (focus (first | exact .inl rfl | exact .inr rfl)); (focus ((try simp only [Act.eval, Array.getD_eq_getD_getElem?, List.getElem?_toArray, List.getElem?_cons_succ, List.getElem?_cons_zero, Option.getD_some]); rfl)); (try simp only [Act.put, List.setIfInBounds_toArray, List.set_cons_zero, List.set_cons_succ])) | (apply Calm.still_op_not; (focus rfl); (try simp only [Act.put, List.setIfInBounds_toArray, List.set_cons_zero, List.set_cons_succ])) | (apply Calm.still_op; (focus rfl); (focus (intro W hb; obtain ⟨hc, hf⟩ := bcell hb; clear hb hf; go_simp; (try go_bits); (try rfl); done)); (try simp only [Act.put, List.setIfInBounds_toArray, List.set_cons_zero, List.set_cons_succ])))
    (first | (apply Calm.still_op_move; (focus rfl); (focus (first | exact .inl rfl | exact .inr rfl)); (focus ((try simp only [Act.eval, Array.getD_eq_getD_getElem?, List.getElem?_toArray, List.getElem?_cons_succ, List.getElem?_cons_zero, Option.getD_some]); rfl)); (try simp only [Act.put, List.setIfInBounds_toArray, List.set_cons_zero, List.set_cons_succ])) | (apply Calm.still_op_not; (focus rfl); (try simp only [Act.put, List.setIfInBounds_toArray, List.set_cons_zero, List.set_cons_succ])) | (apply Calm.still_op; (focus rfl); (focus (intro W hb; obtain ⟨hc, hf⟩ := bcell hb; clear hb hf; go_simp; (try go_bits); (try rfl); done)); (try simp only [Act.put, List.setIfInBounds_toArray, List.set_cons_zero, List.set_cons_succ])))
    (first | (apply Calm.still_op_move; (focus rfl); (focus (first | exact .inl rfl | exact .inr rfl)); (focus ((try simp only [Act.eval, Array.getD_eq_getD_getElem?, List.getElem?_toArray, List.getElem?_cons_succ, List.getElem?_cons_zero, Option.getD_some]); rfl)); (try simp only [Act.put, List.setIfInBounds_toArray, List.set_cons_zero, List.set_cons_succ])) | (apply Calm.still_op_not; (focus rfl); (try simp only [Act.put, List.setIfInBounds_toArray, List.set_cons_zero, List.set_cons_succ])) | (apply Calm.still_op; (focus rfl); (focus (intro W hb; obtain ⟨hc, hf⟩ := bcell hb; clear hb hf; go_simp; (try go_bits); (try rfl); done)); (try simp only [Act.put, List.setIfInBounds_toArray, List.set_cons_zero, List.set_cons_succ])))
    (first | (apply Calm.still_op_move; (focus rfl); (focus (first | exact .inl rfl | exact .inr rfl)); (focus ((try simp only [Act.eval, Array.getD_eq_getD_getElem?, List.getElem?_toArray, List.getElem?_cons_succ, List.getElem?_cons_zero, Option.getD_some]); rfl)); (try simp only [Act.put, List.setIfInBounds_toArray, List.set_cons_zero, List.set_cons_succ])) | (apply Calm.still_op_not; (focus rfl); (try simp only [Act.put, List.setIfInBounds_toArray, List.set_cons_zero, List.set_cons_succ])) | (apply Calm.still_op; (focus rfl); (focus (intro W hb; obtain ⟨hc, hf⟩ := bcell hb; clear hb hf; go_simp; (try go_bits); (try rfl); done)); (try simp only [Act.put, List.setIfInBounds_toArray, List.set_cons_zero, List.set_cons_succ])))
    (first | (apply Calm.still_op_move; (focus rfl); (focus (first | exact .inl rfl | exact .inr rfl)); (focus ((try simp only [Act.eval, Array.getD_eq_getD_getElem?, List.getElem?_toArray, List.getElem?_cons_succ, List.getElem?_cons_zero, Option.getD_some]); rfl)); (try simp only [Act.put, List.setIfInBounds_toArray, List.set_cons_zero, List.set_cons_succ])) | (apply Calm.still_op_not; (focus rfl); (try simp only [Act.put, List.setIfInBounds_toArray, List.set_cons_zero, List.set_cons_succ])) | (apply Calm.still_op; (focus rfl); (focus (intro W hb; obtain ⟨hc, hf⟩ := bcell hb; clear hb hf; go_simp; (try go_bits); (try rfl); done)); (try simp only [Act.put, List.setIfInBounds_toArray, List.set_cons_zero, List.set_cons_succ])))
    (first | (apply Calm.still_op_move; (focus rfl); (focus (first | exact .inl rfl | exact .inr rfl)); (focus ((try simp only [Act.eval, Array.getD_eq_getD_getElem?, List.getElem?_toArray, List.getElem?_cons_succ, List.getElem?_cons_zero, Option.getD_some]); rfl)); (try simp only [Act.put, List.setIfInBounds_toArray, List.set_cons_zero, List.set_cons_succ])) | (apply Calm.still_op_not; (focus rfl); (try simp only [Act.put, List.setIfInBounds_toArray, List.set_cons_zero, List.set_cons_succ])) | (apply Calm.still_op; (focus rfl); (focus (intro W hb; obtain ⟨hc, hf⟩ := bcell hb; clear hb hf; go_simp; (try go_bits); (try rfl); done)); (try simp only [Act.put, List.setIfInBounds_toArray, List.set_cons_zero, List.set_cons_succ])))
    (first | (apply Calm.still_op_move; (focus rfl); (focus (first | exact .inl rfl | exact .inr rfl)); (focus ((try simp only [Act.eval, Array.getD_eq_getD_getElem?, List.getElem?_toArray, List.getElem?_cons_succ, List.getElem?_cons_zero, Option.getD_some]); rfl)); (try simp only [Act.put, List.setIfInBounds_toArray, List.set_cons_zero, List.set_cons_succ])) | (apply Calm.still_op_not; (focus rfl); (try simp only [Act.put, List.setIfInBounds_toArray, List.set_cons_zero, List.set_cons_succ])) | (apply Calm.still_op; (focus rfl); (focus (intro W hb; obtain ⟨hc, hf⟩ := bcell hb; clear hb hf; go_simp; (try go_bits); (try rfl); done)); (try simp only [Act.put, List.setIfInBounds_toArray, List.set_cons_zero, List.set_cons_succ])))
    (first | (apply Calm.still_op_move; (focus rfl); (focus (first | exact .inl rfl | exact .inr rfl)); (focus ((try simp only [Act.eval, Array.getD_eq_getD_getElem?, List.getElem?_toArray, List.getElem?_cons_succ, List.getElem?_cons_zero, Option.getD_some]); rfl)); (try simp only [Act.put, List.setIfInBounds_toArray, List.set_cons_zero, List.set_cons_succ])) | (apply Calm.still_op_not; (focus rfl); (try simp only [Act.put, List.setIfInBounds_toArray, List.set_cons_zero, List.set_cons_succ])) | (apply Calm.still_op; (focus rfl); (focus (intro W hb; obtain ⟨hc, hf⟩ := bcell hb; clear hb hf; go_simp; (try go_bits); (try rfl); done)); (try simp only [Act.put, List.setIfInBounds_toArray, List.set_cons_zero, List.set_cons_succ])))
    (first | (apply Calm.still_op_move; (focus rfl); (focus (first | exact .inl rfl | exact .inr rfl)); (focus ((try simp only [Act.eval, Array.getD_eq_getD_getElem?, List.getElem?_toArray, List.getElem?_cons_succ, List.getElem?_cons_zero, Option.getD_some]); rfl)); (try simp only [Act.put, List.setIfInBounds_toArray, List.set_cons_zero, List.set_cons_succ])) | (apply Calm.still_op_not; (focus rfl); (try simp only [Act.put, List.setIfInBounds_toArray, List.set_cons_zero, List.set_cons_succ])) | (apply Calm.still_op; (focus rfl); (focus (intro W hb; obtain ⟨hc, hf⟩ := bcell hb; clear hb hf; go_simp; (try go_bits); (try rfl); done)); (try simp only [Act.put, List.setIfInBounds_toArray, List.set_cons_zero, List.set_cons_succ])))
    (first | (apply Calm.still_op_move; (focus rfl); (focus (first | exact .inl rfl | exact .inr rfl)); (focus ((try simp only [Act.eval, Array.getD_eq_getD_getElem?, List.getElem?_toArray, List.getElem?_cons_succ, List.getElem?_cons_zero, Option.getD_some]); rfl)); (try simp only [Act.put, List.setIfInBounds_toArray, List.set_cons_zero, List.set_cons_succ])) | (apply Calm.still_op_not; (focus rfl); (try simp only [Act.put, List.setIfInBounds_toArray, List.set_cons_zero, List.set_cons_succ])) | (apply Calm.still_op; (focus rfl); (focus (intro W hb; obtain ⟨hc, hf⟩ := bcell hb; clear hb hf; go_simp; (try go_bits); (try rfl); done)); (try simp only [Act.put, List.setIfInBounds_toArray, List.set_cons_zero, List.set_cons_succ])))
    (first | (apply Calm.still_op_move; (focus rfl); (focus (first | exact .inl rfl | exact .inr rfl)); (focus ((try simp only [Act.eval, Array.getD_eq_getD_getElem?, List.getElem?_toArray, List.getElem?_cons_succ, List.getElem?_cons_zero, Option.getD_some]); rfl)); (try simp only [Act.put, List.setIfInBounds_toArray, List.set_cons_zero, List.set_cons_succ])) | (apply Calm.still_op_not; (focus rfl); (try simp only [Act.put, List.setIfInBounds_toArray, List.set_cons_zero, List.set_cons_succ])) | (apply Calm.still_op; (focus rfl); (focus (intro W hb; obtain ⟨hc, hf⟩ := bcell hb; clear hb hf; go_simp; (try go_bits); (try rfl); done)); (try simp only [Act.put, List.setIfInBounds_toArray, List.set_cons_zero, List.set_cons_succ])))
    (first | (apply Calm.still_op_move; (focus rfl); (focus (first | exact .inl rfl | exact .inr rfl)); (focus ((try simp only [Act.eval, Array.getD_eq_getD_getElem?, List.getElem?_toArray, List.getElem?_cons_succ, List.getElem?_cons_zero, Option.getD_some]); rfl)); (try simp only [Act.put, List.setIfInBounds_toArray, List.set_cons_zero, List.set_cons_succ])) | (apply Calm.still_op_not; (focus rfl); (try simp only [Act.put, List.setIfInBounds_toArray, List.set_cons_zero, List.set_cons_succ])) | (apply Calm.still_op; (focus rfl); (focus (intro W hb; obtain ⟨hc, hf⟩ := bcell hb; clear hb hf; go_simp; (try go_bits); (try rfl); done)); (try simp only [Act.put, List.setIfInBounds_toArray, List.set_cons_zero, List.set_cons_succ])))
    apply Calm.still_op (.bool false)
    focus rfl
    focus (intro W hb; obtain ⟨hc, hf⟩ := bcell hb; clear hb hf; go_simp; (try (first | (simp; done) | (simp; omega) | omega)))
    (try simp only [Act.put, List.setIfInBounds_toArray, List.set_cons_zero, List.set_cons_succ])
    repeat (first | (apply Calm.still_op_move; (focus rfl); (focus (first | exact .inl rfl | exact .inr rfl)); (focus ((try simp only [Act.eval, Array.getD_eq_getD_getElem?, List.getElem?_toArray, List.getElem?_cons_succ, List.getElem?_cons_zero, Option.getD_some]); rfl)); (try simp only [Act.put, List.setIfInBounds_toArray, List.set_cons_zero, List.set_cons_succ])) | (apply Calm.still_op_not; (focus rfl); (try simp only [Act.put, List.setIfInBounds_toArray, List.set_cons_zero, List.set_cons_succ])) | (apply Calm.still_op; (focus rfl); (focus (intro W hb; obtain ⟨hc, hf⟩ := bcell hb; clear hb hf; go_simp; (try go_bits); (try rfl); done)); (try simp only [Act.put, List.setIfInBounds_toArray, List.set_cons_zero, List.set_cons_succ])))
    refine Calm.still_nil ?_
    intro w1 hb
    obtain ⟨hbc, hbf⟩ := bcell hb
    have hbz := hb.size
    (try simp at hbz)
    (try have hbz0 : w.heap.size < w1.heap.size := by omega)
    (try have hbz1 : w.heap.size + 1 < w1.heap.size := by omega)
    (try have hbz2 : w.heap.size + 1 + 1 < w1.heap.size := by omega)
    (try have hbz3 : w.heap.size + 1 + 1 + 1 < w1.heap.size := by omega)
    (try have hbz4 : w.heap.size + 1 + 1 + 1 + 1 < w1.heap.size := by omega)
    (try have hbz5 : w.heap.size + 1 + 1 + 1 + 1 + 1 < w1.heap.size := by omega)
    go_wp2
    go_ret
    refine ⟨by first | rfl | (simp; done) | (simp; omega), ?_⟩
    repeat (first | (with_reducible exact Below.refl _ _) | ((with_reducible refine Below.setCell ?_ ?_ _); rotate_left 1; focus (first | (simp; done) | (simp; omega) | (simp at *; omega))) | ((with_reducible refine Below.alloc ?_ ?_ _); rotate_left 1; focus (first | (simp; done) | (simp; omega) | (simp at *; omega))) | (with_reducible refine Below.drew ?_) | ((with_reducible refine Calm.step (by assumption) ?_ ?_); rotate_left 1; focus (first | (simp; done) | (simp; omega) | (simp at *; omega))))
end Go.Proofs.YtpkldjlljoledaaDoor

/- Contract of the reference's Linear. %still -/
namespace Go.Proofs.YtpkldjlljoledaaDoor
open Go.RowKit
open Calm (bcell Blk)

set_option maxRecDepth 100000 in
set_option maxHeartbeats 4000000 in
theorem refLinear_ok (xs ys : List Int) (fo st : Int) (A1 A2 : Option Addr) (c1 c2 : Nat) (w : World) (hC1 : Cells w A1 xs) (hC2 : Cells w A2 ys) (h : linErr xs ys fo st = 0) :
    Calls Tryd.prog 49 #[.agg #[.slice A1 xs.length c1, .slice A2 ys.length c2], (.int .i64 (fo)), (.int .i64 (st))] w fun r w' => r = .returned (.int .i64 (linD xs ys fo st)) ∧ Below w.heap.size w w' := by
  have HC1 := Lib.hid hC1
  have HC2 := Lib.hid hC2
  clear hC1 hC2
  unfold linErr at h
  have hh := firstOf_eq_zero.1 h
  simp only [List.mem_cons, List.not_mem_nil, or_false, forall_eq_or_imp, forall_eq, rangeErr_zero] at hh
  obtain ⟨g1, g2, g3⟩ := hh
  have HZ := Lib.hid (curve_zero g1)
  have HF := Lib.hid g2
  have HS := Lib.hid g3
  have hlen := (curve_zero g1).1
  clear g1 g2 g3 h
  obtain ⟨R, hR⟩ : ∃ R, R = linD xs ys fo st := ⟨_, rfl⟩
  have HR := Lib.hid hR
  rw [← hR]
  clear hR
  obtain ⟨l1, l2, l3, l4⟩ := hlen
  rw [l4]
  obtain ⟨N, hN⟩ : ∃ N, N = xs.length := ⟨_, rfl⟩
  have HN := Lib.hid hN
  have HN2 := Lib.hid (l4.trans hN.symm)
  rw [← hN] at l1 l2 l3 ⊢
  clear l4 hN
  obtain ⟨m, hm⟩ : ∃ m, m = N / 2 := ⟨_, rfl⟩
  have hq : Int.tdiv (N : Int) 2 = m := by rw [Int.tdiv_eq_ediv_of_nonneg (by omega)]; omega
  have hq2 : (N : Int) / 2 = m := by omega
  have HM := Lib.hid hm
  have hRm : R = climb (fun d => fineB xs ys m fo st (m - d - 1) && fineB xs ys m fo st (m + d + 1)) m := by
    rw [HR.out]
    unfold linD
    rw [← HN.out, ← HM.out]
  have HRM := Lib.hid hRm
  clear hRm
  have hm16 : m ≤ 16 := by omega
  have hNm : N = m + m + 1 := by omega
  clear hm
  have hFine : ∀ (W : World) (i : Nat) (z : Int), z = i → i < N → Cells W A1 xs → Cells W A2 ys →
      Calls Tryd.prog 94 #[.agg #[.slice A1 N c1, .slice A2 N c2], (.int .i64 (z)), (.int .i64 (fo)), (.int .i64 (st))] W fun r w' => r = .returned (.bool (fineB xs ys m fo st i)) ∧ Below W.heap.size W w' := by
    intro W i z hz hi k5 k6
    subst hz
    have e1 := HN.out
    have e2 := HN2.out
    have := keeps_any xs ys i m fo st A1 A2 c1 c2 W (by rw [← e1]; exact HM.out) (by omega) k5 k6 (by omega) (by omega) (by omega) HZ.out.2.1 HZ.out.2.2 HF.out HS.out
    rwa [e2, ← e1] at this
  have HFI := Lib.hid hFine
  have HNM := Lib.hid hNm
  clear hFine hNm
  go_enter Tryd.func49, Tryd.ntmps49
  go_wp2
  have k0 : Blk (w.alloc (.cells #[.slice A1 N c1, .slice A2 N c2] 85)) w.heap.size #[.slice A1 N c1, .slice A2 N c2] := Blk.at_ rfl
  have hb0 : Below w.heap.size w (w.alloc (.cells #[.slice A1 N c1, .slice A2 N c2] 85)) := (Below.refl _ _).alloc (Nat.le_refl _) _
  go_loopw [8] (fun d wr => ∃ k : Nat, k ≤ m ∧ d = (.int .i64 (k)) ∧ (∀ j, j < k → (fineB xs ys m fo st (m - j - 1) && fineB xs ys m fo st (m + j + 1)) = true) ∧ Below w.heap.size w wr ∧ Blk wr w.heap.size #[.slice A1 N c1, .slice A2 N c2]) (fun d _ => m - (intOf d).toNat)
  case atStart => exact ⟨0, Nat.zero_le _, rfl, fun j hj => by omega, hb0, k0⟩
  case round =>
    clear k0 hb0
    obtain ⟨k, hk, rfl, hz, hB, K1⟩ := hrel
    have HJ := Lib.hid hz
    clear hz
    have hsz := hB.size
    have d0 := K1.cell 0 _ rfl
    have d1 := K1.cell 1 _ rfl
    have dl := K1.lt
    by_cases hlt : k < m
    · cases f1 : fineB xs ys m fo st (m - k - 1)
      · have HF1 := Lib.hid f1
        clear f1
        go_wp2_with (go_at_call 94; refine (HFI.out _ (m - k - 1) _ (by omega) (by have := HNM.out; omega) (HC1.out.below hB) (HC2.out.below hB)).mono ?_; rw [HF1.out]; rintro r w2 ⟨rfl, hb2⟩; obtain ⟨hc2, hf2⟩ := bcell hb2)
        go_ret
        have hR : R = k := HRM.out.trans (climb_eq HJ.out hk (.inr (by simp [HF1.out])))
        refine ⟨by rw [hR]; first | rfl | (simp; done), ?_⟩
        exact hB.trans (Below.mono (by (repeat (first | (with_reducible exact Below.refl _ _) | ((with_reducible refine Below.setCell ?_ ?_ _); rotate_left 1; focus (first | (simp; done) | (simp; omega) | (simp at *; omega))) | ((with_reducible refine Below.alloc ?_ ?_ _); rotate_left 1; focus (first | (simp; done) | (simp; omega) | (simp at *; omega))) | (with_reducible refine Below.drew ?_) | ((with_reducible refine Calm.step (by assumption) ?_ ?_); rotate_left 1; focus (first | (simp; done) | (simp; omega) | (simp at *; omega)))))) hsz)
      · have HF1 := Lib.hid f1
        clear f1
        cases f2 : fineB xs ys m fo st (m + k + 1)
        · have HF2 := Lib.hid f2
          clear f2
          go_wp2_with (first
            | (go_at_call 94; refine (HFI.out _ (m - k - 1) _ (by omega) (by have := HNM.out; omega) (HC1.out.below hB) (HC2.out.below hB)).mono ?_; rw [HF1.out]; rintro r w2 ⟨rfl, hb2⟩; obtain ⟨hc2, hf2⟩ := bcell hb2)
            | (go_at_call 94; refine (HFI.out _ (m + k + 1) _ (by omega) (by have := HNM.out; omega) ((HC1.out.below hB).below hb2) ((HC2.out.below hB).below hb2)).mono ?_; rw [HF2.out]; rintro r w3 ⟨rfl, hb3⟩; obtain ⟨hc3, hf3⟩ := bcell hb3))
          go_ret
          have hR : R = k := HRM.out.trans (climb_eq HJ.out hk (.inr (by simp [HF2.out])))
          refine ⟨by rw [hR]; first | rfl | (simp; done), ?_⟩
          exact hB.trans (Below.mono (hb2.trans (Below.mono hb3 hb2.size)) hsz)
        · have HF2 := Lib.hid f2
          clear f2
          go_wp2_with (first
            | (go_at_call 94; refine (HFI.out _ (m - k - 1) _ (by omega) (by have := HNM.out; omega) (HC1.out.below hB) (HC2.out.below hB)).mono ?_; rw [HF1.out]; rintro r w2 ⟨rfl, hb2⟩; obtain ⟨hc2, hf2⟩ := bcell hb2)
            | (go_at_call 94; refine (HFI.out _ (m + k + 1) _ (by omega) (by have := HNM.out; omega) ((HC1.out.below hB).below hb2) ((HC2.out.below hB).below hb2)).mono ?_; rw [HF2.out]; rintro r w3 ⟨rfl, hb3⟩; obtain ⟨hc3, hf3⟩ := bcell hb3))
          go_roundw
          case rel => exact ⟨k + 1, by omega, by go_num, fun j hj => by
            rcases Nat.lt_or_ge j k with h | h
            · exact HJ.out j h
            · obtain rfl : j = k := by omega
              rw [HF1.out, HF2.out]; rfl, hB.trans (Below.mono (hb2.trans (Below.mono hb3 hb2.size)) hsz), (K1.below hb2).below hb3⟩
          case measure => simp [intOf]; omega
    · obtain rfl : k = m := by omega
      go_wp2
      go_ret
      have hR : R = k := HRM.out.trans (climb_eq HJ.out hk (.inl rfl))
      exact ⟨by rw [hR]; first | rfl | (simp; done), hB⟩
end Go.Proofs.YtpkldjlljoledaaDoor

/- What DriverEven says of numbers: curves read backwards, doubled, flat; lesser demands. No program. -/
namespace Go.Proofs.YtpkldjlljoledaaDoor

theorem climb_le (p : Nat → Bool) (n : Nat) : climb p n ≤ n := by
  unfold climb
  exact Nat.le_trans (List.takeWhile_sublist _).length_le (by simp)
theorem climb_at (p : Nat → Bool) : ∀ n : Nat, (∀ j, j < climb p n → p j = true) ∧ (climb p n = n ∨ p (climb p n) = false) := by
  intro n
  rcases Classical.em (∃ d, d < n ∧ p d = false) with h | h
  · obtain ⟨d, ⟨hd, hp⟩, hmin⟩ : ∃ d, (d < n ∧ p d = false) ∧ ∀ j, j < d → p j = true := by
      obtain ⟨d, hd⟩ := h
      induction d using Nat.strongRecOn with
      | _ d ih =>
        rcases Classical.em (∃ j, j < d ∧ p j = false) with h' | h'
        · obtain ⟨j, hj, hpj⟩ := h'
          exact ih j hj ⟨by omega, hpj⟩
        · refine ⟨d, hd, fun j hj => ?_⟩
          cases hpj : p j with
          | true => rfl
          | false => exact absurd ⟨j, hj, hpj⟩ h'
    have e := climb_eq (n := n) hmin (by omega) (.inr hp)
    rw [e]
    exact ⟨hmin, .inr hp⟩
  · have hall : ∀ j, j < n → p j = true := fun j hj => by
      cases hpj : p j with
      | true => rfl
      | false => exact absurd ⟨j, hj, hpj⟩ h
    have e := climb_eq (n := n) hall (Nat.le_refl _) (.inl rfl)
    rw [e]
    exact ⟨hall, .inl rfl⟩
theorem climb_congr {p q : Nat → Bool} {n : Nat} (h : ∀ j, j < n → p j = q j) : climb p n = climb q n := by
  obtain ⟨h1, h2⟩ := climb_at q n
  have hle := climb_le q n
  refine climb_eq (fun j hj => (h j (by omega)).trans (h1 j hj)) hle ?_
  rcases h2 with h2 | h2
  · exact .inl h2
  · rcases Nat.lt_or_ge (climb q n) n with h3 | h3
    · exact .inr ((h _ h3).trans h2)
    · exact .inl (by omega)
theorem climb_mono {p q : Nat → Bool} {n : Nat} (h : ∀ j, j < n → p j = true → q j = true) : climb p n ≤ climb q n := by
  obtain ⟨h1, _⟩ := climb_at p n
  obtain ⟨_, h2⟩ := climb_at q n
  have hp := climb_le p n
  rcases h2 with h2 | h2
  · omega
  · rcases Nat.lt_or_ge (climb q n) (climb p n) with h3 | h3
    · rw [h _ (by omega) (h1 _ h3)] at h2
      cases h2
    · exact h3
theorem climb_all {p : Nat → Bool} {n : Nat} (h : ∀ j, j < n → p j = true) : climb p n = n := climb_eq h (Nat.le_refl _) (.inl rfl)

theorem linD_le (xs ys : List Int) (fo st : Int) : linD xs ys fo st ≤ xs.length / 2 := climb_le _ _

theorem getD_reverse {l : List Int} {i : Nat} (h : i < l.length) : l.reverse.getD i 0 = l.getD (l.length - 1 - i) 0 := by
  simp [List.getD_eq_getElem?_getD, List.getElem?_reverse h]
/-- backwards. -/
theorem linD_back {xs ys : List Int} {fo st : Int} (h : xs.length % 2 = 1) (h' : ys.length = xs.length) : linD xs.reverse ys.reverse fo st = linD xs ys fo st := by
  unfold linD
  rw [List.length_reverse]
  obtain ⟨m, hm⟩ : ∃ m, xs.length = 2 * m + 1 := ⟨xs.length / 2, by omega⟩
  have e : xs.length / 2 = m := by omega
  rw [e]
  refine climb_congr fun d hd => ?_
  have k0 : ∀ i, i ≤ 2 * m → fineB xs.reverse ys.reverse m fo st i = fineB xs ys m fo st (2 * m - i) := fun i hi => by
    unfold fineB
    rw [getD_reverse (l := xs) (i := m) (by omega), getD_reverse (l := xs) (i := i) (by omega), getD_reverse (l := ys) (i := m) (by omega), getD_reverse (l := ys) (i := i) (by omega), h', hm,
      show 2 * m + 1 - 1 - m = m by omega, show 2 * m + 1 - 1 - i = 2 * m - i by omega]
  rw [k0 _ (by omega), k0 _ (by omega), show 2 * m - (m - d - 1) = m + d + 1 by omega, show 2 * m - (m + d + 1) = m - d - 1 by omega, Bool.and_comm]

theorem getD_double {l : List Int} {i : Nat} : (l.map (2 * ·)).getD i 0 = 2 * l.getD i 0 := by
  simp only [List.getD_eq_getElem?_getD, List.getElem?_map]
  cases l[i]? <;> simp
/-- twice as strong and twice as stiff. -/
theorem linD_twice (xs ys : List Int) (fo st : Int) : linD (xs.map (2 * ·)) (ys.map (2 * ·)) fo st = linD xs ys fo st := by
  unfold linD
  rw [List.length_map]
  have k0 : ∀ n i, fineB (xs.map (2 * ·)) (ys.map (2 * ·)) n fo st i = fineB xs ys n fo st i := fun n i => by
    unfold fineB
    simp only [getD_double]
    rw [show fo * (2 * xs.getD n 0) = 2 * (fo * xs.getD n 0) by ac_rfl, show 100 * (2 * xs.getD i 0) = 2 * (100 * xs.getD i 0) by ac_rfl, show st * (2 * ys.getD n 0) = 2 * (st * ys.getD n 0) by ac_rfl, show 100 * (2 * ys.getD i 0) = 2 * (100 * ys.getD i 0) by ac_rfl]
    congr 1
    · exact decide_eq_decide.2 (by omega)
    · exact decide_eq_decide.2 (by omega)
  simp only [k0]

/-- equal numbers. -/
theorem linD_flat {n : Nat} {a b fo st : Int} (hn : n % 2 = 1) (ha : 0 ≤ a) (hb : 0 ≤ b) (hf : fo ≤ 100) (hs : 100 ≤ st) : linD (List.replicate n a) (List.replicate n b) fo st = n / 2 := by
  unfold linD
  rw [List.length_replicate]
  refine climb_all fun d hd => ?_
  have k0 : ∀ i, i < n → fineB (List.replicate n a) (List.replicate n b) (n / 2) fo st i = true := fun i hi => by
    have g : ∀ (x : Int) (j : Nat), j < n → (List.replicate n x).getD j 0 = x := fun x j hj => by simp [List.getD_eq_getElem?_getD, hj]
    unfold fineB
    rw [g _ _ hi, g _ _ (by omega), g _ _ hi, g _ _ (by omega)]
    have h1 : fo * a ≤ 100 * a := Int.mul_le_mul_of_nonneg_right hf ha
    have h2 : 100 * b ≤ st * b := Int.mul_le_mul_of_nonneg_right hs hb
    simp [h1, h2]
  rw [k0 _ (by omega), k0 _ (by omega)]
  rfl

/-- lesser demands. -/
theorem linD_less {xs ys : List Int} {fo st fo' st' : Int} (hx : ∀ x ∈ xs, 0 ≤ x) (hy : ∀ y ∈ ys, 0 ≤ y) (hf : fo' ≤ fo) (hs : st ≤ st') : linD xs ys fo st ≤ linD xs ys fo' st' := by
  have gx : ∀ i, 0 ≤ xs.getD i 0 := fun i => by
    rw [List.getD_eq_getElem?_getD]
    cases h : xs[i]? with
    | none => simp
    | some x => exact hx x (List.mem_of_getElem? h)
  have gy : ∀ i, 0 ≤ ys.getD i 0 := fun i => by
    rw [List.getD_eq_getElem?_getD]
    cases h : ys[i]? with
    | none => simp
    | some x => exact hy x (List.mem_of_getElem? h)
  refine climb_mono fun d _ h => ?_
  have k0 : ∀ n i, fineB xs ys n fo st i = true → fineB xs ys n fo' st' i = true := fun n i h => by
    unfold fineB at h ⊢
    simp only [Bool.and_eq_true, decide_eq_true_eq] at h ⊢
    have h1 : fo' * xs.getD n 0 ≤ fo * xs.getD n 0 := Int.mul_le_mul_of_nonneg_right hf (gx n)
    have h2 : st * ys.getD n 0 ≤ st' * ys.getD n 0 := Int.mul_le_mul_of_nonneg_right hs (gy n)
    omega
  simp only [Bool.and_eq_true] at h ⊢
  exact ⟨k0 _ _ h.1, k0 _ _ h.2⟩
end Go.Proofs.YtpkldjlljoledaaDoor

/- Contracts of package driver's 'kept' over readings, and of 'explains'. -/
namespace Go.Proofs.YtpkldjlljoledaaDoor
open Go.RowKit
open Calm (bcell Blk)

theorem ownsRow_below {w w' : World} {B e size n : Nat} {v : Value} {xs : List Value} (h : w.ownsRow B e size v n xs) (hb : Below w.heap.size w w') : w'.ownsRow B e size v n xs := by
  refine ⟨h.1, ?_⟩
  rcases h.2 with hn | ⟨g, cap, cur, rfl, hg, hgg, rest⟩
  · exact .inl hn
  · exact .inr ⟨g, cap, cur, rfl, hg, by rw [hb.block g (Array.getElem?_eq_some_iff.1 hgg).1]; exact hgg, rest⟩

theorem readErr_zero {a b c : Int} (h : readErr a b c = 0) : (1 ≤ a ∧ a ≤ 8) ∧ (0 ≤ b ∧ b ≤ 1000000) ∧ (0 ≤ c ∧ c ≤ 1000000) ∧ b ≤ c := by
  unfold readErr at h
  have h1 := firstOf_eq_zero.1 h
  simp only [List.mem_cons, List.not_mem_nil, or_false, forall_eq_or_imp, forall_eq, rangeErr_zero] at h1
  obtain ⟨h1, h2, h3, h4⟩ := h1
  refine ⟨h1, h2, h3, ?_⟩
  by_cases hh : c < b
  · rw [if_pos hh] at h4; omega
  · omega
theorem fit_of {re le bl ma st lo w0 : Int} (hd : drvErr re le bl ma st lo = 0) (hw : 1 ≤ w0 ∧ w0 ≤ 8) : Fit re le bl ma st lo w0 := by
  refine drvn_fit ?_
  unfold drvnErr
  refine firstOf_eq_zero.2 ?_
  simp only [List.mem_cons, List.not_mem_nil, or_false, forall_eq_or_imp, forall_eq, rangeErr_zero]
  exact ⟨hd, hw⟩

theorem Tryd.infoR : (Tryd.prog.info? 126).map (fun i => (i.zero, i.size, i.bytes)) = some (some (.agg #[.int .i64 0, .int .i64 0, .int .i64 0]), 3, 24) := by kernel_rfl

/-- the readings that a driver fits. -/
def keptFit (re le bl ma st lo : Int) (zs : List (Int × Int × Int)) : List (Int × Int × Int) := zs.filter (fun r => fitB re le bl ma st lo r.1 r.2.1 r.2.2)
def flat3 (zs : List (Int × Int × Int)) : List Value := zs.flatMap fun r => [(.int .i64 (r.1)), (.int .i64 (r.2.1)), (.int .i64 (r.2.2))]
theorem flat3_append (a b : List (Int × Int × Int)) : flat3 (a ++ b) = flat3 a ++ flat3 b := by simp [flat3]
theorem keptFit_succ (re le bl ma st lo : Int) {zs : List (Int × Int × Int)} {k : Nat} (hk : k < zs.length) : keptFit re le bl ma st lo (zs.take (k + 1)) = keptFit re le bl ma st lo (zs.take k) ++ (if fitB re le bl ma st lo (zs.getD k (0, 0, 0)).1 (zs.getD k (0, 0, 0)).2.1 (zs.getD k (0, 0, 0)).2.2 = true then [zs.getD k (0, 0, 0)] else []) := by
  rw [List.take_succ_eq_append_getElem hk]
  simp only [keptFit, List.filter_append, List.getD_eq_getElem?_getD, List.getElem?_eq_getElem hk, Option.getD_some]
  by_cases h : fitB re le bl ma st lo zs[k].1 zs[k].2.1 zs[k].2.2 = true <;> simp [h]
theorem keptFit_le (re le bl ma st lo : Int) (zs : List (Int × Int × Int)) (k : Nat) : (keptFit re le bl ma st lo (zs.take k)).length ≤ k := Nat.le_trans (List.length_filter_le _ _) (List.length_take_le _ _)

set_option maxHeartbeats 4000000 in
set_option maxRecDepth 100000 in
theorem keptFit_any (re le bl ma st lo : Int) (A : Option Addr) (zs : List (Int × Int × Int)) (c : Nat) (w : World) (hd : drvErr re le bl ma st lo = 0) (hC : RCells w A zs) (hn : zs.length ≤ 1000) (hz : ∀ k, k < zs.length → readErr (zs.getD k (0, 0, 0)).1 (zs.getD k (0, 0, 0)).2.1 (zs.getD k (0, 0, 0)).2.2 = 0) :
    Calls Tryd.prog 116 #[.slice A zs.length c, .func (.func 117) #[.agg #[(.int .i64 (re)), (.int .i64 (le)), (.int .i64 (bl)), (.int .i64 (ma)), (.int .i64 (st)), (.int .i64 (lo))]] #[]] w (SomeLen (keptFit re le bl ma st lo zs).length w) := by
  obtain ⟨i0, hi, hz0, hz1, hz2⟩ := info_parts Tryd.infoR
  have HZ := Lib.hid hz
  have HC := Lib.hid hC
  have HD := Lib.hid hd
  clear hz hC hd
  go_enter Tryd.func116, Tryd.ntmps116
  go_wp2
  go_loopw [5, 10] (fun v i wr => ∃ k : Nat, k ≤ zs.length ∧ i = (.int .i64 (k)) ∧ wr.ownsRow w.heap.size 126 3 v (keptFit re le bl ma st lo (zs.take k)).length (flat3 (keptFit re le bl ma st lo (zs.take k))) ∧ Below w.heap.size w wr) (fun _ i _ => zs.length - (intOf i).toNat)
  case atStart => exact ⟨0, Nat.zero_le _, rfl, World.ownsRow_nil _ _ _ _, Below.refl _ _⟩
  case round =>
    obtain ⟨k, hk, rfl, hown, hB⟩ := hrel
    have hle := keptFit_le re le bl ma st lo zs k
    have hsz := hB.size
    by_cases hlt : k < zs.length
    · have hE := HZ.out k hlt
      obtain ⟨b, o, rfl, l1, k1⟩ := HC.out (by omega)
      obtain ⟨x1, x2, x3⟩ := k1 k hlt
      have x1 := (hB.cell (p := ⟨b, o + k * 3, none⟩) l1).trans x1
      have x2 := (hB.cell (p := ⟨b, o + k * 3 + 1, none⟩) l1).trans x2
      have x3 := (hB.cell (p := ⟨b, o + k * 3 + 2, none⟩) l1).trans x3
      have hs := keptFit_succ re le bl ma st lo hlt
      clear k1
      obtain ⟨⟨x, y, z⟩, hx⟩ : ∃ x, x = zs.getD k (0, 0, 0) := ⟨_, rfl⟩
      rw [← hx] at x1 x2 x3 hE hs
      clear hx
      simp only [] at x1 x2 x3 hE hs
      obtain ⟨q1, q2, q3, _⟩ := readErr_zero hE
      have hF := fit_of HD.out q1
      clear hE
      cases hf : fitB re le bl ma st lo x y z
      · rw [hf, if_neg (by simp), List.append_nil] at hs
        have HS := Lib.hid hs
        have HO := Lib.hid hown
        clear hs hown
        go_wp2_with (go_at_call 117; refine (fits_any re le bl ma st lo x y z _ hF q2 q3).mono ?_; rw [hf]; rintro r w1 ⟨rfl, hb⟩; obtain ⟨hc, hff⟩ := bcell hb; have hz := hb.size; (try simp at hz))
        go_roundw
        case rel => exact ⟨k + 1, by omega, by go_num, by rw [HS.out]; exact ownsRow_below HO.out (Below.trans ((Below.refl _ _).alloc (Nat.le_refl _) _) (Below.mono hb (by simp))), hB.trans (Below.mono (by (repeat (first | (with_reducible exact Below.refl _ _) | ((with_reducible refine Below.setCell ?_ ?_ _); rotate_left 1; focus (first | (simp; done) | (simp; omega) | (simp at *; omega))) | ((with_reducible refine Below.alloc ?_ ?_ _); rotate_left 1; focus (first | (simp; done) | (simp; omega) | (simp at *; omega))) | (with_reducible refine Below.drew ?_) | ((with_reducible refine Calm.step (by assumption) ?_ ?_); rotate_left 1; focus (first | (simp; done) | (simp; omega) | (simp at *; omega)))))) hsz)⟩
        case measure => simp [intOf]; omega
      · rw [hf, if_pos rfl] at hs
        have HS := Lib.hid hs
        have HO := Lib.hid hown
        clear hs hown
        go_wp2_with (first
          | (go_at_call 117; refine (fits_any re le bl ma st lo x y z _ hF q2 q3).mono ?_; rw [hf]; rintro r w1 ⟨rfl, hb⟩; obtain ⟨hc, hff⟩ := bcell hb; have hz := hb.size; (try simp at hz); have ho1 := ownsRow_below HO.out (Below.trans ((Below.refl _ _).alloc (Nat.le_refl _) _) (Below.mono hb (by simp))))
          | (at_builtin; refine wpList_append_own _ rfl _ _ 110 rfl w.heap.size 126 i0 _ 3 24 Tryd.underlying110 hi hz0 hz1 hz2 rfl (by decide) _ _ _ rfl (ho1.alloc _) ⟨w1.heap.size, 0, none⟩ 1 1 [(.int .i64 (x)), (.int .i64 (y)), (.int .i64 (z))] rfl rfl ?c1 ?c2 ?c3 ?c4 ?c5 ?_))
        case c1 =>
          intro j u hj
          match j, hj with
          | 0, hj => simp at hj; subst hj; simp [Addr.add]
          | 1, hj => simp at hj; subst hj; simp [Addr.add]
          | 2, hj => simp at hj; subst hj; simp [Addr.add]
        case c2 => intro u hu; simp at hu; rcases hu with rfl | rfl | rfl <;> rfl
        case c3 => unfold maxLen; omega
        case c4 => omega
        case c5 => simp; omega
        intro v' w2 hown' hgrow _
        have hB1 : Below w.heap.size w w1 := hB.trans (Below.mono (by (repeat (first | (with_reducible exact Below.refl _ _) | ((with_reducible refine Below.setCell ?_ ?_ _); rotate_left 1; focus (first | (simp; done) | (simp; omega) | (simp at *; omega))) | ((with_reducible refine Below.alloc ?_ ?_ _); rotate_left 1; focus (first | (simp; done) | (simp; omega) | (simp at *; omega))) | (with_reducible refine Below.drew ?_) | ((with_reducible refine Calm.step (by assumption) ?_ ?_); rotate_left 1; focus (first | (simp; done) | (simp; omega) | (simp at *; omega)))))) hsz)
        have hB' : Below w.heap.size w w2 := (hB1.alloc (by omega) _).grown hgrow (by simp; omega) (fun j hj => (HO.out.lt j hj).1)
        clear hgrow
        go_wp2
        go_roundw
        case rel => exact ⟨k + 1, by omega, by go_num, by rw [HS.out, flat3_append]; simpa [flat3] using hown', hB'⟩
        case measure => simp [intOf]; omega
    · obtain rfl : k = zs.length := by omega
      have e : zs.take zs.length = zs := List.take_length
      rw [e] at hown
      go_wp2
      go_ret
      rcases hown.2 with ⟨rfl, h⟩ | ⟨g, cap, cur, rfl, _⟩
      · have h1 := hown.1
        exact ⟨none, 0, by rw [h]; rfl, hB⟩
      · exact ⟨_, _, rfl, hB⟩
end Go.Proofs.YtpkldjlljoledaaDoor
