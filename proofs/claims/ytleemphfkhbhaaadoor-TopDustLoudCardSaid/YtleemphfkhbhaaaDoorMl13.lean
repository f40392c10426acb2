/- Part 13 of the texts of the claim: S6, S7, CopyI, S8. -/
import Derived.Test.YtleemphfkhbhaaaDoorMl12
import Derived.RangeFuncBox
import Derived.Test.YtleemphfkhbhaaaDoorMl3
import Derived.Laws.CopyRow

/- Contract of (Section).from. -/
namespace Go.Proofs.YtleemphfkhbhaaaDoor
open Go.RowKit
open Calm (bcell Blk)

def encX (s : XS) : Array Value := #[(.int .i64 (s.1)), (.int .i64 (s.2.1)), (.int .i64 (s.2.2.1)), (.int .i64 (s.2.2.2))]
def lastX (st : XS) (pre : List (Int × XS)) : XS := (pre.getLast?.map Prod.snd).getD st
theorem lastX_snoc (st : XS) (pre : List (Int × XS)) (x : Int × XS) : lastX st (pre ++ [x]) = x.2 := by simp [lastX]
theorem lastX_all (b0 b1 b2 a1 a2 sh : Int) (st : XS) (xs : List Int) : ∀ n, lastX st (allS b0 b1 b2 a1 a2 sh st xs n) = ssAt b0 b1 b2 a1 a2 sh st xs n
  | 0 => rfl
  | k + 1 => by rw [allS_succ, lastX_snoc]
def soK (b0 b1 b2 a1 a2 sh : Int) (st : XS) (xs : List Int) (n : Nat) : List Int := (List.range n).map fun k => soAt b0 b1 b2 a1 a2 sh st xs k
theorem soK_all (b0 b1 b2 a1 a2 sh : Int) (st : XS) (xs : List Int) (n : Nat) : (allS b0 b1 b2 a1 a2 sh st xs n).map Prod.fst = soK b0 b1 b2 a1 a2 sh st xs n := by simp [allS, soK]
theorem soK_len (b0 b1 b2 a1 a2 sh : Int) (st : XS) (xs : List Int) (n : Nat) : (soK b0 b1 b2 a1 a2 sh st xs n).length = n := by simp [soK]
theorem allS_len (b0 b1 b2 a1 a2 sh : Int) (st : XS) (xs : List Int) (n : Nat) : (allS b0 b1 b2 a1 a2 sh st xs n).length = n := by simp [allS]
/-- a block that lies, and may be written. -/
def Unf (w : World) (b : Nat) : Prop := b < w.heap.size ∧ ∀ i, w.frozen? ⟨b, i, none⟩ = false
theorem Unf.below {w w' : World} {b : Nat} (h : Unf w b) (hb : Below w.heap.size w w') : Unf w' b :=
  ⟨Nat.lt_of_lt_of_le h.1 hb.size, fun i => (hb.frozen (p := ⟨b, i, none⟩) h.1).trans (h.2 i)⟩
theorem own_unf {W : World} {base e size n c k : Nat} {p : Addr} {xs : List Value} (h : W.ownsRow base e size (.slice (some p) n c) k xs) : Unf W p.block := by
  rcases h.2 with ⟨h1, h2⟩ | ⟨g, cap, cur, h1, h2, h3, h4, h5, h6, h7⟩
  · cases h1
  · cases h1
    exact ⟨(Array.getElem?_eq_some_iff.1 h3).1, fun i => by unfold World.frozen?; rw [h3]; simp⟩
theorem kbS_own {β : Type} (w5 : World) (S : Nat → Prop) : OwnFrom w5.heap.size (fun (_ : β) W => ∀ k, k < w5.heap.size → ¬ S k → W.heap[k]? = w5.heap[k]?) := fun s X Y row hs hg hrow k hk hne => by
  have hX := hs k hk hne
  have hlt : k < X.heap.size := by
    rw [Array.getElem?_eq_getElem hk] at hX
    exact (Array.getElem?_eq_some_iff.1 hX).1
  exact (hg.block k hlt (fun e => by have := (hrow k e.symm).1; omega)).trans hX
theorem heapRow_own {β : Type} (B : Nat) (cs : β → Array Value) (t : TypeId) : Own (fun (s : β) W => W.heap[B]? = some (.cells (cs s) t (0, 0))) := fun s X Y row hs hg hrow =>
  (hg.block B (Array.getElem?_eq_some_iff.1 hs).1 (fun e' => by obtain ⟨o, ho, hc⟩ := hrow B e'.symm; rw [hs] at ho; cases ho; cases hc)).trans hs
theorem blk_own {β : Type} (B n : Nat) (hB : B < n) (f : β → Array Value) : OwnFrom n (fun s W => Blk W B (f s)) := fun s X Y row hs hg hrow =>
  Calm.Blk.of_block hs (hg.block B hs.lt (fun e => by have := (hrow B e.symm).1; omega))

set_option maxRecDepth 100000 in
set_option maxHeartbeats 4000000 in
theorem from_any (b0 b1 b2 a1 a2 sh x1 x2 y1 y2 : Int) (xs : List Int) (A : Option Addr) (c : Nat) (w : World) (h0 : bd15 b0) (h1 : bd15 b1) (h2 : bd15 b2) (h3 : bd15 a1) (h4 : bd15 a2) (h5 : 0 ≤ sh ∧ sh ≤ 15)
    (hst : okX (x1, x2, y1, y2)) (hx : inB 32767 xs) (hn : xs.length ≤ 5000) (hC : Cells w A xs) :
    Calls Tryd.prog 26 #[.agg #[(.int .i64 (b0)), (.int .i64 (b1)), (.int .i64 (b2)), (.int .i64 (a1)), (.int .i64 (a2)), (.int .i64 (sh))], .agg #[(.int .i64 (x1)), (.int .i64 (x2)), (.int .i64 (y1)), (.int .i64 (y2))], .slice A xs.length c] w fun r w' => (∃ B d, r = .returned (.tuple #[.slice B xs.length d, .agg (encX (ssAt b0 b1 b2 a1 a2 sh (x1, x2, y1, y2) xs xs.length))]) ∧ (∀ p, B = some p → w.heap.size ≤ p.block ∧ Unf w' p.block) ∧ Cells w' B (soK b0 b1 b2 a1 a2 sh (x1, x2, y1, y2) xs xs.length)) ∧ Below w.heap.size w w' := by
  have hfn : ∀ f, Fence.wide.fn f = True := fun _ => rfl
  obtain ⟨i0, hi, iz0, iz1, iz2⟩ := info_parts Tryd.infoI
  have HO : Hid (∀ (n : Nat) (W : World), Calls Tryd.prog 49 #[.agg #[(.int .i64 (b0)), (.int .i64 (b1)), (.int .i64 (b2)), (.int .i64 (a1)), (.int .i64 (a2)), (.int .i64 (sh))], .agg #[(.int .i64 (x1)), (.int .i64 (x2)), (.int .i64 (y1)), (.int .i64 (y2))], .slice A n c] W fun e w' => e = .returned (.func (.func 59) #[] #[.pointer (some ⟨W.heap.size + 1, 0, none⟩), .pointer (some ⟨W.heap.size + 1 + 1, 0, none⟩), .pointer (some ⟨W.heap.size, 0, none⟩)]) ∧
      Below W.heap.size W w' ∧ Blk w' W.heap.size #[(.int .i64 (b0)), (.int .i64 (b1)), (.int .i64 (b2)), (.int .i64 (a1)), (.int .i64 (a2)), (.int .i64 (sh))] ∧ Blk w' (W.heap.size + 1) #[(.int .i64 (x1)), (.int .i64 (x2)), (.int .i64 (y1)), (.int .i64 (y2))] ∧ Blk w' (W.heap.size + 1 + 1) #[.slice A n c]) := Lib.hid (fun n W => outputs_any b0 b1 b2 a1 a2 sh x1 x2 y1 y2 A n c W)
  obtain ⟨Db, hDb, hD⟩ : ∃ Db, Db < w.heap.size + 1 ∧ (0 < xs.length → ∃ o, A = some ⟨Db, o, none⟩ ∧ Db < w.heap.size) := by
    by_cases hl : 0 < xs.length
    · obtain ⟨b, off, hA, hb, _⟩ := hC hl
      exact ⟨b, by omega, fun _ => ⟨off, hA, hb⟩⟩
    · exact ⟨w.heap.size, by omega, fun h => absurd h hl⟩
  obtain ⟨N, hN⟩ : ∃ N, N = xs.length := ⟨_, rfl⟩
  have HN := Lib.hid hN
  have HC := Lib.hid hC
  have HI : Hid (∀ (W : World) (Sb Xb Lb : Nat) (n : Nat), Blk W Sb #[(.int .i64 (b0)), (.int .i64 (b1)), (.int .i64 (b2)), (.int .i64 (a1)), (.int .i64 (a2)), (.int .i64 (sh))] → Blk W Xb #[(.int .i64 (x1)), (.int .i64 (x2)), (.int .i64 (y1)), (.int .i64 (y2))] → Blk W Lb #[.slice A N c] → Cells W A xs → IterM Fence.wide n Tryd.prog 59 #[.pointer (some ⟨Xb, 0, none⟩), .pointer (some ⟨Lb, 0, none⟩), .pointer (some ⟨Sb, 0, none⟩)] encO (allS b0 b1 b2 a1 a2 sh (x1, x2, y1, y2) xs N) (blks Sb Xb Lb Db) W) :=
    Lib.hid (fun W Sb Xb Lb n k1 k2 k3 k4 => by rw [hN] at k3 ⊢; exact outputs1_iter b0 b1 b2 a1 a2 sh x1 x2 y1 y2 xs Sb Xb Lb Db A c W n h0 h1 h2 h3 h4 h5 hst hx hn k1 k2 k3 k4 (fun h => by obtain ⟨o, e, _⟩ := hD h; exact ⟨o, e⟩))
  rw [← hN] at hn ⊢
  have HLS := Lib.hid (lastX_all b0 b1 b2 a1 a2 sh (x1, x2, y1, y2) xs N)
  have HSK := Lib.hid (soK_all b0 b1 b2 a1 a2 sh (x1, x2, y1, y2) xs N)
  have HAL := Lib.hid (allS_len b0 b1 b2 a1 a2 sh (x1, x2, y1, y2) xs N)
  obtain ⟨AL, hAL⟩ : ∃ AL, AL = allS b0 b1 b2 a1 a2 sh (x1, x2, y1, y2) xs N := ⟨_, rfl⟩
  obtain ⟨LX, hLX⟩ : ∃ LX, LX = ssAt b0 b1 b2 a1 a2 sh (x1, x2, y1, y2) xs N := ⟨_, rfl⟩
  obtain ⟨SK, hSK⟩ : ∃ SK, SK = soK b0 b1 b2 a1 a2 sh (x1, x2, y1, y2) xs N := ⟨_, rfl⟩
  rw [← hAL] at HI HLS HSK HAL
  rw [← hLX] at HLS ⊢
  rw [← hSK] at HSK ⊢
  clear hC hN h0 h1 h2 h3 h4 h5 hst hx hAL hLX hSK
  have HD := Lib.hid hD
  clear hD
  refine (callsIn_wide (n := 10)).1 ?_
  refine callsIn_of_wp_marks Tryd.func26 rfl trivial ?_ rfl
  simp only [Tryd.ntmps26, List.size_toArray, List.length_cons, List.length_nil, Nat.reduceAdd, Nat.reduceSub, Array.replicate_succ, Array.replicate_zero, List.push_toArray, List.append_toArray, List.nil_append, List.cons_append]
  gi_wp2_with (gi_at_call 49; refine (callsIn_wide.2 (HO.out N _)).mono ?_; rintro r w5 ⟨rfl, hb5, K0, K1, K2⟩; obtain ⟨hc5, hf5⟩ := bcell hb5)
  simp only [World.size_alloc] at K0 K1 K2
  have hz5 := K2.lt
  have hO5 : Boxed w5 (w.heap.size + 1 + 1 + 1) 22 (.slice none 0 0) := (hb5.block _ (by simp)).trans (heap_new (by simp))
  have KX : Blk w5 (w.heap.size + 1) #[(.int .i64 (x1)), (.int .i64 (x2)), (.int .i64 (y1)), (.int .i64 (y2))] := Blk.below (by (repeat (first | ((with_reducible refine Blk.at_ ?_); focus (first | rfl | (simp; done) | (simp; omega))) | (with_reducible refine Blk.alloc ?_ _) | (with_reducible refine Blk.below ?_ (by with_reducible assumption)) | (with_reducible refine Blk.drew ?_)))) hb5
  have KR : Blk w5 (w.heap.size + 1 + 1) #[(.int .i64 (0)), (.int .i64 (0)), (.int .i64 (0)), (.int .i64 (0))] := Blk.below (by (repeat (first | ((with_reducible refine Blk.at_ ?_); focus (first | rfl | (simp; done) | (simp; omega))) | (with_reducible refine Blk.alloc ?_ _) | (with_reducible refine Blk.below ?_ (by with_reducible assumption)) | (with_reducible refine Blk.drew ?_)))) hb5
  have HB5 := Lib.hid (show Below w.heap.size w w5 from Below.trans (by (repeat (first | (with_reducible exact Below.refl _ _) | ((with_reducible refine Below.setCell ?_ ?_ _); rotate_left 1; focus (first | (simp; done) | (simp; omega) | (simp at *; omega))) | ((with_reducible refine Below.alloc ?_ ?_ _); rotate_left 1; focus (first | (simp; done) | (simp; omega) | (simp at *; omega))) | (with_reducible refine Below.drew ?_) | ((with_reducible refine Calm.step (by assumption) ?_ ?_); rotate_left 1; focus (first | (simp; done) | (simp; omega) | (simp at *; omega)))))) (hb5.mono (by simp; omega)))
  have HIT := Lib.hid (HI.out w5 _ _ _ (10 - 1) K0 K1 K2 (HC.out.below (Below.trans (by (repeat (first | (with_reducible exact Below.refl _ _) | ((with_reducible refine Below.setCell ?_ ?_ _); rotate_left 1; focus (first | (simp; done) | (simp; omega) | (simp at *; omega))) | ((with_reducible refine Below.alloc ?_ ?_ _); rotate_left 1; focus (first | (simp; done) | (simp; omega) | (simp at *; omega))) | (with_reducible refine Below.drew ?_) | ((with_reducible refine Calm.step (by assumption) ?_ ?_); rotate_left 1; focus (first | (simp; done) | (simp; omega) | (simp at *; omega)))))) (hb5.mono (by simp; omega)))))
  have HKR := Lib.hid KR
  clear hb5 hc5 hf5 K0 K1 K2 HI HO KR
  have hIO : OwnFrom w5.heap.size (fun (pre : List (Int × XS)) W => ((∃ v, Boxed W (w.heap.size + 1 + 1 + 1) 22 v ∧ W.ownsRow (w5.heap.size + 3) 3 1 v pre.length ((pre.map Prod.fst).map (Value.int .i64)) ∧ True) ∧ Blk W (w.heap.size + 1) (encX (lastX (x1, x2, y1, y2) pre)) ∧ ((∀ k, k < w5.heap.size → ¬ (k = w.heap.size + 1 ∨ k = w.heap.size + 1 + 1 + 1) → W.heap[k]? = w5.heap[k]?) ∧ Below w.heap.size w W))) :=
    OwnFrom.and ((holdsRow_own _ _ _ _ _ _ _ _).from _) (OwnFrom.and (blk_own _ _ (by omega) _) (OwnFrom.and (kbS_own w5 _) (ownFrom_below (Nat.le_refl _) (by omega))))
  have HIO := Lib.hid hIO
  refine range_iterM (F := Fence.wide) (n := 10) rfl (by decide) (gf := 59) (lb := #[.pointer (some ⟨w.heap.size + 1 + 1 + 1 + 1 + 1, 0, none⟩), .pointer (some ⟨w.heap.size + 1 + 1 + 1 + 1 + 1 + 1, 0, none⟩), .pointer (some ⟨w.heap.size + 1 + 1 + 1 + 1, 0, none⟩)]) rfl trivial (enters_of Tryd.func59 (by kernel_rfl) rfl)
    (enc := encO) (all := AL) (C := blks (w.heap.size + 1 + 1 + 1 + 1) (w.heap.size + 1 + 1 + 1 + 1 + 1) (w.heap.size + 1 + 1 + 1 + 1 + 1 + 1) Db) (by rintro k (rfl | rfl | rfl | rfl) <;> omega) HIT.out (fun _ => rfl)
    _
    hIO ?his ⟨⟨_, hO5, World.ownsRow_nil _ _ _ _, trivial⟩, KX, fun _ _ _ => rfl, HB5.out⟩
    (fun (pre : List (Int × XS)) (x : Int × XS) (a' : Act) (W : World) => ((∃ v, Boxed W (w.heap.size + 1 + 1 + 1) 22 v ∧ W.ownsRow (w5.heap.size + 3) 3 1 v pre.length ((pre.map Prod.fst).map (Value.int .i64)) ∧ True) ∧ Blk W (w.heap.size + 1) (encX (lastX (x1, x2, y1, y2) pre)) ∧ ((∀ k, k < w5.heap.size → ¬ (k = w.heap.size + 1 ∨ k = w.heap.size + 1 + 1 + 1) → W.heap[k]? = w5.heap[k]?) ∧ Below w.heap.size w W)) ∧
      ∃ Bx, w5.heap.size + 2 < Bx ∧ W.heap[Bx]? = some (.cells (encX x.2) 61 (0, 0)) ∧ a' = { tmps := #[.agg #[(.int .i64 (b0)), (.int .i64 (b1)), (.int .i64 (b2)), (.int .i64 (a1)), (.int .i64 (a2)), (.int .i64 (sh))], .agg #[(.int .i64 (x1)), (.int .i64 (x2)), (.int .i64 (y1)), (.int .i64 (y2))], .slice A N c, .pointer (some ⟨w.heap.size, 0, none⟩), .pointer (some ⟨w.heap.size + 1, 0, none⟩), undef, .slice none 0 0, .pointer (some ⟨w.heap.size + 1 + 1, 0, none⟩), .pointer (some ⟨w.heap.size + 1 + 1 + 1, 0, none⟩), (.int .i64 (x.1)), .pointer (some ⟨Bx, 0, none⟩), .agg #[(.int .i64 (b0)), (.int .i64 (b1)), (.int .i64 (b2)), (.int .i64 (a1)), (.int .i64 (a2)), (.int .i64 (sh))], .agg #[(.int .i64 (x1)), (.int .i64 (x2)), (.int .i64 (y1)), (.int .i64 (y2))], .slice A N c, .func (.func 59) #[] #[.pointer (some ⟨w.heap.size + 1 + 1 + 1 + 1 + 1, 0, none⟩), .pointer (some ⟨w.heap.size + 1 + 1 + 1 + 1 + 1 + 1, 0, none⟩), .pointer (some ⟨w.heap.size + 1 + 1 + 1 + 1, 0, none⟩)], (.int .i64 (x.1)), .agg (encX x.2), undef, undef, undef, undef, undef, undef, undef], defers := [] })
    ?hax ?assign ?body ?done
  case his =>
    rintro pre W i v ⟨⟨v0, hv, ho, _⟩, hkx, hk, hB⟩
    exact ⟨⟨v0, (Below.heap_setCell _ _ _ _ (by simp; omega)).trans hv, ownsRow_setCell_below ho (by simp) v, trivial⟩, Blk.far hkx (by simp; omega) v, fun k h1 h2 => (Below.heap_setCell _ _ _ _ (by simp; omega)).trans (hk k h1 h2), hB.setCell (by simp; omega) v⟩
  case hax =>
    rintro pre x a' s X Y row ⟨hi, Bx, h1, h2, h3⟩ hg hrow
    exact ⟨hIO pre X Y row hi hg hrow, Bx, h1, heapRow_own Bx (fun x : Int × XS => encX x.2) _ x X Y row h2 hg (fun r e => (hrow r e).2), h3⟩
  case assign =>
    rintro l pre x W hi ⟨post, hpost⟩ hsz hcb
    have hsem : ∀ (ρ : Operand → Value) (o : Oper), (∀ c, o.op ≠ .defer c) → Oper.semAt (some l) ρ o = execOp ρ o := Oper.semAt_some l
    have HI := Lib.hid hi
    clear hi hIO hpost hcb
    dsimp only [encO]
    gi_wp2
    exact ⟨(Same.refl _ _).alloc _, HIO.out.alloc _ HI.out, W.heap.size, hsz, World.alloc_heap_new W _, rfl⟩
  case body =>
    rintro l pre ⟨y, s1, s2, s3, s4⟩ a' W ⟨⟨⟨v, hv, ho, _⟩, hkx, hk, hB⟩, Bx, hBx, hx, rfl⟩ ⟨post, hpost⟩ hsz hcb
    have hsem : ∀ (ρ : Operand → Value) (o : Oper), (∀ c, o.op ≠ .defer c) → Oper.semAt (some l) ρ o = execOp ρ o := Oper.semAt_some l
    have hlen : pre.length + 1 ≤ 5000 := by have h1 := HAL.out; rw [hpost] at h1; simp at h1; omega
    obtain ⟨_, _, _, _, hxl, hxf⟩ := (Calm.Blk.row hx).o4
    have KX1 := Calm.Blk.row hx
    have hnx : ∀ k, v.ownBlock = some k → k ≠ Bx := by
      rintro k e rfl
      rcases ho.2 with ⟨rfl, _⟩ | ⟨g, cap, cur, rfl, h1, h2, _⟩
      · cases e
      · cases e
        rw [hx] at h2
        cases h2
    have vc := hv.cell
    have vl := hv.lt
    have HV := Lib.hid hv
    have HK := Lib.hid hk
    have HB := Lib.hid hB
    have HO := Lib.hid ho
    have HKX := Lib.hid hkx
    have HX := Lib.hid KX1
    clear hv hk hB ho hkx hx hIO hpost hcb KX1
    dsimp only [encX]
    gi_wp2_with (gi_at_builtin; refine wpListIn_append_own _ rfl _ _ 22 rfl (w5.heap.size + 3) 3 i0 _ 1 8 Tryd.underlying22 hi iz0 iz1 iz2 rfl (by decide) _ _ _ rfl (HO.out.alloc _) ⟨W.heap.size, 0, none⟩ 1 1 [(.int .i64 (y))] rfl rfl ?c1 ?c2 ?c3 ?c4 ?c5 ?_)
    case c2 => rfl
    case c3 => unfold maxLen; omega
    case c4 => omega
    case c5 => have h1 := HB5.out.size; simp; omega
    intro v' w7 hown' hgrow _
    have hv6 : Boxed (W.alloc (.cells #[(.int .i64 (y))] 3)) (w.heap.size + 1 + 1 + 1) 22 v := heap_old (by omega) HV.out
    have hne : ∀ k, v.ownBlock = some k → w5.heap.size + 3 ≤ k := fun k e => (HO.out.lt k e).1
    have hv7 : Boxed w7 (w.heap.size + 1 + 1 + 1) 22 v := hv6.kept hgrow (fun e => by have := hne _ e.symm; omega)
    have hb7 : ∀ k, k < W.heap.size → k < w5.heap.size + 3 → w7.heap[k]? = W.heap[k]? := fun k h1 h2 => (hgrow.block k (by simp; omega) (fun e => by have := hne k e.symm; omega)).trans (heap_old h1 rfl)
    have hX7 : Blk w7 Bx (encX (s1, s2, s3, s4)) := grown_blk (HX.out.alloc _) hgrow hnx
    have hs7 : W.heap.size < w7.heap.size := by have := hgrow.size; simp at this; omega
    have vc7 := hv7.cell
    have vf7 := hv7.frozen
    have HOW := Lib.hid hown'
    have HGR := Lib.hid hgrow
    have HNE := Lib.hid hne
    have HV7 := Lib.hid hv7
    obtain ⟨d0, d1, d2, d3, dl, df⟩ := hX7.o4
    have K7 : Blk w7 (w.heap.size + 1) (encX (lastX (x1, x2, y1, y2) pre)) := Calm.Blk.of_block HKX.out (hb7 _ (by omega) (by omega))
    obtain ⟨_, _, _, _, ql, qf⟩ := K7.o4
    have HK7 := Lib.hid K7
    have HB7 := Lib.hid hb7
    have ql1 : w.heap.size + 1 < w7.heap.size := by omega
    have ql2 : w.heap.size + 1 + 1 + 1 < w7.heap.size := by omega
    obtain ⟨g', cap', rfl⟩ := ownsRow_succ hown'
    clear hgrow hne hown' K7 hb7 hv7 hv6 hX7
    gi_wp2
    refine ⟨?same, ⟨⟨.slice (some ⟨g', 0, none⟩) (pre.length + 1) cap', ?bx, ?own⟩, ?kx, ?kb, ?blw⟩⟩
    case same =>
      refine Same.setCell (Same.setCell (Same.setCell (Same.setCell (Same.setCell (p := ⟨w.heap.size + 1 + 1 + 1, 0, none⟩) (Same.grown ((Same.refl _ _).alloc _) HGR.out (fun k e hk => by have := HNE.out k e; rcases hk with (rfl | rfl | rfl | rfl) | rfl | rfl | rfl <;> omega)) ?_ _) ?_ _) ?_ _) ?_ _) ?_ _ <;>
        (rintro ((h | h | h | h) | h | h | h) <;> simp at h <;> omega)
    case bx => exact (Below.heap_setCell _ _ _ _ (by simp <;> omega)).trans ((Below.heap_setCell _ _ _ _ (by simp <;> omega)).trans ((Below.heap_setCell _ _ _ _ (by simp <;> omega)).trans ((Below.heap_setCell _ _ _ _ (by simp <;> omega)).trans (HV7.out.set _))))
    case own =>
      refine ownsRow_setCell_below (ownsRow_setCell_below (ownsRow_setCell_below (ownsRow_setCell_below (ownsRow_setCell_below ?_ (by simp; omega) _) (by simp; omega) _) (by simp; omega) _) (by simp; omega) _) (by simp; omega) _
      have := HOW.out
      simpa using this
    case kx =>
      rw [lastX_snoc]
      exact ((((HK7.out.far (by simp <;> omega) _).set (i := 0) (by simp [encX]) _).set (i := 1) (by simp [encX]) _).set (i := 2) (by simp [encX]) _).set (i := 3) (by simp [encX]) _
    case kb =>
      intro k h1 h2 h3
      rw [Below.heap_setCell _ _ _ _ (by simpa using h2), Below.heap_setCell _ _ _ _ (by simpa using h2), Below.heap_setCell _ _ _ _ (by simpa using h2), Below.heap_setCell _ _ _ _ (by simpa using h2), Below.heap_setCell _ _ _ _ (by simpa using h3)]
      exact (HB7.out k (by omega) (by omega)).trans (HK.out k h1 (by rintro (h | h) <;> omega))
    case blw =>
      refine ((((Below.setCell ((HB.out.alloc (by omega) _).grown HGR.out (by simp <;> omega) (fun k e => by have := HNE.out k e; omega)) (by simp <;> omega) _).setCell (by simp <;> omega) _).setCell (by simp <;> omega) _).setCell (by simp <;> omega) _).setCell (by simp <;> omega) _
  case done =>
    rintro W ⟨⟨v, hv, ho, _⟩, hkx, hk, hB⟩ hdef
    rw [HLS.out] at hkx
    rw [HSK.out, HAL.out] at ho
    obtain ⟨a, c', rfl⟩ := own_slice ho
    have vc := hv.cell
    have vl := hv.lt
    have HO := Lib.hid ho
    have HB := Lib.hid hB
    have HDEF := Lib.hid hdef
    have KR := HKR.out.of_block (hk _ (by omega) (by omega))
    obtain ⟨e0, e1, e2, e3, el, ef⟩ := hkx.o4
    obtain ⟨f0, f1, f2, f3, fl, ff⟩ := KR.o4
    have HKRW := Lib.hid KR
    have hDl := (Array.getElem?_eq_some_iff.1 hdef).1
    clear hIO ho hv hk hdef hB hkx KR
    gi_wp2
    refine wpIn_wide.2 ?_
    refine Calm.tail_below 3 (by kernel_rfl) (by kernel_rfl) ?_
    simp only [List.take_succ_cons, List.take_zero, List.drop_succ_cons, List.drop_zero]
    repeat (first | (apply Calm.op_move; (focus rfl); (focus (first | exact .inl rfl | exact .inr rfl)); (focus ((try simp only [Act.eval, Array.getD_eq_getD_getElem?, List.getElem?_toArray, List.getElem?_cons_succ, List.getElem?_cons_zero, Option.getD_some]); rfl)); (try simp only [Act.put, List.setIfInBounds_toArray, List.set_cons_zero, List.set_cons_succ])) | (apply Calm.op_not; (focus rfl); (try simp only [Act.put, List.setIfInBounds_toArray, List.set_cons_zero, List.set_cons_succ])) | (apply Calm.op; (focus rfl); (focus (intro W hb; obtain ⟨hc, hf⟩ := bcell hb; clear hb hf; go_simp; (try go_bits); (try rfl); done)); (try simp only [Act.put, List.setIfInBounds_toArray, List.set_cons_zero, List.set_cons_succ])))
    refine wpQuiet_nil ?_
    intro w6 hb6
    obtain ⟨hb6c, hb6f⟩ := bcell hb6
    have hb6z := hb6.size
    (try simp at hb6z)
    (try have hb6z0 : w.heap.size < w6.heap.size := by omega)
    (try have hb6z1 : w.heap.size + 1 < w6.heap.size := by omega)
    (try have hb6z2 : w.heap.size + 1 + 1 < w6.heap.size := by omega)
    (try have hb6z3 : w.heap.size + 1 + 1 + 1 < w6.heap.size := by omega)
    (try have hb6z4 : w.heap.size + 1 + 1 + 1 + 1 < w6.heap.size := by omega)
    (try have hb6z5 : w.heap.size + 1 + 1 + 1 + 1 + 1 < w6.heap.size := by omega)
    have HB6 := Lib.hid (HB.out.trans (hb6.mono HB.out.size))
    have hown6 := ownsRow_below HO.out hb6
    have hdef6 := (hb6.block _ hDl).trans HDEF.out
    have hDl6 : w5.heap.size < w6.heap.size := (Array.getElem?_eq_some_iff.1 hdef6).1
    have HO6 := Lib.hid hown6
    have HD6 := Lib.hid hdef6
    have KR6 := HKRW.out.below hb6
    have HKR6 := Lib.hid KR6
    obtain ⟨g0, g1, g2, g3, gl, gf⟩ := KR6.o4
    clear hown6 hdef6 hb6 hb6c hb6f f0 f1 f2 f3 fl ff KR6
    go_wp2
    gi_wp2
    obtain ⟨W8, hW8⟩ : ∃ W8, W8 = ((((w6.setCell ⟨w.heap.size + 1 + 1, 0, none⟩ (.int .i64 (LX.1))).setCell ⟨w.heap.size + 1 + 1, 1, none⟩ (.int .i64 (LX.2.1))).setCell ⟨w.heap.size + 1 + 1, 2, none⟩ (.int .i64 (LX.2.2.1))).setCell ⟨w.heap.size + 1 + 1, 3, none⟩ (.int .i64 (LX.2.2.2))) := ⟨_, rfl⟩
    have K8 : Blk W8 (w.heap.size + 1 + 1) (encX LX) := by
      rw [hW8]
      exact (((HKR6.out.set (i := 0) (by simp) _).set (i := 1) (by simp) _).set (i := 2) (by simp) _).set (i := 3) (by simp) _
    have D8 : W8.heap[w5.heap.size]? = some (.deferred (some [])) := by
      rw [hW8, Below.heap_setCell _ _ _ _ (by simp <;> omega), Below.heap_setCell _ _ _ _ (by simp <;> omega), Below.heap_setCell _ _ _ _ (by simp <;> omega), Below.heap_setCell _ _ _ _ (by simp <;> omega)]
      exact HD6.out
    have B8 : Below w.heap.size w W8 := by
      rw [hW8]
      exact (((HB6.out.setCell (by simp <;> omega) _).setCell (by simp <;> omega) _).setCell (by simp <;> omega) _).setCell (by simp <;> omega) _
    have O8 : W8.ownsRow (w5.heap.size + 3) 3 1 (.slice a N c') N (SK.map (Value.int .i64)) := by
      rw [hW8]
      exact ownsRow_setCell_below (ownsRow_setCell_below (ownsRow_setCell_below (ownsRow_setCell_below HO6.out (by simp <;> omega) _) (by simp <;> omega) _) (by simp <;> omega) _) (by simp <;> omega) _
    rw [← hW8]
    clear hW8 g0 g1 g2 g3 gl gf
    refine ⟨by simp, .inl ⟨_, _, rfl, run_takeDeferred D8, ?_⟩⟩
    have K9 : Blk (W8.putObj w5.heap.size (.deferred none)) (w.heap.size + 1 + 1) (encX LX) := K8.of_block (World.putObj_heap_other (by omega))
    have O9 := ownsRow_putObj O8 (.deferred none) D8 rfl
    have B9 := B8.trans (belowK_b (w := w) (Nat.le_refl _) W8 w5.heap.size (.deferred (some [])) (.deferred none) (by omega) D8 rfl rfl)
    obtain ⟨A9, c9, hv9, hf9, hC9⟩ := own_ints O9 (by rw [← HSK.out, List.length_map, HAL.out])
    cases hv9
    clear K8 D8 B8 O8
    obtain ⟨k0, k1, k2, k3, _, _⟩ := Blk.o4 K9
    refine ⟨.tuple #[.slice a N c', .agg (encX LX)], ?_, ⟨a, c', rfl, fun p e => ?_, hC9⟩, B9⟩
    · simp [results, Tryd.results26, go_sem, encX, k0, k1, k2, k3]
    · have h1 := hf9 p e
      subst e
      exact ⟨by omega, own_unf O9⟩
end Go.Proofs.YtleemphfkhbhaaaDoor

/- Contracts of From and Run (sections that hold). -/
namespace Go.Proofs.YtleemphfkhbhaaaDoor
open Go.RowKit
open Calm (bcell Blk)

set_option maxRecDepth 100000 in
set_option maxHeartbeats 4000000 in
theorem From_ok (b0 b1 b2 a1 a2 sh x1 x2 y1 y2 : Int) (xs : List Int) (A : Option Addr) (c : Nat) (w : World) (h0 : bd15 b0) (h1 : bd15 b1) (h2 : bd15 b2) (h3 : bd15 a1) (h4 : bd15 a2) (h5 : 0 ≤ sh ∧ sh ≤ 15)
    (hst : okX (x1, x2, y1, y2)) (hx : inB 32767 xs) (hn : xs.length ≤ 5000) (hC : Cells w A xs) (e1 : secErr b0 b1 b2 a1 a2 sh = 0) (e2 : sstErr x1 x2 y1 y2 = 0) (e3 : ssigErr xs = 0) :
    Calls Tryd.prog 30 #[.agg #[(.int .i64 (b0)), (.int .i64 (b1)), (.int .i64 (b2)), (.int .i64 (a1)), (.int .i64 (a2)), (.int .i64 (sh))], .agg #[(.int .i64 (x1)), (.int .i64 (x2)), (.int .i64 (y1)), (.int .i64 (y2))], .slice A xs.length c] w fun r w' => (∃ B d, r = .returned (.tuple #[.slice B xs.length d, .agg (encX (ssAt b0 b1 b2 a1 a2 sh (x1, x2, y1, y2) xs xs.length)), (.int .i64 (0))]) ∧ (∀ p, B = some p → w.heap.size ≤ p.block) ∧ Cells w' B (soK b0 b1 b2 a1 a2 sh (x1, x2, y1, y2) xs xs.length)) ∧ Below w.heap.size w w' := by
  have HCK : Hid (∀ W, Calls Tryd.prog 46 #[.agg #[(.int .i64 (b0)), (.int .i64 (b1)), (.int .i64 (b2)), (.int .i64 (a1)), (.int .i64 (a2)), (.int .i64 (sh))]] W fun r w' => r = .returned (.int .i64 (0)) ∧ Below W.heap.size W w') := Lib.hid (fun W => by have := checkSection_any b0 b1 b2 a1 a2 sh W; rwa [e1] at this)
  have HCT : Hid (∀ W, Calls Tryd.prog 51 #[.agg #[(.int .i64 (x1)), (.int .i64 (x2)), (.int .i64 (y1)), (.int .i64 (y2))]] W fun r w' => r = .returned (.int .i64 (0)) ∧ Below W.heap.size W w') := Lib.hid (fun W => by have := sState_any x1 x2 y1 y2 W; rwa [e2] at this)
  have HSG : Hid (∀ W, Cells W A xs → Calls Tryd.prog 25 #[.slice A xs.length c] W fun r w' => r = .returned (.int .i64 (0)) ∧ Below W.heap.size W w') := Lib.hid (fun W q => by have := sSignal_any xs A c W q hn; rwa [e3] at this)
  have HF3 : Hid (∀ (W : World), Calls Tryd.prog 23 #[.slice (some ⟨W.heap.size, 0, none⟩) 3 3] (W.alloc (.cells #[(.int .i64 (0)), (.int .i64 (0)), (.int .i64 (0))] 35)) fun r w' => r = .returned (.int .i64 (0)) ∧ (W.alloc (.cells #[(.int .i64 (0)), (.int .i64 (0)), (.int .i64 (0))] 35)) = w') := Lib.hid (fun W => sFirst_cells [0, 0, 0] W (by simp))
  have HFR : Hid (∀ W, Cells W A xs → Calls Tryd.prog 26 #[.agg #[(.int .i64 (b0)), (.int .i64 (b1)), (.int .i64 (b2)), (.int .i64 (a1)), (.int .i64 (a2)), (.int .i64 (sh))], .agg #[(.int .i64 (x1)), (.int .i64 (x2)), (.int .i64 (y1)), (.int .i64 (y2))], .slice A xs.length c] W fun r w' => (∃ B d, r = .returned (.tuple #[.slice B xs.length d, .agg (encX (ssAt b0 b1 b2 a1 a2 sh (x1, x2, y1, y2) xs xs.length))]) ∧ (∀ p, B = some p → W.heap.size ≤ p.block ∧ Unf w' p.block) ∧ Cells w' B (soK b0 b1 b2 a1 a2 sh (x1, x2, y1, y2) xs xs.length)) ∧ Below W.heap.size W w') :=
    Lib.hid (fun W q => from_any b0 b1 b2 a1 a2 sh x1 x2 y1 y2 xs A c W h0 h1 h2 h3 h4 h5 hst hx hn q)
  have HC := Lib.hid hC
  obtain ⟨LX, hLX⟩ : ∃ LX, LX = ssAt b0 b1 b2 a1 a2 sh (x1, x2, y1, y2) xs xs.length := ⟨_, rfl⟩
  obtain ⟨SK, hSK⟩ : ∃ SK, SK = soK b0 b1 b2 a1 a2 sh (x1, x2, y1, y2) xs xs.length := ⟨_, rfl⟩
  obtain ⟨N, hN⟩ : ∃ N, N = xs.length := ⟨_, rfl⟩
  rw [← hLX, ← hSK] at HFR ⊢
  rw [← hN] at HFR HSG ⊢
  unfold encX at HFR
  clear hLX hSK hN hC h0 h1 h2 h3 h4 h5 hst hx hn e1 e2 e3
  go_enter Tryd.func30, Tryd.ntmps30
  go_wp2
  refine Calm.tail_below 5 (by kernel_rfl) (by kernel_rfl) ?_
  simp only [List.take_succ_cons, List.take_zero, List.drop_succ_cons, List.drop_zero]
  repeat (first | (first | (apply Calm.op_move; (focus rfl); (focus (first | exact .inl rfl | exact .inr rfl)); (focus ((try simp only [Act.eval, Array.getD_eq_getD_getElem?, List.getElem?_toArray, List.getElem?_cons_succ, List.getElem?_cons_zero, Option.getD_some]); rfl)); (try simp only [Act.put, List.setIfInBounds_toArray, List.set_cons_zero, List.set_cons_succ])) | (apply Calm.op_not; (focus rfl); (try simp only [Act.put, List.setIfInBounds_toArray, List.set_cons_zero, List.set_cons_succ])) | (apply Calm.op; (focus rfl); (focus (intro W hb; obtain ⟨hc, hf⟩ := bcell hb; clear hb hf; go_simp; (try go_bits); (try rfl); done)); (try simp only [Act.put, List.setIfInBounds_toArray, List.set_cons_zero, List.set_cons_succ]))) | (apply Calm.op_call; (focus rfl); (focus (intro W hb; obtain ⟨hc, hf⟩ := bcell hb; clear hb hf; go_simp; refine ⟨?_, ?_⟩; rfl; rfl)); (focus (intro W hb; first | (go_at_call 46; exact Calm.call_below hb (HCK.out _)) | (go_at_call 51; exact Calm.call_below hb (HCT.out _)))); (try simp only [Act.put, List.setIfInBounds_toArray, List.set_cons_zero, List.set_cons_succ])))
  refine wpQuiet_nil ?_
  intro w1 hb1
  obtain ⟨hb1c, hb1f⟩ := bcell hb1
  have hb1z := hb1.size
  (try simp at hb1z)
  (try have hb1z0 : w.heap.size < w1.heap.size := by omega)
  (try have hb1z1 : w.heap.size + 1 < w1.heap.size := by omega)
  (try have hb1z2 : w.heap.size + 1 + 1 < w1.heap.size := by omega)
  (try have hb1z3 : w.heap.size + 1 + 1 + 1 < w1.heap.size := by omega)
  (try have hb1z4 : w.heap.size + 1 + 1 + 1 + 1 < w1.heap.size := by omega)
  (try have hb1z5 : w.heap.size + 1 + 1 + 1 + 1 + 1 < w1.heap.size := by omega)
  have HB1 := Lib.hid (show Below w.heap.size w w1 from Below.trans (by (repeat (first | (with_reducible exact Below.refl _ _) | ((with_reducible refine Below.setCell ?_ ?_ _); rotate_left 1; focus (first | (simp; done) | (simp; omega) | (simp at *; omega))) | ((with_reducible refine Below.alloc ?_ ?_ _); rotate_left 1; focus (first | (simp; done) | (simp; omega) | (simp at *; omega))) | (with_reducible refine Below.drew ?_) | ((with_reducible refine Calm.step (by assumption) ?_ ?_); rotate_left 1; focus (first | (simp; done) | (simp; omega) | (simp at *; omega)))))) (hb1.mono (by simp; omega)))
  have K0 : Blk w1 w.heap.size #[(.int .i64 (b0)), (.int .i64 (b1)), (.int .i64 (b2)), (.int .i64 (a1)), (.int .i64 (a2)), (.int .i64 (sh))] := Blk.below (by (repeat (first | ((with_reducible refine Blk.at_ ?_); focus (first | rfl | (simp; done) | (simp; omega))) | (with_reducible refine Blk.alloc ?_ _) | (with_reducible refine Blk.below ?_ (by with_reducible assumption)) | (with_reducible refine Blk.drew ?_)))) hb1
  have K1 : Blk w1 (w.heap.size + 1) #[(.int .i64 (x1)), (.int .i64 (x2)), (.int .i64 (y1)), (.int .i64 (y2))] := Blk.below (by (repeat (first | ((with_reducible refine Blk.at_ ?_); focus (first | rfl | (simp; done) | (simp; omega))) | (with_reducible refine Blk.alloc ?_ _) | (with_reducible refine Blk.below ?_ (by with_reducible assumption)) | (with_reducible refine Blk.drew ?_)))) hb1
  have K2 : Blk w1 (w.heap.size + 1 + 1) #[(.int .i64 (0)), (.int .i64 (0)), (.int .i64 (0)), (.int .i64 (0))] := Blk.below (by (repeat (first | ((with_reducible refine Blk.at_ ?_); focus (first | rfl | (simp; done) | (simp; omega))) | (with_reducible refine Blk.alloc ?_ _) | (with_reducible refine Blk.below ?_ (by with_reducible assumption)) | (with_reducible refine Blk.drew ?_)))) hb1
  have HK0 := Lib.hid K0
  have HK1 := Lib.hid K1
  have HK2 := Lib.hid K2
  clear hb1 hb1c hb1f K0 K1 K2
  go_wp2_with (first
    | (go_at_call 25; refine (HSG.out _ (HC.out.below HB1.out)).mono ?_; rintro r w2 ⟨rfl, hb2⟩; have HB2 := Lib.hid (HB1.out.trans (hb2.mono HB1.out.size)); obtain ⟨c0, c1, c2, c3, c4, c5, cl, cf⟩ := ((HK0.out.below hb2).alloc (.cells #[(.int .i64 (0)), (.int .i64 (0)), (.int .i64 (0))] 35)).o6; obtain ⟨d0, d1, d2, d3, dl, df⟩ := ((HK1.out.below hb2).alloc (.cells #[(.int .i64 (0)), (.int .i64 (0)), (.int .i64 (0))] 35)).o4; have HK22 := Lib.hid ((HK2.out.below hb2).alloc (.cells #[(.int .i64 (0)), (.int .i64 (0)), (.int .i64 (0))] 35)); clear hb2)
    | (go_at_call 23; refine (HF3.out _).mono ?_; rintro r w3 ⟨rfl, rfl⟩; have HB3 := Lib.hid (HB2.out.alloc HB2.out.size (.cells #[(.int .i64 (0)), (.int .i64 (0)), (.int .i64 (0))] 35)); refine Hid.out ?_))
  obtain ⟨w3, hw3⟩ : ∃ w3, w3 = w2.alloc (.cells #[(.int .i64 (0)), (.int .i64 (0)), (.int .i64 (0))] 35) := ⟨_, rfl⟩
  rw [← hw3] at c0 c1 c2 c3 c4 c5 cl cf d0 d1 d2 d3 dl df HK22 HB3 ⊢
  clear hw3 HK0 HK1 HK2 HB1 HB2
  unfold Hid
  go_wp2_with (go_at_call 26; refine (HFR.out _ (HC.out.below HB3.out)).mono ?_; rintro r w4 ⟨⟨B, d, rfl, hf, hc4⟩, hb4⟩; have HB4 := Lib.hid (HB3.out.trans (hb4.mono HB3.out.size)); have HK24 := Lib.hid (HK22.out.below hb4); have HF4 := Lib.hid hf; have HC4 := Lib.hid hc4; have hs4 := hb4.size; clear hf hc4 hb4 c0 c1 c2 c3 c4 c5 cl cf d0 d1 d2 d3 dl df)
  have hz4 : w.heap.size < w4.heap.size := by have := HB4.out.size; have := HK24.out.lt; omega
  have hz41 : w.heap.size + 1 < w4.heap.size := by have := HK24.out.lt; omega
  have hz42 : w.heap.size + 1 + 1 < w4.heap.size := by have := HK24.out.lt; omega
  obtain ⟨d0, d1, d2, d3, dl, df⟩ := HK24.out.o4
  refine Calm.tail_below 3 (by kernel_rfl) (by kernel_rfl) ?_
  simp only [List.take_succ_cons, List.take_zero, List.drop_succ_cons, List.drop_zero]
  repeat (first | (apply Calm.op_move; (focus rfl); (focus (first | exact .inl rfl | exact .inr rfl)); (focus ((try simp only [Act.eval, Array.getD_eq_getD_getElem?, List.getElem?_toArray, List.getElem?_cons_succ, List.getElem?_cons_zero, Option.getD_some]); rfl)); (try simp only [Act.put, List.setIfInBounds_toArray, List.set_cons_zero, List.set_cons_succ])) | (apply Calm.op_not; (focus rfl); (try simp only [Act.put, List.setIfInBounds_toArray, List.set_cons_zero, List.set_cons_succ])) | (apply Calm.op; (focus rfl); (focus (intro W hb; obtain ⟨hc, hf⟩ := bcell hb; clear hb hf; go_simp; (try go_bits); (try rfl); done)); (try simp only [Act.put, List.setIfInBounds_toArray, List.set_cons_zero, List.set_cons_succ])))
  refine wpQuiet_nil ?_
  intro w6 hb6
  obtain ⟨hb6c, hb6f⟩ := bcell hb6
  have hb6z := hb6.size
  (try simp at hb6z)
  (try have hb6z0 : w.heap.size < w6.heap.size := by omega)
  (try have hb6z1 : w.heap.size + 1 < w6.heap.size := by omega)
  (try have hb6z2 : w.heap.size + 1 + 1 < w6.heap.size := by omega)
  (try have hb6z3 : w.heap.size + 1 + 1 + 1 < w6.heap.size := by omega)
  (try have hb6z4 : w.heap.size + 1 + 1 + 1 + 1 < w6.heap.size := by omega)
  (try have hb6z5 : w.heap.size + 1 + 1 + 1 + 1 + 1 < w6.heap.size := by omega)
  have HB6 := Lib.hid (show Below w.heap.size w w6 from Below.trans (HB4.out.alloc (by omega) _) (hb6.mono (by simp; omega)))
  have K6 := (HK24.out.alloc (.cells #[(.int .i64 (LX.1)), (.int .i64 (LX.2.1)), (.int .i64 (LX.2.2.1)), (.int .i64 (LX.2.2.2))] 61)).below hb6
  have HC6 := Lib.hid ((HC4.out.below ((Below.refl _ _).alloc (Nat.le_refl _) (.cells #[(.int .i64 (LX.1)), (.int .i64 (LX.2.1)), (.int .i64 (LX.2.2.1)), (.int .i64 (LX.2.2.2))] 61))).below hb6)
  obtain ⟨g0, g1, g2, g3, gl, gf⟩ := K6.o4
  have HK6 := Lib.hid K6
  clear hb6 hb6c hb6f K6 d0 d1 d2 d3 dl df
  go_wp2
  have hz3 : w.heap.size + 1 + 1 < w3.heap.size := HK22.out.lt
  have hne : 0 < SK.length → ∀ p, B = some p → p.block ≠ w.heap.size + 1 + 1 := fun _ p e => by have := (HF4.out p e).1; omega
  exact bodyPost_ret (v := .tuple #[.slice B N d, .agg (encX LX), (.int .i64 (0))]) (by simp [results, Tryd.results30, go_sem, encX, *]) rfl
    ⟨⟨B, d, rfl, fun p e => by have := (HF4.out p e).1; omega, (((HC6.out.sets hne _ _).sets hne _ _).sets hne _ _).sets hne _ _⟩, (((HB6.out.setCell (by simp; omega) _).setCell (by simp; omega) _).setCell (by simp; omega) _).setCell (by simp; omega) _⟩
theorem Run_ok (b0 b1 b2 a1 a2 sh : Int) (xs : List Int) (A : Option Addr) (c : Nat) (w : World) (h0 : bd15 b0) (h1 : bd15 b1) (h2 : bd15 b2) (h3 : bd15 a1) (h4 : bd15 a2) (h5 : 0 ≤ sh ∧ sh ≤ 15)
    (hx : inB 32767 xs) (hn : xs.length ≤ 5000) (hC : Cells w A xs) (e1 : secErr b0 b1 b2 a1 a2 sh = 0) (e3 : ssigErr xs = 0) :
    Calls Tryd.prog 15 #[.agg #[(.int .i64 (b0)), (.int .i64 (b1)), (.int .i64 (b2)), (.int .i64 (a1)), (.int .i64 (a2)), (.int .i64 (sh))], .slice A xs.length c] w fun r w' => (∃ B d, r = .returned (.tuple #[.slice B xs.length d, (.int .i64 (0))]) ∧ (∀ p, B = some p → w.heap.size ≤ p.block) ∧ Cells w' B (soK b0 b1 b2 a1 a2 sh (0, 0, 0, 0) xs xs.length)) ∧ Below w.heap.size w w' := by
  have HFR : Hid (∀ W, Cells W A xs → Calls Tryd.prog 30 #[.agg #[(.int .i64 (b0)), (.int .i64 (b1)), (.int .i64 (b2)), (.int .i64 (a1)), (.int .i64 (a2)), (.int .i64 (sh))], .agg #[(.int .i64 (0)), (.int .i64 (0)), (.int .i64 (0)), (.int .i64 (0))], .slice A xs.length c] W fun r w' => (∃ B d, r = .returned (.tuple #[.slice B xs.length d, .agg (encX (ssAt b0 b1 b2 a1 a2 sh (0, 0, 0, 0) xs xs.length)), (.int .i64 (0))]) ∧ (∀ p, B = some p → W.heap.size ≤ p.block) ∧ Cells w' B (soK b0 b1 b2 a1 a2 sh (0, 0, 0, 0) xs xs.length)) ∧ Below W.heap.size W w') :=
    Lib.hid (fun W q => From_ok b0 b1 b2 a1 a2 sh 0 0 0 0 xs A c W h0 h1 h2 h3 h4 h5 (by unfold okX bd15; simp) hx hn q e1 (by decide) e3)
  have HC := Lib.hid hC
  obtain ⟨LX, hLX⟩ : ∃ LX, LX = ssAt b0 b1 b2 a1 a2 sh (0, 0, 0, 0) xs xs.length := ⟨_, rfl⟩
  obtain ⟨SK, hSK⟩ : ∃ SK, SK = soK b0 b1 b2 a1 a2 sh (0, 0, 0, 0) xs xs.length := ⟨_, rfl⟩
  obtain ⟨N, hN⟩ : ∃ N, N = xs.length := ⟨_, rfl⟩
  rw [← hLX, ← hSK] at HFR
  rw [← hSK]
  rw [← hN] at HFR ⊢
  unfold encX at HFR
  clear hLX hSK hN hC h0 h1 h2 h3 h4 h5 hx hn e1 e3
  go_enter Tryd.func15, Tryd.ntmps15
  go_wp2_with (go_at_call 30; refine (HFR.out _ (HC.out.below (by (repeat (first | (with_reducible exact Below.refl _ _) | ((with_reducible refine Below.setCell ?_ ?_ _); rotate_left 1; focus (first | (simp; done) | (simp; omega) | (simp at *; omega))) | ((with_reducible refine Below.alloc ?_ ?_ _); rotate_left 1; focus (first | (simp; done) | (simp; omega) | (simp at *; omega))) | (with_reducible refine Below.drew ?_) | ((with_reducible refine Calm.step (by assumption) ?_ ?_); rotate_left 1; focus (first | (simp; done) | (simp; omega) | (simp at *; omega)))))))).mono ?_; rintro r w4 ⟨⟨B, d, rfl, hf, hc4⟩, hb4⟩; have HB4 := Lib.hid (show Below w.heap.size w w4 from Below.trans (by (repeat (first | (with_reducible exact Below.refl _ _) | ((with_reducible refine Below.setCell ?_ ?_ _); rotate_left 1; focus (first | (simp; done) | (simp; omega) | (simp at *; omega))) | ((with_reducible refine Below.alloc ?_ ?_ _); rotate_left 1; focus (first | (simp; done) | (simp; omega) | (simp at *; omega))) | (with_reducible refine Below.drew ?_) | ((with_reducible refine Calm.step (by assumption) ?_ ?_); rotate_left 1; focus (first | (simp; done) | (simp; omega) | (simp at *; omega)))))) (hb4.mono (by simp))); have HF4 := Lib.hid hf; have HC4 := Lib.hid hc4; have hs4 := hb4.size; clear hf hc4 hb4)
  simp only [World.size_alloc] at hs4
  go_ret2
  exact ⟨⟨B, d, rfl, fun p e => by have := HF4.out p e; simp at this; omega, HC4.out.below ((Below.refl _ _).alloc (Nat.le_refl _) _)⟩, HB4.out.alloc (by omega) _⟩
end Go.Proofs.YtleemphfkhbhaaaDoor

/- The law of copy between slices of integers, as contracts speak of them. -/
namespace Go.Proofs.YtleemphfkhbhaaaDoor
open Go.RowKit

theorem run_copyI {P : Program} (w : World) (dT sT ty elem : TypeId) (g : Nat) (A : Option Addr) (xs : List Int) (n cap c : Nat) (cur : Array Value) (t : TypeId)
    (hu : P.underlying dT = some (.slice elem)) (hs : (P.info? elem).map (·.size) = some 1) (hn : xs.length ≤ n)
    (hg : w.heap[g]? = some (.cells cur t (0, 0))) (hcur : cur.size = n) (hC : Cells w A xs) :
    (Builtin.copy_ #[dT, sT] ty #[.slice (some ⟨g, 0, none⟩) n cap, .slice A xs.length c]).run P w = .ok (goInt xs.length) (w.setRow g (xs.map (Value.int .i64) ++ cur.toList.drop xs.length).toArray) := by
  have hmin : Nat.min xs.length n = xs.length := Nat.min_eq_left hn
  cases A with
  | some a =>
    have := run_copy_row (P := P) w dT sT ty elem g 0 n cap a xs.length c cur t (xs.map (Value.int .i64)) hu hs hg (by rw [hmin]; simp) (fun j v hj => by
      have hj' : j < xs.length := by
        have := (List.getElem?_eq_some_iff.1 hj).1
        simpa using this
      obtain ⟨b, o, hA, hl, hc⟩ := hC (by omega)
      cases hA
      exact cells_src hc j v hj) (by simp; omega) (fun v hv => by obtain ⟨_, _, rfl⟩ := List.mem_map.1 hv; rfl)
    simpa using this
  | none =>
    have h0 : xs = [] := by
      cases xs with
      | nil => rfl
      | cons x xs => obtain ⟨b, o, hA, _⟩ := hC (by simp); cases hA
    subst h0
    have hself : w.setRow g cur = w := setRow_self w g cur t _ hg
    cases hq : P.info? elem with
    | none => simp [hq] at hs
    | some i => simp [Builtin.copy_, run_underlying hu, Builtin.lenOf, Builtin.firstCells, sizeOf, typeInfo, hq, storeCells, hself]
theorem wpList_copyI {P : Program} {w : World} {ops : Array Oper} {rest : List Oper} {o : Oper} {a : Act} {Q : Exit → Act → World → Prop} (hgd : o.guard = none) (d s : Operand) (dT sT : TypeId)
    (ho : o.op = .call { callee := .builtin .copy, args := #[d, s], argTypes := #[dT, sT] }) (elem : TypeId) (hu : P.underlying dT = some (.slice elem)) (hsz : (P.info? elem).map (·.size) = some 1)
    (g n m cap c : Nat) (A : Option Addr) (xs : List Int) (hm : xs.length = m) (hn : m ≤ n) (hd : a.eval d = .slice (some ⟨g, 0, none⟩) n cap) (hs : a.eval s = .slice A m c)
    (cur : Array Value) (t : TypeId) (hg : w.heap[g]? = some (.cells cur t (0, 0))) (hcur : cur.size = n) (hC : Cells w A xs)
    (h : ∀ w', w'.heap.size = w.heap.size → Below g w w' → (∀ k, k ≠ g → w'.heap[k]? = w.heap[k]?) → w'.heap[g]? = some (.cells (xs.map (Value.int .i64) ++ cur.toList.drop m).toArray t (0, 0)) → wpList P ops Q rest (a.put o.dst (goInt m)) w') : wpList P ops Q (o :: rest) a w := by
  subst hm
  refine wpList_plain hgd fun K hK => ?_
  have hrun := run_copyI (P := P) w dT sT o.type elem g A xs n cap c cur t hu hsz hn hg hcur hC
  unfold Oper.wp
  simp [execOp, ho, resolve, invoke, builtin, hd, hs, hrun, Result.andThen]
  exact hK _ _ (h _ (by simp [World.setRow]) (below_setRow (Below.refl _ _) (Nat.le_refl _) _) (fun k hk => setRow_other w g k _ hk) (setRow_heap w g _ _ t _ hg))
end Go.Proofs.YtleemphfkhbhaaaDoor

/- Contract of Cascade (sections and a signal that hold). -/
namespace Go.Proofs.YtleemphfkhbhaaaDoor
open Go.RowKit
open Calm (bcell Blk)

/-- what a section makes of a signal, at rest. -/
def secOut (s : Sec) (ys : List Int) : List Int := soK s.b0 s.b1 s.b2 s.a1 s.a2 s.sh (0, 0, 0, 0) ys ys.length
theorem secOut_len (s : Sec) (ys : List Int) : (secOut s ys).length = ys.length := soK_len _ _ _ _ _ _ _ _ _
theorem secOut_in (s : Sec) (ys : List Int) : inB 32767 (secOut s ys) := by
  intro n hn
  simp only [secOut, soK, List.mem_map] at hn
  obtain ⟨k, _, rfl⟩ := hn
  exact limF_bd _
/-- the signal behind the first k sections. -/
def casc (l : List Sec) (xs : List Int) (k : Nat) : List Int := (l.take k).foldl (fun ys s => secOut s ys) xs
theorem casc_succ {l : List Sec} (xs : List Int) {k : Nat} (hk : k < l.length) : casc l xs (k + 1) = secOut (l.getD k Sec0) (casc l xs k) := by
  unfold casc
  rw [List.take_succ_eq_append_getElem hk, List.foldl_append, List.getD_eq_getElem?_getD, List.getElem?_eq_getElem hk]
  rfl
theorem casc_len {l : List Sec} (xs : List Int) : ∀ k, k ≤ l.length → (casc l xs k).length = xs.length
  | 0, _ => by simp [casc]
  | k + 1, h => by rw [casc_succ _ (by omega), secOut_len, casc_len xs k (by omega)]
theorem casc_in {l : List Sec} {xs : List Int} (hx : inB 32767 xs) : ∀ k, k ≤ l.length → inB 32767 (casc l xs k)
  | 0, _ => by simpa [casc] using hx
  | k + 1, h => by rw [casc_succ _ (by omega)]; exact secOut_in _ _
theorem eachErr_zero {l : List Int} {lo hi : Int} : eachErr l lo hi = 0 ↔ ∀ n ∈ l, lo ≤ n ∧ n ≤ hi := by
  unfold eachErr
  rw [firstOf_eq_zero]
  constructor
  · exact fun h n hn => rangeErr_zero.1 (h _ (List.mem_map.2 ⟨n, hn, rfl⟩))
  · rintro h x hx
    obtain ⟨n, hn, rfl⟩ := List.mem_map.1 hx
    exact rangeErr_zero.2 (h n hn)
theorem secErr_zero {b0 b1 b2 a1 a2 sh : Int} (h : secErr b0 b1 b2 a1 a2 sh = 0) : bd15 b0 ∧ bd15 b1 ∧ bd15 b2 ∧ bd15 a1 ∧ bd15 a2 ∧ 0 ≤ sh ∧ sh ≤ 15 := by
  have h2 := firstOf_eq_zero.1 h
  have h3 := eachErr_zero.1 (h2 _ (List.mem_cons_self ..))
  exact ⟨h3 _ (by simp), h3 _ (by simp), h3 _ (by simp), h3 _ (by simp), h3 _ (by simp), rangeErr_zero.1 (h2 _ (by simp))⟩
theorem secsErr_zero {l : List Sec} (h : secsErr l = 0) : l.length ≤ 8 ∧ ∀ k, k < l.length → secE (l.getD k Sec0) = 0 := by
  have h2 := firstOf_eq_zero.1 h
  refine ⟨?_, fun k hk => ?_⟩
  · have := h2 (if 8 < l.length then 5 else 0) (by simp)
    split at this
    · simp at this
    · omega
  · have h3 := firstOf_eq_zero.1 (h2 (firstOf (l.map secE)) (by simp))
    refine h3 _ (List.mem_map.2 ⟨_, ?_, rfl⟩)
    rw [List.getD_eq_getElem?_getD, List.getElem?_eq_getElem hk]
    exact List.getElem_mem hk
theorem ssigErr_zero {xs : List Int} (h : ssigErr xs = 0) : xs.length ≤ 4096 ∧ inB 32767 xs := by
  have h2 := firstOf_eq_zero.1 h
  refine ⟨?_, fun n hn => ?_⟩
  · have := h2 (if 4096 < xs.length then 5 else 0) (by simp)
    split at this
    · simp at this
    · omega
  · exact eachErr_zero.1 (h2 (eachErr xs (-32767) 32767) (by simp)) n hn

set_option maxRecDepth 100000 in
set_option maxHeartbeats 4000000 in
theorem Cascade_ok (l : List Sec) (xs : List Int) (A1 A : Option Addr) (c1 c : Nat) (w : World) (hS : SCells w A1 l) (hC : Cells w A xs) (hl : secsErr l = 0) (hx : ssigErr xs = 0) :
    Calls Tryd.prog 10 #[.slice A1 l.length c1, .slice A xs.length c] w fun r w' => (∃ B d, r = .returned (.tuple #[.slice B xs.length d, (.int .i64 (0))]) ∧ (∀ p, B = some p → w.heap.size ≤ p.block ∧ Unf w' p.block) ∧ Cells w' B (casc l xs l.length)) ∧ Below w.heap.size w w' := by
  obtain ⟨l8, hsec⟩ := secsErr_zero hl
  obtain ⟨hn, hin⟩ := ssigErr_zero hx
  have HCS : Hid (∀ W, SCells W A1 l → Calls Tryd.prog 24 #[.slice A1 l.length c1] W fun r w' => r = .returned (.int .i64 (0)) ∧ Below W.heap.size W w') := Lib.hid (fun W q => by have := checkSections_any l A1 c1 W q (by omega); rwa [hl] at this)
  have HSG : Hid (∀ W, Cells W A xs → Calls Tryd.prog 25 #[.slice A xs.length c] W fun r w' => r = .returned (.int .i64 (0)) ∧ Below W.heap.size W w') := Lib.hid (fun W q => by have := sSignal_any xs A c W q (by omega); rwa [hx] at this)
  have HF2 : Hid (∀ (W : World), Calls Tryd.prog 23 #[.slice (some ⟨W.heap.size, 0, none⟩) 2 2] (W.alloc (.cells #[(.int .i64 (0)), (.int .i64 (0))] 35)) fun r w' => r = .returned (.int .i64 (0)) ∧ (W.alloc (.cells #[(.int .i64 (0)), (.int .i64 (0))] 35)) = w') := Lib.hid (fun W => sFirst_cells [0, 0] W (by simp))
  have HFR : Hid (∀ k, k < l.length → ∀ W B d, Cells W B (casc l xs k) → Calls Tryd.prog 26 #[(fun S : Sec => .agg #[(.int .i64 (S.b0)), (.int .i64 (S.b1)), (.int .i64 (S.b2)), (.int .i64 (S.a1)), (.int .i64 (S.a2)), (.int .i64 (S.sh))]) (l.getD k Sec0), .agg #[(.int .i64 (0)), (.int .i64 (0)), (.int .i64 (0)), (.int .i64 (0))], .slice B xs.length d] W fun r w' => (∃ B' d' sx, r = .returned (.tuple #[.slice B' xs.length d', .agg (encX sx)]) ∧ (∀ p, B' = some p → W.heap.size ≤ p.block ∧ Unf w' p.block) ∧ Cells w' B' (casc l xs (k + 1))) ∧ Below W.heap.size W w') := Lib.hid (fun k hk W B d q => by
    obtain ⟨g0, g1, g2, g3, g4, g5⟩ := secErr_zero (hsec k hk)
    have hlen := casc_len (l := l) xs k (by omega)
    have := from_any _ _ _ _ _ _ 0 0 0 0 (casc l xs k) B d W g0 g1 g2 g3 g4 g5 (by unfold okX bd15; simp) (casc_in hin k (by omega)) (by omega) q
    rw [hlen] at this
    refine this.mono ?_
    rintro r w' ⟨⟨B', d', rfl, h2, h3⟩, hb⟩
    refine ⟨⟨B', d', _, rfl, h2, ?_⟩, hb⟩
    rw [casc_succ _ hk, secOut, hlen]
    exact h3)
  have HS := Lib.hid hS
  have HC := Lib.hid hC
  have HC0 : Hid (casc l xs 0 = xs) := Lib.hid (by simp [casc])
  obtain ⟨N, hN⟩ : ∃ N, N = xs.length := ⟨_, rfl⟩
  have HN := Lib.hid hN
  obtain ⟨M, hM⟩ : ∃ M, M = l.length := ⟨_, rfl⟩
  have HM := Lib.hid hM
  have HMK : Hid (∀ W : World, Sem.run Tryd.prog (Instr.makeSlice 22 (.int .i64 (N)) (.int .i64 (N))) W = .ok (.slice (some ⟨W.heap.size, 0, none⟩) N N) (W.alloc (.cells (zerosA N).toArray 3))) := Lib.hid (fun W => mk_ints N (by omega) W)
  rw [← hN] at HSG HFR hn ⊢
  rw [← hM] at HCS HFR l8 ⊢
  clear hl hx hsec hin hN hM hS hC
  go_enter Tryd.func10, Tryd.ntmps10
  go_wp2_with (first
    | (go_at_call 24; refine (HCS.out _ HS.out).mono ?_; rintro r w1 ⟨rfl, hb1⟩; have HB1 := Lib.hid hb1; clear hb1)
    | (go_at_call 25; refine (HSG.out _ (HC.out.below HB1.out)).mono ?_; rintro r w2 ⟨rfl, hb2⟩; have HB2 := Lib.hid (HB1.out.trans (hb2.mono HB1.out.size)); clear hb2)
    | (go_at_call 23; refine (HF2.out _).mono ?_; rintro r w3 ⟨rfl, rfl⟩; have HB3 := Lib.hid (HB2.out.alloc HB2.out.size (.cells #[(.int .i64 (0)), (.int .i64 (0))] 35)); refine Hid.out ?_))
  obtain ⟨w3, hw3⟩ : ∃ w3, w3 = w2.alloc (.cells #[(.int .i64 (0)), (.int .i64 (0))] 35) := ⟨_, rfl⟩
  rw [← hw3] at HB3 ⊢
  have hmk := HMK.out w3
  clear hw3 HB1 HB2
  unfold Hid
  have hb3 : Below w.heap.size w (w3.alloc (.cells (zerosA N).toArray 3)) := HB3.out.alloc HB3.out.size _
  have hC3 := HC.out.below hb3
  have hcp := run_copyI (P := Tryd.prog) (w3.alloc (.cells (zerosA N).toArray 3)) 22 22 3 3 w3.heap.size A xs N N c (zerosA N).toArray 3 Tryd.underlying22 (by kernel_rfl) (by rw [← HN.out]; exact Nat.le_refl _) (heap_new rfl) (by simp [zerosA]) hC3
  rw [← HN.out] at hcp
  obtain ⟨w4, hw4⟩ : ∃ w4, w4 = (w3.alloc (.cells (zerosA N).toArray 3)).setRow w3.heap.size (xs.map (Value.int .i64) ++ (zerosA N).toArray.toList.drop N).toArray := ⟨_, rfl⟩
  rw [← hw4] at hcp
  have hz3 : w.heap.size ≤ w3.heap.size := HB3.out.size
  have HB4 : Hid (Below w.heap.size w w4) := Lib.hid (by rw [hw4]; exact below_setRow hb3 hz3 _)
  have HC4 : Hid (Cells w4 (some ⟨w3.heap.size, 0, none⟩) xs) := Lib.hid (by
    have h1 := setRow_heap (w3.alloc (.cells (zerosA N).toArray 3)) w3.heap.size (zerosA N).toArray (xs.map (Value.int .i64) ++ (zerosA N).toArray.toList.drop N).toArray 3 (0, 0) (heap_new rfl)
    rw [← hw4, List.drop_eq_nil_of_le (by simp [zerosA]), List.append_nil] at h1
    exact Cells.row h1)
  have HU4 : Hid (Unf w4 w3.heap.size) := Lib.hid (by
    have h1 := setRow_heap (w3.alloc (.cells (zerosA N).toArray 3)) w3.heap.size (zerosA N).toArray (xs.map (Value.int .i64) ++ (zerosA N).toArray.toList.drop N).toArray 3 (0, 0) (heap_new rfl)
    rw [← hw4] at h1
    exact ⟨(Array.getElem?_eq_some_iff.1 h1).1, fun i => by unfold World.frozen?; rw [h1]; simp⟩)
  have hz4 := HB4.out.size
  clear hw4 hb3 hC3
  go_wp2
  go_loopw [7, 27] (fun v i wr => ∃ (k : Nat) (B : Option Addr) (d : Nat), k ≤ M ∧ v = .slice B N d ∧ i = (.int .i64 ((k : Int))) ∧ (∀ p, B = some p → w.heap.size ≤ p.block ∧ Unf wr p.block) ∧ Cells wr B (casc l xs k) ∧ Below w.heap.size w wr) (fun _ i _ => M - (intOf i).toNat)
  case atStart => exact ⟨0, _, _, Nat.zero_le _, rfl, rfl, fun p e => by cases e; exact ⟨hz3, HU4.out⟩, by rw [HC0.out]; exact HC4.out, HB4.out⟩
  case round =>
    obtain ⟨k, B, d, hk, rfl, rfl, hf, hcc, hB⟩ := hrel
    have HCC := Lib.hid hcc
    have HFB := Lib.hid hf
    have hsz := hB.size
    clear hcc hf
    by_cases hlt : k < M
    · obtain ⟨b, o, rfl, l1, k1⟩ := HS.out (by rw [← HM.out]; omega)
      obtain ⟨q0, q1, q2, q3, q4, q5⟩ := k1 k (by rw [← HM.out]; exact hlt)
      have x0 := (hB.cell (p := ⟨b, o + k * 6, none⟩) l1).trans q0
      have x1 := (hB.cell (p := ⟨b, o + k * 6 + 1, none⟩) l1).trans q1
      have x2 := (hB.cell (p := ⟨b, o + k * 6 + 2, none⟩) l1).trans q2
      have x3 := (hB.cell (p := ⟨b, o + k * 6 + 3, none⟩) l1).trans q3
      have x4 := (hB.cell (p := ⟨b, o + k * 6 + 4, none⟩) l1).trans q4
      have x5 := (hB.cell (p := ⟨b, o + k * 6 + 5, none⟩) l1).trans q5
      have HF1 := Lib.hid (HFR.out k hlt)
      obtain ⟨S, hS⟩ : ∃ S, S = l.getD k Sec0 := ⟨_, rfl⟩
      rw [← hS] at x0 x1 x2 x3 x4 x5 HF1
      clear q0 q1 q2 q3 q4 q5 k1 hS
      go_wp2_with (go_at_call 26; refine (HF1.out _ _ _ (HCC.out.below ((Below.refl _ _).alloc (Nat.le_refl _) _))).mono ?_; rintro r w5 ⟨⟨B', d', sx, rfl, hf5, hc5⟩, hb5⟩; have HB5 := Lib.hid ((hB.alloc hsz _).trans (hb5.mono (by simp; omega))); have HC5 := Lib.hid hc5; have HF5 := Lib.hid hf5; clear hc5 hf5 hb5)
      go_roundw
      case rel => exact ⟨k + 1, _, _, by omega, rfl, by go_num, fun p e => by have := HF5.out p e; exact ⟨by have := this.1; simp at this; omega, this.2⟩, HC5.out, HB5.out⟩
      case measure => simp [intOf]; omega
    · obtain rfl : k = M := by omega
      go_wp2
      go_ret2
      exact ⟨⟨B, d, rfl, HFB.out, HCC.out⟩, hB⟩
end Go.Proofs.YtleemphfkhbhaaaDoor
