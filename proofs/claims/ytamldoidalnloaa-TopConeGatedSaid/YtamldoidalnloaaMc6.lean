/- Part 6 of the texts of the claim: S6, Tc8. -/
import Derived.Test.YtamldoidalnloaaMc5
import Derived.RangeFuncBox
import Derived.Test.YtamldoidalnloaaMc4
import Derived.BigRegion

/- Contract of (Section).from. -/
namespace Go.Proofs.Ytamldoidalnloaa
open Go.RowKit
open Calm (bcell Blk)

def encX (s : XS) : Array Value := #[(.int .i64 (s.1)), (.int .i64 (s.2.1)), (.int .i64 (s.2.2.1)), (.int .i64 (s.2.2.2))]
def lastX (st : XS) (pre : List (Int × XS)) : XS := (pre.getLast?.map Prod.snd).getD st
theorem lastX_snoc (st : XS) (pre : List (Int × XS)) (x : Int × XS) : lastX st (pre ++ [x]) = x.2 := by simp [lastX]
theorem lastX_all (b0 b1 b2 a1 a2 sh : Int) (st : XS) (xs : List Int) : ∀ n, lastX st (allS b0 b1 b2 a1 a2 sh st xs n) = ssAt b0 b1 b2 a1 a2 sh st xs n
  | 0 => rfl
  | k + 1 => by rw [allS_succ, lastX_snoc]
def soK (b0 b1 b2 a1 a2 sh : Int) (st : XS) (xs : List Int) (n : Nat) : List Int := (List.range n).map fun k => soAt b0 b1 b2 a1 a2 sh st xs k
theorem soK_all (b0 b1 b2 a1 a2 sh : Int) (st : XS) (xs : List Int) (n : Nat) : (allS b0 b1 b2 a1 a2 sh st xs n).map Prod.fst = soK b0 b1 b2 a1 a2 sh st xs n := by simp [allS, soK]
theorem allS_len (b0 b1 b2 a1 a2 sh : Int) (st : XS) (xs : List Int) (n : Nat) : (allS b0 b1 b2 a1 a2 sh st xs n).length = n := by simp [allS]
/-- a block that lies, and may be written. -/
def Unf (w : World) (b : Nat) : Prop := b < w.heap.size ∧ ∀ i, w.frozen? ⟨b, i, none⟩ = false
theorem own_unf {W : World} {base e size n c k : Nat} {p : Addr} {xs : List Value} (h : W.ownsRow base e size (.slice (some p) n c) k xs) : Unf W p.block := by
  rcases h.2 with ⟨h1, h2⟩ | ⟨g, cap, cur, h1, h2, h3, h4, h5, h6, h7⟩
  · cases h1
  · cases h1
    exact ⟨(Array.getElem?_eq_some_iff.1 h3).1, fun i => by unfold World.frozen?; rw [h3]; simp⟩
theorem kbS_own {β : Type} (w5 : World) (S : Nat → Prop) : OwnFrom w5.heap.size (fun (_ : β) W => ∀ k, k < w5.heap.size → ¬ S k → W.heap[k]? = w5.heap[k]?) := fun s X Y row hs hg hrow k hk hne => by
  have hX := hs k hk hne
  have hlt : k < X.heap.size := by
    rw [Array.getElem?_eq_getElem hk] at hX
    exact (Array.getElem?_eq_some_iff.1 hX).1
  exact (hg.block k hlt (fun e => by have := (hrow k e.symm).1; omega)).trans hX
theorem heapRow_own {β : Type} (B : Nat) (cs : β → Array Value) (t : TypeId) : Own (fun (s : β) W => W.heap[B]? = some (.cells (cs s) t (0, 0))) := fun s X Y row hs hg hrow =>
  (hg.block B (Array.getElem?_eq_some_iff.1 hs).1 (fun e' => by obtain ⟨o, ho, hc⟩ := hrow B e'.symm; rw [hs] at ho; cases ho; cases hc)).trans hs
theorem blk_own {β : Type} (B n : Nat) (hB : B < n) (f : β → Array Value) : OwnFrom n (fun s W => Blk W B (f s)) := fun s X Y row hs hg hrow =>
  Calm.Blk.of_block hs (hg.block B hs.lt (fun e => by have := (hrow B e.symm).1; omega))

set_option maxRecDepth 100000 in
set_option maxHeartbeats 4000000 in
theorem from_any (b0 b1 b2 a1 a2 sh x1 x2 y1 y2 : Int) (xs : List Int) (A : Option Addr) (c : Nat) (w : World) (h0 : bd15 b0) (h1 : bd15 b1) (h2 : bd15 b2) (h3 : bd15 a1) (h4 : bd15 a2) (h5 : 0 ≤ sh ∧ sh ≤ 15)
    (hst : okX (x1, x2, y1, y2)) (hx : inB 32767 xs) (hn : xs.length ≤ 5000) (hC : Cells w A xs) :
    Calls Try.prog 50 #[.agg #[(.int .i64 b0), (.int .i64 b1), (.int .i64 b2), (.int .i64 a1), (.int .i64 a2), (.int .i64 sh)], .agg #[(.int .i64 x1), (.int .i64 x2), (.int .i64 y1), (.int .i64 y2)], .slice A xs.length c] w fun r w' => (∃ B d, r = .returned (.tuple #[.slice B xs.length d, .agg (encX (ssAt b0 b1 b2 a1 a2 sh (x1, x2, y1, y2) xs xs.length))]) ∧ (∀ p, B = some p → w.heap.size ≤ p.block ∧ Unf w' p.block) ∧ Cells w' B (soK b0 b1 b2 a1 a2 sh (x1, x2, y1, y2) xs xs.length)) ∧ Below w.heap.size w w' := by
  have hfn : ∀ f, Fence.wide.fn f = True := fun _ => rfl
  obtain ⟨i0, hi, iz0, iz1, iz2⟩ := info_parts Try.infoI
  have HO : Hid (∀ (n : Nat) (W : World), Calls Try.prog 86 #[.agg #[(.int .i64 b0), (.int .i64 b1), (.int .i64 b2), (.int .i64 a1), (.int .i64 a2), (.int .i64 sh)], .agg #[(.int .i64 x1), (.int .i64 x2), (.int .i64 y1), (.int .i64 y2)], .slice A n c] W fun e w' => e = .returned (.func (.func 101) #[] #[.pointer (some ⟨W.heap.size + 1, 0, none⟩), .pointer (some ⟨W.heap.size + 1 + 1, 0, none⟩), .pointer (some ⟨W.heap.size, 0, none⟩)]) ∧
      Below W.heap.size W w' ∧ Blk w' W.heap.size #[(.int .i64 b0), (.int .i64 b1), (.int .i64 b2), (.int .i64 a1), (.int .i64 a2), (.int .i64 sh)] ∧ Blk w' (W.heap.size + 1) #[(.int .i64 x1), (.int .i64 x2), (.int .i64 y1), (.int .i64 y2)] ∧ Blk w' (W.heap.size + 1 + 1) #[.slice A n c]) := Lib.hid (fun n W => outputs_any b0 b1 b2 a1 a2 sh x1 x2 y1 y2 A n c W)
  obtain ⟨Db, hDb, hD⟩ : ∃ Db, Db < w.heap.size + 1 ∧ (0 < xs.length → ∃ o, A = some ⟨Db, o, none⟩ ∧ Db < w.heap.size) := by
    by_cases hl : 0 < xs.length
    · obtain ⟨b, off, hA, hb, _⟩ := hC hl
      exact ⟨b, by omega, fun _ => ⟨off, hA, hb⟩⟩
    · exact ⟨w.heap.size, by omega, fun h => absurd h hl⟩
  obtain ⟨N, hN⟩ : ∃ N, N = xs.length := ⟨_, rfl⟩
  have HN := Lib.hid hN
  have HC := Lib.hid hC
  have HI : Hid (∀ (W : World) (Sb Xb Lb : Nat) (n : Nat), Blk W Sb #[(.int .i64 b0), (.int .i64 b1), (.int .i64 b2), (.int .i64 a1), (.int .i64 a2), (.int .i64 sh)] → Blk W Xb #[(.int .i64 x1), (.int .i64 x2), (.int .i64 y1), (.int .i64 y2)] → Blk W Lb #[.slice A N c] → Cells W A xs → IterM Fence.wide n Try.prog 101 #[.pointer (some ⟨Xb, 0, none⟩), .pointer (some ⟨Lb, 0, none⟩), .pointer (some ⟨Sb, 0, none⟩)] encO (allS b0 b1 b2 a1 a2 sh (x1, x2, y1, y2) xs N) (blks Sb Xb Lb Db) W) :=
    Lib.hid (fun W Sb Xb Lb n k1 k2 k3 k4 => by rw [hN] at k3 ⊢; exact outputs1_iter b0 b1 b2 a1 a2 sh x1 x2 y1 y2 xs Sb Xb Lb Db A c W n h0 h1 h2 h3 h4 h5 hst hx hn k1 k2 k3 k4 (fun h => by obtain ⟨o, e, _⟩ := hD h; exact ⟨o, e⟩))
  rw [← hN] at hn ⊢
  have HLS := Lib.hid (lastX_all b0 b1 b2 a1 a2 sh (x1, x2, y1, y2) xs N)
  have HSK := Lib.hid (soK_all b0 b1 b2 a1 a2 sh (x1, x2, y1, y2) xs N)
  have HAL := Lib.hid (allS_len b0 b1 b2 a1 a2 sh (x1, x2, y1, y2) xs N)
  obtain ⟨AL, hAL⟩ : ∃ AL, AL = allS b0 b1 b2 a1 a2 sh (x1, x2, y1, y2) xs N := ⟨_, rfl⟩
  obtain ⟨LX, hLX⟩ : ∃ LX, LX = ssAt b0 b1 b2 a1 a2 sh (x1, x2, y1, y2) xs N := ⟨_, rfl⟩
  obtain ⟨SK, hSK⟩ : ∃ SK, SK = soK b0 b1 b2 a1 a2 sh (x1, x2, y1, y2) xs N := ⟨_, rfl⟩
  rw [← hAL] at HI HLS HSK HAL
  rw [← hLX] at HLS ⊢
  rw [← hSK] at HSK ⊢
  clear hC hN h0 h1 h2 h3 h4 h5 hst hx hAL hLX hSK
  have HD := Lib.hid hD
  clear hD
  refine (callsIn_wide (n := 10)).1 ?_
  refine callsIn_of_wp_marks Try.func50 rfl trivial ?_ rfl
  simp only [Try.ntmps50, List.size_toArray, List.length_cons, List.length_nil, Nat.reduceAdd, Nat.reduceSub, Array.replicate_succ, Array.replicate_zero, List.push_toArray, List.append_toArray, List.nil_append, List.cons_append]
  gi_wp2_with (gi_at_call 86; refine (callsIn_wide.2 (HO.out N _)).mono ?_; rintro r w5 ⟨rfl, hb5, K0, K1, K2⟩; obtain ⟨hc5, hf5⟩ := bcell hb5)
  simp only [World.size_alloc] at K0 K1 K2
  have hz5 := K2.lt
  have hO5 : Boxed w5 (w.heap.size + 1 + 1 + 1) 22 (.slice none 0 0) := (hb5.block _ (by simp)).trans (heap_new (by simp))
  have KX : Blk w5 (w.heap.size + 1) #[(.int .i64 x1), (.int .i64 x2), (.int .i64 y1), (.int .i64 y2)] := Blk.below (by (repeat (first | ((with_reducible refine Blk.at_ ?_); focus (first | rfl | (simp; done) | (simp; omega))) | (with_reducible refine Blk.alloc ?_ _) | (with_reducible refine Blk.below ?_ (by with_reducible assumption)) | (with_reducible refine Blk.drew ?_)))) hb5
  have KR : Blk w5 (w.heap.size + 1 + 1) #[(.int .i64 0), (.int .i64 0), (.int .i64 0), (.int .i64 0)] := Blk.below (by (repeat (first | ((with_reducible refine Blk.at_ ?_); focus (first | rfl | (simp; done) | (simp; omega))) | (with_reducible refine Blk.alloc ?_ _) | (with_reducible refine Blk.below ?_ (by with_reducible assumption)) | (with_reducible refine Blk.drew ?_)))) hb5
  have HB5 := Lib.hid (show Below w.heap.size w w5 from Below.trans (by (repeat (first | (with_reducible exact Below.refl _ _) | ((with_reducible refine Below.setCell ?_ ?_ _); rotate_left 1; focus (first | (simp; done) | (simp; omega) | (simp at *; omega))) | ((with_reducible refine Below.alloc ?_ ?_ _); rotate_left 1; focus (first | (simp; done) | (simp; omega) | (simp at *; omega))) | (with_reducible refine Below.drew ?_) | ((with_reducible refine Calm.step (by assumption) ?_ ?_); rotate_left 1; focus (first | (simp; done) | (simp; omega) | (simp at *; omega)))))) (hb5.mono (by simp; omega)))
  have HIT := Lib.hid (HI.out w5 _ _ _ (10 - 1) K0 K1 K2 (HC.out.below (Below.trans (by (repeat (first | (with_reducible exact Below.refl _ _) | ((with_reducible refine Below.setCell ?_ ?_ _); rotate_left 1; focus (first | (simp; done) | (simp; omega) | (simp at *; omega))) | ((with_reducible refine Below.alloc ?_ ?_ _); rotate_left 1; focus (first | (simp; done) | (simp; omega) | (simp at *; omega))) | (with_reducible refine Below.drew ?_) | ((with_reducible refine Calm.step (by assumption) ?_ ?_); rotate_left 1; focus (first | (simp; done) | (simp; omega) | (simp at *; omega)))))) (hb5.mono (by simp; omega)))))
  have HKR := Lib.hid KR
  clear hb5 hc5 hf5 K0 K1 K2 HI HO KR
  have hIO : OwnFrom w5.heap.size (fun (pre : List (Int × XS)) W => ((∃ v, Boxed W (w.heap.size + 1 + 1 + 1) 22 v ∧ W.ownsRow (w5.heap.size + 3) 3 1 v pre.length ((pre.map Prod.fst).map (Value.int .i64)) ∧ True) ∧ Blk W (w.heap.size + 1) (encX (lastX (x1, x2, y1, y2) pre)) ∧ ((∀ k, k < w5.heap.size → ¬ (k = w.heap.size + 1 ∨ k = w.heap.size + 1 + 1 + 1) → W.heap[k]? = w5.heap[k]?) ∧ Below w.heap.size w W))) :=
    OwnFrom.and ((holdsRow_own _ _ _ _ _ _ _ _).from _) (OwnFrom.and (blk_own _ _ (by omega) _) (OwnFrom.and (kbS_own w5 _) (ownFrom_below (Nat.le_refl _) (by omega))))
  have HIO := Lib.hid hIO
  refine range_iterM (F := Fence.wide) (n := 10) rfl (by decide) (gf := 101) (lb := #[.pointer (some ⟨w.heap.size + 1 + 1 + 1 + 1 + 1, 0, none⟩), .pointer (some ⟨w.heap.size + 1 + 1 + 1 + 1 + 1 + 1, 0, none⟩), .pointer (some ⟨w.heap.size + 1 + 1 + 1 + 1, 0, none⟩)]) rfl trivial (enters_of Try.func101 (by kernel_rfl) rfl)
    (enc := encO) (all := AL) (C := blks (w.heap.size + 1 + 1 + 1 + 1) (w.heap.size + 1 + 1 + 1 + 1 + 1) (w.heap.size + 1 + 1 + 1 + 1 + 1 + 1) Db) (by rintro k (rfl | rfl | rfl | rfl) <;> omega) HIT.out (fun _ => rfl)
    _
    hIO ?his ⟨⟨_, hO5, World.ownsRow_nil _ _ _ _, trivial⟩, KX, fun _ _ _ => rfl, HB5.out⟩
    (fun (pre : List (Int × XS)) (x : Int × XS) (a' : Act) (W : World) => ((∃ v, Boxed W (w.heap.size + 1 + 1 + 1) 22 v ∧ W.ownsRow (w5.heap.size + 3) 3 1 v pre.length ((pre.map Prod.fst).map (Value.int .i64)) ∧ True) ∧ Blk W (w.heap.size + 1) (encX (lastX (x1, x2, y1, y2) pre)) ∧ ((∀ k, k < w5.heap.size → ¬ (k = w.heap.size + 1 ∨ k = w.heap.size + 1 + 1 + 1) → W.heap[k]? = w5.heap[k]?) ∧ Below w.heap.size w W)) ∧
      ∃ Bx, w5.heap.size + 2 < Bx ∧ W.heap[Bx]? = some (.cells (encX x.2) 93 (0, 0)) ∧ a' = { tmps := #[.agg #[(.int .i64 b0), (.int .i64 b1), (.int .i64 b2), (.int .i64 a1), (.int .i64 a2), (.int .i64 sh)], .agg #[(.int .i64 x1), (.int .i64 x2), (.int .i64 y1), (.int .i64 y2)], .slice A N c, .pointer (some ⟨w.heap.size, 0, none⟩), .pointer (some ⟨w.heap.size + 1, 0, none⟩), undef, .slice none 0 0, .pointer (some ⟨w.heap.size + 1 + 1, 0, none⟩), .pointer (some ⟨w.heap.size + 1 + 1 + 1, 0, none⟩), (.int .i64 (x.1)), .pointer (some ⟨Bx, 0, none⟩), .agg #[(.int .i64 b0), (.int .i64 b1), (.int .i64 b2), (.int .i64 a1), (.int .i64 a2), (.int .i64 sh)], .agg #[(.int .i64 x1), (.int .i64 x2), (.int .i64 y1), (.int .i64 y2)], .slice A N c, .func (.func 101) #[] #[.pointer (some ⟨w.heap.size + 1 + 1 + 1 + 1 + 1, 0, none⟩), .pointer (some ⟨w.heap.size + 1 + 1 + 1 + 1 + 1 + 1, 0, none⟩), .pointer (some ⟨w.heap.size + 1 + 1 + 1 + 1, 0, none⟩)], (.int .i64 (x.1)), .agg (encX x.2), undef, undef, undef, undef, undef, undef, undef], defers := [] })
    ?hax ?assign ?body ?done
  case his =>
    rintro pre W i v ⟨⟨v0, hv, ho, _⟩, hkx, hk, hB⟩
    exact ⟨⟨v0, (Below.heap_setCell _ _ _ _ (by simp; omega)).trans hv, ownsRow_setCell_below ho (by simp) v, trivial⟩, Blk.far hkx (by simp; omega) v, fun k h1 h2 => (Below.heap_setCell _ _ _ _ (by simp; omega)).trans (hk k h1 h2), hB.setCell (by simp; omega) v⟩
  case hax =>
    rintro pre x a' s X Y row ⟨hi, Bx, h1, h2, h3⟩ hg hrow
    exact ⟨hIO pre X Y row hi hg hrow, Bx, h1, heapRow_own Bx (fun x : Int × XS => encX x.2) _ x X Y row h2 hg (fun r e => (hrow r e).2), h3⟩
  case assign =>
    rintro l pre x W hi ⟨post, hpost⟩ hsz hcb
    have hsem : ∀ (ρ : Operand → Value) (o : Oper), (∀ c, o.op ≠ .defer c) → Oper.semAt (some l) ρ o = execOp ρ o := Oper.semAt_some l
    have HI := Lib.hid hi
    clear hi hIO hpost hcb
    dsimp only [encO]
    gi_wp2
    exact ⟨(Same.refl _ _).alloc _, HIO.out.alloc _ HI.out, W.heap.size, hsz, World.alloc_heap_new W _, rfl⟩
  case body =>
    rintro l pre ⟨y, s1, s2, s3, s4⟩ a' W ⟨⟨⟨v, hv, ho, _⟩, hkx, hk, hB⟩, Bx, hBx, hx, rfl⟩ ⟨post, hpost⟩ hsz hcb
    have hsem : ∀ (ρ : Operand → Value) (o : Oper), (∀ c, o.op ≠ .defer c) → Oper.semAt (some l) ρ o = execOp ρ o := Oper.semAt_some l
    have hlen : pre.length + 1 ≤ 5000 := by have h1 := HAL.out; rw [hpost] at h1; simp at h1; omega
    obtain ⟨_, _, _, _, hxl, hxf⟩ := (Calm.Blk.row hx).o4
    have KX1 := Calm.Blk.row hx
    have hnx : ∀ k, v.ownBlock = some k → k ≠ Bx := by
      rintro k e rfl
      rcases ho.2 with ⟨rfl, _⟩ | ⟨g, cap, cur, rfl, h1, h2, _⟩
      · cases e
      · cases e
        rw [hx] at h2
        cases h2
    have vc := hv.cell
    have vl := hv.lt
    have HV := Lib.hid hv
    have HK := Lib.hid hk
    have HB := Lib.hid hB
    have HO := Lib.hid ho
    have HKX := Lib.hid hkx
    have HX := Lib.hid KX1
    clear hv hk hB ho hkx hx hIO hpost hcb KX1
    dsimp only [encX]
    gi_wp2_with (gi_at_builtin; refine wpListIn_append_own _ rfl _ _ 22 rfl (w5.heap.size + 3) 3 i0 _ 1 8 Try.underlying22 hi iz0 iz1 iz2 rfl (by decide) _ _ _ rfl (HO.out.alloc _) ⟨W.heap.size, 0, none⟩ 1 1 [(.int .i64 y)] rfl rfl ?c1 ?c2 ?c3 ?c4 ?c5 ?_)
    case c2 => rfl
    case c3 => unfold maxLen; omega
    case c4 => omega
    case c5 => have h1 := HB5.out.size; simp; omega
    intro v' w7 hown' hgrow _
    have hv6 : Boxed (W.alloc (.cells #[(.int .i64 y)] 3)) (w.heap.size + 1 + 1 + 1) 22 v := heap_old (by omega) HV.out
    have hne : ∀ k, v.ownBlock = some k → w5.heap.size + 3 ≤ k := fun k e => (HO.out.lt k e).1
    have hv7 : Boxed w7 (w.heap.size + 1 + 1 + 1) 22 v := hv6.kept hgrow (fun e => by have := hne _ e.symm; omega)
    have hb7 : ∀ k, k < W.heap.size → k < w5.heap.size + 3 → w7.heap[k]? = W.heap[k]? := fun k h1 h2 => (hgrow.block k (by simp; omega) (fun e => by have := hne k e.symm; omega)).trans (heap_old h1 rfl)
    have hX7 : Blk w7 Bx (encX (s1, s2, s3, s4)) := grown_blk (HX.out.alloc _) hgrow hnx
    have hs7 : W.heap.size < w7.heap.size := by have := hgrow.size; simp at this; omega
    have vc7 := hv7.cell
    have vf7 := hv7.frozen
    have HOW := Lib.hid hown'
    have HGR := Lib.hid hgrow
    have HNE := Lib.hid hne
    have HV7 := Lib.hid hv7
    obtain ⟨d0, d1, d2, d3, dl, df⟩ := hX7.o4
    have K7 : Blk w7 (w.heap.size + 1) (encX (lastX (x1, x2, y1, y2) pre)) := Calm.Blk.of_block HKX.out (hb7 _ (by omega) (by omega))
    obtain ⟨_, _, _, _, ql, qf⟩ := K7.o4
    have HK7 := Lib.hid K7
    have HB7 := Lib.hid hb7
    have ql1 : w.heap.size + 1 < w7.heap.size := by omega
    have ql2 : w.heap.size + 1 + 1 + 1 < w7.heap.size := by omega
    obtain ⟨g', cap', rfl⟩ := ownsRow_succ hown'
    clear hgrow hne hown' K7 hb7 hv7 hv6 hX7
    gi_wp2
    refine ⟨?same, ⟨⟨.slice (some ⟨g', 0, none⟩) (pre.length + 1) cap', ?bx, ?own⟩, ?kx, ?kb, ?blw⟩⟩
    case same =>
      refine Same.setCell (Same.setCell (Same.setCell (Same.setCell (Same.setCell (p := ⟨w.heap.size + 1 + 1 + 1, 0, none⟩) (Same.grown ((Same.refl _ _).alloc _) HGR.out (fun k e hk => by have := HNE.out k e; rcases hk with (rfl | rfl | rfl | rfl) | rfl | rfl | rfl <;> omega)) ?_ _) ?_ _) ?_ _) ?_ _) ?_ _ <;>
        (rintro ((h | h | h | h) | h | h | h) <;> simp at h <;> omega)
    case bx => exact (Below.heap_setCell _ _ _ _ (by simp <;> omega)).trans ((Below.heap_setCell _ _ _ _ (by simp <;> omega)).trans ((Below.heap_setCell _ _ _ _ (by simp <;> omega)).trans ((Below.heap_setCell _ _ _ _ (by simp <;> omega)).trans (HV7.out.set _))))
    case own =>
      refine ownsRow_setCell_below (ownsRow_setCell_below (ownsRow_setCell_below (ownsRow_setCell_below (ownsRow_setCell_below ?_ (by simp; omega) _) (by simp; omega) _) (by simp; omega) _) (by simp; omega) _) (by simp; omega) _
      have := HOW.out
      simpa using this
    case kx =>
      rw [lastX_snoc]
      exact ((((HK7.out.far (by simp <;> omega) _).set (i := 0) (by simp [encX]) _).set (i := 1) (by simp [encX]) _).set (i := 2) (by simp [encX]) _).set (i := 3) (by simp [encX]) _
    case kb =>
      intro k h1 h2 h3
      rw [Below.heap_setCell _ _ _ _ (by simpa using h2), Below.heap_setCell _ _ _ _ (by simpa using h2), Below.heap_setCell _ _ _ _ (by simpa using h2), Below.heap_setCell _ _ _ _ (by simpa using h2), Below.heap_setCell _ _ _ _ (by simpa using h3)]
      exact (HB7.out k (by omega) (by omega)).trans (HK.out k h1 (by rintro (h | h) <;> omega))
    case blw =>
      refine ((((Below.setCell ((HB.out.alloc (by omega) _).grown HGR.out (by simp <;> omega) (fun k e => by have := HNE.out k e; omega)) (by simp <;> omega) _).setCell (by simp <;> omega) _).setCell (by simp <;> omega) _).setCell (by simp <;> omega) _).setCell (by simp <;> omega) _
  case done =>
    rintro W ⟨⟨v, hv, ho, _⟩, hkx, hk, hB⟩ hdef
    rw [HLS.out] at hkx
    rw [HSK.out, HAL.out] at ho
    obtain ⟨a, c', rfl⟩ := own_slice ho
    have vc := hv.cell
    have vl := hv.lt
    have HO := Lib.hid ho
    have HB := Lib.hid hB
    have HDEF := Lib.hid hdef
    have KR := HKR.out.of_block (hk _ (by omega) (by omega))
    obtain ⟨e0, e1, e2, e3, el, ef⟩ := hkx.o4
    obtain ⟨f0, f1, f2, f3, fl, ff⟩ := KR.o4
    have HKRW := Lib.hid KR
    have hDl := (Array.getElem?_eq_some_iff.1 hdef).1
    clear hIO ho hv hk hdef hB hkx KR
    gi_wp2
    refine wpIn_wide.2 ?_
    refine Calm.tail_below 3 (by kernel_rfl) (by kernel_rfl) ?_
    simp only [List.take_succ_cons, List.take_zero, List.drop_succ_cons, List.drop_zero]
    repeat (first | (apply Calm.op_move; (focus rfl); (focus (first | exact .inl rfl | exact .inr rfl)); (focus ((try simp only [Act.eval, Array.getD_eq_getD_getElem?, List.getElem?_toArray, List.getElem?_cons_succ, List.getElem?_cons_zero, Option.getD_some]); rfl)); (try simp only [Act.put, List.setIfInBounds_toArray, List.set_cons_zero, List.set_cons_succ])) | (apply Calm.op_not; (focus rfl); (try simp only [Act.put, List.setIfInBounds_toArray, List.set_cons_zero, List.set_cons_succ])) | (apply Calm.op; (focus rfl); (focus (intro W hb; obtain ⟨hc, hf⟩ := bcell hb; clear hb hf; go_simp; (try go_bits); (try rfl); done)); (try simp only [Act.put, List.setIfInBounds_toArray, List.set_cons_zero, List.set_cons_succ])))
    refine wpQuiet_nil ?_
    intro w6 hb6
    obtain ⟨hb6c, hb6f⟩ := bcell hb6
    have hb6z := hb6.size
    (try simp at hb6z)
    (try have hb6z0 : w.heap.size < w6.heap.size := by omega)
    (try have hb6z1 : w.heap.size + 1 < w6.heap.size := by omega)
    (try have hb6z2 : w.heap.size + 1 + 1 < w6.heap.size := by omega)
    (try have hb6z3 : w.heap.size + 1 + 1 + 1 < w6.heap.size := by omega)
    (try have hb6z4 : w.heap.size + 1 + 1 + 1 + 1 < w6.heap.size := by omega)
    (try have hb6z5 : w.heap.size + 1 + 1 + 1 + 1 + 1 < w6.heap.size := by omega)
    have HB6 := Lib.hid (HB.out.trans (hb6.mono HB.out.size))
    have hown6 := ownsRow_below HO.out hb6
    have hdef6 := (hb6.block _ hDl).trans HDEF.out
    have hDl6 : w5.heap.size < w6.heap.size := (Array.getElem?_eq_some_iff.1 hdef6).1
    have HO6 := Lib.hid hown6
    have HD6 := Lib.hid hdef6
    have KR6 := HKRW.out.below hb6
    have HKR6 := Lib.hid KR6
    obtain ⟨g0, g1, g2, g3, gl, gf⟩ := KR6.o4
    clear hown6 hdef6 hb6 hb6c hb6f f0 f1 f2 f3 fl ff KR6
    go_wp2
    gi_wp2
    obtain ⟨W8, hW8⟩ : ∃ W8, W8 = ((((w6.setCell ⟨w.heap.size + 1 + 1, 0, none⟩ (.int .i64 (LX.1))).setCell ⟨w.heap.size + 1 + 1, 1, none⟩ (.int .i64 (LX.2.1))).setCell ⟨w.heap.size + 1 + 1, 2, none⟩ (.int .i64 (LX.2.2.1))).setCell ⟨w.heap.size + 1 + 1, 3, none⟩ (.int .i64 (LX.2.2.2))) := ⟨_, rfl⟩
    have K8 : Blk W8 (w.heap.size + 1 + 1) (encX LX) := by
      rw [hW8]
      exact (((HKR6.out.set (i := 0) (by simp) _).set (i := 1) (by simp) _).set (i := 2) (by simp) _).set (i := 3) (by simp) _
    have D8 : W8.heap[w5.heap.size]? = some (.deferred (some [])) := by
      rw [hW8, Below.heap_setCell _ _ _ _ (by simp <;> omega), Below.heap_setCell _ _ _ _ (by simp <;> omega), Below.heap_setCell _ _ _ _ (by simp <;> omega), Below.heap_setCell _ _ _ _ (by simp <;> omega)]
      exact HD6.out
    have B8 : Below w.heap.size w W8 := by
      rw [hW8]
      exact (((HB6.out.setCell (by simp <;> omega) _).setCell (by simp <;> omega) _).setCell (by simp <;> omega) _).setCell (by simp <;> omega) _
    have O8 : W8.ownsRow (w5.heap.size + 3) 3 1 (.slice a N c') N (SK.map (Value.int .i64)) := by
      rw [hW8]
      exact ownsRow_setCell_below (ownsRow_setCell_below (ownsRow_setCell_below (ownsRow_setCell_below HO6.out (by simp <;> omega) _) (by simp <;> omega) _) (by simp <;> omega) _) (by simp <;> omega) _
    rw [← hW8]
    clear hW8 g0 g1 g2 g3 gl gf
    refine ⟨by simp, .inl ⟨_, _, rfl, run_takeDeferred D8, ?_⟩⟩
    have K9 : Blk (W8.putObj w5.heap.size (.deferred none)) (w.heap.size + 1 + 1) (encX LX) := K8.of_block (World.putObj_heap_other (by omega))
    have O9 := ownsRow_putObj O8 (.deferred none) D8 rfl
    have B9 := B8.trans (belowK_b (w := w) (Nat.le_refl _) W8 w5.heap.size (.deferred (some [])) (.deferred none) (by omega) D8 rfl rfl)
    obtain ⟨A9, c9, hv9, hf9, hC9⟩ := own_ints O9 (by rw [← HSK.out, List.length_map, HAL.out])
    cases hv9
    clear K8 D8 B8 O8
    obtain ⟨k0, k1, k2, k3, _, _⟩ := Blk.o4 K9
    refine ⟨.tuple #[.slice a N c', .agg (encX LX)], ?_, ⟨a, c', rfl, fun p e => ?_, hC9⟩, B9⟩
    · simp [results, Try.results50, go_sem, encX, k0, k1, k2, k3]
    · have h1 := hf9 p e
      subst e
      exact ⟨by omega, own_unf O9⟩
end Go.Proofs.Ytamldoidalnloaa

/- chamber's pair and Answers. -/
namespace Go.Proofs.Ytamldoidalnloaa
open Go.RowKit
open Calm (bcell Blk)
set_option maxRecDepth 100000 in
set_option maxHeartbeats 1000000 in
theorem cPair_any (e : Nat) (he : e ≤ 6) (w : World) : Calls Try.prog 26 #[(.int .i64 (((2 ^ e : Nat) : Int)))] w fun r w' => ∃ u v, r = .returned (.tuple #[.agg #[u, v], (.int .i64 0)]) ∧ FS w.heap.size (gol e).1 u w' ∧ FS w.heap.size (gol e).2 v w' ∧ Below w.heap.size w w' := by
  have HP := Lib.hid (fun W => pair_any e he W)
  obtain ⟨n, hn⟩ : ∃ n, n = 2 ^ e := ⟨_, rfl⟩
  obtain ⟨G1, hG1⟩ : ∃ G1, G1 = (gol e).1 := ⟨_, rfl⟩
  obtain ⟨G2, hG2⟩ : ∃ G2, G2 = (gol e).2 := ⟨_, rfl⟩
  rw [← hn, ← hG1, ← hG2] at HP
  rw [← hn, ← hG1, ← hG2]
  clear hn hG1 hG2
  go_enter Try.func26, Try.ntmps26
  go_wp2_with (go_at_call 14; refine name_calls ?_; intro w1 e1; refine Hid.out ?_)
  unfold Hid
  have h1 : Below w.heap.size w w1 := by rw [e1]; exact bel
  have K1 : Blk w1 w.heap.size #[.slice none 0 0, .slice none 0 0] := by rw [e1]; (repeat (first | ((with_reducible refine Blk.at_ ?_); focus (first | rfl | (simp; done) | (simp; omega))) | (with_reducible refine Blk.alloc ?_ _) | (with_reducible refine Blk.below ?_ (by with_reducible assumption)) | (with_reducible refine Blk.drew ?_)))
  refine (HP.out w1).mono ?_
  rintro r w2 ⟨u, v, rfl, ⟨A, a, rfl, hA, fA⟩, ⟨B, b, rfl, hB, fB⟩, h2⟩
  have K2 := Lib.hid (K1.below h2)
  have HB2 := Lib.hid (h1.trans (h2.mono h1.size))
  have HA := Lib.hid hA
  have HBB := Lib.hid hB
  have FA : Hid (∀ p, A = some p → w.heap.size < p.block) := Lib.hid (fun p hp => by have := fA p hp; have := K1.lt; omega)
  have FB : Hid (∀ p, B = some p → w.heap.size < p.block) := Lib.hid (fun p hp => by have := fB p hp; have := K1.lt; omega)
  obtain ⟨f0, f1, fl, ff⟩ := K2.out.o2
  clear e1 h1 h2 K1 hA hB fA fB
  go_wp2
  refine name_post ?_
  intro wz ez
  have KZ : Blk wz w.heap.size #[.slice A G1.length a, .slice B G2.length b] := by rw [ez]; exact (K2.out.set (i := 0) (by simp) _).set (i := 1) (by simp) _
  have hbz : But w.heap.size w2 wz := by rw [ez]; exact (But.put _ 0 _).trans (But.put _ 1 _)
  have hB : Below w.heap.size w wz := by rw [ez]; exact (HB2.out.setCell (by simp) _).setCell (by simp) _
  clear ez f0 f1 fl ff
  obtain ⟨k0, k1, -, -⟩ := KZ.o2
  refine bodyPost_ret (v := .tuple #[.agg #[.slice A G1.length a, .slice B G2.length b], (.int .i64 0)]) (by simp [results, Try.results26, go_sem, k0, k1]) rfl ⟨_, _, rfl, ⟨A, a, rfl, HA.out.but (fun p hp => by have := FA.out p hp; omega) hbz, fun p hp => Nat.le_of_lt (FA.out p hp)⟩, ⟨B, b, rfl, HBB.out.but (fun p hp => by have := FB.out p hp; omega) hbz, fun p hp => Nat.le_of_lt (FB.out p hp)⟩, hB⟩
theorem Cells.of_blocks {w w' : World} {A : Option Addr} {zs : List Int} (h : Cells w A zs) (hW : ∀ p, A = some p → w'.heap[p.block]? = w.heap[p.block]?) : Cells w' A zs := fun h0 => by
  obtain ⟨b, off, rfl, hl, hc⟩ := h h0
  have e := hW _ rfl
  refine ⟨b, off, rfl, ?_, fun k hk => (World.cell?_of_block (w := w) (a := ⟨b, off + k, none⟩) e).trans (hc k hk)⟩
  have e' : w'.heap[b]? = w.heap[b]? := e
  rw [Array.getElem?_eq_getElem hl] at e'
  exact (Array.getElem?_eq_some_iff.1 e').1
/-- what the loop has laid into the array: the first answers. -/
def OutI (ob b : Nat) (F : Nat → List Int) (k : Nat) (W : World) : Prop := ∃ B0 c0 B1 c1, Blk W ob #[if 0 < k then .slice B0 (F 0).length c0 else .slice none 0 0, if 1 < k then .slice B1 (F 1).length c1 else .slice none 0 0] ∧
  (0 < k → Cells W B0 (F 0) ∧ ∀ p, B0 = some p → b ≤ p.block) ∧ (1 < k → Cells W B1 (F 1) ∧ ∀ p, B1 = some p → b ≤ p.block)
theorem OutI.own {ob b : Nat} {F : Nat → List Int} {n : Nat} (h : ob < n) : OwnFrom n (fun (pre : List Nat) W => OutI ob b F pre.length W) := by
  rintro pre X Y row ⟨B0, c0, B1, c1, h1, h2, h3⟩ hg hrow
  refine ⟨B0, c0, B1, c1, h1.of_block (hg.block ob h1.lt (fun e => by have := (hrow ob e.symm).1; omega)), fun q => ⟨cells_grown (h2 q).1 hg (fun r e => (hrow r e).2), (h2 q).2⟩, fun q => ⟨cells_grown (h3 q).1 hg (fun r e => (hrow r e).2), (h3 q).2⟩⟩
theorem pre_of {pre : List Nat} {x : Nat} (h : ∃ post, List.range 2 = pre ++ x :: post) : (pre = [] ∧ x = 0) ∨ (pre = [0] ∧ x = 1) := by
  obtain ⟨post, h⟩ := h
  have h' : ([0, 1] : List Nat) = pre ++ x :: post := h
  match pre, h' with
  | [], h' => injection h' with h1 _; exact .inl ⟨rfl, h1.symm⟩
  | [y], h' => injection h' with h1 h2; injection h2 with h3 _; subst h1; exact .inr ⟨rfl, h3.symm⟩
  | y :: z :: r, h' =>
    have := congrArg List.length h'
    simp at this
set_option maxRecDepth 100000 in
set_option maxHeartbeats 4000000 in
theorem Answers_ok (h : List Int) (e : Nat) (he : e ≤ 6) (A0 : Option Addr) (c0 N : Nat) (w : World) (hN : N = h.length) (hN5 : N ≤ 256) (hh : lvls h) (hC0 : Cells w A0 h) (hl0 : lvls (conv h (gol e).1)) (hl1 : lvls (conv h (gol e).2)) :
    Calls Try.prog 6 #[.slice A0 N c0, (.int .i64 (((2 ^ e : Nat) : Int)))] w fun r w' => ∃ u v, r = .returned (.tuple #[u, v, (.int .i64 0)]) ∧ FS w.heap.size (conv h (gol e).1) u w' ∧ FS w.heap.size (conv h (gol e).2) v w' ∧ Below w.heap.size w w' := by
  have hfn : ∀ f, Fence.wide.fn f = True := fun _ => rfl
  obtain ⟨g1, g2⟩ := gol_len e
  obtain ⟨m1, m2⟩ := gol_pm e
  have hp64 := pow_le_64 he
  have HP := Lib.hid (fun W => cPair_any e he W)
  have hlv1 : lvls (gol e).1 := fun x hx => by have := m1 x hx; omega
  have hlv2 : lvls (gol e).2 := fun x hx => by have := m2 x hx; omega
  obtain ⟨M, hM⟩ : ∃ M, M = 2 ^ e := ⟨_, rfl⟩
  obtain ⟨P0, hP0⟩ : ∃ P0, P0 = (gol e).1 := ⟨_, rfl⟩
  obtain ⟨P1, hP1⟩ : ∃ P1, P1 = (gol e).2 := ⟨_, rfl⟩
  rw [← hM, ← hP0, ← hP1] at HP
  rw [← hP0, ← hM] at g1
  rw [← hP1, ← hM] at g2
  rw [← hP0] at hl0 hlv1
  rw [← hP1] at hl1 hlv2
  rw [← hM] at hp64
  rw [← hM, ← hP0, ← hP1]
  have hNL : (conv h P0).length ≤ 400 ∧ (conv h P1).length ≤ 400 := by rw [conv_len, conv_len]; constructor <;> split <;> omega
  obtain ⟨F, hF⟩ : ∃ F, F = ansF h P0 P1 := ⟨_, rfl⟩
  have hF0 : F 0 = conv h P0 := by rw [hF]; rfl
  have hF1 : F 1 = conv h P1 := by rw [hF]; rfl
  have HIT : Hid (∀ (W : World) (A1 A2 : Option Addr) (c1 c2 Pb Hb sb m : Nat), Cells W A0 h → Cells W A1 P0 → Cells W A2 P1 → Blk W Pb #[.slice A1 M c1, .slice A2 M c2] → Blk W Hb #[.slice A0 N c0] → (0 < h.length → Off sb A0) → (0 < P0.length → Off sb A1) → (0 < P1.length → Off sb A2) → Pb ≠ sb → Hb ≠ sb → W.heap.size ≤ Pb + 1 → 1 ≤ m →
      IterR Fence.wide m Try.prog 74 #[.pointer (some ⟨Pb, 0, none⟩), .pointer (some ⟨Hb, 0, none⟩)] 2 (AnsR W.heap.size F) (List.range 2) (Rest sb W.heap.size) W) := Lib.hid (fun W A1 A2 c1 c2 Pb Hb sb m q0 q1 q2 kP kH o0 o1 o2 oP oH hz hm => by
    rw [hF]; exact answers1_iter h P0 P1 A0 A1 A2 N M c0 c1 c2 Pb Hb sb W m hN g1.symm g2.symm (by omega) (by omega) hh hlv1 hlv2 q0 q1 q2 kP kH o0 o1 o2 oP oH hz hm)
  have HCR : Hid (∀ W, Cells W A0 h → Calls Try.prog 28 #[.slice A0 N c0] W fun r w' => r = .returned (.int .i64 0) ∧ Below W.heap.size W w') := Lib.hid (fun W q => cResponse_ok h A0 c0 N W hN q hN5 hh)
  have HF2 : Hid (∀ (W : World), Calls Try.prog 27 #[.slice (some ⟨W.heap.size, 0, none⟩) 2 2] (W.alloc (.cells #[(.int .i64 0), (.int .i64 0)] 24)) fun r w' => r = .returned (.int .i64 0) ∧ (W.alloc (.cells #[(.int .i64 0), (.int .i64 0)] 24)) = w') := Lib.hid (fun W => cFirst_cells [0, 0] W (by simp))
  have HG1 := Lib.hid g1
  have HG2 := Lib.hid g2
  have HC0 := Lib.hid hC0
  have HLF : Hid (∀ x, x = 0 ∨ x = 1 → (F x).length ≤ 400 ∧ lvls (F x)) := Lib.hid (by rintro x (rfl | rfl); exact ⟨hF0 ▸ hNL.1, hF0 ▸ hl0⟩; exact ⟨hF1 ▸ hNL.2, hF1 ▸ hl1⟩)
  have HF0 := Lib.hid hF0
  have HF1 := Lib.hid hF1
  clear hN hh hC0 hl0 hl1 hlv1 hlv2 m1 m2 hM hP0 hP1 g1 g2 hNL hF hF0 hF1 he
  refine (callsIn_wide (n := 10)).1 ?_
  refine callsIn_of_wp_marks Try.func6 rfl trivial ?_ rfl
  simp only [Try.ntmps6, List.size_toArray, List.length_cons, List.length_nil, Nat.reduceAdd, Nat.reduceSub, Array.replicate_succ, Array.replicate_zero, List.push_toArray, List.append_toArray, List.nil_append, List.cons_append]
  gi_wp2_with (gi_at_call 26; refine callsIn_wide.2 ?_; refine name_calls ?_; intro w1 e1; refine Hid.out ?_)
  unfold Hid
  have h1 : Below w.heap.size w w1 := by rw [e1]; exact bel
  have R4 : Blk w1 w.heap.size #[.slice none 0 0] := by rw [e1]; (repeat (first | ((with_reducible refine Blk.at_ ?_); focus (first | rfl | (simp; done) | (simp; omega))) | (with_reducible refine Blk.alloc ?_ _) | (with_reducible refine Blk.below ?_ (by with_reducible assumption)) | (with_reducible refine Blk.drew ?_)))
  have R5 : Blk w1 (w.heap.size + 1) #[.slice none 0 0] := by rw [e1]; (repeat (first | ((with_reducible refine Blk.at_ ?_); focus (first | rfl | (simp; done) | (simp; omega))) | (with_reducible refine Blk.alloc ?_ _) | (with_reducible refine Blk.below ?_ (by with_reducible assumption)) | (with_reducible refine Blk.drew ?_)))
  have R6 : Blk w1 (w.heap.size + 2) #[(.int .i64 0)] := by rw [e1]; (repeat (first | ((with_reducible refine Blk.at_ ?_); focus (first | rfl | (simp; done) | (simp; omega))) | (with_reducible refine Blk.alloc ?_ _) | (with_reducible refine Blk.below ?_ (by with_reducible assumption)) | (with_reducible refine Blk.drew ?_)))
  have HB1 := Lib.hid h1
  have HR1 := Lib.hid (show Blk w1 w.heap.size #[.slice none 0 0] ∧ Blk w1 (w.heap.size + 1) #[.slice none 0 0] ∧ Blk w1 (w.heap.size + 2) #[(.int .i64 0)] from ⟨R4, R5, R6⟩)
  have hz1 : w.heap.size + 2 < w1.heap.size := R6.lt
  clear e1 h1 R4 R5 R6
  refine (HP.out w1).mono ?_
  rintro r w2 ⟨u, v, rfl, ⟨A1, a1, rfl, hA1, f1⟩, ⟨A2, a2, rfl, hA2, f2⟩, h2⟩
  have HB2 := Lib.hid (HB1.out.trans (h2.mono HB1.out.size))
  have HR2 := Lib.hid (show Blk w2 w.heap.size #[.slice none 0 0] ∧ Blk w2 (w.heap.size + 1) #[.slice none 0 0] ∧ Blk w2 (w.heap.size + 2) #[(.int .i64 0)] from ⟨HR1.out.1.below h2, HR1.out.2.1.below h2, HR1.out.2.2.below h2⟩)
  have HC1 := Lib.hid hA1
  have HC2 := Lib.hid hA2
  have hz2 : w.heap.size + 2 < w2.heap.size := HR2.out.2.2.lt
  rw [HG1.out, HG2.out]
  clear h2 hA1 hA2 f1 f2 HP
  gi_wp2_with (gi_at_call 28; refine callsIn_wide.2 ?_; refine name_calls ?_; intro w3 e3; refine Hid.out ?_)
  unfold Hid
  have h3 : Below w2.heap.size w2 w3 := by rw [e3]; exact bel
  have K7 : Blk w3 w2.heap.size #[.slice A1 M a1, .slice A2 M a2] := by rw [e3]; (repeat (first | ((with_reducible refine Blk.at_ ?_); focus (first | rfl | (simp; done) | (simp; omega))) | (with_reducible refine Blk.alloc ?_ _) | (with_reducible refine Blk.below ?_ (by with_reducible assumption)) | (with_reducible refine Blk.drew ?_)))
  have HB3 := Lib.hid (HB2.out.trans (h3.mono HB2.out.size))
  have HR3 := Lib.hid (show Blk w3 w.heap.size #[.slice none 0 0] ∧ Blk w3 (w.heap.size + 1) #[.slice none 0 0] ∧ Blk w3 (w.heap.size + 2) #[(.int .i64 0)] from ⟨HR2.out.1.below h3, HR2.out.2.1.below h3, HR2.out.2.2.below h3⟩)
  have HC13 := Lib.hid (HC1.out.below h3)
  have HC23 := Lib.hid (HC2.out.below h3)
  clear e3 h3
  refine (HCR.out w3 (HC0.out.below HB3.out)).mono ?_
  rintro r w4 ⟨rfl, h4⟩
  have HB4 := Lib.hid (HB3.out.trans (h4.mono HB3.out.size))
  have HR4 := Lib.hid (show Blk w4 w.heap.size #[.slice none 0 0] ∧ Blk w4 (w.heap.size + 1) #[.slice none 0 0] ∧ Blk w4 (w.heap.size + 2) #[(.int .i64 0)] from ⟨HR3.out.1.below h4, HR3.out.2.1.below h4, HR3.out.2.2.below h4⟩)
  have K74 := K7.below h4
  have HC14 := Lib.hid (HC13.out.below h4)
  have HC24 := Lib.hid (HC23.out.below h4)
  have HK7 := Lib.hid K74
  obtain ⟨s0, s1, sl, sf⟩ := K74.o2
  clear h4 K7 K74
  gi_wp2_with (gi_at_call 27; refine (callsIn_wide.2 (HF2.out _)).mono ?_; rintro r w5 ⟨rfl, rfl⟩; refine Hid.out ?_)
  unfold Hid
  gi_wp2_with (gi_at_call 29; refine callsIn_wide.2 ?_; refine name_calls ?_; intro w6 e6; refine Hid.out ?_)
  unfold Hid
  have h6 : Below w4.heap.size w4 w6 := by rw [e6]; exact bel
  have KO : Blk w6 (w4.heap.size + 1) #[.slice none 0 0, .slice none 0 0] := by rw [e6]; (repeat (first | ((with_reducible refine Blk.at_ ?_); focus (first | rfl | (simp; done) | (simp; omega))) | (with_reducible refine Blk.alloc ?_ _) | (with_reducible refine Blk.below ?_ (by with_reducible assumption)) | (with_reducible refine Blk.drew ?_)))
  have HB6 := Lib.hid (HB4.out.trans (h6.mono HB4.out.size))
  have HR6 := Lib.hid (show Blk w6 w.heap.size #[.slice none 0 0] ∧ Blk w6 (w.heap.size + 1) #[.slice none 0 0] ∧ Blk w6 (w.heap.size + 2) #[(.int .i64 0)] from ⟨HR4.out.1.below h6, HR4.out.2.1.below h6, HR4.out.2.2.below h6⟩)
  have HC16 := Lib.hid (HC14.out.below h6)
  have HC26 := Lib.hid (HC24.out.below h6)
  have HKO := Lib.hid KO
  have hz4 : w2.heap.size < w4.heap.size := HK7.out.lt
  obtain ⟨ob, hob⟩ : ∃ ob, ob = w4.heap.size + 1 := ⟨_, rfl⟩
  rw [← hob] at HKO ⊢
  have O0 : Hid (0 < h.length → Off ob A0) := Lib.hid (HC0.out.off (by have := HB4.out.size; omega))
  have O1 : Hid (0 < P0.length → Off ob A1) := Lib.hid (HC14.out.off (by omega))
  have O2 : Hid (0 < P1.length → Off ob A2) := Lib.hid (HC24.out.off (by omega))
  have HOB := Lib.hid hob
  have hob4 : w4.heap.size < ob := by omega
  clear e6 h6 KO s0 s1 sl sf hob
  refine (answers_any A0 A1 A2 N M M c0 a1 a2 w6).mono ?_
  rintro r w7 ⟨rfl, h7, kH, kP, hz7⟩
  have HB7 := Lib.hid (HB6.out.trans (h7.mono HB6.out.size))
  have HR7 := Lib.hid (show Blk w7 w.heap.size #[.slice none 0 0] ∧ Blk w7 (w.heap.size + 1) #[.slice none 0 0] ∧ Blk w7 (w.heap.size + 2) #[(.int .i64 0)] from ⟨HR6.out.1.below h7, HR6.out.2.1.below h7, HR6.out.2.2.below h7⟩)
  have HKO7 := Lib.hid (HKO.out.below h7)
  have hol : ob < w6.heap.size := HKO.out.lt
  have hO7 : ob < w7.heap.size := by omega
  have HIT7 := Lib.hid (HIT.out w7 A1 A2 a1 a2 (w6.heap.size + 1) w6.heap.size ob (10 - 1) (HC0.out.below HB7.out) (HC16.out.below h7) (HC26.out.below h7) kP kH O0.out O1.out O2.out (by omega) (by omega) (by omega) (by decide))
  have hz67 : w.heap.size + 2 < ob := by omega
  clear h7 kH kP HIT
  gi_wp2
  have hIO : OwnFrom w7.heap.size (fun (pre : List Nat) W => OutI ob w7.heap.size F pre.length W ∧ But ob w7 W) := OwnFrom.and (OutI.own hO7) (but_own w7 ob)
  have HIO := Lib.hid hIO
  refine range_iterR (F := Fence.wide) (n := 10) rfl (by decide) (gf := 74) (lb := #[.pointer (some ⟨w6.heap.size + 1, 0, none⟩), .pointer (some ⟨w6.heap.size, 0, none⟩)]) rfl trivial (enters_of Try.func74 (by kernel_rfl) rfl)
    (all := List.range 2) (R := AnsR w7.heap.size F) (C := Rest ob w7.heap.size) (fun k hk => hk.1) HIT7.out
    _ hIO ⟨⟨none, 0, none, 0, HKO7.out, (fun h => by cases h), (fun h => by cases h)⟩, But.refl _ _⟩
    (fun (pre : List Nat) (x : Nat) (a' : Act) (W : World) => (OutI ob w7.heap.size F pre.length W ∧ But ob w7 W) ∧ ∃ B c, Cells W B (F x) ∧ (∀ p, B = some p → w7.heap.size ≤ p.block) ∧ a' = { tmps := #[.slice A0 N c0, (.int .i64 ((M : Int))), undef, undef, .pointer (some ⟨w.heap.size, 0, none⟩), .pointer (some ⟨w.heap.size + 1, 0, none⟩), .pointer (some ⟨w.heap.size + 1 + 1, 0, none⟩), .pointer (some ⟨w2.heap.size, 0, none⟩), (.int .i64 0), (.int .i64 0), .pointer (some ⟨ob, 0, none⟩), (.int .i64 ((x : Int))), .slice B (F x).length c, .tuple #[.agg #[.slice A1 M a1, .slice A2 M a2], (.int .i64 0)], (.int .i64 ((M : Int))), .tuple #[.agg #[.slice A1 M a1, .slice A2 M a2], (.int .i64 0)], .agg #[.slice A1 M a1, .slice A2 M a2], (.int .i64 0), .slice A0 N c0, (.int .i64 0), (.int .i64 0), .slice (some ⟨w4.heap.size, 0, none⟩) 2 2, (.int .i64 0), (.int .i64 0), .bool false, undef, .slice A0 N c0, .agg #[.slice A1 M a1, .slice A2 M a2], .func (.func 74) #[] #[.pointer (some ⟨w6.heap.size + 1, 0, none⟩), .pointer (some ⟨w6.heap.size, 0, none⟩)], (.int .i64 ((x : Int))), .slice B (F x).length c, undef, undef, undef, undef, undef, undef, undef, undef, undef, undef, undef], defers := [] })
    ?hax ?assign ?body ?done
  case hax =>
    rintro pre x a' u X Y row ⟨hi, B, c, h1, h2, h3⟩ hg hrow
    exact ⟨HIO.out pre X Y row hi hg hrow, B, c, cells_grown h1 hg (fun r e => (hrow r e).2), h2, h3⟩
  case assign =>
    rintro r pre x v W hi hpost hsz hcb hvs ⟨B, c, rfl, hC, hne⟩
    have hsem : ∀ (ρ : Operand → Value) (o : Oper), (∀ c, o.op ≠ .defer c) → Oper.semAt (some r) ρ o = execOp ρ o := Oper.semAt_some r
    have HI := Lib.hid hi
    have HCX := Lib.hid hC
    clear hi hIO hcb hC
    gi_wp2
    exact ⟨Same.refl _ _, HI.out, B, c, HCX.out, hne, rfl⟩
  case body =>
    rintro r pre x a' W ⟨⟨hout, hbut⟩, B, c, hC, hne, rfl⟩ hpost hsz hcb
    have hsem : ∀ (ρ : Operand → Value) (o : Oper), (∀ c, o.op ≠ .defer c) → Oper.semAt (some r) ρ o = execOp ρ o := Oper.semAt_some r
    clear hIO
    rcases pre_of hpost with ⟨rfl, rfl⟩ | ⟨rfl, rfl⟩
    · have ek : ((0 : Nat) : Int) = 0 := rfl
      rw [ek]
      obtain ⟨hl4, hlv⟩ := HLF.out 0 (by decide)
      have HCX := Lib.hid hC
      have HBUT := Lib.hid hbut
      obtain ⟨B0, d0, B1, d1, KB, q0, q1⟩ := hout
      have HKB := Lib.hid KB
      have HQ0 := Lib.hid q0
      obtain ⟨L, hL⟩ : ∃ L, L = (F 0).length := ⟨_, rfl⟩
      have HLE := Lib.hid hL
      have HML : Hid (∀ W, Cells W B (F 0) → Calls Try.prog 30 #[.slice B L c, .func (.func 31) #[] #[]] W fun r w' => (∃ B' d, r = .returned (.slice B' L d) ∧ Cells w' B' ((F 0).map fun n => rangeErr n (-1048576) 1048576)) ∧ Below W.heap.size W w') := Lib.hid (fun W q => by rw [hL]; exact cMapLev_any B (F 0) c W q (by omega))
      have HF : Hid (∀ W B' d, Cells W B' ((F 0).map fun n => rangeErr n (-1048576) 1048576) → Calls Try.prog 27 #[.slice B' L d] W fun r w' => r = .returned (.int .i64 0) ∧ W = w') := Lib.hid (fun W B' d q => by
        have e : L = ((F 0).map fun n => rangeErr n (-1048576) 1048576).length := by simp [hL]
        have := cFirst_any _ B' d W (by rw [← e]; omega) q
        rwa [lvls_first hlv, ← e] at this)
      have hobW : ob < W.heap.size := KB.lt
      rw [← hL]
      clear hC hbut KB q0 q1 hL hlv hpost hcb
      gi_wp2_with (gi_at_call 30; refine CallsIn.inRound _ (callsIn_wide.2 ?_); refine (HML.out _ HCX.out).mono ?_; rintro r8 w8 ⟨⟨B', d, rfl, hc8⟩, h8⟩; refine Hid.out ?_)
      unfold Hid
      gi_wp2_with (gi_at_call 27; refine CallsIn.inRound _ (callsIn_wide.2 ?_); refine (HF.out _ _ _ hc8).mono ?_; rintro r9 w9 ⟨rfl, rfl⟩; refine Hid.out ?_)
      unfold Hid
      have K8 := Lib.hid (HKB.out.below h8)
      have HB8 := Lib.hid h8
      have HCX8 := Lib.hid (HCX.out.below h8)
      obtain ⟨s0, s1, sl, sf⟩ := K8.out.o2
      clear h8 hc8
      gi_wp2
      have hne2 : ∀ p, B = some p → p.block ≠ ob := fun p hp => by have := hne p hp; omega
      refine ⟨fun j o hj ho => ?_, ⟨?out, ?but⟩⟩
      · have hj1 := (Array.getElem?_eq_some_iff.1 ho).1
        have hj2 : j ≠ ob := by
          rcases hj with hj | rfl | rfl
          · exact hj.2
          · omega
          · omega
        rw [Below.heap_setCell _ _ _ _ hj2, HB8.out.block j hj1]
        exact ho
      case but => exact (HBUT.out.trans (But.of HB8.out)).trans (But.put _ 0 _)
      case out =>
        refine ⟨B, c, none, 0, ?_, fun _ => ⟨HCX8.out.but hne2 (But.put _ 0 _), hne⟩, fun h => absurd h (by simp)⟩
        have := K8.out.set (i := 0) (by simp) (.slice B L c)
        rw [← HLE.out]
        simpa using this
    · have ek : ((1 : Nat) : Int) = 1 := rfl
      rw [ek]
      obtain ⟨hl4, hlv⟩ := HLF.out 1 (by decide)
      have HCX := Lib.hid hC
      have HBUT := Lib.hid hbut
      obtain ⟨B0, d0, B1, d1, KB, q0, q1⟩ := hout
      have HKB := Lib.hid KB
      have HQ0 := Lib.hid q0
      obtain ⟨L, hL⟩ : ∃ L, L = (F 1).length := ⟨_, rfl⟩
      have HLE := Lib.hid hL
      have HML : Hid (∀ W, Cells W B (F 1) → Calls Try.prog 30 #[.slice B L c, .func (.func 31) #[] #[]] W fun r w' => (∃ B' d, r = .returned (.slice B' L d) ∧ Cells w' B' ((F 1).map fun n => rangeErr n (-1048576) 1048576)) ∧ Below W.heap.size W w') := Lib.hid (fun W q => by rw [hL]; exact cMapLev_any B (F 1) c W q (by omega))
      have HF : Hid (∀ W B' d, Cells W B' ((F 1).map fun n => rangeErr n (-1048576) 1048576) → Calls Try.prog 27 #[.slice B' L d] W fun r w' => r = .returned (.int .i64 0) ∧ W = w') := Lib.hid (fun W B' d q => by
        have e : L = ((F 1).map fun n => rangeErr n (-1048576) 1048576).length := by simp [hL]
        have := cFirst_any _ B' d W (by rw [← e]; omega) q
        rwa [lvls_first hlv, ← e] at this)
      have hobW : ob < W.heap.size := KB.lt
      rw [← hL]
      clear hC hbut KB q0 q1 hL hlv hpost hcb
      gi_wp2_with (gi_at_call 30; refine CallsIn.inRound _ (callsIn_wide.2 ?_); refine (HML.out _ HCX.out).mono ?_; rintro r8 w8 ⟨⟨B', d, rfl, hc8⟩, h8⟩; refine Hid.out ?_)
      unfold Hid
      gi_wp2_with (gi_at_call 27; refine CallsIn.inRound _ (callsIn_wide.2 ?_); refine (HF.out _ _ _ hc8).mono ?_; rintro r9 w9 ⟨rfl, rfl⟩; refine Hid.out ?_)
      unfold Hid
      have K8 := Lib.hid (HKB.out.below h8)
      have HB8 := Lib.hid h8
      have HCX8 := Lib.hid (HCX.out.below h8)
      obtain ⟨s0, s1, sl, sf⟩ := K8.out.o2
      clear h8 hc8
      gi_wp2
      have hne2 : ∀ p, B = some p → p.block ≠ ob := fun p hp => by have := hne p hp; omega
      refine ⟨fun j o hj ho => ?_, ⟨?out, ?but⟩⟩
      · have hj1 := (Array.getElem?_eq_some_iff.1 ho).1
        have hj2 : j ≠ ob := by
          rcases hj with hj | rfl | rfl
          · exact hj.2
          · omega
          · omega
        rw [Below.heap_setCell _ _ _ _ hj2, HB8.out.block j hj1]
        exact ho
      case but => exact (HBUT.out.trans (But.of HB8.out)).trans (But.put _ 1 _)
      case out =>
        obtain ⟨e0, e1⟩ := HQ0.out (by simp)
        have hne0 : ∀ p, B0 = some p → p.block ≠ ob := fun p hp => by have := e1 p hp; omega
        refine ⟨B0, d0, B, c, ?_, fun _ => ⟨(e0.below HB8.out).but hne0 (But.put _ 1 _), e1⟩, fun _ => ⟨HCX8.out.but hne2 (But.put _ 1 _), hne⟩⟩
        have := K8.out.set (i := 1) (by simp) (.slice B L c)
        rw [← HLE.out]
        simpa using this
  case done =>
    rintro W ⟨hout, hbut⟩ hdef
    obtain ⟨B0, d0, B1, d1, KB, q0, q1⟩ := hout
    obtain ⟨e0, n0⟩ := q0 (by decide)
    obtain ⟨e1, n1⟩ := q1 (by decide)
    have KB' : Blk W ob #[.slice B0 (F 0).length d0, .slice B1 (F 1).length d1] := by simpa using KB
    have R4 := blk_but HR7.out.1 (by omega) hbut
    have R5 := blk_but HR7.out.2.1 (by omega) hbut
    have R6 := blk_but HR7.out.2.2 (by omega) hbut
    have HE0 := Lib.hid e0
    have HE1 := Lib.hid e1
    have HR4' := Lib.hid R4
    have HR5' := Lib.hid R5
    have HR6' := Lib.hid R6
    have HBT := Lib.hid hbut
    have HDEF := Lib.hid hdef
    have hDl := (Array.getElem?_eq_some_iff.1 hdef).1
    obtain ⟨k0, k1, kl, kf⟩ := KB'.o2
    obtain ⟨x4, x4l, x4f⟩ := R4.o1
    obtain ⟨x5, x5l, x5f⟩ := R5.o1
    obtain ⟨x6, x6l, x6f⟩ := R6.o1
    clear KB q0 q1 e0 e1 KB' R4 R5 R6 hbut hdef hIO
    gi_wp2
    refine wpIn_wide.2 ?_
    go_region
    gi_wp2
    obtain ⟨W8, hW8⟩ : ∃ W8, W8 = (((W.setCell ⟨w.heap.size, 0, none⟩ (.slice B0 (F 0).length d0)).setCell ⟨w.heap.size + 1, 0, none⟩ (.slice B1 (F 1).length d1)).setCell ⟨w.heap.size + 1 + 1, 0, none⟩ (.int .i64 0)).drew := ⟨_, rfl⟩
    rw [← hW8]
    have hbl : ∀ k, k ≠ w.heap.size → k ≠ w.heap.size + 1 → k ≠ w.heap.size + 1 + 1 → W8.heap[k]? = W.heap[k]? := fun k z1 z2 z3 => by
      rw [hW8]
      show ((((W.setCell _ _).setCell _ _).setCell _ _).heap[k]?) = _
      rw [Below.heap_setCell _ _ _ _ z3, Below.heap_setCell _ _ _ _ z2, Below.heap_setCell _ _ _ _ z1]
    have Z4 : Blk W8 w.heap.size #[.slice B0 (F 0).length d0] := by
      rw [hW8]
      exact Blk.drew (((HR4'.out.set (i := 0) (by simp) _).far (by simp) _).far (by simp; omega) _)
    have Z5 : Blk W8 (w.heap.size + 1) #[.slice B1 (F 1).length d1] := by
      rw [hW8]
      exact Blk.drew (((HR5'.out.far (by simp) _).set (i := 0) (by simp) _).far (by simp) _)
    have Z6 : Blk W8 (w.heap.size + 2) #[(.int .i64 0)] := by
      rw [hW8]
      exact Blk.drew (((HR6'.out.far (by simp) _).far (by simp) _).set (i := 0) (by simp) _)
    have D8 : W8.heap[w7.heap.size]? = some (.deferred (some [])) := by rw [hbl _ (by omega) (by omega) (by omega)]; exact HDEF.out
    have C0' : Cells W8 B0 (F 0) := HE0.out.of_blocks (fun p hp => hbl _ (by have := n0 p hp; omega) (by have := n0 p hp; omega) (by have := n0 p hp; omega))
    have C1' : Cells W8 B1 (F 1) := HE1.out.of_blocks (fun p hp => hbl _ (by have := n1 p hp; omega) (by have := n1 p hp; omega) (by have := n1 p hp; omega))
    have B8 : Below w.heap.size w W8 := by
      rw [hW8]
      exact ((((HB7.out.trans (HBT.out.below (B := w.heap.size) (by omega) (by omega))).setCell (by simp) _).setCell (by simp) _).setCell (by simp; omega) _).drew
    clear hW8 k0 k1 kl kf x4 x4l x4f x5 x5l x5f x6 x6l x6f
    refine ⟨by simp, .inl ⟨_, _, rfl, run_takeDeferred D8, ?_⟩⟩
    have hpo : ∀ k, k ≠ w7.heap.size → (W8.putObj w7.heap.size (.deferred none)).heap[k]? = W8.heap[k]? := fun k hk => World.putObj_heap_other (by omega)
    have Y4 := Z4.of_block (hpo _ (by omega))
    have Y5 := Z5.of_block (hpo _ (by omega))
    have Y6 := Z6.of_block (hpo _ (by omega))
    have B9 := B8.trans (belowK_b (w := w) (Nat.le_refl _) W8 w7.heap.size (.deferred (some [])) (.deferred none) (by omega) D8 rfl rfl)
    have hnd : ∀ (B : Option Addr) (l : List Int), Cells W8 B l → (∀ p, B = some p → w7.heap.size ≤ p.block) → Cells (W8.putObj w7.heap.size (.deferred none)) B l := fun B l hc hn h0 => by
      obtain ⟨b, off, rfl, hl, hcc⟩ := hc h0
      have hbn : b ≠ w7.heap.size := fun e => by
        have := hcc 0 h0
        unfold World.cell? at this
        rw [show (⟨b, off + 0, none⟩ : Addr).block = w7.heap.size from e, D8] at this
        cases this
      exact ⟨b, off, rfl, by simpa using hl, fun k hk => (World.cell?_of_block (w := W8) (a := ⟨b, off + k, none⟩) (hpo b hbn)).trans (hcc k hk)⟩
    have C0'' := hnd _ _ C0' n0
    have C1'' := hnd _ _ C1' n1
    obtain ⟨u4, -, -⟩ := Y4.o1
    obtain ⟨u5, -, -⟩ := Y5.o1
    obtain ⟨u6, -, -⟩ := Y6.o1
    refine ⟨.tuple #[.slice B0 (F 0).length d0, .slice B1 (F 1).length d1, (.int .i64 0)], ?_, _, _, rfl, ?_, ?_, B9⟩
    · simp [results, Try.results6, go_sem, u4, u5, u6]
    · rw [← HF0.out]; exact ⟨B0, d0, rfl, C0'', fun p hp => by have := n0 p hp; omega⟩
    · rw [← HF1.out]; exact ⟨B1, d1, rfl, C1'', fun p hp => by have := n1 p hp; omega⟩
end Go.Proofs.Ytamldoidalnloaa
