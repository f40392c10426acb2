/- Part 7 of the texts of the claim: Tc9, Tc10, Tc12. -/
import Derived.Test.YtamldoidalnloaaMc6
import Derived.Test.YtamldoidalnloaaMc4
import Derived.Test.YtamldoidalnloaaMc3

/- chamber's sums. -/
namespace Go.Proofs.Ytamldoidalnloaa
open Go.RowKit
open Calm (bcell Blk)
/-- the sum at j of two answers with a pair, as far as the first i elements. -/
def smAt (p0 p1 a b : List Int) (j : Nat) : Nat → Int
  | 0 => 0
  | i + 1 => smAt p0 p1 a b j i + (p0.getD i 0 * a.getD (i + j) 0 + p1.getD i 0 * b.getD (i + j) 0)
def smL (p0 p1 a b : List Int) (n k : Nat) : List Int := (List.range k).map fun j => smAt p0 p1 a b j n
def pms (l : List Int) : Prop := ∀ k, -1 ≤ l.getD k 0 ∧ l.getD k 0 ≤ 1
theorem pms_of {l : List Int} (h : ∀ x ∈ l, x = 1 ∨ x = -1) : pms l := fun k => by
  rcases Nat.lt_or_ge k l.length with hk | hk
  · rw [List.getD_eq_getElem?_getD, List.getElem?_eq_getElem hk]
    have := h _ (List.getElem_mem hk)
    show -1 ≤ l[k] ∧ l[k] ≤ 1
    omega
  · rw [List.getD_eq_getElem?_getD, List.getElem?_eq_none hk]
    exact ⟨by decide, by decide⟩
theorem pm_bd {x y : Int} (hx : -1 ≤ x ∧ x ≤ 1) (hy : -1048576 ≤ y ∧ y ≤ 1048576) : -1048576 ≤ x * y ∧ x * y ≤ 1048576 := by
  rcases (by omega : x = -1 ∨ x = 0 ∨ x = 1) with rfl | rfl | rfl <;> omega
theorem smAt_bd {p0 p1 a b : List Int} (h0 : pms p0) (h1 : pms p1) (ha : lvls a) (hb : lvls b) (j : Nat) : ∀ i : Nat, -2097152 * (i : Int) ≤ smAt p0 p1 a b j i ∧ smAt p0 p1 a b j i ≤ 2097152 * (i : Int)
  | 0 => by simp [smAt]
  | i + 1 => by
    have q := smAt_bd h0 h1 ha hb j i
    have q0 := pm_bd (h0 i) (lvl_get ha (i + j))
    have q1 := pm_bd (h1 i) (lvl_get hb (i + j))
    simp only [smAt]
    omega
theorem smL_len (p0 p1 a b : List Int) (n k : Nat) : (smL p0 p1 a b n k).length = k := by simp [smL]
theorem smL_succ (p0 p1 a b : List Int) (n k : Nat) : smL p0 p1 a b n (k + 1) = smL p0 p1 a b n k ++ [smAt p0 p1 a b k n] := by simp [smL, List.range_succ]
set_option maxRecDepth 100000 in
set_option maxHeartbeats 8000000 in
theorem sums_ok (a b : List Int) (e : Nat) (he : e ≤ 6) (A B : Option Addr) (ca cb L : Nat) (w : World) (hLa : L = a.length) (hLb : L = b.length) (hL1 : 2 ^ e ≤ L) (hL2 : L ≤ 2 ^ e + 255) (ha : lvls a) (hb : lvls b) (hA : Cells w A a) (hB : Cells w B b) :
    Calls Try.prog 32 #[.slice A L ca, .slice B L cb, (.int .i64 (((2 ^ e : Nat) : Int)))] w fun r w' => ∃ s u v, r = .returned (.tuple #[s, .agg #[u, v], (.int .i64 0)]) ∧ FS w.heap.size (smL (gol e).1 (gol e).2 a b (2 ^ e) (L - 2 ^ e + 1)) s w' ∧ FS w.heap.size (gol e).1 u w' ∧ FS w.heap.size (gol e).2 v w' ∧ Below w.heap.size w w' := by
  obtain ⟨g1, g2⟩ := gol_len e
  obtain ⟨m1, m2⟩ := gol_pm e
  have hp64 := pow_le_64 he
  have HP := Lib.hid (fun W => cPair_any e he W)
  have hpm1 := pms_of m1
  have hpm2 := pms_of m2
  obtain ⟨M, hM⟩ : ∃ M, M = 2 ^ e := ⟨_, rfl⟩
  obtain ⟨P0, hP0⟩ : ∃ P0, P0 = (gol e).1 := ⟨_, rfl⟩
  obtain ⟨P1, hP1⟩ : ∃ P1, P1 = (gol e).2 := ⟨_, rfl⟩
  rw [← hM, ← hP0, ← hP1] at HP
  rw [← hP0, ← hM] at g1
  rw [← hP1, ← hM] at g2
  rw [← hP0] at hpm1
  rw [← hP1] at hpm2
  rw [← hM] at hp64 hL1 hL2
  rw [← hM, ← hP0, ← hP1]
  have HSB := Lib.hid (fun j i => smAt_bd hpm1 hpm2 ha hb j i)
  have HPB1 := Lib.hid hpm1
  have HPB2 := Lib.hid hpm2
  have HAB := Lib.hid (fun k => lvl_get ha k)
  have HBB := Lib.hid (fun k => lvl_get hb k)
  have HSA : Hid (∀ W, Cells W A a → Calls Try.prog 54 #[.slice A L ca] W fun r w' => r = .returned (.int .i64 0) ∧ Below W.heap.size W w') := Lib.hid (fun W q => gSequence_ok a A ca L W hLa q (by omega) ha)
  have HSBB : Hid (∀ W, Cells W B b → Calls Try.prog 54 #[.slice B L cb] W fun r w' => r = .returned (.int .i64 0) ∧ Below W.heap.size W w') := Lib.hid (fun W q => gSequence_ok b B cb L W hLb q (by omega) hb)
  have HF5 : Hid (∀ (W : World), Calls Try.prog 27 #[.slice (some ⟨W.heap.size, 0, none⟩) 5 5] (W.alloc (.cells #[(.int .i64 0), (.int .i64 0), (.int .i64 0), (.int .i64 0), (.int .i64 0)] 24)) fun r w' => r = .returned (.int .i64 0) ∧ (W.alloc (.cells #[(.int .i64 0), (.int .i64 0), (.int .i64 0), (.int .i64 0), (.int .i64 0)] 24)) = w') := Lib.hid (fun W => cFirst_cells [0, 0, 0, 0, 0] W (by simp))
  have HG1 := Lib.hid g1
  have HG2 := Lib.hid g2
  have HLA := Lib.hid hLa
  have HLB := Lib.hid hLb
  have HA := Lib.hid hA
  have HB := Lib.hid hB
  obtain ⟨K, hK⟩ : ∃ K, K = L - M + 1 := ⟨_, rfl⟩
  rw [← hK]
  have hKi : (L : Int) - (M : Int) + 1 = (K : Int) := by omega
  have HK := Lib.hid hK
  have c1 : ((L : Int) != (L : Int)) = false := by simp
  have c2 : 0 < (L : Int) := by omega
  have c3 : decide ((L : Int) < (M : Int)) = false := decide_eq_false (by omega)
  have c4 : decide ((M : Int) + 256 - 1 < (L : Int)) = false := decide_eq_false (by omega)
  have c5 : ((L : Int) == 0) = false := by simp; omega
  clear ha hb hA hB hLa hLb hpm1 hpm2 m1 m2 g1 g2 hP0 hP1 hM hK
  go_enter Try.func32, Try.ntmps32
  go_wp2_with (go_at_call 26; refine name_calls ?_; intro w1 e1; refine Hid.out ?_)
  unfold Hid
  have h1 : Below w.heap.size w w1 := by rw [e1]; exact bel
  have R1 : Blk w1 w.heap.size #[.slice none 0 0, .slice none 0 0] := by rw [e1]; (repeat (first | ((with_reducible refine Blk.at_ ?_); focus (first | rfl | (simp; done) | (simp; omega))) | (with_reducible refine Blk.alloc ?_ _) | (with_reducible refine Blk.below ?_ (by with_reducible assumption)) | (with_reducible refine Blk.drew ?_)))
  refine (HP.out w1).mono ?_
  rintro r w2 ⟨u, v, rfl, ⟨A1, a1, rfl, hA1, f1⟩, ⟨A2, a2, rfl, hA2, f2⟩, h2⟩
  have HB2 := Lib.hid (h1.trans (h2.mono h1.size))
  have HR2 := Lib.hid (R1.below h2)
  have HC1 := Lib.hid hA1
  have HC2 := Lib.hid hA2
  have F1 : Hid (∀ p, A1 = some p → w.heap.size < p.block) := Lib.hid (fun p hp => by have := f1 p hp; have := R1.lt; omega)
  have F2 : Hid (∀ p, A2 = some p → w.heap.size < p.block) := Lib.hid (fun p hp => by have := f2 p hp; have := R1.lt; omega)
  rw [HG1.out, HG2.out]
  clear e1 h1 R1 h2 hA1 hA2 f1 f2 HP
  go_wp2_with (go_at_call 54; refine name_calls ?_; intro w3 e3; refine Hid.out ?_)
  unfold Hid
  have h3 : Below w2.heap.size w2 w3 := by rw [e3]; exact bel
  have K9 : Blk w3 w2.heap.size #[.slice A1 M a1, .slice A2 M a2] := by rw [e3]; (repeat (first | ((with_reducible refine Blk.at_ ?_); focus (first | rfl | (simp; done) | (simp; omega))) | (with_reducible refine Blk.alloc ?_ _) | (with_reducible refine Blk.below ?_ (by with_reducible assumption)) | (with_reducible refine Blk.drew ?_)))
  have HB3 := Lib.hid (HB2.out.trans (h3.mono HB2.out.size))
  have HR3 := Lib.hid (HR2.out.below h3)
  have HC13 := Lib.hid (HC1.out.below h3)
  have HC23 := Lib.hid (HC2.out.below h3)
  clear e3 h3
  refine (HSA.out w3 (HA.out.below HB3.out)).mono ?_
  rintro r w4 ⟨rfl, h4⟩
  have HB4 := Lib.hid (HB3.out.trans (h4.mono HB3.out.size))
  have HR4 := Lib.hid (HR3.out.below h4)
  have K94 := Lib.hid (K9.below h4)
  have HC14 := Lib.hid (HC13.out.below h4)
  have HC24 := Lib.hid (HC23.out.below h4)
  clear h4 K9
  go_wp2_with (go_at_call 54; refine (HSBB.out w4 (HB.out.below HB4.out)).mono ?_; rintro r w6 ⟨rfl, h6⟩; refine Hid.out ?_)
  unfold Hid
  have HB6 := Lib.hid (HB4.out.trans (h6.mono HB4.out.size))
  have HR6 := Lib.hid (HR4.out.below h6)
  have K96 := Lib.hid (K94.out.below h6)
  have HC16 := Lib.hid (HC14.out.below h6)
  have HC26 := Lib.hid (HC24.out.below h6)
  clear h6
  go_wp2_with (first
    | (go_at_call 37; refine (cWhen_any _ _ _).mono ?_; rintro r w' ⟨rfl, rfl⟩)
    | (go_at_call 27; refine (HF5.out _).mono ?_; rintro r wx ⟨rfl, rfl⟩; refine Hid.out ?_))
  unfold Hid
  go_wp2
  refine name_world ?_
  intro w7 e7
  have h7 : Below w6.heap.size w6 w7 := by rw [e7]; exact bel
  have HB7 := Lib.hid (HB6.out.trans (h7.mono HB6.out.size))
  have HR7 := Lib.hid (HR6.out.below h7)
  have K97 := Lib.hid (K96.out.below h7)
  have HC17 := Lib.hid (HC16.out.below h7)
  have HC27 := Lib.hid (HC26.out.below h7)
  have HA7 := Lib.hid (HA.out.below HB7.out)
  have HBB7 := Lib.hid (HB.out.below HB7.out)
  have hz2 : w.heap.size < w2.heap.size := HR2.out.lt
  have hz7 : w2.heap.size < w7.heap.size := K97.out.lt
  clear e7 h7 c1 c2 c3 c4 c5
  go_loopw [67, 13] (fun z s wr => ∃ j : Nat, j ≤ K ∧ z = (.int .i64 ((j : Int))) ∧ wr.ownsRow w7.heap.size 3 1 s (smL P0 P1 a b M j).length ((smL P0 P1 a b M j).map (Value.int .i64)) ∧ Below w7.heap.size w7 wr) (fun z _ _ => K - (intOf z).toNat)
  case atStart => exact ⟨0, Nat.zero_le _, rfl, World.ownsRow_nil _ _ _ _, Below.refl _ _⟩
  case round =>
    obtain ⟨j, hj, rfl, ho, hb⟩ := hrel
    obtain ⟨S, d, rfl⟩ := own_slice ho
    have HO := Lib.hid ho
    have HBR := Lib.hid hb
    have hzr := hb.size
    clear ho hb
    by_cases hlt : j < K
    · have hjl : j + M ≤ L := by have := HK.out; omega
      go_wp2
      go_loopw [71, 15] (fun z s wq => ∃ i : Nat, i ≤ M ∧ z = (.int .i64 ((i : Int))) ∧ s = (.int .i64 (smAt P0 P1 a b j i)) ∧ Below wr.heap.size wr wq) (fun z _ _ => M - (intOf z).toNat)
      case atStart => exact ⟨0, Nat.zero_le _, rfl, rfl, Below.refl _ _⟩
      case round =>
        rename World => wq
        obtain ⟨i, hi, rfl, rfl, hbq⟩ := hrel
        have HBQ := Lib.hid hbq
        have hzq := hbq.size
        have HB7Q := Lib.hid (HBR.out.trans (hbq.mono HBR.out.size))
        clear hbq
        by_cases hil : i < M
        · have KQ := K97.out.below HB7Q.out
          obtain ⟨f0, f1, fl, ff⟩ := KQ.o2
          obtain ⟨b1, o1, rfl, l1, q1⟩ := (HC17.out.below HB7Q.out) (by rw [HG1.out]; omega)
          obtain ⟨b2, o2, rfl, l2, q2⟩ := (HC27.out.below HB7Q.out) (by rw [HG2.out]; omega)
          obtain ⟨b3, o3, rfl, l3, q3⟩ := (HA7.out.below HB7Q.out) (by rw [← HLA.out]; omega)
          obtain ⟨b4, o4, rfl, l4, q4⟩ := (HBB7.out.below HB7Q.out) (by rw [← HLB.out]; omega)
          have x1 := q1 i (by rw [HG1.out]; exact hil)
          have x2 := q2 i (by rw [HG2.out]; exact hil)
          have x3 := q3 (i + j) (by rw [← HLA.out]; omega)
          have x4 := q4 (i + j) (by rw [← HLB.out]; omega)
          have bs := HSB.out j i
          have bp := pm_bd (HPB1.out i) (HAB.out (i + j))
          have bq := pm_bd (HPB2.out i) (HBB.out (i + j))
          have HST : Hid (smAt P0 P1 a b j (i + 1) = smAt P0 P1 a b j i + (P0.getD i 0 * a.getD (i + j) 0 + P1.getD i 0 * b.getD (i + j) 0)) := Lib.hid rfl
          obtain ⟨y1, hy1⟩ : ∃ y, y = P0.getD i 0 := ⟨_, rfl⟩
          obtain ⟨y2, hy2⟩ : ∃ y, y = P1.getD i 0 := ⟨_, rfl⟩
          obtain ⟨y3, hy3⟩ : ∃ y, y = a.getD (i + j) 0 := ⟨_, rfl⟩
          obtain ⟨y4, hy4⟩ : ∃ y, y = b.getD (i + j) 0 := ⟨_, rfl⟩
          obtain ⟨s0, hs0⟩ : ∃ s, s = smAt P0 P1 a b j i := ⟨_, rfl⟩
          rw [← hy1] at x1
          rw [← hy2] at x2
          rw [← hy3] at x3
          rw [← hy4] at x4
          rw [← hs0] at bs
          rw [← hy1, ← hy3] at bp
          rw [← hy2, ← hy4] at bq
          rw [← hy1, ← hy2, ← hy3, ← hy4, ← hs0] at HST
          rw [← hs0]
          obtain ⟨X, hX⟩ : ∃ X, X = y1 * y3 := ⟨_, rfl⟩
          obtain ⟨Y, hY⟩ : ∃ Y, Y = y2 * y4 := ⟨_, rfl⟩
          rw [← hX] at bp
          rw [← hY] at bq
          rw [← hX, ← hY] at HST
          have hwx : wrap64 (y1 * y3) = X := by rw [← hX]; exact Go.IntWalk.wrap64_in _ (by omega)
          have hwy : wrap64 (y2 * y4) = Y := by rw [← hY]; exact Go.IntWalk.wrap64_in _ (by omega)
          have hii : (i : Int) < (M : Int) := by omega
          have hij : (i : Int) + (j : Int) < (L : Int) := by omega
          clear q1 q2 q3 q4 hy1 hy2 hy3 hy4 hs0 hX hY KQ
          go_wp2
          go_region
          go_wp2
          go_roundw
          case rel => exact ⟨i + 1, by omega, by go_num, by rw [HST.out], HBQ.out.drew⟩
          case measure => simp [intOf]; omega
        · obtain rfl : i = M := by omega
          have HSQ : Hid (smL P0 P1 a b i (j + 1) = smL P0 P1 a b i j ++ [smAt P0 P1 a b j i]) := Lib.hid (smL_succ _ _ _ _ _ _)
          obtain ⟨s0, hs0⟩ : ∃ s, s = smAt P0 P1 a b j i := ⟨_, rfl⟩
          rw [← hs0] at HSQ ⊢
          clear hs0
          have hle : (smL P0 P1 a b i j).length = j := smL_len _ _ _ _ _ _
          have HOQ := Lib.hid (ownsRow_below HO.out HBQ.out)
          go_wp2_with (at_builtin; refine name_list ?_; intro w8 e8; refine Hid.out ?_)
          unfold Hid
          have h8 : Below wq.heap.size wq w8 := by rw [e8]; exact bel
          have K8 : Blk w8 wq.heap.size #[(.int .i64 s0)] := by rw [e8]; exact Calm.Blk.new _ _ _
          have HO8 := Lib.hid (ownsRow_below HOQ.out h8)
          have HB8 := Lib.hid (HB7Q.out.trans (h8.mono HB7Q.out.size))
          have hC8 : Cells w8 (some ⟨wq.heap.size, 0, none⟩) [s0] := Cells.blk K8 rfl
          have hs8 := HB8.out.size
          clear e8 h8 K8
          refine wpList_appS rfl _ _ rfl w7.heap.size _ (smL P0 P1 a b i j) rfl HO8.out _ 1 1 [s0] rfl rfl hC8 (by omega) hs8 ?_
          intro v' w9 hown hgrow
          have HB9 := Lib.hid (HB8.out.grown hgrow hs8 (fun q hq => (HO8.out.lt q hq).1))
          have HO9 := Lib.hid hown
          clear hown hgrow hC8 hle
          go_wp2
          go_roundw
          case rel => exact ⟨j + 1, by omega, by go_num, by rw [HSQ.out]; exact HO9.out, HB9.out⟩
          case measure => simp [intOf]; omega
    · obtain rfl : j = K := by omega
      have HBW := Lib.hid (HB7.out.trans (HBR.out.mono HB7.out.size))
      have KR := HR7.out.below HBR.out
      have K9r := K97.out.below HBR.out
      have HKR := Lib.hid KR
      obtain ⟨f0, f1, fl, ff⟩ := K9r.o2
      obtain ⟨r0, r1, rl, rf⟩ := KR.o2
      have hle : (smL P0 P1 a b M j).length = j := smL_len _ _ _ _ _ _
      obtain ⟨B9, d9, hv9, hn9, hc9⟩ := own_ints (zs := smL P0 P1 a b M j) HO.out rfl
      cases hv9
      have HC9 := Lib.hid hc9
      clear KR K9r hc9
      go_wp2
      go_region
      go_wp2
      refine name_post ?_
      intro wz ez
      have KZ : Blk wz w.heap.size #[.slice A1 M a1, .slice A2 M a2] := by rw [ez]; exact Blk.drew ((HKR.out.set (i := 0) (by simp) _).set (i := 1) (by simp) _)
      have hbz : But w.heap.size wr wz := by rw [ez]; exact ((But.put _ 0 _).trans (But.put _ 1 _)).trans (But.drawn _)
      have hBz : Below w.heap.size w wz := by rw [ez]; exact ((HBW.out.setCell (by simp) _).setCell (by simp) _).drew
      clear ez f0 f1 fl ff r0 r1 rl rf
      obtain ⟨k0, k1, -, -⟩ := KZ.o2
      have hwz := HB7.out.size
      rw [hle]
      refine bodyPost_ret (v := .tuple #[.slice S j d, .agg #[.slice A1 M a1, .slice A2 M a2], (.int .i64 0)]) (by simp [results, Try.results32, go_sem, k0, k1]) rfl ⟨_, _, _, rfl, ⟨S, d, by rw [hle], HC9.out.but (fun p hp => by have := hn9 p hp; omega) hbz, fun p hp => by have := hn9 p hp; omega⟩, ⟨A1, a1, by rw [HG1.out], (HC17.out.below HBR.out).but (fun p hp => by have := F1.out p hp; omega) hbz, fun p hp => Nat.le_of_lt (F1.out p hp)⟩, ⟨A2, a2, by rw [HG2.out], (HC27.out.below HBR.out).but (fun p hp => by have := F2.out p hp; omega) hbz, fun p hp => Nat.le_of_lt (F2.out p hp)⟩, hBz⟩
end Go.Proofs.Ytamldoidalnloaa

/- slices.Equal of equal lists; Deconvolve of the answers of a response. -/
namespace Go.Proofs.Ytamldoidalnloaa
open Go.RowKit
open Calm (bcell Blk)
set_option maxRecDepth 100000 in
set_option maxHeartbeats 4000000 in
theorem equal_ok (xs : List Int) (A B : Option Addr) (ca cb N : Nat) (w : World) (hN : N = xs.length) (hN5 : N ≤ 5000) (hA : Cells w A xs) (hB : Cells w B xs) :
    Calls Try.prog 36 #[.slice A N ca, .slice B N cb] w fun r w' => r = .returned (.bool true) ∧ Below w.heap.size w w' := by
  have HA := Lib.hid hA
  have HB := Lib.hid hB
  have HN := Lib.hid hN
  have c1 : ((N : Int) != (N : Int)) = false := by simp
  clear hA hB hN
  go_enter Try.func36, Try.ntmps36
  go_wp2
  go_loopw [13] (fun z wr => ∃ k : Nat, k ≤ N ∧ z = (.int .i64 ((k : Int))) ∧ Below w.heap.size w wr) (fun z _ => N - (intOf z).toNat)
  case atStart => exact ⟨0, Nat.zero_le _, rfl, Below.refl _ _⟩
  case round =>
    obtain ⟨k, hk, rfl, hb⟩ := hrel
    have HBR := Lib.hid hb
    clear hb
    by_cases hlt : k < N
    · obtain ⟨b1, o1, rfl, l1, q1⟩ := (HA.out.below HBR.out) (by rw [← HN.out]; omega)
      obtain ⟨b2, o2, rfl, l2, q2⟩ := (HB.out.below HBR.out) (by rw [← HN.out]; omega)
      have x1 := q1 k (by rw [← HN.out]; exact hlt)
      have x2 := q2 k (by rw [← HN.out]; exact hlt)
      obtain ⟨x, hx⟩ : ∃ x, x = xs.getD k 0 := ⟨_, rfl⟩
      rw [← hx] at x1 x2
      have hki : (k : Int) < (N : Int) := by omega
      clear q1 q2 hx
      go_wp2
      go_region
      go_wp2
      go_roundw
      case rel => exact ⟨k + 1, by omega, by go_num, HBR.out.drew⟩
      case measure => simp [intOf]; omega
    · obtain rfl : k = N := by omega
      go_wp2
      go_ret
      exact ⟨rfl, HBR.out⟩
theorem Cells.undefer {W : World} {B : Option Addr} {l : List Int} {d : Nat} {x : Option (List Deferred)} (h : Cells W B l) (D : W.heap[d]? = some (.deferred x)) : Cells (W.putObj d (.deferred none)) B l := fun h0 => by
  obtain ⟨b, off, rfl, hl, hcc⟩ := h h0
  have hbn : b ≠ d := fun e => by
    have := hcc 0 h0
    unfold World.cell? at this
    rw [show (⟨b, off + 0, none⟩ : Addr).block = d from e, D] at this
    cases this
  exact ⟨b, off, rfl, by simpa using hl, fun k hk => (World.cell?_of_block (w := W) (a := ⟨b, off + k, none⟩) (World.putObj_heap_other (by omega))).trans (hcc k hk)⟩
theorem Cells.but' {w w' : World} {A : Option Addr} {zs : List Int} {sb : Nat} (h : Cells w A zs) (ho : 0 < zs.length → Off sb A) (hW : But sb w w') : Cells w' A zs := h.rest' ho hW.block
set_option maxRecDepth 100000 in
set_option maxHeartbeats 8000000 in
theorem Deconvolve_ok (h a b : List Int) (e : Nat) (he : e ≤ 6) (A B : Option Addr) (ca cb N L : Nat) (w : World) (hN : N = h.length) (hN1 : 1 ≤ N) (hN5 : N ≤ 256) (hL : L = N + 2 ^ e - 1) (ea : a = conv h (gol e).1) (eb : b = conv h (gol e).2) (hh : lvls h) (ha : lvls a) (hb : lvls b) (hA : Cells w A a) (hB : Cells w B b)
    (HSM : Hid (smL (gol e).1 (gol e).2 a b (2 ^ e) N = h.map fun x => x * (2 * ((2 ^ e : Nat) : Int)))) :
    Calls Try.prog 7 #[.slice A L ca, .slice B L cb, (.int .i64 (((2 ^ e : Nat) : Int)))] w fun r w' => ∃ u, r = .returned (.tuple #[u, (.int .i64 0)]) ∧ FS w.heap.size h u w' ∧ Below w.heap.size w w' := by
  have hfn : ∀ f, Fence.wide.fn f = True := fun _ => rfl
  obtain ⟨g1, g2⟩ := gol_len e
  obtain ⟨m1, m2⟩ := gol_pm e
  have hp64 := pow_le_64 he
  have hla : L = a.length := by rw [ea, conv_len, if_neg (by omega), hL, g1, hN]
  have hlb : L = b.length := by rw [eb, conv_len, if_neg (by omega), hL, g2, hN]
  have HSU := Lib.hid (fun W (q1 : Cells W A a) (q2 : Cells W B b) => sums_ok a b e he A B ca cb L W hla hlb (by omega) (by omega) ha hb q1 q2)
  have hlv1 : lvls (gol e).1 := fun x hx => by have := m1 x hx; omega
  have hlv2 : lvls (gol e).2 := fun x hx => by have := m2 x hx; omega
  obtain ⟨M, hM⟩ : ∃ M, M = 2 ^ e := ⟨_, rfl⟩
  obtain ⟨P0, hP0⟩ : ∃ P0, P0 = (gol e).1 := ⟨_, rfl⟩
  obtain ⟨P1, hP1⟩ : ∃ P1, P1 = (gol e).2 := ⟨_, rfl⟩
  rw [← hM] at hL hp64 g1 g2
  rw [← hM, ← hP0, ← hP1] at HSU HSM
  rw [← hP0] at g1 hlv1 ea
  rw [← hP1] at g2 hlv2 eb
  rw [← hM]
  rw [show L - M + 1 = N by omega] at HSU
  obtain ⟨SM, hSM⟩ : ∃ SM, SM = smL P0 P1 a b M N := ⟨_, rfl⟩
  rw [← hSM] at HSU HSM
  have hsl : N = SM.length := by rw [hSM, smL_len]
  have hMi : 1 ≤ (M : Int) ∧ (M : Int) ≤ 4096 := by omega
  have hmap : SM.map (fun x => x / (2 * (M : Int))) = h := by
    rw [HSM.out, List.map_map]
    conv => rhs; rw [← List.map_id h]
    refine List.map_congr_left fun x _ => ?_
    exact Int.mul_ediv_cancel x (by omega)
  have hsb : ∀ x ∈ SM, -2147483648 ≤ x ∧ x ≤ 2147483648 := fun x hx => by
    rw [HSM.out] at hx
    obtain ⟨y, hy, rfl⟩ := List.mem_map.1 hx
    have := hh y hy
    have h1 : y.natAbs ≤ 1048576 := by omega
    have h3 : (y * (2 * (M : Int))).natAbs ≤ 1048576 * 128 := by rw [Int.natAbs_mul]; exact Nat.mul_le_mul h1 (by omega)
    omega
  have HMD : Hid (∀ (W : World) (S : Option Addr) (d b1 : Nat), Cells W S SM → b1 < W.heap.size → W.cell? ⟨b1, 0, none⟩ = some (.int .i64 ((M : Int))) → Calls Try.prog 33 #[.slice S N d, .func (.func 34) #[] #[.pointer (some ⟨b1, 0, none⟩)]] W fun r w' => (∃ B d, r = .returned (.slice B N d) ∧ Cells w' B h ∧ ∀ p, B = some p → W.heap.size ≤ p.block) ∧ Below W.heap.size W w') := Lib.hid (fun W S d b1 q0 q1 q2 => by
    have := mapDec_any S SM d N (M : Int) b1 W hsl q0 (by omega) q1 q2 hMi hsb
    rwa [hmap] at this)
  obtain ⟨F, hF⟩ : ∃ F, F = ansF h P0 P1 := ⟨_, rfl⟩
  have hF0 : F 0 = a := by rw [hF, ea]; rfl
  have hF1 : F 1 = b := by rw [hF, eb]; rfl
  have HIT : Hid (∀ (W : World) (A0 A1 A2 : Option Addr) (c0 c1 c2 Pb Hb sb m : Nat), Cells W A0 h → Cells W A1 P0 → Cells W A2 P1 → Blk W Pb #[.slice A1 M c1, .slice A2 M c2] → Blk W Hb #[.slice A0 N c0] → (0 < h.length → Off sb A0) → (0 < P0.length → Off sb A1) → (0 < P1.length → Off sb A2) → Pb ≠ sb → Hb ≠ sb → W.heap.size ≤ Pb + 1 → 1 ≤ m →
      IterR Fence.wide m Try.prog 74 #[.pointer (some ⟨Pb, 0, none⟩), .pointer (some ⟨Hb, 0, none⟩)] 2 (AnsR W.heap.size F) (List.range 2) (Rest sb W.heap.size) W) := Lib.hid (fun W A0 A1 A2 c0 c1 c2 Pb Hb sb m q0 q1 q2 kP kH o0 o1 o2 oP oH hz hm => by
    rw [hF]; exact answers1_iter h P0 P1 A0 A1 A2 N M c0 c1 c2 Pb Hb sb W m hN g1.symm g2.symm (by omega) (by omega) hh hlv1 hlv2 q0 q1 q2 kP kH o0 o1 o2 oP oH hz hm)
  have HEQA : Hid (∀ (W : World) (X : Option Addr) (d : Nat), Cells W X (F 0) → Cells W A a → Calls Try.prog 36 #[.slice X (F 0).length d, .slice A L ca] W fun r w' => r = .returned (.bool true) ∧ Below W.heap.size W w') := Lib.hid (fun W X d q1 q2 => by
    rw [hF0, ← hla]; rw [hF0] at q1; exact equal_ok a X A d ca L W hla (by omega) q1 q2)
  have HEQB : Hid (∀ (W : World) (X : Option Addr) (d : Nat), Cells W X (F 1) → Cells W B b → Calls Try.prog 36 #[.slice X (F 1).length d, .slice B L cb] W fun r w' => r = .returned (.bool true) ∧ Below W.heap.size W w') := Lib.hid (fun W X d q1 q2 => by
    rw [hF1, ← hlb]; rw [hF1] at q1; exact equal_ok b X B d cb L W hlb (by omega) q1 q2)
  have HSL := Lib.hid hsl
  have HG1 := Lib.hid g1
  have HG2 := Lib.hid g2
  have HN := Lib.hid hN
  have HA := Lib.hid hA
  have HB := Lib.hid hB
  clear hN hh ha hb hA hB hlv1 hlv2 m1 m2 hM hP0 hP1 g1 g2 hF hF0 hF1 he ea eb hla hlb HSM hSM hsl hmap hsb hL hp64
  refine (callsIn_wide (n := 10)).1 ?_
  refine callsIn_of_wp_marks Try.func7 rfl trivial ?_ rfl
  simp only [Try.ntmps7, List.size_toArray, List.length_cons, List.length_nil, Nat.reduceAdd, Nat.reduceSub, Array.replicate_succ, Array.replicate_zero, List.push_toArray, List.append_toArray, List.nil_append, List.cons_append]
  gi_wp2_with (gi_at_call 32; refine callsIn_wide.2 ?_; refine name_calls ?_; intro w1 e1; refine Hid.out ?_)
  unfold Hid
  have h1 : Below w.heap.size w w1 := by rw [e1]; exact bel
  have R5 : Blk w1 w.heap.size #[(.int .i64 ((M : Int)))] := by rw [e1]; (repeat (first | ((with_reducible refine Blk.at_ ?_); focus (first | rfl | (simp; done) | (simp; omega))) | (with_reducible refine Blk.alloc ?_ _) | (with_reducible refine Blk.below ?_ (by with_reducible assumption)) | (with_reducible refine Blk.drew ?_)))
  have R6 : Blk w1 (w.heap.size + 1) #[.slice none 0 0] := by rw [e1]; (repeat (first | ((with_reducible refine Blk.at_ ?_); focus (first | rfl | (simp; done) | (simp; omega))) | (with_reducible refine Blk.alloc ?_ _) | (with_reducible refine Blk.below ?_ (by with_reducible assumption)) | (with_reducible refine Blk.drew ?_)))
  have R7 : Blk w1 (w.heap.size + 2) #[(.int .i64 0)] := by rw [e1]; (repeat (first | ((with_reducible refine Blk.at_ ?_); focus (first | rfl | (simp; done) | (simp; omega))) | (with_reducible refine Blk.alloc ?_ _) | (with_reducible refine Blk.below ?_ (by with_reducible assumption)) | (with_reducible refine Blk.drew ?_)))
  have HB1 := Lib.hid h1
  have HR1 := Lib.hid (show Blk w1 w.heap.size #[(.int .i64 ((M : Int)))] ∧ Blk w1 (w.heap.size + 1) #[.slice none 0 0] ∧ Blk w1 (w.heap.size + 2) #[(.int .i64 0)] from ⟨R5, R6, R7⟩)
  have hz1 : w.heap.size + 2 < w1.heap.size := R7.lt
  clear e1 h1 R5 R6 R7
  refine (HSU.out w1 (HA.out.below HB1.out) (HB.out.below HB1.out)).mono ?_
  rintro r w2 ⟨s, u, v, rfl, ⟨S, d, rfl, hS, fS⟩, ⟨A1, a1, rfl, hA1, f1⟩, ⟨A2, a2, rfl, hA2, f2⟩, h2⟩
  have HB2 := Lib.hid (HB1.out.trans (h2.mono HB1.out.size))
  have HR2 := Lib.hid (show Blk w2 w.heap.size #[(.int .i64 ((M : Int)))] ∧ Blk w2 (w.heap.size + 1) #[.slice none 0 0] ∧ Blk w2 (w.heap.size + 2) #[(.int .i64 0)] from ⟨HR1.out.1.below h2, HR1.out.2.1.below h2, HR1.out.2.2.below h2⟩)
  have HS := Lib.hid hS
  have HC1 := Lib.hid hA1
  have HC2 := Lib.hid hA2
  have hz2 := h2.size
  rw [← HSL.out, HG1.out, HG2.out]
  obtain ⟨c5, l5, z5⟩ := HR2.out.1.o1
  clear h2 hS hA1 hA2 fS f1 f2 HSU
  gi_wp2_with (gi_at_call 33; refine callsIn_wide.2 ?_; refine name_calls ?_; intro w3 e3; refine Hid.out ?_)
  unfold Hid
  have h3 : Below w2.heap.size w2 w3 := by rw [e3]; exact bel
  have K9 : Blk w3 w2.heap.size #[.slice A1 M a1, .slice A2 M a2] := by rw [e3]; (repeat (first | ((with_reducible refine Blk.at_ ?_); focus (first | rfl | (simp; done) | (simp; omega))) | (with_reducible refine Blk.alloc ?_ _) | (with_reducible refine Blk.below ?_ (by with_reducible assumption)) | (with_reducible refine Blk.drew ?_)))
  have HB3 := Lib.hid (HB2.out.trans (h3.mono HB2.out.size))
  have HR3 := Lib.hid (show Blk w3 w.heap.size #[(.int .i64 ((M : Int)))] ∧ Blk w3 (w.heap.size + 1) #[.slice none 0 0] ∧ Blk w3 (w.heap.size + 2) #[(.int .i64 0)] from ⟨HR2.out.1.below h3, HR2.out.2.1.below h3, HR2.out.2.2.below h3⟩)
  have HC13 := Lib.hid (HC1.out.below h3)
  have HC23 := Lib.hid (HC2.out.below h3)
  have HS3 := Lib.hid (HS.out.below h3)
  have hz3 : w2.heap.size < w3.heap.size := K9.lt
  clear e3 h3 c5 l5 z5
  refine (HMD.out w3 S d w.heap.size HS3.out HR3.out.1.lt (by rw [HR3.out.1.c]; rfl)).mono ?_
  rintro r w4 ⟨⟨H, hd, rfl, hH, fH⟩, h4⟩
  have HB4 := Lib.hid (HB3.out.trans (h4.mono HB3.out.size))
  have HR4 := Lib.hid (show Blk w4 w.heap.size #[(.int .i64 ((M : Int)))] ∧ Blk w4 (w.heap.size + 1) #[.slice none 0 0] ∧ Blk w4 (w.heap.size + 2) #[(.int .i64 0)] from ⟨HR3.out.1.below h4, HR3.out.2.1.below h4, HR3.out.2.2.below h4⟩)
  have HC14 := Lib.hid (HC13.out.below h4)
  have HC24 := Lib.hid (HC23.out.below h4)
  have HH := Lib.hid hH
  have K94 := K9.below h4
  have HFH : Hid (∀ p, H = some p → w.heap.size + 2 < p.block) := Lib.hid (fun p hp => by have := fH p hp; omega)
  have hz4 := h4.size
  obtain ⟨s0, s1, sl, sf⟩ := K94.o2
  clear h4 hH K9 K94 fH
  gi_wp2_with (gi_at_call 29; refine callsIn_wide.2 ?_; refine name_calls ?_; intro w5 e5; refine Hid.out ?_)
  unfold Hid
  have h5 : Below w4.heap.size w4 w5 := by rw [e5]; exact bel
  have KG : Blk w5 w4.heap.size #[.slice A L ca, .slice B L cb] := by rw [e5]; (repeat (first | ((with_reducible refine Blk.at_ ?_); focus (first | rfl | (simp; done) | (simp; omega))) | (with_reducible refine Blk.alloc ?_ _) | (with_reducible refine Blk.below ?_ (by with_reducible assumption)) | (with_reducible refine Blk.drew ?_)))
  have HB5 := Lib.hid (HB4.out.trans (h5.mono HB4.out.size))
  have HR5 := Lib.hid (show Blk w5 w.heap.size #[(.int .i64 ((M : Int)))] ∧ Blk w5 (w.heap.size + 1) #[.slice none 0 0] ∧ Blk w5 (w.heap.size + 2) #[(.int .i64 0)] from ⟨HR4.out.1.below h5, HR4.out.2.1.below h5, HR4.out.2.2.below h5⟩)
  have HC15 := Lib.hid (HC14.out.below h5)
  have HC25 := Lib.hid (HC24.out.below h5)
  have HH5 := Lib.hid (HH.out.below h5)
  have HKG := Lib.hid KG
  have hz5 : w4.heap.size < w5.heap.size := KG.lt
  clear e5 h5 KG s0 s1 sl sf
  refine (answers_any H A1 A2 N M M hd a1 a2 w5).mono ?_
  rintro r w7 ⟨rfl, h7, kH, kP, hz7⟩
  have HB7 := Lib.hid (HB5.out.trans (h7.mono HB5.out.size))
  have HR7 := Lib.hid (show Blk w7 w.heap.size #[(.int .i64 ((M : Int)))] ∧ Blk w7 (w.heap.size + 1) #[.slice none 0 0] ∧ Blk w7 (w.heap.size + 2) #[(.int .i64 0)] from ⟨HR5.out.1.below h7, HR5.out.2.1.below h7, HR5.out.2.2.below h7⟩)
  have HKG7 := Lib.hid (HKG.out.below h7)
  have HH7 := Lib.hid (HH5.out.below h7)
  have HA7 := Lib.hid (HA.out.below HB7.out)
  have HBB7 := Lib.hid (HB.out.below HB7.out)
  have HIT7 := Lib.hid (HIT.out w7 H A1 A2 hd a1 a2 (w5.heap.size + 1) w5.heap.size w7.heap.size (10 - 1) HH7.out (HC15.out.below h7) (HC25.out.below h7) kP kH (HH7.out.off (Nat.le_refl _)) ((HC15.out.below h7).off (Nat.le_refl _)) ((HC25.out.below h7).off (Nat.le_refl _)) (by omega) (by omega) (by omega) (by decide))
  have hgl : w4.heap.size < w7.heap.size := by omega
  clear h7 kH kP HIT
  gi_wp2
  have hIO : OwnFrom w7.heap.size (fun (pre : List Nat) W => But w7.heap.size w7 W) := but_own w7 w7.heap.size
  have HIO := Lib.hid hIO
  refine range_iterR (F := Fence.wide) (n := 10) rfl (by decide) (gf := 74) (lb := #[.pointer (some ⟨w5.heap.size + 1, 0, none⟩), .pointer (some ⟨w5.heap.size, 0, none⟩)]) rfl trivial (enters_of Try.func74 (by kernel_rfl) rfl)
    (all := List.range 2) (R := AnsR w7.heap.size F) (C := Rest w7.heap.size w7.heap.size) (fun k hk => hk.1) HIT7.out
    _ hIO (But.refl _ _)
    (fun (pre : List Nat) (x : Nat) (a' : Act) (W : World) => But w7.heap.size w7 W ∧ ∃ X c, Cells W X (F x) ∧ (∀ p, X = some p → w7.heap.size ≤ p.block) ∧ a' = { tmps := #[.slice A L ca, .slice B L cb, (.int .i64 ((M : Int))), undef, undef, .pointer (some ⟨w.heap.size, 0, none⟩), .pointer (some ⟨w.heap.size + 1, 0, none⟩), .pointer (some ⟨w.heap.size + 1 + 1, 0, none⟩), .slice S N d, .pointer (some ⟨w2.heap.size, 0, none⟩), (.int .i64 0), .slice H N hd, .pointer (some ⟨w4.heap.size, 0, none⟩), (.int .i64 ((x : Int))), .slice X (F x).length c, .tuple #[.slice S N d, .agg #[.slice A1 M a1, .slice A2 M a2], (.int .i64 0)], .slice A L ca, .slice B L cb, (.int .i64 ((M : Int))), .tuple #[.slice S N d, .agg #[.slice A1 M a1, .slice A2 M a2], (.int .i64 0)], .slice S N d, .agg #[.slice A1 M a1, .slice A2 M a2], (.int .i64 0), (.int .i64 0), .bool false, undef, .slice S N d, .func (.func 34) #[] #[.pointer (some ⟨w.heap.size, 0, none⟩)], .slice H N hd, .slice A L ca, .slice B L cb, .agg #[.slice A L ca, .slice B L cb], .slice H N hd, .agg #[.slice A1 M a1, .slice A2 M a2], .func (.func 74) #[] #[.pointer (some ⟨w5.heap.size + 1, 0, none⟩), .pointer (some ⟨w5.heap.size, 0, none⟩)], (.int .i64 ((x : Int))), .slice X (F x).length c, undef, undef, undef, undef, undef, undef, undef], defers := [] })
    ?hax ?assign ?body ?done
  case assign =>
    rintro r pre x v W hi hpost hsz hcb hvs ⟨X, c, rfl, hC, hne⟩
    have hsem : ∀ (ρ : Operand → Value) (o : Oper), (∀ c, o.op ≠ .defer c) → Oper.semAt (some r) ρ o = execOp ρ o := Oper.semAt_some r
    have HI := Lib.hid hi
    have HCX := Lib.hid hC
    clear hi hIO hcb hC
    gi_wp2
    exact ⟨Same.refl _ _, HI.out, X, c, HCX.out, hne, rfl⟩
  case hax =>
    rintro pre x a' u X Y row ⟨hi, B', c, h1, h2, h3⟩ hg hrow
    exact ⟨HIO.out pre X Y row hi hg hrow, B', c, cells_grown h1 hg (fun r e => (hrow r e).2), h2, h3⟩
  case body =>
    rintro r pre x a' W ⟨hbut, X, c, hC, hne, rfl⟩ hpost hsz hcb
    have hsem : ∀ (ρ : Operand → Value) (o : Oper), (∀ c, o.op ≠ .defer c) → Oper.semAt (some r) ρ o = execOp ρ o := Oper.semAt_some r
    clear hIO
    rcases pre_of hpost with ⟨rfl, rfl⟩ | ⟨rfl, rfl⟩
    · have ek : ((0 : Nat) : Int) = 0 := rfl
      rw [ek]
      have HCX := Lib.hid hC
      have HBUT := Lib.hid hbut
      have KG := blk_but HKG7.out (by omega) hbut
      obtain ⟨f0, f1, fl, ff⟩ := KG.o2
      have hAW := HA7.out.but' (HA7.out.off (Nat.le_refl _)) hbut
      clear hC hbut hpost hcb KG
      gi_wp2_with (gi_at_call 36; refine CallsIn.inRound _ (callsIn_wide.2 ?_); refine (HEQA.out _ _ _ HCX.out hAW).mono ?_; rintro r8 w8 ⟨rfl, h8⟩; refine Hid.out ?_)
      unfold Hid
      have HB8 := Lib.hid h8
      clear h8 f0 f1 fl ff
      gi_wp2
      refine ⟨fun j o hj ho => ?_, HBUT.out.trans (But.of HB8.out)⟩
      rw [HB8.out.block j (Array.getElem?_eq_some_iff.1 ho).1]
      exact ho
    · have ek : ((1 : Nat) : Int) = 1 := rfl
      rw [ek]
      have HCX := Lib.hid hC
      have HBUT := Lib.hid hbut
      have KG := blk_but HKG7.out (by omega) hbut
      obtain ⟨f0, f1, fl, ff⟩ := KG.o2
      have hAW := HBB7.out.but' (HBB7.out.off (Nat.le_refl _)) hbut
      clear hC hbut hpost hcb KG
      gi_wp2_with (gi_at_call 36; refine CallsIn.inRound _ (callsIn_wide.2 ?_); refine (HEQB.out _ _ _ HCX.out hAW).mono ?_; rintro r8 w8 ⟨rfl, h8⟩; refine Hid.out ?_)
      unfold Hid
      have HB8 := Lib.hid h8
      clear h8 f0 f1 fl ff
      gi_wp2
      refine ⟨fun j o hj ho => ?_, HBUT.out.trans (But.of HB8.out)⟩
      rw [HB8.out.block j (Array.getElem?_eq_some_iff.1 ho).1]
      exact ho
  case done =>
    rintro W hbut hdef
    have R6 := blk_but HR7.out.2.1 (by omega) hbut
    have R7 := blk_but HR7.out.2.2 (by omega) hbut
    have HHW := Lib.hid (HH7.out.but' (HH7.out.off (Nat.le_refl _)) hbut)
    have HR6' := Lib.hid R6
    have HR7' := Lib.hid R7
    have HBT := Lib.hid hbut
    have HDEF := Lib.hid hdef
    have hDl := (Array.getElem?_eq_some_iff.1 hdef).1
    obtain ⟨x6, x6l, x6f⟩ := R6.o1
    obtain ⟨x7, x7l, x7f⟩ := R7.o1
    clear R6 R7 hbut hdef hIO
    gi_wp2
    obtain ⟨W8, hW8⟩ : ∃ W8, W8 = (W.setCell ⟨w.heap.size + 1, 0, none⟩ (.slice H N hd)).setCell ⟨w.heap.size + 1 + 1, 0, none⟩ (.int .i64 0) := ⟨_, rfl⟩
    rw [← hW8]
    have hbl : ∀ k, k ≠ w.heap.size + 1 → k ≠ w.heap.size + 1 + 1 → W8.heap[k]? = W.heap[k]? := fun k z1 z2 => by
      rw [hW8, Below.heap_setCell _ _ _ _ z2, Below.heap_setCell _ _ _ _ z1]
    have Z6 : Blk W8 (w.heap.size + 1) #[.slice H N hd] := by
      rw [hW8]
      exact (HR6'.out.set (i := 0) (by simp) _).far (by simp) _
    have Z7 : Blk W8 (w.heap.size + 2) #[(.int .i64 0)] := by
      rw [hW8]
      exact (HR7'.out.far (by simp) _).set (i := 0) (by simp) _
    have D8 : W8.heap[w7.heap.size]? = some (.deferred (some [])) := by rw [hbl _ (by omega) (by omega)]; exact HDEF.out
    have C' : Cells W8 H h := HHW.out.of_blocks (fun p hp => hbl _ (by have := HFH.out p hp; omega) (by have := HFH.out p hp; omega))
    have B8 : Below w.heap.size w W8 := by
      rw [hW8]
      exact ((HB7.out.trans (HBT.out.below (B := w.heap.size) (by omega) (by omega))).setCell (by simp) _).setCell (by simp; omega) _
    clear hW8 x6 x6l x6f x7 x7l x7f
    refine ⟨by simp, .inl ⟨_, _, rfl, run_takeDeferred D8, ?_⟩⟩
    have hpo : ∀ k, k ≠ w7.heap.size → (W8.putObj w7.heap.size (.deferred none)).heap[k]? = W8.heap[k]? := fun k hk => World.putObj_heap_other (by omega)
    have Y6 := Z6.of_block (hpo _ (by omega))
    have Y7 := Z7.of_block (hpo _ (by omega))
    have B9 := B8.trans (belowK_b (w := w) (Nat.le_refl _) W8 w7.heap.size (.deferred (some [])) (.deferred none) (by omega) D8 rfl rfl)
    have C'' := C'.undefer D8
    obtain ⟨u6, -, -⟩ := Y6.o1
    obtain ⟨u7, -, -⟩ := Y7.o1
    refine ⟨.tuple #[.slice H N hd, (.int .i64 0)], ?_, _, rfl, ⟨H, hd, by rw [← HN.out], C'', fun p hp => by have := HFH.out p hp; omega⟩, B9⟩
    simp [results, Try.results7, go_sem, u6, u7]
end Go.Proofs.Ytamldoidalnloaa

/- chamber's energy and Gate. -/
namespace Go.Proofs.Ytamldoidalnloaa
open Go.RowKit
open Calm (bcell Blk)
theorem enK_lv {l : List Int} (h : lvls l) : ∀ k : Nat, 0 ≤ enK l k ∧ enK l k ≤ 1099511627776 * (k : Int)
  | 0 => by simp [enK]
  | k + 1 => by
    have h1 := enK_lv h k
    have h2 := prod_bd (lvl_get h k) (lvl_get h k)
    have h3 : 0 ≤ l.getD k 0 * l.getD k 0 := by
      rcases Int.le_total 0 (l.getD k 0) with q | q
      · exact Int.mul_nonneg q q
      · exact Int.mul_nonneg_of_nonpos_of_nonpos q q
    simp only [enK]
    omega
set_option maxHeartbeats 1000000 in
set_option maxRecDepth 100000 in
theorem cEnergy_any (l : List Int) (A : Option Addr) (c N : Nat) (w : World) (hN : N = l.length) (hC : Cells w A l) (hb : lvls l) (hn : N ≤ 5000) :
    Calls Try.prog 38 #[.slice A N c] w fun r w' => r = .returned (.int .i64 (enF l)) ∧ w = w' := by
  have HC := Lib.hid hC
  have HB := Lib.hid (enK_lv hb)
  have HG := Lib.hid (fun k => lvl_get hb k)
  have HN := Lib.hid hN
  have HE : enF l = enK l N := by rw [hN]; rfl
  rw [HE]
  clear hC hb hN HE
  go_enter Try.func38, Try.ntmps38
  go_wp2
  go_loop [3, 8] (fun s i => ∃ k : Nat, k ≤ N ∧ i = (.int .i64 k) ∧ s = (.int .i64 (enK l k))) (fun _ i => N - (intOf i).toNat)
  case atStart => exact ⟨0, Nat.zero_le _, rfl, rfl⟩
  case round =>
    obtain ⟨k, hk, rfl, rfl⟩ := hrel
    by_cases hlt : k < N
    · obtain ⟨b, o, rfl, lb, hc⟩ := HC.out (by rw [← HN.out]; omega)
      have x0 := hc k (by rw [← HN.out]; exact hlt)
      have HX : Hid (enK l (k + 1) = enK l k + l.getD k 0 * l.getD k 0) := Lib.hid rfl
      obtain ⟨d1, d2⟩ := HB.out k
      have d3 := prod_bd (HG.out k) (HG.out k)
      obtain ⟨E, hE⟩ : ∃ E, E = enK l k := ⟨_, rfl⟩
      obtain ⟨u, hu⟩ : ∃ u, u = l.getD k 0 := ⟨_, rfl⟩
      rw [← hu] at x0 d3
      rw [← hE, ← hu] at HX
      rw [← hE] at d1 d2
      rw [← hE]
      obtain ⟨U, hU⟩ : ∃ U, U = u * u := ⟨_, rfl⟩
      rw [← hU] at d3 HX
      have hwu : wrap64 (u * u) = U := by rw [← hU]; exact Go.IntWalk.wrap64_in _ (by omega)
      clear hc hE hu hU
      go_wp2
      go_round
      case rel => exact ⟨k + 1, by omega, by go_num, by rw [HX.out]⟩
      case measure => simp [intOf]; omega
    · obtain rfl : k = N := by omega
      go_wp2
      go_ret
      exact ⟨rfl, rfl⟩
theorem run_copyN {P : Program} (w : World) (dT sT ty elem : TypeId) (g : Nat) (A : Option Addr) (xs : List Int) (n cap c : Nat) (cur : Array Value) (t : TypeId)
    (hu : P.underlying dT = some (.slice elem)) (hs : (P.info? elem).map (·.size) = some 1) (hn : xs.length ≤ n)
    (hg : w.heap[g]? = some (.cells cur t (0, 0))) (hcur : n ≤ cur.size) (hC : Cells w A xs) :
    (Builtin.copy_ #[dT, sT] ty #[.slice (some ⟨g, 0, none⟩) n cap, .slice A xs.length c]).run P w = .ok (goInt xs.length) (w.setRow g (xs.map (Value.int .i64) ++ cur.toList.drop xs.length).toArray) := by
  have hmin : Nat.min xs.length n = xs.length := Nat.min_eq_left hn
  cases A with
  | some a =>
    have := run_copy_row (P := P) w dT sT ty elem g 0 n cap a xs.length c cur t (xs.map (Value.int .i64)) hu hs hg (by rw [hmin]; simp) (fun j v hj => by
      have hj' : j < xs.length := by
        have := (List.getElem?_eq_some_iff.1 hj).1
        simpa using this
      obtain ⟨b, o, hA, hl, hc⟩ := hC (by omega)
      cases hA
      exact cells_src hc j v hj) (by simp; omega) (fun v hv => by obtain ⟨_, _, rfl⟩ := List.mem_map.1 hv; rfl)
    simpa using this
  | none =>
    have h0 : xs = [] := by
      cases xs with
      | nil => rfl
      | cons x xs => obtain ⟨b, o, hA, _⟩ := hC (by simp); cases hA
    subst h0
    have hself : w.setRow g cur = w := setRow_self w g cur t _ hg
    cases hq : P.info? elem with
    | none => simp [hq] at hs
    | some i => simp [Builtin.copy_, run_underlying hu, Builtin.lenOf, Builtin.firstCells, sizeOf, typeInfo, hq, storeCells, hself]
theorem wpList_copyN {P : Program} {w : World} {ops : Array Oper} {rest : List Oper} {o : Oper} {a : Act} {Q : Exit → Act → World → Prop} (hgd : o.guard = none) (d s : Operand) (dT sT : TypeId)
    (ho : o.op = .call { callee := .builtin .copy, args := #[d, s], argTypes := #[dT, sT] }) (elem : TypeId) (hu : P.underlying dT = some (.slice elem)) (hsz : (P.info? elem).map (·.size) = some 1)
    (g n m cap c : Nat) (A : Option Addr) (xs : List Int) (hm : xs.length = m) (hn : m ≤ n) (hd : a.eval d = .slice (some ⟨g, 0, none⟩) n cap) (hs : a.eval s = .slice A m c)
    (cur : Array Value) (t : TypeId) (hg : w.heap[g]? = some (.cells cur t (0, 0))) (hcur : n ≤ cur.size) (hC : Cells w A xs)
    (h : ∀ w', w'.heap.size = w.heap.size → Below g w w' → (∀ k, k ≠ g → w'.heap[k]? = w.heap[k]?) → w'.heap[g]? = some (.cells (xs.map (Value.int .i64) ++ cur.toList.drop m).toArray t (0, 0)) → wpList P ops Q rest (a.put o.dst (goInt m)) w') : wpList P ops Q (o :: rest) a w := by
  subst hm
  refine wpList_plain hgd fun K hK => ?_
  have hrun := run_copyN (P := P) w dT sT o.type elem g A xs n cap c cur t hu hsz hn hg hcur hC
  unfold Oper.wp
  simp [execOp, ho, resolve, invoke, builtin, hd, hs, hrun, Result.andThen]
  exact hK _ _ (h _ (by simp [World.setRow]) (below_setRow (Below.refl _ _) (Nat.le_refl _) _) (fun k hk => setRow_other w g k _ hk) (setRow_heap w g _ _ t _ hg))
/-- a response that is gated from 0 on. -/
def gateL (l : List Int) (at' : Nat) : List Int := l.take at' ++ List.replicate (l.length - at') 0
theorem gateL_len {l : List Int} {t : Nat} (h : t ≤ l.length) : (gateL l t).length = l.length := by simp [gateL]; omega
theorem gateL_lv {l : List Int} {t : Nat} (h : lvls l) : lvls (gateL l t) := fun x hx => by
  unfold gateL at hx
  rcases List.mem_append.1 hx with hx | hx
  · exact h x (List.mem_of_mem_take hx)
  · obtain ⟨_, rfl⟩ := List.mem_replicate.1 hx; exact ⟨by decide, by decide⟩
set_option maxHeartbeats 4000000 in
set_option maxRecDepth 100000 in
theorem Gate_ok (l : List Int) (A : Option Addr) (c N t : Nat) (w : World) (hN : N = l.length) (hN1 : 1 ≤ N) (hN5 : N ≤ 256) (ht : t ≤ N) (hc : N ≤ c) (hl : lvls l) (hC : Cells w A l) :
    Calls Try.prog 9 #[.slice A N c, (.int .i64 0), (.int .i64 ((t : Int)))] w fun r w' => ∃ v, r = .returned (.tuple #[v, (.int .i64 (enF l - enF (gateL l t))), (.int .i64 0)]) ∧ FS w.heap.size (gateL l t) v w' ∧ Below w.heap.size w w' := by
  obtain ⟨b, o, rfl, hbl, hcc⟩ := hC (by omega)
  have HC := Lib.hid (show Cells w (some ⟨b, o, none⟩) l from fun _ => ⟨b, o, rfl, hbl, hcc⟩)
  have HCR : Hid (∀ W, Cells W (some ⟨b, o, none⟩) l → Calls Try.prog 28 #[.slice (some ⟨b, o, none⟩) N c] W fun r w' => r = .returned (.int .i64 0) ∧ Below W.heap.size W w') := Lib.hid (fun W q => cResponse_ok l _ c N W hN q hN5 hl)
  have HF2 : Hid (∀ (W : World), Calls Try.prog 27 #[.slice (some ⟨W.heap.size, 0, none⟩) 2 2] (W.alloc (.cells #[(.int .i64 0), (.int .i64 0)] 24)) fun r w' => r = .returned (.int .i64 0) ∧ (W.alloc (.cells #[(.int .i64 0), (.int .i64 0)] 24)) = w') := Lib.hid (fun W => cFirst_cells [0, 0] W (by simp))
  have HEN : Hid (∀ W, Cells W (some ⟨b, o, none⟩) l → Calls Try.prog 38 #[.slice (some ⟨b, o, none⟩) N c] W fun r w' => r = .returned (.int .i64 (enF l)) ∧ W = w') := Lib.hid (fun W q => cEnergy_any l _ c N W hN q hl (by omega))
  have HEG : Hid (∀ W B, Cells W B (gateL l t) → Calls Try.prog 38 #[.slice B N N] W fun r w' => r = .returned (.int .i64 (enF (gateL l t))) ∧ W = w') := Lib.hid (fun W B q => cEnergy_any _ B N N W (by rw [gateL_len (by omega)]; exact hN) q (gateL_lv hl) (by omega))
  have hb1 := enK_lv hl l.length
  have hb2 := enK_lv (gateL_lv (t := t) hl) (gateL l t).length
  rw [gateL_len (by omega), ← hN] at hb2
  rw [← hN] at hb1
  have HE1 : enF l = enK l N := by rw [hN]; rfl
  have HE2 : enF (gateL l t) = enK (gateL l t) N := by rw [hN, ← gateL_len (l := l) (t := t) (by omega)]; rfl
  rw [← HE1] at hb1
  rw [← HE2] at hb2
  obtain ⟨E1, hE1⟩ : ∃ E, E = enF l := ⟨_, rfl⟩
  obtain ⟨E2, hE2⟩ : ∃ E, E = enF (gateL l t) := ⟨_, rfl⟩
  rw [← hE1] at hb1 HEN
  rw [← hE2] at hb2 HEG
  rw [← hE1, ← hE2]
  have hEb : -4611686018427387904 ≤ E1 - E2 ∧ E1 - E2 ≤ 4611686018427387904 := by omega
  have HMK : ∀ W : World, Sem.run Try.prog (Instr.makeSlice 22 (.int .i64 ((N : Int))) (.int .i64 ((N : Int)))) W = .ok (.slice (some ⟨W.heap.size, 0, none⟩) N N) (W.alloc (.cells (zerosA N).toArray 3)) := fun W => mk_ints N (by omega) W
  have HG : Hid (∀ cs : Array Value, cs = ((l.take t).map (Value.int .i64) ++ (zerosA N).toArray.toList.drop t).toArray → cs = ((gateL l t).map (Value.int .i64)).toArray) := Lib.hid (fun cs e => by
    rw [e]; unfold gateL zerosA
    simp [hN])
  have HGL : Hid ((gateL l t).length = N) := Lib.hid (by rw [gateL_len (by omega)]; exact hN.symm)
  have HTK : Hid (∀ W, Cells W (some ⟨b, o, none⟩) l → Cells W (some ⟨b, o, none⟩) (l.take t)) := Lib.hid (fun W q h0 => by
    have h0' : 0 < t ∧ 0 < l.length := by simp at h0; omega
    obtain ⟨b', o', e, q1, q2⟩ := q h0'.2
    refine ⟨b', o', e, q1, fun k hk => ?_⟩
    have hk' : k < t ∧ k < l.length := by simp at hk; omega
    rw [q2 k hk'.2, List.getD_eq_getElem?_getD, List.getD_eq_getElem?_getD, List.getElem?_take, if_pos hk'.1])
  have HTL : Hid ((l.take t).length = t) := Lib.hid (by rw [List.length_take]; omega)
  have c1 : decide ((t : Int) < 0) = false := decide_eq_false (by omega)
  have c2 : decide ((N : Int) < (t : Int)) = false := decide_eq_false (by omega)
  have hti : (t : Int) ≤ (N : Int) := by omega
  have htc : (t : Int) ≤ (c : Int) := by omega
  have HB := Lib.hid hbl
  clear hC hcc hl hE1 hE2 HE1 HE2 hN
  go_enter Try.func9, Try.ntmps9
  go_wp2_with (first
    | (go_at_call 37; refine (cWhen_any _ _ _).mono ?_; rintro r w' ⟨rfl, rfl⟩)
    | (go_at_call 28; refine (HCR.out _ HC.out).mono ?_; rintro r w1 ⟨rfl, hb1⟩; have HB1 := Lib.hid hb1; clear hb1; refine Hid.out ?_))
  unfold Hid
  go_wp2_with (first
    | (go_at_call 37; refine (cWhen_any _ _ _).mono ?_; rintro r w' ⟨rfl, rfl⟩)
    | (go_at_call 27; refine (HF2.out _).mono ?_; rintro r w2 ⟨rfl, rfl⟩; refine Hid.out ?_))
  unfold Hid
  go_wp2
  refine name_world ?_
  intro w3 e3
  have h3 : Below w1.heap.size w1 w3 := by rw [e3]; exact bel
  obtain ⟨g, hg⟩ : ∃ g, g = w1.heap.size + 1 := ⟨_, rfl⟩
  have hG3 : w3.heap[g]? = some (.cells (zerosA N).toArray 3 (0, 0)) := by rw [e3, hg]; exact heap_new (by simp)
  have HB3 := Lib.hid (HB1.out.trans (h3.mono HB1.out.size))
  have hgw : w.heap.size < g := by have := HB1.out.size; omega
  have HG3 := Lib.hid hG3
  rw [← hg]
  clear e3 h3 hG3 hg
  refine Rel.region3 8 (by kernel_rfl) (by kernel_rfl) (by kernel_rfl) ?_
  simp only [List.take_succ_cons, List.take_zero, List.drop_succ_cons, List.drop_zero, List.filterMap_cons, List.filterMap_nil]
  repeat (apply Rel.op3; (focus (first | exact Rel.gno rfl | exact Rel.gyes _ true _ rfl rfl rfl | exact Rel.gyes _ false _ rfl rfl rfl)); (focus (intro a W hb hd hbase; obtain ⟨hc, hf⟩ := bcell hb; clear hb hf; simp [Rel.deps, Rel.dep1, Rel.ons, Region.binds, Act.eval] at hd; simp only [Act.eval, List.mem_cons, List.not_mem_nil, not_or, and_imp, or_false, Array.getD_eq_getD_getElem?] at hbase; go_simp; (try go_bits); (try rfl); done)); (try simp only [List.nil_append, List.cons_append]))
  refine Rel.done3 ?_
  intro x w4 hb4 hx
  simp only [Rel.facts, Nat.zero_add, Nat.reduceAdd] at hx
  obtain ⟨e0, e1, e2, e3, e4, e5, e6, e7, _⟩ := hx
  simp only [Rel.fill, Nat.zero_add, Nat.reduceAdd, e0, e1, e2, e3, e4, e5, e6, e7]
  simp only [Act.put, List.setIfInBounds_toArray, List.set_cons_zero, List.set_cons_succ]
  clear e0 e1 e2 e3 e4 e5 e6 e7
  have HG4 := Lib.hid ((hb4.block g (Array.getElem?_eq_some_iff.1 HG3.out).1).trans HG3.out)
  have HB4 := Lib.hid (HB3.out.trans (hb4.mono HB3.out.size))
  have HC4 := Lib.hid (HTK.out _ (HC.out.below HB4.out))
  clear hb4
  refine wpList_copyN rfl _ _ 22 22 rfl 3 Try.underlying22 (by kernel_rfl) g t t N c (some ⟨b, o, none⟩) (l.take t) HTL.out (Nat.le_refl _) rfl rfl (zerosA N).toArray 3 HG4.out (by simp [zerosA]; omega) HC4.out ?_
  intro w5 hz5 hb5 ho5 hG5
  have HB5 := Lib.hid (HB4.out.trans (hb5.mono (Nat.le_of_lt hgw)))
  have HCG : Hid (Cells w5 (some ⟨g, 0, none⟩) (gateL l t)) := Lib.hid (Cells.row (t := 3) (by rw [hG5]; congr 2; exact HG.out _ rfl))
  have HC5 := Lib.hid (HC.out.below HB5.out)
  clear hb5 ho5 hG5
  go_wp2_with (go_at_call 38; refine (HEN.out _ HC5.out).mono ?_; rintro r w6 ⟨rfl, rfl⟩; refine Hid.out ?_)
  unfold Hid
  go_wp2_with (go_at_call 38; refine (HEG.out _ _ HCG.out).mono ?_; rintro r w6 ⟨rfl, rfl⟩; refine Hid.out ?_)
  unfold Hid
  go_wp2
  refine bodyPost_ret (v := .tuple #[.slice (some ⟨g, 0, none⟩) N N, (.int .i64 (E1 - E2)), (.int .i64 0)]) (by simp [results, Try.results9, go_sem]) rfl ⟨_, rfl, ⟨_, _, by rw [HGL.out], HCG.out, by rintro p ⟨⟩; exact Nat.le_of_lt hgw⟩, HB5.out⟩
end Go.Proofs.Ytamldoidalnloaa
