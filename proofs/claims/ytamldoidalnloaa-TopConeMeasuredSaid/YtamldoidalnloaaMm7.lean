/- Part 7 of the texts of the claim: Tc10, Tc12, Tc13, Tc14, Td0, Td1, S7. -/
import Derived.Test.YtamldoidalnloaaMm6
import Derived.Test.YtamldoidalnloaaMm4
import Derived.Test.YtamldoidalnloaaMm3
import Derived.Test.YtamldoidalnloaaMm1
import Derived.WalkMore
import Derived.Test.YtamldoidalnloaaMm2
import Derived.Laws.RangeAny

/- slices.Equal of equal lists; Deconvolve of the answers of a response. -/
namespace Go.Proofs.Ytamldoidalnloaa
open Go.RowKit
open Calm (bcell Blk)
set_option maxRecDepth 100000 in
set_option maxHeartbeats 4000000 in
theorem equal_ok (xs : List Int) (A B : Option Addr) (ca cb N : Nat) (w : World) (hN : N = xs.length) (hN5 : N ≤ 5000) (hA : Cells w A xs) (hB : Cells w B xs) :
    Calls Try.prog 36 #[.slice A N ca, .slice B N cb] w fun r w' => r = .returned (.bool true) ∧ Below w.heap.size w w' := by
  have HA := Lib.hid hA
  have HB := Lib.hid hB
  have HN := Lib.hid hN
  have c1 : ((N : Int) != (N : Int)) = false := by simp
  clear hA hB hN
  go_enter Try.func36, Try.ntmps36
  go_wp2
  go_loopw [13] (fun z wr => ∃ k : Nat, k ≤ N ∧ z = (.int .i64 ((k : Int))) ∧ Below w.heap.size w wr) (fun z _ => N - (intOf z).toNat)
  case atStart => exact ⟨0, Nat.zero_le _, rfl, Below.refl _ _⟩
  case round =>
    obtain ⟨k, hk, rfl, hb⟩ := hrel
    have HBR := Lib.hid hb
    clear hb
    by_cases hlt : k < N
    · obtain ⟨b1, o1, rfl, l1, q1⟩ := (HA.out.below HBR.out) (by rw [← HN.out]; omega)
      obtain ⟨b2, o2, rfl, l2, q2⟩ := (HB.out.below HBR.out) (by rw [← HN.out]; omega)
      have x1 := q1 k (by rw [← HN.out]; exact hlt)
      have x2 := q2 k (by rw [← HN.out]; exact hlt)
      obtain ⟨x, hx⟩ : ∃ x, x = xs.getD k 0 := ⟨_, rfl⟩
      rw [← hx] at x1 x2
      have hki : (k : Int) < (N : Int) := by omega
      clear q1 q2 hx
      go_wp2
      go_region
      go_wp2
      go_roundw
      case rel => exact ⟨k + 1, by omega, by go_num, HBR.out.drew⟩
      case measure => simp [intOf]; omega
    · obtain rfl : k = N := by omega
      go_wp2
      go_ret
      exact ⟨rfl, HBR.out⟩
theorem Cells.undefer {W : World} {B : Option Addr} {l : List Int} {d : Nat} {x : Option (List Deferred)} (h : Cells W B l) (D : W.heap[d]? = some (.deferred x)) : Cells (W.putObj d (.deferred none)) B l := fun h0 => by
  obtain ⟨b, off, rfl, hl, hcc⟩ := h h0
  have hbn : b ≠ d := fun e => by
    have := hcc 0 h0
    unfold World.cell? at this
    rw [show (⟨b, off + 0, none⟩ : Addr).block = d from e, D] at this
    cases this
  exact ⟨b, off, rfl, by simpa using hl, fun k hk => (World.cell?_of_block (w := W) (a := ⟨b, off + k, none⟩) (World.putObj_heap_other (by omega))).trans (hcc k hk)⟩
theorem Cells.but' {w w' : World} {A : Option Addr} {zs : List Int} {sb : Nat} (h : Cells w A zs) (ho : 0 < zs.length → Off sb A) (hW : But sb w w') : Cells w' A zs := h.rest' ho hW.block
set_option maxRecDepth 100000 in
set_option maxHeartbeats 8000000 in
theorem Deconvolve_ok (h a b : List Int) (e : Nat) (he : e ≤ 6) (A B : Option Addr) (ca cb N L : Nat) (w : World) (hN : N = h.length) (hN1 : 1 ≤ N) (hN5 : N ≤ 256) (hL : L = N + 2 ^ e - 1) (ea : a = conv h (gol e).1) (eb : b = conv h (gol e).2) (hh : lvls h) (ha : lvls a) (hb : lvls b) (hA : Cells w A a) (hB : Cells w B b)
    (HSM : Hid (smL (gol e).1 (gol e).2 a b (2 ^ e) N = h.map fun x => x * (2 * ((2 ^ e : Nat) : Int)))) :
    Calls Try.prog 7 #[.slice A L ca, .slice B L cb, (.int .i64 (((2 ^ e : Nat) : Int)))] w fun r w' => ∃ u, r = .returned (.tuple #[u, (.int .i64 0)]) ∧ FS w.heap.size h u w' ∧ Below w.heap.size w w' := by
  have hfn : ∀ f, Fence.wide.fn f = True := fun _ => rfl
  obtain ⟨g1, g2⟩ := gol_len e
  obtain ⟨m1, m2⟩ := gol_pm e
  have hp64 := pow_le_64 he
  have hla : L = a.length := by rw [ea, conv_len, if_neg (by omega), hL, g1, hN]
  have hlb : L = b.length := by rw [eb, conv_len, if_neg (by omega), hL, g2, hN]
  have HSU := Lib.hid (fun W (q1 : Cells W A a) (q2 : Cells W B b) => sums_ok a b e he A B ca cb L W hla hlb (by omega) (by omega) ha hb q1 q2)
  have hlv1 : lvls (gol e).1 := fun x hx => by have := m1 x hx; omega
  have hlv2 : lvls (gol e).2 := fun x hx => by have := m2 x hx; omega
  obtain ⟨M, hM⟩ : ∃ M, M = 2 ^ e := ⟨_, rfl⟩
  obtain ⟨P0, hP0⟩ : ∃ P0, P0 = (gol e).1 := ⟨_, rfl⟩
  obtain ⟨P1, hP1⟩ : ∃ P1, P1 = (gol e).2 := ⟨_, rfl⟩
  rw [← hM] at hL hp64 g1 g2
  rw [← hM, ← hP0, ← hP1] at HSU HSM
  rw [← hP0] at g1 hlv1 ea
  rw [← hP1] at g2 hlv2 eb
  rw [← hM]
  rw [show L - M + 1 = N by omega] at HSU
  obtain ⟨SM, hSM⟩ : ∃ SM, SM = smL P0 P1 a b M N := ⟨_, rfl⟩
  rw [← hSM] at HSU HSM
  have hsl : N = SM.length := by rw [hSM, smL_len]
  have hMi : 1 ≤ (M : Int) ∧ (M : Int) ≤ 4096 := by omega
  have hmap : SM.map (fun x => x / (2 * (M : Int))) = h := by
    rw [HSM.out, List.map_map]
    conv => rhs; rw [← List.map_id h]
    refine List.map_congr_left fun x _ => ?_
    exact Int.mul_ediv_cancel x (by omega)
  have hsb : ∀ x ∈ SM, -2147483648 ≤ x ∧ x ≤ 2147483648 := fun x hx => by
    rw [HSM.out] at hx
    obtain ⟨y, hy, rfl⟩ := List.mem_map.1 hx
    have := hh y hy
    have h1 : y.natAbs ≤ 1048576 := by omega
    have h3 : (y * (2 * (M : Int))).natAbs ≤ 1048576 * 128 := by rw [Int.natAbs_mul]; exact Nat.mul_le_mul h1 (by omega)
    omega
  have HMD : Hid (∀ (W : World) (S : Option Addr) (d b1 : Nat), Cells W S SM → b1 < W.heap.size → W.cell? ⟨b1, 0, none⟩ = some (.int .i64 ((M : Int))) → Calls Try.prog 33 #[.slice S N d, .func (.func 34) #[] #[.pointer (some ⟨b1, 0, none⟩)]] W fun r w' => (∃ B d, r = .returned (.slice B N d) ∧ Cells w' B h ∧ ∀ p, B = some p → W.heap.size ≤ p.block) ∧ Below W.heap.size W w') := Lib.hid (fun W S d b1 q0 q1 q2 => by
    have := mapDec_any S SM d N (M : Int) b1 W hsl q0 (by omega) q1 q2 hMi hsb
    rwa [hmap] at this)
  obtain ⟨F, hF⟩ : ∃ F, F = ansF h P0 P1 := ⟨_, rfl⟩
  have hF0 : F 0 = a := by rw [hF, ea]; rfl
  have hF1 : F 1 = b := by rw [hF, eb]; rfl
  have HIT : Hid (∀ (W : World) (A0 A1 A2 : Option Addr) (c0 c1 c2 Pb Hb sb m : Nat), Cells W A0 h → Cells W A1 P0 → Cells W A2 P1 → Blk W Pb #[.slice A1 M c1, .slice A2 M c2] → Blk W Hb #[.slice A0 N c0] → (0 < h.length → Off sb A0) → (0 < P0.length → Off sb A1) → (0 < P1.length → Off sb A2) → Pb ≠ sb → Hb ≠ sb → W.heap.size ≤ Pb + 1 → 1 ≤ m →
      IterR Fence.wide m Try.prog 74 #[.pointer (some ⟨Pb, 0, none⟩), .pointer (some ⟨Hb, 0, none⟩)] 2 (AnsR W.heap.size F) (List.range 2) (Rest sb W.heap.size) W) := Lib.hid (fun W A0 A1 A2 c0 c1 c2 Pb Hb sb m q0 q1 q2 kP kH o0 o1 o2 oP oH hz hm => by
    rw [hF]; exact answers1_iter h P0 P1 A0 A1 A2 N M c0 c1 c2 Pb Hb sb W m hN g1.symm g2.symm (by omega) (by omega) hh hlv1 hlv2 q0 q1 q2 kP kH o0 o1 o2 oP oH hz hm)
  have HEQA : Hid (∀ (W : World) (X : Option Addr) (d : Nat), Cells W X (F 0) → Cells W A a → Calls Try.prog 36 #[.slice X (F 0).length d, .slice A L ca] W fun r w' => r = .returned (.bool true) ∧ Below W.heap.size W w') := Lib.hid (fun W X d q1 q2 => by
    rw [hF0, ← hla]; rw [hF0] at q1; exact equal_ok a X A d ca L W hla (by omega) q1 q2)
  have HEQB : Hid (∀ (W : World) (X : Option Addr) (d : Nat), Cells W X (F 1) → Cells W B b → Calls Try.prog 36 #[.slice X (F 1).length d, .slice B L cb] W fun r w' => r = .returned (.bool true) ∧ Below W.heap.size W w') := Lib.hid (fun W X d q1 q2 => by
    rw [hF1, ← hlb]; rw [hF1] at q1; exact equal_ok b X B d cb L W hlb (by omega) q1 q2)
  have HSL := Lib.hid hsl
  have HG1 := Lib.hid g1
  have HG2 := Lib.hid g2
  have HN := Lib.hid hN
  have HA := Lib.hid hA
  have HB := Lib.hid hB
  clear hN hh ha hb hA hB hlv1 hlv2 m1 m2 hM hP0 hP1 g1 g2 hF hF0 hF1 he ea eb hla hlb HSM hSM hsl hmap hsb hL hp64
  refine (callsIn_wide (n := 10)).1 ?_
  refine callsIn_of_wp_marks Try.func7 rfl trivial ?_ rfl
  simp only [Try.ntmps7, List.size_toArray, List.length_cons, List.length_nil, Nat.reduceAdd, Nat.reduceSub, Array.replicate_succ, Array.replicate_zero, List.push_toArray, List.append_toArray, List.nil_append, List.cons_append]
  gi_wp2_with (gi_at_call 32; refine callsIn_wide.2 ?_; refine name_calls ?_; intro w1 e1; refine Hid.out ?_)
  unfold Hid
  have h1 : Below w.heap.size w w1 := by rw [e1]; exact bel
  have R5 : Blk w1 w.heap.size #[(.int .i64 ((M : Int)))] := by rw [e1]; (repeat (first | ((with_reducible refine Blk.at_ ?_); focus (first | rfl | (simp; done) | (simp; omega))) | (with_reducible refine Blk.alloc ?_ _) | (with_reducible refine Blk.below ?_ (by with_reducible assumption)) | (with_reducible refine Blk.drew ?_)))
  have R6 : Blk w1 (w.heap.size + 1) #[.slice none 0 0] := by rw [e1]; (repeat (first | ((with_reducible refine Blk.at_ ?_); focus (first | rfl | (simp; done) | (simp; omega))) | (with_reducible refine Blk.alloc ?_ _) | (with_reducible refine Blk.below ?_ (by with_reducible assumption)) | (with_reducible refine Blk.drew ?_)))
  have R7 : Blk w1 (w.heap.size + 2) #[(.int .i64 0)] := by rw [e1]; (repeat (first | ((with_reducible refine Blk.at_ ?_); focus (first | rfl | (simp; done) | (simp; omega))) | (with_reducible refine Blk.alloc ?_ _) | (with_reducible refine Blk.below ?_ (by with_reducible assumption)) | (with_reducible refine Blk.drew ?_)))
  have HB1 := Lib.hid h1
  have HR1 := Lib.hid (show Blk w1 w.heap.size #[(.int .i64 ((M : Int)))] ∧ Blk w1 (w.heap.size + 1) #[.slice none 0 0] ∧ Blk w1 (w.heap.size + 2) #[(.int .i64 0)] from ⟨R5, R6, R7⟩)
  have hz1 : w.heap.size + 2 < w1.heap.size := R7.lt
  clear e1 h1 R5 R6 R7
  refine (HSU.out w1 (HA.out.below HB1.out) (HB.out.below HB1.out)).mono ?_
  rintro r w2 ⟨s, u, v, rfl, ⟨S, d, rfl, hS, fS⟩, ⟨A1, a1, rfl, hA1, f1⟩, ⟨A2, a2, rfl, hA2, f2⟩, h2⟩
  have HB2 := Lib.hid (HB1.out.trans (h2.mono HB1.out.size))
  have HR2 := Lib.hid (show Blk w2 w.heap.size #[(.int .i64 ((M : Int)))] ∧ Blk w2 (w.heap.size + 1) #[.slice none 0 0] ∧ Blk w2 (w.heap.size + 2) #[(.int .i64 0)] from ⟨HR1.out.1.below h2, HR1.out.2.1.below h2, HR1.out.2.2.below h2⟩)
  have HS := Lib.hid hS
  have HC1 := Lib.hid hA1
  have HC2 := Lib.hid hA2
  have hz2 := h2.size
  rw [← HSL.out, HG1.out, HG2.out]
  obtain ⟨c5, l5, z5⟩ := HR2.out.1.o1
  clear h2 hS hA1 hA2 fS f1 f2 HSU
  gi_wp2_with (gi_at_call 33; refine callsIn_wide.2 ?_; refine name_calls ?_; intro w3 e3; refine Hid.out ?_)
  unfold Hid
  have h3 : Below w2.heap.size w2 w3 := by rw [e3]; exact bel
  have K9 : Blk w3 w2.heap.size #[.slice A1 M a1, .slice A2 M a2] := by rw [e3]; (repeat (first | ((with_reducible refine Blk.at_ ?_); focus (first | rfl | (simp; done) | (simp; omega))) | (with_reducible refine Blk.alloc ?_ _) | (with_reducible refine Blk.below ?_ (by with_reducible assumption)) | (with_reducible refine Blk.drew ?_)))
  have HB3 := Lib.hid (HB2.out.trans (h3.mono HB2.out.size))
  have HR3 := Lib.hid (show Blk w3 w.heap.size #[(.int .i64 ((M : Int)))] ∧ Blk w3 (w.heap.size + 1) #[.slice none 0 0] ∧ Blk w3 (w.heap.size + 2) #[(.int .i64 0)] from ⟨HR2.out.1.below h3, HR2.out.2.1.below h3, HR2.out.2.2.below h3⟩)
  have HC13 := Lib.hid (HC1.out.below h3)
  have HC23 := Lib.hid (HC2.out.below h3)
  have HS3 := Lib.hid (HS.out.below h3)
  have hz3 : w2.heap.size < w3.heap.size := K9.lt
  clear e3 h3 c5 l5 z5
  refine (HMD.out w3 S d w.heap.size HS3.out HR3.out.1.lt (by rw [HR3.out.1.c]; rfl)).mono ?_
  rintro r w4 ⟨⟨H, hd, rfl, hH, fH⟩, h4⟩
  have HB4 := Lib.hid (HB3.out.trans (h4.mono HB3.out.size))
  have HR4 := Lib.hid (show Blk w4 w.heap.size #[(.int .i64 ((M : Int)))] ∧ Blk w4 (w.heap.size + 1) #[.slice none 0 0] ∧ Blk w4 (w.heap.size + 2) #[(.int .i64 0)] from ⟨HR3.out.1.below h4, HR3.out.2.1.below h4, HR3.out.2.2.below h4⟩)
  have HC14 := Lib.hid (HC13.out.below h4)
  have HC24 := Lib.hid (HC23.out.below h4)
  have HH := Lib.hid hH
  have K94 := K9.below h4
  have HFH : Hid (∀ p, H = some p → w.heap.size + 2 < p.block) := Lib.hid (fun p hp => by have := fH p hp; omega)
  have hz4 := h4.size
  obtain ⟨s0, s1, sl, sf⟩ := K94.o2
  clear h4 hH K9 K94 fH
  gi_wp2_with (gi_at_call 29; refine callsIn_wide.2 ?_; refine name_calls ?_; intro w5 e5; refine Hid.out ?_)
  unfold Hid
  have h5 : Below w4.heap.size w4 w5 := by rw [e5]; exact bel
  have KG : Blk w5 w4.heap.size #[.slice A L ca, .slice B L cb] := by rw [e5]; (repeat (first | ((with_reducible refine Blk.at_ ?_); focus (first | rfl | (simp; done) | (simp; omega))) | (with_reducible refine Blk.alloc ?_ _) | (with_reducible refine Blk.below ?_ (by with_reducible assumption)) | (with_reducible refine Blk.drew ?_)))
  have HB5 := Lib.hid (HB4.out.trans (h5.mono HB4.out.size))
  have HR5 := Lib.hid (show Blk w5 w.heap.size #[(.int .i64 ((M : Int)))] ∧ Blk w5 (w.heap.size + 1) #[.slice none 0 0] ∧ Blk w5 (w.heap.size + 2) #[(.int .i64 0)] from ⟨HR4.out.1.below h5, HR4.out.2.1.below h5, HR4.out.2.2.below h5⟩)
  have HC15 := Lib.hid (HC14.out.below h5)
  have HC25 := Lib.hid (HC24.out.below h5)
  have HH5 := Lib.hid (HH.out.below h5)
  have HKG := Lib.hid KG
  have hz5 : w4.heap.size < w5.heap.size := KG.lt
  clear e5 h5 KG s0 s1 sl sf
  refine (answers_any H A1 A2 N M M hd a1 a2 w5).mono ?_
  rintro r w7 ⟨rfl, h7, kH, kP, hz7⟩
  have HB7 := Lib.hid (HB5.out.trans (h7.mono HB5.out.size))
  have HR7 := Lib.hid (show Blk w7 w.heap.size #[(.int .i64 ((M : Int)))] ∧ Blk w7 (w.heap.size + 1) #[.slice none 0 0] ∧ Blk w7 (w.heap.size + 2) #[(.int .i64 0)] from ⟨HR5.out.1.below h7, HR5.out.2.1.below h7, HR5.out.2.2.below h7⟩)
  have HKG7 := Lib.hid (HKG.out.below h7)
  have HH7 := Lib.hid (HH5.out.below h7)
  have HA7 := Lib.hid (HA.out.below HB7.out)
  have HBB7 := Lib.hid (HB.out.below HB7.out)
  have HIT7 := Lib.hid (HIT.out w7 H A1 A2 hd a1 a2 (w5.heap.size + 1) w5.heap.size w7.heap.size (10 - 1) HH7.out (HC15.out.below h7) (HC25.out.below h7) kP kH (HH7.out.off (Nat.le_refl _)) ((HC15.out.below h7).off (Nat.le_refl _)) ((HC25.out.below h7).off (Nat.le_refl _)) (by omega) (by omega) (by omega) (by decide))
  have hgl : w4.heap.size < w7.heap.size := by omega
  clear h7 kH kP HIT
  gi_wp2
  have hIO : OwnFrom w7.heap.size (fun (pre : List Nat) W => But w7.heap.size w7 W) := but_own w7 w7.heap.size
  have HIO := Lib.hid hIO
  refine range_iterR (F := Fence.wide) (n := 10) rfl (by decide) (gf := 74) (lb := #[.pointer (some ⟨w5.heap.size + 1, 0, none⟩), .pointer (some ⟨w5.heap.size, 0, none⟩)]) rfl trivial (enters_of Try.func74 (by kernel_rfl) rfl)
    (all := List.range 2) (R := AnsR w7.heap.size F) (C := Rest w7.heap.size w7.heap.size) (fun k hk => hk.1) HIT7.out
    _ hIO (But.refl _ _)
    (fun (pre : List Nat) (x : Nat) (a' : Act) (W : World) => But w7.heap.size w7 W ∧ ∃ X c, Cells W X (F x) ∧ (∀ p, X = some p → w7.heap.size ≤ p.block) ∧ a' = { tmps := #[.slice A L ca, .slice B L cb, (.int .i64 ((M : Int))), undef, undef, .pointer (some ⟨w.heap.size, 0, none⟩), .pointer (some ⟨w.heap.size + 1, 0, none⟩), .pointer (some ⟨w.heap.size + 1 + 1, 0, none⟩), .slice S N d, .pointer (some ⟨w2.heap.size, 0, none⟩), (.int .i64 0), .slice H N hd, .pointer (some ⟨w4.heap.size, 0, none⟩), (.int .i64 ((x : Int))), .slice X (F x).length c, .tuple #[.slice S N d, .agg #[.slice A1 M a1, .slice A2 M a2], (.int .i64 0)], .slice A L ca, .slice B L cb, (.int .i64 ((M : Int))), .tuple #[.slice S N d, .agg #[.slice A1 M a1, .slice A2 M a2], (.int .i64 0)], .slice S N d, .agg #[.slice A1 M a1, .slice A2 M a2], (.int .i64 0), (.int .i64 0), .bool false, undef, .slice S N d, .func (.func 34) #[] #[.pointer (some ⟨w.heap.size, 0, none⟩)], .slice H N hd, .slice A L ca, .slice B L cb, .agg #[.slice A L ca, .slice B L cb], .slice H N hd, .agg #[.slice A1 M a1, .slice A2 M a2], .func (.func 74) #[] #[.pointer (some ⟨w5.heap.size + 1, 0, none⟩), .pointer (some ⟨w5.heap.size, 0, none⟩)], (.int .i64 ((x : Int))), .slice X (F x).length c, undef, undef, undef, undef, undef, undef, undef], defers := [] })
    ?hax ?assign ?body ?done
  case assign =>
    rintro r pre x v W hi hpost hsz hcb hvs ⟨X, c, rfl, hC, hne⟩
    have hsem : ∀ (ρ : Operand → Value) (o : Oper), (∀ c, o.op ≠ .defer c) → Oper.semAt (some r) ρ o = execOp ρ o := Oper.semAt_some r
    have HI := Lib.hid hi
    have HCX := Lib.hid hC
    clear hi hIO hcb hC
    gi_wp2
    exact ⟨Same.refl _ _, HI.out, X, c, HCX.out, hne, rfl⟩
  case hax =>
    rintro pre x a' u X Y row ⟨hi, B', c, h1, h2, h3⟩ hg hrow
    exact ⟨HIO.out pre X Y row hi hg hrow, B', c, cells_grown h1 hg (fun r e => (hrow r e).2), h2, h3⟩
  case body =>
    rintro r pre x a' W ⟨hbut, X, c, hC, hne, rfl⟩ hpost hsz hcb
    have hsem : ∀ (ρ : Operand → Value) (o : Oper), (∀ c, o.op ≠ .defer c) → Oper.semAt (some r) ρ o = execOp ρ o := Oper.semAt_some r
    clear hIO
    rcases pre_of hpost with ⟨rfl, rfl⟩ | ⟨rfl, rfl⟩
    · have ek : ((0 : Nat) : Int) = 0 := rfl
      rw [ek]
      have HCX := Lib.hid hC
      have HBUT := Lib.hid hbut
      have KG := blk_but HKG7.out (by omega) hbut
      obtain ⟨f0, f1, fl, ff⟩ := KG.o2
      have hAW := HA7.out.but' (HA7.out.off (Nat.le_refl _)) hbut
      clear hC hbut hpost hcb KG
      gi_wp2_with (gi_at_call 36; refine CallsIn.inRound _ (callsIn_wide.2 ?_); refine (HEQA.out _ _ _ HCX.out hAW).mono ?_; rintro r8 w8 ⟨rfl, h8⟩; refine Hid.out ?_)
      unfold Hid
      have HB8 := Lib.hid h8
      clear h8 f0 f1 fl ff
      gi_wp2
      refine ⟨fun j o hj ho => ?_, HBUT.out.trans (But.of HB8.out)⟩
      rw [HB8.out.block j (Array.getElem?_eq_some_iff.1 ho).1]
      exact ho
    · have ek : ((1 : Nat) : Int) = 1 := rfl
      rw [ek]
      have HCX := Lib.hid hC
      have HBUT := Lib.hid hbut
      have KG := blk_but HKG7.out (by omega) hbut
      obtain ⟨f0, f1, fl, ff⟩ := KG.o2
      have hAW := HBB7.out.but' (HBB7.out.off (Nat.le_refl _)) hbut
      clear hC hbut hpost hcb KG
      gi_wp2_with (gi_at_call 36; refine CallsIn.inRound _ (callsIn_wide.2 ?_); refine (HEQB.out _ _ _ HCX.out hAW).mono ?_; rintro r8 w8 ⟨rfl, h8⟩; refine Hid.out ?_)
      unfold Hid
      have HB8 := Lib.hid h8
      clear h8 f0 f1 fl ff
      gi_wp2
      refine ⟨fun j o hj ho => ?_, HBUT.out.trans (But.of HB8.out)⟩
      rw [HB8.out.block j (Array.getElem?_eq_some_iff.1 ho).1]
      exact ho
  case done =>
    rintro W hbut hdef
    have R6 := blk_but HR7.out.2.1 (by omega) hbut
    have R7 := blk_but HR7.out.2.2 (by omega) hbut
    have HHW := Lib.hid (HH7.out.but' (HH7.out.off (Nat.le_refl _)) hbut)
    have HR6' := Lib.hid R6
    have HR7' := Lib.hid R7
    have HBT := Lib.hid hbut
    have HDEF := Lib.hid hdef
    have hDl := (Array.getElem?_eq_some_iff.1 hdef).1
    obtain ⟨x6, x6l, x6f⟩ := R6.o1
    obtain ⟨x7, x7l, x7f⟩ := R7.o1
    clear R6 R7 hbut hdef hIO
    gi_wp2
    obtain ⟨W8, hW8⟩ : ∃ W8, W8 = (W.setCell ⟨w.heap.size + 1, 0, none⟩ (.slice H N hd)).setCell ⟨w.heap.size + 1 + 1, 0, none⟩ (.int .i64 0) := ⟨_, rfl⟩
    rw [← hW8]
    have hbl : ∀ k, k ≠ w.heap.size + 1 → k ≠ w.heap.size + 1 + 1 → W8.heap[k]? = W.heap[k]? := fun k z1 z2 => by
      rw [hW8, Below.heap_setCell _ _ _ _ z2, Below.heap_setCell _ _ _ _ z1]
    have Z6 : Blk W8 (w.heap.size + 1) #[.slice H N hd] := by
      rw [hW8]
      exact (HR6'.out.set (i := 0) (by simp) _).far (by simp) _
    have Z7 : Blk W8 (w.heap.size + 2) #[(.int .i64 0)] := by
      rw [hW8]
      exact (HR7'.out.far (by simp) _).set (i := 0) (by simp) _
    have D8 : W8.heap[w7.heap.size]? = some (.deferred (some [])) := by rw [hbl _ (by omega) (by omega)]; exact HDEF.out
    have C' : Cells W8 H h := HHW.out.of_blocks (fun p hp => hbl _ (by have := HFH.out p hp; omega) (by have := HFH.out p hp; omega))
    have B8 : Below w.heap.size w W8 := by
      rw [hW8]
      exact ((HB7.out.trans (HBT.out.below (B := w.heap.size) (by omega) (by omega))).setCell (by simp) _).setCell (by simp; omega) _
    clear hW8 x6 x6l x6f x7 x7l x7f
    refine ⟨by simp, .inl ⟨_, _, rfl, run_takeDeferred D8, ?_⟩⟩
    have hpo : ∀ k, k ≠ w7.heap.size → (W8.putObj w7.heap.size (.deferred none)).heap[k]? = W8.heap[k]? := fun k hk => World.putObj_heap_other (by omega)
    have Y6 := Z6.of_block (hpo _ (by omega))
    have Y7 := Z7.of_block (hpo _ (by omega))
    have B9 := B8.trans (belowK_b (w := w) (Nat.le_refl _) W8 w7.heap.size (.deferred (some [])) (.deferred none) (by omega) D8 rfl rfl)
    have C'' := C'.undefer D8
    obtain ⟨u6, -, -⟩ := Y6.o1
    obtain ⟨u7, -, -⟩ := Y7.o1
    refine ⟨.tuple #[.slice H N hd, (.int .i64 0)], ?_, _, rfl, ⟨H, hd, by rw [← HN.out], C'', fun p hp => by have := HFH.out p hp; omega⟩, B9⟩
    simp [results, Try.results7, go_sem, u6, u7]
end Go.Proofs.Ytamldoidalnloaa

/- chamber's energy and Gate. -/
namespace Go.Proofs.Ytamldoidalnloaa
open Go.RowKit
open Calm (bcell Blk)
/-- a response that is gated from 0 on. -/
def gateL (l : List Int) (at' : Nat) : List Int := l.take at' ++ List.replicate (l.length - at') 0
end Go.Proofs.Ytamldoidalnloaa

/- slices.Backward as an iterator; chamber's decay and Decay. -/
namespace Go.Proofs.Ytamldoidalnloaa
open Go.RowKit
open Calm (bcell Blk)
theorem range_split {k N : Nat} (h : k < N) : List.range N = List.range k ++ k :: (List.range N).drop (k + 1) := by
  conv => lhs; rw [← List.take_append_drop k (List.range N)]
  congr 1
  · rw [List.take_range, Nat.min_eq_left (by omega)]
  · rw [List.drop_eq_getElem_cons (by simpa using h)]
    simp
/-- the sum of the squares of the last k elements. -/
def dK (l : List Int) : Nat → Int
  | 0 => 0
  | k + 1 => dK l k + l.getD (l.length - 1 - k) 0 * l.getD (l.length - 1 - k) 0
def decL (l : List Int) : List Int := (List.range l.length).map fun i => dK l (l.length - i)
theorem range_pre {N x : Nat} {pre : List Nat} (h : ∃ post, List.range N = pre ++ x :: post) : x < N ∧ pre.length = x := by
  obtain ⟨post, h⟩ := h
  have h1 : (List.range N)[pre.length]? = some x := by rw [h]; simp
  have h2 : pre.length < N := by
    rcases Nat.lt_or_ge pre.length N with q | q
    · exact q
    · rw [List.getElem?_eq_none (by simpa using q)] at h1; cases h1
  rw [List.getElem?_range h2] at h1
  cases h1
  exact ⟨h2, rfl⟩
end Go.Proofs.Ytamldoidalnloaa

/- chamber's find and Reflection. -/
namespace Go.Proofs.Ytamldoidalnloaa
open Go.RowKit
open Calm (bcell Blk)
/-- the first index at which two lists differ by more than 0. -/
def firstD (a b : List Int) : Nat → Option Nat
  | 0 => none
  | n + 1 => match firstD a b n with
    | some i => some i
    | none => if a.getD n 0 = b.getD n 0 then none else some n
/-- what find tells. -/
def findV (a b : List Int) (N : Nat) : Value := match firstD a b N with
  | some i => .tuple #[(.int .i64 ((i : Int))), (.int .i64 0)]
  | none => .tuple #[(.int .i64 0), (.int .i64 7)]
end Go.Proofs.Ytamldoidalnloaa

/- Contracts of the small functions of the package line. -/
namespace Go.Proofs.Ytamldoidalnloaa
open Go.RowKit
open Calm (bcell Blk)
theorem lnWhen_any (b : Bool) (e : Int) (w : World) : Calls Try.prog 71 #[.bool b, (.int .i64 e)] w fun r w' => r = .returned (.int .i64 (if b then e else 0)) ∧ w = w' := by
  cases b <;>
  · go_enter Try.func71, Try.ntmps71
    go_wp2
    go_ret
    exact ⟨rfl, rfl⟩

theorem lnWithin_any (n lo hi : Int) (w : World) : Calls Try.prog 115 #[(.int .i64 n), (.int .i64 lo), (.int .i64 hi)] w fun r w' => r = .returned (.int .i64 (rangeErr n lo hi)) ∧ w = w' := by
  rcases Int.lt_or_le n lo with h | h
  · go_enter Try.func115, Try.ntmps115
    go_wp2_with (go_at_call 71; refine (lnWhen_any _ _ _).mono ?_; rintro r w' ⟨rfl, rfl⟩)
    go_ret
    exact ⟨ret_i (rangeErr_lo h).symm, rfl⟩
  · rcases Int.lt_or_le hi n with h' | h'
    · go_enter Try.func115, Try.ntmps115
      go_wp2_with (go_at_call 71; refine (lnWhen_any _ _ _).mono ?_; rintro r w' ⟨rfl, rfl⟩)
      go_ret
      exact ⟨ret_i (rangeErr_hi h').symm, rfl⟩
    · go_enter Try.func115, Try.ntmps115
      go_wp2_with (go_at_call 71; refine (lnWhen_any _ _ _).mono ?_; rintro r w' ⟨rfl, rfl⟩)
      go_ret
      exact ⟨ret_i (rangeErr_in (by omega) (by omega)).symm, rfl⟩

theorem lnFirst_any (l : List Int) (A : Option Addr) (c : Nat) (w : World) (hl : l.length ≤ 5000) (hC : Cells w A l) :
    Calls Try.prog 69 #[.slice A l.length c] w fun r w' => r = .returned (.int .i64 (firstOf l)) ∧ w = w' := by
  go_enter Try.func69, Try.ntmps69
  go_wp2
  go_loop [4, 7] (fun _ i => ∃ k : Nat, k ≤ l.length ∧ i = (.int .i64 k) ∧ ∀ j, j < k → l.getD j 0 = 0) (fun _ i => l.length - (intOf i).toNat)
  case atStart => exact ⟨0, Nat.zero_le _, rfl, fun j hj => by omega⟩
  case round =>
    obtain ⟨k, hk, rfl, hz⟩ := hrel
    have HZ := Lib.hid hz
    clear hz
    by_cases hlt : k < l.length
    · obtain ⟨b, off, rfl, hbl, hc⟩ := hC (by omega)
      have hck := hc k hlt
      clear hc hC
      by_cases h0 : l.getD k 0 = 0
      · rw [h0] at hck
        have H0 := Lib.hid h0
        clear h0
        go_wp2
        go_round
        case rel => exact ⟨k + 1, by omega, by go_num, fun j hj => by
          rcases Nat.lt_or_ge j k with hjk | hjk
          · exact HZ.out j hjk
          · obtain rfl : j = k := by omega
            exact H0.out⟩
        case measure => simp [intOf]; omega
      · obtain ⟨x, hx⟩ : ∃ x, x = l.getD k 0 := ⟨_, rfl⟩
        rw [← hx] at hck h0
        have H0 := Lib.hid hx
        clear hx
        go_wp2
        go_ret
        exact ⟨ret_i (by rw [firstOf_take HZ.out hlt (by rw [← H0.out]; exact h0)]; exact H0.out), rfl⟩
    · clear hC
      go_wp2
      go_ret
      exact ⟨ret_i (by rw [firstOf_zero (fun j hj => HZ.out j (by omega))]), rfl⟩


theorem lnLevel_any (n : Int) (w : World) : Calls Try.prog 107 #[(.int .i64 n)] w fun r w' => r = .returned (.int .i64 (rangeErr n (-100000) 100000)) ∧ w = w' := by
  go_enter Try.func107, Try.ntmps107
  go_wp2_with (go_at_call 115; refine (lnWithin_any _ _ _ _).mono ?_; rintro r w1 ⟨rfl, rfl⟩)
  go_ret
  exact ⟨rfl, rfl⟩
set_option maxHeartbeats 1000000 in
theorem lnMapLev_any (A : Option Addr) (l : List Int) (c : Nat) (w : World) (hC : Cells w A l) (hn : l.length ≤ 5000) :
    Calls Try.prog 106 #[.slice A l.length c, .func (.func 107) #[] #[]] w fun r w' =>
      (∃ B d, r = .returned (.slice B l.length d) ∧ Cells w' B (l.map fun n => rangeErr n (-100000) 100000)) ∧ Below w.heap.size w w' := by
  obtain ⟨i0, hii, hz0, hz1, hz2⟩ := info_parts Try.infoE
  have HC := Lib.hid hC
  obtain ⟨N, hN⟩ : ∃ N, N = l.length := ⟨_, rfl⟩
  have HN := Lib.hid hN
  have HL : Hid (∀ k, k ≤ N → (errsK l (-100000) 100000 k).length = k) := Lib.hid (fun k hk => errsK_len (by rw [← hN]; exact hk))
  rw [← hN] at hn ⊢
  clear hN hC
  go_enter Try.func106, Try.ntmps106
  go_wp2
  go_loopw [5, 10] (fun v i wr => ∃ k : Nat, k ≤ N ∧ i = (.int .i64 ((k : Int))) ∧ wr.ownsRow w.heap.size 24 1 v (errsK l (-100000) 100000 k).length ((errsK l (-100000) 100000 k).map (Value.int .i64)) ∧ Below w.heap.size w wr) (fun _ i _ => N - (intOf i).toNat)
  case atStart => exact ⟨0, Nat.zero_le _, rfl, World.ownsRow_nil _ _ _ _, Below.refl _ _⟩
  case round =>
    obtain ⟨k, hk, rfl, hown, hB⟩ := hrel
    have HO := Lib.hid hown
    have hle := Lib.hid (HL.out k hk)
    have hsz := hB.size
    clear hown
    by_cases hlt : k < N
    · obtain ⟨b, o, rfl, l1, k1⟩ := HC.out (by rw [← HN.out]; omega)
      have x1 := (hB.cell (p := ⟨b, o + k, none⟩) l1).trans (k1 k (by rw [← HN.out]; exact hlt))
      have HS := Lib.hid (errsK_succ (lo := -100000) (hi := 100000) (show k < l.length by rw [← HN.out]; exact hlt))
      obtain ⟨x, hx⟩ : ∃ x, x = l.getD k 0 := ⟨_, rfl⟩
      rw [← hx] at x1 HS
      clear k1 hx
      go_wp2_with (first
        | (go_at_call 107; refine (lnLevel_any x _).mono ?_; rintro r w2 ⟨rfl, rfl⟩)
        | (at_builtin; refine wpList_append_own _ rfl _ _ 74 rfl w.heap.size 24 i0 (.int .i64 0) 1 8 Try.underlying74 hii hz0 hz1 hz2 rfl (by decide) _ _ _ rfl (HO.out.alloc _) ⟨wr.heap.size, 0, none⟩ 1 1 [.int .i64 (rangeErr x (-100000) 100000)] rfl rfl ?c1 ?c2 ?c3 ?c4 ?c5 ?_))
      case c1 =>
        intro j u hj
        match j, hj with
        | 0, hj => simp at hj; subst hj; simp [Addr.add]
      case c2 => intro u hu; simp at hu; subst hu; rfl
      case c3 => have := hle.out; unfold maxLen; omega
      case c4 => have := hle.out; omega
      case c5 => simp; omega
      intro v' w1 hown' hgrow _
      have hB' : Below w.heap.size w w1 := (hB.alloc hsz _).grown hgrow (by simp; omega) (fun j hj => (HO.out.lt j hj).1)
      have HO' := Lib.hid hown'
      clear hgrow hown'
      go_wp2
      go_roundw
      case rel => exact ⟨k + 1, by omega, by go_num, by rw [HS.out]; simpa using HO'.out, hB'⟩
      case measure => simp [intOf]; omega
    · obtain rfl : k = N := by omega
      have hown := HO.out
      have e : errsK l (-100000) 100000 k = l.map fun n => rangeErr n (-100000) 100000 := by rw [HN.out]; exact errsK_all _ _ _
      rw [hle.out, e] at hown
      obtain ⟨B, d, rfl, _, hr⟩ := own_ints hown (by simp [← HN.out])
      have HR := Lib.hid hr
      clear hown e hr
      go_wp2
      go_ret
      exact ⟨⟨B, d, rfl, HR.out⟩, hB⟩

theorem lnFirst_cells (l : List Int) (W : World) (hl : l.length ≤ 100) : Calls Try.prog 69 #[.slice (some ⟨W.heap.size, 0, none⟩) l.length l.length] (W.alloc (.cells (l.map (Value.int .i64)).toArray 24)) fun r w' => r = .returned (.int .i64 (firstOf l)) ∧ (W.alloc (.cells (l.map (Value.int .i64)).toArray 24)) = w' :=
  lnFirst_any l _ _ _ (by omega) (Cells.row (heap_new rfl))

end Go.Proofs.Ytamldoidalnloaa

/- Names of one letter; a unit by itself. -/
namespace Go.Proofs.Ytamldoidalnloaa
open Go.RowKit
open Calm (bcell Blk)
theorem iter_below (w : World) (s : ByteArray) (p : Nat) : Below w.heap.size w (w.iter s p) := (Below.refl _ _).alloc (Nat.le_refl _) _
set_option maxRecDepth 100000 in
set_option maxHeartbeats 4000000 in
theorem isName1 (c : UInt8) (w : World) (h1 : 97 ≤ c.toNat) (h2 : c.toNat ≤ 122) : Calls Try.prog 87 #[.string ⟨#[c]⟩] w fun r w' => r = .returned (.bool true) ∧ Below w.heap.size w w' := by
  obtain ⟨d, hd⟩ : ∃ d : ByteArray, d = ⟨#[c]⟩ := ⟨_, rfl⟩
  have hs : d.size = 1 := by rw [hd]; rfl
  have hc0 : ∀ h, d[0]'h = c := fun h => by subst hd; rfl
  have hne : (d.data.toList == ([] : List UInt8)) = false := by rw [hd]; rfl
  have hne2 : (d.data.toList != ([] : List UInt8)) = true := by rw [hd]; rfl
  have hem : d.toList.isEmpty = false := by rw [hd]; rw [ByteArray.toList]; simp [ByteArray.toList.loop, ByteArray.size]
  rw [← hd]
  clear hd
  obtain ⟨n, hn⟩ : ∃ n, n = c.toNat := ⟨_, rfl⟩
  rw [← hn] at h1 h2
  have e1 : decide ((65 : Int) ≤ (n : Int)) = true := decide_eq_true (by omega)
  have e2 : decide ((n : Int) ≤ 90) = false := decide_eq_false (by omega)
  have e3 : decide ((97 : Int) ≤ (n : Int)) = true := decide_eq_true (by omega)
  have e4 : decide ((n : Int) ≤ 122) = true := decide_eq_true (by omega)
  have e5 : decide ((48 : Int) ≤ (n : Int)) = true := decide_eq_true (by omega)
  have e6 : decide ((n : Int) ≤ 57) = false := decide_eq_false (by omega)
  have e7 : ((n : Int) == 95) = false := by simp; omega
  go_enter Try.func87, Try.ntmps87
  go_wp2
  go_loopw [3] (fun _ w' => ∃ k : Nat, k ≤ 1 ∧ w' = w.iter d k) (fun _ w' => 1 - w'.iterPos w.heap.size)
  case atStart => exact ⟨0, by omega, rfl⟩
  case round =>
    obtain ⟨k, hk, rfl⟩ := hrel
    rcases (by omega : k = 0 ∨ k = 1) with rfl | rfl
    · have hnx : ∀ ty, (Instr.next (.pointer (some ⟨w.heap.size, 0, none⟩)) true ty).run Try.prog (w.iter d 0) = _ := fun ty => run_next_ascii w d 0 ty (by omega) (by rw [hc0]; omega)
      rw [hc0, ← hn] at hnx
      go_wp2
      go_roundw
      case rel => exact ⟨1, by omega, rfl⟩
      case measure => simp
    · have hnx : ∀ ty, (Instr.next (.pointer (some ⟨w.heap.size, 0, none⟩)) true ty).run Try.prog (w.iter d 1) = _ := fun ty => run_next_end w d 1 ty (by omega)
      have hsi : (d.size : Int) ≤ 24 := by omega
      clear hs hc0
      go_wp2
      go_ret
      exact ⟨by first | rfl | (simp; done), iter_below _ _ _⟩
/-- a unit by itself: a name of one letter, one value. -/
def UnitV (c : UInt8) (v : Nat) : Value := .agg #[.string ⟨#[c]⟩, .slice (some ⟨v, 0, none⟩) 1 1]
set_option maxRecDepth 100000 in
set_option maxHeartbeats 4000000 in
theorem unitCheck (c : UInt8) (v : Nat) (x : Int) (w : World) (h1 : 97 ≤ c.toNat) (h2 : c.toNat ≤ 122) (hx : -100000 ≤ x ∧ x ≤ 100000) (hV : Blk w v #[(.int .i64 x)]) : Calls Try.prog 93 #[UnitV c v] w fun r w' => r = .returned (.int .i64 0) ∧ Below w.heap.size w w' := by
  have HIS : Hid (∀ W, Calls Try.prog 87 #[.string ⟨#[c]⟩] W fun r w' => r = .returned (.bool true) ∧ Below W.heap.size W w') := Lib.hid (fun W => isName1 c W h1 h2)
  have HWH : Hid (∀ (e : Int) W, Calls Try.prog 71 #[.bool false, (.int .i64 e)] W fun r w' => r = .returned (.int .i64 0) ∧ Below W.heap.size W w') := Lib.hid (fun e W => (lnWhen_any false e W).mono fun _ _ ⟨he, h2⟩ => ⟨he, h2 ▸ Below.refl _ _⟩)
  have HF3 : Hid (∀ (W : World), Calls Try.prog 69 #[.slice (some ⟨W.heap.size, 0, none⟩) 3 3] (W.alloc (.cells #[(.int .i64 0), (.int .i64 0), (.int .i64 0)] 24)) fun r w' => r = .returned (.int .i64 0) ∧ (W.alloc (.cells #[(.int .i64 0), (.int .i64 0), (.int .i64 0)] 24)) = w') := Lib.hid (fun W => lnFirst_cells [0, 0, 0] W (by simp))
  have HM : Hid (∀ W, Blk W v #[(.int .i64 x)] → Calls Try.prog 106 #[.slice (some ⟨v, 0, none⟩) 1 1, .func (.func 107) #[] #[]] W fun r w' => (∃ B d, r = .returned (.slice B 1 d) ∧ Cells w' B [0]) ∧ Below W.heap.size W w') := Lib.hid (fun W q => by
    have := lnMapLev_any (some ⟨v, 0, none⟩) [x] 1 W (Cells.blk q rfl) (by simp)
    simp only [List.map_cons, List.map_nil, rangeErr_in hx.1 hx.2] at this
    exact this)
  have HF1 : Hid (∀ W B d, Cells W B [0] → Calls Try.prog 69 #[.slice B 1 d] W fun r w' => r = .returned (.int .i64 0) ∧ W = w') := Lib.hid (fun W B d q => lnFirst_any [0] B d W (by simp) q)
  have HV := Lib.hid hV
  unfold UnitV
  obtain ⟨s, hs⟩ : ∃ s : ByteArray, s = ⟨#[c]⟩ := ⟨_, rfl⟩
  rw [← hs] at HIS ⊢
  clear hV hs hx h1 h2
  go_enter Try.func93, Try.ntmps93
  go_wp2
  refine name_world ?_
  intro w1 e1
  have K0 : Blk w1 w.heap.size #[.string s, .slice (some ⟨v, 0, none⟩) 1 1] := by rw [e1]; (repeat (first | ((with_reducible refine Blk.at_ ?_); focus (first | rfl | (simp; done) | (simp; omega))) | (with_reducible refine Blk.alloc ?_ _) | (with_reducible refine Blk.below ?_ (by with_reducible assumption)) | (with_reducible refine Blk.drew ?_)))
  have HB1 := Lib.hid (show Below w.heap.size w w1 by rw [e1]; exact bel)
  have HK0 := Lib.hid K0
  obtain ⟨a0, a1, al, af⟩ := K0.o2
  clear e1 K0
  refine Rel.region3 15 (by kernel_rfl) (by kernel_rfl) (by kernel_rfl) ?_
  simp only [List.take_succ_cons, List.take_zero, List.drop_succ_cons, List.drop_zero, List.filterMap_cons, List.filterMap_nil]
  iterate 2 (apply Rel.op3; (focus (first | exact Rel.gno rfl | exact Rel.gyes _ true _ rfl rfl rfl | exact Rel.gyes _ false _ rfl rfl rfl)); (focus (intro a W hb hd hbase; obtain ⟨hc, hf⟩ := bcell hb; clear hb hf; simp [Rel.deps, Rel.dep1, Rel.ons, Region.binds, Act.eval] at hd; simp only [Act.eval, List.mem_cons, List.not_mem_nil, not_or, and_imp, or_false, Array.getD_eq_getD_getElem?] at hbase; go_simp; (try go_bits); (try rfl); done)); (try simp only [List.nil_append, List.cons_append]))
  (apply Rel.call3; (focus (first | exact Rel.gno rfl | exact Rel.gyes _ true _ rfl rfl rfl | exact Rel.gyes _ false _ rfl rfl rfl)); (focus (intro a W hb hd hbase; obtain ⟨hc, hf⟩ := bcell hb; clear hb hf; simp [Rel.deps, Rel.dep1, Rel.ons, Region.binds, Act.eval] at hd; simp only [Act.eval, List.mem_cons, List.not_mem_nil, not_or, and_imp, or_false, Array.getD_eq_getD_getElem?] at hbase; go_simp; refine ⟨?_, ?_⟩; rfl; rfl)); (focus (intro W hb; go_at_call 87; exact HIS.out W)); (try simp only [List.nil_append, List.cons_append]))
  iterate 1 (apply Rel.op3; (focus (first | exact Rel.gno rfl | exact Rel.gyes _ true _ rfl rfl rfl | exact Rel.gyes _ false _ rfl rfl rfl)); (focus (intro a W hb hd hbase; obtain ⟨hc, hf⟩ := bcell hb; clear hb hf; simp [Rel.deps, Rel.dep1, Rel.ons, Region.binds, Act.eval] at hd; simp only [Act.eval, List.mem_cons, List.not_mem_nil, not_or, and_imp, or_false, Array.getD_eq_getD_getElem?] at hbase; go_simp; (try go_bits); (try rfl); done)); (try simp only [List.nil_append, List.cons_append]))
  (apply Rel.call3; (focus (first | exact Rel.gno rfl | exact Rel.gyes _ true _ rfl rfl rfl | exact Rel.gyes _ false _ rfl rfl rfl)); (focus (intro a W hb hd hbase; obtain ⟨hc, hf⟩ := bcell hb; clear hb hf; simp [Rel.deps, Rel.dep1, Rel.ons, Region.binds, Act.eval] at hd; simp only [Act.eval, List.mem_cons, List.not_mem_nil, not_or, and_imp, or_false, Array.getD_eq_getD_getElem?] at hbase; go_simp; refine ⟨?_, ?_⟩; rfl; rfl)); (focus (intro W hb; go_at_call 71; exact HWH.out 8 W)); (try simp only [List.nil_append, List.cons_append]))
  iterate 4 (apply Rel.op3; (focus (first | exact Rel.gno rfl | exact Rel.gyes _ true _ rfl rfl rfl | exact Rel.gyes _ false _ rfl rfl rfl)); (focus (intro a W hb hd hbase; obtain ⟨hc, hf⟩ := bcell hb; clear hb hf; simp [Rel.deps, Rel.dep1, Rel.ons, Region.binds, Act.eval] at hd; simp only [Act.eval, List.mem_cons, List.not_mem_nil, not_or, and_imp, or_false, Array.getD_eq_getD_getElem?] at hbase; go_simp; (try go_bits); (try rfl); done)); (try simp only [List.nil_append, List.cons_append]))
  (apply Rel.call3; (focus (first | exact Rel.gno rfl | exact Rel.gyes _ true _ rfl rfl rfl | exact Rel.gyes _ false _ rfl rfl rfl)); (focus (intro a W hb hd hbase; obtain ⟨hc, hf⟩ := bcell hb; clear hb hf; simp [Rel.deps, Rel.dep1, Rel.ons, Region.binds, Act.eval] at hd; simp only [Act.eval, List.mem_cons, List.not_mem_nil, not_or, and_imp, or_false, Array.getD_eq_getD_getElem?] at hbase; go_simp; refine ⟨?_, ?_⟩; rfl; rfl)); (focus (intro W hb; go_at_call 71; exact HWH.out 12 W)); (try simp only [List.nil_append, List.cons_append]))
  iterate 4 (apply Rel.op3; (focus (first | exact Rel.gno rfl | exact Rel.gyes _ true _ rfl rfl rfl | exact Rel.gyes _ false _ rfl rfl rfl)); (focus (intro a W hb hd hbase; obtain ⟨hc, hf⟩ := bcell hb; clear hb hf; simp [Rel.deps, Rel.dep1, Rel.ons, Region.binds, Act.eval] at hd; simp only [Act.eval, List.mem_cons, List.not_mem_nil, not_or, and_imp, or_false, Array.getD_eq_getD_getElem?] at hbase; go_simp; (try go_bits); (try rfl); done)); (try simp only [List.nil_append, List.cons_append]))
  (apply Rel.call3; (focus (first | exact Rel.gno rfl | exact Rel.gyes _ true _ rfl rfl rfl | exact Rel.gyes _ false _ rfl rfl rfl)); (focus (intro a W hb hd hbase; obtain ⟨hc, hf⟩ := bcell hb; clear hb hf; simp [Rel.deps, Rel.dep1, Rel.ons, Region.binds, Act.eval] at hd; simp only [Act.eval, List.mem_cons, List.not_mem_nil, not_or, and_imp, or_false, Array.getD_eq_getD_getElem?] at hbase; go_simp; refine ⟨?_, ?_⟩; rfl; rfl)); (focus (intro W hb; go_at_call 71; exact HWH.out 5 W)); (try simp only [List.nil_append, List.cons_append]))
  refine Rel.done3 ?_
  intro x w2 hb2 hx
  simp only [Rel.facts, Nat.zero_add, Nat.reduceAdd] at hx
  obtain ⟨e0, e1, e2, e3, e4, e5, e6, e7, e8, e9, e10, e11, e12, e13, e14, _⟩ := hx
  simp only [Rel.fill, Nat.zero_add, Nat.reduceAdd, e0, e1, e2, e3, e4, e5, e6, e7, e8, e9, e10, e11, e12, e13, e14]
  simp only [Act.put, List.setIfInBounds_toArray, List.set_cons_zero, List.set_cons_succ]
  clear e0 e1 e2 e3 e4 e5 e6 e7 e8 e9 e10 e11 e12 e13 e14
  have HB2 := Lib.hid (HB1.out.trans (hb2.mono HB1.out.size))
  have K02 := Lib.hid (HK0.out.below hb2)
  clear hb2 a0 a1 al af
  go_wp2_with (go_at_call 69; refine (HF3.out _).mono ?_; rintro r wx ⟨rfl, rfl⟩; refine Hid.out ?_)
  unfold Hid
  obtain ⟨a0, a1, al, af⟩ := (K02.out.alloc (.cells #[(.int .i64 0), (.int .i64 0), (.int .i64 0)] 24)).o2
  go_wp2_with (go_at_call 106; refine name_calls ?_; intro w3 e3; refine Hid.out ?_)
  unfold Hid
  have h3 : Below w2.heap.size w2 w3 := by rw [e3]; exact bel
  have HB3 := Lib.hid (HB2.out.trans (h3.mono HB2.out.size))
  clear e3 h3 a0 a1 al af
  refine (HM.out w3 (HV.out.below HB3.out)).mono ?_
  rintro r w4 ⟨⟨B, d, rfl, hc4⟩, h4⟩
  have HB4 := Lib.hid (HB3.out.trans (h4.mono HB3.out.size))
  clear h4
  go_wp2_with (go_at_call 69; refine (HF1.out _ _ _ hc4).mono ?_; rintro r wx ⟨rfl, rfl⟩; refine Hid.out ?_)
  unfold Hid
  go_wp2
  go_ret
  exact ⟨rfl, HB4.out⟩
end Go.Proofs.Ytamldoidalnloaa

/- Contracts of From and Run (sections that hold). -/
namespace Go.Proofs.Ytamldoidalnloaa
open Go.RowKit
open Calm (bcell Blk)

set_option maxRecDepth 100000 in
set_option maxHeartbeats 4000000 in
theorem From_ok (b0 b1 b2 a1 a2 sh x1 x2 y1 y2 : Int) (xs : List Int) (A : Option Addr) (c : Nat) (w : World) (h0 : bd15 b0) (h1 : bd15 b1) (h2 : bd15 b2) (h3 : bd15 a1) (h4 : bd15 a2) (h5 : 0 ≤ sh ∧ sh ≤ 15)
    (hst : okX (x1, x2, y1, y2)) (hx : inB 32767 xs) (hn : xs.length ≤ 5000) (hC : Cells w A xs) (e1 : secErr b0 b1 b2 a1 a2 sh = 0) (e2 : sstErr x1 x2 y1 y2 = 0) (e3 : ssigErr xs = 0) :
    Calls Try.prog 68 #[.agg #[(.int .i64 b0), (.int .i64 b1), (.int .i64 b2), (.int .i64 a1), (.int .i64 a2), (.int .i64 sh)], .agg #[(.int .i64 x1), (.int .i64 x2), (.int .i64 y1), (.int .i64 y2)], .slice A xs.length c] w fun r w' => (∃ B d, r = .returned (.tuple #[.slice B xs.length d, .agg (encX (ssAt b0 b1 b2 a1 a2 sh (x1, x2, y1, y2) xs xs.length)), (.int .i64 0)]) ∧ (∀ p, B = some p → w.heap.size ≤ p.block) ∧ Cells w' B (soK b0 b1 b2 a1 a2 sh (x1, x2, y1, y2) xs xs.length)) ∧ Below w.heap.size w w' := by
  have HCK : Hid (∀ W, Calls Try.prog 83 #[.agg #[(.int .i64 b0), (.int .i64 b1), (.int .i64 b2), (.int .i64 a1), (.int .i64 a2), (.int .i64 sh)]] W fun r w' => r = .returned (.int .i64 0) ∧ Below W.heap.size W w') := Lib.hid (fun W => by have := checkSection_any b0 b1 b2 a1 a2 sh W; rwa [e1] at this)
  have HCT : Hid (∀ W, Calls Try.prog 92 #[.agg #[(.int .i64 x1), (.int .i64 x2), (.int .i64 y1), (.int .i64 y2)]] W fun r w' => r = .returned (.int .i64 0) ∧ Below W.heap.size W w') := Lib.hid (fun W => by have := sState_any x1 x2 y1 y2 W; rwa [e2] at this)
  have HSG : Hid (∀ W, Cells W A xs → Calls Try.prog 49 #[.slice A xs.length c] W fun r w' => r = .returned (.int .i64 0) ∧ Below W.heap.size W w') := Lib.hid (fun W q => by have := sSignal_any xs A c W q hn; rwa [e3] at this)
  have HF3 : Hid (∀ (W : World), Calls Try.prog 47 #[.slice (some ⟨W.heap.size, 0, none⟩) 3 3] (W.alloc (.cells #[(.int .i64 0), (.int .i64 0), (.int .i64 0)] 24)) fun r w' => r = .returned (.int .i64 0) ∧ (W.alloc (.cells #[(.int .i64 0), (.int .i64 0), (.int .i64 0)] 24)) = w') := Lib.hid (fun W => sFirst_cells [0, 0, 0] W (by simp))
  have HFR : Hid (∀ W, Cells W A xs → Calls Try.prog 50 #[.agg #[(.int .i64 b0), (.int .i64 b1), (.int .i64 b2), (.int .i64 a1), (.int .i64 a2), (.int .i64 sh)], .agg #[(.int .i64 x1), (.int .i64 x2), (.int .i64 y1), (.int .i64 y2)], .slice A xs.length c] W fun r w' => (∃ B d, r = .returned (.tuple #[.slice B xs.length d, .agg (encX (ssAt b0 b1 b2 a1 a2 sh (x1, x2, y1, y2) xs xs.length))]) ∧ (∀ p, B = some p → W.heap.size ≤ p.block ∧ Unf w' p.block) ∧ Cells w' B (soK b0 b1 b2 a1 a2 sh (x1, x2, y1, y2) xs xs.length)) ∧ Below W.heap.size W w') :=
    Lib.hid (fun W q => from_any b0 b1 b2 a1 a2 sh x1 x2 y1 y2 xs A c W h0 h1 h2 h3 h4 h5 hst hx hn q)
  have HC := Lib.hid hC
  obtain ⟨LX, hLX⟩ : ∃ LX, LX = ssAt b0 b1 b2 a1 a2 sh (x1, x2, y1, y2) xs xs.length := ⟨_, rfl⟩
  obtain ⟨SK, hSK⟩ : ∃ SK, SK = soK b0 b1 b2 a1 a2 sh (x1, x2, y1, y2) xs xs.length := ⟨_, rfl⟩
  obtain ⟨N, hN⟩ : ∃ N, N = xs.length := ⟨_, rfl⟩
  rw [← hLX, ← hSK] at HFR ⊢
  rw [← hN] at HFR HSG ⊢
  unfold encX at HFR
  clear hLX hSK hN hC h0 h1 h2 h3 h4 h5 hst hx hn e1 e2 e3
  go_enter Try.func68, Try.ntmps68
  go_wp2
  refine Calm.tail_below 5 (by kernel_rfl) (by kernel_rfl) ?_
  simp only [List.take_succ_cons, List.take_zero, List.drop_succ_cons, List.drop_zero]
  repeat (first | (first | (apply Calm.op_move; (focus rfl); (focus (first | exact .inl rfl | exact .inr rfl)); (focus ((try simp only [Act.eval, Array.getD_eq_getD_getElem?, List.getElem?_toArray, List.getElem?_cons_succ, List.getElem?_cons_zero, Option.getD_some]); rfl)); (try simp only [Act.put, List.setIfInBounds_toArray, List.set_cons_zero, List.set_cons_succ])) | (apply Calm.op_not; (focus rfl); (try simp only [Act.put, List.setIfInBounds_toArray, List.set_cons_zero, List.set_cons_succ])) | (apply Calm.op; (focus rfl); (focus (intro W hb; obtain ⟨hc, hf⟩ := bcell hb; clear hb hf; go_simp; (try go_bits); (try rfl); done)); (try simp only [Act.put, List.setIfInBounds_toArray, List.set_cons_zero, List.set_cons_succ]))) | (apply Calm.op_call; (focus rfl); (focus (intro W hb; obtain ⟨hc, hf⟩ := bcell hb; clear hb hf; go_simp; refine ⟨?_, ?_⟩; rfl; rfl)); (focus (intro W hb; first | (go_at_call 83; exact Calm.call_below hb (HCK.out _)) | (go_at_call 92; exact Calm.call_below hb (HCT.out _)))); (try simp only [Act.put, List.setIfInBounds_toArray, List.set_cons_zero, List.set_cons_succ])))
  refine wpQuiet_nil ?_
  intro w1 hb1
  obtain ⟨hb1c, hb1f⟩ := bcell hb1
  have hb1z := hb1.size
  (try simp at hb1z)
  (try have hb1z0 : w.heap.size < w1.heap.size := by omega)
  (try have hb1z1 : w.heap.size + 1 < w1.heap.size := by omega)
  (try have hb1z2 : w.heap.size + 1 + 1 < w1.heap.size := by omega)
  (try have hb1z3 : w.heap.size + 1 + 1 + 1 < w1.heap.size := by omega)
  (try have hb1z4 : w.heap.size + 1 + 1 + 1 + 1 < w1.heap.size := by omega)
  (try have hb1z5 : w.heap.size + 1 + 1 + 1 + 1 + 1 < w1.heap.size := by omega)
  have HB1 := Lib.hid (show Below w.heap.size w w1 from Below.trans (by (repeat (first | (with_reducible exact Below.refl _ _) | ((with_reducible refine Below.setCell ?_ ?_ _); rotate_left 1; focus (first | (simp; done) | (simp; omega) | (simp at *; omega))) | ((with_reducible refine Below.alloc ?_ ?_ _); rotate_left 1; focus (first | (simp; done) | (simp; omega) | (simp at *; omega))) | (with_reducible refine Below.drew ?_) | ((with_reducible refine Calm.step (by assumption) ?_ ?_); rotate_left 1; focus (first | (simp; done) | (simp; omega) | (simp at *; omega)))))) (hb1.mono (by simp; omega)))
  have K0 : Blk w1 w.heap.size #[(.int .i64 b0), (.int .i64 b1), (.int .i64 b2), (.int .i64 a1), (.int .i64 a2), (.int .i64 sh)] := Blk.below (by (repeat (first | ((with_reducible refine Blk.at_ ?_); focus (first | rfl | (simp; done) | (simp; omega))) | (with_reducible refine Blk.alloc ?_ _) | (with_reducible refine Blk.below ?_ (by with_reducible assumption)) | (with_reducible refine Blk.drew ?_)))) hb1
  have K1 : Blk w1 (w.heap.size + 1) #[(.int .i64 x1), (.int .i64 x2), (.int .i64 y1), (.int .i64 y2)] := Blk.below (by (repeat (first | ((with_reducible refine Blk.at_ ?_); focus (first | rfl | (simp; done) | (simp; omega))) | (with_reducible refine Blk.alloc ?_ _) | (with_reducible refine Blk.below ?_ (by with_reducible assumption)) | (with_reducible refine Blk.drew ?_)))) hb1
  have K2 : Blk w1 (w.heap.size + 1 + 1) #[(.int .i64 0), (.int .i64 0), (.int .i64 0), (.int .i64 0)] := Blk.below (by (repeat (first | ((with_reducible refine Blk.at_ ?_); focus (first | rfl | (simp; done) | (simp; omega))) | (with_reducible refine Blk.alloc ?_ _) | (with_reducible refine Blk.below ?_ (by with_reducible assumption)) | (with_reducible refine Blk.drew ?_)))) hb1
  have HK0 := Lib.hid K0
  have HK1 := Lib.hid K1
  have HK2 := Lib.hid K2
  clear hb1 hb1c hb1f K0 K1 K2
  go_wp2_with (first
    | (go_at_call 49; refine (HSG.out _ (HC.out.below HB1.out)).mono ?_; rintro r w2 ⟨rfl, hb2⟩; have HB2 := Lib.hid (HB1.out.trans (hb2.mono HB1.out.size)); obtain ⟨c0, c1, c2, c3, c4, c5, cl, cf⟩ := ((HK0.out.below hb2).alloc (.cells #[(.int .i64 0), (.int .i64 0), (.int .i64 0)] 24)).o6; obtain ⟨d0, d1, d2, d3, dl, df⟩ := ((HK1.out.below hb2).alloc (.cells #[(.int .i64 0), (.int .i64 0), (.int .i64 0)] 24)).o4; have HK22 := Lib.hid ((HK2.out.below hb2).alloc (.cells #[(.int .i64 0), (.int .i64 0), (.int .i64 0)] 24)); clear hb2)
    | (go_at_call 47; refine (HF3.out _).mono ?_; rintro r w3 ⟨rfl, rfl⟩; have HB3 := Lib.hid (HB2.out.alloc HB2.out.size (.cells #[(.int .i64 0), (.int .i64 0), (.int .i64 0)] 24)); refine Hid.out ?_))
  obtain ⟨w3, hw3⟩ : ∃ w3, w3 = w2.alloc (.cells #[(.int .i64 0), (.int .i64 0), (.int .i64 0)] 24) := ⟨_, rfl⟩
  rw [← hw3] at c0 c1 c2 c3 c4 c5 cl cf d0 d1 d2 d3 dl df HK22 HB3 ⊢
  clear hw3 HK0 HK1 HK2 HB1 HB2
  unfold Hid
  go_wp2_with (go_at_call 50; refine (HFR.out _ (HC.out.below HB3.out)).mono ?_; rintro r w4 ⟨⟨B, d, rfl, hf, hc4⟩, hb4⟩; have HB4 := Lib.hid (HB3.out.trans (hb4.mono HB3.out.size)); have HK24 := Lib.hid (HK22.out.below hb4); have HF4 := Lib.hid hf; have HC4 := Lib.hid hc4; have hs4 := hb4.size; clear hf hc4 hb4 c0 c1 c2 c3 c4 c5 cl cf d0 d1 d2 d3 dl df)
  have hz4 : w.heap.size < w4.heap.size := by have := HB4.out.size; have := HK24.out.lt; omega
  have hz41 : w.heap.size + 1 < w4.heap.size := by have := HK24.out.lt; omega
  have hz42 : w.heap.size + 1 + 1 < w4.heap.size := by have := HK24.out.lt; omega
  obtain ⟨d0, d1, d2, d3, dl, df⟩ := HK24.out.o4
  refine Calm.tail_below 3 (by kernel_rfl) (by kernel_rfl) ?_
  simp only [List.take_succ_cons, List.take_zero, List.drop_succ_cons, List.drop_zero]
  repeat (first | (apply Calm.op_move; (focus rfl); (focus (first | exact .inl rfl | exact .inr rfl)); (focus ((try simp only [Act.eval, Array.getD_eq_getD_getElem?, List.getElem?_toArray, List.getElem?_cons_succ, List.getElem?_cons_zero, Option.getD_some]); rfl)); (try simp only [Act.put, List.setIfInBounds_toArray, List.set_cons_zero, List.set_cons_succ])) | (apply Calm.op_not; (focus rfl); (try simp only [Act.put, List.setIfInBounds_toArray, List.set_cons_zero, List.set_cons_succ])) | (apply Calm.op; (focus rfl); (focus (intro W hb; obtain ⟨hc, hf⟩ := bcell hb; clear hb hf; go_simp; (try go_bits); (try rfl); done)); (try simp only [Act.put, List.setIfInBounds_toArray, List.set_cons_zero, List.set_cons_succ])))
  refine wpQuiet_nil ?_
  intro w6 hb6
  obtain ⟨hb6c, hb6f⟩ := bcell hb6
  have hb6z := hb6.size
  (try simp at hb6z)
  (try have hb6z0 : w.heap.size < w6.heap.size := by omega)
  (try have hb6z1 : w.heap.size + 1 < w6.heap.size := by omega)
  (try have hb6z2 : w.heap.size + 1 + 1 < w6.heap.size := by omega)
  (try have hb6z3 : w.heap.size + 1 + 1 + 1 < w6.heap.size := by omega)
  (try have hb6z4 : w.heap.size + 1 + 1 + 1 + 1 < w6.heap.size := by omega)
  (try have hb6z5 : w.heap.size + 1 + 1 + 1 + 1 + 1 < w6.heap.size := by omega)
  have HB6 := Lib.hid (show Below w.heap.size w w6 from Below.trans (HB4.out.alloc (by omega) _) (hb6.mono (by simp; omega)))
  have K6 := (HK24.out.alloc (.cells #[(.int .i64 (LX.1)), (.int .i64 (LX.2.1)), (.int .i64 (LX.2.2.1)), (.int .i64 (LX.2.2.2))] 93)).below hb6
  have HC6 := Lib.hid ((HC4.out.below ((Below.refl _ _).alloc (Nat.le_refl _) (.cells #[(.int .i64 (LX.1)), (.int .i64 (LX.2.1)), (.int .i64 (LX.2.2.1)), (.int .i64 (LX.2.2.2))] 93))).below hb6)
  obtain ⟨g0, g1, g2, g3, gl, gf⟩ := K6.o4
  have HK6 := Lib.hid K6
  clear hb6 hb6c hb6f K6 d0 d1 d2 d3 dl df
  go_wp2
  have hz3 : w.heap.size + 1 + 1 < w3.heap.size := HK22.out.lt
  have hne : 0 < SK.length → ∀ p, B = some p → p.block ≠ w.heap.size + 1 + 1 := fun _ p e => by have := (HF4.out p e).1; omega
  exact bodyPost_ret (v := .tuple #[.slice B N d, .agg (encX LX), (.int .i64 0)]) (by simp [results, Try.results68, go_sem, encX, *]) rfl
    ⟨⟨B, d, rfl, fun p e => by have := (HF4.out p e).1; omega, (((HC6.out.sets hne _ _).sets hne _ _).sets hne _ _).sets hne _ _⟩, (((HB6.out.setCell (by simp; omega) _).setCell (by simp; omega) _).setCell (by simp; omega) _).setCell (by simp; omega) _⟩
theorem Run_ok (b0 b1 b2 a1 a2 sh : Int) (xs : List Int) (A : Option Addr) (c : Nat) (w : World) (h0 : bd15 b0) (h1 : bd15 b1) (h2 : bd15 b2) (h3 : bd15 a1) (h4 : bd15 a2) (h5 : 0 ≤ sh ∧ sh ≤ 15)
    (hx : inB 32767 xs) (hn : xs.length ≤ 5000) (hC : Cells w A xs) (e1 : secErr b0 b1 b2 a1 a2 sh = 0) (e3 : ssigErr xs = 0) :
    Calls Try.prog 23 #[.agg #[(.int .i64 b0), (.int .i64 b1), (.int .i64 b2), (.int .i64 a1), (.int .i64 a2), (.int .i64 sh)], .slice A xs.length c] w fun r w' => (∃ B d, r = .returned (.tuple #[.slice B xs.length d, (.int .i64 0)]) ∧ (∀ p, B = some p → w.heap.size ≤ p.block) ∧ Cells w' B (soK b0 b1 b2 a1 a2 sh (0, 0, 0, 0) xs xs.length)) ∧ Below w.heap.size w w' := by
  have HFR : Hid (∀ W, Cells W A xs → Calls Try.prog 68 #[.agg #[(.int .i64 b0), (.int .i64 b1), (.int .i64 b2), (.int .i64 a1), (.int .i64 a2), (.int .i64 sh)], .agg #[(.int .i64 0), (.int .i64 0), (.int .i64 0), (.int .i64 0)], .slice A xs.length c] W fun r w' => (∃ B d, r = .returned (.tuple #[.slice B xs.length d, .agg (encX (ssAt b0 b1 b2 a1 a2 sh (0, 0, 0, 0) xs xs.length)), (.int .i64 0)]) ∧ (∀ p, B = some p → W.heap.size ≤ p.block) ∧ Cells w' B (soK b0 b1 b2 a1 a2 sh (0, 0, 0, 0) xs xs.length)) ∧ Below W.heap.size W w') :=
    Lib.hid (fun W q => From_ok b0 b1 b2 a1 a2 sh 0 0 0 0 xs A c W h0 h1 h2 h3 h4 h5 (by unfold okX bd15; simp) hx hn q e1 (by decide) e3)
  have HC := Lib.hid hC
  obtain ⟨LX, hLX⟩ : ∃ LX, LX = ssAt b0 b1 b2 a1 a2 sh (0, 0, 0, 0) xs xs.length := ⟨_, rfl⟩
  obtain ⟨SK, hSK⟩ : ∃ SK, SK = soK b0 b1 b2 a1 a2 sh (0, 0, 0, 0) xs xs.length := ⟨_, rfl⟩
  obtain ⟨N, hN⟩ : ∃ N, N = xs.length := ⟨_, rfl⟩
  rw [← hLX, ← hSK] at HFR
  rw [← hSK]
  rw [← hN] at HFR ⊢
  unfold encX at HFR
  clear hLX hSK hN hC h0 h1 h2 h3 h4 h5 hx hn e1 e3
  go_enter Try.func23, Try.ntmps23
  go_wp2_with (go_at_call 68; refine (HFR.out _ (HC.out.below (by (repeat (first | (with_reducible exact Below.refl _ _) | ((with_reducible refine Below.setCell ?_ ?_ _); rotate_left 1; focus (first | (simp; done) | (simp; omega) | (simp at *; omega))) | ((with_reducible refine Below.alloc ?_ ?_ _); rotate_left 1; focus (first | (simp; done) | (simp; omega) | (simp at *; omega))) | (with_reducible refine Below.drew ?_) | ((with_reducible refine Calm.step (by assumption) ?_ ?_); rotate_left 1; focus (first | (simp; done) | (simp; omega) | (simp at *; omega)))))))).mono ?_; rintro r w4 ⟨⟨B, d, rfl, hf, hc4⟩, hb4⟩; have HB4 := Lib.hid (show Below w.heap.size w w4 from Below.trans (by (repeat (first | (with_reducible exact Below.refl _ _) | ((with_reducible refine Below.setCell ?_ ?_ _); rotate_left 1; focus (first | (simp; done) | (simp; omega) | (simp at *; omega))) | ((with_reducible refine Below.alloc ?_ ?_ _); rotate_left 1; focus (first | (simp; done) | (simp; omega) | (simp at *; omega))) | (with_reducible refine Below.drew ?_) | ((with_reducible refine Calm.step (by assumption) ?_ ?_); rotate_left 1; focus (first | (simp; done) | (simp; omega) | (simp at *; omega)))))) (hb4.mono (by simp))); have HF4 := Lib.hid hf; have HC4 := Lib.hid hc4; have hs4 := hb4.size; clear hf hc4 hb4)
  simp only [World.size_alloc] at hs4
  go_ret2
  exact ⟨⟨B, d, rfl, fun p e => by have := HF4.out p e; simp at this; omega, HC4.out.below ((Below.refl _ _).alloc (Nat.le_refl _) _)⟩, HB4.out.alloc (by omega) _⟩
end Go.Proofs.Ytamldoidalnloaa
