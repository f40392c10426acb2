/- Part 21 of the texts of the claim: HoA. -/
import Derived.Test.YtpkldjlljoledaaDoorMh19
import Derived.Test.YtpkldjlljoledaaDoorMh20

/- DriverHolds, its walk up to the first loop. -/
namespace Go.Proofs.YtpkldjlljoledaaDoor
open Go.RowKit
open Calm (bcell Blk)
def SwT (n : Nat) (t : Int) (zs : List (Int × Int × Int)) (u : Value) (W : World) : Prop := ∃ B e, u = .tuple #[.slice B n e, (.int .i64 (t))] ∧ RCells W B zs
theorem SwT.stable (n : Nat) (t : Int) (zs : List (Int × Int × Int)) : Rel.Stable (SwT n t zs) := fun u W W' ⟨B, e, h1, h2⟩ hb => ⟨B, e, h1, h2.below hb⟩
set_option maxRecDepth 100000 in
set_option maxHeartbeats 16000000 in
theorem holds_a (re le bl ma st lo mm kk rr a0 a1 a2 a3 x0 x1 x2 p : Int) (E : Int) (l : List Nat) (ws : List Int) (zs S T As Bs Z Ds : List (Int × Int × Int)) (m n nd na nb c c2 N li q : Nat) (A A2 : Option Addr) (w : World) (hL : Lim w) (hm : m ≤ 3) (hn : n ≤ 3) (hnd : nd ≤ 60) (HM : Hid (m = ws.length)) (HC : Hid (RCells w A2 zs)) (HW : Hid (Cells w A ws))
    (HCC : Hid (∀ W : World, Calls Tryd.prog 57 #[.agg #[(.int .i64 (re)), (.int .i64 (le)), (.int .i64 (bl)), (.int .i64 (ma)), (.int .i64 (st)), (.int .i64 (lo)), (.int .i64 (mm)), (.int .i64 (kk)), (.int .i64 (rr))]] W fun r w' => r = .returned ((.int .i64 (0))) ∧ Below W.heap.size W w'))
    (HAl : Hid (∀ W : World, Calls Tryd.prog 58 #[.agg #[(.int .i64 (re)), (.int .i64 (le)), (.int .i64 (bl)), (.int .i64 (ma)), (.int .i64 (st)), (.int .i64 (lo)), (.int .i64 (mm)), (.int .i64 (kk)), (.int .i64 (rr))]] W fun r w' => ∃ B e, r = .returned (.slice B nd e) ∧ Below W.heap.size W w'))
    (HCS : Hid (∀ W : World, Cells W A ws → Calls Tryd.prog 59 #[.slice A m c2] W fun r w' => r = .returned (.int .i64 (0)) ∧ Below W.heap.size W w'))
    (HCR : Hid (∀ (W : World) (B : Option Addr) (e : Nat), RCells W B zs → Calls Tryd.prog 60 #[.slice B n e] W fun r w' => r = .returned (.int .i64 (0)) ∧ Below W.heap.size W w'))
    (HToS : Hid (∀ (W : World) (B : Option Addr) (e : Nat), RCells W B S → Calls Tryd.prog 62 #[.slice B m e] W fun r w' => ∃ B' e', r = .returned (.slice B' m e') ∧ RCells w' B' S ∧ Below W.heap.size W w'))
    (HToT : Hid (∀ (W : World) (B : Option Addr) (e : Nat), RCells W B T → Calls Tryd.prog 62 #[.slice B m e] W fun r w' => ∃ B' e', r = .returned (.slice B' m e') ∧ RCells w' B' T ∧ Below W.heap.size W w'))
    (HCRS : Hid (∀ (W : World) (B : Option Addr) (e : Nat), RCells W B S → Calls Tryd.prog 60 #[.slice B m e] W fun r w' => r = .returned (.int .i64 (0)) ∧ Below W.heap.size W w'))
    (HCRT : Hid (∀ (W : World) (B : Option Addr) (e : Nat), RCells W B T → Calls Tryd.prog 60 #[.slice B m e] W fun r w' => r = .returned (.int .i64 (0)) ∧ Below W.heap.size W w'))
    (HRgS : Hid (∀ (W : World) (B : Option Addr) (e : Nat), Lim W → RCells W B S → Calls Tryd.prog 63 #[.agg #[(.int .i64 (re)), (.int .i64 (le)), (.int .i64 (bl)), (.int .i64 (ma)), (.int .i64 (st)), (.int .i64 (lo)), (.int .i64 (mm)), (.int .i64 (kk)), (.int .i64 (rr))], .slice B m e] W fun r w' => ∃ B' e', r = .returned (.tuple #[.slice B' na e', (.int .i64 (0))]) ∧ DCells w' B' re le bl As ∧ Below W.heap.size W w'))
    (HRgT : Hid (∀ (W : World) (B : Option Addr) (e : Nat), Lim W → RCells W B T → Calls Tryd.prog 63 #[.agg #[(.int .i64 (re)), (.int .i64 (le)), (.int .i64 (bl)), (.int .i64 (ma)), (.int .i64 (st)), (.int .i64 (lo)), (.int .i64 (mm)), (.int .i64 (kk)), (.int .i64 (rr))], .slice B m e] W fun r w' => ∃ B' e', r = .returned (.tuple #[.slice B' nb e', (.int .i64 (0))]) ∧ DCells w' B' re le bl Bs ∧ Below W.heap.size W w'))
    (HSL : Hid (m = S.length))
    (HTL : Hid (m = T.length))
    (hna : na ≤ 60)
    (hnb : nb ≤ 60)
    (hab : na ≤ nb)
    (HSwS : Hid (∀ (W : World) (B : Option Addr) (e : Nat), Lim W → Cells W B ws → Calls Tryd.prog 61 #[.agg #[(.int .i64 (re)), (.int .i64 (le)), (.int .i64 (bl)), (.int .i64 (x0)), (.int .i64 (x1)), (.int .i64 (x2))], .slice B m e, (.int .i64 (p))] W fun r w' => ∃ B' e', r = .returned (.tuple #[.slice B' m e', (.int .i64 (0))]) ∧ RCells w' B' S ∧ Below W.heap.size W w'))
    (HSwT : Hid (∀ (W : World) (B : Option Addr) (e : Nat), Lim W → Cells W B ws → Calls Tryd.prog 61 #[.agg #[(.int .i64 (re)), (.int .i64 (le)), (.int .i64 (bl)), (.int .i64 (x0)), (.int .i64 (x1)), (.int .i64 (x2))], .slice B m e, (.int .i64 (p + 1))] W fun r w' => ∃ B' e', r = .returned (.tuple #[.slice B' m e', (.int .i64 (0))]) ∧ RCells w' B' T ∧ Below W.heap.size W w'))
    (e0 : ma + a0 % (mm - ma + 1) = x0)
    (e1 : st + a1 % (kk - st + 1) = x1)
    (e2 : lo + a2 % (rr - lo + 1) = x2)
    (e3 : a3 % 50 = p)
    (hu : (0 ≤ a0 ∧ a0 ≤ 255) ∧ (0 ≤ a1 ∧ a1 ≤ 255) ∧ (0 ≤ a2 ∧ a2 ≤ 255) ∧ (0 ≤ a3 ∧ a3 ≤ 255))
    (HAL : Hid (na = As.length))
    (HBL : Hid (nb = Bs.length))
    (HSUB : Hid (As.Sublist Bs))
    (HIN : Hid ((x0, x1, x2) ∈ As))
    (HEX : Hid (∀ (W : World) (B : Option Addr) (e : Nat) (y : Int × Int × Int), y ∈ As → Lim W → RCells W B S → Calls Tryd.prog 65 #[.agg #[(.int .i64 (re)), (.int .i64 (le)), (.int .i64 (bl)), (.int .i64 (y.1)), (.int .i64 (y.2.1)), (.int .i64 (y.2.2))], .slice B m e] W fun r w' => r = .returned (.tuple #[.bool true, (.int .i64 (0))]) ∧ Below W.heap.size W w'))
    (HzL : Hid (n = zs.length))
    (HZ : Hid (Z = S ++ zs))
    (HNm : Hid (m + n = N))
    (hN : N ≤ 6)
    (hq : q ≤ 1000000)
    (HRd : Hid (∀ (W : World) (B : Option Addr) (e : Nat), RCells W B zs → Calls Tryd.prog 66 #[.slice B n e] W fun r w' => ∃ B' e', r = .returned (.slice B' n e') ∧ RCells w' B' zs ∧ Below W.heap.size W w'))
    (HCf : Hid (∀ (W : World) (B : Option Addr) (e : Nat), Lim W → RCells W B Z → Calls Tryd.prog 67 #[.agg #[(.int .i64 (re)), (.int .i64 (le)), (.int .i64 (bl)), (.int .i64 (ma)), (.int .i64 (st)), (.int .i64 (lo)), (.int .i64 (mm)), (.int .i64 (kk)), (.int .i64 (rr))], .slice B N e] W fun r w' => ∃ B' e', r = .returned (.tuple #[.slice B' li e', (.int .i64 (E))]) ∧ Cells w' B' (toI l) ∧ Below W.heap.size W w'))
    (HRz : Hid (∀ (W : World) (B : Option Addr) (e : Nat), Lim W → RCells W B Z → Calls Tryd.prog 63 #[.agg #[(.int .i64 (re)), (.int .i64 (le)), (.int .i64 (bl)), (.int .i64 (ma)), (.int .i64 (st)), (.int .i64 (lo)), (.int .i64 (mm)), (.int .i64 (kk)), (.int .i64 (rr))], .slice B N e] W fun r w' => ∃ B' e', r = .returned (.tuple #[.slice B' q e', (.int .i64 (0))]) ∧ DCells w' B' re le bl Ds ∧ Below W.heap.size W w'))
    (HCASE : Hid ((0 < q ∧ E = 7) ∨ (q = 0 ∧ E = 0 ∧ 0 < li ∧ li ≤ N ∧ Hid (li = l.length) ∧ Hid (Inc N 0 l) ∧ Hid (∀ n : Int, -1 ≤ n → n < li → ∀ (W : World) (B : Option Addr) (e : Nat), Lim W → RCells W B (someL Z (skipL l n li)) → Calls Tryd.prog 63 #[.agg #[(.int .i64 (re)), (.int .i64 (le)), (.int .i64 (bl)), (.int .i64 (ma)), (.int .i64 (st)), (.int .i64 (lo)), (.int .i64 (mm)), (.int .i64 (kk)), (.int .i64 (rr))], .slice B (skipL l n li).length e] W fun r w' => ∃ B' e' q, r = .returned (.tuple #[.slice B' q e', (.int .i64 (0))]) ∧ (q = 0 ↔ n < 0) ∧ q ≤ 1000000 ∧ Below W.heap.size W w'))))
    (hcl : ((1 ≤ ma ∧ ma ≤ mm) ∧ mm ≤ 100) ∧ ((1 ≤ st ∧ st ≤ kk) ∧ kk ≤ 5000) ∧ ((1 ≤ lo ∧ lo ≤ rr) ∧ rr ≤ 100))
    : Calls Tryd.prog 10 #[.agg #[(.int .i64 (re)), (.int .i64 (le)), (.int .i64 (bl)), (.int .i64 (ma)), (.int .i64 (st)), (.int .i64 (lo)), (.int .i64 (mm)), (.int .i64 (kk)), (.int .i64 (rr))], .slice A m c2, .agg #[.slice A2 n c, .int .u8 a0, .int .u8 a1, .int .u8 a2, .int .u8 a3]] w fun r w' => r = .returned (.bool true) ∧ Below w.heap.size w w' := by
  obtain ⟨i1, hi1, jz0, jz1, jz2⟩ := info_parts Tryd.infoI
  obtain ⟨i0, hi, iz0, iz1, iz2⟩ := info_parts Tryd.infoR
  have hB0 := Below.refl w.heap.size w
  go_enter Tryd.func10, Tryd.ntmps10
  go_wp2_with (go_at_call 11; refine (awake_any _ (hL.below ((hB0.alloc hB0.size _).alloc (Nat.le_trans hB0.size (by simp; try omega)) _))).mono ?_; rintro r w1 ⟨rfl, h1⟩; refine Hid.out ?_)
  unfold Hid
  have hB1 := ((hB0.alloc hB0.size _).alloc (Nat.le_trans hB0.size (by simp; try omega)) _).trans (h1.mono (Nat.le_trans hB0.size (by simp; try omega)))
  have KC_1 := Lib.hid (show Blk w1 (w.heap.size) #[(.int .i64 (re)), (.int .i64 (le)), (.int .i64 (bl)), (.int .i64 (ma)), (.int .i64 (st)), (.int .i64 (lo)), (.int .i64 (mm)), (.int .i64 (kk)), (.int .i64 (rr))] from ((Calm.Blk.new _ _ #[(.int .i64 (re)), (.int .i64 (le)), (.int .i64 (bl)), (.int .i64 (ma)), (.int .i64 (st)), (.int .i64 (lo)), (.int .i64 (mm)), (.int .i64 (kk)), (.int .i64 (rr))]).alloc _).below h1)
  have KX_1 := Lib.hid (show Blk w1 (w.heap.size + 1) #[.slice A2 n c, .int .u8 a0, .int .u8 a1, .int .u8 a2, .int .u8 a3] by have := (Calm.Blk.new _ _ #[.slice A2 n c, .int .u8 a0, .int .u8 a1, .int .u8 a2, .int .u8 a3]).below h1; simpa using this)
  clear h1 hB0
  obtain ⟨fC_0, fC_1, fC_2, fC_3, fC_4, fC_5, fC_6, fC_7, fC_8, fC_l, fC_f⟩ := KC_1.out.o9
  have fC_l0_1 : w.heap.size < w1.heap.size + 1 := by omega
  have fC_l0_2 : w.heap.size < w1.heap.size + 1 + 1 := by omega
  obtain ⟨fX_0, fX_1, fX_2, fX_3, fX_4, fX_l, fX_f⟩ := KX_1.out.o5
  have fX_l0 : w.heap.size < w1.heap.size := by omega
  have fX_l0_1 : w.heap.size < w1.heap.size + 1 := by omega
  have fX_l0_2 : w.heap.size < w1.heap.size + 1 + 1 := by omega
  have fX_l1_1 : w.heap.size + 1 < w1.heap.size + 1 := by omega
  have fX_l1_2 : w.heap.size + 1 < w1.heap.size + 1 + 1 := by omega
  go_wp2_with (go_at_call 57; refine (HCC.out _).mono ?_; rintro r w2 ⟨rfl, h2⟩; refine Hid.out ?_)
  unfold Hid
  have hB2 := hB1.trans (h2.mono hB1.size)
  have KC_2 := Lib.hid (KC_1.out.below h2)
  have KX_2 := Lib.hid (KX_1.out.below h2)
  clear h2 hB1 KC_1 KX_1 fC_0 fC_1 fC_2 fC_3 fC_4 fC_5 fC_6 fC_7 fC_8 fC_l fC_f fC_l0_1 fC_l0_2 fX_0 fX_1 fX_2 fX_3 fX_4 fX_l fX_f fX_l0 fX_l0_1 fX_l0_2 fX_l1_1 fX_l1_2
  obtain ⟨fC_0, fC_1, fC_2, fC_3, fC_4, fC_5, fC_6, fC_7, fC_8, fC_l, fC_f⟩ := KC_2.out.o9
  have fC_l0_1 : w.heap.size < w2.heap.size + 1 := by omega
  have fC_l0_2 : w.heap.size < w2.heap.size + 1 + 1 := by omega
  obtain ⟨fX_0, fX_1, fX_2, fX_3, fX_4, fX_l, fX_f⟩ := KX_2.out.o5
  have fX_l0 : w.heap.size < w2.heap.size := by omega
  have fX_l0_1 : w.heap.size < w2.heap.size + 1 := by omega
  have fX_l0_2 : w.heap.size < w2.heap.size + 1 + 1 := by omega
  have fX_l1_1 : w.heap.size + 1 < w2.heap.size + 1 := by omega
  have fX_l1_2 : w.heap.size + 1 < w2.heap.size + 1 + 1 := by omega
  go_wp2_with (go_at_call 58; refine (HAl.out _).mono ?_; rintro r w3 ⟨AB, ae, rfl, h3⟩; refine Hid.out ?_)
  unfold Hid
  have hB3 := hB2.trans (h3.mono hB2.size)
  have KC_3 := Lib.hid (KC_2.out.below h3)
  have KX_3 := Lib.hid (KX_2.out.below h3)
  clear h3 hB2 KC_2 KX_2 fC_0 fC_1 fC_2 fC_3 fC_4 fC_5 fC_6 fC_7 fC_8 fC_l fC_f fC_l0_1 fC_l0_2 fX_0 fX_1 fX_2 fX_3 fX_4 fX_l fX_f fX_l0 fX_l0_1 fX_l0_2 fX_l1_1 fX_l1_2
  obtain ⟨fC_0, fC_1, fC_2, fC_3, fC_4, fC_5, fC_6, fC_7, fC_8, fC_l, fC_f⟩ := KC_3.out.o9
  have fC_l0_1 : w.heap.size < w3.heap.size + 1 := by omega
  have fC_l0_2 : w.heap.size < w3.heap.size + 1 + 1 := by omega
  obtain ⟨fX_0, fX_1, fX_2, fX_3, fX_4, fX_l, fX_f⟩ := KX_3.out.o5
  have fX_l0 : w.heap.size < w3.heap.size := by omega
  have fX_l0_1 : w.heap.size < w3.heap.size + 1 := by omega
  have fX_l0_2 : w.heap.size < w3.heap.size + 1 + 1 := by omega
  have fX_l1_1 : w.heap.size + 1 < w3.heap.size + 1 := by omega
  have fX_l1_2 : w.heap.size + 1 < w3.heap.size + 1 + 1 := by omega
  go_wp2_with (go_at_call 59; refine (HCS.out _ (HW.out.below hB3)).mono ?_; rintro r w4 ⟨rfl, h4⟩; refine Hid.out ?_)
  unfold Hid
  have hB4 := hB3.trans (h4.mono hB3.size)
  have KC_4 := Lib.hid (KC_3.out.below h4)
  have KX_4 := Lib.hid (KX_3.out.below h4)
  clear h4 hB3 KC_3 KX_3 fC_0 fC_1 fC_2 fC_3 fC_4 fC_5 fC_6 fC_7 fC_8 fC_l fC_f fC_l0_1 fC_l0_2 fX_0 fX_1 fX_2 fX_3 fX_4 fX_l fX_f fX_l0 fX_l0_1 fX_l0_2 fX_l1_1 fX_l1_2
  obtain ⟨fC_0, fC_1, fC_2, fC_3, fC_4, fC_5, fC_6, fC_7, fC_8, fC_l, fC_f⟩ := KC_4.out.o9
  have fC_l0_1 : w.heap.size < w4.heap.size + 1 := by omega
  have fC_l0_2 : w.heap.size < w4.heap.size + 1 + 1 := by omega
  obtain ⟨fX_0, fX_1, fX_2, fX_3, fX_4, fX_l, fX_f⟩ := KX_4.out.o5
  have fX_l0 : w.heap.size < w4.heap.size := by omega
  have fX_l0_1 : w.heap.size < w4.heap.size + 1 := by omega
  have fX_l0_2 : w.heap.size < w4.heap.size + 1 + 1 := by omega
  have fX_l1_1 : w.heap.size + 1 < w4.heap.size + 1 := by omega
  have fX_l1_2 : w.heap.size + 1 < w4.heap.size + 1 + 1 := by omega
  go_wp2_with (go_at_call 60; refine (HCR.out _ _ _ (HC.out.below hB4)).mono ?_; rintro r w5 ⟨rfl, h5⟩; refine Hid.out ?_)
  unfold Hid
  have hB5 := hB4.trans (h5.mono hB4.size)
  have KC_5 := Lib.hid (KC_4.out.below h5)
  have KX_5 := Lib.hid (KX_4.out.below h5)
  clear h5 hB4 KC_4 KX_4 fC_0 fC_1 fC_2 fC_3 fC_4 fC_5 fC_6 fC_7 fC_8 fC_l fC_f fC_l0_1 fC_l0_2 fX_0 fX_1 fX_2 fX_3 fX_4 fX_l fX_f fX_l0 fX_l0_1 fX_l0_2 fX_l1_1 fX_l1_2
  obtain ⟨fC_0, fC_1, fC_2, fC_3, fC_4, fC_5, fC_6, fC_7, fC_8, fC_l, fC_f⟩ := KC_5.out.o9
  have fC_l0_1 : w.heap.size < w5.heap.size + 1 := by omega
  have fC_l0_2 : w.heap.size < w5.heap.size + 1 + 1 := by omega
  obtain ⟨fX_0, fX_1, fX_2, fX_3, fX_4, fX_l, fX_f⟩ := KX_5.out.o5
  have fX_l0 : w.heap.size < w5.heap.size := by omega
  have fX_l0_1 : w.heap.size < w5.heap.size + 1 := by omega
  have fX_l0_2 : w.heap.size < w5.heap.size + 1 + 1 := by omega
  have fX_l1_1 : w.heap.size + 1 < w5.heap.size + 1 := by omega
  have fX_l1_2 : w.heap.size + 1 < w5.heap.size + 1 + 1 := by omega
  go_wp2
  have hwd := fX_l
  have f_x : w.heap.size < w5.heap.size + 1 := by have := fC_l; omega
  have f_y : w.heap.size + 1 < w5.heap.size + 1 := by have := fX_l; omega
  have KD0 := Lib.hid (show Blk (w5.alloc (.cells #[(.int .i64 (re)), (.int .i64 (le)), (.int .i64 (bl)), (.int .i64 (ma)), (.int .i64 (st)), (.int .i64 (lo))] 23)) (w5.heap.size) #[(.int .i64 (re)), (.int .i64 (le)), (.int .i64 (bl)), (.int .i64 (ma)), (.int .i64 (st)), (.int .i64 (lo))] from Calm.Blk.new _ _ _)
  refine RelT.region3 (S := Keeps (w5.heap.size) #[(.int .i64 (re)), (.int .i64 (le)), (.int .i64 (bl)), (.int .i64 (ma + a0 % (mm - ma + 1))), (.int .i64 (st + a1 % (kk - st + 1))), (.int .i64 (lo))]) (C := (fun j W => (j = 1 ∨ j = 9 → W.cell? ⟨w5.heap.size, 3, none⟩ = some (.int .i64 (ma))) ∧ (j = 15 ∨ j = 23 → W.cell? ⟨w5.heap.size, 4, none⟩ = some (.int .i64 (st))) ∧ (j = 29 ∨ j = 37 → W.cell? ⟨w5.heap.size, 5, none⟩ = some (.int .i64 (lo))))) (B := (fun i => if i = 43 ∨ i = 13 then [1, 9] else if i = 12 ∨ i = 11 ∨ i = 10 then [9] else if i = 45 ∨ i = 27 then [15, 23] else if i = 26 ∨ i = 25 ∨ i = 24 then [23] else [])) (fun j => ⟨fun _ => ?_, fun _ => ?_, fun _ => ?_⟩) Keeps.trans Keeps.drawn 47 (by kernel_rfl) (by kernel_rfl) (by kernel_rfl) (by kernel_rfl) ?_
  · exact KD0.out.cell 3 _ rfl
  · exact KD0.out.cell 4 _ rfl
  · exact KD0.out.cell 5 _ rfl
  simp only [List.take_succ_cons, List.take_zero, List.drop_succ_cons, List.drop_zero, List.filterMap_cons, List.filterMap_nil]
  obtain ⟨⟨⟨q1, q2⟩, q3⟩, ⟨⟨q4, q5⟩, q6⟩, ⟨⟨q7, q8⟩, q9⟩⟩ := hcl
  obtain ⟨⟨u1, u2⟩, ⟨u3, u4⟩, ⟨u5, u6⟩, ⟨u7, u8⟩⟩ := hu
  have z1 : ¬ mm - ma + 1 = 0 := by omega
  have z2 : ¬ kk - st + 1 = 0 := by omega
  have z3 : ¬ rr - lo + 1 = 0 := by omega
  have y0 : 0 ≤ a0 % (mm - ma + 1) := Int.emod_nonneg _ z1
  have v0 : a0 % (mm - ma + 1) < mm - ma + 1 := Int.emod_lt_of_pos _ (by omega)
  have y1 : 0 ≤ a1 % (kk - st + 1) := Int.emod_nonneg _ z2
  have v1 : a1 % (kk - st + 1) < kk - st + 1 := Int.emod_lt_of_pos _ (by omega)
  have y2 : 0 ≤ a2 % (rr - lo + 1) := Int.emod_nonneg _ z3
  have v2 : a2 % (rr - lo + 1) < rr - lo + 1 := Int.emod_lt_of_pos _ (by omega)
  have E0 := Lib.hid e0; have E1 := Lib.hid e1; have E2 := Lib.hid e2; have E3 := Lib.hid e3
  clear e0 e1 e2 e3
  (apply RelT.op3 (Keeps.refl _ _); (focus (first | exact Rel.gno rfl | exact Rel.gyes _ true _ rfl rfl rfl)); (focus (intro a W hb hcl hd hbase; have hDf := hb.frozen; obtain ⟨hc, hf⟩ := hb.old; clear hb hf; simp at hcl; simp [Rel.deps, Rel.dep1, Rel.ons, Region.binds, Act.eval] at hd; simp only [Act.eval, List.mem_cons, List.not_mem_nil, not_or, and_imp, or_false, Array.getD_eq_getD_getElem?] at hbase; go_simp; (try go_bits); (try rfl); done)); (try simp only [List.nil_append, List.cons_append]))
  (apply RelT.op3 (Keeps.refl _ _); (focus (first | exact Rel.gno rfl | exact Rel.gyes _ true _ rfl rfl rfl)); (focus (intro a W hb hcl hd hbase; have hDf := hb.frozen; obtain ⟨hc, hf⟩ := hb.old; clear hb hf; simp at hcl; simp [Rel.deps, Rel.dep1, Rel.ons, Region.binds, Act.eval] at hd; simp only [Act.eval, List.mem_cons, List.not_mem_nil, not_or, and_imp, or_false, Array.getD_eq_getD_getElem?] at hbase; go_simp; (try go_bits); (try rfl); done)); (try simp only [List.nil_append, List.cons_append]))
  (apply RelT.op3 (Keeps.refl _ _); (focus (first | exact Rel.gno rfl | exact Rel.gyes _ true _ rfl rfl rfl)); (focus (intro a W hb hcl hd hbase; have hDf := hb.frozen; obtain ⟨hc, hf⟩ := hb.old; clear hb hf; simp at hcl; simp [Rel.deps, Rel.dep1, Rel.ons, Region.binds, Act.eval] at hd; simp only [Act.eval, List.mem_cons, List.not_mem_nil, not_or, and_imp, or_false, Array.getD_eq_getD_getElem?] at hbase; go_simp; (try go_bits); (try rfl); done)); (try simp only [List.nil_append, List.cons_append]))
  (apply RelT.op3 (Keeps.refl _ _); (focus (first | exact Rel.gno rfl | exact Rel.gyes _ true _ rfl rfl rfl)); (focus (intro a W hb hcl hd hbase; have hDf := hb.frozen; obtain ⟨hc, hf⟩ := hb.old; clear hb hf; simp at hcl; simp [Rel.deps, Rel.dep1, Rel.ons, Region.binds, Act.eval] at hd; simp only [Act.eval, List.mem_cons, List.not_mem_nil, not_or, and_imp, or_false, Array.getD_eq_getD_getElem?] at hbase; go_simp; (try go_bits); (try rfl); done)); (try simp only [List.nil_append, List.cons_append]))
  (apply RelT.op3 (Keeps.refl _ _); (focus (first | exact Rel.gno rfl | exact Rel.gyes _ true _ rfl rfl rfl)); (focus (intro a W hb hcl hd hbase; have hDf := hb.frozen; obtain ⟨hc, hf⟩ := hb.old; clear hb hf; simp at hcl; simp [Rel.deps, Rel.dep1, Rel.ons, Region.binds, Act.eval] at hd; simp only [Act.eval, List.mem_cons, List.not_mem_nil, not_or, and_imp, or_false, Array.getD_eq_getD_getElem?] at hbase; go_simp; (try go_bits); (try rfl); done)); (try simp only [List.nil_append, List.cons_append]))
  (apply RelT.op3 (Keeps.refl _ _); (focus (first | exact Rel.gno rfl | exact Rel.gyes _ true _ rfl rfl rfl)); (focus (intro a W hb hcl hd hbase; have hDf := hb.frozen; obtain ⟨hc, hf⟩ := hb.old; clear hb hf; simp at hcl; simp [Rel.deps, Rel.dep1, Rel.ons, Region.binds, Act.eval] at hd; simp only [Act.eval, List.mem_cons, List.not_mem_nil, not_or, and_imp, or_false, Array.getD_eq_getD_getElem?] at hbase; go_simp; (try go_bits); (try rfl); done)); (try simp only [List.nil_append, List.cons_append]))
  (apply RelT.op3 (Keeps.refl _ _); (focus (first | exact Rel.gno rfl | exact Rel.gyes _ true _ rfl rfl rfl)); (focus (intro a W hb hcl hd hbase; have hDf := hb.frozen; obtain ⟨hc, hf⟩ := hb.old; clear hb hf; simp at hcl; simp [Rel.deps, Rel.dep1, Rel.ons, Region.binds, Act.eval] at hd; simp only [Act.eval, List.mem_cons, List.not_mem_nil, not_or, and_imp, or_false, Array.getD_eq_getD_getElem?] at hbase; go_simp; (try go_bits); (try rfl); done)); (try simp only [List.nil_append, List.cons_append]))
  (apply RelT.op3 (Keeps.refl _ _); (focus (first | exact Rel.gno rfl | exact Rel.gyes _ true _ rfl rfl rfl)); (focus (intro a W hb hcl hd hbase; have hDf := hb.frozen; obtain ⟨hc, hf⟩ := hb.old; clear hb hf; simp at hcl; simp [Rel.deps, Rel.dep1, Rel.ons, Region.binds, Act.eval] at hd; simp only [Act.eval, List.mem_cons, List.not_mem_nil, not_or, and_imp, or_false, Array.getD_eq_getD_getElem?] at hbase; go_simp; (try go_bits); (try rfl); done)); (try simp only [List.nil_append, List.cons_append]))
  (apply RelT.op3 (Keeps.refl _ _); (focus (first | exact Rel.gno rfl | exact Rel.gyes _ true _ rfl rfl rfl)); (focus (intro a W hb hcl hd hbase; have hDf := hb.frozen; obtain ⟨hc, hf⟩ := hb.old; clear hb hf; simp at hcl; simp [Rel.deps, Rel.dep1, Rel.ons, Region.binds, Act.eval] at hd; simp only [Act.eval, List.mem_cons, List.not_mem_nil, not_or, and_imp, or_false, Array.getD_eq_getD_getElem?] at hbase; go_simp; (try go_bits); (try rfl); done)); (try simp only [List.nil_append, List.cons_append]))
  (apply RelT.op3 (Keeps.refl _ _); (focus (first | exact Rel.gno rfl | exact Rel.gyes _ true _ rfl rfl rfl)); (focus (intro a W hb hcl hd hbase; have hDf := hb.frozen; obtain ⟨hc, hf⟩ := hb.old; clear hb hf; simp at hcl; simp [Rel.deps, Rel.dep1, Rel.ons, Region.binds, Act.eval] at hd; simp only [Act.eval, List.mem_cons, List.not_mem_nil, not_or, and_imp, or_false, Array.getD_eq_getD_getElem?] at hbase; go_simp; (try go_bits); (try rfl); done)); (try simp only [List.nil_append, List.cons_append]))
  (apply RelT.op3 (Keeps.refl _ _); (focus (first | exact Rel.gno rfl | exact Rel.gyes _ true _ rfl rfl rfl)); (focus (intro a W hb hcl hd hbase; have hDf := hb.frozen; obtain ⟨hc, hf⟩ := hb.old; clear hb hf; simp at hcl; simp [Rel.deps, Rel.dep1, Rel.ons, Region.binds, Act.eval] at hd; simp only [Act.eval, List.mem_cons, List.not_mem_nil, not_or, and_imp, or_false, Array.getD_eq_getD_getElem?] at hbase; go_simp; (try go_bits); (try rfl); done)); (try simp only [List.nil_append, List.cons_append]))
  (apply RelT.op3 (Keeps.refl _ _); (focus (first | exact Rel.gno rfl | exact Rel.gyes _ true _ rfl rfl rfl)); (focus (intro a W hb hcl hd hbase; have hDf := hb.frozen; obtain ⟨hc, hf⟩ := hb.old; clear hb hf; simp at hcl; simp [Rel.deps, Rel.dep1, Rel.ons, Region.binds, Act.eval] at hd; simp only [Act.eval, List.mem_cons, List.not_mem_nil, not_or, and_imp, or_false, Array.getD_eq_getD_getElem?] at hbase; go_simp; (try go_bits); (try rfl); done)); (try simp only [List.nil_append, List.cons_append]))
  (apply RelT.op3 (Keeps.refl _ _); (focus (first | exact Rel.gno rfl | exact Rel.gyes _ true _ rfl rfl rfl)); (focus (intro a W hb hcl hd hbase; have hDf := hb.frozen; obtain ⟨hc, hf⟩ := hb.old; clear hb hf; simp at hcl; simp [Rel.deps, Rel.dep1, Rel.ons, Region.binds, Act.eval] at hd; simp only [Act.eval, List.mem_cons, List.not_mem_nil, not_or, and_imp, or_false, Array.getD_eq_getD_getElem?] at hbase; go_simp; (try go_bits); (try rfl); done)); (try simp only [List.nil_append, List.cons_append]))
  (apply RelT.op3 (Keeps.refl _ _); (focus (first | exact Rel.gno rfl | exact Rel.gyes _ true _ rfl rfl rfl)); (focus (intro a W hb hcl hd hbase; have hDf := hb.frozen; obtain ⟨hc, hf⟩ := hb.old; clear hb hf; simp at hcl; simp [Rel.deps, Rel.dep1, Rel.ons, Region.binds, Act.eval] at hd; simp only [Act.eval, List.mem_cons, List.not_mem_nil, not_or, and_imp, or_false, Array.getD_eq_getD_getElem?] at hbase; go_simp; (try go_bits); (try rfl); done)); (try simp only [List.nil_append, List.cons_append]))
  (apply RelT.op3 (Keeps.refl _ _); (focus (first | exact Rel.gno rfl | exact Rel.gyes _ true _ rfl rfl rfl)); (focus (intro a W hb hcl hd hbase; have hDf := hb.frozen; obtain ⟨hc, hf⟩ := hb.old; clear hb hf; simp at hcl; simp [Rel.deps, Rel.dep1, Rel.ons, Region.binds, Act.eval] at hd; simp only [Act.eval, List.mem_cons, List.not_mem_nil, not_or, and_imp, or_false, Array.getD_eq_getD_getElem?] at hbase; go_simp; (try go_bits); (try rfl); done)); (try simp only [List.nil_append, List.cons_append]))
  (apply RelT.op3 (Keeps.refl _ _); (focus (first | exact Rel.gno rfl | exact Rel.gyes _ true _ rfl rfl rfl)); (focus (intro a W hb hcl hd hbase; have hDf := hb.frozen; obtain ⟨hc, hf⟩ := hb.old; clear hb hf; simp at hcl; simp [Rel.deps, Rel.dep1, Rel.ons, Region.binds, Act.eval] at hd; simp only [Act.eval, List.mem_cons, List.not_mem_nil, not_or, and_imp, or_false, Array.getD_eq_getD_getElem?] at hbase; go_simp; (try go_bits); (try rfl); done)); (try simp only [List.nil_append, List.cons_append]))
  (apply RelT.op3 (Keeps.refl _ _); (focus (first | exact Rel.gno rfl | exact Rel.gyes _ true _ rfl rfl rfl)); (focus (intro a W hb hcl hd hbase; have hDf := hb.frozen; obtain ⟨hc, hf⟩ := hb.old; clear hb hf; simp at hcl; simp [Rel.deps, Rel.dep1, Rel.ons, Region.binds, Act.eval] at hd; simp only [Act.eval, List.mem_cons, List.not_mem_nil, not_or, and_imp, or_false, Array.getD_eq_getD_getElem?] at hbase; go_simp; (try go_bits); (try rfl); done)); (try simp only [List.nil_append, List.cons_append]))
  (apply RelT.op3 (Keeps.refl _ _); (focus (first | exact Rel.gno rfl | exact Rel.gyes _ true _ rfl rfl rfl)); (focus (intro a W hb hcl hd hbase; have hDf := hb.frozen; obtain ⟨hc, hf⟩ := hb.old; clear hb hf; simp at hcl; simp [Rel.deps, Rel.dep1, Rel.ons, Region.binds, Act.eval] at hd; simp only [Act.eval, List.mem_cons, List.not_mem_nil, not_or, and_imp, or_false, Array.getD_eq_getD_getElem?] at hbase; go_simp; (try go_bits); (try rfl); done)); (try simp only [List.nil_append, List.cons_append]))
  (apply RelT.op3 (Keeps.refl _ _); (focus (first | exact Rel.gno rfl | exact Rel.gyes _ true _ rfl rfl rfl)); (focus (intro a W hb hcl hd hbase; have hDf := hb.frozen; obtain ⟨hc, hf⟩ := hb.old; clear hb hf; simp at hcl; simp [Rel.deps, Rel.dep1, Rel.ons, Region.binds, Act.eval] at hd; simp only [Act.eval, List.mem_cons, List.not_mem_nil, not_or, and_imp, or_false, Array.getD_eq_getD_getElem?] at hbase; go_simp; (try go_bits); (try rfl); done)); (try simp only [List.nil_append, List.cons_append]))
  (apply RelT.op3 (Keeps.refl _ _); (focus (first | exact Rel.gno rfl | exact Rel.gyes _ true _ rfl rfl rfl)); (focus (intro a W hb hcl hd hbase; have hDf := hb.frozen; obtain ⟨hc, hf⟩ := hb.old; clear hb hf; simp at hcl; simp [Rel.deps, Rel.dep1, Rel.ons, Region.binds, Act.eval] at hd; simp only [Act.eval, List.mem_cons, List.not_mem_nil, not_or, and_imp, or_false, Array.getD_eq_getD_getElem?] at hbase; go_simp; (try go_bits); (try rfl); done)); (try simp only [List.nil_append, List.cons_append]))
  (apply RelT.op3 (Keeps.refl _ _); (focus (first | exact Rel.gno rfl | exact Rel.gyes _ true _ rfl rfl rfl)); (focus (intro a W hb hcl hd hbase; have hDf := hb.frozen; obtain ⟨hc, hf⟩ := hb.old; clear hb hf; simp at hcl; simp [Rel.deps, Rel.dep1, Rel.ons, Region.binds, Act.eval] at hd; simp only [Act.eval, List.mem_cons, List.not_mem_nil, not_or, and_imp, or_false, Array.getD_eq_getD_getElem?] at hbase; go_simp; (try go_bits); (try rfl); done)); (try simp only [List.nil_append, List.cons_append]))
  (apply RelT.op3 (Keeps.refl _ _); (focus (first | exact Rel.gno rfl | exact Rel.gyes _ true _ rfl rfl rfl)); (focus (intro a W hb hcl hd hbase; have hDf := hb.frozen; obtain ⟨hc, hf⟩ := hb.old; clear hb hf; simp at hcl; simp [Rel.deps, Rel.dep1, Rel.ons, Region.binds, Act.eval] at hd; simp only [Act.eval, List.mem_cons, List.not_mem_nil, not_or, and_imp, or_false, Array.getD_eq_getD_getElem?] at hbase; go_simp; (try go_bits); (try rfl); done)); (try simp only [List.nil_append, List.cons_append]))
  (apply RelT.op3 (Keeps.refl _ _); (focus (first | exact Rel.gno rfl | exact Rel.gyes _ true _ rfl rfl rfl)); (focus (intro a W hb hcl hd hbase; have hDf := hb.frozen; obtain ⟨hc, hf⟩ := hb.old; clear hb hf; simp at hcl; simp [Rel.deps, Rel.dep1, Rel.ons, Region.binds, Act.eval] at hd; simp only [Act.eval, List.mem_cons, List.not_mem_nil, not_or, and_imp, or_false, Array.getD_eq_getD_getElem?] at hbase; go_simp; (try go_bits); (try rfl); done)); (try simp only [List.nil_append, List.cons_append]))
  (apply RelT.op3 (Keeps.refl _ _); (focus (first | exact Rel.gno rfl | exact Rel.gyes _ true _ rfl rfl rfl)); (focus (intro a W hb hcl hd hbase; have hDf := hb.frozen; obtain ⟨hc, hf⟩ := hb.old; clear hb hf; simp at hcl; simp [Rel.deps, Rel.dep1, Rel.ons, Region.binds, Act.eval] at hd; simp only [Act.eval, List.mem_cons, List.not_mem_nil, not_or, and_imp, or_false, Array.getD_eq_getD_getElem?] at hbase; go_simp; (try go_bits); (try rfl); done)); (try simp only [List.nil_append, List.cons_append]))
  (apply RelT.op3 (Keeps.refl _ _); (focus (first | exact Rel.gno rfl | exact Rel.gyes _ true _ rfl rfl rfl)); (focus (intro a W hb hcl hd hbase; have hDf := hb.frozen; obtain ⟨hc, hf⟩ := hb.old; clear hb hf; simp at hcl; simp [Rel.deps, Rel.dep1, Rel.ons, Region.binds, Act.eval] at hd; simp only [Act.eval, List.mem_cons, List.not_mem_nil, not_or, and_imp, or_false, Array.getD_eq_getD_getElem?] at hbase; go_simp; (try go_bits); (try rfl); done)); (try simp only [List.nil_append, List.cons_append]))
  (apply RelT.op3 (Keeps.refl _ _); (focus (first | exact Rel.gno rfl | exact Rel.gyes _ true _ rfl rfl rfl)); (focus (intro a W hb hcl hd hbase; have hDf := hb.frozen; obtain ⟨hc, hf⟩ := hb.old; clear hb hf; simp at hcl; simp [Rel.deps, Rel.dep1, Rel.ons, Region.binds, Act.eval] at hd; simp only [Act.eval, List.mem_cons, List.not_mem_nil, not_or, and_imp, or_false, Array.getD_eq_getD_getElem?] at hbase; go_simp; (try go_bits); (try rfl); done)); (try simp only [List.nil_append, List.cons_append]))
  (apply RelT.op3 (Keeps.refl _ _); (focus (first | exact Rel.gno rfl | exact Rel.gyes _ true _ rfl rfl rfl)); (focus (intro a W hb hcl hd hbase; have hDf := hb.frozen; obtain ⟨hc, hf⟩ := hb.old; clear hb hf; simp at hcl; simp [Rel.deps, Rel.dep1, Rel.ons, Region.binds, Act.eval] at hd; simp only [Act.eval, List.mem_cons, List.not_mem_nil, not_or, and_imp, or_false, Array.getD_eq_getD_getElem?] at hbase; go_simp; (try go_bits); (try rfl); done)); (try simp only [List.nil_append, List.cons_append]))
  (apply RelT.op3 (Keeps.refl _ _); (focus (first | exact Rel.gno rfl | exact Rel.gyes _ true _ rfl rfl rfl)); (focus (intro a W hb hcl hd hbase; have hDf := hb.frozen; obtain ⟨hc, hf⟩ := hb.old; clear hb hf; simp at hcl; simp [Rel.deps, Rel.dep1, Rel.ons, Region.binds, Act.eval] at hd; simp only [Act.eval, List.mem_cons, List.not_mem_nil, not_or, and_imp, or_false, Array.getD_eq_getD_getElem?] at hbase; go_simp; (try go_bits); (try rfl); done)); (try simp only [List.nil_append, List.cons_append]))
  (apply RelT.op3 (Keeps.refl _ _); (focus (first | exact Rel.gno rfl | exact Rel.gyes _ true _ rfl rfl rfl)); (focus (intro a W hb hcl hd hbase; have hDf := hb.frozen; obtain ⟨hc, hf⟩ := hb.old; clear hb hf; simp at hcl; simp [Rel.deps, Rel.dep1, Rel.ons, Region.binds, Act.eval] at hd; simp only [Act.eval, List.mem_cons, List.not_mem_nil, not_or, and_imp, or_false, Array.getD_eq_getD_getElem?] at hbase; go_simp; (try go_bits); (try rfl); done)); (try simp only [List.nil_append, List.cons_append]))
  (apply RelT.op3 (Keeps.refl _ _); (focus (first | exact Rel.gno rfl | exact Rel.gyes _ true _ rfl rfl rfl)); (focus (intro a W hb hcl hd hbase; have hDf := hb.frozen; obtain ⟨hc, hf⟩ := hb.old; clear hb hf; simp at hcl; simp [Rel.deps, Rel.dep1, Rel.ons, Region.binds, Act.eval] at hd; simp only [Act.eval, List.mem_cons, List.not_mem_nil, not_or, and_imp, or_false, Array.getD_eq_getD_getElem?] at hbase; go_simp; (try go_bits); (try rfl); done)); (try simp only [List.nil_append, List.cons_append]))
  (apply RelT.op3 (Keeps.refl _ _); (focus (first | exact Rel.gno rfl | exact Rel.gyes _ true _ rfl rfl rfl)); (focus (intro a W hb hcl hd hbase; have hDf := hb.frozen; obtain ⟨hc, hf⟩ := hb.old; clear hb hf; simp at hcl; simp [Rel.deps, Rel.dep1, Rel.ons, Region.binds, Act.eval] at hd; simp only [Act.eval, List.mem_cons, List.not_mem_nil, not_or, and_imp, or_false, Array.getD_eq_getD_getElem?] at hbase; go_simp; (try go_bits); (try rfl); done)); (try simp only [List.nil_append, List.cons_append]))
  (apply RelT.op3 (Keeps.refl _ _); (focus (first | exact Rel.gno rfl | exact Rel.gyes _ true _ rfl rfl rfl)); (focus (intro a W hb hcl hd hbase; have hDf := hb.frozen; obtain ⟨hc, hf⟩ := hb.old; clear hb hf; simp at hcl; simp [Rel.deps, Rel.dep1, Rel.ons, Region.binds, Act.eval] at hd; simp only [Act.eval, List.mem_cons, List.not_mem_nil, not_or, and_imp, or_false, Array.getD_eq_getD_getElem?] at hbase; go_simp; (try go_bits); (try rfl); done)); (try simp only [List.nil_append, List.cons_append]))
  (apply RelT.op3 (Keeps.refl _ _); (focus (first | exact Rel.gno rfl | exact Rel.gyes _ true _ rfl rfl rfl)); (focus (intro a W hb hcl hd hbase; have hDf := hb.frozen; obtain ⟨hc, hf⟩ := hb.old; clear hb hf; simp at hcl; simp [Rel.deps, Rel.dep1, Rel.ons, Region.binds, Act.eval] at hd; simp only [Act.eval, List.mem_cons, List.not_mem_nil, not_or, and_imp, or_false, Array.getD_eq_getD_getElem?] at hbase; go_simp; (try go_bits); (try rfl); done)); (try simp only [List.nil_append, List.cons_append]))
  (apply RelT.op3 (Keeps.refl _ _); (focus (first | exact Rel.gno rfl | exact Rel.gyes _ true _ rfl rfl rfl)); (focus (intro a W hb hcl hd hbase; have hDf := hb.frozen; obtain ⟨hc, hf⟩ := hb.old; clear hb hf; simp at hcl; simp [Rel.deps, Rel.dep1, Rel.ons, Region.binds, Act.eval] at hd; simp only [Act.eval, List.mem_cons, List.not_mem_nil, not_or, and_imp, or_false, Array.getD_eq_getD_getElem?] at hbase; go_simp; (try go_bits); (try rfl); done)); (try simp only [List.nil_append, List.cons_append]))
  (apply RelT.op3 (Keeps.refl _ _); (focus (first | exact Rel.gno rfl | exact Rel.gyes _ true _ rfl rfl rfl)); (focus (intro a W hb hcl hd hbase; have hDf := hb.frozen; obtain ⟨hc, hf⟩ := hb.old; clear hb hf; simp at hcl; simp [Rel.deps, Rel.dep1, Rel.ons, Region.binds, Act.eval] at hd; simp only [Act.eval, List.mem_cons, List.not_mem_nil, not_or, and_imp, or_false, Array.getD_eq_getD_getElem?] at hbase; go_simp; (try go_bits); (try rfl); done)); (try simp only [List.nil_append, List.cons_append]))
  (apply RelT.op3 (Keeps.refl _ _); (focus (first | exact Rel.gno rfl | exact Rel.gyes _ true _ rfl rfl rfl)); (focus (intro a W hb hcl hd hbase; have hDf := hb.frozen; obtain ⟨hc, hf⟩ := hb.old; clear hb hf; simp at hcl; simp [Rel.deps, Rel.dep1, Rel.ons, Region.binds, Act.eval] at hd; simp only [Act.eval, List.mem_cons, List.not_mem_nil, not_or, and_imp, or_false, Array.getD_eq_getD_getElem?] at hbase; go_simp; (try go_bits); (try rfl); done)); (try simp only [List.nil_append, List.cons_append]))
  (apply RelT.op3 (Keeps.refl _ _); (focus (first | exact Rel.gno rfl | exact Rel.gyes _ true _ rfl rfl rfl)); (focus (intro a W hb hcl hd hbase; have hDf := hb.frozen; obtain ⟨hc, hf⟩ := hb.old; clear hb hf; simp at hcl; simp [Rel.deps, Rel.dep1, Rel.ons, Region.binds, Act.eval] at hd; simp only [Act.eval, List.mem_cons, List.not_mem_nil, not_or, and_imp, or_false, Array.getD_eq_getD_getElem?] at hbase; go_simp; (try go_bits); (try rfl); done)); (try simp only [List.nil_append, List.cons_append]))
  (apply RelT.op3 (Keeps.refl _ _); (focus (first | exact Rel.gno rfl | exact Rel.gyes _ true _ rfl rfl rfl)); (focus (intro a W hb hcl hd hbase; have hDf := hb.frozen; obtain ⟨hc, hf⟩ := hb.old; clear hb hf; simp at hcl; simp [Rel.deps, Rel.dep1, Rel.ons, Region.binds, Act.eval] at hd; simp only [Act.eval, List.mem_cons, List.not_mem_nil, not_or, and_imp, or_false, Array.getD_eq_getD_getElem?] at hbase; go_simp; (try go_bits); (try rfl); done)); (try simp only [List.nil_append, List.cons_append]))
  (apply RelT.op3 (Keeps.refl _ _); (focus (first | exact Rel.gno rfl | exact Rel.gyes _ true _ rfl rfl rfl)); (focus (intro a W hb hcl hd hbase; have hDf := hb.frozen; obtain ⟨hc, hf⟩ := hb.old; clear hb hf; simp at hcl; simp [Rel.deps, Rel.dep1, Rel.ons, Region.binds, Act.eval] at hd; simp only [Act.eval, List.mem_cons, List.not_mem_nil, not_or, and_imp, or_false, Array.getD_eq_getD_getElem?] at hbase; go_simp; (try go_bits); (try rfl); done)); (try simp only [List.nil_append, List.cons_append]))
  (apply RelT.op3 (Keeps.refl _ _); (focus (first | exact Rel.gno rfl | exact Rel.gyes _ true _ rfl rfl rfl)); (focus (intro a W hb hcl hd hbase; have hDf := hb.frozen; obtain ⟨hc, hf⟩ := hb.old; clear hb hf; simp at hcl; simp [Rel.deps, Rel.dep1, Rel.ons, Region.binds, Act.eval] at hd; simp only [Act.eval, List.mem_cons, List.not_mem_nil, not_or, and_imp, or_false, Array.getD_eq_getD_getElem?] at hbase; go_simp; (try go_bits); (try rfl); done)); (try simp only [List.nil_append, List.cons_append]))
  (apply RelT.op3 (Keeps.refl _ _); (focus (first | exact Rel.gno rfl | exact Rel.gyes _ true _ rfl rfl rfl)); (focus (intro a W hb hcl hd hbase; have hDf := hb.frozen; obtain ⟨hc, hf⟩ := hb.old; clear hb hf; simp at hcl; simp [Rel.deps, Rel.dep1, Rel.ons, Region.binds, Act.eval] at hd; simp only [Act.eval, List.mem_cons, List.not_mem_nil, not_or, and_imp, or_false, Array.getD_eq_getD_getElem?] at hbase; go_simp; (try go_bits); (try rfl); done)); (try simp only [List.nil_append, List.cons_append]))
  (apply RelT.op3 (Keeps.refl _ _); (focus (first | exact Rel.gno rfl | exact Rel.gyes _ true _ rfl rfl rfl)); (focus (intro a W hb hcl hd hbase; have hDf := hb.frozen; obtain ⟨hc, hf⟩ := hb.old; clear hb hf; simp at hcl; simp [Rel.deps, Rel.dep1, Rel.ons, Region.binds, Act.eval] at hd; simp only [Act.eval, List.mem_cons, List.not_mem_nil, not_or, and_imp, or_false, Array.getD_eq_getD_getElem?] at hbase; go_simp; (try go_bits); (try rfl); done)); (try simp only [List.nil_append, List.cons_append]))
  (apply RelT.op3 (Keeps.refl _ _); (focus (first | exact Rel.gno rfl | exact Rel.gyes _ true _ rfl rfl rfl)); (focus (intro a W hb hcl hd hbase; have hDf := hb.frozen; obtain ⟨hc, hf⟩ := hb.old; clear hb hf; simp at hcl; simp [Rel.deps, Rel.dep1, Rel.ons, Region.binds, Act.eval] at hd; simp only [Act.eval, List.mem_cons, List.not_mem_nil, not_or, and_imp, or_false, Array.getD_eq_getD_getElem?] at hbase; go_simp; (try go_bits); (try rfl); done)); (try simp only [List.nil_append, List.cons_append]))
  refine RelT.store3 (fun W => W.cell? ⟨w5.heap.size, 3, none⟩ = some (.int .i64 (ma + a0 % (mm - ma + 1)))) (fun W W' h hS => (hS.cell 3).elim (fun e => e.trans h) (fun e => e.1)) (Rel.gno rfl) ?_ ?_
  · intro a W hb hcl hd hbase
    obtain ⟨u, hu⟩ := hb.has KD0.out rfl (i := 3) (by simp)
    have hS := Keeps.put (v := (.int .i64 (ma + a0 % (mm - ma + 1)))) hu (new := #[(.int .i64 (re)), (.int .i64 (le)), (.int .i64 (bl)), (.int .i64 (ma + a0 % (mm - ma + 1))), (.int .i64 (st + a1 % (kk - st + 1))), (.int .i64 (lo))]) rfl
    have hfz := (hb.frozen 3).trans (KD0.out.f 3)
    obtain ⟨hc, hf⟩ := hb.old
    clear hb hf
    simp [Rel.deps, Rel.dep1, Rel.ons, Region.binds, Act.eval] at hd
    simp only [Act.eval, List.mem_cons, List.not_mem_nil, not_or, and_imp, or_false, Array.getD_eq_getD_getElem?] at hbase
    refine ⟨W.setCell ⟨w5.heap.size, 3, none⟩ (.int .i64 (ma + a0 % (mm - ma + 1))), ?_, World.cell?_setCell_same W _ _ hu, hS, ?_⟩
    · go_simp
      (first | done | rfl | (refine ⟨?_, ?_⟩ <;> rfl))
    · intro j hj hh
      simp at hj
      have hne : ∀ k, k ≠ 3 → (W.setCell ⟨w5.heap.size, 3, none⟩ (.int .i64 (ma + a0 % (mm - ma + 1)))).cell? ⟨w5.heap.size, k, none⟩ = W.cell? ⟨w5.heap.size, k, none⟩ := fun k hk => World.cell?_setCell_other W ⟨w5.heap.size, 3, none⟩ ⟨w5.heap.size, k, none⟩ _ (by intro e; cases e; exact hk rfl)
      exact ⟨fun h => by first | exact (hne 3 (by decide)).trans (hh.1 h) | omega, fun h => by first | exact (hne 4 (by decide)).trans (hh.2.1 h) | omega, fun h => by first | exact (hne 5 (by decide)).trans (hh.2.2 h) | omega⟩
  (try simp only [List.nil_append, List.cons_append])
  (apply RelT.op3 (Keeps.refl _ _); (focus (first | exact Rel.gno rfl | exact Rel.gyes _ true _ rfl rfl rfl)); (focus (intro a W hb hcl hd hbase; have hDf := hb.frozen; obtain ⟨hc, hf⟩ := hb.old; clear hb hf; simp at hcl; simp [Rel.deps, Rel.dep1, Rel.ons, Region.binds, Act.eval] at hd; simp only [Act.eval, List.mem_cons, List.not_mem_nil, not_or, and_imp, or_false, Array.getD_eq_getD_getElem?] at hbase; go_simp; (try go_bits); (try rfl); done)); (try simp only [List.nil_append, List.cons_append]))
  refine RelT.store3 (fun W => W.cell? ⟨w5.heap.size, 4, none⟩ = some (.int .i64 (st + a1 % (kk - st + 1)))) (fun W W' h hS => (hS.cell 4).elim (fun e => e.trans h) (fun e => e.1)) (Rel.gno rfl) ?_ ?_
  · intro a W hb hcl hd hbase
    obtain ⟨u, hu⟩ := hb.has KD0.out rfl (i := 4) (by simp)
    have hS := Keeps.put (v := (.int .i64 (st + a1 % (kk - st + 1)))) hu (new := #[(.int .i64 (re)), (.int .i64 (le)), (.int .i64 (bl)), (.int .i64 (ma + a0 % (mm - ma + 1))), (.int .i64 (st + a1 % (kk - st + 1))), (.int .i64 (lo))]) rfl
    have hfz := (hb.frozen 4).trans (KD0.out.f 4)
    obtain ⟨hc, hf⟩ := hb.old
    clear hb hf
    simp [Rel.deps, Rel.dep1, Rel.ons, Region.binds, Act.eval] at hd
    simp only [Act.eval, List.mem_cons, List.not_mem_nil, not_or, and_imp, or_false, Array.getD_eq_getD_getElem?] at hbase
    refine ⟨W.setCell ⟨w5.heap.size, 4, none⟩ (.int .i64 (st + a1 % (kk - st + 1))), ?_, World.cell?_setCell_same W _ _ hu, hS, ?_⟩
    · go_simp
      (first | done | rfl | (refine ⟨?_, ?_⟩ <;> rfl))
    · intro j hj hh
      simp at hj
      have hne : ∀ k, k ≠ 4 → (W.setCell ⟨w5.heap.size, 4, none⟩ (.int .i64 (st + a1 % (kk - st + 1)))).cell? ⟨w5.heap.size, k, none⟩ = W.cell? ⟨w5.heap.size, k, none⟩ := fun k hk => World.cell?_setCell_other W ⟨w5.heap.size, 4, none⟩ ⟨w5.heap.size, k, none⟩ _ (by intro e; cases e; exact hk rfl)
      exact ⟨fun h => by first | exact (hne 3 (by decide)).trans (hh.1 h) | omega, fun h => by first | exact (hne 4 (by decide)).trans (hh.2.1 h) | omega, fun h => by first | exact (hne 5 (by decide)).trans (hh.2.2 h) | omega⟩
  (try simp only [List.nil_append, List.cons_append])
  (apply RelT.op3 (Keeps.refl _ _); (focus (first | exact Rel.gno rfl | exact Rel.gyes _ true _ rfl rfl rfl)); (focus (intro a W hb hcl hd hbase; have hDf := hb.frozen; obtain ⟨hc, hf⟩ := hb.old; clear hb hf; simp at hcl; simp [Rel.deps, Rel.dep1, Rel.ons, Region.binds, Act.eval] at hd; simp only [Act.eval, List.mem_cons, List.not_mem_nil, not_or, and_imp, or_false, Array.getD_eq_getD_getElem?] at hbase; go_simp; (try go_bits); (try rfl); done)); (try simp only [List.nil_append, List.cons_append]))
  refine RelT.done3 ?_
  intro xx w6 hS hx
  simp only [Rel.facts, Nat.zero_add, Nat.reduceAdd] at hx
  obtain ⟨e0, e1, e2, e3, e4, e5, e6, e7, e8, e9, e10, e11, e12, e13, e14, e15, e16, e17, e18, e19, e20, e21, e22, e23, e24, e25, e26, e27, e28, e29, e30, e31, e32, e33, e34, e35, e36, e37, e38, e39, e40, e41, e42, e43, e44, e45, e46, _⟩ := hx
  simp only [RelG.fill, Nat.zero_add, Nat.reduceAdd, e0, e1, e2, e3, e4, e5, e6, e7, e8, e9, e10, e11, e12, e13, e14, e15, e16, e17, e18, e19, e20, e21, e22, e23, e24, e25, e26, e27, e28, e29, e30, e31, e32, e33, e34, e35, e36, e37, e38, e39, e40, e41, e42, e44, e46]
  simp only [Act.put, List.setIfInBounds_toArray, List.set_cons_zero, List.set_cons_succ]
  have hB6 := (hB5.alloc hB5.size _).trans (hS.below.mono hB5.size)
  have KC_6 := Lib.hid ((KC_5.out.alloc _).sub hS.below KC_5.out.lt)
  have KX_6 := Lib.hid ((KX_5.out.alloc _).sub hS.below KX_5.out.lt)
  have KD_6 := Lib.hid (hS.blk KD0.out (fun i => by match i with | 0 => exact .inl rfl | 1 => exact .inl rfl | 2 => exact .inl rfl | 3 => exact .inr e43 | 4 => exact .inr e45 | 5 => exact .inl rfl | i + 6 => exact .inl rfl))
  have z_6 := hS.below.size
  simp at z_6
  clear e0 e1 e2 e3 e4 e5 e6 e7 e8 e9 e10 e11 e12 e13 e14 e15 e16 e17 e18 e19 e20 e21 e22 e23 e24 e25 e26 e27 e28 e29 e30 e31 e32 e33 e34 e35 e36 e37 e38 e39 e40 e41 e42 e43 e44 e45 e46 hS hB5 KC_5 KX_5 KD0 f_x f_y fC_0 fC_1 fC_2 fC_3 fC_4 fC_5 fC_6 fC_7 fC_8 fC_l fC_f fC_l0_1 fC_l0_2 fX_0 fX_1 fX_2 fX_3 fX_4 fX_l fX_f fX_l0 fX_l0_1 fX_l0_2 fX_l1_1 fX_l1_2
  obtain ⟨fC_0, fC_1, fC_2, fC_3, fC_4, fC_5, fC_6, fC_7, fC_8, fC_l, fC_f⟩ := KC_6.out.o9
  have fC_l0_1 : w.heap.size < w6.heap.size + 1 := by omega
  have fC_l0_2 : w.heap.size < w6.heap.size + 1 + 1 := by omega
  obtain ⟨fX_0, fX_1, fX_2, fX_3, fX_4, fX_l, fX_f⟩ := KX_6.out.o5
  have fX_l0 : w.heap.size < w6.heap.size := by omega
  have fX_l0_1 : w.heap.size < w6.heap.size + 1 := by omega
  have fX_l0_2 : w.heap.size < w6.heap.size + 1 + 1 := by omega
  have fX_l1_1 : w.heap.size + 1 < w6.heap.size + 1 := by omega
  have fX_l1_2 : w.heap.size + 1 < w6.heap.size + 1 + 1 := by omega
  obtain ⟨fD_0, fD_1, fD_2, fD_3, fD_4, fD_5, fD_l, fD_f⟩ := KD_6.out.o6
  have fD_l0_1 : w5.heap.size < w6.heap.size + 1 := by omega
  have fD_l0_2 : w5.heap.size < w6.heap.size + 1 + 1 := by omega
  have nCD0 : ¬ w5.heap.size = w.heap.size := by omega
  have mCD0 : ¬ w.heap.size = w5.heap.size := by omega
  have nXD0 : ¬ w5.heap.size = w.heap.size + 1 := by omega
  have mXD0 : ¬ w.heap.size + 1 = w5.heap.size := by omega
  go_wp2
  refine name_world ?_
  intro w7 e7
  have hB7 : Below w.heap.size w w7 := e7.symm ▸ (hB6.setCell (p := ⟨w5.heap.size, 5, none⟩) (show w.heap.size ≤ w5.heap.size from by have := hB6.size; omega) (.int .i64 (lo + a2 % (rr - lo + 1))))
  have KC_7 := Lib.hid (show Blk w7 (w.heap.size) #[(.int .i64 (re)), (.int .i64 (le)), (.int .i64 (bl)), (.int .i64 (ma)), (.int .i64 (st)), (.int .i64 (lo)), (.int .i64 (mm)), (.int .i64 (kk)), (.int .i64 (rr))] from e7.symm ▸ (KC_6.out.far (p := ⟨w5.heap.size, 5, none⟩) (show w5.heap.size ≠ w.heap.size from by omega) (.int .i64 (lo + a2 % (rr - lo + 1)))))
  have KX_7 := Lib.hid (show Blk w7 (w.heap.size + 1) #[.slice A2 n c, .int .u8 a0, .int .u8 a1, .int .u8 a2, .int .u8 a3] from e7.symm ▸ (KX_6.out.far (p := ⟨w5.heap.size, 5, none⟩) (show w5.heap.size ≠ w.heap.size + 1 from by omega) (.int .i64 (lo + a2 % (rr - lo + 1)))))
  have KD_7 := Lib.hid (show Blk w7 (w5.heap.size) #[(.int .i64 (re)), (.int .i64 (le)), (.int .i64 (bl)), (.int .i64 (ma + a0 % (mm - ma + 1))), (.int .i64 (st + a1 % (kk - st + 1))), (.int .i64 (lo + a2 % (rr - lo + 1)))] from e7.symm ▸ (KD_6.out.set (i := 5) (by simp) (.int .i64 (lo + a2 % (rr - lo + 1)))))
  clear e7 hB6 KC_6 KX_6 KD_6 fC_0 fC_1 fC_2 fC_3 fC_4 fC_5 fC_6 fC_7 fC_8 fC_l fC_f fC_l0_1 fC_l0_2 fX_0 fX_1 fX_2 fX_3 fX_4 fX_l fX_f fX_l0 fX_l0_1 fX_l0_2 fX_l1_1 fX_l1_2 fD_0 fD_1 fD_2 fD_3 fD_4 fD_5 fD_l fD_f fD_l0_1 fD_l0_2 nCD0 mCD0 nXD0 mXD0
  rw [E0.out, E1.out, E2.out] at KD_7
  rw [E3.out]
  have hp1 : 0 ≤ p := by have := E3.out; omega
  have hp2 : p ≤ 49 := by have := E3.out; omega
  clear z1 z2 z3 y0 y1 y2 v0 v1 v2 E0 E1 E2
  obtain ⟨fC_0, fC_1, fC_2, fC_3, fC_4, fC_5, fC_6, fC_7, fC_8, fC_l, fC_f⟩ := KC_7.out.o9
  have fC_l0_1 : w.heap.size < w7.heap.size + 1 := by omega
  have fC_l0_2 : w.heap.size < w7.heap.size + 1 + 1 := by omega
  obtain ⟨fX_0, fX_1, fX_2, fX_3, fX_4, fX_l, fX_f⟩ := KX_7.out.o5
  have fX_l0 : w.heap.size < w7.heap.size := by omega
  have fX_l0_1 : w.heap.size < w7.heap.size + 1 := by omega
  have fX_l0_2 : w.heap.size < w7.heap.size + 1 + 1 := by omega
  have fX_l1_1 : w.heap.size + 1 < w7.heap.size + 1 := by omega
  have fX_l1_2 : w.heap.size + 1 < w7.heap.size + 1 + 1 := by omega
  obtain ⟨fD_0, fD_1, fD_2, fD_3, fD_4, fD_5, fD_l, fD_f⟩ := KD_7.out.o6
  have fD_l0_1 : w5.heap.size < w7.heap.size + 1 := by omega
  have fD_l0_2 : w5.heap.size < w7.heap.size + 1 + 1 := by omega
  refine Rel.region3 10 (by kernel_rfl) (by kernel_rfl) (by kernel_rfl) ?_
  simp only [List.take_succ_cons, List.take_zero, List.drop_succ_cons, List.drop_zero, List.filterMap_cons, List.filterMap_nil]
  iterate 1 (apply Rel.op3; (focus (first | exact Rel.gno rfl | exact Rel.gyes _ true _ rfl rfl rfl | exact Rel.gyes _ false _ rfl rfl rfl)); (focus (intro a W hb hd hbase; obtain ⟨hc, hf⟩ := bcell hb; clear hb hf; simp [Rel.deps, Rel.dep1, Rel.ons, Region.binds, Act.eval] at hd; simp only [Act.eval, List.mem_cons, List.not_mem_nil, not_or, and_imp, or_false, Array.getD_eq_getD_getElem?] at hbase; go_simp; (try go_bits); (try rfl); done)); (try simp only [List.nil_append, List.cons_append]))
  (apply Rel.empty3 3 1; (focus (first | exact Rel.gno rfl | exact Rel.gyes _ true _ rfl rfl rfl | exact Rel.gyes _ false _ rfl rfl rfl)); (focus (intro a W; go_simp; (first | done | rfl | (refine ⟨?_, ?_⟩ <;> rfl)))); (try simp only [List.nil_append, List.cons_append]))
  iterate 1 (apply Rel.op3; (focus (first | exact Rel.gno rfl | exact Rel.gyes _ true _ rfl rfl rfl | exact Rel.gyes _ false _ rfl rfl rfl)); (focus (intro a W hb hd hbase; obtain ⟨hc, hf⟩ := bcell hb; clear hb hf; simp [Rel.deps, Rel.dep1, Rel.ons, Region.binds, Act.eval] at hd; simp only [Act.eval, List.mem_cons, List.not_mem_nil, not_or, and_imp, or_false, Array.getD_eq_getD_getElem?] at hbase; go_simp; (try go_bits); (try rfl); done)); (try simp only [List.nil_append, List.cons_append]))
  refine Rel.app3 (.tmp 126) (.tmp 127) 38 rfl 3 i1 _ 1 8 Tryd.underlying38 hi1 jz0 jz1 jz2 rfl (by decide) m (ws.map fun z => (.int .i64 (z))) (by rw [List.length_map, HM.out, Nat.mul_one]) (by intro u hu; obtain ⟨z, _, rfl⟩ := List.mem_map.1 hu; rfl) (by unfold maxLen; omega) (by omega) (Rel.gno rfl) ?_ ?_
  · intro a W hb hd hbase
    simp [Rel.deps, Rel.dep1, Rel.ons, Region.binds] at hd
    obtain ⟨hs, hx⟩ := hd
    exact ⟨⟨_, rfl, by simpa using hs⟩, _, _, hx, cells_at (HW.out.below (hB7.trans (hb.mono hB7.size))) m HM.out⟩
  (try simp only [List.nil_append, List.cons_append])
  iterate 1 (apply Rel.op3; (focus (first | exact Rel.gno rfl | exact Rel.gyes _ true _ rfl rfl rfl | exact Rel.gyes _ false _ rfl rfl rfl)); (focus (intro a W hb hd hbase; obtain ⟨hc, hf⟩ := bcell hb; clear hb hf; simp [Rel.deps, Rel.dep1, Rel.ons, Region.binds, Act.eval] at hd; simp only [Act.eval, List.mem_cons, List.not_mem_nil, not_or, and_imp, or_false, Array.getD_eq_getD_getElem?] at hbase; go_simp; (try go_bits); (try rfl); done)); (try simp only [List.nil_append, List.cons_append]))
  refine Rel.callR3 (SwT m 0 S) (SwT.stable m 0 S) (Rel.gno rfl) ?_ ?_
  · intro a W hb hd hbase
    simp [Rel.deps, Rel.dep1, Rel.ons, Region.binds, Act.eval] at hd
    obtain ⟨h0, ho, h2⟩ := hd
    obtain ⟨B, e, h1, _, h3⟩ := own_ints ho HM.out
    refine ⟨61, #[.agg #[(.int .i64 (re)), (.int .i64 (le)), (.int .i64 (bl)), (.int .i64 (x0)), (.int .i64 (x1)), (.int .i64 (x2))], .slice B m e, (.int .i64 (p))], ?_, (HSwS.out W B e (hL.below (hB7.trans (hb.mono hB7.size))) h3).mono (fun e W' ⟨B, e1, h1, h3, h4⟩ => ⟨_, h1, ⟨B, e1, rfl, h3⟩, h4⟩)⟩
    go_simp
    (first | done | rfl | (refine ⟨?_, ?_⟩ <;> rfl))
  (try simp only [List.nil_append, List.cons_append])
  refine Rel.opR3 (SwT m 0 S) (SwT.stable m 0 S) (Rel.gno rfl) ?_ ?_
  · intro a W hb hd hbase
    simp [Rel.deps, Rel.dep1, Rel.ons, Region.binds, Act.eval] at hd
    obtain ⟨B, e, h1, hr⟩ := hd
    refine ⟨.tuple #[.slice B m e, (.int .i64 (0))], ?_, ?_⟩
    · go_simp
      (first | done | rfl | (refine ⟨?_, ?_⟩ <;> rfl))
    · exact ⟨_, _, rfl, hr⟩
  (try simp only [List.nil_append, List.cons_append])
  refine Rel.opR3 (RdS m S) (RdS.stable m S) (Rel.gno rfl) ?_ ?_
  · intro a W hb hd hbase
    simp [Rel.deps, Rel.dep1, Rel.ons, Region.binds, Act.eval] at hd
    obtain ⟨B, e, h1, hr⟩ := hd
    refine ⟨.slice B m e, ?_, ?_⟩
    · go_simp
      (first | done | rfl | (refine ⟨?_, ?_⟩ <;> rfl))
    · exact ⟨_, _, rfl, hr⟩
  (try simp only [List.nil_append, List.cons_append])
  refine Rel.opR3 (fun u _ => u = (.int .i64 (0))) (Rel.stable_eq _) (Rel.gno rfl) ?_ ?_
  · intro a W hb hd hbase
    simp [Rel.deps, Rel.dep1, Rel.ons, Region.binds, Act.eval] at hd
    obtain ⟨B, e, h1, hr⟩ := hd
    refine ⟨(.int .i64 (0)), ?_, rfl⟩
    go_simp
    (first | done | rfl | (refine ⟨?_, ?_⟩ <;> rfl))
  (try simp only [List.nil_append, List.cons_append])
  refine Rel.opR3 (RdS m S) (RdS.stable m S) (Rel.gno rfl) ?_ ?_
  · intro a W hb hd hbase
    simp [Rel.deps, Rel.dep1, Rel.ons, Region.binds, Act.eval] at hd
    obtain ⟨⟨B, e, h1, hr⟩, _⟩ := hd
    refine ⟨.slice B m e, ?_, ?_⟩
    · go_simp
      (first | done | rfl | (refine ⟨?_, ?_⟩ <;> rfl))
    · exact ⟨_, _, rfl, hr⟩
  (try simp only [List.nil_append, List.cons_append])
  refine Rel.done3 ?_
  intro xx w8 h8 hx
  simp only [Rel.facts, Nat.zero_add, Nat.reduceAdd] at hx
  obtain ⟨e0, _, e2, o3, e4, q5, q6, q7, e8, ⟨BS, eS, e9, HSS⟩, _⟩ := hx
  simp only [Rel.fill, Nat.zero_add, Nat.reduceAdd, e0, e2, e4, e8, e9]
  simp only [Act.put, List.setIfInBounds_toArray, List.set_cons_zero, List.set_cons_succ]
  clear e0 e2 e4 e8 e9 o3 q5 q6 q7
  have HSC := Lib.hid HSS; clear HSS
  have hB8 := hB7.trans (h8.mono hB7.size)
  have KC_8 := Lib.hid (KC_7.out.below h8)
  have KX_8 := Lib.hid (KX_7.out.below h8)
  have KD_8 := Lib.hid (KD_7.out.below h8)
  clear h8 hB7 KC_7 KX_7 KD_7 fC_0 fC_1 fC_2 fC_3 fC_4 fC_5 fC_6 fC_7 fC_8 fC_l fC_f fC_l0_1 fC_l0_2 fX_0 fX_1 fX_2 fX_3 fX_4 fX_l fX_f fX_l0 fX_l0_1 fX_l0_2 fX_l1_1 fX_l1_2 fD_0 fD_1 fD_2 fD_3 fD_4 fD_5 fD_l fD_f fD_l0_1 fD_l0_2
  obtain ⟨fC_0, fC_1, fC_2, fC_3, fC_4, fC_5, fC_6, fC_7, fC_8, fC_l, fC_f⟩ := KC_8.out.o9
  have fC_l0_1 : w.heap.size < w8.heap.size + 1 := by omega
  have fC_l0_2 : w.heap.size < w8.heap.size + 1 + 1 := by omega
  obtain ⟨fX_0, fX_1, fX_2, fX_3, fX_4, fX_l, fX_f⟩ := KX_8.out.o5
  have fX_l0 : w.heap.size < w8.heap.size := by omega
  have fX_l0_1 : w.heap.size < w8.heap.size + 1 := by omega
  have fX_l0_2 : w.heap.size < w8.heap.size + 1 + 1 := by omega
  have fX_l1_1 : w.heap.size + 1 < w8.heap.size + 1 := by omega
  have fX_l1_2 : w.heap.size + 1 < w8.heap.size + 1 + 1 := by omega
  obtain ⟨fD_0, fD_1, fD_2, fD_3, fD_4, fD_5, fD_l, fD_f⟩ := KD_8.out.o6
  have fD_l0_1 : w5.heap.size < w8.heap.size + 1 := by omega
  have fD_l0_2 : w5.heap.size < w8.heap.size + 1 + 1 := by omega
  go_wp2
  refine Rel.region3 11 (by kernel_rfl) (by kernel_rfl) (by kernel_rfl) ?_
  simp only [List.take_succ_cons, List.take_zero, List.drop_succ_cons, List.drop_zero, List.filterMap_cons, List.filterMap_nil]
  iterate 1 (apply Rel.op3; (focus (first | exact Rel.gno rfl | exact Rel.gyes _ true _ rfl rfl rfl | exact Rel.gyes _ false _ rfl rfl rfl)); (focus (intro a W hb hd hbase; obtain ⟨hc, hf⟩ := bcell hb; clear hb hf; simp [Rel.deps, Rel.dep1, Rel.ons, Region.binds, Act.eval] at hd; simp only [Act.eval, List.mem_cons, List.not_mem_nil, not_or, and_imp, or_false, Array.getD_eq_getD_getElem?] at hbase; go_simp; (try go_bits); (try rfl); done)); (try simp only [List.nil_append, List.cons_append]))
  (apply Rel.empty3 3 1; (focus (first | exact Rel.gno rfl | exact Rel.gyes _ true _ rfl rfl rfl | exact Rel.gyes _ false _ rfl rfl rfl)); (focus (intro a W; go_simp; (first | done | rfl | (refine ⟨?_, ?_⟩ <;> rfl)))); (try simp only [List.nil_append, List.cons_append]))
  iterate 1 (apply Rel.op3; (focus (first | exact Rel.gno rfl | exact Rel.gyes _ true _ rfl rfl rfl | exact Rel.gyes _ false _ rfl rfl rfl)); (focus (intro a W hb hd hbase; obtain ⟨hc, hf⟩ := bcell hb; clear hb hf; simp [Rel.deps, Rel.dep1, Rel.ons, Region.binds, Act.eval] at hd; simp only [Act.eval, List.mem_cons, List.not_mem_nil, not_or, and_imp, or_false, Array.getD_eq_getD_getElem?] at hbase; go_simp; (try go_bits); (try rfl); done)); (try simp only [List.nil_append, List.cons_append]))
  refine Rel.app3 (.tmp 135) (.tmp 136) 38 rfl 3 i1 _ 1 8 Tryd.underlying38 hi1 jz0 jz1 jz2 rfl (by decide) m (ws.map fun z => (.int .i64 (z))) (by rw [List.length_map, HM.out, Nat.mul_one]) (by intro u hu; obtain ⟨z, _, rfl⟩ := List.mem_map.1 hu; rfl) (by unfold maxLen; omega) (by omega) (Rel.gno rfl) ?_ ?_
  · intro a W hb hd hbase
    simp [Rel.deps, Rel.dep1, Rel.ons, Region.binds] at hd
    obtain ⟨hs, hx⟩ := hd
    exact ⟨⟨_, rfl, by simpa using hs⟩, _, _, hx, cells_at (HW.out.below (hB8.trans (hb.mono hB8.size))) m HM.out⟩
  (try simp only [List.nil_append, List.cons_append])
  iterate 2 (apply Rel.op3; (focus (first | exact Rel.gno rfl | exact Rel.gyes _ true _ rfl rfl rfl | exact Rel.gyes _ false _ rfl rfl rfl)); (focus (intro a W hb hd hbase; obtain ⟨hc, hf⟩ := bcell hb; clear hb hf; simp [Rel.deps, Rel.dep1, Rel.ons, Region.binds, Act.eval] at hd; simp only [Act.eval, List.mem_cons, List.not_mem_nil, not_or, and_imp, or_false, Array.getD_eq_getD_getElem?] at hbase; go_simp; (try go_bits); (try rfl); done)); (try simp only [List.nil_append, List.cons_append]))
  refine Rel.callR3 (SwT m 0 T) (SwT.stable m 0 T) (Rel.gno rfl) ?_ ?_
  · intro a W hb hd hbase
    simp [Rel.deps, Rel.dep1, Rel.ons, Region.binds, Act.eval] at hd
    obtain ⟨h0, ho, h2⟩ := hd
    obtain ⟨B, e, h1, _, h3⟩ := own_ints ho HM.out
    refine ⟨61, #[.agg #[(.int .i64 (re)), (.int .i64 (le)), (.int .i64 (bl)), (.int .i64 (x0)), (.int .i64 (x1)), (.int .i64 (x2))], .slice B m e, (.int .i64 (p + 1))], ?_, (HSwT.out W B e (hL.below (hB8.trans (hb.mono hB8.size))) h3).mono (fun e W' ⟨B, e1, h1, h3, h4⟩ => ⟨_, h1, ⟨B, e1, rfl, h3⟩, h4⟩)⟩
    go_simp
    (first | done | rfl | (refine ⟨?_, ?_⟩ <;> rfl))
  (try simp only [List.nil_append, List.cons_append])
  refine Rel.opR3 (SwT m 0 T) (SwT.stable m 0 T) (Rel.gno rfl) ?_ ?_
  · intro a W hb hd hbase
    simp [Rel.deps, Rel.dep1, Rel.ons, Region.binds, Act.eval] at hd
    obtain ⟨B, e, h1, hr⟩ := hd
    refine ⟨.tuple #[.slice B m e, (.int .i64 (0))], ?_, ?_⟩
    · go_simp
      (first | done | rfl | (refine ⟨?_, ?_⟩ <;> rfl))
    · exact ⟨_, _, rfl, hr⟩
  (try simp only [List.nil_append, List.cons_append])
  refine Rel.opR3 (RdS m T) (RdS.stable m T) (Rel.gno rfl) ?_ ?_
  · intro a W hb hd hbase
    simp [Rel.deps, Rel.dep1, Rel.ons, Region.binds, Act.eval] at hd
    obtain ⟨B, e, h1, hr⟩ := hd
    refine ⟨.slice B m e, ?_, ?_⟩
    · go_simp
      (first | done | rfl | (refine ⟨?_, ?_⟩ <;> rfl))
    · exact ⟨_, _, rfl, hr⟩
  (try simp only [List.nil_append, List.cons_append])
  refine Rel.opR3 (fun u _ => u = (.int .i64 (0))) (Rel.stable_eq _) (Rel.gno rfl) ?_ ?_
  · intro a W hb hd hbase
    simp [Rel.deps, Rel.dep1, Rel.ons, Region.binds, Act.eval] at hd
    obtain ⟨B, e, h1, hr⟩ := hd
    refine ⟨(.int .i64 (0)), ?_, rfl⟩
    go_simp
    (first | done | rfl | (refine ⟨?_, ?_⟩ <;> rfl))
  (try simp only [List.nil_append, List.cons_append])
  refine Rel.opR3 (RdS m T) (RdS.stable m T) (Rel.gno rfl) ?_ ?_
  · intro a W hb hd hbase
    simp [Rel.deps, Rel.dep1, Rel.ons, Region.binds, Act.eval] at hd
    obtain ⟨⟨B, e, h1, hr⟩, _⟩ := hd
    refine ⟨.slice B m e, ?_, ?_⟩
    · go_simp
      (first | done | rfl | (refine ⟨?_, ?_⟩ <;> rfl))
    · exact ⟨_, _, rfl, hr⟩
  (try simp only [List.nil_append, List.cons_append])
  refine Rel.done3 ?_
  intro xx w9 h9 hx
  simp only [Rel.facts, Nat.zero_add, Nat.reduceAdd] at hx
  obtain ⟨e0, _, e2, o3, e4, e5, q6, q7, q8, e9, ⟨BT, eT, e10, HSS⟩, _⟩ := hx
  simp only [Rel.fill, Nat.zero_add, Nat.reduceAdd, e0, e2, e4, e5, e9, e10]
  simp only [Act.put, List.setIfInBounds_toArray, List.set_cons_zero, List.set_cons_succ]
  clear e0 e2 e4 e5 e9 e10 o3 q6 q7 q8
  have HTC := Lib.hid HSS; clear HSS
  have HSC_9 := Lib.hid (HSC.out.below h9)
  clear HSC
  have hB9 := hB8.trans (h9.mono hB8.size)
  have KC_9 := Lib.hid (KC_8.out.below h9)
  have KX_9 := Lib.hid (KX_8.out.below h9)
  have KD_9 := Lib.hid (KD_8.out.below h9)
  clear h9 hB8 KC_8 KX_8 KD_8 fC_0 fC_1 fC_2 fC_3 fC_4 fC_5 fC_6 fC_7 fC_8 fC_l fC_f fC_l0_1 fC_l0_2 fX_0 fX_1 fX_2 fX_3 fX_4 fX_l fX_f fX_l0 fX_l0_1 fX_l0_2 fX_l1_1 fX_l1_2 fD_0 fD_1 fD_2 fD_3 fD_4 fD_5 fD_l fD_f fD_l0_1 fD_l0_2
  obtain ⟨fC_0, fC_1, fC_2, fC_3, fC_4, fC_5, fC_6, fC_7, fC_8, fC_l, fC_f⟩ := KC_9.out.o9
  have fC_l0_1 : w.heap.size < w9.heap.size + 1 := by omega
  have fC_l0_2 : w.heap.size < w9.heap.size + 1 + 1 := by omega
  obtain ⟨fX_0, fX_1, fX_2, fX_3, fX_4, fX_l, fX_f⟩ := KX_9.out.o5
  have fX_l0 : w.heap.size < w9.heap.size := by omega
  have fX_l0_1 : w.heap.size < w9.heap.size + 1 := by omega
  have fX_l0_2 : w.heap.size < w9.heap.size + 1 + 1 := by omega
  have fX_l1_1 : w.heap.size + 1 < w9.heap.size + 1 := by omega
  have fX_l1_2 : w.heap.size + 1 < w9.heap.size + 1 + 1 := by omega
  obtain ⟨fD_0, fD_1, fD_2, fD_3, fD_4, fD_5, fD_l, fD_f⟩ := KD_9.out.o6
  have fD_l0_1 : w5.heap.size < w9.heap.size + 1 := by omega
  have fD_l0_2 : w5.heap.size < w9.heap.size + 1 + 1 := by omega
  go_wp2_with (go_at_call 62; refine (HToS.out _ _ _ HSC_9.out).mono ?_; rintro r w10 ⟨TBS, teS, rfl, TC, h10⟩; refine Hid.out ?_)
  unfold Hid
  have HSC_10 := Lib.hid (HSC_9.out.below (h10))
  clear HSC_9
  have HTC_10 := Lib.hid (HTC.out.below (h10))
  clear HTC
  have TC0 := Lib.hid TC; clear TC
  have hB10 := hB9.trans (h10.mono hB9.size)
  have KC_10 := Lib.hid (KC_9.out.below h10)
  have KX_10 := Lib.hid (KX_9.out.below h10)
  have KD_10 := Lib.hid (KD_9.out.below h10)
  clear h10 hB9 KC_9 KX_9 KD_9 fC_0 fC_1 fC_2 fC_3 fC_4 fC_5 fC_6 fC_7 fC_8 fC_l fC_f fC_l0_1 fC_l0_2 fX_0 fX_1 fX_2 fX_3 fX_4 fX_l fX_f fX_l0 fX_l0_1 fX_l0_2 fX_l1_1 fX_l1_2 fD_0 fD_1 fD_2 fD_3 fD_4 fD_5 fD_l fD_f fD_l0_1 fD_l0_2
  go_wp2_with (go_at_call 60; refine (HCRS.out _ _ _ TC0.out).mono ?_; rintro r w11 ⟨rfl, h11⟩; refine Hid.out ?_)
  unfold Hid
  have HSC_11 := Lib.hid (HSC_10.out.below (h11))
  clear HSC_10
  have HTC_11 := Lib.hid (HTC_10.out.below (h11))
  clear HTC_10
  have TC0_11 := Lib.hid (TC0.out.below (h11))
  clear TC0
  have hB11 := hB10.trans (h11.mono hB10.size)
  have KC_11 := Lib.hid (KC_10.out.below h11)
  have KX_11 := Lib.hid (KX_10.out.below h11)
  have KD_11 := Lib.hid (KD_10.out.below h11)
  clear h11 hB10 KC_10 KX_10 KD_10
  clear TC0_11
  go_wp2_with (go_at_call 62; refine (HToT.out _ _ _ HTC_11.out).mono ?_; rintro r w12 ⟨TBT, teT, rfl, TC, h12⟩; refine Hid.out ?_)
  unfold Hid
  have HSC_12 := Lib.hid (HSC_11.out.below (h12))
  clear HSC_11
  have HTC_12 := Lib.hid (HTC_11.out.below (h12))
  clear HTC_11
  have TC0 := Lib.hid TC; clear TC
  have hB12 := hB11.trans (h12.mono hB11.size)
  have KC_12 := Lib.hid (KC_11.out.below h12)
  have KX_12 := Lib.hid (KX_11.out.below h12)
  have KD_12 := Lib.hid (KD_11.out.below h12)
  clear h12 hB11 KC_11 KX_11 KD_11
  go_wp2_with (go_at_call 60; refine (HCRT.out _ _ _ TC0.out).mono ?_; rintro r w13 ⟨rfl, h13⟩; refine Hid.out ?_)
  unfold Hid
  have HSC_13 := Lib.hid (HSC_12.out.below (h13))
  clear HSC_12
  have HTC_13 := Lib.hid (HTC_12.out.below (h13))
  clear HTC_12
  have TC0_13 := Lib.hid (TC0.out.below (h13))
  clear TC0
  have hB13 := hB12.trans (h13.mono hB12.size)
  have KC_13 := Lib.hid (KC_12.out.below h13)
  have KX_13 := Lib.hid (KX_12.out.below h13)
  have KD_13 := Lib.hid (KD_12.out.below h13)
  clear h13 hB12 KC_12 KX_12 KD_12
  clear TC0_13
  obtain ⟨fC_0, fC_1, fC_2, fC_3, fC_4, fC_5, fC_6, fC_7, fC_8, fC_l, fC_f⟩ := KC_13.out.o9
  have fC_l0_1 : w.heap.size < w13.heap.size + 1 := by omega
  have fC_l0_2 : w.heap.size < w13.heap.size + 1 + 1 := by omega
  go_wp2_with (go_at_call 64; refine (class_any _ _ _ _ _ _ _ _ _ _).mono ?_; rintro r w14 ⟨rfl, h14⟩; refine Hid.out ?_)
  unfold Hid
  have HSC_14 := Lib.hid (HSC_13.out.below (h14))
  clear HSC_13
  have HTC_14 := Lib.hid (HTC_13.out.below (h14))
  clear HTC_13
  have hB14 := hB13.trans (h14.mono hB13.size)
  have KC_14 := Lib.hid (KC_13.out.below h14)
  have KX_14 := Lib.hid (KX_13.out.below h14)
  have KD_14 := Lib.hid (KD_13.out.below h14)
  clear h14 hB13 KC_13 KX_13 KD_13 fC_0 fC_1 fC_2 fC_3 fC_4 fC_5 fC_6 fC_7 fC_8 fC_l fC_f fC_l0_1 fC_l0_2
  go_wp2_with (at_builtin; refine wpList_append_onto rfl _ _ 110 rfl w14.heap.size 126 i0 _ 3 24 Tryd.underlying110 hi iz0 iz1 iz2 rfl (by decide) _ 0 [] rfl (own_empty rfl) _ m _ (flat3 S) rfl (by rw [flat3_len, ← HSL.out]) (reads_at (HSC_14.out.below ((Below.refl _ _).alloc (Nat.le_refl _) _)) m HSL.out) (flat3_one _) (by unfold maxLen; omega) (by omega) (by simp) ?_; intro v15 w15 ho hg; refine Hid.out ?_)
  unfold Hid
  have h15 : Below w14.heap.size w14 w15 := ((Below.refl _ _).alloc (Nat.le_refl _) _).grown hg (by simp) (fun k hk => by cases hk; exact Nat.le_refl _)
  rw [Nat.zero_add, List.nil_append] at ho
  obtain ⟨RB15, re15, rfl, _, rr⟩ := own_reads ho HSL.out
  have RC0 := Lib.hid rr
  clear ho hg rr
  have HSC_15 := Lib.hid (HSC_14.out.below h15)
  clear HSC_14
  have HTC_15 := Lib.hid (HTC_14.out.below h15)
  clear HTC_14
  have hB15 := hB14.trans (h15.mono hB14.size)
  have KC_15 := Lib.hid (KC_14.out.below h15)
  have KX_15 := Lib.hid (KX_14.out.below h15)
  have KD_15 := Lib.hid (KD_14.out.below h15)
  clear h15 hB14 KC_14 KX_14 KD_14
  go_wp2_with (go_at_call 63; refine (HRgS.out _ _ _ (hL.below hB15) RC0.out).mono ?_; rintro r w16 ⟨AB, Ae, rfl, DC, h16⟩; refine Hid.out ?_)
  unfold Hid
  have HSC_16 := Lib.hid (HSC_15.out.below (h16))
  clear HSC_15
  have HTC_16 := Lib.hid (HTC_15.out.below (h16))
  clear HTC_15
  have RC0_16 := Lib.hid (RC0.out.below (h16))
  clear RC0
  have HAD := Lib.hid DC; clear DC
  have hB16 := hB15.trans (h16.mono hB15.size)
  have KC_16 := Lib.hid (KC_15.out.below h16)
  have KX_16 := Lib.hid (KX_15.out.below h16)
  have KD_16 := Lib.hid (KD_15.out.below h16)
  clear h16 hB15 KC_15 KX_15 KD_15
  clear RC0_16
  obtain ⟨fC_0, fC_1, fC_2, fC_3, fC_4, fC_5, fC_6, fC_7, fC_8, fC_l, fC_f⟩ := KC_16.out.o9
  have fC_l0_1 : w.heap.size < w16.heap.size + 1 := by omega
  have fC_l0_2 : w.heap.size < w16.heap.size + 1 + 1 := by omega
  go_wp2_with (go_at_call 64; refine (class_any _ _ _ _ _ _ _ _ _ _).mono ?_; rintro r w17 ⟨rfl, h17⟩; refine Hid.out ?_)
  unfold Hid
  have HSC_17 := Lib.hid (HSC_16.out.below (h17))
  clear HSC_16
  have HTC_17 := Lib.hid (HTC_16.out.below (h17))
  clear HTC_16
  have HAD_17 := Lib.hid (HAD.out.below (h17))
  clear HAD
  have hB17 := hB16.trans (h17.mono hB16.size)
  have KC_17 := Lib.hid (KC_16.out.below h17)
  have KX_17 := Lib.hid (KX_16.out.below h17)
  have KD_17 := Lib.hid (KD_16.out.below h17)
  clear h17 hB16 KC_16 KX_16 KD_16 fC_0 fC_1 fC_2 fC_3 fC_4 fC_5 fC_6 fC_7 fC_8 fC_l fC_f fC_l0_1 fC_l0_2
  go_wp2_with (at_builtin; refine wpList_append_onto rfl _ _ 110 rfl w17.heap.size 126 i0 _ 3 24 Tryd.underlying110 hi iz0 iz1 iz2 rfl (by decide) _ 0 [] rfl (own_empty rfl) _ m _ (flat3 T) rfl (by rw [flat3_len, ← HTL.out]) (reads_at (HTC_17.out.below ((Below.refl _ _).alloc (Nat.le_refl _) _)) m HTL.out) (flat3_one _) (by unfold maxLen; omega) (by omega) (by simp) ?_; intro v18 w18 ho hg; refine Hid.out ?_)
  unfold Hid
  have h18 : Below w17.heap.size w17 w18 := ((Below.refl _ _).alloc (Nat.le_refl _) _).grown hg (by simp) (fun k hk => by cases hk; exact Nat.le_refl _)
  rw [Nat.zero_add, List.nil_append] at ho
  obtain ⟨RB18, re18, rfl, _, rr⟩ := own_reads ho HTL.out
  have RC0 := Lib.hid rr
  clear ho hg rr
  have HSC_18 := Lib.hid (HSC_17.out.below h18)
  clear HSC_17
  have HTC_18 := Lib.hid (HTC_17.out.below h18)
  clear HTC_17
  have HAD_18 := Lib.hid (HAD_17.out.below h18)
  clear HAD_17
  have hB18 := hB17.trans (h18.mono hB17.size)
  have KC_18 := Lib.hid (KC_17.out.below h18)
  have KX_18 := Lib.hid (KX_17.out.below h18)
  have KD_18 := Lib.hid (KD_17.out.below h18)
  clear h18 hB17 KC_17 KX_17 KD_17
  go_wp2_with (go_at_call 63; refine (HRgT.out _ _ _ (hL.below hB18) RC0.out).mono ?_; rintro r w19 ⟨BB, Be, rfl, DC, h19⟩; refine Hid.out ?_)
  unfold Hid
  have HSC_19 := Lib.hid (HSC_18.out.below (h19))
  clear HSC_18
  have HTC_19 := Lib.hid (HTC_18.out.below (h19))
  clear HTC_18
  have HAD_19 := Lib.hid (HAD_18.out.below (h19))
  clear HAD_18
  have RC0_19 := Lib.hid (RC0.out.below (h19))
  clear RC0
  have HBD := Lib.hid DC; clear DC
  have hB19 := hB18.trans (h19.mono hB18.size)
  have KC_19 := Lib.hid (KC_18.out.below h19)
  have KX_19 := Lib.hid (KX_18.out.below h19)
  have KD_19 := Lib.hid (KD_18.out.below h19)
  clear h19 hB18 KC_18 KX_18 KD_18
  clear RC0_19
  go_wp2
  rename_i K0 hK0
  refine holds_b re le bl x0 x1 x2 S As Bs m na nb _ _ _ _ _ _ _ _ _ _ _ _ _ _ _ _ _ _ _ _ _ _ _ _ _ _ _ _ _ _ _ _ _ _ _ _ _ _ _ _ _ _ _ _ _ _ _ _ _ _ _ _ _ _ _ _ _ _ _ _ _ _ _ _ _ _ _ _ _ _ _ _ _ _ _ _ _ _ _ _ _ _ _ _ _ _ _ _ _ _ _ _ _ _ _ _ _ _ _ _ _ _ _ _ _ _ _ _ _ _ _ _ _ _ _ _ _ _ _ _ _ _ _ _ _ _ _ _ _ _ _ _ _ _ _ _ _ _ _ _ _ _ _ _ _ _ _ _ _ _ _ _ _ _ _ _ _ _ _ _ _ _ _ _ _ _ _ _ _ _ _ _ _ _ _ _ _ _ _ _ _ _ _ _ _ _ _ _ _ _ _ _ _ _ _ _ _ _ _ _ _ _ _ _ _ _ _ _ _ _ _ _ _ _ _ _ _ _ _ _ _ _ _ _ _ _ _ _ _ _ _ _ _ _ _ _ _ _ _ _ _ _ _ _ _ _ _ _ _ _ _ _ _ _ _ _ _ _ _ _ _ _ _ _ _ _ _ _ _ _ _ _ _ _ _ _ _ _ _ _ _ _ _ _ _ _ _ _ _ _ _ _ _ _ _ _ _ _ _ _ _ _ _ _ _ _ _ _ _ _ _ _ _ _ _ _ _ _ _ _ _ _ _ _ _ _ _ _ _ _ _ _ _ _ _ _ _ _ _ _ _ _ _ _ _ _ _ _ _ _ _ _ _ _ _ _ _ _ _ _ _ _ _ _ _ _ _ _ _ _ _ (hL.below hB19) HAD_19 HBD HSC_19 HAL HBL HSL hna hnb hm KD_19 HSUB HIN HEX _ _ (Lib.hid ?_)
  intro W
  intros
  rename_i hbl
  refine hK0 _ _ ?_
  refine holds_c re le bl ma st lo mm kk rr a0 a1 a2 a3 E l S zs Z Ds m n N li q _ _ _ _ _ _ _ _ _ _ _ _ _ _ _ _ _ _ _ _ _ _ _ _ _ _ _ _ _ _ _ _ _ _ _ _ _ _ _ _ _ _ _ _ _ _ _ _ _ _ _ _ _ _ _ _ _ _ _ _ _ _ _ _ _ _ _ _ _ _ _ _ _ _ _ _ _ _ _ _ _ _ _ _ _ _ _ _ _ _ _ _ _ _ _ _ _ _ _ _ _ _ _ _ _ _ _ _ _ _ _ _ _ _ _ _ _ _ _ _ _ _ _ _ _ _ _ _ _ _ _ _ _ _ _ _ _ _ _ _ _ _ _ _ _ _ _ _ _ _ _ _ _ _ _ _ _ _ _ _ _ _ _ _ _ _ _ _ _ _ _ _ _ _ _ _ _ _ _ _ _ _ _ _ _ _ _ _ _ _ _ _ _ _ _ _ _ _ _ _ _ _ _ _ _ _ _ _ _ _ _ _ _ _ _ _ _ _ _ _ _ _ _ _ _ _ _ _ _ _ _ _ _ _ _ _ _ _ _ _ _ _ _ _ _ _ _ _ _ _ _ _ _ _ _ _ _ _ _ _ _ _ _ _ _ _ _ _ _ _ _ _ _ _ _ _ _ _ _ _ _ _ _ _ _ _ _ _ _ _ _ _ _ _ _ _ _ _ _ _ _ _ _ _ _ _ _ _ _ _ _ _ _ _ _ _ _ _ _ _ _ _ _ _ _ _ _ _ _ _ _ _ _ _ _ _ _ _ _ _ _ _ _ _ _ _ _ _ _ _ _ _ _ _ _ _ _ _ _ _ _ _ _ _ _ _ _ _ _ _ _ _ _ _ _ ((hL.below hB19).below hbl) (Lib.hid (KC_19.out.below hbl)) (Lib.hid (KX_19.out.below hbl)) (Lib.hid (HSC_19.out.below hbl)) (Lib.hid (HC.out.below (hB19.trans (hbl.mono hB19.size)))) HSL HzL HZ HNm hm hn hN hq HRd HCf HRz HCASE _ (Lib.hid ?_)
  intro W'
  intros
  rename_i hb2
  conv => arg 2; dsimp only
  go_wp2
  go_ret
  exact ⟨rfl, hB19.trans ((hbl.trans (hb2.mono hbl.size)).mono hB19.size)⟩
end Go.Proofs.YtpkldjlljoledaaDoor
