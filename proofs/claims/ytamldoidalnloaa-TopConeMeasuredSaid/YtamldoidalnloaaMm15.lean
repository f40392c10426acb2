/- Part 15 of the texts of the claim: Th5, CmRow. -/
import Derived.Test.YtamldoidalnloaaMm14
import Derived.Test.YtamldoidalnloaaMm2
import Derived.WalkKit
import Derived.ProofKit
import Derived.OpenShut

/- The walk of TopConeMeasured. -/
namespace Go.Proofs.Ytamldoidalnloaa
open Go.RowKit
open Calm (bcell Blk)
set_option maxRecDepth 100000 in
theorem measured_big (A : Option Addr) (c N : Nat) (sz : Int) (w : World) (hN : 3 < N) : Calls Try.prog 4 #[.slice A N c, .int .u8 sz] w fun r w' => r = .returned (.bool true) ∧ Below w.heap.size w w' := by
  have HCB := Lib.hid (coneBooth_ok w)
  have hn : (3 : Int) < (N : Int) := by omega
  go_enter Try.func4, Try.ntmps4
  go_wp2_with (go_at_call 5; refine HCB.out.mono ?_; rintro r w1 ⟨rfl, hb⟩; have HB := Lib.hid hb; clear hb; refine Hid.out ?_)
  unfold Hid
  go_wp2
  go_ret
  exact ⟨rfl, HB.out⟩
theorem want_split {cs : List Sec} {k : Nat} (hk : k = cs.length) (h0 : 0 < k) : wantK cs k = conv (wantK (cs.drop 1) (k - 1)) (tapL (cs.getD 0 Sec0)) := by
  subst hk
  cases cs with
  | nil => simp at h0
  | cons s t => exact want_rest s t
set_option maxRecDepth 100000 in
set_option maxHeartbeats 32000000 in
theorem measured_ok (l : List Sec) (A : Option Addr) (c m : Nat) (sz : Int) (w : World) (hm : m = l.length) (hm3 : m ≤ 3) (hsz : 0 ≤ sz ∧ sz < 256) (hC : SCells w A l) : Calls Try.prog 4 #[.slice A m c, .int .u8 sz] w fun r w' => r = .returned (.bool true) ∧ Below w.heap.size w w' := by
  have HSC := Lib.hid (coneSections_any l A c m w hm (by omega) hC)
  obtain ⟨cs, hcs⟩ : ∃ cs, cs = l.map conS := ⟨_, rfl⟩
  have HFIR : Hid (FirL cs) := Lib.hid (fun s hs => by rw [hcs] at hs; obtain ⟨t, _, rfl⟩ := List.mem_map.1 hs; exact conS_fir t)
  have HM : Hid (m = cs.length) := Lib.hid (by rw [hcs, List.length_map]; exact hm)
  rw [← hcs] at HSC
  obtain ⟨e, he⟩ : ∃ e : Nat, sz % 6 = (e : Int) := ⟨(sz % 6).toNat, by omega⟩
  have he6 : e < 6 := by omega
  have hn1 : ¬ (3 : Int) < (m : Int) := by omega
  have hfir := HFIR.out
  have hml := HM.out
  have hwl : ∀ k, k ≤ m → (wantK cs k).length = 2 * k + 1 := fun k hk => wantK_len k (by omega)
  have hwb : ∀ k, k ≤ m → mB (wantK cs k) 1728 := fun k hk => (wantK_mB hfir k (by omega)).le (pow12 (by omega)).2
  have hwv : ∀ k, k ≤ m → lvls (wantK cs k) := fun k hk => (hwb k hk).lvls (by decide)
  have htv : ∀ k, lvls (tapL (cs.getD k Sec0)) := fun k x hx => by
    have h1 := (hfir.get k).t0
    have h2 := (hfir.get k).t1
    have h3 := (hfir.get k).t2
    unfold tp4 at h1 h2 h3
    simp only [tapL, List.mem_cons, List.not_mem_nil, or_false] at hx
    rcases hx with rfl | rfl | rfl <;> omega
  have HCV : Hid (∀ k n, k < m → n = 2 * k + 1 → ∀ W B d B2 d2, Cells W B (wantK cs k) → Cells W B2 (tapL (cs.getD k Sec0)) → Calls Try.prog 13 #[.slice B n d, .slice B2 3 d2] W fun r w' => (∃ D d, r = .returned (.tuple #[.slice D (n + 2) d, (.int .i64 0)]) ∧ Cells w' D (wantK cs (k + 1))) ∧ Below W.heap.size W w') := Lib.hid (fun k n hk hn W B d B2 d2 q1 q2 => by
    have e := wantK_succ (l := cs) (k := k) (by omega)
    have := gConvolve_ok (wantK cs k) (tapL (cs.getD k Sec0)) B B2 n 3 d d2 W (by rw [hwl k (by omega), hn]) rfl (by omega) (by omega) (hwv k (by omega)) (htv k) (by rw [← e]; exact hwv (k + 1) (by omega)) q1 q2
    rw [← e] at this
    refine this.mono ?_
    rintro r w' ⟨v, rfl, ⟨D, d, rfl, h1, h2⟩, h3⟩
    exact ⟨⟨D, d, by rw [hwl (k + 1) (by omega), show 2 * (k + 1) + 1 = n + 2 by omega], h1⟩, h3⟩)
  obtain ⟨M, hM⟩ : ∃ M, M = 2 ^ e := ⟨_, rfl⟩
  have hwm : wrap64 (2 ^ e) = (M : Int) := by
    have h1 := pow_le_64 (show e ≤ 6 by omega)
    have h2 : ((2 : Int) ^ e) = ((2 ^ e : Nat) : Int) := by simp
    rw [h2, hM]
    exact Go.IntWalk.wrap64_in _ (by omega)
  have hM32 : 1 ≤ M ∧ M ≤ 32 := by
    rw [hM]
    have : e = 0 ∨ e = 1 ∨ e = 2 ∨ e = 3 ∨ e = 4 ∨ e = 5 := by omega
    rcases this with rfl | rfl | rfl | rfl | rfl | rfl <;> decide
  have HPR := Lib.hid (fun W => pair_any e (by omega) W)
  have hgl := gol_len e
  have hgm := gol_pm e
  have hgy : smL (gol e).1 (gol e).2 (conv (wantK cs m) (gol e).1) (conv (wantK cs m) (gol e).2) (2 ^ e) (wantK cs m).length = (wantK cs m).map fun x => x * (2 * ((2 ^ e : Nat) : Int)) := golay he6 (wantK cs m) (by rw [hwl m (by omega)]; omega)
  have HDC := Lib.hid (fun A B (ca cb L : Nat) W (hL : L = 2 * m + 1 + 2 ^ e - 1) q1 q2 q3 q4 => Deconvolve_ok (wantK cs m) (conv (wantK cs m) (gol e).1) (conv (wantK cs m) (gol e).2) e (by omega) A B ca cb (2 * m + 1) L W (hwl m (by omega)).symm (by omega) (by omega) hL rfl rfl (hwv m (by omega)) q1 q2 q3 q4 (Lib.hid (by rw [← hwl m (by omega)]; exact hgy)))
  have HES := Lib.hid (fun A B (ca cb L : Nat) W (hL : L = 2 * m + 1 + 2 ^ e - 1) q1 q2 q3 q4 => Estimate_ok (wantK cs m) (conv (wantK cs m) (gol e).1) (conv (wantK cs m) (gol e).2) e (by omega) A B ca cb (2 * m + 1) L W (hwl m (by omega)).symm (by omega) (by omega) hL rfl rfl (hwv m (by omega)) q1 q2 q3 q4 (Lib.hid (by rw [← hwl m (by omega)]; exact hgy)))
  have hga : mB (gol e).1 1 := mB.of (by decide) (fun x hx => by have := hgm.1 x hx; omega)
  have hgb : mB (gol e).2 1 := mB.of (by decide) (fun x hx => by have := hgm.2 x hx; omega)
  rw [← hM] at HPR HDC HES hgl
  obtain ⟨P0, hP0⟩ : ∃ P0, P0 = (gol e).1 := ⟨_, rfl⟩
  obtain ⟨P1, hP1⟩ : ∃ P1, P1 = (gol e).2 := ⟨_, rfl⟩
  rw [← hP0, ← hP1] at HPR HDC HES hgl
  rw [← hP0] at hga
  rw [← hP1] at hgb
  obtain ⟨hg1, hg2⟩ := hgl
  have hxb : mB (conv (wantK cs m) P0) 1728 := (by rw [hml]; exact (wa_mB hfir (by omega) hga _ (Nat.le_refl _)).le (pow12 (by omega)).2)
  have hyb : mB (conv (wantK cs m) P1) 1728 := (by rw [hml]; exact (wa_mB hfir (by omega) hgb _ (Nat.le_refl _)).le (pow12 (by omega)).2)
  obtain ⟨T, hT⟩ : ∃ T, T = 2 * m := ⟨_, rfl⟩
  obtain ⟨L, hL⟩ : ∃ L, L = M + T := ⟨_, rfl⟩
  have hxl : (conv (wantK cs m) P0).length = L := by rw [convL (by rw [hwl m (by omega)]; omega) (by omega), hwl m (by omega)]; omega
  have hyl : (conv (wantK cs m) P1).length = L := by rw [convL (by rw [hwl m (by omega)]; omega) (by omega), hwl m (by omega)]; omega
  have HTA : Hid (∀ (a : List Int) (N L : Nat), N = a.length → N ≤ 100 → L = N + T → ∀ A c W, Cells W A a → Calls Try.prog 16 #[.slice A N c, (.int .i64 ((T : Int)))] W fun r w' => (∃ B d, r = .returned (.slice B L d) ∧ Cells w' B (a ++ List.replicate T 0)) ∧ Below W.heap.size W w') := Lib.hid (fun a N L hN h5 hL A c W q => by
    have := coneTail_any a A c N T W hN (by omega) (by omega) q
    rw [← hL] at this
    refine this.mono ?_
    rintro r w' ⟨⟨B, d, h1, h2, -, -⟩, h3⟩
    exact ⟨⟨B, d, h1, h2⟩, h3⟩)
  have HCA := Lib.hid (fun (a : List Int) (N L : Nat) (hN : N = a.length) (h0 : 0 < N) (h5 : N ≤ 100) (ha : mB a 1) (hL : L = N + T) A1 A c1 c W q1 (q2 : Cells W A (a ++ List.replicate T 0)) => cascM cs a hfir (by omega) (by omega) (by omega) ha m L hml (by omega) A1 A c1 c W q1 (by rw [← hT]; exact q2))
  have HOF := Lib.hid (fun (F : List Int) (h1 : mB F 1728) (h2 : L = F.length) A c W q => ofSequence_ok ⟨#[97]⟩ 48 F A c L W (nmOk_letter 97 (by decide) (by decide)) (by omega) h2 (by omega) (h1.lvls (by decide)) (fun x hx => flOk (h1.mem x hx)) q)
  have HEN := Lib.hid (fun (F : List Int) (h1 : mB F 1728) (h2 : L = F.length) A c W q => encode_ok ⟨#[97]⟩ 48 F A c L W (nmOk_letter 97 (by decide) (by decide)) (by omega) h2 (by omega) (fun x hx => flOk (h1.mem x hx)) q)
  have HDE := Lib.hid (fun (F : List Int) (h1 : mB F 1728) (h2 : L = F.length) A c S W q1 q2 q3 => decode_ok ⟨#[97]⟩ 48 F A c L S W (nmOk_letter 97 (by decide) (by decide)) (by decide) (by omega) h2 (by omega) (fun x hx => flOk (h1.mem x hx)) q1 q2 q3)
  have HSE := Lib.hid (fun (F : List Int) (h1 : mB F 1728) (h2 : L = F.length) A c W q => sequence_ok ⟨#[97]⟩ 48 F A c L W (nmOk_letter 97 (by decide) (by decide)) (by omega) h2 (by omega) (fun x hx => flOk (h1.mem x hx)) q)
  obtain ⟨F, hF⟩ : ∃ F : Nat → List Int, F = fun i => if i = 0 then conv (wantK cs m) P0 else conv (wantK cs m) P1 := ⟨_, rfl⟩
  have HF0 : Hid (F 0 = conv (wantK cs m) P0) := Lib.hid (by rw [hF]; rfl)
  have HF1 : Hid (F 1 = conv (wantK cs m) P1) := Lib.hid (by rw [hF]; rfl)
  have HFB : Hid (∀ i, mB (F i) 1728) := Lib.hid (fun i => by rw [hF]; show mB (if i = 0 then _ else _) _; split <;> assumption)
  have HFL : Hid (∀ i, L = (F i).length) := Lib.hid (fun i => by rw [hF]; show L = (if i = 0 then _ else _ : List Int).length; split <;> first | exact hxl.symm | exact hyl.symm)
  have HG1 : Hid (M = P0.length ∧ M = P1.length) := Lib.hid ⟨hg1.symm, hg2.symm⟩
  have HGB : Hid (mB P0 1 ∧ mB P1 1) := Lib.hid ⟨hga, hgb⟩
  have HTT : Hid (T = 2 * m ∧ L = M + T ∧ M = 2 ^ e) := Lib.hid ⟨hT, hL, hM⟩
  have HWL := Lib.hid hwl
  have HWV := Lib.hid hwv
  have HWB := Lib.hid hwb
  have hTi : (2 : Int) * (m : Int) = (T : Int) := by omega
  have hLi : (M : Int) + (T : Int) = (L : Int) := by omega
  have hT6 : T ≤ 6 := by omega
  have hL38 : L ≤ 38 := by omega
  clear hcs hm hC hfir hml hwl hwb hwv htv hM hgm hgy hga hgb hP0 hP1 hg1 hg2 hxb hyb hT hL hxl hyl hF
  go_enter Try.func4, Try.ntmps4
  go_wp2_with (go_at_call 12; refine HSC.out.mono ?_; rintro r w1 ⟨v, rfl, ho, h1⟩; refine Hid.out ?_)
  unfold Hid
  obtain ⟨CB, cc, rfl, -, hcb⟩ := own_secs ho HM.out
  have HCB1 := Lib.hid hcb
  have HB1 := Lib.hid h1
  have HRM := Lib.hid ho
  clear hcb h1 ho HSC
  go_wp2
  rw [hwm]
  clear hwm he hn1 hsz
  refine name_world ?_
  intro w2 e2
  have h2 : Below w1.heap.size w1 w2 := by rw [e2]; exact bel
  have K2 : Blk w2 w1.heap.size #[(.int .i64 1)] := by rw [e2]; exact Calm.Blk.new _ _ _
  have HB2 := Lib.hid (HB1.out.trans (h2.mono HB1.out.size))
  have HCB2 := Lib.hid (HCB1.out.below h2)
  have HW0 : Hid (Cells w2 (some ⟨w1.heap.size, 0, none⟩) (wantK cs 0)) := Lib.hid (Cells.blk K2 rfl)
  clear e2 h2 K2 HCB1
  go_loopw [7, 52] (fun s z wr => ∃ k n : Nat, ∃ B d, k ≤ m ∧ n = 2 * k + 1 ∧ z = (.int .i64 ((k : Int))) ∧ s = .slice B n d ∧ Cells wr B (wantK cs k) ∧ Below w2.heap.size w2 wr) (fun _ z _ => m - (intOf z).toNat)
  case atStart => exact ⟨0, 1, _, 1, Nat.zero_le _, rfl, rfl, rfl, HW0.out, Below.refl _ _⟩
  case round =>
    obtain ⟨k, n, B, d, hk, hn, rfl, rfl, hw, hb⟩ := hrel
    have HWK := Lib.hid hw
    have HBR := Lib.hid hb
    have HBW := Lib.hid (HB2.out.trans (hb.mono HB2.out.size))
    have HNN := Lib.hid hn
    have hn7 : n ≤ 7 := by omega
    clear hw hn
    by_cases hlt : k < m
    · obtain ⟨bc, oc, rfl, lc, hcc⟩ := (HCB2.out.below hb) (by rw [← HM.out]; omega)
      obtain ⟨x0, x1, x2, x3, x4, x5⟩ := hcc k (by rw [← HM.out]; exact hlt)
      have HTP : Hid (tapL (cs.getD k Sec0) = [(cs.getD k Sec0).b0, (cs.getD k Sec0).b1, (cs.getD k Sec0).b2]) := Lib.hid rfl
      obtain ⟨s, hs⟩ : ∃ s, s = cs.getD k Sec0 := ⟨_, rfl⟩
      rw [← hs] at x0 x1 x2 x3 x4 x5 HTP
      have HCK := Lib.hid (HCV.out k n hlt HNN.out)
      rw [← hs] at HCK
      clear hcc hb hs
      go_wp2_with (go_at_call 13; refine name_calls ?_; intro w3 e3; refine Hid.out ?_)
      unfold Hid
      have h3 : Below wr.heap.size wr w3 := by rw [e3]; exact bel
      have K3 : Blk w3 (wr.heap.size + 1) #[(.int .i64 (s.b0)), (.int .i64 (s.b1)), (.int .i64 (s.b2))] := by rw [e3]; (repeat (first | ((with_reducible refine Blk.at_ ?_); focus (first | rfl | (simp; done) | (simp; omega))) | (with_reducible refine Blk.alloc ?_ _) | (with_reducible refine Blk.below ?_ (by with_reducible assumption)) | (with_reducible refine Blk.drew ?_)))
      have HB3 := Lib.hid (HBR.out.trans (h3.mono HBR.out.size))
      have HT3 : Hid (Cells w3 (some ⟨wr.heap.size + 1, 0, none⟩) (tapL s)) := Lib.hid (Cells.blk K3 (by rw [HTP.out]; rfl))
      have HW3 := Lib.hid (HWK.out.below h3)
      clear e3 h3 K3 x0 x1 x2 x3 x4 x5
      refine (HCK.out w3 B d _ 3 HW3.out HT3.out).mono ?_
      rintro r w4 ⟨⟨D, dd, rfl, hD⟩, h4⟩
      have HB4 := Lib.hid (HB3.out.trans (h4.mono HB3.out.size))
      have HD := Lib.hid hD
      clear hD h4
      go_wp2
      go_roundw
      case rel => exact ⟨k + 1, n + 2, D, dd, by omega, by have := HNN.out; omega, by go_num, rfl, HD.out, HB4.out⟩
      case measure => simp [intOf]; omega
    · obtain rfl : k = m := by omega
      clear hb
      go_wp2_with (go_at_call 14; refine (HPR.out _).mono ?_; rintro r w3 ⟨u, v, rfl, ⟨A0, a0, rfl, hA0, -⟩, ⟨A1, a1, rfl, hA1, -⟩, h3⟩; refine Hid.out ?_)
      unfold Hid
      rw [← HG1.out.1, ← HG1.out.2]
      have HB3 := Lib.hid (HBW.out.trans (h3.mono HBW.out.size))
      have HC3 := Lib.hid ((HCB2.out.below HBR.out).below h3)
      have HW3 := Lib.hid (HWK.out.below h3)
      have HA0 := Lib.hid hA0
      have HA1 := Lib.hid hA1
      clear h3 hA0 hA1 HBR HWK HCV HPR
      have hs3 := HB3.out.size
      have HA0_3 := HA0
      have HA1_3 := HA1
      clear HA0 HA1
      go_wp2_with (at_builtin; refine wpList_appSec rfl _ _ rfl _ k _ CB cs HM.out rfl rfl (by omega) (HC3.out.below bel) ?_)
      intro B4 d4 w4 h4 hS4
      have h4' : Below w3.heap.size w3 w4 := (bel : Below w3.heap.size w3 (w3.alloc (.cells #[] 40))).trans (h4.mono (Nat.le_succ _))
      have HS4 := Lib.hid hS4
      have HB4 := Lib.hid (HB3.out.trans (h4'.mono HB3.out.size))
      have HC4 := Lib.hid (HC3.out.below h4')
      have HW4 := Lib.hid (HW3.out.below h4')
      have HA0_4 := Lib.hid (HA0_3.out.below h4')
      have HA1_4 := Lib.hid (HA1_3.out.below h4')
      clear HC3 HW3 HA0_3 HA1_3
      clear h4 hS4 h4'
      go_wp2_with (go_at_call 16; refine (HTA.out P0 M L HG1.out.1 (by omega) HTT.out.2.1 A0 a0 w4 HA0_4.out).mono ?_; rintro r w5 ⟨⟨B5, d5, rfl, hc5⟩, h5⟩; refine Hid.out ?_)
      unfold Hid
      have HZ5 := Lib.hid hc5
      have HS5 := Lib.hid (HS4.out.below h5)
      have HB5 := Lib.hid (HB4.out.trans (h5.mono HB4.out.size))
      have HC5 := Lib.hid (HC4.out.below h5)
      have HW5 := Lib.hid (HW4.out.below h5)
      have HA0_5 := Lib.hid (HA0_4.out.below h5)
      have HA1_5 := Lib.hid (HA1_4.out.below h5)
      clear HC4 HW4 HA0_4 HA1_4
      clear h5 hc5 HS4
      go_wp2_with (go_at_call 15; refine (HCA.out P0 M L HG1.out.1 (by omega) (by omega) HGB.out.1 HTT.out.2.1 B4 B5 d4 d5 w5 HS5.out HZ5.out).mono ?_; rintro r w6 ⟨⟨X, dx, rfl, -, hX⟩, h6⟩; refine Hid.out ?_)
      unfold Hid
      rw [← HF0.out] at hX
      have HX_6 := Lib.hid hX
      have HB6 := Lib.hid (HB5.out.trans (h6.mono HB5.out.size))
      have HC6 := Lib.hid (HC5.out.below h6)
      have HW6 := Lib.hid (HW5.out.below h6)
      have HA0_6 := Lib.hid (HA0_5.out.below h6)
      have HA1_6 := Lib.hid (HA1_5.out.below h6)
      clear HC5 HW5 HA0_5 HA1_5
      clear h6 hX HS5 HZ5
      clear HA0_6
      go_wp2_with (at_builtin; refine wpList_appSec rfl _ _ rfl _ k _ CB cs HM.out rfl rfl (by omega) (HC6.out.below bel) ?_)
      intro B7 d7 w7 h7 hS7
      have h7' : Below w6.heap.size w6 w7 := (bel : Below w6.heap.size w6 (w6.alloc (.cells #[] 40))).trans (h7.mono (Nat.le_succ _))
      have HS7 := Lib.hid hS7
      have HB7 := Lib.hid (HB6.out.trans (h7'.mono HB6.out.size))
      have HC7 := Lib.hid (HC6.out.below h7')
      have HW7 := Lib.hid (HW6.out.below h7')
      have HA1_7 := Lib.hid (HA1_6.out.below h7')
      have HX_7 := Lib.hid (HX_6.out.below h7')
      clear HC6 HW6 HA1_6 HX_6
      clear h7 hS7 h7'
      go_wp2_with (go_at_call 16; refine (HTA.out P1 M L HG1.out.2 (by omega) HTT.out.2.1 A1 a1 w7 HA1_7.out).mono ?_; rintro r w8 ⟨⟨B8, d8, rfl, hc8⟩, h8⟩; refine Hid.out ?_)
      unfold Hid
      have HZ8 := Lib.hid hc8
      have HS8 := Lib.hid (HS7.out.below h8)
      have HB8 := Lib.hid (HB7.out.trans (h8.mono HB7.out.size))
      have HC8 := Lib.hid (HC7.out.below h8)
      have HW8 := Lib.hid (HW7.out.below h8)
      have HA1_8 := Lib.hid (HA1_7.out.below h8)
      have HX_8 := Lib.hid (HX_7.out.below h8)
      clear HC7 HW7 HA1_7 HX_7
      clear h8 hc8 HS7
      go_wp2_with (go_at_call 15; refine (HCA.out P1 M L HG1.out.2 (by omega) (by omega) HGB.out.2 HTT.out.2.1 B7 B8 d7 d8 w8 HS8.out HZ8.out).mono ?_; rintro r w9 ⟨⟨Y, dy, rfl, -, hY⟩, h9⟩; refine Hid.out ?_)
      unfold Hid
      rw [← HF1.out] at hY
      have HY_9 := Lib.hid hY
      have HB9 := Lib.hid (HB8.out.trans (h9.mono HB8.out.size))
      have HC9 := Lib.hid (HC8.out.below h9)
      have HW9 := Lib.hid (HW8.out.below h9)
      have HA1_9 := Lib.hid (HA1_8.out.below h9)
      have HX_9 := Lib.hid (HX_8.out.below h9)
      clear HC8 HW8 HA1_8 HX_8
      clear h9 hY HS8 HZ8
      clear HA1_9
      go_wp2_with (at_builtin; refine wpList_appSec rfl _ _ rfl _ k _ CB cs HM.out rfl rfl (by omega) (HC9.out.below bel) ?_)
      intro B10 d10 w10 h10 hS10
      have h10' : Below w9.heap.size w9 w10 := (bel : Below w9.heap.size w9 (w9.alloc (.cells #[] 40))).trans (h10.mono (Nat.le_succ _))
      have HS10 := Lib.hid hS10
      have HB10 := Lib.hid (HB9.out.trans (h10'.mono HB9.out.size))
      have HC10 := Lib.hid (HC9.out.below h10')
      have HW10 := Lib.hid (HW9.out.below h10')
      have HX_10 := Lib.hid (HX_9.out.below h10')
      have HY_10 := Lib.hid (HY_9.out.below h10')
      clear HC9 HW9 HX_9 HY_9
      clear h10 hS10 h10'
      go_wp2_with (go_at_call 16; refine name_calls ?_; intro w11 e11; refine Hid.out ?_)
      unfold Hid
      have h11 : Below w10.heap.size w10 w11 := by rw [e11]; exact bel
      have K11 : Blk w11 w10.heap.size #[(.int .i64 1)] := by rw [e11]; exact Calm.Blk.new _ _ _
      have HO11 : Hid (Cells w11 (some ⟨w10.heap.size, 0, none⟩) [1]) := Lib.hid (Cells.blk K11 rfl)
      have HS11 := Lib.hid (HS10.out.below h11)
      have HB11 := Lib.hid (HB10.out.trans (h11.mono HB10.out.size))
      have HC11 := Lib.hid (HC10.out.below h11)
      have HW11 := Lib.hid (HW10.out.below h11)
      have HX_11 := Lib.hid (HX_10.out.below h11)
      have HY_11 := Lib.hid (HY_10.out.below h11)
      clear HC10 HW10 HX_10 HY_10
      clear e11 h11 K11 HS10
      have hn1T := Lib.hid (show n = 1 + T by have := HNN.out; have := HTT.out.1; omega)
      refine (HTA.out [1] 1 n rfl (by omega) hn1T.out _ 1 w11 HO11.out).mono ?_
      rintro r w12 ⟨⟨B12, d12, rfl, hc12⟩, h12⟩
      have HZ12 := Lib.hid hc12
      have HS12 := Lib.hid (HS11.out.below h12)
      have HB12 := Lib.hid (HB11.out.trans (h12.mono HB11.out.size))
      have HC12 := Lib.hid (HC11.out.below h12)
      have HW12 := Lib.hid (HW11.out.below h12)
      have HX_12 := Lib.hid (HX_11.out.below h12)
      have HY_12 := Lib.hid (HY_11.out.below h12)
      clear HC11 HW11 HX_11 HY_11
      clear h12 hc12 HS11 HO11
      have hm1 : mB [1] 1 := mB.of (by decide) (fun x hx => by simp at hx; subst hx; decide)
      go_wp2_with (go_at_call 15; refine (HCA.out [1] 1 n rfl (by omega) (by omega) hm1 hn1T.out B10 B12 d10 d12 w12 HS12.out HZ12.out).mono ?_; rintro r w13 ⟨⟨H, dh, rfl, -, hH⟩, h13⟩; refine Hid.out ?_)
      unfold Hid
      rw [conv_comm, conv_one _ (by rw [HWL.out k (Nat.le_refl _)]; omega)] at hH
      have HH_13 := Lib.hid hH
      have HB13 := Lib.hid (HB12.out.trans (h13.mono HB12.out.size))
      have HC13 := Lib.hid (HC12.out.below h13)
      have HW13 := Lib.hid (HW12.out.below h13)
      have HX_13 := Lib.hid (HX_12.out.below h13)
      have HY_13 := Lib.hid (HY_12.out.below h13)
      clear HC12 HW12 HX_12 HY_12
      clear h13 hH HS12 HZ12 hm1 hn1T
      have hwn := Lib.hid (show n = (wantK cs k).length by rw [HWL.out k (Nat.le_refl _)]; exact HNN.out)
      have HSI := Lib.hid (fun (W : World) (P Q : Option Addr) (cp cq : Nat) q1 q2 => same_cone (wantK cs k) n hwn.out (by omega) P Q cp cq W q1 q2)
      clear hwn
      go_wp2_with (go_at_call 8; refine (HSI.out w13 H B dh d HH_13.out HW13.out).mono ?_; rintro r w14 ⟨rfl, h14⟩; refine Hid.out ?_)
      unfold Hid
      have HB14 := Lib.hid (HB13.out.trans (h14.mono HB13.out.size))
      have HC14 := Lib.hid (HC13.out.below h14)
      have HW14 := Lib.hid (HW13.out.below h14)
      have HX_14 := Lib.hid (HX_13.out.below h14)
      have HY_14 := Lib.hid (HY_13.out.below h14)
      have HH_14 := Lib.hid (HH_13.out.below h14)
      clear HC13 HW13 HX_13 HY_13 HH_13
      clear h14
      go_wp2
      refine name_world ?_
      intro w15 e15
      have h15 : Below w14.heap.size w14 w15 := by rw [e15]; exact bel
      have K15b : Blk w15 w14.heap.size #[.slice none 0 0, .slice none 0 0] := by rw [e15]; (repeat (first | ((with_reducible refine Blk.at_ ?_); focus (first | rfl | (simp; done) | (simp; omega))) | (with_reducible refine Blk.alloc ?_ _) | (with_reducible refine Blk.below ?_ (by with_reducible assumption)) | (with_reducible refine Blk.drew ?_)))
      have K15x : Blk w15 (w14.heap.size + 1) #[.slice X L dx, .slice Y L dy] := by rw [e15]; (repeat (first | ((with_reducible refine Blk.at_ ?_); focus (first | rfl | (simp; done) | (simp; omega))) | (with_reducible refine Blk.alloc ?_ _) | (with_reducible refine Blk.below ?_ (by with_reducible assumption)) | (with_reducible refine Blk.drew ?_)))
      have HKB := Lib.hid K15b
      have HKX := Lib.hid K15x
      have HB15 := Lib.hid h15
      clear e15 h15 K15b K15x
      have hgb : w14.heap.size < w15.heap.size := HKB.out.lt
      go_loopw [157] (fun z wr => ∃ i : Nat, i ≤ 2 ∧ z = (.int .i64 ((i : Int))) ∧ (∃ bk : Array Value, Blk wr w14.heap.size bk ∧ bk.size = 2 ∧ ∀ j, j < i → ∃ B d, bk[j]? = some (.slice B L d) ∧ Cells wr B (F j) ∧ ∀ p, B = some p → w14.heap.size < p.block) ∧ Blk wr (w14.heap.size + 1) #[.slice X L dx, .slice Y L dy] ∧ Below w14.heap.size w14 wr) (fun z _ => 2 - (intOf z).toNat)
      case atStart => exact ⟨0, Nat.zero_le _, rfl, ⟨_, HKB.out, rfl, fun j hj => absurd hj (by omega)⟩, HKX.out, HB15.out⟩
      case round =>
        rename World => wq
        obtain ⟨i, hi, rfl, ⟨bk, kb, hbs, hbk⟩, kx, hbq⟩ := hrel
        have HKB2 := Lib.hid kb
        have HKX2 := Lib.hid kx
        have HBK := Lib.hid hbk
        have HBS := Lib.hid hbs
        have HBQ := Lib.hid hbq
        have HBW2 := Lib.hid (HB14.out.trans (hbq.mono HB14.out.size))
        have hzq : w14.heap.size < wq.heap.size := kb.lt
        clear kb hbs hbk
        by_cases hlt2 : i < 2
        · obtain ⟨Z, dz, hz, hZ⟩ : ∃ Z dz, wq.cell? ⟨w14.heap.size + 1, i, none⟩ = some (.slice Z L dz) ∧ Cells w14 Z (F i) := by
            rcases (by omega : i = 0 ∨ i = 1) with rfl | rfl
            · exact ⟨X, dx, by rw [kx.c]; rfl, HX_14.out⟩
            · exact ⟨Y, dy, by rw [kx.c]; rfl, HY_14.out⟩
          have HZ := Lib.hid hZ
          have hgx : w14.heap.size + 1 < wq.heap.size := kx.lt
          have hFL := Lib.hid (HFL.out i)
          have hFB := Lib.hid (HFB.out i)
          clear hZ kx hbq
          go_wp2_with (at_builtin; refine name_list ?_; intro w16 e16; refine Hid.out ?_)
          unfold Hid
          have h16 : Below wq.heap.size wq w16 := by rw [e16]; exact bel
          have o16 : w16.ownsRow wq.heap.size 3 1 (.slice (some ⟨wq.heap.size, 0, none⟩) 0 0) 0 [] := by rw [e16]; exact own_empty _
          have HB16 := Lib.hid (HBQ.out.trans (h16.mono HBQ.out.size))
          have HQ16 := Lib.hid h16
          clear e16 h16 hz
          refine wpList_appC rfl _ _ rfl wq.heap.size L dz Z (F i) hFL.out rfl rfl o16 (by omega) (HZ.out.below HB16.out) ?_
          intro Z2 d2 w17 h17 o17
          obtain ⟨Z3, d3, hz3, -, hc17⟩ := own_ints (zs := F i) o17 hFL.out
          cases hz3
          have HB17 := Lib.hid (HB16.out.trans (h17.mono HB16.out.size))
          have HQ17 := Lib.hid (HQ16.out.trans (h17.mono HQ16.out.size))
          have HC17 := Lib.hid hc17
          clear h17 o17 hc17 o16
          go_wp2_with (go_at_call 17; refine (HOF.out (F i) hFB.out hFL.out Z2 d2 w17 HC17.out).mono ?_; rintro r w18 ⟨⟨R, dr, rfl, hR, -⟩, h18⟩; refine Hid.out ?_)
          unfold Hid
          have HB18 := Lib.hid (HB17.out.trans (h18.mono HB17.out.size))
          have HQ18 := Lib.hid (HQ17.out.trans (h18.mono HQ17.out.size))
          have HR18 := Lib.hid hR
          clear h18 hR
          go_wp2_with (go_at_call 18; refine name_calls ?_; intro w19 e19; refine Hid.out ?_)
          unfold Hid
          have h19 : Below w18.heap.size w18 w19 := by rw [e19]; exact bel
          have HB19 := Lib.hid (HB18.out.trans (h19.mono HB18.out.size))
          have HQ19 := Lib.hid (HQ18.out.trans (h19.mono HQ18.out.size))
          have HR19 := Lib.hid (HR18.out.below h19)
          clear e19 h19
          refine (HEN.out (F i) hFB.out hFL.out R dr w19 HR19.out).mono ?_
          rintro r w20 ⟨⟨T2, dt, S, rfl, hS, hSd, hT2, -⟩, h20⟩
          have HB20 := Lib.hid (HB19.out.trans (h20.mono HB19.out.size))
          have HQ20 := Lib.hid (HQ19.out.trans (h20.mono HQ19.out.size))
          have HST := Lib.hid (And.intro hS (And.intro hSd hT2))
          clear h20 hS hSd hT2
          go_wp2_with (go_at_call 19; refine (HDE.out (F i) hFB.out hFL.out T2 dt S w20 HST.out.1 HST.out.2.1 HST.out.2.2).mono ?_; rintro r w21 ⟨⟨R2, dr2, rfl, hR2, -⟩, h21⟩; refine Hid.out ?_)
          unfold Hid
          have HB21 := Lib.hid (HB20.out.trans (h21.mono HB20.out.size))
          have HQ21 := Lib.hid (HQ20.out.trans (h21.mono HQ20.out.size))
          have HR21 := Lib.hid hR2
          clear h21 hR2
          go_wp2_with (go_at_call 20; refine name_calls ?_; intro w22 e22; refine Hid.out ?_)
          unfold Hid
          have h22 : Below w21.heap.size w21 w22 := by rw [e22]; exact bel
          have HB22 := Lib.hid (HB21.out.trans (h22.mono HB21.out.size))
          have HQ22 := Lib.hid (HQ21.out.trans (h22.mono HQ21.out.size))
          have HR22 := Lib.hid (HR21.out.below h22)
          clear e22 h22
          refine (HSE.out (F i) hFB.out hFL.out R2 dr2 w22 HR22.out).mono ?_
          rintro r w23 ⟨⟨U, du, rfl, hU, hUf⟩, h23⟩
          have HB23 := Lib.hid (HB22.out.trans (h23.mono HB22.out.size))
          have HQ23 := Lib.hid (HQ22.out.trans (h23.mono HQ22.out.size))
          have HU := Lib.hid hU
          have HUF : Hid (∀ p, U = some p → w14.heap.size < p.block) := Lib.hid (fun p hp => by have := hUf p hp; have := HQ22.out.size; omega)
          clear h23 hU hUf
          go_wp2_with (go_at_call 8; refine (same_cone (F i) L hFL.out (by omega) U Z du dz w23 HU.out (HZ.out.below HB23.out)).mono ?_; rintro r w24 ⟨rfl, h24⟩; refine Hid.out ?_)
          unfold Hid
          have HB24 := Lib.hid (HB23.out.trans (h24.mono HB23.out.size))
          have HQ24 := Lib.hid (HQ23.out.trans (h24.mono HQ23.out.size))
          have HU24 := Lib.hid (HU.out.below h24)
          have KB24 := Lib.hid (HKB2.out.below HQ24.out)
          have KX24 := Lib.hid (HKX2.out.below HQ24.out)
          clear h24
          obtain ⟨v0, hv0⟩ : ∃ v0, w24.cell? ⟨w14.heap.size, i, none⟩ = some v0 := by rw [KB24.out.c]; exact ⟨_, Array.getElem?_eq_getElem (by rw [HBS.out]; exact hlt2)⟩
          have kbl := KB24.out.lt
          have kbf := KB24.out.f
          have hii2 : (i : Int) < 2 := by omega
          go_wp2
          go_roundw
          case rel =>
            refine ⟨i + 1, by omega, by go_num, ⟨bk.setIfInBounds i (.slice U L du), KB24.out.set (i := i) (by rw [HBS.out]; exact hlt2) _, by rw [Array.size_setIfInBounds]; exact HBS.out, fun j hj => ?_⟩, KX24.out.far (by simp) _, HB24.out.setCell (p := ⟨w14.heap.size, i, none⟩) (Nat.le_refl _) _⟩
            rcases Nat.lt_or_ge j i with hji | hji
            · obtain ⟨B9, d9, q1, q2, q3⟩ := HBK.out j hji
              exact ⟨B9, d9, by rw [Array.getElem?_setIfInBounds, if_neg (by omega)]; exact q1, ((q2.below HQ24.out).ec.far (p := ⟨w14.heap.size, i, none⟩) (fun p hp => by have := q3 p hp; simp only; omega) _).cells, q3⟩
            · obtain rfl : j = i := by omega
              exact ⟨U, du, by rw [Array.getElem?_setIfInBounds, if_pos rfl, if_pos (by rw [HBS.out]; exact hlt2)], (HU24.out.ec.far (p := ⟨w14.heap.size, j, none⟩) (fun p hp => by have := HUF.out p hp; simp only; omega) _).cells, HUF.out⟩
          case measure => simp [intOf]; omega
        · obtain rfl : i = 2 := by omega
          clear HOF HEN HDE HSE hlt2 hi
          obtain ⟨G0, e0, hq0, hG0, -⟩ := HBK.out 0 (by omega)
          obtain ⟨G1, e1, hq1, hG1, -⟩ := HBK.out 1 (by omega)
          have HG0 := Lib.hid hG0
          have HG1b := Lib.hid hG1
          have z0 : wq.cell? ⟨w14.heap.size, 0, none⟩ = some (.slice G0 L e0) := by rw [HKB2.out.c]; exact hq0
          have z1 : wq.cell? ⟨w14.heap.size, 1, none⟩ = some (.slice G1 L e1) := by rw [HKB2.out.c]; exact hq1
          have HLD : Hid (L = 2 * k + 1 + M - 1) := Lib.hid (by have := HTT.out; omega)
          have HV0 : Hid (lvls (F 0) ∧ lvls (F 1)) := Lib.hid ⟨(HFB.out 0).lvls (by decide), (HFB.out 1).lvls (by decide)⟩
          have HDC2 : Hid (∀ W P Q c1 c2, Cells W P (F 0) → Cells W Q (F 1) → Calls Try.prog 7 #[.slice P L c1, .slice Q L c2, (.int .i64 ((M : Int)))] W fun r w' => (∃ D d, r = .returned (.tuple #[.slice D n d, (.int .i64 0)]) ∧ Cells w' D (wantK cs k)) ∧ Below W.heap.size W w') := Lib.hid (fun W P Q c1 c2 q1 q2 => by
            have h0 := HV0.out
            rw [HF0.out] at q1 h0
            rw [HF1.out] at q2 h0
            refine (HDC.out P Q c1 c2 L W HLD.out h0.1 h0.2 q1 q2).mono ?_
            rintro r w' ⟨u, rfl, ⟨D, d, rfl, g1, -⟩, g2⟩
            exact ⟨⟨D, d, by rw [HWL.out k (Nat.le_refl _), ← HNN.out], g1⟩, g2⟩)
          have HES2 : Hid (∀ W P Q c1 c2, Cells W P (F 0) → Cells W Q (F 1) → Calls Try.prog 21 #[.slice P L c1, .slice Q L c2, (.int .i64 ((M : Int)))] W fun r w' => (∃ D d, r = .returned (.tuple #[.slice D n d, (.int .i64 0)]) ∧ Cells w' D (wantK cs k)) ∧ Below W.heap.size W w') := Lib.hid (fun W P Q c1 c2 q1 q2 => by
            have h0 := HV0.out
            rw [HF0.out] at q1 h0
            rw [HF1.out] at q2 h0
            refine (HES.out P Q c1 c2 L W HLD.out h0.1 h0.2 q1 q2).mono ?_
            rintro r w' ⟨u, rfl, ⟨D, d, rfl, g1, -⟩, g2⟩
            exact ⟨⟨D, d, by rw [HWL.out k (Nat.le_refl _), ← HNN.out], g1⟩, g2⟩)
          clear hG0 hG1 hq0 hq1 hbq kx HDC HES
          go_wp2_with (go_at_call 7; refine (HDC2.out wq G0 G1 e0 e1 HG0.out HG1b.out).mono ?_; rintro r w25 ⟨⟨D1, dd1, rfl, hD1⟩, h25⟩; refine Hid.out ?_)
          unfold Hid
          have HQ25 := Lib.hid (HBQ.out.trans (h25.mono HBQ.out.size))
          have HD25 := Lib.hid hD1
          clear h25 hD1 z0 z1
          go_wp2_with (go_at_call 21; refine (HES2.out w25 X Y dx dy (HX_14.out.below HQ25.out) (HY_14.out.below HQ25.out)).mono ?_; rintro r w26 ⟨⟨D2, dd2, rfl, hD2⟩, h26⟩; refine Hid.out ?_)
          unfold Hid
          have HQ26 := Lib.hid (HQ25.out.trans (h26.mono HQ25.out.size))
          have HD26 := Lib.hid (HD25.out.below h26)
          have HE26 := Lib.hid hD2
          clear h26 hD2
          go_wp2_with (go_at_call 8; refine (HSI.out w26 D1 B dd1 d HD26.out (HW14.out.below HQ26.out)).mono ?_; rintro r w27 ⟨rfl, h27⟩; refine Hid.out ?_)
          unfold Hid
          have HQ27 := Lib.hid (HQ26.out.trans (h27.mono HQ26.out.size))
          have HE27 := Lib.hid (HE26.out.below h27)
          clear h27
          go_wp2_with (go_at_call 8; refine (HSI.out w27 D2 B dd2 d HE27.out (HW14.out.below HQ27.out)).mono ?_; rintro r w28 ⟨rfl, h28⟩; refine Hid.out ?_)
          unfold Hid
          have HQ28 := Lib.hid (HQ27.out.trans (h28.mono HQ27.out.size))
          have HB28 := Lib.hid (HB14.out.trans (HQ28.out.mono HB14.out.size))
          have HC28 := Lib.hid (HC14.out.below HQ28.out)
          have HW28 := Lib.hid (HW14.out.below HQ28.out)
          clear h28
          rcases Nat.eq_zero_or_pos k with hk0 | hk0
          · subst hk0
            have HCZ := Lib.hid (coneBooth_ok w28)
            go_wp2_with (go_at_call 5; refine HCZ.out.mono ?_; rintro r w29 ⟨rfl, h29⟩; refine Hid.out ?_)
            unfold Hid
            have HB29 := Lib.hid (HB28.out.trans (h29.mono HB28.out.size))
            clear h29
            go_wp2
            go_ret
            exact ⟨rfl, HB29.out⟩
          · have hkz : ((k : Int) == 0) = false := beq_eq_false_iff_ne.2 (by omega)
            have hkp : (0 : Int) < (k : Int) := by omega
            obtain ⟨bc, oc, rfl, lc, hcc⟩ := HC28.out (by rw [← HM.out]; exact hk0)
            obtain ⟨x0, x1, x2, -, -, -⟩ := hcc 0 (by rw [← HM.out]; exact hk0)
            simp only [Nat.zero_mul, Nat.add_zero] at x0 x1 x2
            obtain ⟨b0, hb0⟩ : ∃ b0, b0 = (cs.getD 0 Sec0).b0 := ⟨_, rfl⟩
            obtain ⟨b1, hb1⟩ : ∃ b1, b1 = (cs.getD 0 Sec0).b1 := ⟨_, rfl⟩
            obtain ⟨b2, hb2⟩ : ∃ b2, b2 = (cs.getD 0 Sec0).b2 := ⟨_, rfl⟩
            rw [← hb0] at x0
            rw [← hb1] at x1
            rw [← hb2] at x2
            have HBB := Lib.hid (And.intro hb0 (And.intro hb1 hb2))
            clear hcc hb0 hb1 hb2
            by_cases hbz : b0 = 0
            · subst hbz
              have HCZ := Lib.hid (coneBooth_ok w28)
              go_wp2_with (go_at_call 5; refine HCZ.out.mono ?_; rintro r w29 ⟨rfl, h29⟩; refine Hid.out ?_)
              unfold Hid
              have HB29 := Lib.hid (HB28.out.trans (h29.mono HB28.out.size))
              clear h29
              go_wp2
              go_ret
              exact ⟨rfl, HB29.out⟩
            · have hbz2 : (b0 == 0) = false := beq_eq_false_iff_ne.2 hbz
              go_wp2
              obtain ⟨Q, hQ⟩ : ∃ Q, Q = wantK (cs.drop 1) (k - 1) := ⟨_, rfl⟩
              obtain ⟨K2, hK2⟩ : ∃ K2, K2 = n - 2 := ⟨_, rfl⟩
              have HSP : Hid (wantK cs k = conv Q [b0, b1, b2]) := Lib.hid (by rw [hQ, HBB.out.1, HBB.out.2.1, HBB.out.2.2]; exact want_split HM.out hk0)
              have hdl : (cs.drop 1).length = k - 1 := by rw [List.length_drop, ← HM.out]
              have HFD : Hid (FirL (cs.drop 1)) := Lib.hid (fun s hs => HFIR.out s (List.mem_of_mem_drop hs))
              have HQL : Hid (K2 = Q.length) := Lib.hid (by rw [hQ, wantK_len (k - 1) (by omega), hK2]; have := HNN.out; omega)
              have HQV : Hid (lvls Q) := Lib.hid (by rw [hQ]; exact ((wantK_mB HFD.out (k - 1) (by omega)).le (pow12 (by omega)).2).lvls (by decide))
              have hK23 : K2 = n - 2 ∧ 3 ≤ n := by have := HNN.out; omega
              have HBV : Hid (lvls [b0, b1, b2]) := Lib.hid (fun x hx => by
                have h1 := (HFIR.out.get 0).t0
                have h2 := (HFIR.out.get 0).t1
                have h3 := (HFIR.out.get 0).t2
                rw [← HBB.out.1] at h1
                rw [← HBB.out.2.1] at h2
                rw [← HBB.out.2.2] at h3
                unfold tp4 at h1 h2 h3
                simp only [List.mem_cons, List.not_mem_nil, or_false] at hx
                rcases hx with rfl | rfl | rfl <;> omega)
              have HDV : Hid (∀ W P P2 cy ca, Cells W P (wantK cs k) → Cells W P2 [b0, b1, b2] → Calls Try.prog 22 #[.slice P n cy, .slice P2 3 ca] W fun r w' => (∃ D d, r = .returned (.tuple #[.slice D K2 d, (.int .i64 0)]) ∧ Cells w' D Q) ∧ Below W.heap.size W w') := Lib.hid (fun W P P2 cy ca q1 q2 => by
                refine (Divide_ok Q [b0, b1, b2] (wantK cs k) P P2 cy ca K2 3 n W HSP.out HQL.out rfl (by omega) (by omega) (by omega) (by omega) (by omega) hbz HQV.out HBV.out (HWV.out k (Nat.le_refl _)) q1 q2).mono ?_
                rintro r w' ⟨u, rfl, ⟨D, d, rfl, g1, -⟩, g2⟩
                exact ⟨⟨D, d, by rw [← HQL.out], g1⟩, g2⟩)
              have hlw : ((wantK cs k).map (Value.int .i64)).length = n * 1 := by rw [List.length_map, HWL.out k (Nat.le_refl _), ← HNN.out, Nat.mul_one]
              have HQQ := Lib.hid hQ
              have HKK2 := Lib.hid hK23
              have HDL := Lib.hid hdl
              have HX2 := Lib.hid (And.intro x0 (And.intro x1 (And.intro x2 lc)))
              have HHL := Lib.hid hlw
              obtain ⟨i0, hi0, hz0, hz1, hz2⟩ := info_parts Try.infoI
              clear hQ hK2 hdl hK23 hlw hbz hbz2 hkz
              refine Rel.region3 21 (by kernel_rfl) (by kernel_rfl) (by kernel_rfl) ?_
              simp only [List.take_succ_cons, List.take_zero, List.drop_succ_cons, List.drop_zero, List.filterMap_cons, List.filterMap_nil]
              (apply Rel.empty3 3 1; (focus (exact Rel.gno rfl)); (focus (intro a W; go_simp; (first | done | rfl | (refine ⟨?_, ?_⟩ <;> rfl)))); (try simp only [List.nil_append, List.cons_append]))
              iterate 1 (apply Rel.op3; (focus (first | exact Rel.gno rfl | exact Rel.gyes _ true _ rfl rfl rfl | exact Rel.gyes _ false _ rfl rfl rfl)); (focus (intro a W hb hd hbase; obtain ⟨hc, hf⟩ := bcell hb; clear hb hf; simp [Rel.deps, Rel.dep1, Rel.ons, Region.binds, Act.eval] at hd; simp only [Act.eval, List.mem_cons, List.not_mem_nil, not_or, and_imp, or_false, Array.getD_eq_getD_getElem?] at hbase; go_simp; (try go_bits); (try rfl); done)); (try simp only [List.nil_append, List.cons_append]))
              refine Rel.app3 (.tmp 248) (.tmp 249) 22 rfl 3 i0 _ 1 8 Try.underlying22 hi0 hz0 hz1 hz2 rfl (by decide) n ((wantK cs k).map (Value.int .i64)) HHL.out (fun u hu => by obtain ⟨z, _, rfl⟩ := List.mem_map.1 hu; rfl) (by unfold maxLen; omega) (by omega) (Rel.gno rfl) ?_ ?_
              · intro a W hb hd hbase
                simp [Rel.deps, Rel.dep1, Rel.ons, Region.binds] at hd
                obtain ⟨h248, h249⟩ := hd
                obtain ⟨b9, o9, e9, -, c9⟩ := (HW28.out.below hb) (by rw [HWL.out k (Nat.le_refl _)]; omega)
                exact ⟨⟨_, rfl, by simpa using h248⟩, _, _, h249, fun _ => ⟨_, e9, fun j u hj => cells_src c9 j u hj⟩⟩
              (try simp only [List.nil_append, List.cons_append])
              iterate 12 (apply Rel.op3; (focus (first | exact Rel.gno rfl | exact Rel.gyes _ true _ rfl rfl rfl | exact Rel.gyes _ false _ rfl rfl rfl)); (focus (intro a W hb hd hbase; obtain ⟨hc, hf⟩ := bcell hb; clear hb hf; simp [Rel.deps, Rel.dep1, Rel.ons, Region.binds, Act.eval] at hd; simp only [Act.eval, List.mem_cons, List.not_mem_nil, not_or, and_imp, or_false, Array.getD_eq_getD_getElem?] at hbase; go_simp; (try go_bits); (try rfl); done)); (try simp only [List.nil_append, List.cons_append]))
              (apply Rel.build3; (focus (first | exact Rel.gno rfl | exact Rel.gyes _ true _ rfl rfl rfl)); (focus (intro a W hb hd hbase; obtain ⟨hc, hf⟩ := bcell hb; clear hb hf; simp [Rel.deps, Rel.dep1, Rel.ons, Region.binds, Act.eval] at hd; simp only [Act.eval, List.mem_cons, List.not_mem_nil, not_or, and_imp, or_false, Array.getD_eq_getD_getElem?] at hbase; go_simp; (first | rfl | (refine ⟨⟨?_, ?_⟩, ?_⟩; rfl; rfl; rfl) | (refine ⟨?_, ?_⟩; rfl; rfl)))); (try simp only [List.nil_append, List.cons_append]))
              refine Rel.callR3 (fun u W => ∃ D d, u = .tuple #[.slice D K2 d, (.int .i64 0)] ∧ Cells W D Q) (fun u W W' ⟨D, d, h1, h2⟩ hb => ⟨D, d, h1, h2.below hb⟩) (Rel.gno rfl) ?_ ?_
              · intro a W hb hd hbase
                simp [Rel.deps, Rel.dep1, Rel.ons, Region.binds, Rel.OwnS] at hd
                obtain ⟨h250, ⟨g8, h263, _, hK8⟩, _⟩ := hd
                obtain ⟨A9, c9, h9, -, hC9⟩ := own_ints (zs := wantK cs k) h250 (by rw [HWL.out k (Nat.le_refl _)]; exact HNN.out)
                refine ⟨22, #[.slice A9 n c9, .slice (some ⟨g8, 0, none⟩) 3 3], ?_, (HDV.out W A9 (some ⟨g8, 0, none⟩) c9 3 hC9 (Cells.blk hK8 rfl)).mono (fun e W' ⟨⟨D, d, h1, h2⟩, h3⟩ => ⟨_, h1, ⟨D, d, rfl, h2⟩, h3⟩)⟩
                simp only [Act.eval, Array.getD_eq_getD_getElem?] at h9 h263
                go_simp
                (first | done | rfl | (refine ⟨?_, ?_⟩ <;> rfl))
              (try simp only [List.nil_append, List.cons_append])
              refine Rel.opR3 (fun u W => ∃ D d, u = .tuple #[.slice D K2 d, (.int .i64 0)] ∧ Cells W D Q) (fun u W W' ⟨D, d, h1, h2⟩ hb => ⟨D, d, h1, h2.below hb⟩) (Rel.gno rfl) ?_ ?_
              · intro a W hb hd hbase
                simp [Rel.deps, Rel.dep1, Rel.ons, Region.binds] at hd
                (first | obtain ⟨D, ⟨d, h1⟩, h2⟩ := hd | obtain ⟨D, d, h1, h2⟩ := hd)
                refine ⟨.tuple #[.slice D K2 d, (.int .i64 0)], ?_, D, d, rfl, h2⟩
                simp only [Act.eval, Array.getD_eq_getD_getElem?] at h1
                go_simp
              (try simp only [List.nil_append, List.cons_append])
              refine Rel.opR3 (fun u W => ∃ D d, u = .slice D K2 d ∧ Cells W D Q) (fun u W W' ⟨D, d, h1, h2⟩ hb => ⟨D, d, h1, h2.below hb⟩) (Rel.gno rfl) ?_ ?_
              · intro a W hb hd hbase
                simp [Rel.deps, Rel.dep1, Rel.ons, Region.binds] at hd
                (first | obtain ⟨D, ⟨d, h1⟩, h2⟩ := hd | obtain ⟨D, d, h1, h2⟩ := hd)
                refine ⟨.slice D K2 d, ?_, D, d, rfl, h2⟩
                simp only [Act.eval, Array.getD_eq_getD_getElem?] at h1
                go_simp
              (try simp only [List.nil_append, List.cons_append])
              refine Rel.opR3 (fun u _ => u = (.int .i64 0)) (Rel.stable_eq _) (Rel.gno rfl) ?_ ?_
              · intro a W hb hd hbase
                simp [Rel.deps, Rel.dep1, Rel.ons, Region.binds] at hd
                (first | obtain ⟨D, ⟨d, h1⟩, h2⟩ := hd | obtain ⟨D, d, h1, h2⟩ := hd)
                refine ⟨(.int .i64 0), ?_, rfl⟩
                simp only [Act.eval, Array.getD_eq_getD_getElem?] at h1
                go_simp
              (try simp only [List.nil_append, List.cons_append])
              refine Rel.opR3 (fun u W => ∃ D d, u = .slice D K2 d ∧ Cells W D Q) (fun u W W' ⟨D, d, h1, h2⟩ hb => ⟨D, d, h1, h2.below hb⟩) (Rel.gno rfl) ?_ ?_
              · intro a W hb hd hbase
                simp [Rel.deps, Rel.dep1, Rel.ons, Region.binds] at hd
                obtain ⟨⟨D, ⟨d, h1⟩, h2⟩, _⟩ := hd
                refine ⟨.slice D K2 d, ?_, D, d, rfl, h2⟩
                simp only [Act.eval, Array.getD_eq_getD_getElem?] at h1
                go_simp
              (try simp only [List.nil_append, List.cons_append])
              refine Rel.done3 ?_
              intro x w30 h30 hx
              simp only [Rel.facts, Nat.zero_add, Nat.reduceAdd] at hx
              obtain ⟨_, e1, _, e3, e4, e5, e6, e7, e8, e9, e10, e11, e12, e13, e14, _, _, _, ⟨D8, d8, e18, _⟩, e19, ⟨V, dv, e20, hV⟩, _⟩ := hx
              simp only [Rel.fill, Nat.zero_add, Nat.reduceAdd, e1, e3, e4, e5, e6, e7, e8, e9, e10, e11, e12, e13, e14, e18, e19, e20]
              simp only [Act.put, List.setIfInBounds_toArray, List.set_cons_zero, List.set_cons_succ]
              have HB30 := Lib.hid (HB28.out.trans (h30.mono HB28.out.size))
              have HQ30 := Lib.hid (HQ28.out.trans (h30.mono HQ28.out.size))
              have HV30 := Lib.hid hV
              clear e1 e3 e4 e5 e6 e7 e8 e9 e10 e11 e12 e13 e14 e18 e19 e20 hV h30 x0 x1 x2 lc hz0 hz1 hz2 hi0
              have hcc2 : k ≤ cc := (own_room HRM.out).1
              have HC30 := Lib.hid (HC14.out.below HQ30.out)
              obtain ⟨P2, slS, hSC⟩ := sliceSec bc oc k cc hk0 hcc2 w30 cs HM.out HC30.out
              have HSD := Lib.hid hSC
              obtain ⟨T2, hT2⟩ : ∃ T2, T2 = T - 2 := ⟨_, rfl⟩
              have HT2 : Hid (T2 = 2 * (k - 1) ∧ K2 = 1 + 2 * (k - 1)) := Lib.hid (by have := HTT.out.1; have := HNN.out; have := HKK2.out; omega)
              have hT2i : (T : Int) - 2 = (T2 : Int) := by have := HTT.out.1; omega
              have HTB : Hid (∀ A c W, Cells W A [1] → Calls Try.prog 16 #[.slice A 1 c, (.int .i64 ((T2 : Int)))] W fun r w' => (∃ B d, r = .returned (.slice B K2 d) ∧ Cells w' B ([1] ++ List.replicate (2 * (k - 1)) 0)) ∧ Below W.heap.size W w') := Lib.hid (fun A c W q => by
                have := coneTail_any [1] A c 1 T2 W rfl (by omega) (by omega) q
                rw [show 1 + T2 = K2 by have := HT2.out; omega] at this
                rw [HT2.out.1] at this ⊢
                refine this.mono ?_
                rintro r w' ⟨⟨B, d, h1, h2, -, -⟩, h3⟩
                exact ⟨⟨B, d, h1, h2⟩, h3⟩)
              have HCC2 : Hid (∀ A1 A c1 c W, SCells W A1 (cs.drop 1) → Cells W A ([1] ++ List.replicate (2 * (k - 1)) 0) → Calls Try.prog 15 #[.slice A1 (k - 1) c1, .slice A K2 c] W fun r w' => (∃ B d, r = .returned (.tuple #[.slice B K2 d, (.int .i64 0)]) ∧ Cells w' B Q) ∧ Below W.heap.size W w') := Lib.hid (fun A1 A c1 c W q1 q2 => by
                have := cascM (cs.drop 1) [1] HFD.out (by rw [HDL.out]; omega) (by simp) (by simp) (mB.of (by decide) (fun x hx => by simp at hx; subst hx; decide)) (k - 1) K2 HDL.out.symm HT2.out.2 A1 A c1 c W q1 q2
                rw [conv_comm, conv_one _ (by rw [wantK_len (k - 1) (by rw [HDL.out]; omega)]; omega), ← HQQ.out] at this
                refine this.mono ?_
                rintro r w' ⟨⟨B, d, h1, -, h2⟩, h3⟩
                exact ⟨⟨B, d, h1, h2⟩, h3⟩)
              have hs30 := HB30.out.size
              clear hT2 hSC hcc2
              go_wp2_with (at_builtin; refine wpList_appSec rfl _ _ rfl _ (k - 1) _ P2 (cs.drop 1) HDL.out.symm rfl rfl (by omega) (HSD.out.below bel) ?_)
              intro B31 d31 w31 h31 hS31
              have h31' : Below w30.heap.size w30 w31 := (bel : Below w30.heap.size w30 (w30.alloc (.cells #[] 40))).trans (h31.mono (Nat.le_succ _))
              have HS31 : Hid (SCells w31 B31 (cs.drop 1)) := Lib.hid (by first | exact hS31 | (rw [List.drop_one]; exact hS31))
              have HB31 := Lib.hid (HB30.out.trans (h31'.mono HB30.out.size))
              have HV31 := Lib.hid (HV30.out.below h31')
              clear h31 hS31 h31' slS
              go_wp2_with (go_at_call 16; refine name_calls ?_; intro w32 e32; refine Hid.out ?_)
              unfold Hid
              have h32 : Below w31.heap.size w31 w32 := by rw [e32]; exact bel
              have K32 : Blk w32 w31.heap.size #[(.int .i64 1)] := by rw [e32]; exact Calm.Blk.new _ _ _
              have HO32 : Hid (Cells w32 (some ⟨w31.heap.size, 0, none⟩) [1]) := Lib.hid (Cells.blk K32 rfl)
              have HS32 := Lib.hid (HS31.out.below h32)
              have HB32 := Lib.hid (HB31.out.trans (h32.mono HB31.out.size))
              have HV32 := Lib.hid (HV31.out.below h32)
              clear e32 h32 K32
              refine (HTB.out _ 1 w32 HO32.out).mono ?_
              rintro r w33 ⟨⟨B33, d33, rfl, hc33⟩, h33⟩
              have HZ33 := Lib.hid hc33
              have HS33 := Lib.hid (HS32.out.below h33)
              have HB33 := Lib.hid (HB32.out.trans (h33.mono HB32.out.size))
              have HV33 := Lib.hid (HV32.out.below h33)
              clear h33 hc33
              go_wp2_with (go_at_call 15; refine (HCC2.out B31 B33 d31 d33 w33 HS33.out HZ33.out).mono ?_; rintro r w34 ⟨⟨H2, dh2, rfl, hH2⟩, h34⟩; refine Hid.out ?_)
              unfold Hid
              have HH34 := Lib.hid hH2
              have HB34 := Lib.hid (HB33.out.trans (h34.mono HB33.out.size))
              have HV34 := Lib.hid (HV33.out.below h34)
              clear h34 hH2
              go_wp2_with (go_at_call 8; refine (same_cone Q K2 HQL.out (by have := HKK2.out; omega) V H2 dv dh2 w34 HV34.out HH34.out).mono ?_; rintro r w35 ⟨rfl, h35⟩; refine Hid.out ?_)
              unfold Hid
              have HB35 := Lib.hid (HB34.out.trans (h35.mono HB34.out.size))
              have HCZ := Lib.hid (coneBooth_ok w35)
              clear h35
              go_wp2_with (go_at_call 5; refine HCZ.out.mono ?_; rintro r w36 ⟨rfl, h36⟩; refine Hid.out ?_)
              unfold Hid
              have HB36 := Lib.hid (HB35.out.trans (h36.mono HB35.out.size))
              clear h36
              go_wp2
              go_ret
              exact ⟨rfl, HB36.out⟩
end Go.Proofs.Ytamldoidalnloaa

/- TopConeMeasured: the row. -/
namespace Go.Proofs.Ytamldoidalnloaa.topConeMeasured
open Go.ChangeShapes Go.WideShapes Go.ChangeAt Go.RowKit Go.Flat
open Calm (bcell)
theorem measured_any (l : List Sec) (A : Option Addr) (c : Nat) (sz : Int) (w : World) (hsz : 0 ≤ sz ∧ sz < 256) (hC : SCells w A l) : Calls Try.prog 4 #[.slice A l.length c, .int .u8 sz] w fun r w' => r = .returned (.bool true) ∧ Below w.heap.size w w' := by
  by_cases h1 : 3 < l.length
  · exact measured_big A c l.length sz w h1
  · exact measured_ok l A c l.length sz w rfl (by omega) hsz hC
theorem u8_of {x : Int} (h : (Lit.int .u8 x).wf = true) : 0 ≤ x ∧ x < 256 := by
  simp [Lit.wf] at h
  have h1 : IntKind.u8.min = 0 := by decide
  have h2 : IntKind.u8.max = 255 := by decide
  omega
set_option maxRecDepth 100000 in
/-- sections, opened. -/
theorem open_secs {H : Type} {enc : TypeId × Value → H} {w : World} {base : Nat} {r : Reach} {b0 : Nat} {sp : Nat → Bool} {held : Bool} {v : Value} {d : DataW H} {p : List MemPlace}
    (hv : Value.okWide Try.prog w r b0 36 v) (hd : DataW.Trod enc Try.prog w base sp held 36 v d p) :
    ∃ (A : Option Addr) (c : Nat) (l : List Sec), v = .slice A l.length c ∧ SCells w A l := by
  obtain ⟨a, len, cap, rfl⟩ := okWide_slice Try.underlying36 hv
  obtain ⟨fuel, hf⟩ := hd
  have hf' : DataW.trod enc Try.prog w base sp held fuel 36 [.slice a len cap] = some (d, p) := hf
  obtain ⟨A, len', cap', zs, e, _, _, _, h3⟩ := open_slab 3 Try.underlying36 (by kernel_rfl) (show Try.prog.cellsOf 88 = 6 by kernel_rfl) (by omega) hf'
  obtain ⟨rfl, rfl, rfl⟩ : a = A ∧ len = len' ∧ cap = cap' := by simpa using e
  refine ⟨a, cap, (List.range len).map fun i => (⟨(zs i).getD 0 0, (zs i).getD 1 0, (zs i).getD 2 0, (zs i).getD 3 0, (zs i).getD 4 0, (zs i).getD 5 0⟩ : Sec), by simp, fun h0 => ?_⟩
  obtain ⟨b, o, hA, hb, hc⟩ := h3 (by simpa using h0)
  refine ⟨b, o, hA, hb, fun k hk => ?_⟩
  have hk' : k < len := by simpa using hk
  have hg : ((List.range len).map fun i => (⟨(zs i).getD 0 0, (zs i).getD 1 0, (zs i).getD 2 0, (zs i).getD 3 0, (zs i).getD 4 0, (zs i).getD 5 0⟩ : Sec)).getD k Sec0 = ⟨(zs k).getD 0 0, (zs k).getD 1 0, (zs k).getD 2 0, (zs k).getD 3 0, (zs k).getD 4 0, (zs k).getD 5 0⟩ := by
    simp [List.getD, hk']
  rw [hg]
  exact ⟨hc k 0 hk' (by omega), hc k 1 hk' (by omega), hc k 2 hk' (by omega), hc k 3 hk' (by omega), hc k 4 hk' (by omega), hc k 5 hk' (by omega)⟩
set_option maxRecDepth 100000 in
theorem contract (H : Type) (enc : TypeId × Value → H) (W : World) (base : Nat) (args : Array Value) (ds gs : List (DataW H)) (before : List MemPlace)
    (hval : ∀ (j : Nat) t v, Try.f4.params[j]? = some t → args[j]? = some v → Value.okWide Try.prog W .any base t v)
    (hW : DataW.Whole enc Try.prog Try.f4.params.toList Rows.topConeMeasuredSpec.vars false W args.toList ds gs before) :
    Calls Try.prog 4 args W fun e W' => ∃ v, e = .returned v ∧ Rows.topConeMeasuredSpec.post enc Try.prog Try.f4 false true false false W args v W' := by
  have hW' := hW
  have hlt : ∀ p ∈ before, p.block < W.heap.size := fun p hp => hW.lt p hp
  obtain ⟨p, q, hA0, hV, rfl, hfz, hnd⟩ := hW
  have hA : DataW.TrodAll enc Try.prog W 0 (fun _ => true) true Try.f4.params.toList args.toList ds p := hA0
  rw [Try.params4] at hA hval
  obtain ⟨v0, v1, d0, d1, p0, p1, rfl, rfl, rfl, h0, h1⟩ := trodAll_two hA
  obtain ⟨rfl, rfl⟩ := trodVars_none hV
  obtain ⟨A, c, zs, rfl, j0⟩ := open_secs (hval 0 _ _ rfl rfl) h0
  obtain ⟨n1, rfl, _, _, wf1⟩ := open_int Try.underlying5 (hval 1 _ _ rfl rfl) h1
  refine (measured_any zs A c n1 W (u8_of wf1) j0).mono fun e W' ⟨he, hb⟩ => ?_
  subst he
  refine ⟨_, rfl, post_of_below (pa := p0 ++ p1) (pv := []) hW' (fun _ _ _ => trodAll_cons_mk (shut_bool Try.underlying4 _) trodAll_mk0) (fun sp hs => ?_) (fun _ _ => rfl) rfl hb (ok_one (by kernel_rfl) rfl (okWide_bool_mk Try.underlying4 _))⟩
  exact trodAll_below laidOut hb (by rw [Try.params4]; exact of_decide_eq_true (by kernel_rfl)) hA0 (fun x hx => hlt x (List.mem_append_left _ hx)) (fun x hx => hs x (List.mem_append_left _ hx))
set_option maxRecDepth 100000 in
theorem lifted (os : Os) (started : os.Started) (H : Type) (enc : TypeId × Value → H) :
    ReturnsInHanded {} Try.checked os 4 .any (Rows.topConeMeasuredSpec.pre6 enc Try.prog Try.f4 Rows.topConeMeasuredRow.domain false) (Rows.topConeMeasuredSpec.post enc Try.prog Try.f4 false true false false) := by
  refine returnsInHanded_of_change (C := Try.checked) own started (by kernel_rfl) Try.func4
    (ChangeSpec.witness6 (enc := enc) (C := Try.checked) false ⟨#[], #[.slice none 0 0, .int .u8 0], []⟩ 8 (by kernel_rfl) (by kernel_rfl) (by kernel_rfl) (by kernel_rfl)) ?_
  intro W base args ds gs before hval hW hcnd _
  exact contract H enc W base args ds gs before hval hW
theorem said : Rows.TopConeMeasuredSaid :=
  OpenClaim.holds_of_wide 4 Try.f4 rfl rfl rfl rfl rfl rfl rfl ⟨rfl, rfl, rfl, rfl, rfl⟩ rfl rfl rfl rfl rfl (by kernel_rfl) Try.func4 (by kernel_rfl)
    (of_decide_eq_true (by kernel_rfl)) (by unfold Func.isWrapper; first | (rw [if_pos (by decide +kernel)]; kernel_rfl) | (rw [if_neg (by decide +kernel)]; exact ⟨rfl, rfl⟩))
    (fun os started H enc _ => lifted os started H enc)
end Go.Proofs.Ytamldoidalnloaa.topConeMeasured
