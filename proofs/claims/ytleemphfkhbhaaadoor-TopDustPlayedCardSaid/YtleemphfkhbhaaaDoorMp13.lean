/- Part 13 of the texts of the claim: U3, U4, PlRow. -/
import Derived.Test.YtleemphfkhbhaaaDoorMp12
import Derived.Test.YtleemphfkhbhaaaDoorMp6

/- TopDustPlayed, where it plays. -/
namespace Go.Proofs.YtleemphfkhbhaaaDoor
open Go.RowKit
open Calm (bcell Blk)

set_option maxRecDepth 100000 in
set_option maxHeartbeats 16000000 in
theorem played_ok (lk ht rc : Int) (ts gs : List Int) (l : List Sec) (xs : List Int) (A1 A2 A3 A4 : Option Addr) (M L Q N c1 c2 c3 c4 : Nat) (w : World) (hM : M = ts.length) (hL : L = gs.length) (hQ : Q = l.length) (hN : N = xs.length) (hLim : Lim w) (hT : Cells w A1 ts) (hG : Cells w A2 gs) (hS : SCells w A3 l) (hX : Cells w A4 xs)
    (g0 : M ≤ 9 ∧ L ≤ 9) (g1 : guardErr lk ht rc ts gs = 0) (g2 : M ≤ 3) (g3 : rc ≤ 20000) (g4 : Q ≤ 3) (g5 : secsErr l = 0) (g6 : N ≤ 24) (g7 : ssigErr xs = 0) :
    Calls Tryd.prog 3 #[.agg #[(.int .i64 (lk)), (.int .i64 (ht)), .slice A1 M c1, (.int .i64 (rc)), .slice A2 L c2], .slice A3 Q c3, .slice A4 N c4] w fun r w' => r = .returned (.bool true) ∧ Below w.heap.size w w' := by
  have HAMP : Hid (∀ W, Lim W → Calls Tryd.prog 9 #[] W fun r w' => r = .returned (.bool true) ∧ Below W.heap.size W w') := Lib.hid dustAmp_any
  have HSH : Hid (∀ W, Calls Tryd.prog 5 #[.agg #[(.int .i64 (lk)), (.int .i64 (ht)), .slice A1 M c1, (.int .i64 (rc)), .slice A2 L c2]] W fun r w' => r = .returned (.bool true) ∧ Below W.heap.size W w') := Lib.hid (fun W => by
    have := pShort_any lk ht rc A1 A2 M L c1 c2 W
    rwa [decide_eq_true g0] at this)
  have HCG : Hid (∀ W, Cells W A1 ts → Cells W A2 gs → Calls Tryd.prog 6 #[.agg #[(.int .i64 (lk)), (.int .i64 (ht)), .slice A1 M c1, (.int .i64 (rc)), .slice A2 L c2]] W fun r w' => r = .returned (.int .i64 (0)) ∧ Below W.heap.size W w') := Lib.hid (fun W q1 q2 => by
    have := pGuard_any lk ht rc ts gs A1 A2 c1 c2 W q1 q2 (by omega) (by omega)
    rwa [← hM, ← hL, g1] at this)
  have HCS : Hid (∀ W, SCells W A3 l → Calls Tryd.prog 7 #[.slice A3 Q c3] W fun r w' => r = .returned (.int .i64 (0)) ∧ Below W.heap.size W w') := Lib.hid (fun W q1 => by
    have := tSections_any l A3 c3 W q1 (by omega)
    rwa [← hQ, g5] at this)
  have HSG : Hid (∀ W, Cells W A4 xs → Calls Tryd.prog 8 #[.slice A4 N c4] W fun r w' => r = .returned (.int .i64 (0)) ∧ W = w') := Lib.hid (fun W q1 => by
    have := tSignal_any xs A4 c4 W q1 (by omega)
    rwa [← hN, g7] at this)
  have hV := guard_valid g1
  obtain ⟨hn4, hxin⟩ := ssigErr_zero g7
  -- the signal behind the sections, its sixteenths, the outputs of the guard, the excursions
  obtain ⟨ms, hms⟩ : ∃ ms, ms = casc l xs l.length := ⟨_, rfl⟩
  have hml : ms.length = N := by rw [hms, casc_len xs _ (Nat.le_refl _), hN]
  have hmi : inB 32767 ms := by rw [hms]; exact casc_in hxin _ (Nat.le_refl _)
  obtain ⟨zs, hzs⟩ : ∃ zs, zs = q16 ms := ⟨_, rfl⟩
  have hzl : zs.length = N := by rw [hzs, q16, List.length_map, hml]
  have hzi : inB 2048 zs := by rw [hzs]; exact q16_in hmi
  obtain ⟨os, hos⟩ : ∃ os, os = outsK lk ht rc ts gs zs N := ⟨_, rfl⟩
  have hol : os.length = N := by rw [hos, outsK_len]
  have hoi : inB 2048 os := by rw [hos]; exact outs_in hV hzi N
  have hsafe : ∀ k, k < N → bhAt lk os (k + 1) ≤ ht ∧ absI (exAt ts os k) ≤ rc := fun k hk => by rw [hos]; exact outs_safe hV hzi hk
  obtain ⟨es, hes⟩ : ∃ es, es = (List.range N).map (exAt ts os) := ⟨_, rfl⟩
  have hel : es.length = N := by rw [hes]; simp
  obtain ⟨hs, hhs⟩ : ∃ hs, hs = halves os := ⟨_, rfl⟩
  have hhl : hs.length = N := by rw [hhs, halves, List.length_map, hol]
  have hhi : inB 2048 hs := by rw [hhs]; exact halves_in hoi
  have HCAS : Hid (∀ (B1 B2 : Option Addr) (d1 d2 : Nat) (W : World), SCells W B1 l → Cells W B2 xs → Calls Tryd.prog 10 #[.slice B1 Q d1, .slice B2 N d2] W fun r w' => (∃ B d, r = .returned (.tuple #[.slice B N d, (.int .i64 (0))]) ∧ (∀ p, B = some p → W.heap.size ≤ p.block ∧ Unf w' p.block) ∧ Cells w' B ms) ∧ Below W.heap.size W w') := Lib.hid (fun B1 B2 d1 d2 W q1 q2 => by
    have := Cascade_ok l xs B1 B2 d1 d2 W q1 q2 g5 g7
    rwa [← hN, ← hms, ← hQ] at this)
  have HDG : Hid (∀ W, Cells W A1 ts → Cells W A2 gs → Calls Tryd.prog 13 #[.agg #[(.int .i64 (lk)), (.int .i64 (ht)), .slice A1 M c1, (.int .i64 (rc)), .slice A2 L c2]] W fun r w' => (∃ B1 d1 B2 d2, r = .returned (.agg #[(.int .i64 (lk)), (.int .i64 (ht)), .slice B1 M d1, (.int .i64 (rc)), .slice B2 L d2]) ∧ Cells w' B1 ts ∧ Cells w' B2 gs) ∧ Below W.heap.size W w') := Lib.hid (fun W q1 q2 => dustGuard_any lk ht rc ts gs A1 A2 M L c1 c2 W hM hL q1 q2 (by omega) (by omega))
  have HRUN : Hid (∀ (B1 B2 B3 : Option Addr) (d1 d2 d3 : Nat) (W : World), Lim W → Cells W B1 ts → Cells W B2 gs → Cells W B3 zs → Calls Tryd.prog 12 #[.agg #[(.int .i64 (lk)), (.int .i64 (ht)), .slice B1 M d1, (.int .i64 (rc)), .slice B2 L d2], .slice B3 N d3] W fun r w' => (∃ B d, r = .returned (.tuple #[.slice B N d, (.int .i64 (0))]) ∧ Cells w' B os) ∧ Below W.heap.size W w') := Lib.hid (fun B1 B2 B3 d1 d2 d3 W q0 q1 q2 q3 => by
    have := run_ok lk ht rc ts gs zs B1 B2 B3 d1 d2 d3 W q0 hV q1 q2 q3 hzi (by omega) (by omega) (by omega) (run_noErr g1 hzi (by omega))
    rwa [hzl, ← hos, ← hM, ← hL] at this)
  have HPS : Hid (∀ (B : Option Addr) (d : Nat) (W : World), Cells W B os → Calls Tryd.prog 14 #[.slice B N d] W fun r w' => r = .returned (.int .i64 (0)) ∧ W = w') := Lib.hid (fun B d W q => by
    have := pSignal_any os B d W q (by omega)
    rwa [hol, sig_ok hoi (by omega)] at this)
  have HSR : Hid (∀ (B : Option Addr) (d : Nat) (W : World), Cells W B os → Calls Tryd.prog 15 #[.agg #[(.int .i64 (ts.getD 0 0)), (.int .i64 (ts.getD 1 0)), (.int .i64 (ts.getD 2 0)), (.int .i64 (0)), (.int .i64 (0)), (.int .i64 (0))], .slice B N d] W fun r w' => (∃ B d, r = .returned (.tuple #[.slice B N d, (.int .i64 (0))]) ∧ (∀ p, B = some p → W.heap.size ≤ p.block) ∧ Cells w' B es) ∧ Below W.heap.size W w') := Lib.hid (fun B d W q => by
    obtain ⟨k0, k1, k2, k3, k4, k5⟩ := secErr_zero (taps_ok hV.tb)
    have := Run_ok _ _ _ _ _ _ os B d W k0 k1 k2 k3 k4 k5 (inB_mono (by decide) hoi) (by omega) q (taps_ok hV.tb) (ssig_ok (inB_mono (by decide) hoi) (by omega))
    rwa [hol, soK_ex hV.tl.1 (by omega) (fun k hk => by have := (hsafe k hk).2; omega), ← hes] at this)
  have HPK : Hid (∀ (ys : List Int), inB 2048 ys → ys.length = N → ∀ (B1 B2 B3 : Option Addr) (d1 d2 d3 : Nat) (W : World), Cells W B1 ts → Cells W B2 gs → Cells W B3 ys → Calls Tryd.prog 16 #[.agg #[(.int .i64 (lk)), (.int .i64 (ht)), .slice B1 M d1, (.int .i64 (rc)), .slice B2 L d2], .slice B3 N d3] W fun r w' => r = .returned (.tuple #[.agg #[(.int .i64 (pkH lk ys N)), (.int .i64 (pkX ts ys N))], (.int .i64 (0))]) ∧ Below W.heap.size W w') := Lib.hid (fun ys hy hyl B1 B2 B3 d1 d2 d3 W q1 q2 q3 => by
    have := peaks_ok lk ht rc ts gs ys B1 B2 B3 d1 d2 d3 W hV q1 q2 q3 hy (by omega) (by omega) (by omega) (run_noErr g1 hy (by omega))
    rwa [hyl, ← hM, ← hL] at this)
  have HEB : Hid (∀ j, -20000 ≤ es.getD j 0 ∧ es.getD j 0 ≤ 20000) := Lib.hid (fun j => by
    rcases Nat.lt_or_ge j N with hj | hj
    · have e : es.getD j 0 = exAt ts os j := by rw [hes]; simp [List.getD_eq_getElem?_getD, hj]
      have := absI_le.1 (hsafe j hj).2
      rw [e]; omega
    · rw [List.getD_eq_getElem?_getD, List.getElem?_eq_none (by omega)]; simp)
  have HOB : Hid (∀ j, -2048 ≤ os.getD j 0 ∧ os.getD j 0 ≤ 2048) := Lib.hid (fun j => inB_get hoi (by omega) j)
  have HHT : Hid (∀ j, j < N → (hs.take (j + 1)).map (Value.int .i64) = (hs.take j).map (Value.int .i64) ++ [(.int .i64 (Int.tdiv (os.getD j 0) 2))]) := Lib.hid (fun j hj => by
    have h1 := halves_get os j
    rw [← hhs] at h1
    rw [List.take_succ_eq_append_getElem (by omega), List.map_append, ← h1, List.getD_eq_getElem?_getD, List.getElem?_eq_getElem (by omega)]
    rfl)
  have HF1 : Hid (mostK es N = pkX ts os N) := Lib.hid (by rw [hes]; exact most_ex ts os N N (Nat.le_refl _))
  have HF2 : Hid (pkX ts os N ≤ rc) := Lib.hid (pkX_le hV.rc.1 N (fun k hk => (hsafe k hk).2))
  have HF3 : Hid (pkH lk os N ≤ ht) := Lib.hid (pkH_le hV.ht.1 N (fun k hk => (hsafe k hk).1))
  have HF4 : Hid (pkH lk hs N ≤ pkH lk os N) := Lib.hid (by rw [hhs]; exact pk_half lk os N)
  have HPO : Hid (∀ (B1 B2 B3 : Option Addr) (d1 d2 d3 : Nat) (W : World), Cells W B1 ts → Cells W B2 gs → Cells W B3 os → Calls Tryd.prog 16 #[.agg #[(.int .i64 (lk)), (.int .i64 (ht)), .slice B1 M d1, (.int .i64 (rc)), .slice B2 L d2], .slice B3 N d3] W fun r w' => r = .returned (.tuple #[.agg #[(.int .i64 (pkH lk os N)), (.int .i64 (pkX ts os N))], (.int .i64 (0))]) ∧ Below W.heap.size W w') := Lib.hid (HPK.out os hoi hol)
  have HPH : Hid (∀ (B1 B2 B3 : Option Addr) (d1 d2 d3 : Nat) (W : World), Cells W B1 ts → Cells W B2 gs → Cells W B3 hs → Calls Tryd.prog 16 #[.agg #[(.int .i64 (lk)), (.int .i64 (ht)), .slice B1 M d1, (.int .i64 (rc)), .slice B2 L d2], .slice B3 N d3] W fun r w' => r = .returned (.tuple #[.agg #[(.int .i64 (pkH lk hs N)), (.int .i64 (pkX ts hs N))], (.int .i64 (0))]) ∧ Below W.heap.size W w') := Lib.hid (HPK.out hs hhi hhl)
  clear HPK
  obtain ⟨H1, hH1⟩ : ∃ H, H = pkH lk os N := ⟨_, rfl⟩
  obtain ⟨X1, hX1⟩ : ∃ H, H = pkX ts os N := ⟨_, rfl⟩
  obtain ⟨H2, hH2⟩ : ∃ H, H = pkH lk hs N := ⟨_, rfl⟩
  obtain ⟨X2, hX2⟩ : ∃ H, H = pkX ts hs N := ⟨_, rfl⟩
  rw [← hH1, ← hX1] at HPO
  rw [← hH2, ← hX2] at HPH
  rw [← hX1] at HF1 HF2
  rw [← hH1] at HF3 HF4
  rw [← hH2] at HF4
  have HT := Lib.hid hT
  have HG := Lib.hid hG
  have HS := Lib.hid hS
  have HX := Lib.hid hX
  have HL := Lib.hid hLim
  have j2 : ¬ (3 : Int) < (M : Int) := by omega
  have j3 : ¬ 20000 < rc := by omega
  have j4 : ¬ (3 : Int) < (Q : Int) := by omega
  have j6 : ¬ (24 : Int) < (N : Int) := by omega
  have HQ := Lib.hid hQ
  have HN := Lib.hid hN
  have HM := Lib.hid hM
  have HZS := Lib.hid hzs
  have HHS := Lib.hid hhs
  have HML := Lib.hid hml
  have HZL := Lib.hid hzl
  have HOL := Lib.hid hol
  have HEL := Lib.hid hel
  have HHL := Lib.hid hhl
  have HMI := Lib.hid hmi
  have HOI := Lib.hid hoi
  have HTB := Lib.hid hV.tb
  clear hM hL hQ hN hLim hT hG hS hX g0 g1 g3 g5 g7 hV hn4 hxin hms hml hmi hzs hzl hzi hos hol hoi hsafe hes hel hhs hhl hhi hH1 hX1 hH2 hX2
  go_enter Tryd.func3, Tryd.ntmps3
  go_wp2_with (first
    | (go_at_call 5; refine (HSH.out _).mono ?_; rintro r w1 ⟨rfl, hb1⟩; have HB1 := Lib.hid (show Below w.heap.size w w1 from Below.trans (by (repeat (first | (with_reducible exact Below.refl _ _) | ((with_reducible refine Below.setCell ?_ ?_ _); rotate_left 1; focus (first | (simp; done) | (simp; omega) | (simp at *; omega))) | ((with_reducible refine Below.alloc ?_ ?_ _); rotate_left 1; focus (first | (simp; done) | (simp; omega) | (simp at *; omega))) | (with_reducible refine Below.drew ?_) | ((with_reducible refine Calm.step (by assumption) ?_ ?_); rotate_left 1; focus (first | (simp; done) | (simp; omega) | (simp at *; omega)))))) (hb1.mono (by simp))); have hz1 : w.heap.size ≤ w1.heap.size := HB1.out.size; have K1 := Lib.hid (show Blk w1 w.heap.size #[(.int .i64 (lk)), (.int .i64 (ht)), .slice A1 M c1, (.int .i64 (rc)), .slice A2 L c2] from Blk.below (by (repeat (first | ((with_reducible refine Blk.at_ ?_); focus (first | rfl | (simp; done) | (simp; omega))) | (with_reducible refine Blk.alloc ?_ _) | (with_reducible refine Blk.below ?_ (by with_reducible assumption)) | (with_reducible refine Blk.drew ?_)))) hb1); obtain ⟨c00, c01, c02, c03, c04, l0, f0⟩ := K1.out.o5; clear hb1)
    | (go_at_call 6; refine (HCG.out _ (HT.out.below HB1.out) (HG.out.below HB1.out)).mono ?_; rintro r w2 ⟨rfl, hb2⟩; have HB2 := Lib.hid (HB1.out.trans (hb2.mono HB1.out.size)); have hz2 : w.heap.size ≤ w2.heap.size := HB2.out.size; clear c00 c01 c02 c03 c04 l0 f0; have K2 := Lib.hid (show Blk w2 w.heap.size #[(.int .i64 (lk)), (.int .i64 (ht)), .slice A1 M c1, (.int .i64 (rc)), .slice A2 L c2] from Blk.below K1.out hb2); obtain ⟨c00, c01, c02, c03, c04, l0, f0⟩ := K2.out.o5; clear hb2)
    | (go_at_call 7; refine (HCS.out _ (HS.out.below HB2.out)).mono ?_; rintro r w3 ⟨rfl, hb3⟩; have HB3 := Lib.hid (HB2.out.trans (hb3.mono HB2.out.size)); have K3 := Lib.hid (K2.out.below hb3); clear hb3)
    | (go_at_call 8; refine (HSG.out _ (HX.out.below HB3.out)).mono ?_; rintro r w4 ⟨rfl, rfl⟩))
  clear HSH HCG HCS HSG K1 K2 HB1 HB2 c00 c01 c02 c03 c04 l0 f0 j2 j3 j4 j6
  have hz3 : w.heap.size ≤ w3.heap.size := HB3.out.size
  obtain ⟨i6, hi6, sz0, sz1, sz2⟩ := info_parts Tryd.infoSec
  have HTK : Hid (∀ k, k < Q → flatS (l.take (k + 1)) = flatS (l.take k) ++ secC (l.getD k Sec0)) := Lib.hid (fun k hk => take_flatS (by rw [← HQ.out]; exact hk))
  have HTL : Hid (flatS (l.take Q) = flatS l) := Lib.hid (by rw [HQ.out, List.take_length])
  go_loopw [7, 71] (fun v i wr => ∃ k : Nat, k ≤ Q ∧ i = (.int .i64 ((k : Int))) ∧ wr.ownsRow w3.heap.size 34 6 v k (flatS (l.take k)) ∧ Below w3.heap.size w3 wr) (fun _ i _ => Q - (intOf i).toNat)
  case atStart => exact ⟨0, Nat.zero_le _, rfl, World.ownsRow_nil _ _ _ _, Below.refl _ _⟩
  case round =>
    obtain ⟨k, hk, rfl, hown, hB⟩ := hrel
    have HO := Lib.hid hown
    have hsz := hB.size
    clear hown
    by_cases hlt : k < Q
    · obtain ⟨b, o, rfl, l1, k1⟩ := HS.out (by rw [← HQ.out]; omega)
      obtain ⟨q0, q1, q2, q3, q4, q5⟩ := k1 k (by rw [← HQ.out]; exact hlt)
      have HBW := Lib.hid (HB3.out.trans (hB.mono hz3))
      have x0 := (HBW.out.cell (p := ⟨b, o + k * 6, none⟩) l1).trans q0
      have x1 := (HBW.out.cell (p := ⟨b, o + k * 6 + 1, none⟩) l1).trans q1
      have x2 := (HBW.out.cell (p := ⟨b, o + k * 6 + 2, none⟩) l1).trans q2
      have x3 := (HBW.out.cell (p := ⟨b, o + k * 6 + 3, none⟩) l1).trans q3
      have x4 := (HBW.out.cell (p := ⟨b, o + k * 6 + 4, none⟩) l1).trans q4
      have x5 := (HBW.out.cell (p := ⟨b, o + k * 6 + 5, none⟩) l1).trans q5
      have l1' : b < wr.heap.size := by omega
      have HTK1 := Lib.hid (HTK.out k hlt)
      obtain ⟨S, hS⟩ : ∃ S, S = l.getD k Sec0 := ⟨_, rfl⟩
      rw [← hS] at x0 x1 x2 x3 x4 x5 HTK1
      clear q0 q1 q2 q3 q4 q5 k1 hS
      go_wp2_with (at_builtin; refine wpList_append_own _ rfl _ _ 31 rfl w3.heap.size 34 i6 _ 6 48 Tryd.underlying31 hi6 sz0 sz1 sz2 rfl (by decide) _ _ _ rfl ((HO.out.alloc _).alloc _) ⟨wr.heap.size + 1, 0, none⟩ 1 1 [(.int .i64 (S.b0)), (.int .i64 (S.b1)), (.int .i64 (S.b2)), (.int .i64 (S.a1)), (.int .i64 (S.a2)), (.int .i64 (S.sh))] rfl rfl ?c1 ?c2 ?c3 ?c4 ?c5 ?_)
      case c1 =>
        intro j u hj
        match j, hj with
        | 0, hj => simp at hj; subst hj; simp [Addr.add]
        | 1, hj => simp at hj; subst hj; simp [Addr.add]
        | 2, hj => simp at hj; subst hj; simp [Addr.add]
        | 3, hj => simp at hj; subst hj; simp [Addr.add]
        | 4, hj => simp at hj; subst hj; simp [Addr.add]
        | 5, hj => simp at hj; subst hj; simp [Addr.add]
      case c2 => intro u hu; simp at hu; rcases hu with rfl | rfl | rfl | rfl | rfl | rfl <;> rfl
      case c3 => unfold maxLen; omega
      case c4 => omega
      case c5 => simp; omega
      intro v' w1' hown' hgrow _
      have hB' : Below w3.heap.size w3 w1' := ((hB.alloc hsz _).alloc (by simp; omega) _).grown hgrow (by simp; omega) (fun j hj => (HO.out.lt j hj).1)
      have HO' := Lib.hid hown'
      clear hgrow hown'
      go_wp2
      go_roundw
      case rel => exact ⟨k + 1, by omega, by go_num, by rw [HTK1.out]; exact HO'.out, hB'⟩
      case measure => simp [intOf]; omega
    · obtain rfl : k = Q := by omega
      have hown := HO.out
      rw [HTL.out] at hown
      obtain ⟨B, d, rfl, hfB, hSC⟩ := own_secs hown HQ.out
      have HSC := Lib.hid hSC
      have HB5 := Lib.hid (HB3.out.trans (hB.mono hz3))
      have KL := Lib.hid (K3.out.below hB)
      clear hown hSC hfB HO HTK HTL HS hB hi6 sz0 sz1 sz2
      have hz5 := HB5.out.size
      go_wp2_with (at_builtin; refine wpList_appI rfl _ _ rfl wr.heap.size N c4 A4 xs HN.out rfl rfl (by simp) (by omega) (HX.out.below (HB5.out.alloc hz5 _)) ?_)
      intro B5 d5 w5 hb5 hf5 hc5
      have hA := HB5.out.alloc hz5 (.cells #[] 3)
      have hA2 : Below wr.heap.size wr (wr.alloc (.cells #[] 3)) := (Below.refl _ _).alloc (Nat.le_refl _) _
      have HB6 := Lib.hid (hA.trans (hb5.mono (by omega)))
      have HSC5 := Lib.hid (HSC.out.below (hA2.trans (hb5.mono (by omega))))
      have KW5 := Lib.hid ((KL.out.alloc (.cells #[] 3)).upto hb5 (by have := KL.out.lt; omega))
      clear hA hA2 KL
      have HC5 := Lib.hid hc5
      have hz6 : w.heap.size ≤ w5.heap.size := HB6.out.size
      clear hb5 hf5 hc5 HSC HB5 HX
      go_wp2_with (go_at_call 10; refine (HCAS.out _ _ _ _ _ HSC5.out HC5.out).mono ?_; rintro r w6 ⟨⟨B6, d6, rfl, hf6, hc6⟩, hb6⟩; have HB56 := Lib.hid hb6; have HS56 := Lib.hid hb6.size; have HB6' := Lib.hid HB6.out; have HC6 := Lib.hid hc6; have HF6 := Lib.hid hf6; clear hf6 hc6 hb6)
      clear HCAS HSC5 HC5 HB6
      have hz7 : w5.heap.size ≤ w6.heap.size := HS56.out
      have HMG : Hid (∀ k, k < N → (mixK ms k).getD k 0 = ms.getD k 0) := Lib.hid (fun k hk => mixK_get (by rw [HML.out]; exact hk))
      have HMS : Hid (∀ k, k < N → (mixK ms k).set k (Int.tdiv (ms.getD k 0) 16) = mixK ms (k + 1)) := Lib.hid (fun k hk => mixK_set (by rw [HML.out]; exact hk))
      have HMK : Hid (∀ k, (mixK ms k).length = N) := Lib.hid (fun k => (mixK_len ms k).trans HML.out)
      have HMB : Hid (∀ k, -32767 ≤ ms.getD k 0 ∧ ms.getD k 0 ≤ 32767) := Lib.hid (fun k => inB_get HMI.out (by omega) k)
      go_loopw [99] (fun i wr => ∃ k : Nat, k ≤ N ∧ i = (.int .i64 ((k : Int))) ∧ Cells wr B6 (mixK ms k) ∧ (∀ p, B6 = some p → Unf wr p.block) ∧ Below w5.heap.size w5 wr) (fun i _ => N - (intOf i).toNat)
      case atStart => exact ⟨0, Nat.zero_le _, rfl, by rw [mixK_zero]; exact HC6.out, fun p e => (HF6.out p e).2, HB56.out⟩
      case round =>
        obtain ⟨k, hk, rfl, hcc, huu, hB⟩ := hrel
        have HCC := Lib.hid hcc
        have HUU := Lib.hid huu
        have hszr := hB.size
        clear hcc huu
        by_cases hlt : k < N
        · obtain ⟨b, o, rfl, l1, k1⟩ := HCC.out (by rw [HMK.out]; omega)
          have y0 := k1 k (by rw [HMK.out]; exact hlt)
          rw [HMG.out k hlt] at y0
          obtain ⟨_, yf⟩ := HUU.out _ rfl
          have HF := Lib.hid ((HF6.out _ rfl).1)
          have HMS1 := Lib.hid (HMS.out k hlt)
          have HMB1 := HMB.out k
          obtain ⟨y, hy⟩ : ∃ y, y = ms.getD k 0 := ⟨_, rfl⟩
          rw [← hy] at y0 HMS1 HMB1
          obtain ⟨m1, m2⟩ := HMB1
          have hr0 : rangeErr y (-32767) 32767 = 0 := rangeErr_in m1 m2
          have H0 := Lib.hid hr0
          clear k1 hy hr0
          go_wp2_with (go_at_call 11; refine (tInput_any _ _).mono ?_; rw [H0.out]; rintro r w' ⟨rfl, rfl⟩)
          go_roundw
          case rel =>
            refine ⟨k + 1, by omega, by go_num, ?_, ?_, ?_⟩
            · rw [← HMS1.out]
              exact HCC.out.setAt (by rw [HMK.out]; exact hlt) _
            · rintro p ⟨⟩
              exact ⟨by simpa using l1, fun i => by rw [World.frozen?_setCell]; exact yf i⟩
            · exact hB.setCell (by have := HF.out; simpa using this) _
          case measure => simp [intOf]; omega
        · obtain rfl : k = N := by omega
          have hq := HCC.out
          rw [mixK_all ms HML.out.symm, ← HZS.out] at hq
          have HCZ := Lib.hid hq
          have HB7 := Lib.hid (HB6'.out.trans (hB.mono hz6))
          have K7 := KW5.out.below hB
          obtain ⟨c00, c01, c02, c03, c04, l0, f0⟩ := K7.o5
          have HK7 := Lib.hid K7
          have hz8 : w.heap.size ≤ wr.heap.size := HB7.out.size
          clear hq HMG HMS HMK HMB HCC HUU HF6 HC6 KW5 K7 hB HB6' HB56 HS56
          go_wp2_with (first
            | (go_at_call 13; refine (HDG.out _ (HT.out.below HB7.out) (HG.out.below HB7.out)).mono ?_; rintro r w7 ⟨⟨B1, d1, B2, d2, rfl, hc1, hc2⟩, hb7⟩; have hz9 := hb7.size; have HD1 := Lib.hid hc1; have HD2 := Lib.hid hc2; have HB8 := Lib.hid (HB7.out.trans (hb7.mono hz8)); have HCZ7 := Lib.hid (HCZ.out.below hb7); have HK8 := Lib.hid (HK7.out.below hb7); clear hc1 hc2 hb7 c00 c01 c02 c03 c04 l0 f0)
            | (at_builtin; refine wpList_appI rfl _ _ rfl w7.heap.size k d6 B6 zs HZL.out.symm rfl rfl (by simp) (by omega) (HCZ7.out.below ((Below.refl _ _).alloc (Nat.le_refl _) _)) ?_))
          intro B8 d8 w8 hb8 hf8 hc8
          have hA2 : Below w7.heap.size w7 (w7.alloc (.cells #[] 3)) := (Below.refl _ _).alloc (Nat.le_refl _) _
          have hb78 : Below w7.heap.size w7 w8 := hA2.trans (hb8.mono (by omega))
          have hz10 := hb78.size
          have HB9 := Lib.hid (HB8.out.trans (hb78.mono (by omega)))
          have HD18 := Lib.hid (HD1.out.below hb78)
          have HD28 := Lib.hid (HD2.out.below hb78)
          have HC8 := Lib.hid hc8
          have HK9 := Lib.hid (HK8.out.below hb78)
          clear hb8 hf8 hc8 hA2 hb78 HD1 HD2 HCZ7 HCZ HK8 HK7 HB8
          go_wp2_with (first
            | (go_at_call 12; refine (HRUN.out _ _ _ _ _ _ _ (HL.out.below HB9.out) HD18.out HD28.out HC8.out).mono ?_; rintro r w9 ⟨⟨B9, d9, rfl, hc9⟩, hb9⟩; have hz11 := hb9.size; have HB10 := Lib.hid (HB9.out.trans (hb9.mono (by omega))); have HC9 := Lib.hid hc9; have HK10 := Lib.hid (HK9.out.below hb9); clear hc9 hb9)
            | (go_at_call 14; refine (HPS.out _ _ _ HC9.out).mono ?_; rintro r w' ⟨rfl, rfl⟩))
          clear HRUN HD18 HD28 HC8 HK9 HB9 HPS
          refine name_world ?_
          intro wa ea
          have hba : Below w9.heap.size w9 wa := by rw [ea]; exact (Below.refl _ _).alloc (Nat.le_refl _) _
          have HB11 := Lib.hid (HB10.out.trans (hba.mono (by omega)))
          have HK11 := Lib.hid (HK10.out.below hba)
          have HBA := Lib.hid hba
          have hl9 : w.heap.size < w9.heap.size := HK10.out.lt
          have HTA : Hid (wa.heap[w9.heap.size]? = some (.cells #[(.int .i64 (0)), (.int .i64 (0)), (.int .i64 (0))] 42 (0, 0))) := Lib.hid (by rw [ea]; exact heap_new rfl)
          have hza : w9.heap.size < wa.heap.size := by rw [ea]; simp
          obtain ⟨c00, c01, c02, c03, c04, l0, f0⟩ := HK11.out.o5
          have hsl := sl3 w9.heap.size
          clear ea hba HB10 HK10
          refine Calm.tail_below 3 (by kernel_rfl) (by kernel_rfl) ?_
          simp only [List.take_succ_cons, List.take_zero, List.drop_succ_cons, List.drop_zero]
          repeat (first | (apply Calm.op_move; (focus rfl); (focus (first | exact .inl rfl | exact .inr rfl)); (focus ((try simp only [Act.eval, Array.getD_eq_getD_getElem?, List.getElem?_toArray, List.getElem?_cons_succ, List.getElem?_cons_zero, Option.getD_some]); rfl)); (try simp only [Act.put, List.setIfInBounds_toArray, List.set_cons_zero, List.set_cons_succ])) | (apply Calm.op_not; (focus rfl); (try simp only [Act.put, List.setIfInBounds_toArray, List.set_cons_zero, List.set_cons_succ])) | (apply Calm.op; (focus rfl); (focus (intro W hb; obtain ⟨hc, hf⟩ := bcell hb; clear hb hf; go_simp; (try go_bits); (try rfl); done)); (try simp only [Act.put, List.setIfInBounds_toArray, List.set_cons_zero, List.set_cons_succ])))
          refine wpQuiet_nil ?_
          intro wb hbb
          obtain ⟨hbbc, hbbf⟩ := bcell hbb
          have hbbz := hbb.size
          (try simp at hbbz)
          (try have hbbz0 : w.heap.size < wb.heap.size := by omega)
          (try have hbbz1 : w.heap.size + 1 < wb.heap.size := by omega)
          (try have hbbz2 : w.heap.size + 1 + 1 < wb.heap.size := by omega)
          (try have hbbz3 : w.heap.size + 1 + 1 + 1 < wb.heap.size := by omega)
          (try have hbbz4 : w.heap.size + 1 + 1 + 1 + 1 < wb.heap.size := by omega)
          (try have hbbz5 : w.heap.size + 1 + 1 + 1 + 1 + 1 < wb.heap.size := by omega)
          have HB12 := Lib.hid (HB11.out.trans (hbb.mono (by omega)))
          have HK12 := Lib.hid (HK11.out.below hbb)
          have HBB := Lib.hid (HBA.out.trans (hbb.mono (by omega)))
          have HTB2 := Lib.hid ((hbb.block _ hza).trans HTA.out)
          have hzb : w9.heap.size < wb.heap.size := Nat.lt_of_lt_of_le hza hbb.size
          have hzb2 : w.heap.size ≤ wb.heap.size := HB12.out.size
          clear hbb hbbc hbbf c00 c01 c02 c03 c04 l0 f0 hsl HB11 HK11 HBA HTA
          have hCT := HT.out.below HB12.out
          have hcp := run_copyI (P := Tryd.prog) wb 22 22 3 3 w9.heap.size A1 ts 3 3 c1 #[(.int .i64 (0)), (.int .i64 (0)), (.int .i64 (0))] 42 Tryd.underlying22 (by kernel_rfl) (by rw [← HM.out]; exact g2) HTB2.out rfl hCT
          rw [taps_row (by rw [← HM.out]; exact g2), ← HM.out] at hcp
          obtain ⟨wc, hwc⟩ : ∃ wc, wc = wb.setRow w9.heap.size #[(.int .i64 (ts.getD 0 0)), (.int .i64 (ts.getD 1 0)), (.int .i64 (ts.getD 2 0))] := ⟨_, rfl⟩
          rw [← hwc] at hcp
          have hzc : wc.heap.size = wb.heap.size := by rw [hwc]; simp [World.setRow]
          have HBc := Lib.hid (show Below w9.heap.size wb wc by rw [hwc]; exact below_setRow (Below.refl _ _) (Nat.le_refl _) _)
          have HB13 := Lib.hid (HB12.out.trans (HBc.out.mono (by omega)))
          have HTP := Lib.hid (show Blk wc w9.heap.size #[(.int .i64 (ts.getD 0 0)), (.int .i64 (ts.getD 1 0)), (.int .i64 (ts.getD 2 0))] by rw [hwc]; exact Calm.Blk.row (setRow_heap _ _ _ _ _ _ HTB2.out))
          have HK13 := Lib.hid (HK12.out.of_block (HBc.out.block _ (by omega)))
          have HCc := Lib.hid (HC9.out.below (HBB.out.trans HBc.out))
          clear hCT hwc HTB2 HK12 HB12 HC9 HBB HBc
          go_wp2
          obtain ⟨t0, t1, t2, tl, tf⟩ := HTP.out.o3
          obtain ⟨i1, hi1, jz0, jz1, jz2⟩ := info_parts Tryd.infoI
          refine Rel.region3 15 (by kernel_rfl) (by kernel_rfl) (by kernel_rfl) ?_
          simp only [List.take_succ_cons, List.take_zero, List.drop_succ_cons, List.drop_zero, List.filterMap_cons, List.filterMap_nil]
          iterate 7 (apply Rel.op3; (focus (first | exact Rel.gno rfl | exact Rel.gyes _ true _ rfl rfl rfl | exact Rel.gyes _ false _ rfl rfl rfl)); (focus (intro a W hb hd hbase; obtain ⟨hc, hf⟩ := bcell hb; clear hb hf; simp [Rel.deps, Rel.dep1, Rel.ons, Region.binds, Act.eval] at hd; simp only [Act.eval, List.mem_cons, List.not_mem_nil, not_or, and_imp, or_false, Array.getD_eq_getD_getElem?] at hbase; go_simp; (try go_bits); (try rfl); done)); (try simp only [List.nil_append, List.cons_append]))
          (apply Rel.empty3 3 1; (focus (first | exact Rel.gno rfl | exact Rel.gyes _ true _ rfl rfl rfl | exact Rel.gyes _ false _ rfl rfl rfl)); (focus (intro a W; go_simp; (first | done | rfl | (refine ⟨?_, ?_⟩ <;> rfl)))); (try simp only [List.nil_append, List.cons_append]))
          iterate 1 (apply Rel.op3; (focus (first | exact Rel.gno rfl | exact Rel.gyes _ true _ rfl rfl rfl | exact Rel.gyes _ false _ rfl rfl rfl)); (focus (intro a W hb hd hbase; obtain ⟨hc, hf⟩ := bcell hb; clear hb hf; simp [Rel.deps, Rel.dep1, Rel.ons, Region.binds, Act.eval] at hd; simp only [Act.eval, List.mem_cons, List.not_mem_nil, not_or, and_imp, or_false, Array.getD_eq_getD_getElem?] at hbase; go_simp; (try go_bits); (try rfl); done)); (try simp only [List.nil_append, List.cons_append]))
          refine Rel.app3 (.tmp 148) (.tmp 149) 22 rfl 3 i1 _ 1 8 Tryd.underlying22 hi1 jz0 jz1 jz2 rfl (by decide) k (os.map fun z => (.int .i64 (z))) (by rw [List.length_map, HOL.out, Nat.mul_one]) (by intro u hu; obtain ⟨z, _, rfl⟩ := List.mem_map.1 hu; rfl) (by unfold maxLen; omega) (by omega) (Rel.gno rfl) ?_ ?_
          · intro a W hb hd hbase
            simp [Rel.deps, Rel.dep1, Rel.ons, Region.binds] at hd
            obtain ⟨hs, hx⟩ := hd
            exact ⟨⟨_, rfl, by simpa using hs⟩, _, _, hx, cells_at (HCc.out.below hb) k HOL.out.symm⟩
          (try simp only [List.nil_append, List.cons_append])
          refine Rel.callR3 (RunT k es) (RunT.stable k es) (Rel.gno rfl) ?_ ?_
          · intro a W hb hd hbase
            simp [Rel.deps, Rel.dep1, Rel.ons, Region.binds, Act.eval] at hd
            obtain ⟨h0, ho⟩ := hd
            obtain ⟨B, e, h1, _, h3⟩ := own_ints ho HOL.out.symm
            refine ⟨15, #[.agg #[(.int .i64 (ts.getD 0 0)), (.int .i64 (ts.getD 1 0)), (.int .i64 (ts.getD 2 0)), (.int .i64 (0)), (.int .i64 (0)), (.int .i64 (0))], .slice B k e], ?_, (HSR.out B e W h3).mono (fun e' W' ⟨⟨B', e1, h4, _, h5⟩, hb5⟩ => ⟨_, h4, ⟨B', e1, rfl, h5⟩, hb5⟩)⟩
            go_simp
            (first | done | rfl | (refine ⟨?_, ?_⟩ <;> rfl))
          (try simp only [List.nil_append, List.cons_append])
          refine Rel.opR3 (RunT k es) (RunT.stable k es) (Rel.gno rfl) ?_ ?_
          · intro a W hb hd hbase
            simp [Rel.deps, Rel.dep1, Rel.ons, Region.binds, Act.eval] at hd
            obtain ⟨B, e, h1, hr⟩ := hd
            refine ⟨.tuple #[.slice B k e, (.int .i64 (0))], ?_, ⟨_, _, rfl, hr⟩⟩
            go_simp
            (first | done | rfl | (refine ⟨?_, ?_⟩ <;> rfl))
          (try simp only [List.nil_append, List.cons_append])
          refine Rel.opR3 (RunS k es) (RunS.stable k es) (Rel.gno rfl) ?_ ?_
          · intro a W hb hd hbase
            simp [Rel.deps, Rel.dep1, Rel.ons, Region.binds, Act.eval] at hd
            obtain ⟨B, e, h1, hr⟩ := hd
            refine ⟨.slice B k e, ?_, ⟨_, _, rfl, hr⟩⟩
            go_simp
            (first | done | rfl | (refine ⟨?_, ?_⟩ <;> rfl))
          (try simp only [List.nil_append, List.cons_append])
          refine Rel.opR3 (fun u _ => u = (.int .i64 (0))) (Rel.stable_eq _) (Rel.gno rfl) ?_ ?_
          · intro a W hb hd hbase
            simp [Rel.deps, Rel.dep1, Rel.ons, Region.binds, Act.eval] at hd
            obtain ⟨B, e, h1, hr⟩ := hd
            refine ⟨(.int .i64 (0)), ?_, rfl⟩
            go_simp
            (first | done | rfl | (refine ⟨?_, ?_⟩ <;> rfl))
          (try simp only [List.nil_append, List.cons_append])
          refine Rel.opR3 (RunS k es) (RunS.stable k es) (Rel.gno rfl) ?_ ?_
          · intro a W hb hd hbase
            simp [Rel.deps, Rel.dep1, Rel.ons, Region.binds, Act.eval] at hd
            obtain ⟨⟨B, e, h1, hr⟩, _⟩ := hd
            refine ⟨.slice B k e, ?_, ⟨_, _, rfl, hr⟩⟩
            go_simp
            (first | done | rfl | (refine ⟨?_, ?_⟩ <;> rfl))
          (try simp only [List.nil_append, List.cons_append])
          refine Rel.done3 ?_
          intro xx wd hd hx
          simp only [Rel.facts, Nat.zero_add, Nat.reduceAdd] at hx
          obtain ⟨e0, e1, e2, e3, e4, e5, e6, _, e8, _, _, _, _, e13, ⟨Be, ee, e14, hce⟩, _⟩ := hx
          simp only [Rel.fill, Nat.zero_add, Nat.reduceAdd, e0, e1, e2, e3, e4, e5, e6, e8, e13, e14]
          simp only [Act.put, List.setIfInBounds_toArray, List.set_cons_zero, List.set_cons_succ]
          have HB14 := Lib.hid (HB13.out.trans (hd.mono HB13.out.size))
          have HK14 := Lib.hid (HK13.out.below hd)
          have HC14 := Lib.hid (HCc.out.below hd)
          have HE14 := Lib.hid hce
          have hz14 : w.heap.size ≤ wd.heap.size := HB14.out.size
          obtain ⟨c00, c01, c02, c03, c04, l0, f0⟩ := HK14.out.o5
          clear hd hce e0 e1 e2 e3 e4 e5 e6 e8 e13 e14 HB13 HK13 HCc HTP t0 t1 t2 tl tf hcp hi1 jz0 jz1 jz2
          go_wp2_with (first
            | (go_at_call 13; refine (HDG.out _ (HT.out.below HB14.out) (HG.out.below HB14.out)).mono ?_; rintro r we ⟨⟨B1, d1, B2, d2, rfl, hc1, hc2⟩, hbe⟩; have hz15 := hbe.size; have HD1 := Lib.hid hc1; have HD2 := Lib.hid hc2; have HB15 := Lib.hid (HB14.out.trans (hbe.mono hz14)); have HC15 := Lib.hid (HC14.out.below hbe); have HE15 := Lib.hid (HE14.out.below hbe); have HK15 := Lib.hid (HK14.out.below hbe); clear hc1 hc2 hbe c00 c01 c02 c03 c04 l0 f0)
            | (at_builtin; refine wpList_appI rfl _ _ rfl we.heap.size k d9 B9 os HOL.out.symm rfl rfl (by simp) (by omega) (HC15.out.below ((Below.refl _ _).alloc (Nat.le_refl _) _)) ?_))
          intro B16 d16 wf hbf hff hcf
          have hA2 : Below we.heap.size we (we.alloc (.cells #[] 3)) := (Below.refl _ _).alloc (Nat.le_refl _) _
          have hbef : Below we.heap.size we wf := hA2.trans (hbf.mono (by omega))
          have hz16 := hbef.size
          have HB16 := Lib.hid (HB15.out.trans (hbef.mono (by omega)))
          have HD16 := Lib.hid (HD1.out.below hbef)
          have HD26 := Lib.hid (HD2.out.below hbef)
          have HO16 := Lib.hid hcf
          have HC16 := Lib.hid (HC15.out.below hbef)
          have HE16 := Lib.hid (HE15.out.below hbef)
          have HK16 := Lib.hid (HK15.out.below hbef)
          clear hbf hff hcf hA2 hbef HD1 HD2 HC15 HE15 HK15 HB15 HB14 HC14 HE14 HK14
          go_wp2_with (go_at_call 16; refine (HPO.out _ _ _ _ _ _ _ HD16.out HD26.out HO16.out).mono ?_; rintro r wg ⟨rfl, hbg⟩; have hz17 := hbg.size; have HB17 := Lib.hid (HB16.out.trans (hbg.mono (by omega))); have HC17 := Lib.hid (HC16.out.below hbg); have HE17 := Lib.hid (HE16.out.below hbg); have HK17 := Lib.hid (HK16.out.below hbg); clear hbg HD16 HD26 HO16)
          clear HC16 HE16 HK16 HB16 HPO
          have hmax := max3_any
          go_loop [21, 178] (fun v i => ∃ j : Nat, j ≤ k ∧ i = (.int .i64 ((j : Nat))) ∧ v = (.int .i64 (mostK es j)) ∧ (-20000 ≤ mostK es j ∧ mostK es j ≤ 20000)) (fun _ i => k - (intOf i).toNat)
          case atStart => exact ⟨0, Nat.zero_le _, rfl, rfl, by simp [mostK]⟩
          case round =>
            obtain ⟨j, hj, rfl, rfl, hmb⟩ := hrel
            by_cases hlt : j < k
            · obtain ⟨b, o, rfl, l1, k1⟩ := HE17.out (by rw [HEL.out]; omega)
              have y0 := k1 j (by rw [HEL.out]; exact hlt)
              obtain ⟨m1, m2⟩ := HEB.out j
              have hs1 : mostK es (j + 1) = mx (mx (mostK es j) (es.getD j 0)) (-(es.getD j 0)) := rfl
              obtain ⟨m3, m4⟩ := hmb
              obtain ⟨y, hy⟩ : ∃ y, y = es.getD j 0 := ⟨_, rfl⟩
              obtain ⟨z, hz⟩ : ∃ z, z = mostK es j := ⟨_, rfl⟩
              rw [← hy] at y0 m1 m2 hs1
              rw [← hz] at m3 m4 hs1 ⊢
              have HS1 := Lib.hid hs1
              have HMB : Hid (-20000 ≤ mostK es (j + 1) ∧ mostK es (j + 1) ≤ 20000) := Lib.hid (by rw [hs1, mx_eq, mx_eq]; omega)
              clear k1 hy hz hs1
              go_wp2
              exact ⟨⟨j + 1, by omega, by go_num, by rw [HS1.out], HMB.out⟩, by simp [intOf]; omega⟩
            · obtain rfl : j = k := by omega
              have hX : mostK es j = X1 := HF1.out
              rw [hX]
              clear hX hmb hmax
              go_wp2
              refine name_world ?_
              intro wh eh
              have hbh : Below wg.heap.size wg wh := by rw [eh]; exact (Below.refl _ _).alloc (Nat.le_refl _) _
              have HBh := Lib.hid (HB17.out.trans (hbh.mono (by omega)))
              have HCh := Lib.hid (HC17.out.below hbh)
              have HKh := Lib.hid (HK17.out.below hbh)
              have HPh := Lib.hid (show Blk wh wg.heap.size #[(.int .i64 (H1)), (.int .i64 (X1))] by rw [eh]; exact Blk.new _ _ _)
              have hzh : w.heap.size ≤ wh.heap.size := HBh.out.size
              have hzg : wg.heap.size < wh.heap.size := HPh.out.lt
              obtain ⟨i1, hi1, jz0, jz1, jz2⟩ := info_parts Tryd.infoI
              clear eh hbh HB17 HC17 HK17 HE17
              go_loopw [24, 190] (fun v i wr => ∃ n : Nat, n ≤ j ∧ i = (.int .i64 ((n : Int))) ∧ wr.ownsRow wh.heap.size 3 1 v n ((hs.take n).map (Value.int .i64)) ∧ Below wh.heap.size wh wr) (fun _ i _ => j - (intOf i).toNat)
              case atStart => exact ⟨0, Nat.zero_le _, rfl, World.ownsRow_nil _ _ _ _, Below.refl _ _⟩
              case round =>
                obtain ⟨n, hn, rfl, hown, hB⟩ := hrel
                have HO := Lib.hid hown
                have hsz := hB.size
                clear hown
                by_cases hlt : n < j
                · obtain ⟨b, o, rfl, l1, k1⟩ := HCh.out (by rw [HOL.out]; omega)
                  have y0 := (hB.cell (p := ⟨b, o + n, none⟩) l1).trans (k1 n (by rw [HOL.out]; exact hlt))
                  have l2 : b < wr.heap.size := by omega
                  have HH1 := Lib.hid (HHT.out n hlt)
                  obtain ⟨m1, m2⟩ := HOB.out n
                  obtain ⟨y, hy⟩ : ∃ y, y = os.getD n 0 := ⟨_, rfl⟩
                  rw [← hy] at y0 HH1 m1 m2
                  clear k1 hy
                  go_wp2_with (at_builtin; refine wpList_append_own _ rfl _ _ 22 rfl wh.heap.size 3 i1 _ 1 8 Tryd.underlying22 hi1 jz0 jz1 jz2 rfl (by decide) _ _ _ rfl (HO.out.alloc _) ⟨wr.heap.size, 0, none⟩ 1 1 [(.int .i64 (Int.tdiv y 2))] rfl rfl ?c1 ?c2 ?c3 ?c4 ?c5 ?_)
                  case c1 =>
                    intro j u hj
                    match j, hj with
                    | 0, hj => simp at hj; subst hj; simp [Addr.add]
                  case c2 => intro u hu; simp at hu; subst hu; rfl
                  case c3 => unfold maxLen; omega
                  case c4 => omega
                  case c5 => simp; omega
                  intro v' w1' hown' hgrow _
                  have hB' : Below wh.heap.size wh w1' := (hB.alloc hsz _).grown hgrow (by simp; omega) (fun j hj => (HO.out.lt j hj).1)
                  have HO' := Lib.hid hown'
                  clear hgrow hown'
                  go_wp2
                  go_roundw
                  case rel => exact ⟨n + 1, by omega, by go_num, by rw [HH1.out, List.map_take]; exact HO'.out, hB'⟩
                  case measure => simp [intOf]; omega
                · obtain rfl : n = j := by omega
                  have hown := HO.out
                  rw [show hs.take n = hs by rw [← HHL.out, List.take_length]] at hown
                  obtain ⟨B20, d20, rfl, _, hc20⟩ := own_ints hown HHL.out.symm
                  have HC20 := Lib.hid hc20
                  have HB20 := Lib.hid (HBh.out.trans (hB.mono hzh))
                  have HK20 := Lib.hid (HKh.out.below hB)
                  have HP20 := Lib.hid (HPh.out.below hB)
                  have hz20 : w.heap.size ≤ wr.heap.size := HB20.out.size
                  obtain ⟨c00, c01, c02, c03, c04, l0, f0⟩ := HK20.out.o5
                  clear hown hc20 hB HO HBh HCh HKh HPh hi1 jz0 jz1 jz2
                  go_wp2_with (first
                    | (go_at_call 13; refine (HDG.out _ (HT.out.below HB20.out) (HG.out.below HB20.out)).mono ?_; rintro r wj ⟨⟨B1, d1, B2, d2, rfl, hc1, hc2⟩, hbj⟩; have hz21 := hbj.size; have HD1 := Lib.hid hc1; have HD2 := Lib.hid hc2; have HB21 := Lib.hid (HB20.out.trans (hbj.mono hz20)); have HC21 := Lib.hid (HC20.out.below hbj); have HP21 := Lib.hid (HP20.out.below hbj); have HK21 := Lib.hid (HK20.out.below hbj); clear hc1 hc2 hbj c00 c01 c02 c03 c04 l0 f0)
                    | (go_at_call 16; refine (HPH.out _ _ _ _ _ _ _ HD1.out HD2.out HC21.out).mono ?_; rintro r wk ⟨rfl, hbk⟩; have hz22 := hbk.size; have HB22 := Lib.hid (HB21.out.trans (hbk.mono (by omega))); have HP22 := Lib.hid (HP21.out.below hbk); have HK22 := Lib.hid (HK21.out.below hbk); clear hbk; have f2 := HF2.out; have f3 := HF3.out; have f4 := HF4.out; obtain ⟨c00, c01, c02, c03, c04, l0, f0⟩ := HK22.out.o5; obtain ⟨p0, p1, pl, pf⟩ := HP22.out.o2)
                    | (go_at_call 9; refine (HAMP.out _ (HL.out.below (HB22.out.alloc (by omega) _))).mono ?_; rintro r wl ⟨rfl, hbl⟩; have HB23 := Lib.hid ((HB22.out.alloc (by omega) (.cells #[(.int .i64 (H2)), (.int .i64 (X2))] 45)).trans (hbl.mono (by simp; omega)))))
                  go_ret
                  exact ⟨rfl, HB23.out⟩
end Go.Proofs.YtleemphfkhbhaaaDoor

/- TopDustPlayed: whatever the arguments. -/
namespace Go.Proofs.YtleemphfkhbhaaaDoor
open Go.RowKit

theorem TopDustPlayed_any (lk ht rc : Int) (ts gs : List Int) (l : List Sec) (xs : List Int) (A1 A2 A3 A4 : Option Addr) (M L Q N c1 c2 c3 c4 : Nat) (w : World) (hM : M = ts.length) (hL : L = gs.length) (hQ : Q = l.length) (hN : N = xs.length) (hLim : Lim w) (hT : Cells w A1 ts) (hG : Cells w A2 gs) (hS : SCells w A3 l) (hX : Cells w A4 xs) :
    Calls Tryd.prog 3 #[.agg #[(.int .i64 (lk)), (.int .i64 (ht)), .slice A1 M c1, (.int .i64 (rc)), .slice A2 L c2], .slice A3 Q c3, .slice A4 N c4] w fun r w' => r = .returned (.bool true) ∧ Below w.heap.size w w' := by
  by_cases g0 : M ≤ 9 ∧ L ≤ 9
  · by_cases g1 : guardErr lk ht rc ts gs = 0
    · by_cases g2 : M ≤ 3
      · by_cases g3 : rc ≤ 20000
        · by_cases g4 : Q ≤ 3
          · by_cases g5 : secsErr l = 0
            · by_cases g6 : N ≤ 24
              · by_cases g7 : ssigErr xs = 0
                · exact played_ok lk ht rc ts gs l xs A1 A2 A3 A4 M L Q N c1 c2 c3 c4 w hM hL hQ hN hLim hT hG hS hX g0 g1 g2 g3 g4 g5 g6 g7
                · exact played_7 lk ht rc ts gs l xs A1 A2 A3 A4 M L Q N c1 c2 c3 c4 w hM hL hQ hN hLim hT hG hS hX g0 g1 g2 g3 g4 g5 g6 g7
              · exact played_6 lk ht rc ts gs l xs A1 A2 A3 A4 M L Q N c1 c2 c3 c4 w hM hL hQ hN hLim hT hG hS hX g0 g1 g2 g3 g4 g5 (by omega)
            · exact played_5 lk ht rc ts gs l xs A1 A2 A3 A4 M L Q N c1 c2 c3 c4 w hM hL hQ hN hLim hT hG hS hX g0 g1 g2 g3 g4 g5
          · exact played_4 lk ht rc ts gs l xs A1 A2 A3 A4 M L Q N c1 c2 c3 c4 w hM hL hQ hN hLim hT hG hS hX g0 g1 g2 g3 (by omega)
        · exact played_3 lk ht rc ts gs l xs A1 A2 A3 A4 M L Q N c1 c2 c3 c4 w hM hL hQ hN hLim hT hG hS hX g0 g1 g2 (by omega)
      · exact played_2 lk ht rc ts gs l xs A1 A2 A3 A4 M L Q N c1 c2 c3 c4 w hM hL hQ hN hLim hT hG hS hX g0 g1 (by omega)
    · exact played_1 lk ht rc ts gs l xs A1 A2 A3 A4 M L Q N c1 c2 c3 c4 w hM hL hQ hN hLim hT hG hS hX g0 g1
  · exact played_0 lk ht rc ts gs l xs A1 A2 A3 A4 M L Q N c1 c2 c3 c4 w hM hL hQ hN hLim hT hG hS hX g0
end Go.Proofs.YtleemphfkhbhaaaDoor

/- TopDustPlayed: the row and its card. -/
namespace Go.Proofs.YtleemphfkhbhaaaDoor.topDustPlayed
open Go.ChangeShapes Go.WideShapes Go.ChangeAt Go.RowKit Go.Flat
open Calm (bcell)

set_option maxRecDepth 100000 in
theorem contract (H : Type) (enc : TypeId × Value → H) (W : World) (base : Nat) (args : Array Value) (ds gs : List (DataW H)) (before : List MemPlace)
    (hval : ∀ (j : Nat) t v, Tryd.f3.params[j]? = some t → args[j]? = some v → Value.okWide Tryd.prog W .any base t v)
    (hW : DataW.Whole enc Tryd.prog Tryd.f3.params.toList Rows.topDustPlayedSpec.vars false W args.toList ds gs before) (hL : laidMetH Tryd.prog laidList W) :
    Calls Tryd.prog 3 args W fun e W' => ∃ v, e = .returned v ∧ Rows.topDustPlayedSpec.post enc Tryd.prog Tryd.f3 false true false false W args v W' := by
  have hW' := hW
  have hlt : ∀ p ∈ before, p.block < W.heap.size := fun p hp => hW.lt p hp
  obtain ⟨p, q, hA0, hV, rfl, hfz, hnd⟩ := hW
  have hA : DataW.TrodAll enc Tryd.prog W 0 (fun _ => true) true Tryd.f3.params.toList args.toList ds p := hA0
  rw [Tryd.params3] at hA hval
  obtain ⟨v0, v1, v2, d0, d1, d2, p0, p1, p2, rfl, rfl, rfl, h0, h1, h2⟩ := trodAll_three hA
  obtain ⟨rfl, rfl⟩ := trodVars_none hV
  obtain ⟨lk, ht, rc, A1, A2, c1, c2, ts, qs, rfl, k1, k2⟩ := open_guard (hval 0 _ _ rfl rfl) h0
  obtain ⟨A3, c3, l, rfl, k3⟩ := open_secs (hval 1 _ _ rfl rfl) h1
  obtain ⟨A4, c4, xs, rfl, _, _, k4⟩ := open_islice (hval 2 _ _ rfl rfl) h2
  refine (TopDustPlayed_any lk ht rc ts qs l xs A1 A2 A3 A4 _ _ _ _ c1 c2 c3 c4 W rfl rfl rfl rfl (lim_of_laid hL) k1 k2 k3 k4).mono fun e W' ⟨he, hb⟩ => ?_
  subst he
  refine ⟨_, rfl, post_of_below (pa := p0 ++ p1 ++ p2) (pv := []) hW' (fun _ _ _ => trodAll_cons_mk (shut_bool Tryd.underlying4 _) trodAll_mk0) (fun sp hs => ?_) (fun _ _ => rfl) rfl hb (ok_one (by kernel_rfl) rfl (okWide_bool_mk Tryd.underlying4 _))⟩
  exact trodAll_below laidOut hb (by rw [Tryd.params3]; exact of_decide_eq_true (by kernel_rfl)) hA0 (fun x hx => hlt x (List.mem_append_left _ hx)) (fun x hx => hs x (List.mem_append_left _ hx))

/-- the witness: nothing. -/
noncomputable def wit : Array Value := #[.agg #[(.int .i64 (0)), (.int .i64 (0)), .slice none 0 0, (.int .i64 (0)), .slice none 0 0], .slice none 0 0, .slice none 0 0]
theorem reads (os : Os) {H : Type} (enc : TypeId × Value → H) : ∃ ds places, DataW.whole enc Tryd.prog ((World.doorLaid Tryd.prog 35 os).forCall (fun _ _ => 0) ⟨#[], wit, []⟩).memory Tryd.f3.params.toList Rows.topDustPlayedSpec.vars false wit.toList 8 = some (ds, [], places) :=
  ⟨[.agg [.lit (.int .i64 0), .lit (.int .i64 0), .nil, .lit (.int .i64 0), .nil], .nil, .nil], [], by kernel_rfl⟩

set_option maxRecDepth 100000 in
theorem lifted (os : Os) (started : os.Started) (H : Type) (enc : TypeId × Value → H) (F : Stop.Interp) :
    ReturnsInHanded {} Tryd.checked os 3 .any ((OpenSpec.ofChange Rows.topDustPlayedSpec).preRow enc Tryd.prog Tryd.f3 Rows.topDustPlayedRow.domain false Rows.topDustPlayedRow.laid) (((OpenSpec.ofChange Rows.topDustPlayedSpec).at F).post enc Tryd.prog Tryd.f3 false true false false) := by
  obtain ⟨ds, places, hx⟩ := reads os enc
  refine returnsInHanded_of_row (C := Tryd.checked) (s := OpenSpec.ofChange Rows.topDustPlayedSpec) own started (by kernel_rfl) Tryd.func3
    (witness_row_at (enc := enc) (C := Tryd.checked) false (World.doorLaid Tryd.prog 35 os) wit rfl (door_vars os _) (door_rest os _) (by kernel_rfl)
      (OpenSpec.preRow_of_cond 8 hx (by kernel_rfl) (fun k hk => by cases hk) (by kernel_rfl) (laid_met os _))) ?_
  intro W base args ds gs before hval hW _ _ _ hL _ _
  exact contract H enc W base args ds gs before hval hW hL

theorem said : Rows.TopDustPlayedSaid :=
  OpenClaim.holds_of_cond 3 Tryd.f3 rfl rfl rfl rfl rfl rfl rfl ⟨rfl, rfl, rfl, rfl, rfl⟩ rfl rfl rfl rfl rfl (by kernel_rfl) Tryd.func3 (by kernel_rfl)
    (of_decide_eq_true (by kernel_rfl)) (by unfold Func.isWrapper; first | (rw [if_pos (by decide +kernel)]; kernel_rfl) | (rw [if_neg (by decide +kernel)]; exact ⟨rfl, rfl⟩))
    (fun os started H enc _ F => by rw [OpenClaim.pre_eq_preRow]; exact lifted os started H enc F)

theorem plain (f : FuncId) (fn : Func) (hf : Tryd.pinned.checked.prog.funcNamed "woofer/woofertop.TopDustPlayed" = some f) (hfn : Tryd.pinned.checked.prog.funcs[f]? = some fn) :
    false = Tryd.pinned.checked.prog.looks [] ∧ ∀ (j : Nat) t, fn.params[j]? = some t → Tryd.pinned.checked.prog.wantsStandIn t = false := by
  obtain rfl : f = 3 := Option.some.inj ((show Tryd.prog.funcNamed "woofer/woofertop.TopDustPlayed" = some 3 by kernel_rfl).symm.trans hf) |>.symm
  obtain rfl : fn = Tryd.f3 := (Option.some.inj (Tryd.func3.symm.trans hfn)).symm
  refine ⟨by kernel_rfl, fun j t ht => ?_⟩
  rw [Tryd.params3] at ht
  have hall : ∀ t ∈ (#[24, 25, 22] : Array TypeId), Tryd.prog.wantsStandIn t = false := of_decide_eq_true (by kernel_rfl)
  exact hall t (Array.mem_of_getElem? ht)

theorem card : Rows.TopDustPlayedCardSaid :=
  Claim7.holds_tied_plain_at .later [] _ _ _ _ said (fun _ h => by cases h) (by kernel_rfl) (fun _ h => by cases h) topDustPlayed_row_tie rfl ⟨rfl, rfl⟩ (by kernel_rfl) rfl plain (by kernel_rfl)
end Go.Proofs.YtleemphfkhbhaaaDoor.topDustPlayed
