/- Part 14 of the texts of the claim: Te5, CgRow. -/
import Derived.Test.YtamldoidalnloaaMc13
import Derived.Test.YtamldoidalnloaaMc2
import Derived.WalkKit
import Derived.ProofKit
import Derived.OpenShut

/- TopConeGated's walk. -/
namespace Go.Proofs.Ytamldoidalnloaa
open Go.RowKit
open Calm (bcell Blk)
theorem mem_of_getD {l : List Int} {P : Int → Prop} (h : ∀ j, j < l.length → P (l.getD j 0)) : ∀ x ∈ l, P x := fun x hx => by
  obtain ⟨j, hj, rfl⟩ := List.getElem_of_mem hx
  have := h j hj
  rwa [List.getD_eq_getElem?_getD, List.getElem?_eq_getElem hj] at this
/-- what the loops leave. -/
structure GatedEnd (h R Fr : List Int) (kf D E F : Int) (at' M : Nat) : Prop where
  hR : R.length = M
  hF : Fr.length = M
  r3 : ∀ x ∈ R, -300 ≤ x ∧ x ≤ 300
  lF : lvls Fr
  g : gateL R at' = Fr
  e : enF R - enF Fr = E
  d0 : (decL R).getD 0 0 = D + E
  da : (decL R).getD at' 0 = E
  bD : 0 ≤ D ∧ D ≤ 120000
  bE : 0 ≤ E ∧ E ≤ 1080000
  v : (F = -1 ∧ findV R Fr M = .tuple #[(.int .i64 0), (.int .i64 7)]) ∨ ∃ j : Nat, F = (j : Int) ∧ findV R Fr M = .tuple #[(.int .i64 ((j : Int))), (.int .i64 0)]
theorem gated_end {h : List Int} {kf : Int} {at' M : Nat} (hh : ∀ x ∈ h, -100 ≤ x ∧ x ≤ 100) (hk : -3 ≤ kf ∧ kf ≤ 3) (ha : h.length ≤ at') (hM : M = at' + h.length) (h1 : 1 ≤ h.length) (h2 : h.length ≤ 12) :
    GatedEnd h (roomL h kf at' h.length) (freeL h at' h.length) kf (enK h h.length) (ecK h kf h.length) (fsV at' (fsK h kf h.length)) at' M where
  hR := by rw [roomL_len, hM]
  hF := by rw [freeL_len, hM]
  r3 := room_bd hh hk _
  lF := by rw [← room_gate h kf at' ha]; exact gateL_lv (lv300 (room_bd hh hk _))
  g := room_gate h kf at' ha
  e := room_lost h kf at' ha
  d0 := room_dec0 h kf at' ha h1
  da := room_decAt h kf at' ha h1
  bD := by have := enK_100 hh h.length; omega
  bE := by have := ecK_bd hk hh h.length; omega
  v := by
    have h3 := firstD_hi h kf at' ha h.length (Nat.le_refl _)
    rw [← hM] at h3
    cases hf : fsK h kf h.length with
    | none => rw [hf] at h3; exact .inl ⟨rfl, by unfold findV; rw [h3]; rfl⟩
    | some j => rw [hf] at h3; exact .inr ⟨at' + j, rfl, by unfold findV; rw [h3]; rfl⟩
/-- one round's numbers. -/
theorem gated_step {h : List Int} {kf : Int} {i : Nat} (hh : ∀ j, j < h.length → -100 ≤ h.getD j 0 ∧ h.getD j 0 ≤ 100) (hk : -3 ≤ kf ∧ kf ≤ 3) (hi : i < h.length) (hl : h.length ≤ 12) :
    ∃ x X2 P1 P2 P3 D E : Int, x = h.getD i 0 ∧ (-100 ≤ x ∧ x ≤ 100) ∧ P1 = kf * x ∧ wrap64 (x * x) = X2 ∧ wrap64 (kf * x) = P1 ∧ wrap64 (P1 * kf) = P2 ∧ wrap64 (P2 * x) = P3 ∧ D = enK h i ∧ E = ecK h kf i ∧ enK h (i + 1) = D + X2 ∧ ecK h kf (i + 1) = E + P3 ∧ (0 ≤ D ∧ D ≤ 120000) ∧ (0 ≤ E ∧ E ≤ 1080000) ∧ (0 ≤ X2 ∧ X2 ≤ 10000) ∧ (0 ≤ P3 ∧ P3 ≤ 90000) := by
  have hm := mem_of_getD (P := fun x => -100 ≤ x ∧ x ≤ 100) hh
  have hx := hh i hi
  obtain ⟨x, hxx⟩ : ∃ x, x = h.getD i 0 := ⟨_, rfl⟩
  rw [← hxx] at hx
  have b := kk_bd hk hx
  have hd := enK_100 hm i
  have he := ecK_bd hk hm i
  have hq : 0 ≤ x * x ∧ x * x ≤ 10000 := by
    have := enK_100 (h := [x]) (by intro y hy; simp at hy; omega) 1
    simpa [enK] using this
  refine ⟨x, x * x, kf * x, kf * x * kf, kf * x * kf * x, enK h i, ecK h kf i, hxx, hx, rfl, Go.IntWalk.wrap64_in _ (by omega), Go.IntWalk.wrap64_in _ (by omega), Go.IntWalk.wrap64_in _ (by omega), Go.IntWalk.wrap64_in _ (by omega), rfl, rfl, by simp only [enK]; rw [← hxx], by simp only [ecK]; rw [← hxx], by omega, by omega, hq, by omega⟩
theorem fs_step {h : List Int} {kf : Int} {at' i : Nat} {x : Int} (hx : x = h.getD i 0) : (∃ v : Nat, fsV at' (fsK h kf i) = (v : Int) ∧ fsV at' (fsK h kf (i + 1)) = (v : Int)) ∨ (fsV at' (fsK h kf i) = -1 ∧ x = 0 ∧ fsV at' (fsK h kf (i + 1)) = -1) ∨ (fsV at' (fsK h kf i) = -1 ∧ x ≠ 0 ∧ kf = 0 ∧ fsV at' (fsK h kf (i + 1)) = -1) ∨ (fsV at' (fsK h kf i) = -1 ∧ x ≠ 0 ∧ kf ≠ 0 ∧ fsV at' (fsK h kf (i + 1)) = (at' : Int) + (i : Int)) := by
  subst hx
  simp only [fsK]
  cases hf : fsK h kf i with
  | some j => exact .inl ⟨at' + j, rfl, rfl⟩
  | none =>
    by_cases h1 : h.getD i 0 = 0
    · exact .inr (.inl ⟨rfl, h1, by simp only []; rw [if_pos (Or.inl h1)]; rfl⟩)
    · by_cases h2 : kf = 0
      · exact .inr (.inr (.inl ⟨rfl, h1, h2, by simp only []; rw [if_pos (Or.inr h2)]; rfl⟩))
      · exact .inr (.inr (.inr ⟨rfl, h1, h2, by simp only []; rw [if_neg (fun q => q.elim h1 h2)]; simp only [fsV]; omega⟩))
set_option maxRecDepth 100000 in
set_option maxHeartbeats 16000000 in
theorem gated_ok (h : List Int) (A : Option Addr) (c N : Nat) (wt fc : Int) (w : World) (hN : N = h.length) (hN1 : 1 ≤ N) (hN2 : N ≤ 12) (hwt : 0 ≤ wt ∧ wt < 256) (hfc : 0 ≤ fc ∧ fc < 256) (hC : Cells w A h) : Calls Try.prog 3 #[.slice A N c, .int .u8 wt, .int .u8 fc] w fun r w' => r = .returned (.bool true) ∧ Below w.heap.size w w' := by
  have HCB := Lib.hid (fun W => coneBooth_ok W)
  have hn1 : ¬ 12 < (N : Int) := by omega
  have hn2 : ((N : Int) == 0) = false := beq_eq_false_iff_ne.2 (by omega)
  obtain ⟨b, o, rfl, hbl, hcc⟩ := hC (by omega)
  have HC := Lib.hid hC
  have HCC := Lib.hid hcc
  have HN := Lib.hid hN
  have hwf : wrap64 fc = fc := Go.IntWalk.wrap64_in _ (by omega)
  have hww : wrap64 wt = wt := Go.IntWalk.wrap64_in _ (by omega)
  clear hcc hC hN
  go_enter Try.func3, Try.ntmps3
  go_wp2
  go_loop [41] (fun z => ∃ k : Nat, k ≤ N ∧ z = (.int .i64 ((k : Int))) ∧ ∀ j, j < k → -100 ≤ h.getD j 0 ∧ h.getD j 0 ≤ 100) (fun z => N - (intOf z).toNat)
  case atStart => exact ⟨0, by omega, rfl, fun j hj => by omega⟩
  case round =>
    obtain ⟨k, hk, rfl, hin⟩ := hrel
    have HIN := Lib.hid hin
    clear hin
    by_cases hkn : k < N
    · have x0 := HCC.out k (by rw [← HN.out]; exact hkn)
      have hkn1 : (k : Int) < (N : Int) := by omega
      have HSTEP : Hid (-100 ≤ h.getD k 0 ∧ h.getD k 0 ≤ 100 → ∀ j, j < k + 1 → -100 ≤ h.getD j 0 ∧ h.getD j 0 ≤ 100) := Lib.hid (fun q j hj => by
        rcases Nat.lt_or_ge j k with hjk | hjk
        · exact HIN.out j hjk
        · obtain rfl : j = k := by omega
          exact q)
      obtain ⟨x, hx⟩ : ∃ x, x = h.getD k 0 := ⟨_, rfl⟩
      rw [← hx] at x0 HSTEP
      clear hx
      by_cases hx1 : 100 < x
      · go_wp2_with (go_at_call 5; refine (HCB.out _).mono ?_; rintro r w1 ⟨rfl, hb⟩; have HB := Lib.hid hb; clear hb; refine Hid.out ?_)
        unfold Hid
        go_wp2
        go_ret
        exact ⟨rfl, HB.out⟩
      · by_cases hx2 : x < -100
        · go_wp2_with (go_at_call 5; refine (HCB.out _).mono ?_; rintro r w1 ⟨rfl, hb⟩; have HB := Lib.hid hb; clear hb; refine Hid.out ?_)
          unfold Hid
          go_wp2
          go_ret
          exact ⟨rfl, HB.out⟩
        · go_wp2
          go_round
          case rel => exact ⟨k + 1, by omega, by go_num, HSTEP.out (by omega)⟩
          case measure => simp [intOf]; omega
    · obtain rfl : k = N := by omega
      go_wp2
      obtain ⟨kf, hkf⟩ : ∃ kf, kf = fc % 7 - 3 := ⟨_, rfl⟩
      obtain ⟨T, hT⟩ : ∃ T : Nat, wt % 20 = (T : Int) := ⟨(wt % 20).toNat, by omega⟩
      have hkf3 : -3 ≤ kf ∧ kf ≤ 3 := by omega
      have hT19 : T ≤ 19 := by omega
      obtain ⟨at', hat⟩ : ∃ at', at' = k + T := ⟨_, rfl⟩
      obtain ⟨M, hM⟩ : ∃ M, M = at' + k := ⟨_, rfl⟩
      rw [← hkf, hT, show (k : Int) + (T : Int) = (at' : Int) by omega]
      have HMK : ∀ W : World, Sem.run Try.prog (Instr.makeSlice 22 (.int .i64 ((at' : Int) + (k : Int))) (.int .i64 ((at' : Int) + (k : Int)))) W = .ok (.slice (some ⟨W.heap.size, 0, none⟩) M M) (W.alloc (.cells (zerosA M).toArray 3)) := fun W => by
        have := mk_ints M (by omega) W
        rw [← show ((M : Nat) : Int) = (at' : Int) + (k : Int) by omega]
        exact this
      have HATM : Hid (at' = k + T ∧ M = at' + k ∧ (-3 ≤ kf ∧ kf ≤ 3) ∧ T ≤ 19) := Lib.hid ⟨hat, hM, hkf3, hT19⟩
      have hat31 : at' ≤ 31 := by omega
      clear hkf hT hwf hww hn1 hn2 hat hM hkf3 hT19
      go_region
      · go_wp2
        refine name_world ?_
        intro w1 e1
        have h1 : Below w.heap.size w w1 := by rw [e1]; exact bel
        have k0 : Blk w1 (w.heap.size) (zerosA M).toArray := by rw [e1]; (repeat (first | ((with_reducible refine Blk.at_ ?_); focus (first | rfl | (simp; done) | (simp; omega))) | (with_reducible refine Blk.alloc ?_ _) | (with_reducible refine Blk.below ?_ (by with_reducible assumption)) | (with_reducible refine Blk.drew ?_)))
        have k1 : Blk w1 (w.heap.size + 1) (zerosA M).toArray := by rw [e1]; (repeat (first | ((with_reducible refine Blk.at_ ?_); focus (first | rfl | (simp; done) | (simp; omega))) | (with_reducible refine Blk.alloc ?_ _) | (with_reducible refine Blk.below ?_ (by with_reducible assumption)) | (with_reducible refine Blk.drew ?_)))
        clear e1
        generalize hrb : w.heap.size + 1 = rb
        generalize hfb : w.heap.size = fb
        rw [hfb] at k0
        rw [hrb] at k1
        have hfr : fb ≠ rb := by omega
        have hfr2 : rb ≠ fb := by omega
        have hfw : w.heap.size ≤ fb ∧ w.heap.size ≤ rb := by omega
        clear hfb hrb
        have HB1 := Lib.hid h1
        have HK1 : Hid (Blk w1 fb (cellsL (freeL h at' 0)) ∧ Blk w1 rb (cellsL (roomL h kf at' 0))) := Lib.hid (by
          obtain ⟨q1, q2⟩ := cells_zero h kf at'
          rw [q1, q2, ← HN.out, ← HATM.out.2.1]
          exact ⟨k0, k1⟩)
        clear h1 k0 k1
        go_loopw [13, 14, 15, 75] (fun d e f z wr => ∃ i : Nat, i ≤ k ∧ z = (.int .i64 ((i : Int))) ∧ d = (.int .i64 (enK h i)) ∧ e = (.int .i64 (ecK h kf i)) ∧ f = (.int .i64 (fsV at' (fsK h kf i))) ∧ Blk wr fb (cellsL (freeL h at' i)) ∧ Blk wr rb (cellsL (roomL h kf at' i)) ∧ Below w.heap.size w wr) (fun _ _ _ z _ => k - (intOf z).toNat)
        case atStart => exact ⟨0, by omega, rfl, rfl, rfl, rfl, HK1.out.1, HK1.out.2, HB1.out⟩
        case round =>
          obtain ⟨i, hi, rfl, rfl, rfl, rfl, kF, kR, hb⟩ := hrel
          have HBR := Lib.hid hb
          have HKF := Lib.hid kF
          have HKR := Lib.hid kR
          by_cases hik : i < k
          · have x0 := (hb.cell (p := ⟨b, o + i, none⟩) hbl).trans (HCC.out i (by rw [← HN.out]; exact hik))
            have hblr : b < wr.heap.size := by have := hb.size; omega
            obtain ⟨x, X2, P1, P2, P3, D, E, hx, hxb, hP1, hw0, hw1, hw2, hw3, hD, hE, hD1, hE1, bD, bE, bX, bP⟩ := gated_step (i := i) (fun j hj => HIN.out j (by rw [HN.out]; exact hj)) HATM.out.2.2.1 (by rw [← HN.out]; exact hik) (by rw [← HN.out]; exact hN2)
            have hfs := fs_step (at' := at') (kf := kf) hx
            have HTURN := Lib.hid (gated_turn kF kR hfr (by rw [← HN.out]; exact hik) (by rw [← HN.out]; have := HATM.out.1; omega) hb hfw hx hP1)
            have HD1 := Lib.hid hD1
            have HE1 := Lib.hid hE1
            rw [← hx] at x0
            rw [← hD, ← hE]
            obtain ⟨F0, hF0⟩ : ∃ F0, F0 = fsV at' (fsK h kf i) := ⟨_, rfl⟩
            obtain ⟨F1, hF1⟩ : ∃ F1, F1 = fsV at' (fsK h kf (i + 1)) := ⟨_, rfl⟩
            rw [← hF0, ← hF1] at hfs
            rw [← hF0]
            have HF1 := Lib.hid hF1
            have hiM : i < M ∧ at' + i < M ∧ at' + i ≠ i := by have := HATM.out.2.1; have := HATM.out.1; omega
            obtain ⟨hiM1, hiM2, hiM3⟩ := hiM
            have hiM4 : i ≠ at' + i := Ne.symm hiM3
            have hi64 : i < 64 ∧ at' + i < 64 := by omega
            obtain ⟨v1, hv1⟩ : ∃ v1, wr.cell? ⟨fb, i, none⟩ = some v1 := by
              rw [kF.c]
              exact ⟨_, Array.getElem?_eq_getElem (by rw [cellsL_size, freeL_len, ← HN.out, ← HATM.out.2.1]; exact hiM1)⟩
            obtain ⟨v2, hv2⟩ : ∃ v2, wr.cell? ⟨rb, i, none⟩ = some v2 := by
              rw [kR.c]
              exact ⟨_, Array.getElem?_eq_getElem (by rw [cellsL_size, roomL_len, ← HN.out, ← HATM.out.2.1]; exact hiM1)⟩
            obtain ⟨v3, hv3⟩ : ∃ v3, wr.cell? ⟨rb, at' + i, none⟩ = some v3 := by
              rw [kR.c]
              exact ⟨_, Array.getElem?_eq_getElem (by rw [cellsL_size, roomL_len, ← HN.out, ← HATM.out.2.1]; exact hiM2)⟩
            have kfl := kF.lt
            have kff := kF.f
            have krl := kR.lt
            have krf := kR.f
            have hti : ((at' : Int) + (i : Int)).toNat = at' + i := by omega
            have htm : (at' : Int) + (i : Int) < (M : Int) := by omega
            have him : (i : Int) < (M : Int) := by omega
            have hik1 : (i : Int) < (k : Int) := by omega
            clear kF kR hb hx hP1 hD hE hD1 hE1 hF0 hF1
            rcases hfs with ⟨v, rfl, rfl⟩ | ⟨rfl, hx0, rfl⟩ | ⟨rfl, hx0, hk0, rfl⟩ | ⟨rfl, hx0, hk0, rfl⟩
            · have hv0 : ¬ (v : Int) < 0 := by omega
              go_wp2
              go_roundw
              case rel => exact ⟨i + 1, by omega, by go_num, by rw [HD1.out], by rw [HE1.out], by rw [← HF1.out], HTURN.out.1, HTURN.out.2.1, HTURN.out.2.2⟩
              case measure => simp [intOf]; omega
            · obtain rfl : X2 = 0 := by rw [← hw0, hx0, Int.mul_zero]; exact Go.IntWalk.wrap64_in _ (by omega)
              obtain rfl : P1 = 0 := by rw [← hw1, hx0, Int.mul_zero]; exact Go.IntWalk.wrap64_in _ (by omega)
              obtain rfl : P2 = 0 := by rw [← hw2, Int.zero_mul]; exact Go.IntWalk.wrap64_in _ (by omega)
              obtain rfl : P3 = 0 := by rw [← hw3, Int.zero_mul]; exact Go.IntWalk.wrap64_in _ (by omega)
              subst hx0
              clear hw0 hw1 hw2 hw3 bX bP
              go_wp2
              go_roundw
              case rel => exact ⟨i + 1, by omega, by go_num, by rw [HD1.out, Int.add_zero], by rw [HE1.out, Int.add_zero], by rw [← HF1.out], HTURN.out.1, HTURN.out.2.1, HTURN.out.2.2⟩
              case measure => simp [intOf]; omega
            · obtain rfl : P1 = 0 := by rw [← hw1, hk0, Int.zero_mul]; exact Go.IntWalk.wrap64_in _ (by omega)
              obtain rfl : P2 = 0 := by rw [← hw2, Int.zero_mul]; exact Go.IntWalk.wrap64_in _ (by omega)
              obtain rfl : P3 = 0 := by rw [← hw3, Int.zero_mul]; exact Go.IntWalk.wrap64_in _ (by omega)
              subst hk0
              clear hw1 hw2 hw3 bP
              go_wp2
              go_roundw
              case rel => exact ⟨i + 1, by omega, by go_num, by rw [HD1.out], by rw [HE1.out, Int.add_zero], by rw [← HF1.out], HTURN.out.1, HTURN.out.2.1, HTURN.out.2.2⟩
              case measure => simp [intOf]; omega
            · have hx0' : (x == 0) = false := beq_eq_false_iff_ne.2 hx0
              have hk0' : (kf == 0) = false := beq_eq_false_iff_ne.2 hk0
              have hx1 : (x != 0) = true := bne_iff_ne.2 hx0
              have hk1 : (kf != 0) = true := bne_iff_ne.2 hk0
              go_wp2
              go_roundw
              case rel => exact ⟨i + 1, by omega, by go_num, by rw [HD1.out], by rw [HE1.out], by rw [← HF1.out], HTURN.out.1, HTURN.out.2.1, HTURN.out.2.2⟩
              case measure => simp [intOf]; omega
          · obtain rfl : i = k := by omega
            have HG := Lib.hid (gated_end (M := M) (mem_of_getD (P := fun x => -100 ≤ x ∧ x ≤ 100) (fun j hj => HIN.out j (by rw [HN.out]; exact hj))) HATM.out.2.2.1 (show h.length ≤ at' by rw [← HN.out]; have := HATM.out.1; omega) (by rw [← HN.out]; exact HATM.out.2.1) (by rw [← HN.out]; exact hN1) (by rw [← HN.out]; exact hN2))
            obtain ⟨n, hn⟩ : ∃ n, n = h.length := ⟨_, rfl⟩
            obtain rfl : i = n := by rw [hn, HN.out]
            rw [← hn] at HG
            obtain ⟨R, hR⟩ : ∃ R, R = roomL h kf at' i := ⟨_, rfl⟩
            obtain ⟨Fr, hFr⟩ : ∃ Fr, Fr = freeL h at' i := ⟨_, rfl⟩
            obtain ⟨D, hD⟩ : ∃ D, D = enK h i := ⟨_, rfl⟩
            obtain ⟨E, hE⟩ : ∃ E, E = ecK h kf i := ⟨_, rfl⟩
            obtain ⟨F, hF⟩ : ∃ F, F = fsV at' (fsK h kf i) := ⟨_, rfl⟩
            rw [← hR, ← hFr, ← hD, ← hE, ← hF] at HG
            rw [← hR] at kR
            rw [← hFr] at kF
            rw [← hD, ← hE, ← hF]
            have hM43 : M ≤ 43 ∧ at' < M ∧ 1 ≤ M := by have := HATM.out.2.1; omega
            obtain ⟨hM1, hM2, hM3⟩ := hM43
            have hRL : M = R.length := HG.out.hR.symm
            have hFL : M = Fr.length := HG.out.hF.symm
            have HRL := Lib.hid hRL
            have HFL := Lib.hid hFL
            have HCR := Lib.hid (Cells.blk kR rfl)
            have HCF := Lib.hid (Cells.blk kF rfl)
            have HBwr := Lib.hid hb
            clear kF kR hb HKF HKR hR hFr hD hE hF hn hRL hFL HBR
            go_wp2_with (at_builtin; refine name_list ?_; intro wA eA; refine Hid.out ?_)
            unfold Hid
            have hA : Below wr.heap.size wr wA := by rw [eA]; exact bel
            have oA : wA.ownsRow wr.heap.size 3 1 (.slice (some ⟨wr.heap.size, 0, none⟩) 0 0) 0 [] := by rw [eA]; exact own_empty _
            have HBwA := Lib.hid (HBwr.out.trans (hA.mono HBwr.out.size))
            clear eA
            refine wpList_appC rfl _ _ rfl wr.heap.size M M (some ⟨rb, 0, none⟩) R HRL.out rfl rfl oA (by omega) (HCR.out.below hA) ?_
            intro XwB xwB wB hB oB
            have HLwB := Lib.hid (own_room oB).1
            obtain ⟨X', x', e0, -, hcB⟩ := own_ints (zs := R) oB HRL.out
            cases e0
            have HBAwB := Lib.hid (hA.trans (hB.mono hA.size))
            have HBwB := Lib.hid (HBwA.out.trans (hB.mono HBwA.out.size))
            have HCwB := Lib.hid hcB
            clear hA oA hB oB hcB
            have HCR1 := Lib.hid (HCR.out.below HBAwB.out)
            have HCF1 := Lib.hid (HCF.out.below HBAwB.out)
            go_wp2_with (go_at_call 6; refine (ans_R R HG.out.r3 M HRL.out hM3 (by omega) _ _ _ HCwB.out).mono ?_; rintro r w2 ⟨⟨Y1, y1, Y2, y2, rfl, hY1, hY2⟩, h2⟩; have HY1 := Lib.hid hY1; have HY2 := Lib.hid hY2; have HCR2 := Lib.hid (HCR1.out.below h2); have HCF2 := Lib.hid (HCF1.out.below h2); have HBw2 := Lib.hid (HBwB.out.trans (h2.mono HBwB.out.size)); refine Hid.out ?_)
            unfold Hid
            clear hY1 hY2 h2 HCR1 HCF1 HCwB HBwA HBAwB HLwB
            go_wp2_with (go_at_call 7; refine (dec_R R HG.out.r3 M HRL.out hM3 (by omega) _ _ _ _ _ HY1.out HY2.out).mono ?_; rintro r w3 ⟨⟨Z, z, rfl, hZ⟩, h3⟩; have HZ := Lib.hid hZ; have HCR3 := Lib.hid (HCR2.out.below h3); have HCF3 := Lib.hid (HCF2.out.below h3); have HBw3 := Lib.hid (HBw2.out.trans (h3.mono HBw2.out.size)); refine Hid.out ?_)
            unfold Hid
            clear hZ h3 HCR2 HCF2 HY1 HY2
            go_wp2_with (go_at_call 8; refine (same_cone R M HRL.out (by omega) _ _ _ _ _ HZ.out HCR3.out).mono ?_; rintro r w4 ⟨rfl, h4⟩; have HZ4 := Lib.hid (HZ.out.below h4); have HCF4 := Lib.hid (HCF3.out.below h4); have HBw4 := Lib.hid (HBw3.out.trans (h4.mono HBw3.out.size)); refine Hid.out ?_)
            unfold Hid
            clear h4 HCR3 HCF3 HZ
            go_wp2_with (at_builtin; refine name_list ?_; intro wC eA; refine Hid.out ?_)
            unfold Hid
            have hA : Below w4.heap.size w4 wC := by rw [eA]; exact bel
            have oA : wC.ownsRow w4.heap.size 3 1 (.slice (some ⟨w4.heap.size, 0, none⟩) 0 0) 0 [] := by rw [eA]; exact own_empty _
            have HBwC := Lib.hid (HBw4.out.trans (hA.mono HBw4.out.size))
            clear eA
            refine wpList_appC rfl _ _ rfl w4.heap.size M z Z R HRL.out rfl rfl oA (by omega) (HZ4.out.below hA) ?_
            intro XwD xwD wD hB oB
            have HLwD := Lib.hid (own_room oB).1
            obtain ⟨X', x', e0, -, hcB⟩ := own_ints (zs := R) oB HRL.out
            cases e0
            have HBAwD := Lib.hid (hA.trans (hB.mono hA.size))
            have HBwD := Lib.hid (HBwC.out.trans (hB.mono HBwC.out.size))
            have HCwD := Lib.hid hcB
            clear hA oA hB oB hcB
            have HZ5 := Lib.hid (HZ4.out.below HBAwD.out)
            have HCF5 := Lib.hid (HCF4.out.below HBAwD.out)
            go_wp2_with (go_at_call 9; refine (gate_R R Fr at' E HG.out.r3 HG.out.g HG.out.e M HRL.out hM3 (by omega) (by omega) _ _ HLwD.out _ HCwD.out).mono ?_; rintro r w6 ⟨⟨G, g, rfl, hG⟩, h6⟩; have HGC := Lib.hid hG; have HZ6 := Lib.hid (HZ5.out.below h6); have HCF6 := Lib.hid (HCF5.out.below h6); have HBw6 := Lib.hid (HBwD.out.trans (h6.mono HBwD.out.size)); refine Hid.out ?_)
            unfold Hid
            clear hG h6 HZ5 HZ4 HCF5 HCF4 HCwD HBwC HBAwD HLwD
            go_wp2_with (at_builtin; refine name_list ?_; intro wE eA; refine Hid.out ?_)
            unfold Hid
            have hA : Below w6.heap.size w6 wE := by rw [eA]; exact bel
            have oA : wE.ownsRow w6.heap.size 3 1 (.slice (some ⟨w6.heap.size, 0, none⟩) 0 0) 0 [] := by rw [eA]; exact own_empty _
            have HBwE := Lib.hid (HBw6.out.trans (hA.mono HBw6.out.size))
            clear eA
            refine wpList_appC rfl _ _ rfl w6.heap.size M z Z R HRL.out rfl rfl oA (by omega) (HZ6.out.below hA) ?_
            intro XwG xwG wG hB oB
            have HLwG := Lib.hid (own_room oB).1
            obtain ⟨X', x', e0, -, hcB⟩ := own_ints (zs := R) oB HRL.out
            cases e0
            have HBAwG := Lib.hid (hA.trans (hB.mono hA.size))
            have HBwG := Lib.hid (HBwE.out.trans (hB.mono HBwE.out.size))
            have HCwG := Lib.hid hcB
            clear hA oA hB oB hcB
            have HZ7 := Lib.hid (HZ6.out.below HBAwG.out)
            have HCF7 := Lib.hid (HCF6.out.below HBAwG.out)
            have HGC7 := Lib.hid (HGC.out.below HBAwG.out)
            go_wp2_with (go_at_call 10; refine (decay_R R HG.out.r3 M HRL.out hM3 (by omega) _ _ _ HCwG.out).mono ?_; rintro r w8 ⟨⟨DA, dc, rfl, hDA⟩, h8⟩; have HDA := Lib.hid hDA; have HZ8 := Lib.hid (HZ7.out.below h8); have HCF8 := Lib.hid (HCF7.out.below h8); have HGC8 := Lib.hid (HGC7.out.below h8); have HBw8 := Lib.hid (HBwG.out.trans (h8.mono HBwG.out.size)); refine Hid.out ?_)
            unfold Hid
            clear hDA h8 HZ7 HZ6 HCF7 HCF6 HGC7 HGC HCwG HBwE HBAwG HLwG
            go_wp2_with (go_at_call 8; refine (same_cone Fr M HFL.out (by omega) _ _ _ _ _ HGC8.out HCF8.out).mono ?_; rintro r w9 ⟨rfl, h9⟩; have HZ9 := Lib.hid (HZ8.out.below h9); have HCF9 := Lib.hid (HCF8.out.below h9); have HDA9 := Lib.hid (HDA.out.below h9); have HBw9 := Lib.hid (HBw8.out.trans (h9.mono HBw8.out.size)); refine Hid.out ?_)
            unfold Hid
            obtain ⟨bd, od, eDA, hdl, hdc⟩ := HDA9.out (by rw [decL_len, ← HRL.out]; exact hM3)
            cases eDA
            have hd0 := hdc 0 (by rw [decL_len, ← HRL.out]; exact hM3)
            have hda := hdc at' (by rw [decL_len, ← HRL.out]; exact hM2)
            rw [HG.out.d0, Nat.add_zero] at hd0
            rw [HG.out.da] at hda
            have bD := HG.out.bD
            have bE := HG.out.bE
            have hat1 : (at' : Int) < (M : Int) := by omega
            have hM0 : (0 : Int) < (M : Int) := by omega
            clear h9 HZ8 HCF8 HGC8 HDA HDA9 hdc
            go_wp2_with (at_builtin; refine name_list ?_; intro wI eA; refine Hid.out ?_)
            unfold Hid
            have hA : Below w9.heap.size w9 wI := by rw [eA]; exact bel
            have oA : wI.ownsRow w9.heap.size 3 1 (.slice (some ⟨w9.heap.size, 0, none⟩) 0 0) 0 [] := by rw [eA]; exact own_empty _
            have HBwI := Lib.hid (HBw9.out.trans (hA.mono HBw9.out.size))
            clear eA
            refine wpList_appC rfl _ _ rfl w9.heap.size M z Z R HRL.out rfl rfl oA (by omega) (HZ9.out.below hA) ?_
            intro XwJ xwJ wJ hB oB
            have HLwJ := Lib.hid (own_room oB).1
            obtain ⟨X', x', e0, -, hcB⟩ := own_ints (zs := R) oB HRL.out
            cases e0
            have HBAwJ := Lib.hid (hA.trans (hB.mono hA.size))
            have HBwJ := Lib.hid (HBwI.out.trans (hB.mono HBwI.out.size))
            have HCwJ := Lib.hid hcB
            clear hA oA hB oB hcB
            have HCF10 := Lib.hid (HCF9.out.below HBAwJ.out)
            clear hd0 hda hdl HZ9
            go_wp2_with (at_builtin; refine name_list ?_; intro wK eA; refine Hid.out ?_)
            unfold Hid
            have hA : Below wJ.heap.size wJ wK := by rw [eA]; exact bel
            have oA : wK.ownsRow wJ.heap.size 3 1 (.slice (some ⟨wJ.heap.size, 0, none⟩) 0 0) 0 [] := by rw [eA]; exact own_empty _
            have HBwK := Lib.hid (HBwJ.out.trans (hA.mono HBwJ.out.size))
            clear eA
            refine wpList_appC rfl _ _ rfl wJ.heap.size M M (some ⟨fb, 0, none⟩) Fr HFL.out rfl rfl oA (by omega) (HCF10.out.below hA) ?_
            intro XwL xwL wL hB oB
            have HLwL := Lib.hid (own_room oB).1
            obtain ⟨X', x', e0, -, hcB⟩ := own_ints (zs := Fr) oB HFL.out
            cases e0
            have HBAwL := Lib.hid (hA.trans (hB.mono hA.size))
            have HBwL := Lib.hid (HBwK.out.trans (hB.mono HBwK.out.size))
            have HCwL := Lib.hid hcB
            clear hA oA hB oB hcB
            have HCJ := Lib.hid (HCwJ.out.below HBAwL.out)
            go_wp2_with (go_at_call 11; refine (Reflection_ok R Fr _ _ _ _ M _ HRL.out HFL.out (by omega) (lv300 HG.out.r3) HG.out.lF HCJ.out HCwL.out).mono ?_; rintro r w11 ⟨rfl, h11⟩; have HBw11 := Lib.hid (HBwL.out.trans (h11.mono HBwL.out.size)); refine Hid.out ?_)
            unfold Hid
            clear h11
            rcases HG.out.v with ⟨rfl, hv⟩ | ⟨jj, rfl, hv⟩
            · rw [hv]
              skip
              go_wp2_with (go_at_call 5; refine (HCB.out _).mono ?_; rintro r w12 ⟨rfl, h12⟩; have HB12 := Lib.hid (HBw11.out.trans (h12.mono HBw11.out.size)); clear h12; refine Hid.out ?_)
              unfold Hid
              go_wp2
              go_ret
              exact ⟨rfl, HB12.out⟩
            · rw [hv]
              have hj0 : ¬ (jj : Int) < 0 := by omega
              go_wp2_with (go_at_call 5; refine (HCB.out _).mono ?_; rintro r w12 ⟨rfl, h12⟩; have HB12 := Lib.hid (HBw11.out.trans (h12.mono HBw11.out.size)); clear h12; refine Hid.out ?_)
              unfold Hid
              go_wp2
              go_ret
              exact ⟨rfl, HB12.out⟩
      · go_wp2
        refine name_world ?_
        intro w1 e1
        have h1 : Below w.heap.size w w1 := by rw [e1]; exact bel
        have k0 : Blk w1 (w.heap.size + 1) (zerosA M).toArray := by rw [e1]; (repeat (first | ((with_reducible refine Blk.at_ ?_); focus (first | rfl | (simp; done) | (simp; omega))) | (with_reducible refine Blk.alloc ?_ _) | (with_reducible refine Blk.below ?_ (by with_reducible assumption)) | (with_reducible refine Blk.drew ?_)))
        have k1 : Blk w1 (w.heap.size) (zerosA M).toArray := by rw [e1]; (repeat (first | ((with_reducible refine Blk.at_ ?_); focus (first | rfl | (simp; done) | (simp; omega))) | (with_reducible refine Blk.alloc ?_ _) | (with_reducible refine Blk.below ?_ (by with_reducible assumption)) | (with_reducible refine Blk.drew ?_)))
        clear e1
        generalize hfb : w.heap.size + 1 = fb
        generalize hrb : w.heap.size = rb
        rw [hfb] at k0
        rw [hrb] at k1
        have hfr : fb ≠ rb := by omega
        have hfr2 : rb ≠ fb := by omega
        have hfw : w.heap.size ≤ fb ∧ w.heap.size ≤ rb := by omega
        clear hfb hrb
        have HB1 := Lib.hid h1
        have HK1 : Hid (Blk w1 fb (cellsL (freeL h at' 0)) ∧ Blk w1 rb (cellsL (roomL h kf at' 0))) := Lib.hid (by
          obtain ⟨q1, q2⟩ := cells_zero h kf at'
          rw [q1, q2, ← HN.out, ← HATM.out.2.1]
          exact ⟨k0, k1⟩)
        clear h1 k0 k1
        go_loopw [13, 14, 15, 75] (fun d e f z wr => ∃ i : Nat, i ≤ k ∧ z = (.int .i64 ((i : Int))) ∧ d = (.int .i64 (enK h i)) ∧ e = (.int .i64 (ecK h kf i)) ∧ f = (.int .i64 (fsV at' (fsK h kf i))) ∧ Blk wr fb (cellsL (freeL h at' i)) ∧ Blk wr rb (cellsL (roomL h kf at' i)) ∧ Below w.heap.size w wr) (fun _ _ _ z _ => k - (intOf z).toNat)
        case atStart => exact ⟨0, by omega, rfl, rfl, rfl, rfl, HK1.out.1, HK1.out.2, HB1.out⟩
        case round =>
          obtain ⟨i, hi, rfl, rfl, rfl, rfl, kF, kR, hb⟩ := hrel
          have HBR := Lib.hid hb
          have HKF := Lib.hid kF
          have HKR := Lib.hid kR
          by_cases hik : i < k
          · have x0 := (hb.cell (p := ⟨b, o + i, none⟩) hbl).trans (HCC.out i (by rw [← HN.out]; exact hik))
            have hblr : b < wr.heap.size := by have := hb.size; omega
            obtain ⟨x, X2, P1, P2, P3, D, E, hx, hxb, hP1, hw0, hw1, hw2, hw3, hD, hE, hD1, hE1, bD, bE, bX, bP⟩ := gated_step (i := i) (fun j hj => HIN.out j (by rw [HN.out]; exact hj)) HATM.out.2.2.1 (by rw [← HN.out]; exact hik) (by rw [← HN.out]; exact hN2)
            have hfs := fs_step (at' := at') (kf := kf) hx
            have HTURN := Lib.hid (gated_turn kF kR hfr (by rw [← HN.out]; exact hik) (by rw [← HN.out]; have := HATM.out.1; omega) hb hfw hx hP1)
            have HD1 := Lib.hid hD1
            have HE1 := Lib.hid hE1
            rw [← hx] at x0
            rw [← hD, ← hE]
            obtain ⟨F0, hF0⟩ : ∃ F0, F0 = fsV at' (fsK h kf i) := ⟨_, rfl⟩
            obtain ⟨F1, hF1⟩ : ∃ F1, F1 = fsV at' (fsK h kf (i + 1)) := ⟨_, rfl⟩
            rw [← hF0, ← hF1] at hfs
            rw [← hF0]
            have HF1 := Lib.hid hF1
            have hiM : i < M ∧ at' + i < M ∧ at' + i ≠ i := by have := HATM.out.2.1; have := HATM.out.1; omega
            obtain ⟨hiM1, hiM2, hiM3⟩ := hiM
            have hiM4 : i ≠ at' + i := Ne.symm hiM3
            have hi64 : i < 64 ∧ at' + i < 64 := by omega
            obtain ⟨v1, hv1⟩ : ∃ v1, wr.cell? ⟨fb, i, none⟩ = some v1 := by
              rw [kF.c]
              exact ⟨_, Array.getElem?_eq_getElem (by rw [cellsL_size, freeL_len, ← HN.out, ← HATM.out.2.1]; exact hiM1)⟩
            obtain ⟨v2, hv2⟩ : ∃ v2, wr.cell? ⟨rb, i, none⟩ = some v2 := by
              rw [kR.c]
              exact ⟨_, Array.getElem?_eq_getElem (by rw [cellsL_size, roomL_len, ← HN.out, ← HATM.out.2.1]; exact hiM1)⟩
            obtain ⟨v3, hv3⟩ : ∃ v3, wr.cell? ⟨rb, at' + i, none⟩ = some v3 := by
              rw [kR.c]
              exact ⟨_, Array.getElem?_eq_getElem (by rw [cellsL_size, roomL_len, ← HN.out, ← HATM.out.2.1]; exact hiM2)⟩
            have kfl := kF.lt
            have kff := kF.f
            have krl := kR.lt
            have krf := kR.f
            have hti : ((at' : Int) + (i : Int)).toNat = at' + i := by omega
            have htm : (at' : Int) + (i : Int) < (M : Int) := by omega
            have him : (i : Int) < (M : Int) := by omega
            have hik1 : (i : Int) < (k : Int) := by omega
            clear kF kR hb hx hP1 hD hE hD1 hE1 hF0 hF1
            rcases hfs with ⟨v, rfl, rfl⟩ | ⟨rfl, hx0, rfl⟩ | ⟨rfl, hx0, hk0, rfl⟩ | ⟨rfl, hx0, hk0, rfl⟩
            · have hv0 : ¬ (v : Int) < 0 := by omega
              go_wp2
              go_roundw
              case rel => exact ⟨i + 1, by omega, by go_num, by rw [HD1.out], by rw [HE1.out], by rw [← HF1.out], HTURN.out.1, HTURN.out.2.1, HTURN.out.2.2⟩
              case measure => simp [intOf]; omega
            · obtain rfl : X2 = 0 := by rw [← hw0, hx0, Int.mul_zero]; exact Go.IntWalk.wrap64_in _ (by omega)
              obtain rfl : P1 = 0 := by rw [← hw1, hx0, Int.mul_zero]; exact Go.IntWalk.wrap64_in _ (by omega)
              obtain rfl : P2 = 0 := by rw [← hw2, Int.zero_mul]; exact Go.IntWalk.wrap64_in _ (by omega)
              obtain rfl : P3 = 0 := by rw [← hw3, Int.zero_mul]; exact Go.IntWalk.wrap64_in _ (by omega)
              subst hx0
              clear hw0 hw1 hw2 hw3 bX bP
              go_wp2
              go_roundw
              case rel => exact ⟨i + 1, by omega, by go_num, by rw [HD1.out, Int.add_zero], by rw [HE1.out, Int.add_zero], by rw [← HF1.out], HTURN.out.1, HTURN.out.2.1, HTURN.out.2.2⟩
              case measure => simp [intOf]; omega
            · obtain rfl : P1 = 0 := by rw [← hw1, hk0, Int.zero_mul]; exact Go.IntWalk.wrap64_in _ (by omega)
              obtain rfl : P2 = 0 := by rw [← hw2, Int.zero_mul]; exact Go.IntWalk.wrap64_in _ (by omega)
              obtain rfl : P3 = 0 := by rw [← hw3, Int.zero_mul]; exact Go.IntWalk.wrap64_in _ (by omega)
              subst hk0
              clear hw1 hw2 hw3 bP
              go_wp2
              go_roundw
              case rel => exact ⟨i + 1, by omega, by go_num, by rw [HD1.out], by rw [HE1.out, Int.add_zero], by rw [← HF1.out], HTURN.out.1, HTURN.out.2.1, HTURN.out.2.2⟩
              case measure => simp [intOf]; omega
            · have hx0' : (x == 0) = false := beq_eq_false_iff_ne.2 hx0
              have hk0' : (kf == 0) = false := beq_eq_false_iff_ne.2 hk0
              have hx1 : (x != 0) = true := bne_iff_ne.2 hx0
              have hk1 : (kf != 0) = true := bne_iff_ne.2 hk0
              go_wp2
              go_roundw
              case rel => exact ⟨i + 1, by omega, by go_num, by rw [HD1.out], by rw [HE1.out], by rw [← HF1.out], HTURN.out.1, HTURN.out.2.1, HTURN.out.2.2⟩
              case measure => simp [intOf]; omega
          · obtain rfl : i = k := by omega
            have HG := Lib.hid (gated_end (M := M) (mem_of_getD (P := fun x => -100 ≤ x ∧ x ≤ 100) (fun j hj => HIN.out j (by rw [HN.out]; exact hj))) HATM.out.2.2.1 (show h.length ≤ at' by rw [← HN.out]; have := HATM.out.1; omega) (by rw [← HN.out]; exact HATM.out.2.1) (by rw [← HN.out]; exact hN1) (by rw [← HN.out]; exact hN2))
            obtain ⟨n, hn⟩ : ∃ n, n = h.length := ⟨_, rfl⟩
            obtain rfl : i = n := by rw [hn, HN.out]
            rw [← hn] at HG
            obtain ⟨R, hR⟩ : ∃ R, R = roomL h kf at' i := ⟨_, rfl⟩
            obtain ⟨Fr, hFr⟩ : ∃ Fr, Fr = freeL h at' i := ⟨_, rfl⟩
            obtain ⟨D, hD⟩ : ∃ D, D = enK h i := ⟨_, rfl⟩
            obtain ⟨E, hE⟩ : ∃ E, E = ecK h kf i := ⟨_, rfl⟩
            obtain ⟨F, hF⟩ : ∃ F, F = fsV at' (fsK h kf i) := ⟨_, rfl⟩
            rw [← hR, ← hFr, ← hD, ← hE, ← hF] at HG
            rw [← hR] at kR
            rw [← hFr] at kF
            rw [← hD, ← hE, ← hF]
            have hM43 : M ≤ 43 ∧ at' < M ∧ 1 ≤ M := by have := HATM.out.2.1; omega
            obtain ⟨hM1, hM2, hM3⟩ := hM43
            have hRL : M = R.length := HG.out.hR.symm
            have hFL : M = Fr.length := HG.out.hF.symm
            have HRL := Lib.hid hRL
            have HFL := Lib.hid hFL
            have HCR := Lib.hid (Cells.blk kR rfl)
            have HCF := Lib.hid (Cells.blk kF rfl)
            have HBwr := Lib.hid hb
            clear kF kR hb HKF HKR hR hFr hD hE hF hn hRL hFL HBR
            go_wp2_with (at_builtin; refine name_list ?_; intro wA eA; refine Hid.out ?_)
            unfold Hid
            have hA : Below wr.heap.size wr wA := by rw [eA]; exact bel
            have oA : wA.ownsRow wr.heap.size 3 1 (.slice (some ⟨wr.heap.size, 0, none⟩) 0 0) 0 [] := by rw [eA]; exact own_empty _
            have HBwA := Lib.hid (HBwr.out.trans (hA.mono HBwr.out.size))
            clear eA
            refine wpList_appC rfl _ _ rfl wr.heap.size M M (some ⟨rb, 0, none⟩) R HRL.out rfl rfl oA (by omega) (HCR.out.below hA) ?_
            intro XwB xwB wB hB oB
            have HLwB := Lib.hid (own_room oB).1
            obtain ⟨X', x', e0, -, hcB⟩ := own_ints (zs := R) oB HRL.out
            cases e0
            have HBAwB := Lib.hid (hA.trans (hB.mono hA.size))
            have HBwB := Lib.hid (HBwA.out.trans (hB.mono HBwA.out.size))
            have HCwB := Lib.hid hcB
            clear hA oA hB oB hcB
            have HCR1 := Lib.hid (HCR.out.below HBAwB.out)
            have HCF1 := Lib.hid (HCF.out.below HBAwB.out)
            go_wp2_with (go_at_call 6; refine (ans_R R HG.out.r3 M HRL.out hM3 (by omega) _ _ _ HCwB.out).mono ?_; rintro r w2 ⟨⟨Y1, y1, Y2, y2, rfl, hY1, hY2⟩, h2⟩; have HY1 := Lib.hid hY1; have HY2 := Lib.hid hY2; have HCR2 := Lib.hid (HCR1.out.below h2); have HCF2 := Lib.hid (HCF1.out.below h2); have HBw2 := Lib.hid (HBwB.out.trans (h2.mono HBwB.out.size)); refine Hid.out ?_)
            unfold Hid
            clear hY1 hY2 h2 HCR1 HCF1 HCwB HBwA HBAwB HLwB
            go_wp2_with (go_at_call 7; refine (dec_R R HG.out.r3 M HRL.out hM3 (by omega) _ _ _ _ _ HY1.out HY2.out).mono ?_; rintro r w3 ⟨⟨Z, z, rfl, hZ⟩, h3⟩; have HZ := Lib.hid hZ; have HCR3 := Lib.hid (HCR2.out.below h3); have HCF3 := Lib.hid (HCF2.out.below h3); have HBw3 := Lib.hid (HBw2.out.trans (h3.mono HBw2.out.size)); refine Hid.out ?_)
            unfold Hid
            clear hZ h3 HCR2 HCF2 HY1 HY2
            go_wp2_with (go_at_call 8; refine (same_cone R M HRL.out (by omega) _ _ _ _ _ HZ.out HCR3.out).mono ?_; rintro r w4 ⟨rfl, h4⟩; have HZ4 := Lib.hid (HZ.out.below h4); have HCF4 := Lib.hid (HCF3.out.below h4); have HBw4 := Lib.hid (HBw3.out.trans (h4.mono HBw3.out.size)); refine Hid.out ?_)
            unfold Hid
            clear h4 HCR3 HCF3 HZ
            go_wp2_with (at_builtin; refine name_list ?_; intro wC eA; refine Hid.out ?_)
            unfold Hid
            have hA : Below w4.heap.size w4 wC := by rw [eA]; exact bel
            have oA : wC.ownsRow w4.heap.size 3 1 (.slice (some ⟨w4.heap.size, 0, none⟩) 0 0) 0 [] := by rw [eA]; exact own_empty _
            have HBwC := Lib.hid (HBw4.out.trans (hA.mono HBw4.out.size))
            clear eA
            refine wpList_appC rfl _ _ rfl w4.heap.size M z Z R HRL.out rfl rfl oA (by omega) (HZ4.out.below hA) ?_
            intro XwD xwD wD hB oB
            have HLwD := Lib.hid (own_room oB).1
            obtain ⟨X', x', e0, -, hcB⟩ := own_ints (zs := R) oB HRL.out
            cases e0
            have HBAwD := Lib.hid (hA.trans (hB.mono hA.size))
            have HBwD := Lib.hid (HBwC.out.trans (hB.mono HBwC.out.size))
            have HCwD := Lib.hid hcB
            clear hA oA hB oB hcB
            have HZ5 := Lib.hid (HZ4.out.below HBAwD.out)
            have HCF5 := Lib.hid (HCF4.out.below HBAwD.out)
            go_wp2_with (go_at_call 9; refine (gate_R R Fr at' E HG.out.r3 HG.out.g HG.out.e M HRL.out hM3 (by omega) (by omega) _ _ HLwD.out _ HCwD.out).mono ?_; rintro r w6 ⟨⟨G, g, rfl, hG⟩, h6⟩; have HGC := Lib.hid hG; have HZ6 := Lib.hid (HZ5.out.below h6); have HCF6 := Lib.hid (HCF5.out.below h6); have HBw6 := Lib.hid (HBwD.out.trans (h6.mono HBwD.out.size)); refine Hid.out ?_)
            unfold Hid
            clear hG h6 HZ5 HZ4 HCF5 HCF4 HCwD HBwC HBAwD HLwD
            go_wp2_with (at_builtin; refine name_list ?_; intro wE eA; refine Hid.out ?_)
            unfold Hid
            have hA : Below w6.heap.size w6 wE := by rw [eA]; exact bel
            have oA : wE.ownsRow w6.heap.size 3 1 (.slice (some ⟨w6.heap.size, 0, none⟩) 0 0) 0 [] := by rw [eA]; exact own_empty _
            have HBwE := Lib.hid (HBw6.out.trans (hA.mono HBw6.out.size))
            clear eA
            refine wpList_appC rfl _ _ rfl w6.heap.size M z Z R HRL.out rfl rfl oA (by omega) (HZ6.out.below hA) ?_
            intro XwG xwG wG hB oB
            have HLwG := Lib.hid (own_room oB).1
            obtain ⟨X', x', e0, -, hcB⟩ := own_ints (zs := R) oB HRL.out
            cases e0
            have HBAwG := Lib.hid (hA.trans (hB.mono hA.size))
            have HBwG := Lib.hid (HBwE.out.trans (hB.mono HBwE.out.size))
            have HCwG := Lib.hid hcB
            clear hA oA hB oB hcB
            have HZ7 := Lib.hid (HZ6.out.below HBAwG.out)
            have HCF7 := Lib.hid (HCF6.out.below HBAwG.out)
            have HGC7 := Lib.hid (HGC.out.below HBAwG.out)
            go_wp2_with (go_at_call 10; refine (decay_R R HG.out.r3 M HRL.out hM3 (by omega) _ _ _ HCwG.out).mono ?_; rintro r w8 ⟨⟨DA, dc, rfl, hDA⟩, h8⟩; have HDA := Lib.hid hDA; have HZ8 := Lib.hid (HZ7.out.below h8); have HCF8 := Lib.hid (HCF7.out.below h8); have HGC8 := Lib.hid (HGC7.out.below h8); have HBw8 := Lib.hid (HBwG.out.trans (h8.mono HBwG.out.size)); refine Hid.out ?_)
            unfold Hid
            clear hDA h8 HZ7 HZ6 HCF7 HCF6 HGC7 HGC HCwG HBwE HBAwG HLwG
            go_wp2_with (go_at_call 8; refine (same_cone Fr M HFL.out (by omega) _ _ _ _ _ HGC8.out HCF8.out).mono ?_; rintro r w9 ⟨rfl, h9⟩; have HZ9 := Lib.hid (HZ8.out.below h9); have HCF9 := Lib.hid (HCF8.out.below h9); have HDA9 := Lib.hid (HDA.out.below h9); have HBw9 := Lib.hid (HBw8.out.trans (h9.mono HBw8.out.size)); refine Hid.out ?_)
            unfold Hid
            obtain ⟨bd, od, eDA, hdl, hdc⟩ := HDA9.out (by rw [decL_len, ← HRL.out]; exact hM3)
            cases eDA
            have hd0 := hdc 0 (by rw [decL_len, ← HRL.out]; exact hM3)
            have hda := hdc at' (by rw [decL_len, ← HRL.out]; exact hM2)
            rw [HG.out.d0, Nat.add_zero] at hd0
            rw [HG.out.da] at hda
            have bD := HG.out.bD
            have bE := HG.out.bE
            have hat1 : (at' : Int) < (M : Int) := by omega
            have hM0 : (0 : Int) < (M : Int) := by omega
            clear h9 HZ8 HCF8 HGC8 HDA HDA9 hdc
            go_wp2_with (at_builtin; refine name_list ?_; intro wI eA; refine Hid.out ?_)
            unfold Hid
            have hA : Below w9.heap.size w9 wI := by rw [eA]; exact bel
            have oA : wI.ownsRow w9.heap.size 3 1 (.slice (some ⟨w9.heap.size, 0, none⟩) 0 0) 0 [] := by rw [eA]; exact own_empty _
            have HBwI := Lib.hid (HBw9.out.trans (hA.mono HBw9.out.size))
            clear eA
            refine wpList_appC rfl _ _ rfl w9.heap.size M z Z R HRL.out rfl rfl oA (by omega) (HZ9.out.below hA) ?_
            intro XwJ xwJ wJ hB oB
            have HLwJ := Lib.hid (own_room oB).1
            obtain ⟨X', x', e0, -, hcB⟩ := own_ints (zs := R) oB HRL.out
            cases e0
            have HBAwJ := Lib.hid (hA.trans (hB.mono hA.size))
            have HBwJ := Lib.hid (HBwI.out.trans (hB.mono HBwI.out.size))
            have HCwJ := Lib.hid hcB
            clear hA oA hB oB hcB
            have HCF10 := Lib.hid (HCF9.out.below HBAwJ.out)
            clear hd0 hda hdl HZ9
            go_wp2_with (at_builtin; refine name_list ?_; intro wK eA; refine Hid.out ?_)
            unfold Hid
            have hA : Below wJ.heap.size wJ wK := by rw [eA]; exact bel
            have oA : wK.ownsRow wJ.heap.size 3 1 (.slice (some ⟨wJ.heap.size, 0, none⟩) 0 0) 0 [] := by rw [eA]; exact own_empty _
            have HBwK := Lib.hid (HBwJ.out.trans (hA.mono HBwJ.out.size))
            clear eA
            refine wpList_appC rfl _ _ rfl wJ.heap.size M M (some ⟨fb, 0, none⟩) Fr HFL.out rfl rfl oA (by omega) (HCF10.out.below hA) ?_
            intro XwL xwL wL hB oB
            have HLwL := Lib.hid (own_room oB).1
            obtain ⟨X', x', e0, -, hcB⟩ := own_ints (zs := Fr) oB HFL.out
            cases e0
            have HBAwL := Lib.hid (hA.trans (hB.mono hA.size))
            have HBwL := Lib.hid (HBwK.out.trans (hB.mono HBwK.out.size))
            have HCwL := Lib.hid hcB
            clear hA oA hB oB hcB
            have HCJ := Lib.hid (HCwJ.out.below HBAwL.out)
            go_wp2_with (go_at_call 11; refine (Reflection_ok R Fr _ _ _ _ M _ HRL.out HFL.out (by omega) (lv300 HG.out.r3) HG.out.lF HCJ.out HCwL.out).mono ?_; rintro r w11 ⟨rfl, h11⟩; have HBw11 := Lib.hid (HBwL.out.trans (h11.mono HBwL.out.size)); refine Hid.out ?_)
            unfold Hid
            clear h11
            rcases HG.out.v with ⟨rfl, hv⟩ | ⟨jj, rfl, hv⟩
            · rw [hv]
              skip
              go_wp2_with (go_at_call 5; refine (HCB.out _).mono ?_; rintro r w12 ⟨rfl, h12⟩; have HB12 := Lib.hid (HBw11.out.trans (h12.mono HBw11.out.size)); clear h12; refine Hid.out ?_)
              unfold Hid
              go_wp2
              go_ret
              exact ⟨rfl, HB12.out⟩
            · rw [hv]
              have hj0 : ¬ (jj : Int) < 0 := by omega
              go_wp2_with (go_at_call 5; refine (HCB.out _).mono ?_; rintro r w12 ⟨rfl, h12⟩; have HB12 := Lib.hid (HBw11.out.trans (h12.mono HBw11.out.size)); clear h12; refine Hid.out ?_)
              unfold Hid
              go_wp2
              go_ret
              exact ⟨rfl, HB12.out⟩
end Go.Proofs.Ytamldoidalnloaa

/- TopConeGated: the row. -/
namespace Go.Proofs.Ytamldoidalnloaa.topConeGated
open Go.ChangeShapes Go.WideShapes Go.ChangeAt Go.RowKit Go.Flat
open Calm (bcell)
theorem gated_any (h : List Int) (A : Option Addr) (c : Nat) (wt fc : Int) (w : World) (hwt : 0 ≤ wt ∧ wt < 256) (hfc : 0 ≤ fc ∧ fc < 256) (hC : Cells w A h) : Calls Try.prog 3 #[.slice A h.length c, .int .u8 wt, .int .u8 fc] w fun r w' => r = .returned (.bool true) ∧ Below w.heap.size w w' := by
  by_cases h1 : 12 < h.length ∨ h.length = 0
  · exact gated_big h A c h.length wt fc w h1
  · exact gated_ok h A c h.length wt fc w rfl (by omega) (by omega) hwt hfc hC
theorem u8_of {x : Int} (h : (Lit.int .u8 x).wf = true) : 0 ≤ x ∧ x < 256 := by
  simp [Lit.wf] at h
  have h1 : IntKind.u8.min = 0 := by decide
  have h2 : IntKind.u8.max = 255 := by decide
  omega
set_option maxRecDepth 100000 in
theorem contract (H : Type) (enc : TypeId × Value → H) (W : World) (base : Nat) (args : Array Value) (ds gs : List (DataW H)) (before : List MemPlace)
    (hval : ∀ (j : Nat) t v, Try.f3.params[j]? = some t → args[j]? = some v → Value.okWide Try.prog W .any base t v)
    (hW : DataW.Whole enc Try.prog Try.f3.params.toList Rows.topConeGatedSpec.vars false W args.toList ds gs before) :
    Calls Try.prog 3 args W fun e W' => ∃ v, e = .returned v ∧ Rows.topConeGatedSpec.post enc Try.prog Try.f3 false true false false W args v W' := by
  have hW' := hW
  have hlt : ∀ p ∈ before, p.block < W.heap.size := fun p hp => hW.lt p hp
  obtain ⟨p, q, hA0, hV, rfl, hfz, hnd⟩ := hW
  have hA : DataW.TrodAll enc Try.prog W 0 (fun _ => true) true Try.f3.params.toList args.toList ds p := hA0
  rw [Try.params3] at hA hval
  obtain ⟨v0, v1, v2, d0, d1, d2, p0, p1, p2, rfl, rfl, rfl, h0, h1, h2⟩ := trodAll_three hA
  obtain ⟨rfl, rfl⟩ := trodVars_none hV
  obtain ⟨A, c, zs, rfl, _, _, j0⟩ := open_islice (hval 0 _ _ rfl rfl) h0
  obtain ⟨n1, rfl, _, _, wf1⟩ := open_int Try.underlying5 (hval 1 _ _ rfl rfl) h1
  obtain ⟨n2, rfl, _, _, wf2⟩ := open_int Try.underlying5 (hval 2 _ _ rfl rfl) h2
  refine (gated_any zs A c n1 n2 W (u8_of wf1) (u8_of wf2) j0).mono fun e W' ⟨he, hb⟩ => ?_
  subst he
  refine ⟨_, rfl, post_of_below (pa := p0 ++ p1 ++ p2) (pv := []) hW' (fun _ _ _ => trodAll_cons_mk (shut_bool Try.underlying4 _) trodAll_mk0) (fun sp hs => ?_) (fun _ _ => rfl) rfl hb (ok_one (by kernel_rfl) rfl (okWide_bool_mk Try.underlying4 _))⟩
  exact trodAll_below laidOut hb (by rw [Try.params3]; exact of_decide_eq_true (by kernel_rfl)) hA0 (fun x hx => hlt x (List.mem_append_left _ hx)) (fun x hx => hs x (List.mem_append_left _ hx))
set_option maxRecDepth 100000 in
theorem lifted (os : Os) (started : os.Started) (H : Type) (enc : TypeId × Value → H) :
    ReturnsInHanded {} Try.checked os 3 .any (Rows.topConeGatedSpec.pre6 enc Try.prog Try.f3 Rows.topConeGatedRow.domain false) (Rows.topConeGatedSpec.post enc Try.prog Try.f3 false true false false) := by
  refine returnsInHanded_of_change (C := Try.checked) own started (by kernel_rfl) Try.func3
    (ChangeSpec.witness6 (enc := enc) (C := Try.checked) false ⟨#[], #[.slice none 0 0, .int .u8 0, .int .u8 0], []⟩ 8 (by kernel_rfl) (by kernel_rfl) (by kernel_rfl) (by kernel_rfl)) ?_
  intro W base args ds gs before hval hW hcnd _
  exact contract H enc W base args ds gs before hval hW
theorem said : Rows.TopConeGatedSaid :=
  OpenClaim.holds_of_wide 3 Try.f3 rfl rfl rfl rfl rfl rfl rfl ⟨rfl, rfl, rfl, rfl, rfl⟩ rfl rfl rfl rfl rfl (by kernel_rfl) Try.func3 (by kernel_rfl)
    (of_decide_eq_true (by kernel_rfl)) (by unfold Func.isWrapper; first | (rw [if_pos (by decide +kernel)]; kernel_rfl) | (rw [if_neg (by decide +kernel)]; exact ⟨rfl, rfl⟩))
    (fun os started H enc _ => lifted os started H enc)
end Go.Proofs.Ytamldoidalnloaa.topConeGated
