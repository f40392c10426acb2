/- Part 14 of the texts of the claim: Th3, Tg2, Tg3, Tg5, Th4. -/
import Derived.Test.YtamldoidalnloaaMm10
import Derived.Test.YtamldoidalnloaaMm7
import Derived.Test.YtamldoidalnloaaMm11
import Derived.Test.YtamldoidalnloaaMm13

/- chamber: Divide of a convolution by its second factor. -/
namespace Go.Proofs.Ytamldoidalnloaa
open Go.RowKit
open Calm (bcell Blk)
/-- what is left of an element of a convolution where the products of the elements from 1 up to i are taken off. -/
def dvF (a q : List Int) (k m : Nat) : Int := a.getD m 0 * q.getD (k - m) 0
def dvI (y a q : List Int) (k i : Nat) : Int := y.getD k 0 - (sig i (dvF a q k) - dvF a q k 0)
theorem dvI_one (y a q : List Int) (k : Nat) : dvI y a q k 1 = y.getD k 0 := by unfold dvI; simp [sig]
theorem dvI_succ (y a q : List Int) (k i : Nat) : dvI y a q k (i + 1) = dvI y a q k i - a.getD i 0 * q.getD (k - i) 0 := by unfold dvI; simp only [sig, dvF]; omega
theorem dvI_end (a q : List Int) (k i : Nat) (h : i = a.length ∧ i ≤ k + 1 ∨ i = k + 1 ∧ i ≤ a.length) : dvI (conv q a) a q k i = a.getD 0 0 * q.getD k 0 := by
  have e : (conv q a).getD k 0 = sig (k + 1) (dvF a q k) := by
    have := conv_gd q a k
    rw [cp_comm] at this
    exact this
  have e2 : sig (k + 1) (dvF a q k) = sig i (dvF a q k) := by
    rcases h with ⟨h1, h2⟩ | ⟨h1, h2⟩
    · have := sig_more (f := dvF a q k) (n := i) (d := k + 1 - i) (fun m q1 q2 => by
        have := gd_out (l := a) (k := m) (by omega)
        unfold gd at this
        unfold dvF
        rw [this, Int.zero_mul])
      rwa [show i + (k + 1 - i) = k + 1 by omega] at this
    · rw [h1]
  unfold dvI
  rw [e, e2]
  unfold dvF
  rw [Nat.sub_zero]
  omega
theorem dvF_bd {a q : List Int} (ha : lvls a) (hq : lvls q) (k m : Nat) : -1099511627776 ≤ dvF a q k m ∧ dvF a q k m ≤ 1099511627776 := prod_bd (lvl_get ha m) (lvl_get hq (k - m))
theorem sig_bd {f : Nat → Int} {B : Int} (h : ∀ m, -B ≤ f m ∧ f m ≤ B) : ∀ n : Nat, -(B * (n : Int)) ≤ sig n f ∧ sig n f ≤ B * (n : Int)
  | 0 => by simp [sig]
  | n + 1 => by
    have h1 := sig_bd h n
    have h2 := h n
    have e : B * ((n + 1 : Nat) : Int) = B * (n : Int) + B := by rw [Int.natCast_add, Int.mul_add]; simp
    simp only [sig]
    rw [e]
    omega
theorem dvI_bd {y a q : List Int} (hy : lvls y) (ha : lvls a) (hq : lvls q) (k i : Nat) (hi : i ≤ 1000) : -2251799813685248 ≤ dvI y a q k i ∧ dvI y a q k i ≤ 2251799813685248 := by
  have h1 := lvl_get hy k
  have h2 := sig_bd (dvF_bd ha hq k) i
  have h3 := dvF_bd ha hq k 0
  unfold dvI
  omega
set_option maxRecDepth 100000 in
set_option maxHeartbeats 8000000 in
theorem Divide_ok (q a y : List Int) (A B : Option Addr) (cy ca K M L : Nat) (w : World) (hy : y = conv q a) (hK : K = q.length) (hM : M = a.length) (hK1 : 1 ≤ K) (hM1 : 1 ≤ M) (hK5 : K ≤ 300) (hM5 : M ≤ 300) (hL : L = K + M - 1) (h0 : a.getD 0 0 ≠ 0) (vq : lvls q) (va : lvls a) (vy : lvls y) (hY : Cells w A y) (hA : Cells w B a) :
    Calls Try.prog 22 #[.slice A L cy, .slice B M ca] w fun r w' => ∃ u, r = .returned (.tuple #[u, (.int .i64 0)]) ∧ FS w.heap.size q u w' ∧ Below w.heap.size w w' := by
  have hly : L = y.length := by rw [hy, conv_len, if_neg (by omega), hL, hK, hM]
  have HSY : Hid (∀ W, Cells W A y → Calls Try.prog 54 #[.slice A L cy] W fun r w' => r = .returned (.int .i64 0) ∧ Below W.heap.size W w') := Lib.hid (fun W q0 => gSequence_ok y A cy L W hly q0 (by omega) vy)
  have HSA : Hid (∀ W, Cells W B a → Calls Try.prog 54 #[.slice B M ca] W fun r w' => r = .returned (.int .i64 0) ∧ Below W.heap.size W w') := Lib.hid (fun W q0 => gSequence_ok a B ca M W hM q0 (by omega) va)
  have HF3 : Hid (∀ (W : World), Calls Try.prog 27 #[.slice (some ⟨W.heap.size, 0, none⟩) 3 3] (W.alloc (.cells #[(.int .i64 0), (.int .i64 0), (.int .i64 0)] 24)) fun r w' => r = .returned (.int .i64 0) ∧ (W.alloc (.cells #[(.int .i64 0), (.int .i64 0), (.int .i64 0)] 24)) = w') := Lib.hid (fun W => cFirst_cells [0, 0, 0] W (by simp))
  have HF2 : Hid (∀ (W : World), Calls Try.prog 27 #[.slice (some ⟨W.heap.size, 0, none⟩) 2 2] (W.alloc (.cells #[(.int .i64 0), (.int .i64 0)] 24)) fun r w' => r = .returned (.int .i64 0) ∧ (W.alloc (.cells #[(.int .i64 0), (.int .i64 0)] 24)) = w') := Lib.hid (fun W => cFirst_cells [0, 0] W (by simp))
  have HCV : Hid (∀ W D d, Cells W D q → Cells W B a → Calls Try.prog 67 #[.slice D K d, .slice B M ca] W fun r w' => (∃ D d, r = .returned (.slice D L d) ∧ Cells w' D y) ∧ Below W.heap.size W w') := Lib.hid (fun W D d q1 q2 => by
    refine (convolved_any q a D B d ca K M W hK hM (by omega) (by omega) vq va q1 q2).mono ?_
    rintro r w' ⟨v, rfl, ⟨D, d, rfl, h1, h2⟩, h3⟩
    exact ⟨⟨D, d, by rw [← hy, ← hly], by rw [hy]; exact h1⟩, h3⟩)
  have HEQ : Hid (∀ W D d, Cells W D y → Cells W A y → Calls Try.prog 36 #[.slice D L d, .slice A L cy] W fun r w' => r = .returned (.bool true) ∧ Below W.heap.size W w') := Lib.hid (fun W D d q1 q2 => equal_ok y D A d cy L W hly (by omega) q1 q2)
  have HLK : Hid (∀ k, k ≤ K → (q.take k).length = k) := Lib.hid (fun k hk => by rw [List.length_take]; omega)
  have HBD : Hid (∀ k i, i ≤ 1000 → -2251799813685248 ≤ dvI y a q k i ∧ dvI y a q k i ≤ 2251799813685248) := Lib.hid (dvI_bd vy va vq)
  have HPB : Hid (∀ k i, -1099511627776 ≤ a.getD i 0 * q.getD (k - i) 0 ∧ a.getD i 0 * q.getD (k - i) 0 ≤ 1099511627776) := Lib.hid (dvF_bd va vq)
  have HQB : Hid (∀ k, -1048576 ≤ q.getD k 0 ∧ q.getD k 0 ≤ 1048576) := Lib.hid (lvl_get vq)
  have HAB : Hid (∀ k, -1048576 ≤ a.getD k 0 ∧ a.getD k 0 ≤ 1048576) := Lib.hid (lvl_get va)
  have HEND : Hid (∀ k i, (i = M ∧ i ≤ k + 1 ∨ i = k + 1 ∧ i ≤ M) → dvI y a q k i = a.getD 0 0 * q.getD k 0) := Lib.hid (fun k i h => by rw [hy]; rw [hM] at h; exact dvI_end a q k i h)
  have HONE : Hid (∀ k, dvI y a q k 1 = y.getD k 0) := Lib.hid (dvI_one y a q)
  have HSU : Hid (∀ k i, dvI y a q k (i + 1) = dvI y a q k i - a.getD i 0 * q.getD (k - i) 0) := Lib.hid (dvI_succ y a q)
  obtain ⟨b0, o0, rfl, lb0, cb0⟩ := hA (by omega)
  obtain ⟨b1, o1, rfl, lb1, cb1⟩ := hY (by omega)
  obtain ⟨a0, ha0⟩ : ∃ a0, a0 = a.getD 0 0 := ⟨_, rfl⟩
  have HA0 : Hid (∀ W, Below w.heap.size w W → W.cell? ⟨b0, o0, none⟩ = some (.int .i64 a0)) := Lib.hid (fun W hb => by rw [ha0]; exact (hb.cell (p := ⟨b0, o0, none⟩) lb0).trans (cb0 0 (by omega)))
  have HAC : Hid (∀ W k, Below w.heap.size w W → k < M → W.cell? ⟨b0, o0 + k, none⟩ = some (.int .i64 (a.getD k 0))) := Lib.hid (fun W k hb hk => (hb.cell (p := ⟨b0, o0 + k, none⟩) lb0).trans (cb0 k (by omega)))
  have HYC : Hid (∀ W k, Below w.heap.size w W → k < L → W.cell? ⟨b1, o1 + k, none⟩ = some (.int .i64 (y.getD k 0))) := Lib.hid (fun W k hb hk => (hb.cell (p := ⟨b1, o1 + k, none⟩) lb1).trans (cb1 k (by omega)))
  have HSTK : Hid (∀ k, k < K → q.take (k + 1) = q.take k ++ [q.getD k 0]) := Lib.hid (fun k hk => by rw [List.take_succ_eq_append_getElem (by omega), List.getD_eq_getElem?_getD, List.getElem?_eq_getElem (by omega)]; rfl)
  have HTG : Hid (∀ k j, j < k → (q.take k).getD j 0 = q.getD j 0) := Lib.hid (fun k j hj => by rw [List.getD_eq_getElem?_getD, List.getElem?_take, if_pos hj, ← List.getD_eq_getElem?_getD])
  have h0' : a0 ≠ 0 := by rw [ha0]; exact h0
  have hab := HAB.out 0
  rw [← ha0] at hab
  have HA00 := Lib.hid ha0
  have HKK := Lib.hid hK
  have HA := Lib.hid hA
  have HY := Lib.hid hY
  have HLL := Lib.hid hL
  have hLi : (L : Int) - (M : Int) + 1 = (K : Int) := by omega
  have c1 : ((M : Int) == 0) = false := beq_eq_false_iff_ne.2 (by omega)
  have c2 : (a0 == 0) = false := beq_eq_false_iff_ne.2 h0'
  have c3 : decide ((0 : Int) < (L : Int)) = true := decide_eq_true (by omega)
  have c4 : decide ((L : Int) < (M : Int)) = false := decide_eq_false (by omega)
  have c5 : ((L : Int) == 0) = false := beq_eq_false_iff_ne.2 (by omega)
  have c6 : (0 : Int) < (M : Int) := by omega
  have c6b : 0 < M := by omega
  have c7 : (0 : Int) < (L : Int) := by omega
  clear hy hly hK hM hL h0 vq va vy hY hA cb0 cb1 ha0
  go_enter Try.func22, Try.ntmps22
  go_wp2_with (go_at_call 54; refine (HSY.out w HY.out).mono ?_; rintro r w1 ⟨rfl, h1⟩; refine Hid.out ?_)
  unfold Hid
  have HB1 := Lib.hid h1
  clear h1
  go_wp2_with (go_at_call 54; refine (HSA.out w1 (HA.out.below HB1.out)).mono ?_; rintro r w2 ⟨rfl, h2⟩; refine Hid.out ?_)
  unfold Hid
  have HB2 := Lib.hid (HB1.out.trans (h2.mono HB1.out.size))
  clear h2
  go_wp2_with (first
    | (go_at_call 37; refine (cWhen_any _ _ _).mono ?_; rintro r wx ⟨rfl, rfl⟩)
    | (go_at_call 27; refine (HF3.out _).mono ?_; rintro r wx ⟨rfl, rfl⟩; refine Hid.out ?_))
  unfold Hid
  have x0 := HA0.out w2 HB2.out
  have lb2 : b0 < w2.heap.size := Nat.lt_of_lt_of_le lb0 HB2.out.size
  go_wp2_with (go_at_call 37; refine name_calls ?_; intro w3 e3; refine Hid.out ?_)
  unfold Hid
  have h3 : Below w2.heap.size w2 w3 := by rw [e3]; exact bel
  have HB3 := Lib.hid (HB2.out.trans (h3.mono HB2.out.size))
  clear e3 h3 x0 lb2
  refine (cWhen_any _ _ _).mono ?_
  rintro r wx ⟨rfl, rfl⟩
  go_wp2_with (first
    | (go_at_call 37; refine (cWhen_any _ _ _).mono ?_; rintro r wx ⟨rfl, rfl⟩)
    | (go_at_call 27; refine (HF2.out _).mono ?_; rintro r wx ⟨rfl, rfl⟩))
  refine name_world ?_
  intro w4 e4
  have h4 : Below w3.heap.size w3 w4 := by rw [e4]; exact bel
  have HB4 := Lib.hid (HB3.out.trans (h4.mono HB3.out.size))
  have hs4 := HB4.out.size
  clear e4 h4
  clear c1 c2 c3 c4 c5 hLi
  go_loopw [8, 57] (fun s z wr => ∃ k : Nat, k ≤ K ∧ z = (.int .i64 ((k : Int))) ∧ wr.ownsRow w4.heap.size 3 1 s (q.take k).length ((q.take k).map (Value.int .i64)) ∧ Below w4.heap.size w4 wr) (fun _ z _ => K - (intOf z).toNat)
  case atStart => exact ⟨0, Nat.zero_le _, rfl, World.ownsRow_nil _ _ _ _, Below.refl _ _⟩
  case round =>
    obtain ⟨k, hk, rfl, ho, hb⟩ := hrel
    obtain ⟨S, d, rfl⟩ := own_slice ho
    have HO := Lib.hid ho
    have HBR := Lib.hid (HB4.out.trans (hb.mono hs4))
    have HB4R := Lib.hid hb
    have hsr : w4.heap.size ≤ wr.heap.size := hb.size
    rw [HLK.out k hk] at HO ⊢
    clear ho hb
    by_cases hlt : k < K
    · have hkL : k < L := by have := HLL.out; omega
      have hkLi : (k : Int) < (L : Int) := by omega
      have y1 := HYC.out wr k HBR.out hkL
      have lb3 : b1 < wr.heap.size := Nat.lt_of_lt_of_le lb1 HBR.out.size
      obtain ⟨yk, hyk⟩ : ∃ yk, yk = y.getD k 0 := ⟨_, rfl⟩
      rw [← hyk] at y1
      have HYK : Hid (dvI y a q k 1 = yk) := Lib.hid (by rw [HONE.out, hyk])
      clear hyk
      go_wp2
      clear y1 lb3
      go_loopw [10, 11] (fun s z wq => ∃ i : Nat, 1 ≤ i ∧ i ≤ M ∧ i ≤ k + 1 ∧ z = (.int .i64 ((i : Int))) ∧ s = (.int .i64 (dvI y a q k i)) ∧ Below wr.heap.size wr wq) (fun _ z _ => M - (intOf z).toNat)
      case atStart => exact ⟨1, Nat.le_refl _, hM1, by omega, rfl, by rw [HYK.out], Below.refl _ _⟩
      case round =>
        rename World => wq
        obtain ⟨i, hi1, hiM, hik, rfl, rfl, hbq⟩ := hrel
        have HBQ := Lib.hid hbq
        have HBW := Lib.hid (HBR.out.trans (hbq.mono HBR.out.size))
        clear hbq
        by_cases hin : i < M ∧ i ≤ k
        · obtain ⟨hi2, hi3⟩ := hin
          have hm1 : (i : Int) < (M : Int) := by omega
          have hm2 : (i : Int) ≤ (k : Int) := by omega
          have xa := HAC.out wq i HBW.out hi2
          have la : b0 < wq.heap.size := Nat.lt_of_lt_of_le lb0 HBW.out.size
          obtain ⟨D, d', hSd, hDn, hDC⟩ := own_ints (zs := q.take k) (ownsRow_below HO.out HBQ.out) (HLK.out k hk).symm
          cases hSd
          obtain ⟨b2, o2, rfl, lb2, hc2⟩ := hDC (by rw [HLK.out k hk]; omega)
          obtain ⟨j, hj⟩ : ∃ j, j = k - i := ⟨_, rfl⟩
          have xq := hc2 j (by rw [HLK.out k hk]; omega)
          rw [HTG.out k j (by omega)] at xq
          have hji : (k : Int) - (i : Int) = (j : Int) := by omega
          have hjk : (j : Int) < (k : Int) := by omega
          have hpb := HPB.out k i
          rw [← hj] at hpb
          have hbd := HBD.out k i (by omega)
          have hbd2 := HBD.out k (i + 1) (by omega)
          have HST := Lib.hid (HSU.out k i)
          rw [← hj] at HST
          rw [HSU.out k i, ← hj] at hbd2
          obtain ⟨x1, hx1⟩ : ∃ x, x = a.getD i 0 := ⟨_, rfl⟩
          obtain ⟨x2, hx2⟩ : ∃ x, x = q.getD j 0 := ⟨_, rfl⟩
          obtain ⟨R, hR⟩ : ∃ R, R = dvI y a q k i := ⟨_, rfl⟩
          rw [← hx1] at xa hpb HST hbd2
          rw [← hx2] at xq hpb HST hbd2
          rw [← hR] at hbd HST hbd2 ⊢
          clear hc2 hDC hx1 hx2 hR hDn hj
          go_wp2
          go_region
          go_wp2
          go_roundw
          case rel => exact ⟨i + 1, by omega, by omega, by omega, by go_num, by rw [HST.out], HBQ.out.drew⟩
          case measure => simp [intOf]; omega
        · have HEN := Lib.hid (HEND.out k i (by omega))
          have hcs : (¬ (i : Int) < (M : Int)) ∨ ((i : Int) < (M : Int) ∧ ¬ (i : Int) ≤ (k : Int)) := by omega
          have xa0 := HA0.out wq HBW.out
          have la : b0 < wq.heap.size := Nat.lt_of_lt_of_le lb0 HBW.out.size
          obtain ⟨X, hX⟩ : ∃ X, X = q.getD k 0 := ⟨_, rfl⟩
          obtain ⟨R, hR⟩ : ∃ R, R = dvI y a q k i := ⟨_, rfl⟩
          have hXb := HQB.out k
          rw [← hX] at HEN hXb
          rw [← hR] at HEN ⊢
          rw [← HA00.out] at HEN
          have hq1 : R.tdiv a0 = X := by rw [HEN.out]; exact Int.mul_tdiv_cancel_left X h0'
          have hq2 : R.tmod a0 = 0 := by rw [HEN.out]; exact Int.mul_tmod_right a0 X
          have hRb := HBD.out k i (by omega)
          rw [← hR] at hRb
          have hre : rangeErr X (-1048576) 1048576 = 0 := rangeErr_in hXb.1 hXb.2
          have HLV : Hid (∀ W, Calls Try.prog 31 #[(.int .i64 X)] W fun r w' => r = .returned (.int .i64 0) ∧ W = w') := Lib.hid (fun W => by have := cLevel_any X W; rwa [hre] at this)
          have HX := Lib.hid hX
          have h0n : ¬ a0 = 0 := h0'
          clear hX hR hre hin
          rcases hcs with hm1 | ⟨hm1, hm2⟩
          all_goals (
            go_wp2_with (first
              | (go_at_call 37; refine (cWhen_any _ _ _).mono ?_; rintro r wx ⟨rfl, rfl⟩)
              | (go_at_call 31; refine (HLV.out _).mono ?_; rintro r wx ⟨rfl, rfl⟩)
              | (go_at_call 27; refine (HF2.out _).mono ?_; rintro r wx ⟨rfl, rfl⟩)
              | (at_builtin; refine name_list ?_; intro w8 e8; refine Hid.out ?_))
            unfold Hid
            have h8 : Below wq.heap.size wq w8 := by rw [e8]; exact bel
            have K8 : Blk w8 (wq.heap.size + 1) #[(.int .i64 X)] := by rw [e8]; (repeat (first | ((with_reducible refine Blk.at_ ?_); focus (first | rfl | (simp; done) | (simp; omega))) | (with_reducible refine Blk.alloc ?_ _) | (with_reducible refine Blk.below ?_ (by with_reducible assumption)) | (with_reducible refine Blk.drew ?_)))
            have HO8 := Lib.hid (ownsRow_below (ownsRow_below HO.out HBQ.out) h8)
            have HB8 : Hid (Below w4.heap.size w4 w8) := Lib.hid ((HB4R.out.trans (HBQ.out.mono hsr)).trans (h8.mono (Nat.le_trans hsr HBQ.out.size)))
            have hC8 : Cells w8 (some ⟨wq.heap.size + 1, 0, none⟩) [X] := Cells.blk K8 rfl
            have hs8 := HB8.out.size
            have hlk := HLK.out k hk
            clear e8 h8 K8 xa0 la hq1 hq2 hRb h0n hm1
            refine wpList_appS rfl _ _ rfl w4.heap.size _ (q.take k) rfl (by rw [hlk]; exact HO8.out) _ 1 1 [X] rfl rfl hC8 (by omega) hs8 ?_
            intro v' w9 hown hgrow
            have HB9 := Lib.hid (HB8.out.grown hgrow hs8 (fun j hj => (HO8.out.lt j hj).1))
            have HO9 := Lib.hid hown
            have HSX := Lib.hid (HSTK.out k hlt)
            rw [← HX.out] at HSX
            clear hown hgrow hC8 hlk
            go_wp2
            go_roundw
            case rel => exact ⟨k + 1, by omega, by go_num, by rw [HSX.out]; exact HO9.out, HB9.out⟩
            case measure => simp [intOf]; omega)
    · obtain rfl : k = K := by omega
      obtain ⟨D, d', hSd, hDn, hDC⟩ := own_ints (zs := q.take k) HO.out (HLK.out k hk).symm
      cases hSd
      rw [show q.take k = q by rw [HKK.out]; exact List.take_length] at hDC
      have HDC := Lib.hid hDC
      have HDN := Lib.hid hDn
      clear hDC hDn
      go_wp2_with (go_at_call 67; refine (HCV.out wr S d HDC.out (HA.out.below HBR.out)).mono ?_; rintro r w5 ⟨⟨E, e, rfl, hE⟩, h5⟩; refine Hid.out ?_)
      unfold Hid
      have HB5 := Lib.hid (HBR.out.trans (h5.mono HBR.out.size))
      have HD5 := Lib.hid (HDC.out.below h5)
      have HE := Lib.hid hE
      clear h5 hE
      go_wp2_with (go_at_call 36; refine (HEQ.out w5 E e HE.out (HY.out.below HB5.out)).mono ?_; rintro r w6 ⟨rfl, h6⟩; refine Hid.out ?_)
      unfold Hid
      have HB6 := Lib.hid (HB5.out.trans (h6.mono HB5.out.size))
      have HD6 := Lib.hid (HD5.out.below h6)
      clear h6
      go_wp2
      refine bodyPost_ret (v := .tuple #[.slice S k d, (.int .i64 0)]) (by simp [results, Try.results22, go_sem]) rfl ⟨_, rfl, ⟨S, d, by rw [← HKK.out], HD6.out, fun p hp => by have := HDN.out p hp; omega⟩, HB6.out⟩
end Go.Proofs.Ytamldoidalnloaa

/- signal: the products of two sequences as an iterator. -/
namespace Go.Proofs.Ytamldoidalnloaa
open Go.RowKit
open Calm (bcell Blk)
/-- what is handed out in round t. -/
def ProdR (a b : List Int) (M t : Nat) (v : Array Value) (_ : World) : Prop := v = #[(.int .i64 (((t / M : Nat) : Int) + ((t % M : Nat) : Int))), (.int .i64 (a.getD (t / M) 0 * b.getD (t % M) 0))]
theorem dm {M i k : Nat} (hk : k < M) : (i * M + k) / M = i ∧ (i * M + k) % M = k := by
  have h0 : 0 < M := by omega
  constructor
  · rw [Nat.add_comm, Nat.add_mul_div_right _ _ h0, Nat.div_eq_of_lt hk, Nat.zero_add]
  · rw [Nat.add_comm, Nat.add_mul_mod_self_right, Nat.mod_eq_of_lt hk]
theorem products_any (A B : Option Addr) (N M ca cb : Nat) (w : World) : Calls Try.prog 97 #[.slice A N ca, .slice B M cb] w fun e w' => e = .returned (.func (.func 112) #[] #[.pointer (some ⟨w.heap.size, 0, none⟩), .pointer (some ⟨w.heap.size + 1, 0, none⟩)]) ∧
    Below w.heap.size w w' ∧ Blk w' w.heap.size #[.slice A N ca] ∧ Blk w' (w.heap.size + 1) #[.slice B M cb] ∧ w'.heap.size = w.heap.size + 2 := by
  go_enter Try.func97, Try.ntmps97
  go_wp2
  go_ret
  exact ⟨by first | rfl | (simp; done), by (repeat (first | (with_reducible exact Below.refl _ _) | ((with_reducible refine Below.setCell ?_ ?_ _); rotate_left 1; focus (first | (simp; done) | (simp; omega) | (simp at *; omega))) | ((with_reducible refine Below.alloc ?_ ?_ _); rotate_left 1; focus (first | (simp; done) | (simp; omega) | (simp at *; omega))) | (with_reducible refine Below.drew ?_) | ((with_reducible refine Calm.step (by assumption) ?_ ?_); rotate_left 1; focus (first | (simp; done) | (simp; omega) | (simp at *; omega))))), by (repeat (first | ((with_reducible refine Blk.at_ ?_); focus (first | rfl | (simp; done) | (simp; omega))) | (with_reducible refine Blk.alloc ?_ _) | (with_reducible refine Blk.below ?_ (by with_reducible assumption)) | (with_reducible refine Blk.drew ?_))), by (repeat (first | ((with_reducible refine Blk.at_ ?_); focus (first | rfl | (simp; done) | (simp; omega))) | (with_reducible refine Blk.alloc ?_ _) | (with_reducible refine Blk.below ?_ (by with_reducible assumption)) | (with_reducible refine Blk.drew ?_))), by simp⟩
set_option maxRecDepth 100000 in
set_option maxHeartbeats 4000000 in
theorem products1_iter (a b : List Int) (A B : Option Addr) (N M ca cb Pa Pb sb : Nat) (w : World) (n : Nat) (hN : N = a.length) (hM : M = b.length) (hN5 : N ≤ 5000) (hM5 : M ≤ 5000) (ha : lvls a) (hb : lvls b)
    (hA : Cells w A a) (hB : Cells w B b) (kA : Blk w Pa #[.slice A N ca]) (kB : Blk w Pb #[.slice B M cb]) (oA : 0 < a.length → Off sb A) (oB : 0 < b.length → Off sb B) (oPa : Pa ≠ sb) (oPb : Pb ≠ sb) (h1n : 1 ≤ n) :
    IterR Fence.wide n Try.prog 112 #[.pointer (some ⟨Pa, 0, none⟩), .pointer (some ⟨Pb, 0, none⟩)] 2 (ProdR a b M) (List.range (N * M)) (Rest sb w.heap.size) w := by
  intro l J W hCW hCl hle hJb hY h00
  have hfn : ∀ f, Fence.wide.fn f = True := fun _ => rfl
  have HE : Hid (∀ W' : World, (∀ k, Rest sb w.heap.size k → W'.heap[k]? = w.heap[k]?) → Blk W' Pa #[.slice A N ca] ∧ Blk W' Pb #[.slice B M cb] ∧ Cells W' A a ∧ Cells W' B b) := Lib.hid (fun W' hW =>
    ⟨kA.of_block (hW _ ⟨kA.lt, oPa⟩), kB.of_block (hW _ ⟨kB.lt, oPb⟩), hA.rest' oA hW, hB.rest' oB hW⟩)
  have HLA := Lib.hid (fun k => lvl_get ha k)
  have HLB := Lib.hid (fun k => lvl_get hb k)
  have HCW := Lib.hid hCW
  have HY := Lib.hid hY
  have HN := Lib.hid hN
  have HM := Lib.hid hM
  obtain ⟨k0, k1, -, -⟩ := HE.out W HCW.out
  obtain ⟨l0, ll, lf⟩ := k0.o1
  obtain ⟨g0, gl, gf⟩ := k1.o1
  clear hCW hCl hJb hY hA hB kA kB oA oB oPa oPb hN hM ha hb k0 k1
  refine callsIn_of_wp Try.func112 rfl trivial ?_ rfl
  simp only [Try.ntmps112, List.size_toArray, List.length_cons, List.length_nil, Nat.reduceAdd, Nat.reduceSub, Array.replicate_succ, Array.replicate_zero, List.push_toArray, List.append_toArray, List.nil_append, List.cons_append]
  gi_wp2
  gi_loopw [10] (fun i wr => ∃ k : Nat, k ≤ N ∧ i = (.int .i64 ((k : Int))) ∧ J (List.range (k * M)) wr ∧ (∀ j, Rest sb w.heap.size j → wr.heap[j]? = w.heap[j]?)) (fun i _ => N - (intOf i).toNat)
  case atStart => exact ⟨0, Nat.zero_le _, rfl, by simpa using h00, HCW.out⟩
  case round =>
    obtain ⟨i, hi, rfl, hJ1, hC1⟩ := hrel
    have HJ1 := Lib.hid hJ1
    have HC1 := Lib.hid hC1
    clear l0 ll lf g0 gl gf
    by_cases hlt : i < N
    · obtain ⟨k0, k1, qA, -⟩ := HE.out wr hC1
      obtain ⟨g0, gl, gf⟩ := k1.o1
      obtain ⟨b1, o1, rfl, lb1, hc1⟩ := qA (by rw [← HN.out]; omega)
      have x1 := hc1 i (by rw [← HN.out]; exact hlt)
      obtain ⟨x, hx⟩ : ∃ x, x = a.getD i 0 := ⟨_, rfl⟩
      have hxb := HLA.out i
      rw [← hx] at x1 hxb
      have HX := Lib.hid hx
      clear hc1 hx hJ1 hC1 k0 k1 qA
      gi_wp2
      clear g0 gl gf x1 lb1
      gi_loopw [17] (fun z wq => ∃ k : Nat, k ≤ M ∧ z = (.int .i64 ((k : Int))) ∧ J (List.range (i * M + k)) wq ∧ (∀ j, Rest sb w.heap.size j → wq.heap[j]? = w.heap[j]?)) (fun z _ => M - (intOf z).toNat)
      case atStart => exact ⟨0, Nat.zero_le _, rfl, HJ1.out, HC1.out⟩
      case round =>
        rename World => wq
        obtain ⟨k, hk, rfl, hJ2, hC2⟩ := hrel
        have HJ2 := Lib.hid hJ2
        have HC2 := Lib.hid hC2
        by_cases hltk : k < M
        · obtain ⟨-, -, -, qB⟩ := HE.out wq hC2
          obtain ⟨b2, o2, rfl, lb2, hc2⟩ := qB (by rw [← HM.out]; omega)
          have y1 := hc2 k (by rw [← HM.out]; exact hltk)
          obtain ⟨y, hy⟩ : ∃ y, y = b.getD k 0 := ⟨_, rfl⟩
          have hyb := HLB.out k
          rw [← hy] at y1 hyb
          have hpb := prod_bd hxb hyb
          have htt : i * M + k < N * M := by
            have h1 := Nat.mul_le_mul_right M (show i + 1 ≤ N by omega)
            rw [Nat.add_mul, Nat.one_mul] at h1
            omega
          have hR := HY.out (List.range (i * M + k)) (i * M + k) #[(.int .i64 ((i : Int) + (k : Int))), (.int .i64 (x * y))] wq hJ2 hC2 ⟨(List.range (N * M)).drop (i * M + k + 1), range_split htt⟩ rfl (by unfold ProdR; rw [(dm hltk).1, (dm hltk).2, HX.out, hy])
          obtain ⟨fn, tmps, assign, body, hy', hRR⟩ := hR
          have HR := Lib.hid hRR
          clear hc2 hJ2 hC2 hRR hy qB htt
          gi_wp2
          refine HR.out.mono ?_
          rintro e W5 ⟨rfl, hJ5, hC5⟩
          have HC6 : Hid (∀ j, Rest sb w.heap.size j → W5.heap[j]? = w.heap[j]?) := Lib.hid (fun j hj => (hC5 j hj).trans (HC2.out j hj))
          have HJ5 := Lib.hid hJ5
          clear hJ5 hC5 hy' HR y1 lb2
          gi_wp2
          go_roundw
          case rel => exact ⟨k + 1, by omega, by go_num, by rw [← Nat.add_assoc, List.range_succ]; exact HJ5.out, HC6.out⟩
          case measure => simp [intOf] <;> omega
        · obtain rfl : k = M := by omega
          clear hJ2 hC2
          gi_wp2
          go_roundw
          case rel => exact ⟨i + 1, by omega, by go_num, by rw [Nat.add_mul, Nat.one_mul]; exact HJ2.out, HC2.out⟩
          case measure => simp [intOf] <;> omega
    · obtain rfl : i = N := by omega
      clear hJ1 hC1
      gi_wp2
      go_end0
      exact ⟨⟨_, rfl⟩, HJ1.out⟩
end Go.Proofs.Ytamldoidalnloaa

/- signal: the convolution of two sequences; Convolve. -/
namespace Go.Proofs.Ytamldoidalnloaa
open Go.RowKit
open Calm (bcell Blk)
/-- the result behind t products. -/
def pvA (a b : List Int) (L M t : Nat) : Array Value := cvA a b L (t / M) (t % M)
theorem pvA_size (a b : List Int) (L M t : Nat) : (pvA a b L M t).size = L := cvA_size _ _ _ _ _
theorem dmt {N M t : Nat} (h : t < N * M) : 0 < M ∧ t / M < N ∧ t % M < M := by
  have h0 : 0 < M := by
    rcases Nat.eq_zero_or_pos M with rfl | h1
    · simp at h
    · exact h1
  exact ⟨h0, (Nat.div_lt_iff_lt_mul h0).2 h, Nat.mod_lt _ h0⟩
theorem pvA_set (a b : List Int) (L N M t : Nat) (hM : M = b.length) (hL : L = N + M - 1) (ht : t < N * M) :
    (pvA a b L M t).setIfInBounds (t / M + t % M) (.int .i64 (cvV a b (t / M) (t % M) (t / M + t % M) + a.getD (t / M) 0 * b.getD (t % M) 0)) = pvA a b L M (t + 1) := by
  obtain ⟨h0, h1, h2⟩ := dmt ht
  unfold pvA
  rw [cvA_set a b L (t / M) (t % M) (by omega)]
  have e : M * (t / M) + t % M = t := Nat.div_add_mod t M
  rw [Nat.mul_comm] at e
  by_cases hk : t % M + 1 < M
  · have := dm (M := M) (i := t / M) (k := t % M + 1) hk
    rw [← Nat.add_assoc, e] at this
    rw [this.1, this.2]
  · have := dm (M := M) (i := t / M + 1) (k := 0) h0
    rw [Nat.add_mul, Nat.one_mul, Nat.add_zero, show t / M * M + M = t + 1 by omega] at this
    rw [this.1, this.2, show t % M + 1 = b.length by omega]
    exact cvA_row a b L (t / M)
theorem pvA_zero (a b : List Int) (L M : Nat) : pvA a b L M 0 = (zerosA L).toArray := by
  unfold pvA
  rw [Nat.zero_div, Nat.zero_mod]
  exact cvA_zero a b L
theorem pvA_end (a b : List Int) (N M : Nat) (hN : N = a.length) (hM : M = b.length) : pvA a b (lenC N M) M (N * M) = ((conv a b).map (Value.int .i64)).toArray ∧ (conv a b).length = lenC N M := by
  by_cases h : N = 0 ∨ M = 0
  · have e : conv a b = [] := by unfold conv; rw [if_pos (by omega)]
    have e2 : lenC N M = 0 := if_pos h
    rw [e, e2]
    exact ⟨by unfold pvA cvA; simp, rfl⟩
  · have e2 : lenC N M = N + M - 1 := if_neg h
    rw [e2]
    refine ⟨?_, by rw [conv_len, if_neg (by omega)]; omega⟩
    have := dm (M := M) (i := N) (k := 0) (by omega)
    rw [Nat.add_zero] at this
    unfold pvA
    rw [this.1, this.2, hN, hM]
    exact cvA_end a b (by omega) (by omega)
set_option maxRecDepth 100000 in
set_option maxHeartbeats 8000000 in
theorem gConvolved_any (a b : List Int) (A B : Option Addr) (N M ca cb : Nat) (w : World) (hN : N = a.length) (hM : M = b.length) (hN5 : N ≤ 2000) (hM5 : M ≤ 2000) (ha : lvls a) (hb : lvls b) (hA : Cells w A a) (hB : Cells w B b) :
    Calls Try.prog 79 #[.slice A N ca, .slice B M cb] w fun r w' => ∃ v, r = .returned v ∧ FS w.heap.size (conv a b) v w' ∧ Below w.heap.size w w' := by
  have hfn : ∀ f, Fence.wide.fn f = True := fun _ => rfl
  obtain ⟨L, hL⟩ : ∃ L, L = lenC N M := ⟨_, rfl⟩
  have hL5 : L ≤ 4000 := by rw [hL]; unfold lenC; split <;> omega
  have HLE : Hid (∀ W, Calls Try.prog 76 #[.slice A N ca, .slice B M cb] W fun r w' => r = .returned (.int .i64 ((L : Int))) ∧ W = w') := Lib.hid (fun W => by rw [hL]; exact gLength_any A B N M ca cb W (by omega) (by omega))
  have HMK : ∀ W : World, Sem.run Try.prog (Instr.makeSlice 22 (.int .i64 ((L : Int))) (.int .i64 ((L : Int)))) W = .ok (.slice (some ⟨W.heap.size, 0, none⟩) L L) (W.alloc (.cells (pvA a b L M 0) 3)) := fun W => by rw [pvA_zero]; exact mk_ints L (by omega) W
  have HIT : Hid (∀ (W : World) (Pa Pb sb m : Nat), Cells W A a → Cells W B b → Blk W Pa #[.slice A N ca] → Blk W Pb #[.slice B M cb] → (0 < a.length → Off sb A) → (0 < b.length → Off sb B) → Pa ≠ sb → Pb ≠ sb → 1 ≤ m → IterR Fence.wide m Try.prog 112 #[.pointer (some ⟨Pa, 0, none⟩), .pointer (some ⟨Pb, 0, none⟩)] 2 (ProdR a b M) (List.range (N * M)) (Rest sb W.heap.size) W) := Lib.hid (fun W Pa Pb sb m q1 q2 q3 q4 q5 q6 q7 q8 q9 => products1_iter a b A B N M ca cb Pa Pb sb W m hN hM (by omega) (by omega) ha hb q1 q2 q3 q4 q5 q6 q7 q8 q9)
  have HLT : Hid (∀ t, t < N * M → t / M + t % M < L) := Lib.hid (fun t ht => by
    obtain ⟨h0, h1, h2⟩ := dmt ht
    generalize t / M = i at h1 ⊢
    generalize t % M = k at h2 ⊢
    rw [hL]; unfold lenC; rw [if_neg (by omega)]; omega)
  have HST : Hid (∀ t, t < N * M → (pvA a b L M t).setIfInBounds (t / M + t % M) (.int .i64 (cvV a b (t / M) (t % M) (t / M + t % M) + a.getD (t / M) 0 * b.getD (t % M) 0)) = pvA a b L M (t + 1)) := Lib.hid (fun t ht => by
    obtain ⟨h0, h1, h2⟩ := dmt ht
    have h3 : 0 < N := Nat.lt_of_le_of_lt (Nat.zero_le _) h1
    exact pvA_set a b L N M t hM (by rw [hL]; unfold lenC; rw [if_neg (by omega)]) ht)
  have HGT : Hid (∀ t, t < N * M → (pvA a b L M t)[t / M + t % M]? = some (.int .i64 (cvV a b (t / M) (t % M) (t / M + t % M)))) := Lib.hid (fun t ht => cvA_get (HLT.out t ht))
  have HBD : Hid (∀ t, t < N * M → -2251799813685248 ≤ cvV a b (t / M) (t % M) (t / M + t % M) ∧ cvV a b (t / M) (t % M) (t / M + t % M) ≤ 2251799813685248) := Lib.hid (fun t ht => by
    obtain ⟨h0, h1, h2⟩ := dmt ht
    have := cvAt_bd ha hb (t / M + t % M) (t / M)
    unfold cvV
    rw [if_neg (by omega)]
    omega)
  have HPB : Hid (∀ t, -1099511627776 ≤ a.getD (t / M) 0 * b.getD (t % M) 0 ∧ a.getD (t / M) 0 * b.getD (t % M) 0 ≤ 1099511627776) := Lib.hid (fun t => prod_bd (lvl_get ha _) (lvl_get hb _))
  have HEND : Hid (pvA a b L M (N * M) = ((conv a b).map (Value.int .i64)).toArray ∧ (conv a b).length = L) := Lib.hid (by rw [hL]; exact pvA_end a b N M hN hM)
  have HSZ : Hid (∀ t, (pvA a b L M t).size = L) := Lib.hid (fun t => pvA_size a b L M t)
  have HA := Lib.hid hA
  have HB := Lib.hid hB
  clear hA hB ha hb hN hM hL
  refine (callsIn_wide (n := 10)).1 ?_
  refine callsIn_of_wp_marks Try.func79 rfl trivial ?_ rfl
  simp only [Try.ntmps79, List.size_toArray, List.length_cons, List.length_nil, Nat.reduceAdd, Nat.reduceSub, Array.replicate_succ, Array.replicate_zero, List.push_toArray, List.append_toArray, List.nil_append, List.cons_append]
  gi_wp2_with (first
    | (gi_at_call 76; refine callsIn_wide.2 ?_; refine (HLE.out _).mono ?_; rintro r wx ⟨rfl, rfl⟩)
    | (gi_at_call 97; refine callsIn_wide.2 ?_; refine name_calls ?_; intro w1 e1; refine Hid.out ?_))
  unfold Hid
  have h1 : Below w.heap.size w w1 := by rw [e1]; exact bel
  have KO : Blk w1 w.heap.size (pvA a b L M 0) := by rw [e1]; (repeat (first | ((with_reducible refine Blk.at_ ?_); focus (first | rfl | (simp; done) | (simp; omega))) | (with_reducible refine Blk.alloc ?_ _) | (with_reducible refine Blk.below ?_ (by with_reducible assumption)) | (with_reducible refine Blk.drew ?_)))
  have KV : Blk w1 (w.heap.size + 1) #[.slice (some ⟨w.heap.size, 0, none⟩) L L] := by rw [e1]; (repeat (first | ((with_reducible refine Blk.at_ ?_); focus (first | rfl | (simp; done) | (simp; omega))) | (with_reducible refine Blk.alloc ?_ _) | (with_reducible refine Blk.below ?_ (by with_reducible assumption)) | (with_reducible refine Blk.drew ?_)))
  have HB1 := Lib.hid h1
  have HK1 := Lib.hid (show Blk w1 w.heap.size (pvA a b L M 0) ∧ Blk w1 (w.heap.size + 1) #[.slice (some ⟨w.heap.size, 0, none⟩) L L] from ⟨KO, KV⟩)
  have hz1 : w.heap.size + 1 < w1.heap.size := KV.lt
  clear e1 h1 KO KV
  refine (products_any A B N M ca cb w1).mono ?_
  rintro r w2 ⟨rfl, h2, kA, kB, hz2⟩
  have HB2 := Lib.hid (HB1.out.trans (h2.mono HB1.out.size))
  have HK2 := Lib.hid (show Blk w2 w.heap.size (pvA a b L M 0) ∧ Blk w2 (w.heap.size + 1) #[.slice (some ⟨w.heap.size, 0, none⟩) L L] from ⟨HK1.out.1.below h2, HK1.out.2.below h2⟩)
  have HIT2 := Lib.hid (HIT.out w2 w1.heap.size (w1.heap.size + 1) w.heap.size (10 - 1) (HA.out.below HB2.out) (HB.out.below HB2.out) kA kB (HA.out.off (Nat.le_refl _)) (HB.out.off (Nat.le_refl _)) (by omega) (by omega) (by decide))
  clear h2 kA kB HIT
  gi_wp2
  have hIO : OwnFrom w2.heap.size (fun (pre : List Nat) W => Blk W w.heap.size (pvA a b L M pre.length) ∧ (Blk W (w.heap.size + 1) #[.slice (some ⟨w.heap.size, 0, none⟩) L L] ∧ Below w.heap.size w W)) :=
    OwnFrom.and (blk_own _ _ (by omega) _) (OwnFrom.and (blk_own _ _ (by omega) _) (ownFrom_below (Nat.le_refl _) (by omega)))
  have HIO := Lib.hid hIO
  refine range_iterR (F := Fence.wide) (n := 10) rfl (by decide) (gf := 112) (lb := #[.pointer (some ⟨w1.heap.size, 0, none⟩), .pointer (some ⟨w1.heap.size + 1, 0, none⟩)]) rfl trivial (enters_of Try.func112 (by kernel_rfl) rfl)
    (all := List.range (N * M)) (R := ProdR a b M) (C := Rest w.heap.size w2.heap.size) (fun k hk => hk.1) HIT2.out
    _ hIO ⟨HK2.out.1, HK2.out.2, HB2.out⟩
    (fun (pre : List Nat) (x : Nat) (a' : Act) (W : World) => (Blk W w.heap.size (pvA a b L M pre.length) ∧ (Blk W (w.heap.size + 1) #[.slice (some ⟨w.heap.size, 0, none⟩) L L] ∧ Below w.heap.size w W)) ∧ ∃ m y, m = x / M + x % M ∧ y = a.getD (x / M) 0 * b.getD (x % M) 0 ∧ a' = { tmps := #[.slice A N ca, .slice B M cb, undef, undef, .slice none 0 0, .pointer (some ⟨w.heap.size + 1, 0, none⟩), (.int .i64 ((m : Int))), (.int .i64 y), .slice A N ca, .slice B M cb, (.int .i64 ((L : Int))), .slice (some ⟨w.heap.size, 0, none⟩) L L, .slice A N ca, .slice B M cb, .func (.func 112) #[] #[.pointer (some ⟨w1.heap.size, 0, none⟩), .pointer (some ⟨w1.heap.size + 1, 0, none⟩)], (.int .i64 ((m : Int))), (.int .i64 y), undef, undef, undef, undef, undef, undef, undef, undef], defers := [] })
    ?hax ?assign ?body ?done
  case assign =>
    rintro r pre x v W hi hpost hsz hcb hvs hbr
    have hbr' : v = #[(.int .i64 (((x / M : Nat) : Int) + ((x % M : Nat) : Int))), (.int .i64 (a.getD (x / M) 0 * b.getD (x % M) 0))] := hbr
    obtain ⟨m, hm⟩ : ∃ m, m = x / M + x % M := ⟨_, rfl⟩
    obtain ⟨y, hy⟩ : ∃ y, y = a.getD (x / M) 0 * b.getD (x % M) 0 := ⟨_, rfl⟩
    rw [← hy, ← Int.natCast_add, ← hm] at hbr'
    subst hbr'
    have HM := Lib.hid hm
    have HY := Lib.hid hy
    have hsem : ∀ (ρ : Operand → Value) (o : Oper), (∀ c, o.op ≠ .defer c) → Oper.semAt (some r) ρ o = execOp ρ o := Oper.semAt_some r
    have HI := Lib.hid hi
    clear hi hIO hcb hm hy hbr hvs
    gi_wp2
    exact ⟨Same.refl _ _, HI.out, m, y, HM.out, HY.out, rfl⟩
  case hax =>
    rintro pre x a' u X Y row ⟨hi, m, y, h1, h2, h3⟩ hg hrow
    exact ⟨HIO.out pre X Y row hi hg hrow, m, y, h1, h2, h3⟩
  case body =>
    rintro r pre x a' W ⟨⟨kO, kV, hB⟩, m, y, hm, hy, rfl⟩ hpost hsz hcb
    have hsem : ∀ (ρ : Operand → Value) (o : Oper), (∀ c, o.op ≠ .defer c) → Oper.semAt (some r) ρ o = execOp ρ o := Oper.semAt_some r
    obtain ⟨hx, hpl⟩ := range_pre hpost
    rw [hpl] at kO
    have hgt := HGT.out x hx
    have hvb := HBD.out x hx
    have hyb := HPB.out x
    have hst := HST.out x hx
    have hml := HLT.out x hx
    rw [← hm] at hgt hst hml hvb
    rw [← hy] at hst hyb
    obtain ⟨V, hV⟩ : ∃ V, V = cvV a b (x / M) (x % M) m := ⟨_, rfl⟩
    rw [← hV] at hgt hst hvb
    have hv0 : W.cell? ⟨w.heap.size, m, none⟩ = some (.int .i64 V) := by rw [kO.c]; exact hgt
    have hmi : (m : Int) < (L : Int) := by omega
    have kol := kO.lt
    have kof := kO.f
    obtain ⟨q0, ql, qf⟩ := kV.o1
    have HKO := Lib.hid kO
    have HKV := Lib.hid kV
    have HBW := Lib.hid hB
    have HS := Lib.hid hst
    have HPL : Hid ((pre ++ [x]).length = x + 1) := Lib.hid (by simp [hpl])
    clear kO kV hB hpost hcb hIO hm hy hV hgt hst hpl
    gi_wp2
    refine ⟨fun j o' hj ho => ?_, ?_, ?_, ?_⟩
    · have hj0 : j ≠ w.heap.size := by
        rcases hj with hj | rfl | rfl
        · exact hj.2
        · omega
        · omega
      rw [Below.heap_setCell _ _ _ _ hj0]
      exact ho
    · rw [HPL.out]
      have q := HKO.out.set (i := m) (by rw [HSZ.out]; exact hml) (.int .i64 (V + y))
      rw [HS.out] at q
      exact q
    · exact HKV.out.far (by simp) _
    · exact HBW.out.setCell (Nat.le_refl _) _
  case done =>
    rintro W ⟨kO, kV, hB⟩ hdef
    rw [List.length_range] at kO
    rw [HEND.out.1] at kO
    have HCO := Lib.hid (Cells.blk kO rfl)
    have HBW := Lib.hid hB
    have HDEF := Lib.hid hdef
    obtain ⟨q0, ql, qf⟩ := kV.o1
    clear kO kV hB hdef hIO
    gi_wp2
    refine ⟨by simp, .inl ⟨_, _, rfl, run_takeDeferred HDEF.out, ?_⟩⟩
    have B9 := HBW.out.trans (belowK_b (w := w) (Nat.le_refl _) W w2.heap.size (.deferred (some [])) (.deferred none) (by omega) HDEF.out rfl rfl)
    refine ⟨.slice (some ⟨w.heap.size, 0, none⟩) L L, by simp [results, Try.results79, go_sem], _, rfl, ⟨_, L, by rw [HEND.out.2], HCO.out.undefer HDEF.out, by rintro p ⟨⟩; exact Nat.le_refl _⟩, B9⟩
end Go.Proofs.Ytamldoidalnloaa

/- signal: Convolve of two sequences that hold. -/
namespace Go.Proofs.Ytamldoidalnloaa
open Go.RowKit
open Calm (bcell Blk)
set_option maxRecDepth 100000 in
set_option maxHeartbeats 4000000 in
theorem gConvolve0_ok (a b : List Int) (A B : Option Addr) (N M ca cb : Nat) (w : World) (hN : N = a.length) (hM : M = b.length) (hN5 : N ≤ 2000) (hM5 : M ≤ 2000) (ha : lvls a) (hb : lvls b) (hl : lvls (conv a b)) (hA : Cells w A a) (hB : Cells w B b) :
    Calls Try.prog 43 #[.slice A N ca, .slice B M cb, .bool false] w fun r w' => ∃ v, r = .returned (.tuple #[v, (.int .i64 0)]) ∧ FS w.heap.size (conv a b) v w' ∧ Below w.heap.size w w' := by
  have HSA : Hid (∀ W, Cells W A a → Calls Try.prog 54 #[.slice A N ca] W fun r w' => r = .returned (.int .i64 0) ∧ Below W.heap.size W w') := Lib.hid (fun W q => gSequence_ok a A ca N W hN q (by omega) ha)
  have HSB : Hid (∀ W, Cells W B b → Calls Try.prog 54 #[.slice B M cb] W fun r w' => r = .returned (.int .i64 0) ∧ Below W.heap.size W w') := Lib.hid (fun W q => gSequence_ok b B cb M W hM q (by omega) hb)
  obtain ⟨L, hL⟩ : ∃ L, L = lenC N M := ⟨_, rfl⟩
  have hcl : (conv a b).length = L := by rw [hL, (pvA_end a b N M hN hM).2]
  have hL5 : L ≤ 4000 := by rw [hL]; unfold lenC; split <;> omega
  have HLE : Hid (∀ W, Calls Try.prog 76 #[.slice A N ca, .slice B M cb] W fun r w' => r = .returned (.int .i64 ((L : Int))) ∧ W = w') := Lib.hid (fun W => by rw [hL]; exact gLength_any A B N M ca cb W (by omega) (by omega))
  have HCV : Hid (∀ W, Cells W A a → Cells W B b → Calls Try.prog 79 #[.slice A N ca, .slice B M cb] W fun r w' => (∃ D d, r = .returned (.slice D L d) ∧ Cells w' D (conv a b) ∧ ∀ p, D = some p → W.heap.size ≤ p.block) ∧ Below W.heap.size W w') := Lib.hid (fun W q1 q2 => by
    refine (gConvolved_any a b A B N M ca cb W hN hM hN5 hM5 ha hb q1 q2).mono ?_
    rintro r w' ⟨v, rfl, ⟨D, d, rfl, h1, h2⟩, h3⟩
    exact ⟨⟨D, d, by rw [hcl], h1, h2⟩, h3⟩)
  have HSC : Hid (∀ W D d, Cells W D (conv a b) → Calls Try.prog 54 #[.slice D L d] W fun r w' => r = .returned (.int .i64 0) ∧ Below W.heap.size W w') := Lib.hid (fun W D d q => gSequence_ok (conv a b) D d L W hcl.symm q (by omega) hl)
  have HF3 : Hid (∀ (W : World), Calls Try.prog 51 #[.slice (some ⟨W.heap.size, 0, none⟩) 3 3] (W.alloc (.cells #[(.int .i64 0), (.int .i64 0), (.int .i64 0)] 24)) fun r w' => r = .returned (.int .i64 0) ∧ (W.alloc (.cells #[(.int .i64 0), (.int .i64 0), (.int .i64 0)] 24)) = w') := Lib.hid (fun W => gFirst_cells [0, 0, 0] W (by simp))
  have hgt : decide ((4096 : Int) < (L : Int)) = false := decide_eq_false (by omega)
  have HA := Lib.hid hA
  have HB := Lib.hid hB
  have HCL := Lib.hid hcl
  clear hA hB ha hb hl hN hM hL hcl
  go_enter Try.func43, Try.ntmps43
  go_wp2_with (go_at_call 54; refine (HSA.out w HA.out).mono ?_; rintro r w1 ⟨rfl, h1⟩; refine Hid.out ?_)
  unfold Hid
  have HB1 := Lib.hid h1
  clear h1
  go_wp2_with (go_at_call 54; refine (HSB.out w1 (HB.out.below HB1.out)).mono ?_; rintro r w2 ⟨rfl, h2⟩; refine Hid.out ?_)
  unfold Hid
  have HB2 := Lib.hid (HB1.out.trans (h2.mono HB1.out.size))
  clear h2
  go_wp2_with (first
    | (go_at_call 76; refine (HLE.out _).mono ?_; rintro r wx ⟨rfl, rfl⟩)
    | (go_at_call 61; refine (gWhen_any _ _ _).mono ?_; rintro r wx ⟨rfl, rfl⟩)
    | (go_at_call 51; refine (HF3.out _).mono ?_; rintro r wx ⟨rfl, rfl⟩)
    | (go_at_call 79; refine name_calls ?_; intro w3 e3; refine Hid.out ?_))
  unfold Hid
  have h3 : Below w2.heap.size w2 w3 := by rw [e3]; exact bel
  have HB3 := Lib.hid (HB2.out.trans (h3.mono HB2.out.size))
  clear e3 h3
  refine (HCV.out w3 (HA.out.below HB3.out) (HB.out.below HB3.out)).mono ?_
  rintro r w4 ⟨⟨D, d, rfl, hD, hf⟩, h4⟩
  have HB4 := Lib.hid (HB3.out.trans (h4.mono HB3.out.size))
  have HD := Lib.hid hD
  have HF : Hid (∀ p, D = some p → w.heap.size ≤ p.block) := Lib.hid (fun p hp => Nat.le_trans HB3.out.size (hf p hp))
  clear h4 hD hf
  go_wp2_with (go_at_call 54; refine (HSC.out w4 D d HD.out).mono ?_; rintro r w5 ⟨rfl, h5⟩; refine Hid.out ?_)
  unfold Hid
  have HB5 := Lib.hid (HB4.out.trans (h5.mono HB4.out.size))
  have HD5 := Lib.hid (HD.out.below h5)
  clear h5
  go_wp2
  refine bodyPost_ret (v := .tuple #[.slice D L d, (.int .i64 0)]) (by simp [results, Try.results43, go_sem]) rfl ⟨_, rfl, ⟨D, d, by rw [HCL.out], HD5.out, HF.out⟩, HB5.out⟩
theorem gConvolve_ok (a b : List Int) (A B : Option Addr) (N M ca cb : Nat) (w : World) (hN : N = a.length) (hM : M = b.length) (hN5 : N ≤ 2000) (hM5 : M ≤ 2000) (ha : lvls a) (hb : lvls b) (hl : lvls (conv a b)) (hA : Cells w A a) (hB : Cells w B b) :
    Calls Try.prog 13 #[.slice A N ca, .slice B M cb] w fun r w' => ∃ v, r = .returned (.tuple #[v, (.int .i64 0)]) ∧ FS w.heap.size (conv a b) v w' ∧ Below w.heap.size w w' := by
  have HC := Lib.hid (gConvolve0_ok a b A B N M ca cb w hN hM hN5 hM5 ha hb hl hA hB)
  clear ha hb hl hA hB hN hM
  go_enter Try.func13, Try.ntmps13
  go_wp2_with (go_at_call 43; refine HC.out.mono ?_; rintro r w1 ⟨v, rfl, h1⟩; refine Hid.out ?_)
  unfold Hid
  have H1 := Lib.hid h1
  clear h1
  go_wp2
  refine bodyPost_ret (v := .tuple #[v, (.int .i64 0)]) (by simp [results, Try.results13, go_sem]) rfl ⟨_, rfl, H1.out⟩
end Go.Proofs.Ytamldoidalnloaa

/- The contracts of TopConeMeasured's calls, for sections without taps of the output. -/
namespace Go.Proofs.Ytamldoidalnloaa
open Go.RowKit
open Calm (bcell Blk)
theorem FirS.err {s : Sec} (h : FirS s) : secE s = 0 := by
  have h0 := h.t0
  have h1 := h.t1
  have h2 := h.t2
  unfold tp4 at h0 h1 h2
  unfold secE secErr
  refine firstOf_eq_zero.2 (fun x hx => ?_)
  simp only [List.mem_cons, List.not_mem_nil, or_false] at hx
  rcases hx with rfl | rfl
  · refine eachErr_zero.2 (fun n hn => ?_)
    simp only [List.mem_cons, List.not_mem_nil, or_false, h.a1, h.a2] at hn
    rcases hn with rfl | rfl | rfl | rfl | rfl <;> omega
  · rw [h.sh]; exact rangeErr_in (by decide) (by decide)
theorem FirL.err {l : List Sec} (h : FirL l) (hl : l.length ≤ 3) : secsErr l = 0 := by
  unfold secsErr
  refine firstOf_eq_zero.2 (fun x hx => ?_)
  simp only [List.mem_cons, List.not_mem_nil, or_false] at hx
  rcases hx with rfl | rfl
  · exact if_neg (by omega)
  · refine firstOf_eq_zero.2 (fun y hy => ?_)
    obtain ⟨s, hs, rfl⟩ := List.mem_map.1 hy
    exact (h s hs).err
theorem sig_err {xs : List Int} (hb : mB xs 32767) (hl : xs.length ≤ 4096) : ssigErr xs = 0 := by
  unfold ssigErr
  refine firstOf_eq_zero.2 (fun x hx => ?_)
  simp only [List.mem_cons, List.not_mem_nil, or_false] at hx
  rcases hx with rfl | rfl
  · exact if_neg (by omega)
  · exact eachErr_zero.2 (fun n hn => hb.mem n hn)
theorem cascM (cs : List Sec) (a : List Int) (hf : FirL cs) (hl : cs.length ≤ 3) (a0 : 0 < a.length) (a5 : a.length ≤ 100) (ha : mB a 1) (m L : Nat) (hm : m = cs.length) (hL : L = a.length + 2 * m) (A1 A : Option Addr) (c1 c : Nat) (w : World) (hS : SCells w A1 cs) (hC : Cells w A (a ++ List.replicate (2 * m) 0)) :
    Calls Try.prog 15 #[.slice A1 m c1, .slice A L c] w fun r w' => (∃ B d, r = .returned (.tuple #[.slice B L d, (.int .i64 0)]) ∧ (∀ p, B = some p → w.heap.size ≤ p.block) ∧ Cells w' B (conv (wantK cs m) a)) ∧ Below w.heap.size w w' := by
  have hlen : (a ++ List.replicate (2 * m) 0).length = L := by rw [List.length_append, List.length_replicate, hL]
  have := Cascade_ok cs (a ++ List.replicate (2 * m) 0) A1 A c1 c w hS hC (hf.err hl) (sig_err ((ha.pad _).le (by decide)) (by rw [hlen]; omega))
  rw [hlen, ← hm] at this
  refine this.mono ?_
  rintro r w' ⟨⟨B, d, rfl, h1, h2⟩, h3⟩
  refine ⟨⟨B, d, rfl, fun p hp => (h1 p hp).1, ?_⟩, h3⟩
  rw [hm, casc_all hf hl a0 ha] at h2
  rw [hm]
  exact h2
theorem flatS_len (l : List Sec) : (flatS l).length = l.length * 6 := by
  unfold flatS
  induction l with
  | nil => rfl
  | cons a t ih => rw [List.flatMap_cons, List.length_append, ih, List.length_cons]; simp [secC]; omega
theorem SCells.src {W : World} {b off : Nat} {cs : List Sec} (h : SCells W (some ⟨b, off, none⟩) cs) : ∀ j v, (flatS cs)[j]? = some v → W.cell? ((⟨b, off, none⟩ : Addr).add j) = some v := fun j v hj => by
  have hlt : j < cs.length * 6 := by
    rcases Nat.lt_or_ge j (cs.length * 6) with h1 | h1
    · exact h1
    · rw [List.getElem?_eq_none (by rw [flatS_len]; exact h1)] at hj; cases hj
  have hk : j / 6 < cs.length := by omega
  obtain ⟨b', o', e, -, hc⟩ := h (by omega)
  cases e
  obtain ⟨q0, q1, q2, q3, q4, q5⟩ := hc (j / 6) hk
  obtain ⟨f0, f1, f2, f3, f4, f5⟩ := flatS_at cs (j / 6) hk
  rw [Addr.add_lit]
  have hd : j = j / 6 * 6 ∨ j = j / 6 * 6 + 1 ∨ j = j / 6 * 6 + 2 ∨ j = j / 6 * 6 + 3 ∨ j = j / 6 * 6 + 4 ∨ j = j / 6 * 6 + 5 := by omega
  generalize j / 6 = i at *
  rcases hd with rfl | rfl | rfl | rfl | rfl | rfl
  · rw [f0] at hj; rw [q0]; exact hj
  · rw [f1] at hj; rw [← Nat.add_assoc, q1]; exact hj
  · rw [f2] at hj; rw [← Nat.add_assoc, q2]; exact hj
  · rw [f3] at hj; rw [← Nat.add_assoc, q3]; exact hj
  · rw [f4] at hj; rw [← Nat.add_assoc, q4]; exact hj
  · rw [f5] at hj; rw [← Nat.add_assoc, q5]; exact hj
/-- append([]section.Section{}, l...). -/
theorem wpList_appSec {w : World} {ops : Array Oper} {rest : List Oper} {o : Oper} {a : Act} {Q : Exit → Act → World → Prop} (hgd : o.guard = none) (s x : Operand)
    (ho : o.op = .call { callee := .builtin .append, args := #[s, x], argTypes := #[37, 37] }) (g n c : Nat) (A : Option Addr) (cs : List Sec) (hn : n = cs.length)
    (hs : a.eval s = .slice (some ⟨g, 0, none⟩) 0 0) (hx : a.eval x = .slice A n c) (h5 : n ≤ 1000) (hC : SCells w A cs)
    (h : ∀ B d w', Below w.heap.size w w' → SCells w' B cs → wpList Try.prog ops Q rest (a.put o.dst (.slice B n d)) w') : wpList Try.prog ops Q (o :: rest) a w := by
  obtain ⟨i0, hi, hz0, hz1, hz2⟩ := info_parts Try.infoSec
  rcases Nat.eq_zero_or_pos n with h0 | h0
  · subst h0
    obtain rfl : cs = [] := List.eq_nil_of_length_eq_zero hn.symm
    refine wpList_plain hgd fun K hK => ?_
    have hrun := Rel.run_append_zero (P := Try.prog) w 37 o.type 40 i0 _ Try.underlying37 hi hz0 ⟨g, 0, none⟩ A c
    unfold Oper.wp
    simp [execOp, ho, resolve, invoke, builtin, hs, hx, hrun, Result.andThen]
    exact hK _ _ (h _ _ w (Below.refl _ _) (fun q => absurd q (by simp)))
  · obtain ⟨b, off, rfl, hbl, hcc⟩ := hC (by omega)
    have hsrc := SCells.src hC
    refine wpList_append_grows w hgd s x 37 ho 40 i0 _ 6 48 Try.underlying37 hi hz0 hz1 hz2 rfl (by decide) (some ⟨g, 0, none⟩) 0 0 [] hs (by simp) (by simp) (by simp) ⟨b, off, none⟩ n c (flatS cs) hx (by rw [flatS_len, hn]) hsrc (fun u hu => ?_) (by omega) (by unfold maxLen; omega) (by omega) ?_
    · unfold flatS at hu
      obtain ⟨s, _, h1⟩ := List.mem_flatMap.1 hu
      simp only [secC, List.mem_cons, List.not_mem_nil, or_false] at h1
      rcases h1 with rfl | rfl | rfl | rfl | rfl | rfl <;> rfl
    intro v' w' k1 k2
    simp only [Nat.zero_add, List.nil_append] at k1
    obtain ⟨B, d, rfl, _, hSC⟩ := own_secs k1 hn
    exact h B d w' ⟨k2.os, k2.tape, k2.output, k2.size, fun k hk => k2.block k hk (by simp)⟩ hSC
theorem SCells.drop1 {w : World} {b o : Nat} {cs : List Sec} (h : SCells w (some ⟨b, o, none⟩) cs) : SCells w (some ⟨b, o + 6, none⟩) (cs.drop 1) := fun h0 => by
  rw [List.length_drop] at h0
  obtain ⟨b', o', e, hl, hc⟩ := h (by omega)
  cases e
  refine ⟨b, o + 6, rfl, hl, fun k hk => ?_⟩
  rw [List.length_drop] at hk
  have := hc (k + 1) (by omega)
  rw [show o + (k + 1) * 6 = o + 6 + k * 6 by omega] at this
  rw [show (cs.drop 1).getD k Sec0 = cs.getD (k + 1) Sec0 by simp [List.getD_eq_getElem?_getD, Nat.add_comm]]
  exact this
theorem Try.elemSec : Try.prog.elem 37 = 40 := by kernel_rfl
theorem sizeOfSec (W : World) : (Go.sizeOf (Try.prog.elem 37)).run Try.prog W = .ok 6 W := by
  obtain ⟨i0, hi, hz0, hz1, hz2⟩ := info_parts Try.infoSec
  rw [Try.elemSec]
  simp [Go.sizeOf, typeInfo, hi, hz1]
/-- all sections but the first one. -/
theorem sliceSec (b o n c : Nat) (hn : 1 ≤ n) (hc : n ≤ c) (W0 : World) (cs : List Sec) (hz : n = cs.length) (hC : SCells W0 (some ⟨b, o, none⟩) cs) : ∃ P2, (∀ W, (Instr.slice 37 (.slice (some ⟨b, o, none⟩) n c) (some (.int .i64 1)) none none).run Try.prog W = .ok (.slice P2 (n - 1) (c - 1)) W) ∧ SCells W0 P2 (cs.drop 1) := by
  by_cases h : c = 1
  · refine ⟨some ⟨b, o, none⟩, fun W => ?_, ?_⟩
    · rw [run_slice_l W 37 _ n c (by rw [Try.elemSec]; exact Try.underlying37) .i64 1 (by omega) (by omega), sizeOfSec]
      simp [Result.andThen, sliced, h]
    · intro h0
      rw [List.length_drop] at h0
      omega
  · refine ⟨some ⟨b, o + 6, none⟩, fun W => ?_, hC.drop1⟩
    rw [run_slice_l W 37 _ n c (by rw [Try.elemSec]; exact Try.underlying37) .i64 1 (by omega) (by omega), sizeOfSec]
    simp [Result.andThen, sliced, h, Addr.add]
end Go.Proofs.Ytamldoidalnloaa
