/- Part 16 of the texts of the claim: It6, K3i, F1, B11. -/
import Derived.Test.YtpkldjlljoledaaGreatDoorMc15
import Derived.WalkMore
import Derived.Test.YtpkldjlljoledaaGreatDoorMc12
import Derived.Test.YtpkldjlljoledaaGreatDoorMc9
import Derived.Test.YtpkldjlljoledaaGreatDoorMc13
import Derived.Test.YtpkldjlljoledaaGreatDoorMc8

/- Contract of Conflict. -/
namespace Go.Proofs.YtpkldjlljoledaaGreatDoor
open Go.RowKit
open Calm (bcell Blk)

def confErr (re le bl ma st lo m k r : Int) (zs : List (Int × Int × Int)) : Int := firstOf [classErr re le bl ma st lo m k r, readsErr zs, if 8 < zs.length then 23 else 0]
def toI (l : List Nat) : List Int := l.map fun (n : Nat) => (n : Int)
def covB (re le bl : Int) (zs xs : List (Int × Int × Int)) (s : Nat) : Bool := xs.any fun x => (maskOf re le bl zs x &&& s) == s
/-- the best set among those below k. -/
def confF (re le bl : Int) (zs xs : List (Int × Int × Int)) : Nat → Option Nat
  | 0 => none
  | s + 1 => if s = 0 ∨ covB re le bl zs xs s = true then confF re le bl zs xs s else
    match confF re le bl zs xs s with
    | none => some s
    | some b => if earlierI (toI (memL s)) (toI (memL b)) = true then some s else some b
theorem confF_succ (re le bl : Int) (zs xs : List (Int × Int × Int)) (s : Nat) : confF re le bl zs xs (s + 1) = if s = 0 ∨ covB re le bl zs xs s = true then confF re le bl zs xs s else
    match confF re le bl zs xs s with
    | none => some s
    | some b => if earlierI (toI (memL s)) (toI (memL b)) = true then some s else some b := rfl
def BestAt (W : World) (base : Nat) (v : Value) : Option Nat → Prop
  | none => v = .slice none 0 0
  | some b => (1 ≤ b ∧ b < 256) ∧ W.ownsRow base 3 1 v (memL b).length (ints (memL b))
theorem BestAt.below {W W' : World} {base : Nat} {v : Value} {o : Option Nat} (h : BestAt W base v o) (hb : Below W.heap.size W W') : BestAt W' base v o := by
  cases o with
  | none => exact h
  | some b => exact ⟨h.1, ownsRow_below h.2 hb⟩
theorem own_cells {W : World} {base e : Nat} {A : Option Addr} {n c : Nat} {l : List Nat} (h : W.ownsRow base e 1 (.slice A n c) l.length (ints l)) : n = l.length ∧ Cells W A (toI l) := by
  rcases h.2 with ⟨h1, h2⟩ | ⟨g, cap, cur, h1, h2, h3, h4, h5, h6, h7⟩
  · cases h1
    refine ⟨h2.symm, fun h0 => ?_⟩
    simp [toI] at h0
    omega
  · cases h1
    refine ⟨rfl, fun h0 => ⟨g, 0, rfl, (Array.getElem?_eq_some_iff.1 h3).1, fun k hk => ?_⟩⟩
    have hk2 : k < l.length := by simpa [toI] using hk
    rw [cell_of_row W g (0 + k) cur e _ h3, Nat.zero_add]
    have e1 : (cur.toList.take (l.length * 1))[k]? = (ints l)[k]? := by rw [h7]
    rw [List.getElem?_take] at e1
    simp [hk2] at e1
    rw [e1]
    simp [ints, toI, hk2]
theorem bool_inv {v : Value} {y : DataW Unit × List MemPlace} (h : plainElem Tryz.prog 4 v = some y) : ∃ b, v = .bool b := by
  have hu := Tryz.underlying4
  cases v <;> simp [plainElem, hu] at h
  exact ⟨_, rfl⟩
theorem nil_eq (W : World) : Sem.run Tryz.prog (binOp BinOp.eql 43 (.slice none 0 0) (.slice none 0 0)) W = .ok (.bool true) W := by
  simp [go_sem, binOp, run_equal_slice_nil _ _ _ _ _ _ Tryz.underlying43]
theorem nil_ne (W : World) (g : Nat) (n c : Nat) : Sem.run Tryz.prog (binOp BinOp.eql 43 (.slice (some ⟨g, 0, none⟩) n c) (.slice none 0 0)) W = .ok (.bool false) W := by
  simp [go_sem, binOp, run_equal_slice_nil _ _ _ _ _ _ Tryz.underlying43]
theorem toI_len (l : List Nat) : (toI l).length = l.length := by simp [toI]
theorem memL_le (s : Nat) : (memL s).length ≤ 8 := memN_le s 8
theorem earlier_at (A B : Option Addr) (l1 l2 : List Nat) (n m c1 c2 : Nat) (w : World) (hn : n = l1.length) (hm : m = l2.length) (h1 : l1.length ≤ 8) (h2 : l2.length ≤ 8) (hA : Cells w A (toI l1)) (hB : Cells w B (toI l2)) :
    Calls Tryz.prog 65 #[.slice A n c1, .slice B m c2] w fun x w' => x = .returned (.bool (earlierI (toI l1) (toI l2))) ∧ w = w' := by
  have := earlier_any A B (toI l1) (toI l2) c1 c2 w hA hB (by rw [toI_len]; omega) (by rw [toI_len]; omega)
  rw [toI_len, toI_len, ← hn, ← hm] at this
  exact this
theorem maskOf_lt {re le bl : Int} {zs : List (Int × Int × Int)} (x : Int × Int × Int) (h : zs.length ≤ 8) : maskOf re le bl zs x < 256 :=
  Nat.lt_of_lt_of_le (maskN_lt _ _ _) (Nat.pow_le_pow_right (by decide) h : 2 ^ zs.length ≤ 2 ^ 8)

set_option maxRecDepth 100000 in
set_option maxHeartbeats 4000000 in
theorem Conflict_bad (re le bl ma st lo m k r : Int) (A : Option Addr) (zs : List (Int × Int × Int)) (c : Nat) (w : World) (hL : Lim w) (hC : RCells w A zs) (hn : zs.length ≤ 1000) (h : confErr re le bl ma st lo m k r zs ≠ 0) :
    Calls Tryz.prog 21 #[.agg #[(.int .i64 (re)), (.int .i64 (le)), (.int .i64 (bl)), (.int .i64 (ma)), (.int .i64 (st)), (.int .i64 (lo)), (.int .i64 (m)), (.int .i64 (k)), (.int .i64 (r))], .slice A zs.length c] w fun x w' => x = .returned (.tuple #[.slice none 0 0, (.int .i64 (confErr re le bl ma st lo m k r zs))]) ∧ Below w.heap.size w w' := by
  have HC := Lib.hid hC
  obtain ⟨E, hE⟩ : ∃ E, E = classErr re le bl ma st lo m k r := ⟨_, rfl⟩
  obtain ⟨E2, hE2⟩ : ∃ E2, E2 = readsErr zs := ⟨_, rfl⟩
  obtain ⟨N, hN⟩ : ∃ N, N = zs.length := ⟨_, rfl⟩
  obtain ⟨E3, hE3⟩ : ∃ E3 : Int, E3 = if 8 < N then 23 else 0 := ⟨_, rfl⟩
  have hr : confErr re le bl ma st lo m k r zs = firstOf [E, E2, E3] := by rw [hE, hE2, hE3, hN]; rfl
  rw [hr] at h ⊢
  have HE := Lib.hid hE
  have HE2 := Lib.hid hE2
  have hCR : ∀ W, RCells W A zs → Calls Tryz.prog 31 #[.slice A N c] W fun r w' => r = .returned (.int .i64 (E2)) ∧ Below W.heap.size W w' := by
    intro W k1
    have := checkReadings_any A zs c W k1 hn
    rwa [← hE2, ← hN] at this
  have HCR := Lib.hid hCR
  have hW : ∀ W, Calls Tryz.prog 62 #[.bool (decide ((8 : Int) < (N : Int))), (.int .i64 (23))] W fun r w' => r = .returned (.int .i64 (E3)) ∧ W = w' := by
    intro W
    have := when_any (decide ((8 : Int) < (N : Int))) 23 W
    rw [hE3]
    by_cases h8 : 8 < N
    · have h9 : (8 : Int) < (N : Int) := by omega
      simpa [h8, h9] using this
    · have h9 : ¬ (8 : Int) < (N : Int) := by omega
      simpa [h8, h9] using this
  have HW := Lib.hid hW
  rw [← hN] at hn ⊢
  clear hE hE2 hr hC hN hE3 hCR hW
  go_enter Tryz.func21, Tryz.ntmps21
  go_wp2
  go_step3
  go_wp2_with (first
    | (go_at_call 18; refine (checkClass_any re le bl ma st lo m k r _ (hL.below (by repeat (first | (with_reducible exact Below.refl _ _) | ((with_reducible refine Below.setCell ?_ ?_ _); rotate_left 1; focus (first | (simp; done) | (simp; omega) | (simp at *; omega))) | ((with_reducible refine Below.alloc ?_ ?_ _); rotate_left 1; focus (first | (simp; done) | (simp; omega) | (simp at *; omega))) | (with_reducible refine Below.drew ?_) | ((with_reducible refine Calm.step (by assumption) ?_ ?_); rotate_left 1; focus (first | (simp; done) | (simp; omega) | (simp at *; omega))))))).mono ?_; rw [← HE.out]; rintro r w1 ⟨rfl, hb1⟩; obtain ⟨hc1, hf1⟩ := bcell hb1; have hz1 := hb1.size; (try simp at hz1); have hz10 : w.heap.size < w1.heap.size := by omega)
    | (go_at_call 31; refine (HCR.out _ (HC.out.below (by (repeat (first | (with_reducible exact Below.refl _ _) | ((with_reducible refine Below.setCell ?_ ?_ _); rotate_left 1; focus (first | (simp; done) | (simp; omega) | (simp at *; omega))) | ((with_reducible refine Below.alloc ?_ ?_ _); rotate_left 1; focus (first | (simp; done) | (simp; omega) | (simp at *; omega))) | (with_reducible refine Below.drew ?_) | ((with_reducible refine Calm.step (by assumption) ?_ ?_); rotate_left 1; focus (first | (simp; done) | (simp; omega) | (simp at *; omega)))))))).mono ?_; rintro r w2 ⟨rfl, hb2⟩; obtain ⟨hc2, hf2⟩ := bcell hb2; have hz2 := hb2.size; (try simp at hz2); have hz20 : w.heap.size < w2.heap.size := by omega)
    | (go_at_call 62; refine (HW.out _).mono ?_; rintro r w3 ⟨rfl, rfl⟩)
    | (go_at_call 54; refine (first3_any _ _ _ _).mono ?_; rintro r w3 ⟨rfl, rfl⟩))
  (try simp only [Exit.noGoto_ret, Exit.then, Exit.noGoto])
  go_ret2
  refine ⟨by first | rfl | (simp; done), ?_⟩
  repeat (first | (with_reducible exact Below.refl _ _) | ((with_reducible refine Below.setCell ?_ ?_ _); rotate_left 1; focus (first | (simp; done) | (simp; omega) | (simp at *; omega))) | ((with_reducible refine Below.alloc ?_ ?_ _); rotate_left 1; focus (first | (simp; done) | (simp; omega) | (simp at *; omega))) | (with_reducible refine Below.drew ?_) | ((with_reducible refine Calm.step (by assumption) ?_ ?_); rotate_left 1; focus (first | (simp; done) | (simp; omega) | (simp at *; omega))))

set_option maxRecDepth 100000 in
set_option maxHeartbeats 8000000 in
theorem Conflict_ok (re le bl ma st lo m k r : Int) (A : Option Addr) (zs : List (Int × Int × Int)) (c : Nat) (w : World) (hL : Lim w) (hC : RCells w A zs) (hn : zs.length ≤ 1000) (h : confErr re le bl ma st lo m k r zs = 0) :
    Calls Tryz.prog 21 #[.agg #[(.int .i64 (re)), (.int .i64 (le)), (.int .i64 (bl)), (.int .i64 (ma)), (.int .i64 (st)), (.int .i64 (lo)), (.int .i64 (m)), (.int .i64 (k)), (.int .i64 (r))], .slice A zs.length c] w fun x w' => ∃ v, x = .returned (.tuple #[v, (.int .i64 (if confF re le bl zs (drvs ma st lo m k r) (2 ^ zs.length) = none then 7 else 0))]) ∧ BestAt w' w.heap.size v (confF re le bl zs (drvs ma st lo m k r) (2 ^ zs.length)) ∧ Below w.heap.size w w' := by
  have h3 := firstOf_eq_zero.1 (show firstOf [classErr re le bl ma st lo m k r, readsErr zs, if 8 < zs.length then 23 else 0] = 0 from h)
  have h4 : classErr re le bl ma st lo m k r = 0 := h3 _ (by simp)
  have h5 : readsErr zs = 0 := h3 _ (by simp)
  have h6 : zs.length ≤ 8 := by
    have := h3 (if 8 < zs.length then 23 else 0) (by simp)
    split at this
    · simp at this
    · omega
  have HREG := Lib.hid (show regErr re le bl ma st lo m k r zs = 0 from firstOf_eq_zero.2 (by simp [h4, h5]))
  have H4 := Lib.hid h4
  have HC := Lib.hid hC
  have HML := Lib.hid (fun (x : Int × Int × Int) => maskOf_lt (re := re) (le := le) (bl := bl) x h6)
  have H6 := Lib.hid h6
  obtain ⟨xs, hxs⟩ : ∃ xs, xs = drvs ma st lo m k r := ⟨_, rfl⟩
  obtain ⟨N, hN⟩ : ∃ N, N = zs.length := ⟨_, rfl⟩
  have HX := Lib.hid hxs
  have hCR : ∀ W, RCells W A zs → Calls Tryz.prog 31 #[.slice A N c] W fun r w' => r = .returned (.int .i64 (0)) ∧ Below W.heap.size W w' := by
    intro W k1
    have := checkReadings_any A zs c W k1 hn
    rwa [h5, ← hN] at this
  have HCR := Lib.hid hCR
  have hEX : ∀ W, RCells W A zs → Calls Tryz.prog 63 #[.agg #[(.int .i64 (re)), (.int .i64 (le)), (.int .i64 (bl)), (.int .i64 (ma)), (.int .i64 (st)), (.int .i64 (lo)), (.int .i64 (m)), (.int .i64 (k)), (.int .i64 (r))], .slice A N c] W fun x w' => ∃ B, x = .returned (.map (some B)) ∧ W.heap.size ≤ B ∧ MaskMap re le bl zs xs 4096 B w' ∧ Below W.heap.size W w' := by
    intro W k1
    have := explained_any re le bl ma st lo m k r A zs c W k1 h6 HREG.out
    rwa [← hN, ← hxs] at this
  have HEX := Lib.hid hEX
  rw [← hN] at hn h6 ⊢
  rw [← hxs]
  have hW : ∀ W, Calls Tryz.prog 62 #[.bool (decide ((8 : Int) < (N : Int))), (.int .i64 (23))] W fun r w' => r = .returned (.int .i64 (0)) ∧ W = w' := by
    intro W
    have := when_any (decide ((8 : Int) < (N : Int))) 23 W
    have h9 : ¬ (8 : Int) < (N : Int) := by omega
    simpa [h9] using this
  have HW := Lib.hid hW
  have HN := Lib.hid hN
  obtain ⟨P, hP⟩ : ∃ P : Nat, P = 2 ^ N := ⟨_, rfl⟩
  have hPw : wrap64 ((2 : Int) ^ N) = (P : Int) := by rw [wrap_two N (by omega), hP]
  have hP1 : 1 ≤ P := by rw [hP]; exact Nat.two_pow_pos N
  have hP2 : P ≤ 256 := by rw [hP]; exact Nat.pow_le_pow_right (by decide) h6
  have HP := Lib.hid hP
  rw [← hP]
  have e1 : firstOf [0, 0, 0] = 0 := by rw [firstOf_eq_zero]; simp
  clear hC h h3 h4 h5 hN hCR hW hxs hEX hP
  go_enter Tryz.func21, Tryz.ntmps21
  go_wp2
  go_step3
  go_wp2_with (first
    | (go_at_call 18; refine (checkClass_any re le bl ma st lo m k r _ (hL.below (by repeat (first | (with_reducible exact Below.refl _ _) | ((with_reducible refine Below.setCell ?_ ?_ _); rotate_left 1; focus (first | (simp; done) | (simp; omega) | (simp at *; omega))) | ((with_reducible refine Below.alloc ?_ ?_ _); rotate_left 1; focus (first | (simp; done) | (simp; omega) | (simp at *; omega))) | (with_reducible refine Below.drew ?_) | ((with_reducible refine Calm.step (by assumption) ?_ ?_); rotate_left 1; focus (first | (simp; done) | (simp; omega) | (simp at *; omega))))))).mono ?_; rw [H4.out]; rintro r w1 ⟨rfl, hb1⟩; obtain ⟨hc1, hf1⟩ := bcell hb1; have hz1 := hb1.size; (try simp at hz1); have hz10 : w.heap.size < w1.heap.size := by omega)
    | (go_at_call 31; refine (HCR.out _ (HC.out.below (by (repeat (first | (with_reducible exact Below.refl _ _) | ((with_reducible refine Below.setCell ?_ ?_ _); rotate_left 1; focus (first | (simp; done) | (simp; omega) | (simp at *; omega))) | ((with_reducible refine Below.alloc ?_ ?_ _); rotate_left 1; focus (first | (simp; done) | (simp; omega) | (simp at *; omega))) | (with_reducible refine Below.drew ?_) | ((with_reducible refine Calm.step (by assumption) ?_ ?_); rotate_left 1; focus (first | (simp; done) | (simp; omega) | (simp at *; omega)))))))).mono ?_; rintro r w2 ⟨rfl, hb2⟩; obtain ⟨hc2, hf2⟩ := bcell hb2; have hz2 := hb2.size; (try simp at hz2); have hz20 : w.heap.size < w2.heap.size := by omega)
    | (go_at_call 62; refine (HW.out _).mono ?_; rintro r w3 ⟨rfl, rfl⟩)
    | (go_at_call 54; refine (first3_any _ _ _ _).mono ?_; rintro r w3 ⟨rfl, rfl⟩)
    | (go_at_call 63; refine (HEX.out _ (HC.out.below (by (repeat (first | (with_reducible exact Below.refl _ _) | ((with_reducible refine Below.setCell ?_ ?_ _); rotate_left 1; focus (first | (simp; done) | (simp; omega) | (simp at *; omega))) | ((with_reducible refine Below.alloc ?_ ?_ _); rotate_left 1; focus (first | (simp; done) | (simp; omega) | (simp at *; omega))) | (with_reducible refine Below.drew ?_) | ((with_reducible refine Calm.step (by assumption) ?_ ?_); rotate_left 1; focus (first | (simp; done) | (simp; omega) | (simp at *; omega)))))))).mono ?_; rintro r w4 ⟨B, rfl, hBl, hMM, hb4⟩))
  go_step3
  have hBw : w.heap.size ≤ B := by simp at hBl; omega
  have HB4 := Lib.hid (show Below w.heap.size w w4 by
    (repeat (first | (with_reducible exact Below.refl _ _) | ((with_reducible refine Below.setCell ?_ ?_ _); rotate_left 1; focus (first | (simp; done) | (simp; omega) | (simp at *; omega))) | ((with_reducible refine Below.alloc ?_ ?_ _); rotate_left 1; focus (first | (simp; done) | (simp; omega) | (simp at *; omega))) | (with_reducible refine Below.drew ?_) | ((with_reducible refine Calm.step (by assumption) ?_ ?_); rotate_left 1; focus (first | (simp; done) | (simp; omega) | (simp at *; omega))))))
  have HMM := Lib.hid hMM
  have hBw4 := hMM.lt
  clear hb1 hb2 hb4 hMM hc1 hf1 hc2 hf2 hBl hz1 hz10 hz2 hz20 hL
  go_wp2
  go_loopw [8, 9] (fun v s wr => ∃ k : Nat, 1 ≤ k ∧ k ≤ P ∧ s = (.int .i64 ((k : Nat))) ∧ BestAt wr w.heap.size v (confF re le bl zs xs k) ∧ MaskMap re le bl zs xs 4096 B wr ∧ Below w.heap.size w wr) (fun _ s _ => P - (intOf s).toNat)
  case atStart => exact ⟨1, by omega, by omega, rfl, by simp [confF, BestAt], HMM.out, HB4.out⟩
  case round =>
    obtain ⟨s, hs1, hs2, rfl, hbest, hMM, hB⟩ := hrel
    obtain ⟨wo, hwo⟩ : ∃ wo, wo = wr := ⟨_, rfl⟩
    subst hwo
    have hszr := hB.size
    have HBE := Lib.hid hbest
    have HBR := Lib.hid hB
    obtain ⟨o, ho⟩ : ∃ o, o = confF re le bl zs xs s := ⟨_, rfl⟩
    have HOO := Lib.hid ho
    have hBwr := hMM.lt
    clear ho hbest hB
    by_cases hlt : s < P
    · obtain ⟨D, hown, hkeys⟩ := hMM
      have HKEYS := Lib.hid hkeys
      have HOWN := Lib.hid hown
      have HDM := Lib.hid hown.isMap
      clear hkeys hown
      go_wp2_with (at_range; refine wpList_range_own _ rfl _ 126 rfl 3 4 Tryz.keyI Tryz.underlying126 _ B 4096 D rfl HOWN.out ?_; intro w0 hrg0 hg0 hs0)
      go_frame
      go_loopw [10] (fun _ wq => ∃ left cnt, wq.ranges Tryz.prog 3 (plainElem Tryz.prog 4) B wo.heap.size 4096 D left cnt ∧ (∀ kl, left kl = true → Maps.has D kl = true) ∧ (∀ x, x ∈ xs → left (.int .i64 (maskOf re le bl zs x : Nat)) = false → maskOf re le bl zs x &&& s ≠ s) ∧ Below wo.heap.size wo wq) (fun _ wq => wq.rangeLeft B wo.heap.size)
      case atStart =>
        refine ⟨_, _, hrg0, fun _ h => h, fun x hx h => ?_, (Below.refl _ _).grown hg0 (Nat.le_refl _) (fun k e => by cases e)⟩
        rw [(HKEYS.out _).2 ⟨x, hx, rfl⟩] at h
        cases h
      case round =>
        obtain ⟨left, cnt, hrg, hl1, hl2, hBq⟩ := hrel
        have HL1 := Lib.hid hl1
        have HL2 := Lib.hid hl2
        have HRG := Lib.hid hrg
        have HBQ := Lib.hid hBq
        have hszq := hBq.size
        clear hl1 hl2 hrg hBq hg0 hs0 hrg0
        go_wp2_with (at_next; refine wpList_next_ranges _ rfl _ rfl 3 Tryz.keyI (plainElem Tryz.prog 4) (Value.int .i64) Value.bool (fun key kl hkey => by obtain ⟨x, rfl, _⟩ := Maps.keyOf_int_inv Tryz.underlying3 hkey; exact ⟨x, rfl⟩) (fun v y hv => bool_inv hv) B wo.heap.size 4096 D left cnt rfl HRG.out (fun hc0 hl0 => Hid.out ?gd) (fun x c' kl y w1 cnt1 hkx hlx hvy hat hrg1 hltc hg1 hsz1 hen => Hid.out ?gm))
        case gd =>
          unfold Hid
          have HNC := Lib.hid (show covB re le bl zs xs s = false by
            cases hcv : covB re le bl zs xs s
            · rfl
            · obtain ⟨x, hx, he⟩ := List.any_eq_true.1 hcv
              exact absurd (by simpa using he) (HL2.out x hx (hl0 _)))
          have HMQ := Lib.hid (show MaskMap re le bl zs xs 4096 B wr from ⟨D, HRG.out.owns, HKEYS.out⟩)
          have HBE2 := Lib.hid (HBE.out.below HBQ.out)
          have HB2 := Lib.hid (HBR.out.trans (HBQ.out.mono hszr))
          have hml := memL_pos s (by omega) hs1
          clear hl0 hc0
          cases o with
          | none =>
            have HCF := Lib.hid (show confF re le bl zs xs (s + 1) = some s by rw [confF_succ, if_neg (by rw [HNC.out]; simp; omega), ← HOO.out])
            have hv := HBE2.out
            rw [← HOO.out] at hv
            change _ = Value.slice none 0 0 at hv
            subst hv
            have hq1 := nil_eq
            go_wp2_with (go_at_call 64; refine (members_any s _ (by omega)).mono ?_; rintro r w5 ⟨v5, rfl, ho5, hb5⟩)
            go_roundw
            case rel => exact ⟨s + 1, by omega, by omega, by go_num, by rw [HCF.out]; exact ⟨⟨hs1, by omega⟩, ownsRow_base ho5 (by omega)⟩, HMQ.out.kept (grownBy_below hb5 none) (by simp), HB2.out.trans (hb5.mono (by omega))⟩
            case measure => simp [intOf]; omega
          | some b0 =>
            have hv := HBE2.out
            rw [← HOO.out] at hv
            obtain ⟨⟨hb01, hb02⟩, hov⟩ := hv
            have hml0 := memL_pos b0 hb02 hb01
            obtain ⟨n0, hn0⟩ : ∃ n0, (memL b0).length = n0 + 1 := ⟨(memL b0).length - 1, by omega⟩
            have HN0 := Lib.hid hn0
            have hov1 := hov
            rw [hn0] at hov1
            obtain ⟨g, cap, rfl⟩ := ownsRow_succ hov1
            have HOV := Lib.hid hov
            have hq2 := nil_ne
            cases hE : earlierI (toI (memL s)) (toI (memL b0))
            · have HCF := Lib.hid (show confF re le bl zs xs (s + 1) = some b0 by rw [confF_succ, if_neg (by rw [HNC.out]; simp; omega), ← HOO.out]; simp [hE])
              have HE := Lib.hid hE
              clear hov hov1 hn0 hml0 hE
              go_wp2_with (first
                | (go_at_call 64; refine (members_any s _ (by omega)).mono ?_; rintro r w5 ⟨v5, rfl, ho5, hb5⟩; obtain ⟨a5, c5, rfl⟩ := own_slice ho5; have HO5 := Lib.hid ho5; clear ho5)
                | (go_at_call 65; refine (earlier_at _ _ (memL s) (memL b0) _ _ _ _ _ rfl HN0.out.symm (memL_le _) (memL_le _) (own_cells HO5.out).2 (own_cells (ownsRow_below HOV.out hb5)).2).mono ?_; rw [HE.out]; rintro r w6 ⟨rfl, rfl⟩))
              go_roundw
              case rel => exact ⟨s + 1, by omega, by omega, by go_num, by rw [HCF.out]; exact ⟨⟨hb01, hb02⟩, ownsRow_below HOV.out hb5⟩, HMQ.out.kept (grownBy_below hb5 none) (by simp), HB2.out.trans (hb5.mono (by omega))⟩
              case measure => simp [intOf]; omega
            · have HCF := Lib.hid (show confF re le bl zs xs (s + 1) = some s by rw [confF_succ, if_neg (by rw [HNC.out]; simp; omega), ← HOO.out]; simp [hE])
              have HE := Lib.hid hE
              clear hov hov1 hn0 hml0 hE
              go_wp2_with (first
                | (go_at_call 64; refine (members_any s _ (by omega)).mono ?_; rintro r w5 ⟨v5, rfl, ho5, hb5⟩; obtain ⟨a5, c5, rfl⟩ := own_slice ho5; have HO5 := Lib.hid ho5; clear ho5)
                | (go_at_call 65; refine (earlier_at _ _ (memL s) (memL b0) _ _ _ _ _ rfl HN0.out.symm (memL_le _) (memL_le _) (own_cells HO5.out).2 (own_cells (ownsRow_below HOV.out hb5)).2).mono ?_; rw [HE.out]; rintro r w6 ⟨rfl, rfl⟩))
              go_roundw
              case rel => exact ⟨s + 1, by omega, by omega, by go_num, by rw [HCF.out]; exact ⟨⟨hs1, by omega⟩, ownsRow_base HO5.out (by omega)⟩, HMQ.out.kept (grownBy_below hb5 none) (by simp), HB2.out.trans (hb5.mono (by omega))⟩
              case measure => simp [intOf]; omega
        case gm =>
          unfold Hid
          obtain ⟨x', ex, rfl, hwx⟩ := Maps.keyOf_int_inv Tryz.underlying3 hkx
          cases ex
          obtain ⟨d0, hd0, hdx⟩ := (HKEYS.out _).1 (HL1.out _ hlx)
          obtain rfl : x = ((maskOf re le bl zs d0 : Nat) : Int) := by simpa using hdx
          have hm0 := HML.out d0
          obtain ⟨mm, hmm⟩ : ∃ mm, mm = maskOf re le bl zs d0 := ⟨_, rfl⟩
          clear hvy hat hkx
          rw [← hmm] at hlx hrg1 hen hm0 hwx ⊢
          have HMM0 := Lib.hid hmm
          have hand := and64 mm s (Nat.lt_trans hm0 (by decide)) (Nat.lt_of_lt_of_le (Nat.lt_of_lt_of_le hlt hP2) (by decide))
          have HRG1 := Lib.hid hrg1
          have HG1 := Lib.hid hg1
          have HLX := Lib.hid hlx
          have hb1 : Below wo.heap.size wo w1 := HBQ.out.grown hg1 hszq (fun k e => by cases e; exact Nat.le_refl _)
          have HB1 := Lib.hid hb1
          have HD0 := Lib.hid hd0
          clear hlx hrg1 hg1 hdx hmm hb1 hd0
          by_cases hcov : mm &&& s = s
          · have hand2 : bits .and .i64 (mm : Int) (s : Int) = (s : Int) := by rw [hand, hcov]
            have HCOV := Lib.hid hcov
            clear hand hcov
            have HCF := Lib.hid (show confF re le bl zs xs (s + 1) = confF re le bl zs xs s by
              have : covB re le bl zs xs s = true := List.any_eq_true.2 ⟨d0, HD0.out, by rw [← HMM0.out, HCOV.out]; simp⟩
              rw [confF_succ, if_pos (.inr this)])
            go_wp2
            go_roundw
            case rel => exact ⟨s + 1, by omega, by omega, by go_num, by rw [HCF.out]; exact HBE.out.below HB1.out, ⟨D, HRG1.out.owns, HKEYS.out⟩, HBR.out.trans (HB1.out.mono hszr)⟩
            case measure => simp [intOf]; omega
          · have hand2 : ¬ bits .and .i64 (mm : Int) (s : Int) = (s : Int) := by rw [hand]; omega
            have HCOV := Lib.hid hcov
            clear hand hcov
            go_wp2
            (try simp only [hPw])
            refine ⟨⟨_, _, _, _, _, _, _, _, _, _, ⟨_, _, HRG1.out, fun kl h => HL1.out kl (by simp at h; exact h.1), fun x hx h => ?_, HB1.out⟩, rfl⟩, ?_⟩
            · cases hlx : left (.int .i64 (maskOf re le bl zs x : Nat))
              · exact HL2.out x hx hlx
              · rw [hlx] at h
                simp at h
                have := WideAt.sameKey_eq h
                simp at this
                have h3 : maskOf re le bl zs x = mm := by omega
                rw [h3]
                exact HCOV.out
            · rw [HRG1.out.left_eq, HRG.out.left_eq]; omega
    · obtain rfl : s = P := by omega
      have hv := HBE.out
      rw [← HOO.out] at hv
      have HOP := Lib.hid HOO.out.symm
      cases o with
      | none =>
        change _ = Value.slice none 0 0 at hv
        subst hv
        have hq1 := nil_eq
        clear hMM
        go_wp2_with (go_at_call 62; refine (when_any _ _ _).mono ?_; rintro r w3 ⟨rfl, rfl⟩)
        (try simp only [Exit.noGoto_ret, Exit.then, Exit.noGoto])
        go_ret2
        exact ⟨_, by rw [HOP.out]; rfl, by rw [HOP.out]; rfl, HBR.out⟩
      | some b0 =>
        obtain ⟨⟨hb01, hb02⟩, hov⟩ := hv
        have hml0 := memL_pos b0 hb02 hb01
        obtain ⟨n0, hn0⟩ : ∃ n0, (memL b0).length = n0 + 1 := ⟨(memL b0).length - 1, by omega⟩
        have hov1 := hov
        rw [hn0] at hov1
        obtain ⟨g, cap, rfl⟩ := ownsRow_succ hov1
        have HOV := Lib.hid hov
        have HN0 := Lib.hid hn0
        have hq2 := nil_ne
        clear hMM hov hov1 hn0 hml0
        go_wp2_with (go_at_call 62; refine (when_any _ _ _).mono ?_; rintro r w3 ⟨rfl, rfl⟩)
        (try simp only [Exit.noGoto_ret, Exit.then, Exit.noGoto])
        go_ret2
        exact ⟨_, by rw [HOP.out]; rfl, by rw [HOP.out]; exact ⟨⟨hb01, hb02⟩, HOV.out⟩, HBR.out⟩
end Go.Proofs.YtpkldjlljoledaaGreatDoor

/- Rows of integers and lists of integers. -/
namespace Go.Proofs.YtpkldjlljoledaaGreatDoor
open Go.RowKit
open Calm (bcell Blk)

theorem own_ints {W : World} {base n : Nat} {v : Value} {xs : List Int} (h : W.ownsRow base 3 1 v n (xs.map fun z => (.int .i64 (z)))) (hn : n = xs.length) : ∃ A c, v = .slice A n c ∧ (∀ p, A = some p → base ≤ p.block) ∧ Cells W A xs := by
  rcases h.2 with ⟨h1, h2⟩ | ⟨g, cap, cur, h1, h2, h3, h4, h5, h6, h7⟩
  · exact ⟨none, 0, by rw [h1, h2], by simp, fun h0 => by omega⟩
  · refine ⟨some ⟨g, 0, none⟩, cap, h1, by rintro p ⟨⟩; exact h2, fun h0 => ⟨g, 0, rfl, (Array.getElem?_eq_some_iff.1 h3).1, fun k hk => ?_⟩⟩
    rw [Nat.zero_add, cell_of_row W g k cur _ _ h3]
    have hj : (xs.map fun z => ((.int .i64 (z)) : Value))[k]? = some ((.int .i64 (xs.getD k 0)) : Value) := by
      rw [List.getElem?_map, List.getElem?_eq_getElem hk]
      simp [List.getD_eq_getElem?_getD, List.getElem?_eq_getElem hk]
    rw [← h7, List.getElem?_take] at hj
    split at hj
    · rw [← hj]; simp
    · cases hj

theorem Cells.set {W : World} {A : Option Addr} {xs : List Int} (h : Cells W A xs) {q : Addr} (hq : ∀ p, A = some p → q.block ≠ p.block) (v : Value) : Cells (W.setCell q v) A xs := by
  intro h0
  obtain ⟨b, off, hA, hlt, hc⟩ := h h0
  have hne : q.block ≠ b := hq _ hA
  exact ⟨b, off, hA, by simpa using hlt, fun k hk => (World.cell?_setCell_far W q ⟨b, off + k, none⟩ v hne).trans (hc k hk)⟩

theorem cells_at {W : World} {A : Option Addr} {xs : List Int} (h : Cells W A xs) (n : Nat) (hn : n = xs.length) : 0 < n → ∃ ad, A = some ad ∧ ∀ j u, (xs.map fun z => ((.int .i64 (z)) : Value))[j]? = some u → W.cell? (ad.add j) = some u := by
  intro h0
  obtain ⟨b, off, hA, _, hc⟩ := h (by omega)
  refine ⟨_, hA, fun j u hj => ?_⟩
  rw [List.getElem?_map] at hj
  obtain ⟨z, hz, rfl⟩ := Option.map_eq_some_iff.1 hj
  have hlt : j < xs.length := (List.getElem?_eq_some_iff.1 hz).1
  have := hc j hlt
  rw [List.getD_eq_getElem?_getD, hz] at this
  rw [show (⟨b, off, none⟩ : Addr).add j = ⟨b, off + j, none⟩ by unfold Addr.add; split <;> simp_all]
  exact this

end Go.Proofs.YtpkldjlljoledaaGreatDoor

/- Contract of the reference's Some; the search for a conflict, plain. -/
namespace Go.Proofs.YtpkldjlljoledaaGreatDoor
open Go.RowKit
open Calm (bcell Blk)

/-- the readings with some indices. -/
def someL (zs : List (Int × Int × Int)) (l : List Nat) : List (Int × Int × Int) := l.map fun i => zs.getD i (0, 0, 0)
theorem someL_succ {zs : List (Int × Int × Int)} {l : List Nat} {k : Nat} (hk : k < l.length) : someL zs (l.take (k + 1)) = someL zs (l.take k) ++ [zs.getD (l.getD k 0) (0, 0, 0)] := by
  unfold someL
  rw [List.take_succ_eq_append_getElem hk, List.map_append, List.getD_eq_getElem?_getD (l := l), List.getElem?_eq_getElem hk]
  rfl
theorem toI_get {l : List Nat} {k : Nat} (hk : k < l.length) : (toI l).getD k 0 = ((l.getD k 0 : Nat) : Int) := by
  simp [toI, List.getD_eq_getElem?_getD, List.getElem?_map, List.getElem?_eq_getElem hk]
set_option maxHeartbeats 4000000 in
set_option maxRecDepth 100000 in
theorem some_any (A A2 : Option Addr) (zs : List (Int × Int × Int)) (l : List Nat) (c c2 : Nat) (w : World) (hC : RCells w A zs) (hI : Cells w A2 (toI l)) (hn : zs.length ≤ 1000) (hl : l.length ≤ 1000) (hb : ∀ i ∈ l, i < zs.length) :
    Calls Tryz.prog 102 #[.slice A zs.length c, .slice A2 l.length c2] w fun r w' => ∃ B e, r = .returned (.slice B l.length e) ∧ RCells w' B (someL zs l) ∧ Below w.heap.size w w' := by
  obtain ⟨i0, hi, hz0, hz1, hz2⟩ := info_parts Tryz.infoQ
  have HC := Lib.hid hC
  have HI := Lib.hid hI
  have HB := Lib.hid hb
  obtain ⟨N, hN⟩ : ∃ N, N = zs.length := ⟨_, rfl⟩
  obtain ⟨M, hM⟩ : ∃ M, M = l.length := ⟨_, rfl⟩
  have HN := Lib.hid hN
  have HM := Lib.hid hM
  rw [← hN] at hn ⊢
  rw [← hM] at hl ⊢
  clear hC hI hb hN hM
  go_enter Tryz.func102, Tryz.ntmps102
  go_wp2
  go_loopw [5, 6] (fun v i wr => ∃ k : Nat, k ≤ M ∧ i = (.int .i64 (k)) ∧ wr.ownsRow w.heap.size 120 3 v k (flat3 (someL zs (l.take k))) ∧ Below w.heap.size w wr) (fun _ i _ => M - (intOf i).toNat)
  case atStart => exact ⟨0, Nat.zero_le _, rfl, World.ownsRow_nil _ _ _ _, Below.refl _ _⟩
  case round =>
    obtain ⟨k, hk, rfl, hown, hBr⟩ := hrel
    have hsz := hBr.size
    have HO := Lib.hid hown
    have HBR := Lib.hid hBr
    clear hown
    by_cases hlt : k < M
    · have hlt2 : k < l.length := by rw [← HM.out]; exact hlt
      have hq0 := HB.out (l.getD k 0) (by rw [List.getD_eq_getElem?_getD, List.getElem?_eq_getElem hlt2, Option.getD_some]; exact List.getElem_mem _)
      obtain ⟨b, o, rfl, l1, k1⟩ := (HC.out.below hBr) (by omega)
      obtain ⟨b2, o2, rfl, l2, k2⟩ := (HI.out.below hBr) (by rw [toI_len]; omega)
      have y1 := k2 k (by rw [toI_len]; exact hlt2)
      rw [toI_get hlt2] at y1
      have HS := Lib.hid (someL_succ (zs := zs) hlt2)
      clear k2 hlt2
      obtain ⟨q, hq⟩ : ∃ q, q = l.getD k 0 := ⟨_, rfl⟩
      rw [← hq] at y1 hq0
      have HQ := Lib.hid hq
      clear hq
      obtain ⟨x1, x2, x3⟩ := k1 q hq0
      have hqN : q < N := by rw [HN.out]; exact hq0
      clear k1 hq0
      obtain ⟨⟨x, y, z⟩, hx⟩ : ∃ x, x = zs.getD q (0, 0, 0) := ⟨_, rfl⟩
      rw [← hx] at x1 x2 x3
      have HX := Lib.hid hx
      clear hx hBr
      simp only [] at x1 x2 x3
      go_wp2_with (at_builtin; refine wpList_append_own _ rfl _ _ 26 rfl w.heap.size 120 i0 _ 3 24 Tryz.underlying26 hi hz0 hz1 hz2 rfl (by decide) _ _ _ rfl (HO.out.alloc _) ⟨wr.heap.size, 0, none⟩ 1 1 [(.int .i64 (x)), (.int .i64 (y)), (.int .i64 (z))] rfl rfl ?c1 ?c2 ?c3 ?c4 ?c5 ?_)
      case c1 =>
        intro j u hj
        match j, hj with
        | 0, hj => simp at hj; subst hj; simp [Addr.add]
        | 1, hj => simp at hj; subst hj; simp [Addr.add]
        | 2, hj => simp at hj; subst hj; simp [Addr.add]
      case c2 => intro u hu; simp at hu; rcases hu with rfl | rfl | rfl <;> rfl
      case c3 => unfold maxLen; omega
      case c4 => omega
      case c5 => simp; omega
      intro v' w2 hown' hgrow _
      have hB' : Below w.heap.size w w2 := (HBR.out.alloc hsz _).grown hgrow (by simp; omega) (fun j hj => (HO.out.lt j hj).1)
      have HO2 := Lib.hid hown'
      clear hgrow hown'
      go_wp2
      go_roundw
      case rel => exact ⟨k + 1, by omega, by go_num, by rw [HS.out, ← HQ.out, ← HX.out, flat3_append]; simpa [flat3] using HO2.out, hB'⟩
      case measure => simp [intOf]; omega
    · obtain rfl : k = M := by omega
      have e : l.take k = l := by rw [HM.out]; exact List.take_length
      have hown := HO.out
      rw [e] at hown
      obtain ⟨B, cc, rfl, _, hr⟩ := own_reads hown (by rw [someL, List.length_map]; exact HM.out)
      have HR := Lib.hid hr
      clear hr hown e
      go_wp2
      go_ret
      first | exact ⟨B, cc, rfl, HR.out, HBR.out⟩ | exact ⟨B, ⟨cc, rfl⟩, HR.out, HBR.out⟩

/-- the first list, in their order, of k more indices from f on behind those taken, for which P holds. -/
def chosenF (P : List Nat → Bool) (n : Nat) : Nat → List Nat → Nat → Option (List Nat)
  | 0, taken, _ => if P taken = true then some taken else none
  | k + 1, taken, f => (List.range' f (n - f)).findSome? fun i => chosenF P n k (taken ++ [i]) (i + 1)
theorem findSome_at {α : Type} {g : Nat → Option α} : ∀ (m f i : Nat) {r : α}, (∀ j, f ≤ j → j < i → g j = none) → f ≤ i → i < f + m → g i = some r → (List.range' f m).findSome? g = some r
  | 0, f, i, r, _, h1, h2, _ => by omega
  | m + 1, f, i, r, h, h1, h2, hg => by
    rw [List.range'_succ, List.findSome?_cons]
    by_cases hfi : i = f
    · subst hfi; rw [hg]
    · rw [h f (Nat.le_refl _) (by omega)]
      exact findSome_at m (f + 1) i (fun j hj hj' => h j (by omega) hj') (by omega) (by omega) hg
theorem findSome_none {α : Type} {g : Nat → Option α} : ∀ (m f : Nat), (∀ j, f ≤ j → j < f + m → g j = none) → (List.range' f m).findSome? g = none
  | 0, f, _ => by simp
  | m + 1, f, h => by
    rw [List.range'_succ, List.findSome?_cons, h f (Nat.le_refl _) (by omega)]
    exact findSome_none m (f + 1) (fun j hj hj' => h j (by omega) (by omega))
theorem findSome_ex {α : Type} {g : Nat → Option α} : ∀ (m f : Nat) {r : α}, (List.range' f m).findSome? g = some r → ∃ i, f ≤ i ∧ i < f + m ∧ g i = some r ∧ ∀ j, f ≤ j → j < i → g j = none
  | 0, f, r, h => by simp at h
  | m + 1, f, r, h => by
    rw [List.range'_succ, List.findSome?_cons] at h
    cases hg : g f with
    | some x =>
      rw [hg] at h
      exact ⟨f, Nat.le_refl _, by omega, by rw [hg]; exact h, fun j _ _ => by omega⟩
    | none =>
      rw [hg] at h
      obtain ⟨i, h1, h2, h3, h4⟩ := findSome_ex m (f + 1) h
      refine ⟨i, by omega, by omega, h3, fun j hj hj' => ?_⟩
      by_cases hjf : j = f
      · subst hjf; exact hg
      · exact h4 j (by omega) hj'
/-- what is chosen begins with what is taken, and has k indices more. -/
theorem chosenF_ext {P : List Nat → Bool} {n : Nat} : ∀ (k : Nat) (taken : List Nat) (f : Nat) {l : List Nat}, chosenF P n k taken f = some l → ∃ t, l = taken ++ t ∧ t.length = k ∧ (∀ i ∈ t, f ≤ i ∧ i < n)
  | 0, taken, f, l, h => by
    unfold chosenF at h
    split at h
    · cases h; exact ⟨[], by simp, rfl, fun i hi => by cases hi⟩
    · cases h
  | k + 1, taken, f, l, h => by
    unfold chosenF at h
    obtain ⟨i, h1, h2, h3, _⟩ := findSome_ex _ _ h
    obtain ⟨t, h4, h5, h6⟩ := chosenF_ext k (taken ++ [i]) (i + 1) h3
    refine ⟨i :: t, by rw [h4]; simp, by simp [h5], fun j hj => ?_⟩
    rcases List.mem_cons.1 hj with rfl | hj
    · exact ⟨h1, by omega⟩
    · have := h6 j hj; exact ⟨by omega, this.2⟩
end Go.Proofs.YtpkldjlljoledaaGreatDoor

/- Contract of Sweep. %still -/
namespace Go.Proofs.YtpkldjlljoledaaGreatDoor
open Go.RowKit
open Calm (bcell Blk)

/-- the reading of a level, with an error in percent. -/
def sweep1 (re le bl ma st lo p x : Int) : Int × Int × Int := (x, vN re le bl ma st lo x * (100 - p) / (vD ma st lo x * 100), (vN re le bl ma st lo x * (100 + p) + vD ma st lo x * 100 - 1) / (vD ma st lo x * 100))
def sweepL (re le bl ma st lo p : Int) (zs : List Int) : List (Int × Int × Int) := zs.map (sweep1 re le bl ma st lo p)
theorem sweepL_succ (re le bl ma st lo p : Int) {zs : List Int} {k : Nat} (hk : k < zs.length) : sweepL re le bl ma st lo p (zs.take (k + 1)) = sweepL re le bl ma st lo p (zs.take k) ++ [sweep1 re le bl ma st lo p (zs.getD k 0)] := by
  unfold sweepL
  rw [List.take_succ_eq_append_getElem hk, List.map_append, List.map_singleton, List.getD_eq_getElem?_getD, List.getElem?_eq_getElem hk]
  rfl
theorem sweepL_len (re le bl ma st lo p : Int) (zs : List Int) : (sweepL re le bl ma st lo p zs).length = zs.length := by simp [sweepL]
theorem keptBad_nil {zs : List Int} (h : ∀ x ∈ zs, 1 ≤ x ∧ x ≤ 8) : keptBad zs = [] := by
  unfold keptBad
  rw [List.filter_eq_nil_iff]
  intro x hx
  simp [rangeErr_zero.2 (h x hx)]

set_option maxRecDepth 100000 in
set_option maxHeartbeats 4000000 in
theorem Sweep_ok (re le bl ma st lo p : Int) (A : Option Addr) (zs : List Int) (c : Nat) (w : World) (hL : Lim w) (hC : Cells w A zs) (hd : drvErr re le bl ma st lo = 0) (hn : zs.length ≤ 32) (hz : ∀ x ∈ zs, 1 ≤ x ∧ x ≤ 8) (hp : 0 ≤ p ∧ p ≤ 50) :
    Calls Tryz.prog 25 #[.agg #[(.int .i64 (re)), (.int .i64 (le)), (.int .i64 (bl)), (.int .i64 (ma)), (.int .i64 (st)), (.int .i64 (lo))], .slice A zs.length c, (.int .i64 (p))] w fun r w' => ∃ v, r = .returned (.tuple #[v, (.int .i64 (0))]) ∧ w'.ownsRow (w.heap.size + 1) 107 3 v zs.length (flat3 (sweepL re le bl ma st lo p zs)) ∧ Below w.heap.size w w' := by
  obtain ⟨i0, hi, iz0, iz1, iz2⟩ := info_parts Tryz.infoR
  have HZ := Lib.hid hz
  have HC := Lib.hid hC
  have hk : (keptBad zs).length = 0 := by rw [keptBad_nil hz]; rfl
  have HK := Lib.hid hk
  have HP := Lib.hid hp
  have hpe : rangeErr p 0 50 = 0 := rangeErr_zero.2 hp
  obtain ⟨N, hN⟩ : ∃ N, N = zs.length := ⟨_, rfl⟩
  have HN := Lib.hid hN
  have hKB : ∀ W : World, Cells W A zs → Calls Tryz.prog 67 #[.slice A N c, .func (.func 68) #[] #[]] W (SomeLen 0 W) := by
    intro W k1
    have := keptBad_any A zs c W k1 (by omega)
    rwa [hk, ← hN] at this
  have HKB := Lib.hid hKB
  rw [← hN] at hn ⊢
  clear hz hC hk hp hN hKB
  have e1 : firstOf [drvErr re le bl ma st lo, 0] = 0 := firstOf_eq_zero.2 (by simp [hd])
  have e2 : firstOf [0, rangeErr p 0 50] = 0 := firstOf_eq_zero.2 (by simp [hpe])
  have HD := Lib.hid hd
  have HPE := Lib.hid hpe
  clear hd hpe
  go_enter Tryz.func25, Tryz.ntmps25
  go_wp2_with (first
    | (go_at_call 60; refine (checkDriver_any _ _ _ _ _ _ _ (hL.below (by repeat (first | (with_reducible exact Below.refl _ _) | ((with_reducible refine Below.setCell ?_ ?_ _); rotate_left 1; focus (first | (simp; done) | (simp; omega) | (simp at *; omega))) | ((with_reducible refine Below.alloc ?_ ?_ _); rotate_left 1; focus (first | (simp; done) | (simp; omega) | (simp at *; omega))) | (with_reducible refine Below.drew ?_) | ((with_reducible refine Calm.step (by assumption) ?_ ?_); rotate_left 1; focus (first | (simp; done) | (simp; omega) | (simp at *; omega))))))).mono ?_; rintro r w1 ⟨rfl, hb⟩; obtain ⟨hc, hf⟩ := bcell hb; have hz := hb.size; (try simp at hz); have hz0 : w.heap.size < w1.heap.size := by omega)
    | (go_at_call 62; refine (when_any _ _ _).mono ?_; rintro r w2 ⟨rfl, rfl⟩)
    | (go_at_call 54; refine (first2_any _ _ _).mono ?_; rintro r w3 ⟨rfl, rfl⟩)
    | (go_at_call 61; refine (within_any _ _ _ _).mono ?_; rintro r w4 ⟨rfl, rfl⟩)
    | (go_at_call 67; refine (HKB.out _ (HC.out.below (by (repeat (first | (with_reducible exact Below.refl _ _) | ((with_reducible refine Below.setCell ?_ ?_ _); rotate_left 1; focus (first | (simp; done) | (simp; omega) | (simp at *; omega))) | ((with_reducible refine Below.alloc ?_ ?_ _); rotate_left 1; focus (first | (simp; done) | (simp; omega) | (simp at *; omega))) | (with_reducible refine Below.drew ?_) | ((with_reducible refine Calm.step (by assumption) ?_ ?_); rotate_left 1; focus (first | (simp; done) | (simp; omega) | (simp at *; omega)))))))).mono ?_; rintro r w5 ⟨A5, c5, rfl, hb5⟩; obtain ⟨hc5, hf5⟩ := bcell hb5; have hz5 := hb5.size; (try simp at hz5); have hz50 : w.heap.size < w5.heap.size := by omega))
  go_loopw [10, 40] (fun v i wr => ∃ k : Nat, k ≤ N ∧ i = (.int .i64 (k)) ∧ wr.ownsRow (w.heap.size + 1) 107 3 v k (flat3 (sweepL re le bl ma st lo p (zs.take k))) ∧ Below w.heap.size w wr ∧ Blk wr w.heap.size #[(.int .i64 (re)), (.int .i64 (le)), (.int .i64 (bl)), (.int .i64 (ma)), (.int .i64 (st)), (.int .i64 (lo))]) (fun _ i _ => N - (intOf i).toNat)
  case atStart => exact ⟨0, Nat.zero_le _, rfl, World.ownsRow_nil _ _ _ _, by (repeat (first | (with_reducible exact Below.refl _ _) | ((with_reducible refine Below.setCell ?_ ?_ _); rotate_left 1; focus (first | (simp; done) | (simp; omega) | (simp at *; omega))) | ((with_reducible refine Below.alloc ?_ ?_ _); rotate_left 1; focus (first | (simp; done) | (simp; omega) | (simp at *; omega))) | (with_reducible refine Below.drew ?_) | ((with_reducible refine Calm.step (by assumption) ?_ ?_); rotate_left 1; focus (first | (simp; done) | (simp; omega) | (simp at *; omega))))), by (repeat (first | ((with_reducible refine Blk.at_ ?_); focus (first | rfl | (simp; done) | (simp; omega))) | (with_reducible refine Blk.alloc ?_ _) | (with_reducible refine Blk.below ?_ (by with_reducible assumption)) | (with_reducible refine Blk.drew ?_)))⟩
  case round =>
    clear hc hf hc5 hf5
    obtain ⟨k, hk, rfl, hown, hB, K⟩ := hrel
    have hsz := hB.size
    have hKlt := K.lt
    have d0 := K.cell 0 (.int .i64 (re)) rfl
    have d1 := K.cell 1 (.int .i64 (le)) rfl
    have d2 := K.cell 2 (.int .i64 (bl)) rfl
    have d3 := K.cell 3 (.int .i64 (ma)) rfl
    have d4 := K.cell 4 (.int .i64 (st)) rfl
    have d5 := K.cell 5 (.int .i64 (lo)) rfl
    have HO := Lib.hid hown
    clear hown
    by_cases hlt : k < N
    · have hlt2 : k < zs.length := by rw [← HN.out]; exact hlt
      obtain ⟨b, o, rfl, l1, k1⟩ := HC.out (by omega)
      have x1 := (hB.cell (p := ⟨b, o + k, none⟩) l1).trans (k1 k hlt2)
      have hx8 := HZ.out _ (getD_mem hlt2)
      have HS := Lib.hid (sweepL_succ re le bl ma st lo p hlt2)
      clear k1 hlt2
      obtain ⟨x, hx⟩ : ∃ x, x = zs.getD k 0 := ⟨_, rfl⟩
      rw [← hx] at x1 hx8
      have HX := Lib.hid hx
      clear hx
      have hF := fit_of HD.out hx8
      obtain ⟨⟨v1, v2⟩, v3, v4⟩ := v_bds hF
      obtain ⟨p1, p2⟩ := HP.out
      have q1 : Bd 34426880000000000 (vN re le bl ma st lo x) := ⟨by omega, by omega⟩
      obtain ⟨u1, u2⟩ := q1.mul (show Bd 100 (100 - p) from ⟨by omega, by omega⟩) (by omega)
      obtain ⟨u3, u4⟩ := q1.mul (show Bd 150 (100 + p) from ⟨by omega, by omega⟩) (by omega)
      have u5 : 0 ≤ vN re le bl ma st lo x * (100 + p) := Int.mul_nonneg v1 (by omega)
      have u6 : 0 ≤ vN re le bl ma st lo x * (100 - p) := Int.mul_nonneg v1 (by omega)
      have z1 : ¬ vD ma st lo x * 100 = 0 := by omega
      obtain ⟨y1, y2⟩ := IntWalk.tdiv_le (vN re le bl ma st lo x * (100 - p)) (vD ma st lo x * 100) (by omega) (by omega)
      obtain ⟨y3, y4⟩ := IntWalk.tdiv_le (vN re le bl ma st lo x * (100 + p) + vD ma st lo x * 100 - 1) (vD ma st lo x * 100) (by omega) (by omega)
      clear q1
      go_wp2_with (go_at_call 70; refine (level_any _ _ _ _ _ _ _ _ hF).mono ?_; rintro r w6 ⟨rfl, hb6⟩; obtain ⟨hc6, hf6⟩ := bcell hb6)
      refine Rel.region2 19 (by kernel_rfl) (by kernel_rfl) (by kernel_rfl) (by kernel_rfl) ?_
      simp only [List.take_succ_cons, List.take_zero, List.drop_succ_cons, List.drop_zero, List.filterMap_cons, List.filterMap_nil]
      repeat (first | (apply Rel.op; (focus rfl); (focus (intro a W hb hd hbase; obtain ⟨hc, hf⟩ := bcell hb; clear hb hf; simp [Rel.deps, Rel.dep1, Act.eval] at hd; simp only [Act.eval, List.mem_cons, List.not_mem_nil, not_or, and_imp, or_false, Array.getD_eq_getD_getElem?] at hbase; go_simp; (try go_bits); (try rfl); done)); (try simp only [List.nil_append, List.cons_append])) | (apply Rel.alloc; (focus rfl); (focus (intro a W; go_simp; refine ⟨?_, ?_⟩; rfl; rfl)); (try simp only [List.nil_append, List.cons_append])) | (apply Rel.alloc; (focus rfl); (focus (intro a W; go_simp; rfl)); (try simp only [List.nil_append, List.cons_append])) | (apply Rel.build; (focus rfl); (focus (intro a W hb hd hbase; obtain ⟨hc, hf⟩ := bcell hb; clear hb hf; simp [Rel.deps, Rel.dep1, Act.eval] at hd; simp only [Act.eval, List.mem_cons, List.not_mem_nil, not_or, and_imp, or_false, Array.getD_eq_getD_getElem?] at hbase; go_simp; (first | rfl | (refine ⟨⟨?_, ?_⟩, ?_⟩; rfl; rfl; rfl) | (refine ⟨?_, ?_⟩; rfl; rfl)))); (try simp only [List.nil_append, List.cons_append])))
      refine Rel.done ?_
      intro x w7 hb7 hx
      simp only [Rel.facts, Nat.zero_add, Nat.reduceAdd] at hx
      obtain ⟨e0, e1, e2, e3, e4, e5, e6, e7, e8, e9, e10, e11, e12, e13, e14, e15, e16, e17, ⟨sl, e18, slB, slk⟩, _⟩ := hx
      simp only [Rel.fill, Nat.zero_add, Nat.reduceAdd, e0, e1, e2, e3, e4, e5, e6, e7, e8, e9, e10, e11, e12, e13, e14, e15, e16, e17, e18]
      simp only [Act.put, List.setIfInBounds_toArray, List.set_cons_zero, List.set_cons_succ]
      clear e0 e1 e2 e3 e4 e5 e6 e7 e8 e9 e10 e11 e12 e13 e14 e15 e16 e17 e18
      clear x
      obtain ⟨hb7c, hb7f⟩ := bcell hb7
      have hb7z := hb7.size
      (try simp at hb7z)
      (try have hb7z0 : w.heap.size < w7.heap.size := by omega)
      (try have hb7z1 : w.heap.size + 1 < w7.heap.size := by omega)
      (try have hb7z2 : w.heap.size + 1 + 1 < w7.heap.size := by omega)
      (try have hb7z3 : w.heap.size + 1 + 1 + 1 < w7.heap.size := by omega)
      (try have hb7z4 : w.heap.size + 1 + 1 + 1 + 1 < w7.heap.size := by omega)
      (try have hb7z5 : w.heap.size + 1 + 1 + 1 + 1 + 1 < w7.heap.size := by omega)
      have ho1 := ownsRow_below HO.out (hb6.trans (Below.mono hb7 hb6.size))
      have s0 := slk.cell 0 (.int .i64 (x)) rfl
      have s1 := slk.cell 1 (.int .i64 (vN re le bl ma st lo x * (100 - p) / (vD ma st lo x * 100))) rfl
      have s2 := slk.cell 2 (.int .i64 ((vN re le bl ma st lo x * (100 + p) + vD ma st lo x * 100 - 1) / (vD ma st lo x * 100))) rfl
      refine wpList_append_own _ rfl _ _ 38 rfl (w.heap.size + 1) 107 i0 _ 3 24 Tryz.underlying38 hi iz0 iz1 iz2 rfl (by decide) _ _ _ rfl ho1 ⟨sl, 0, none⟩ 1 1 [(.int .i64 (x)), (.int .i64 (vN re le bl ma st lo x * (100 - p) / (vD ma st lo x * 100))), (.int .i64 ((vN re le bl ma st lo x * (100 + p) + vD ma st lo x * 100 - 1) / (vD ma st lo x * 100)))] rfl rfl ?c1 ?c2 ?c3 ?c4 ?c5 ?_
      case c1 =>
        intro j u hj
        match j, hj with
        | 0, hj => simp at hj; subst hj; exact s0
        | 1, hj => simp at hj; subst hj; exact s1
        | 2, hj => simp at hj; subst hj; exact s2
      case c2 => intro u hu; simp at hu; rcases hu with rfl | rfl | rfl <;> rfl
      case c3 => unfold maxLen; omega
      case c4 => omega
      case c5 => have := hb6.size; omega
      intro v' w8 hown' hgrow _
      have hB7 : Below w.heap.size w w7 := hB.trans (Below.mono (hb6.trans (Below.mono hb7 hb6.size)) hsz)
      have hB8 : Below (w.heap.size + 1) w7 w8 := (Below.refl _ _).grown hgrow (by have := hb6.size; omega) (fun j hj => (HO.out.lt j hj).1)
      have K8 := ((K.below hb6).below hb7).of (Nat.lt_succ_self _) hB8
      clear hgrow
      have HO8 := Lib.hid hown'
      clear hown'
      go_wp2
      go_roundw
      case rel => exact ⟨k + 1, by omega, by go_num, by rw [HS.out, flat3_append, ← HX.out]; simpa [flat3, sweep1] using HO8.out, hB7.trans (Below.mono hB8 (by omega)), K8⟩
      case measure => simp [intOf]; omega
    · obtain rfl : k = N := by omega
      have e : zs.take k = zs := by rw [HN.out]; exact List.take_length
      have hown := HO.out
      rw [e] at hown
      have HO2 := Lib.hid hown
      clear hown e
      go_wp2
      go_ret2
      exact ⟨_, rfl, HO2.out, hB⟩
end Go.Proofs.YtpkldjlljoledaaGreatDoor
