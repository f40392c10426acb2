/- Part 11 of the texts of the claim: It6, B11, H1, H2. -/
import Derived.Test.YtpkldjlljoledaaDoorMh10
import Derived.WalkMore
import Derived.Test.YtpkldjlljoledaaDoorMh9
import Derived.Test.YtpkldjlljoledaaDoorMh8

/- Contract of Conflict. -/
namespace Go.Proofs.YtpkldjlljoledaaDoor
open Go.RowKit
open Calm (bcell Blk)

def confErr (re le bl ma st lo m k r : Int) (zs : List (Int × Int × Int)) : Int := firstOf [classErr re le bl ma st lo m k r, readsErr zs, if 8 < zs.length then 23 else 0]
def toI (l : List Nat) : List Int := l.map fun (n : Nat) => (n : Int)
def covB (re le bl : Int) (zs xs : List (Int × Int × Int)) (s : Nat) : Bool := xs.any fun x => (maskOf re le bl zs x &&& s) == s
/-- the best set among those below k. -/
def confF (re le bl : Int) (zs xs : List (Int × Int × Int)) : Nat → Option Nat
  | 0 => none
  | s + 1 => if s = 0 ∨ covB re le bl zs xs s = true then confF re le bl zs xs s else
    match confF re le bl zs xs s with
    | none => some s
    | some b => if earlierI (toI (memL s)) (toI (memL b)) = true then some s else some b
theorem confF_succ (re le bl : Int) (zs xs : List (Int × Int × Int)) (s : Nat) : confF re le bl zs xs (s + 1) = if s = 0 ∨ covB re le bl zs xs s = true then confF re le bl zs xs s else
    match confF re le bl zs xs s with
    | none => some s
    | some b => if earlierI (toI (memL s)) (toI (memL b)) = true then some s else some b := rfl
def BestAt (W : World) (base : Nat) (v : Value) : Option Nat → Prop
  | none => v = .slice none 0 0
  | some b => (1 ≤ b ∧ b < 256) ∧ W.ownsRow base 3 1 v (memL b).length (ints (memL b))
theorem BestAt.below {W W' : World} {base : Nat} {v : Value} {o : Option Nat} (h : BestAt W base v o) (hb : Below W.heap.size W W') : BestAt W' base v o := by
  cases o with
  | none => exact h
  | some b => exact ⟨h.1, ownsRow_below h.2 hb⟩
theorem own_cells {W : World} {base e : Nat} {A : Option Addr} {n c : Nat} {l : List Nat} (h : W.ownsRow base e 1 (.slice A n c) l.length (ints l)) : n = l.length ∧ Cells W A (toI l) := by
  rcases h.2 with ⟨h1, h2⟩ | ⟨g, cap, cur, h1, h2, h3, h4, h5, h6, h7⟩
  · cases h1
    refine ⟨h2.symm, fun h0 => ?_⟩
    simp [toI] at h0
    omega
  · cases h1
    refine ⟨rfl, fun h0 => ⟨g, 0, rfl, (Array.getElem?_eq_some_iff.1 h3).1, fun k hk => ?_⟩⟩
    have hk2 : k < l.length := by simpa [toI] using hk
    rw [cell_of_row W g (0 + k) cur e _ h3, Nat.zero_add]
    have e1 : (cur.toList.take (l.length * 1))[k]? = (ints l)[k]? := by rw [h7]
    rw [List.getElem?_take] at e1
    simp [hk2] at e1
    rw [e1]
    simp [ints, toI, hk2]
theorem bool_inv {v : Value} {y : DataW Unit × List MemPlace} (h : plainElem Tryd.prog 4 v = some y) : ∃ b, v = .bool b := by
  have hu := Tryd.underlying4
  cases v <;> simp [plainElem, hu] at h
  exact ⟨_, rfl⟩
theorem nil_eq (W : World) : Sem.run Tryd.prog (binOp BinOp.eql 38 (.slice none 0 0) (.slice none 0 0)) W = .ok (.bool true) W := by
  simp [go_sem, binOp, run_equal_slice_nil _ _ _ _ _ _ Tryd.underlying38]
theorem nil_ne (W : World) (g : Nat) (n c : Nat) : Sem.run Tryd.prog (binOp BinOp.eql 38 (.slice (some ⟨g, 0, none⟩) n c) (.slice none 0 0)) W = .ok (.bool false) W := by
  simp [go_sem, binOp, run_equal_slice_nil _ _ _ _ _ _ Tryd.underlying38]
theorem toI_len (l : List Nat) : (toI l).length = l.length := by simp [toI]
theorem memL_le (s : Nat) : (memL s).length ≤ 8 := memN_le s 8
theorem earlier_at (A B : Option Addr) (l1 l2 : List Nat) (n m c1 c2 : Nat) (w : World) (hn : n = l1.length) (hm : m = l2.length) (h1 : l1.length ≤ 8) (h2 : l2.length ≤ 8) (hA : Cells w A (toI l1)) (hB : Cells w B (toI l2)) :
    Calls Tryd.prog 106 #[.slice A n c1, .slice B m c2] w fun x w' => x = .returned (.bool (earlierI (toI l1) (toI l2))) ∧ w = w' := by
  have := earlier_any A B (toI l1) (toI l2) c1 c2 w hA hB (by rw [toI_len]; omega) (by rw [toI_len]; omega)
  rw [toI_len, toI_len, ← hn, ← hm] at this
  exact this
theorem maskOf_lt {re le bl : Int} {zs : List (Int × Int × Int)} (x : Int × Int × Int) (h : zs.length ≤ 8) : maskOf re le bl zs x < 256 :=
  Nat.lt_of_lt_of_le (maskN_lt _ _ _) (Nat.pow_le_pow_right (by decide) h : 2 ^ zs.length ≤ 2 ^ 8)

set_option maxRecDepth 100000 in
set_option maxHeartbeats 4000000 in
theorem Conflict_bad (re le bl ma st lo m k r : Int) (A : Option Addr) (zs : List (Int × Int × Int)) (c : Nat) (w : World) (hL : Lim w) (hC : RCells w A zs) (hn : zs.length ≤ 1000) (h : confErr re le bl ma st lo m k r zs ≠ 0) :
    Calls Tryd.prog 67 #[.agg #[(.int .i64 (re)), (.int .i64 (le)), (.int .i64 (bl)), (.int .i64 (ma)), (.int .i64 (st)), (.int .i64 (lo)), (.int .i64 (m)), (.int .i64 (k)), (.int .i64 (r))], .slice A zs.length c] w fun x w' => x = .returned (.tuple #[.slice none 0 0, (.int .i64 (confErr re le bl ma st lo m k r zs))]) ∧ Below w.heap.size w w' := by
  have HC := Lib.hid hC
  obtain ⟨E, hE⟩ : ∃ E, E = classErr re le bl ma st lo m k r := ⟨_, rfl⟩
  obtain ⟨E2, hE2⟩ : ∃ E2, E2 = readsErr zs := ⟨_, rfl⟩
  obtain ⟨N, hN⟩ : ∃ N, N = zs.length := ⟨_, rfl⟩
  obtain ⟨E3, hE3⟩ : ∃ E3 : Int, E3 = if 8 < N then 23 else 0 := ⟨_, rfl⟩
  have hr : confErr re le bl ma st lo m k r zs = firstOf [E, E2, E3] := by rw [hE, hE2, hE3, hN]; rfl
  rw [hr] at h ⊢
  have HE := Lib.hid hE
  have HE2 := Lib.hid hE2
  have hCR : ∀ W, RCells W A zs → Calls Tryd.prog 100 #[.slice A N c] W fun r w' => r = .returned (.int .i64 (E2)) ∧ Below W.heap.size W w' := by
    intro W k1
    have := checkReadings_any A zs c W k1 hn
    rwa [← hE2, ← hN] at this
  have HCR := Lib.hid hCR
  have hW : ∀ W, Calls Tryd.prog 87 #[.bool (decide ((8 : Int) < (N : Int))), (.int .i64 (23))] W fun r w' => r = .returned (.int .i64 (E3)) ∧ W = w' := by
    intro W
    have := when_any (decide ((8 : Int) < (N : Int))) 23 W
    rw [hE3]
    by_cases h8 : 8 < N
    · have h9 : (8 : Int) < (N : Int) := by omega
      simpa [h8, h9] using this
    · have h9 : ¬ (8 : Int) < (N : Int) := by omega
      simpa [h8, h9] using this
  have HW := Lib.hid hW
  rw [← hN] at hn ⊢
  clear hE hE2 hr hC hN hE3 hCR hW
  go_enter Tryd.func67, Tryd.ntmps67
  go_wp2
  go_step3
  go_wp2_with (first
    | (go_at_call 99; refine (checkClass_any re le bl ma st lo m k r _ (hL.below (by repeat (first | (with_reducible exact Below.refl _ _) | ((with_reducible refine Below.setCell ?_ ?_ _); rotate_left 1; focus (first | (simp; done) | (simp; omega) | (simp at *; omega))) | ((with_reducible refine Below.alloc ?_ ?_ _); rotate_left 1; focus (first | (simp; done) | (simp; omega) | (simp at *; omega))) | (with_reducible refine Below.drew ?_) | ((with_reducible refine Calm.step (by assumption) ?_ ?_); rotate_left 1; focus (first | (simp; done) | (simp; omega) | (simp at *; omega))))))).mono ?_; rw [← HE.out]; rintro r w1 ⟨rfl, hb1⟩; obtain ⟨hc1, hf1⟩ := bcell hb1; have hz1 := hb1.size; (try simp at hz1); have hz10 : w.heap.size < w1.heap.size := by omega)
    | (go_at_call 100; refine (HCR.out _ (HC.out.below (by (repeat (first | (with_reducible exact Below.refl _ _) | ((with_reducible refine Below.setCell ?_ ?_ _); rotate_left 1; focus (first | (simp; done) | (simp; omega) | (simp at *; omega))) | ((with_reducible refine Below.alloc ?_ ?_ _); rotate_left 1; focus (first | (simp; done) | (simp; omega) | (simp at *; omega))) | (with_reducible refine Below.drew ?_) | ((with_reducible refine Calm.step (by assumption) ?_ ?_); rotate_left 1; focus (first | (simp; done) | (simp; omega) | (simp at *; omega)))))))).mono ?_; rintro r w2 ⟨rfl, hb2⟩; obtain ⟨hc2, hf2⟩ := bcell hb2; have hz2 := hb2.size; (try simp at hz2); have hz20 : w.heap.size < w2.heap.size := by omega)
    | (go_at_call 87; refine (HW.out _).mono ?_; rintro r w3 ⟨rfl, rfl⟩)
    | (go_at_call 86; refine (first3_any _ _ _ _).mono ?_; rintro r w3 ⟨rfl, rfl⟩))
  (try simp only [Exit.noGoto_ret, Exit.then, Exit.noGoto])
  go_ret2
  refine ⟨by first | rfl | (simp; done), ?_⟩
  repeat (first | (with_reducible exact Below.refl _ _) | ((with_reducible refine Below.setCell ?_ ?_ _); rotate_left 1; focus (first | (simp; done) | (simp; omega) | (simp at *; omega))) | ((with_reducible refine Below.alloc ?_ ?_ _); rotate_left 1; focus (first | (simp; done) | (simp; omega) | (simp at *; omega))) | (with_reducible refine Below.drew ?_) | ((with_reducible refine Calm.step (by assumption) ?_ ?_); rotate_left 1; focus (first | (simp; done) | (simp; omega) | (simp at *; omega))))

set_option maxRecDepth 100000 in
set_option maxHeartbeats 8000000 in
theorem Conflict_ok (re le bl ma st lo m k r : Int) (A : Option Addr) (zs : List (Int × Int × Int)) (c : Nat) (w : World) (hL : Lim w) (hC : RCells w A zs) (hn : zs.length ≤ 1000) (h : confErr re le bl ma st lo m k r zs = 0) :
    Calls Tryd.prog 67 #[.agg #[(.int .i64 (re)), (.int .i64 (le)), (.int .i64 (bl)), (.int .i64 (ma)), (.int .i64 (st)), (.int .i64 (lo)), (.int .i64 (m)), (.int .i64 (k)), (.int .i64 (r))], .slice A zs.length c] w fun x w' => ∃ v, x = .returned (.tuple #[v, (.int .i64 (if confF re le bl zs (drvs ma st lo m k r) (2 ^ zs.length) = none then 7 else 0))]) ∧ BestAt w' w.heap.size v (confF re le bl zs (drvs ma st lo m k r) (2 ^ zs.length)) ∧ Below w.heap.size w w' := by
  have h3 := firstOf_eq_zero.1 (show firstOf [classErr re le bl ma st lo m k r, readsErr zs, if 8 < zs.length then 23 else 0] = 0 from h)
  have h4 : classErr re le bl ma st lo m k r = 0 := h3 _ (by simp)
  have h5 : readsErr zs = 0 := h3 _ (by simp)
  have h6 : zs.length ≤ 8 := by
    have := h3 (if 8 < zs.length then 23 else 0) (by simp)
    split at this
    · simp at this
    · omega
  have HREG := Lib.hid (show regErr re le bl ma st lo m k r zs = 0 from firstOf_eq_zero.2 (by simp [h4, h5]))
  have H4 := Lib.hid h4
  have HC := Lib.hid hC
  have HML := Lib.hid (fun (x : Int × Int × Int) => maskOf_lt (re := re) (le := le) (bl := bl) x h6)
  have H6 := Lib.hid h6
  obtain ⟨xs, hxs⟩ : ∃ xs, xs = drvs ma st lo m k r := ⟨_, rfl⟩
  obtain ⟨N, hN⟩ : ∃ N, N = zs.length := ⟨_, rfl⟩
  have HX := Lib.hid hxs
  have hCR : ∀ W, RCells W A zs → Calls Tryd.prog 100 #[.slice A N c] W fun r w' => r = .returned (.int .i64 (0)) ∧ Below W.heap.size W w' := by
    intro W k1
    have := checkReadings_any A zs c W k1 hn
    rwa [h5, ← hN] at this
  have HCR := Lib.hid hCR
  have hEX : ∀ W, RCells W A zs → Calls Tryd.prog 104 #[.agg #[(.int .i64 (re)), (.int .i64 (le)), (.int .i64 (bl)), (.int .i64 (ma)), (.int .i64 (st)), (.int .i64 (lo)), (.int .i64 (m)), (.int .i64 (k)), (.int .i64 (r))], .slice A N c] W fun x w' => ∃ B, x = .returned (.map (some B)) ∧ W.heap.size ≤ B ∧ MaskMap re le bl zs xs 4096 B w' ∧ Below W.heap.size W w' := by
    intro W k1
    have := explained_any re le bl ma st lo m k r A zs c W k1 h6 HREG.out
    rwa [← hN, ← hxs] at this
  have HEX := Lib.hid hEX
  rw [← hN] at hn h6 ⊢
  rw [← hxs]
  have hW : ∀ W, Calls Tryd.prog 87 #[.bool (decide ((8 : Int) < (N : Int))), (.int .i64 (23))] W fun r w' => r = .returned (.int .i64 (0)) ∧ W = w' := by
    intro W
    have := when_any (decide ((8 : Int) < (N : Int))) 23 W
    have h9 : ¬ (8 : Int) < (N : Int) := by omega
    simpa [h9] using this
  have HW := Lib.hid hW
  have HN := Lib.hid hN
  obtain ⟨P, hP⟩ : ∃ P : Nat, P = 2 ^ N := ⟨_, rfl⟩
  have hPw : wrap64 ((2 : Int) ^ N) = (P : Int) := by rw [wrap_two N (by omega), hP]
  have hP1 : 1 ≤ P := by rw [hP]; exact Nat.two_pow_pos N
  have hP2 : P ≤ 256 := by rw [hP]; exact Nat.pow_le_pow_right (by decide) h6
  have HP := Lib.hid hP
  rw [← hP]
  have e1 : firstOf [0, 0, 0] = 0 := by rw [firstOf_eq_zero]; simp
  clear hC h h3 h4 h5 hN hCR hW hxs hEX hP
  go_enter Tryd.func67, Tryd.ntmps67
  go_wp2
  go_step3
  go_wp2_with (first
    | (go_at_call 99; refine (checkClass_any re le bl ma st lo m k r _ (hL.below (by repeat (first | (with_reducible exact Below.refl _ _) | ((with_reducible refine Below.setCell ?_ ?_ _); rotate_left 1; focus (first | (simp; done) | (simp; omega) | (simp at *; omega))) | ((with_reducible refine Below.alloc ?_ ?_ _); rotate_left 1; focus (first | (simp; done) | (simp; omega) | (simp at *; omega))) | (with_reducible refine Below.drew ?_) | ((with_reducible refine Calm.step (by assumption) ?_ ?_); rotate_left 1; focus (first | (simp; done) | (simp; omega) | (simp at *; omega))))))).mono ?_; rw [H4.out]; rintro r w1 ⟨rfl, hb1⟩; obtain ⟨hc1, hf1⟩ := bcell hb1; have hz1 := hb1.size; (try simp at hz1); have hz10 : w.heap.size < w1.heap.size := by omega)
    | (go_at_call 100; refine (HCR.out _ (HC.out.below (by (repeat (first | (with_reducible exact Below.refl _ _) | ((with_reducible refine Below.setCell ?_ ?_ _); rotate_left 1; focus (first | (simp; done) | (simp; omega) | (simp at *; omega))) | ((with_reducible refine Below.alloc ?_ ?_ _); rotate_left 1; focus (first | (simp; done) | (simp; omega) | (simp at *; omega))) | (with_reducible refine Below.drew ?_) | ((with_reducible refine Calm.step (by assumption) ?_ ?_); rotate_left 1; focus (first | (simp; done) | (simp; omega) | (simp at *; omega)))))))).mono ?_; rintro r w2 ⟨rfl, hb2⟩; obtain ⟨hc2, hf2⟩ := bcell hb2; have hz2 := hb2.size; (try simp at hz2); have hz20 : w.heap.size < w2.heap.size := by omega)
    | (go_at_call 87; refine (HW.out _).mono ?_; rintro r w3 ⟨rfl, rfl⟩)
    | (go_at_call 86; refine (first3_any _ _ _ _).mono ?_; rintro r w3 ⟨rfl, rfl⟩)
    | (go_at_call 104; refine (HEX.out _ (HC.out.below (by (repeat (first | (with_reducible exact Below.refl _ _) | ((with_reducible refine Below.setCell ?_ ?_ _); rotate_left 1; focus (first | (simp; done) | (simp; omega) | (simp at *; omega))) | ((with_reducible refine Below.alloc ?_ ?_ _); rotate_left 1; focus (first | (simp; done) | (simp; omega) | (simp at *; omega))) | (with_reducible refine Below.drew ?_) | ((with_reducible refine Calm.step (by assumption) ?_ ?_); rotate_left 1; focus (first | (simp; done) | (simp; omega) | (simp at *; omega)))))))).mono ?_; rintro r w4 ⟨B, rfl, hBl, hMM, hb4⟩))
  go_step3
  have hBw : w.heap.size ≤ B := by simp at hBl; omega
  have HB4 := Lib.hid (show Below w.heap.size w w4 by
    (repeat (first | (with_reducible exact Below.refl _ _) | ((with_reducible refine Below.setCell ?_ ?_ _); rotate_left 1; focus (first | (simp; done) | (simp; omega) | (simp at *; omega))) | ((with_reducible refine Below.alloc ?_ ?_ _); rotate_left 1; focus (first | (simp; done) | (simp; omega) | (simp at *; omega))) | (with_reducible refine Below.drew ?_) | ((with_reducible refine Calm.step (by assumption) ?_ ?_); rotate_left 1; focus (first | (simp; done) | (simp; omega) | (simp at *; omega))))))
  have HMM := Lib.hid hMM
  have hBw4 := hMM.lt
  clear hb1 hb2 hb4 hMM hc1 hf1 hc2 hf2 hBl hz1 hz10 hz2 hz20 hL
  go_wp2
  go_loopw [8, 9] (fun v s wr => ∃ k : Nat, 1 ≤ k ∧ k ≤ P ∧ s = (.int .i64 ((k : Nat))) ∧ BestAt wr w.heap.size v (confF re le bl zs xs k) ∧ MaskMap re le bl zs xs 4096 B wr ∧ Below w.heap.size w wr) (fun _ s _ => P - (intOf s).toNat)
  case atStart => exact ⟨1, by omega, by omega, rfl, by simp [confF, BestAt], HMM.out, HB4.out⟩
  case round =>
    obtain ⟨s, hs1, hs2, rfl, hbest, hMM, hB⟩ := hrel
    obtain ⟨wo, hwo⟩ : ∃ wo, wo = wr := ⟨_, rfl⟩
    subst hwo
    have hszr := hB.size
    have HBE := Lib.hid hbest
    have HBR := Lib.hid hB
    obtain ⟨o, ho⟩ : ∃ o, o = confF re le bl zs xs s := ⟨_, rfl⟩
    have HOO := Lib.hid ho
    have hBwr := hMM.lt
    clear ho hbest hB
    by_cases hlt : s < P
    · obtain ⟨D, hown, hkeys⟩ := hMM
      have HKEYS := Lib.hid hkeys
      have HOWN := Lib.hid hown
      have HDM := Lib.hid hown.isMap
      clear hkeys hown
      go_wp2_with (at_range; refine wpList_range_own _ rfl _ 174 rfl 3 4 Tryd.keyI Tryd.underlying174 _ B 4096 D rfl HOWN.out ?_; intro w0 hrg0 hg0 hs0)
      go_frame
      go_loopw [10] (fun _ wq => ∃ left cnt, wq.ranges Tryd.prog 3 (plainElem Tryd.prog 4) B wo.heap.size 4096 D left cnt ∧ (∀ kl, left kl = true → Maps.has D kl = true) ∧ (∀ x, x ∈ xs → left (.int .i64 (maskOf re le bl zs x : Nat)) = false → maskOf re le bl zs x &&& s ≠ s) ∧ Below wo.heap.size wo wq) (fun _ wq => wq.rangeLeft B wo.heap.size)
      case atStart =>
        refine ⟨_, _, hrg0, fun _ h => h, fun x hx h => ?_, (Below.refl _ _).grown hg0 (Nat.le_refl _) (fun k e => by cases e)⟩
        rw [(HKEYS.out _).2 ⟨x, hx, rfl⟩] at h
        cases h
      case round =>
        obtain ⟨left, cnt, hrg, hl1, hl2, hBq⟩ := hrel
        have HL1 := Lib.hid hl1
        have HL2 := Lib.hid hl2
        have HRG := Lib.hid hrg
        have HBQ := Lib.hid hBq
        have hszq := hBq.size
        clear hl1 hl2 hrg hBq hg0 hs0 hrg0
        go_wp2_with (at_next; refine wpList_next_ranges _ rfl _ rfl 3 Tryd.keyI (plainElem Tryd.prog 4) (Value.int .i64) Value.bool (fun key kl hkey => by obtain ⟨x, rfl, _⟩ := Maps.keyOf_int_inv Tryd.underlying3 hkey; exact ⟨x, rfl⟩) (fun v y hv => bool_inv hv) B wo.heap.size 4096 D left cnt rfl HRG.out (fun hc0 hl0 => Hid.out ?gd) (fun x c' kl y w1 cnt1 hkx hlx hvy hat hrg1 hltc hg1 hsz1 hen => Hid.out ?gm))
        case gd =>
          unfold Hid
          have HNC := Lib.hid (show covB re le bl zs xs s = false by
            cases hcv : covB re le bl zs xs s
            · rfl
            · obtain ⟨x, hx, he⟩ := List.any_eq_true.1 hcv
              exact absurd (by simpa using he) (HL2.out x hx (hl0 _)))
          have HMQ := Lib.hid (show MaskMap re le bl zs xs 4096 B wr from ⟨D, HRG.out.owns, HKEYS.out⟩)
          have HBE2 := Lib.hid (HBE.out.below HBQ.out)
          have HB2 := Lib.hid (HBR.out.trans (HBQ.out.mono hszr))
          have hml := memL_pos s (by omega) hs1
          clear hl0 hc0
          cases o with
          | none =>
            have HCF := Lib.hid (show confF re le bl zs xs (s + 1) = some s by rw [confF_succ, if_neg (by rw [HNC.out]; simp; omega), ← HOO.out])
            have hv := HBE2.out
            rw [← HOO.out] at hv
            change _ = Value.slice none 0 0 at hv
            subst hv
            have hq1 := nil_eq
            go_wp2_with (go_at_call 105; refine (members_any s _ (by omega)).mono ?_; rintro r w5 ⟨v5, rfl, ho5, hb5⟩)
            go_roundw
            case rel => exact ⟨s + 1, by omega, by omega, by go_num, by rw [HCF.out]; exact ⟨⟨hs1, by omega⟩, ownsRow_base ho5 (by omega)⟩, HMQ.out.kept (grownBy_below hb5 none) (by simp), HB2.out.trans (hb5.mono (by omega))⟩
            case measure => simp [intOf]; omega
          | some b0 =>
            have hv := HBE2.out
            rw [← HOO.out] at hv
            obtain ⟨⟨hb01, hb02⟩, hov⟩ := hv
            have hml0 := memL_pos b0 hb02 hb01
            obtain ⟨n0, hn0⟩ : ∃ n0, (memL b0).length = n0 + 1 := ⟨(memL b0).length - 1, by omega⟩
            have HN0 := Lib.hid hn0
            have hov1 := hov
            rw [hn0] at hov1
            obtain ⟨g, cap, rfl⟩ := ownsRow_succ hov1
            have HOV := Lib.hid hov
            have hq2 := nil_ne
            cases hE : earlierI (toI (memL s)) (toI (memL b0))
            · have HCF := Lib.hid (show confF re le bl zs xs (s + 1) = some b0 by rw [confF_succ, if_neg (by rw [HNC.out]; simp; omega), ← HOO.out]; simp [hE])
              have HE := Lib.hid hE
              clear hov hov1 hn0 hml0 hE
              go_wp2_with (first
                | (go_at_call 105; refine (members_any s _ (by omega)).mono ?_; rintro r w5 ⟨v5, rfl, ho5, hb5⟩; obtain ⟨a5, c5, rfl⟩ := own_slice ho5; have HO5 := Lib.hid ho5; clear ho5)
                | (go_at_call 106; refine (earlier_at _ _ (memL s) (memL b0) _ _ _ _ _ rfl HN0.out.symm (memL_le _) (memL_le _) (own_cells HO5.out).2 (own_cells (ownsRow_below HOV.out hb5)).2).mono ?_; rw [HE.out]; rintro r w6 ⟨rfl, rfl⟩))
              go_roundw
              case rel => exact ⟨s + 1, by omega, by omega, by go_num, by rw [HCF.out]; exact ⟨⟨hb01, hb02⟩, ownsRow_below HOV.out hb5⟩, HMQ.out.kept (grownBy_below hb5 none) (by simp), HB2.out.trans (hb5.mono (by omega))⟩
              case measure => simp [intOf]; omega
            · have HCF := Lib.hid (show confF re le bl zs xs (s + 1) = some s by rw [confF_succ, if_neg (by rw [HNC.out]; simp; omega), ← HOO.out]; simp [hE])
              have HE := Lib.hid hE
              clear hov hov1 hn0 hml0 hE
              go_wp2_with (first
                | (go_at_call 105; refine (members_any s _ (by omega)).mono ?_; rintro r w5 ⟨v5, rfl, ho5, hb5⟩; obtain ⟨a5, c5, rfl⟩ := own_slice ho5; have HO5 := Lib.hid ho5; clear ho5)
                | (go_at_call 106; refine (earlier_at _ _ (memL s) (memL b0) _ _ _ _ _ rfl HN0.out.symm (memL_le _) (memL_le _) (own_cells HO5.out).2 (own_cells (ownsRow_below HOV.out hb5)).2).mono ?_; rw [HE.out]; rintro r w6 ⟨rfl, rfl⟩))
              go_roundw
              case rel => exact ⟨s + 1, by omega, by omega, by go_num, by rw [HCF.out]; exact ⟨⟨hs1, by omega⟩, ownsRow_base HO5.out (by omega)⟩, HMQ.out.kept (grownBy_below hb5 none) (by simp), HB2.out.trans (hb5.mono (by omega))⟩
              case measure => simp [intOf]; omega
        case gm =>
          unfold Hid
          obtain ⟨x', ex, rfl, hwx⟩ := Maps.keyOf_int_inv Tryd.underlying3 hkx
          cases ex
          obtain ⟨d0, hd0, hdx⟩ := (HKEYS.out _).1 (HL1.out _ hlx)
          obtain rfl : x = ((maskOf re le bl zs d0 : Nat) : Int) := by simpa using hdx
          have hm0 := HML.out d0
          obtain ⟨mm, hmm⟩ : ∃ mm, mm = maskOf re le bl zs d0 := ⟨_, rfl⟩
          clear hvy hat hkx
          rw [← hmm] at hlx hrg1 hen hm0 hwx ⊢
          have HMM0 := Lib.hid hmm
          have hand := and64 mm s (Nat.lt_trans hm0 (by decide)) (Nat.lt_of_lt_of_le (Nat.lt_of_lt_of_le hlt hP2) (by decide))
          have HRG1 := Lib.hid hrg1
          have HG1 := Lib.hid hg1
          have HLX := Lib.hid hlx
          have hb1 : Below wo.heap.size wo w1 := HBQ.out.grown hg1 hszq (fun k e => by cases e; exact Nat.le_refl _)
          have HB1 := Lib.hid hb1
          have HD0 := Lib.hid hd0
          clear hlx hrg1 hg1 hdx hmm hb1 hd0
          by_cases hcov : mm &&& s = s
          · have hand2 : bits .and .i64 (mm : Int) (s : Int) = (s : Int) := by rw [hand, hcov]
            have HCOV := Lib.hid hcov
            clear hand hcov
            have HCF := Lib.hid (show confF re le bl zs xs (s + 1) = confF re le bl zs xs s by
              have : covB re le bl zs xs s = true := List.any_eq_true.2 ⟨d0, HD0.out, by rw [← HMM0.out, HCOV.out]; simp⟩
              rw [confF_succ, if_pos (.inr this)])
            go_wp2
            go_roundw
            case rel => exact ⟨s + 1, by omega, by omega, by go_num, by rw [HCF.out]; exact HBE.out.below HB1.out, ⟨D, HRG1.out.owns, HKEYS.out⟩, HBR.out.trans (HB1.out.mono hszr)⟩
            case measure => simp [intOf]; omega
          · have hand2 : ¬ bits .and .i64 (mm : Int) (s : Int) = (s : Int) := by rw [hand]; omega
            have HCOV := Lib.hid hcov
            clear hand hcov
            go_wp2
            (try simp only [hPw])
            refine ⟨⟨_, _, _, _, _, _, _, _, _, _, ⟨_, _, HRG1.out, fun kl h => HL1.out kl (by simp at h; exact h.1), fun x hx h => ?_, HB1.out⟩, rfl⟩, ?_⟩
            · cases hlx : left (.int .i64 (maskOf re le bl zs x : Nat))
              · exact HL2.out x hx hlx
              · rw [hlx] at h
                simp at h
                have := WideAt.sameKey_eq h
                simp at this
                have h3 : maskOf re le bl zs x = mm := by omega
                rw [h3]
                exact HCOV.out
            · rw [HRG1.out.left_eq, HRG.out.left_eq]; omega
    · obtain rfl : s = P := by omega
      have hv := HBE.out
      rw [← HOO.out] at hv
      have HOP := Lib.hid HOO.out.symm
      cases o with
      | none =>
        change _ = Value.slice none 0 0 at hv
        subst hv
        have hq1 := nil_eq
        clear hMM
        go_wp2_with (go_at_call 87; refine (when_any _ _ _).mono ?_; rintro r w3 ⟨rfl, rfl⟩)
        (try simp only [Exit.noGoto_ret, Exit.then, Exit.noGoto])
        go_ret2
        exact ⟨_, by rw [HOP.out]; rfl, by rw [HOP.out]; rfl, HBR.out⟩
      | some b0 =>
        obtain ⟨⟨hb01, hb02⟩, hov⟩ := hv
        have hml0 := memL_pos b0 hb02 hb01
        obtain ⟨n0, hn0⟩ : ∃ n0, (memL b0).length = n0 + 1 := ⟨(memL b0).length - 1, by omega⟩
        have hov1 := hov
        rw [hn0] at hov1
        obtain ⟨g, cap, rfl⟩ := ownsRow_succ hov1
        have HOV := Lib.hid hov
        have HN0 := Lib.hid hn0
        have hq2 := nil_ne
        clear hMM hov hov1 hn0 hml0
        go_wp2_with (go_at_call 87; refine (when_any _ _ _).mono ?_; rintro r w3 ⟨rfl, rfl⟩)
        (try simp only [Exit.noGoto_ret, Exit.then, Exit.noGoto])
        go_ret2
        exact ⟨_, by rw [HOP.out]; rfl, by rw [HOP.out]; exact ⟨⟨hb01, hb02⟩, HOV.out⟩, HBR.out⟩
end Go.Proofs.YtpkldjlljoledaaDoor

/- Contract of Sweep. %still -/
namespace Go.Proofs.YtpkldjlljoledaaDoor
open Go.RowKit
open Calm (bcell Blk)

/-- the reading of a level, with an error in percent. -/
def sweep1 (re le bl ma st lo p x : Int) : Int × Int × Int := (x, vN re le bl ma st lo x * (100 - p) / (vD ma st lo x * 100), (vN re le bl ma st lo x * (100 + p) + vD ma st lo x * 100 - 1) / (vD ma st lo x * 100))
def sweepL (re le bl ma st lo p : Int) (zs : List Int) : List (Int × Int × Int) := zs.map (sweep1 re le bl ma st lo p)
theorem sweepL_succ (re le bl ma st lo p : Int) {zs : List Int} {k : Nat} (hk : k < zs.length) : sweepL re le bl ma st lo p (zs.take (k + 1)) = sweepL re le bl ma st lo p (zs.take k) ++ [sweep1 re le bl ma st lo p (zs.getD k 0)] := by
  unfold sweepL
  rw [List.take_succ_eq_append_getElem hk, List.map_append, List.map_singleton, List.getD_eq_getElem?_getD, List.getElem?_eq_getElem hk]
  rfl
theorem sweepL_len (re le bl ma st lo p : Int) (zs : List Int) : (sweepL re le bl ma st lo p zs).length = zs.length := by simp [sweepL]
theorem keptBad_nil {zs : List Int} (h : ∀ x ∈ zs, 1 ≤ x ∧ x ≤ 8) : keptBad zs = [] := by
  unfold keptBad
  rw [List.filter_eq_nil_iff]
  intro x hx
  simp [rangeErr_zero.2 (h x hx)]

set_option maxRecDepth 100000 in
set_option maxHeartbeats 4000000 in
theorem Sweep_ok (re le bl ma st lo p : Int) (A : Option Addr) (zs : List Int) (c : Nat) (w : World) (hL : Lim w) (hC : Cells w A zs) (hd : drvErr re le bl ma st lo = 0) (hn : zs.length ≤ 32) (hz : ∀ x ∈ zs, 1 ≤ x ∧ x ≤ 8) (hp : 0 ≤ p ∧ p ≤ 50) :
    Calls Tryd.prog 61 #[.agg #[(.int .i64 (re)), (.int .i64 (le)), (.int .i64 (bl)), (.int .i64 (ma)), (.int .i64 (st)), (.int .i64 (lo))], .slice A zs.length c, (.int .i64 (p))] w fun r w' => ∃ v, r = .returned (.tuple #[v, (.int .i64 (0))]) ∧ w'.ownsRow (w.heap.size + 1) 126 3 v zs.length (flat3 (sweepL re le bl ma st lo p zs)) ∧ Below w.heap.size w w' := by
  obtain ⟨i0, hi, iz0, iz1, iz2⟩ := info_parts Tryd.infoR
  have HZ := Lib.hid hz
  have HC := Lib.hid hC
  have hk : (keptBad zs).length = 0 := by rw [keptBad_nil hz]; rfl
  have HK := Lib.hid hk
  have HP := Lib.hid hp
  have hpe : rangeErr p 0 50 = 0 := rangeErr_zero.2 hp
  obtain ⟨N, hN⟩ : ∃ N, N = zs.length := ⟨_, rfl⟩
  have HN := Lib.hid hN
  have hKB : ∀ W : World, Cells W A zs → Calls Tryd.prog 95 #[.slice A N c, .func (.func 96) #[] #[]] W (SomeLen 0 W) := by
    intro W k1
    have := keptBad_any A zs c W k1 (by omega)
    rwa [hk, ← hN] at this
  have HKB := Lib.hid hKB
  rw [← hN] at hn ⊢
  clear hz hC hk hp hN hKB
  have e1 : firstOf [drvErr re le bl ma st lo, 0] = 0 := firstOf_eq_zero.2 (by simp [hd])
  have e2 : firstOf [0, rangeErr p 0 50] = 0 := firstOf_eq_zero.2 (by simp [hpe])
  have HD := Lib.hid hd
  have HPE := Lib.hid hpe
  clear hd hpe
  go_enter Tryd.func61, Tryd.ntmps61
  go_wp2_with (first
    | (go_at_call 23; refine (checkDriver_any _ _ _ _ _ _ _ (hL.below (by repeat (first | (with_reducible exact Below.refl _ _) | ((with_reducible refine Below.setCell ?_ ?_ _); rotate_left 1; focus (first | (simp; done) | (simp; omega) | (simp at *; omega))) | ((with_reducible refine Below.alloc ?_ ?_ _); rotate_left 1; focus (first | (simp; done) | (simp; omega) | (simp at *; omega))) | (with_reducible refine Below.drew ?_) | ((with_reducible refine Calm.step (by assumption) ?_ ?_); rotate_left 1; focus (first | (simp; done) | (simp; omega) | (simp at *; omega))))))).mono ?_; rintro r w1 ⟨rfl, hb⟩; obtain ⟨hc, hf⟩ := bcell hb; have hz := hb.size; (try simp at hz); have hz0 : w.heap.size < w1.heap.size := by omega)
    | (go_at_call 87; refine (when_any _ _ _).mono ?_; rintro r w2 ⟨rfl, rfl⟩)
    | (go_at_call 86; refine (first2_any _ _ _).mono ?_; rintro r w3 ⟨rfl, rfl⟩)
    | (go_at_call 80; refine (within_any _ _ _ _).mono ?_; rintro r w4 ⟨rfl, rfl⟩)
    | (go_at_call 95; refine (HKB.out _ (HC.out.below (by (repeat (first | (with_reducible exact Below.refl _ _) | ((with_reducible refine Below.setCell ?_ ?_ _); rotate_left 1; focus (first | (simp; done) | (simp; omega) | (simp at *; omega))) | ((with_reducible refine Below.alloc ?_ ?_ _); rotate_left 1; focus (first | (simp; done) | (simp; omega) | (simp at *; omega))) | (with_reducible refine Below.drew ?_) | ((with_reducible refine Calm.step (by assumption) ?_ ?_); rotate_left 1; focus (first | (simp; done) | (simp; omega) | (simp at *; omega)))))))).mono ?_; rintro r w5 ⟨A5, c5, rfl, hb5⟩; obtain ⟨hc5, hf5⟩ := bcell hb5; have hz5 := hb5.size; (try simp at hz5); have hz50 : w.heap.size < w5.heap.size := by omega))
  go_loopw [10, 40] (fun v i wr => ∃ k : Nat, k ≤ N ∧ i = (.int .i64 (k)) ∧ wr.ownsRow (w.heap.size + 1) 126 3 v k (flat3 (sweepL re le bl ma st lo p (zs.take k))) ∧ Below w.heap.size w wr ∧ Blk wr w.heap.size #[(.int .i64 (re)), (.int .i64 (le)), (.int .i64 (bl)), (.int .i64 (ma)), (.int .i64 (st)), (.int .i64 (lo))]) (fun _ i _ => N - (intOf i).toNat)
  case atStart => exact ⟨0, Nat.zero_le _, rfl, World.ownsRow_nil _ _ _ _, by (repeat (first | (with_reducible exact Below.refl _ _) | ((with_reducible refine Below.setCell ?_ ?_ _); rotate_left 1; focus (first | (simp; done) | (simp; omega) | (simp at *; omega))) | ((with_reducible refine Below.alloc ?_ ?_ _); rotate_left 1; focus (first | (simp; done) | (simp; omega) | (simp at *; omega))) | (with_reducible refine Below.drew ?_) | ((with_reducible refine Calm.step (by assumption) ?_ ?_); rotate_left 1; focus (first | (simp; done) | (simp; omega) | (simp at *; omega))))), by (repeat (first | ((with_reducible refine Blk.at_ ?_); focus (first | rfl | (simp; done) | (simp; omega))) | (with_reducible refine Blk.alloc ?_ _) | (with_reducible refine Blk.below ?_ (by with_reducible assumption)) | (with_reducible refine Blk.drew ?_)))⟩
  case round =>
    clear hc hf hc5 hf5
    obtain ⟨k, hk, rfl, hown, hB, K⟩ := hrel
    have hsz := hB.size
    have hKlt := K.lt
    have d0 := K.cell 0 (.int .i64 (re)) rfl
    have d1 := K.cell 1 (.int .i64 (le)) rfl
    have d2 := K.cell 2 (.int .i64 (bl)) rfl
    have d3 := K.cell 3 (.int .i64 (ma)) rfl
    have d4 := K.cell 4 (.int .i64 (st)) rfl
    have d5 := K.cell 5 (.int .i64 (lo)) rfl
    have HO := Lib.hid hown
    clear hown
    by_cases hlt : k < N
    · have hlt2 : k < zs.length := by rw [← HN.out]; exact hlt
      obtain ⟨b, o, rfl, l1, k1⟩ := HC.out (by omega)
      have x1 := (hB.cell (p := ⟨b, o + k, none⟩) l1).trans (k1 k hlt2)
      have hx8 := HZ.out _ (getD_mem hlt2)
      have HS := Lib.hid (sweepL_succ re le bl ma st lo p hlt2)
      clear k1 hlt2
      obtain ⟨x, hx⟩ : ∃ x, x = zs.getD k 0 := ⟨_, rfl⟩
      rw [← hx] at x1 hx8
      have HX := Lib.hid hx
      clear hx
      have hF := fit_of HD.out hx8
      obtain ⟨⟨v1, v2⟩, v3, v4⟩ := v_bds hF
      obtain ⟨p1, p2⟩ := HP.out
      have q1 : Bd 34426880000000000 (vN re le bl ma st lo x) := ⟨by omega, by omega⟩
      obtain ⟨u1, u2⟩ := q1.mul (show Bd 100 (100 - p) from ⟨by omega, by omega⟩) (by omega)
      obtain ⟨u3, u4⟩ := q1.mul (show Bd 150 (100 + p) from ⟨by omega, by omega⟩) (by omega)
      have u5 : 0 ≤ vN re le bl ma st lo x * (100 + p) := Int.mul_nonneg v1 (by omega)
      have u6 : 0 ≤ vN re le bl ma st lo x * (100 - p) := Int.mul_nonneg v1 (by omega)
      have z1 : ¬ vD ma st lo x * 100 = 0 := by omega
      obtain ⟨y1, y2⟩ := IntWalk.tdiv_le (vN re le bl ma st lo x * (100 - p)) (vD ma st lo x * 100) (by omega) (by omega)
      obtain ⟨y3, y4⟩ := IntWalk.tdiv_le (vN re le bl ma st lo x * (100 + p) + vD ma st lo x * 100 - 1) (vD ma st lo x * 100) (by omega) (by omega)
      clear q1
      go_wp2_with (go_at_call 98; refine (level_any _ _ _ _ _ _ _ _ hF).mono ?_; rintro r w6 ⟨rfl, hb6⟩; obtain ⟨hc6, hf6⟩ := bcell hb6)
      refine Rel.region2 19 (by kernel_rfl) (by kernel_rfl) (by kernel_rfl) (by kernel_rfl) ?_
      simp only [List.take_succ_cons, List.take_zero, List.drop_succ_cons, List.drop_zero, List.filterMap_cons, List.filterMap_nil]
      repeat (first | (apply Rel.op; (focus rfl); (focus (intro a W hb hd hbase; obtain ⟨hc, hf⟩ := bcell hb; clear hb hf; simp [Rel.deps, Rel.dep1, Act.eval] at hd; simp only [Act.eval, List.mem_cons, List.not_mem_nil, not_or, and_imp, or_false, Array.getD_eq_getD_getElem?] at hbase; go_simp; (try go_bits); (try rfl); done)); (try simp only [List.nil_append, List.cons_append])) | (apply Rel.alloc; (focus rfl); (focus (intro a W; go_simp; refine ⟨?_, ?_⟩; rfl; rfl)); (try simp only [List.nil_append, List.cons_append])) | (apply Rel.alloc; (focus rfl); (focus (intro a W; go_simp; rfl)); (try simp only [List.nil_append, List.cons_append])) | (apply Rel.build; (focus rfl); (focus (intro a W hb hd hbase; obtain ⟨hc, hf⟩ := bcell hb; clear hb hf; simp [Rel.deps, Rel.dep1, Act.eval] at hd; simp only [Act.eval, List.mem_cons, List.not_mem_nil, not_or, and_imp, or_false, Array.getD_eq_getD_getElem?] at hbase; go_simp; (first | rfl | (refine ⟨⟨?_, ?_⟩, ?_⟩; rfl; rfl; rfl) | (refine ⟨?_, ?_⟩; rfl; rfl)))); (try simp only [List.nil_append, List.cons_append])))
      refine Rel.done ?_
      intro x w7 hb7 hx
      simp only [Rel.facts, Nat.zero_add, Nat.reduceAdd] at hx
      obtain ⟨e0, e1, e2, e3, e4, e5, e6, e7, e8, e9, e10, e11, e12, e13, e14, e15, e16, e17, ⟨sl, e18, slB, slk⟩, _⟩ := hx
      simp only [Rel.fill, Nat.zero_add, Nat.reduceAdd, e0, e1, e2, e3, e4, e5, e6, e7, e8, e9, e10, e11, e12, e13, e14, e15, e16, e17, e18]
      simp only [Act.put, List.setIfInBounds_toArray, List.set_cons_zero, List.set_cons_succ]
      clear e0 e1 e2 e3 e4 e5 e6 e7 e8 e9 e10 e11 e12 e13 e14 e15 e16 e17 e18
      clear x
      obtain ⟨hb7c, hb7f⟩ := bcell hb7
      have hb7z := hb7.size
      (try simp at hb7z)
      (try have hb7z0 : w.heap.size < w7.heap.size := by omega)
      (try have hb7z1 : w.heap.size + 1 < w7.heap.size := by omega)
      (try have hb7z2 : w.heap.size + 1 + 1 < w7.heap.size := by omega)
      (try have hb7z3 : w.heap.size + 1 + 1 + 1 < w7.heap.size := by omega)
      (try have hb7z4 : w.heap.size + 1 + 1 + 1 + 1 < w7.heap.size := by omega)
      (try have hb7z5 : w.heap.size + 1 + 1 + 1 + 1 + 1 < w7.heap.size := by omega)
      have ho1 := ownsRow_below HO.out (hb6.trans (Below.mono hb7 hb6.size))
      have s0 := slk.cell 0 (.int .i64 (x)) rfl
      have s1 := slk.cell 1 (.int .i64 (vN re le bl ma st lo x * (100 - p) / (vD ma st lo x * 100))) rfl
      have s2 := slk.cell 2 (.int .i64 ((vN re le bl ma st lo x * (100 + p) + vD ma st lo x * 100 - 1) / (vD ma st lo x * 100))) rfl
      refine wpList_append_own _ rfl _ _ 110 rfl (w.heap.size + 1) 126 i0 _ 3 24 Tryd.underlying110 hi iz0 iz1 iz2 rfl (by decide) _ _ _ rfl ho1 ⟨sl, 0, none⟩ 1 1 [(.int .i64 (x)), (.int .i64 (vN re le bl ma st lo x * (100 - p) / (vD ma st lo x * 100))), (.int .i64 ((vN re le bl ma st lo x * (100 + p) + vD ma st lo x * 100 - 1) / (vD ma st lo x * 100)))] rfl rfl ?c1 ?c2 ?c3 ?c4 ?c5 ?_
      case c1 =>
        intro j u hj
        match j, hj with
        | 0, hj => simp at hj; subst hj; exact s0
        | 1, hj => simp at hj; subst hj; exact s1
        | 2, hj => simp at hj; subst hj; exact s2
      case c2 => intro u hu; simp at hu; rcases hu with rfl | rfl | rfl <;> rfl
      case c3 => unfold maxLen; omega
      case c4 => omega
      case c5 => have := hb6.size; omega
      intro v' w8 hown' hgrow _
      have hB7 : Below w.heap.size w w7 := hB.trans (Below.mono (hb6.trans (Below.mono hb7 hb6.size)) hsz)
      have hB8 : Below (w.heap.size + 1) w7 w8 := (Below.refl _ _).grown hgrow (by have := hb6.size; omega) (fun j hj => (HO.out.lt j hj).1)
      have K8 := ((K.below hb6).below hb7).of (Nat.lt_succ_self _) hB8
      clear hgrow
      have HO8 := Lib.hid hown'
      clear hown'
      go_wp2
      go_roundw
      case rel => exact ⟨k + 1, by omega, by go_num, by rw [HS.out, flat3_append, ← HX.out]; simpa [flat3, sweep1] using HO8.out, hB7.trans (Below.mono hB8 (by omega)), K8⟩
      case measure => simp [intOf]; omega
    · obtain rfl : k = N := by omega
      have e : zs.take k = zs := by rw [HN.out]; exact List.take_length
      have hown := HO.out
      rw [e] at hown
      have HO2 := Lib.hid hown
      clear hown e
      go_wp2
      go_ret2
      exact ⟨_, rfl, HO2.out, hB⟩
end Go.Proofs.YtpkldjlljoledaaDoor

/- DriverHolds, plain: the readings of a sweep. -/
namespace Go.Proofs.YtpkldjlljoledaaDoor

/-- (2) a driver fits each of its own readings. -/
theorem sweep_fits {n d p : Int} (hn : 0 ≤ n) (hd : 1 ≤ d) (hp : 0 ≤ p ∧ p ≤ 50) : n * (100 - p) / (d * 100) * d ≤ n ∧ n ≤ (n * (100 + p) + d * 100 - 1) / (d * 100) * d := by
  have hD : 0 < d * 100 := by omega
  have h1 := Int.ediv_mul_le (n * (100 - p)) (show d * 100 ≠ 0 by omega)
  have h2 := Int.lt_ediv_add_one_mul_self (n * (100 + p) + d * 100 - 1) hD
  generalize n * (100 - p) / (d * 100) = x at h1 ⊢
  generalize (n * (100 + p) + d * 100 - 1) / (d * 100) = y at h2 ⊢
  have h3 : 0 ≤ n * p := Int.mul_nonneg hn hp.1
  have e1 : n * (100 - p) = n * 100 - n * p := Int.mul_sub ..
  have e2 : n * (100 + p) = n * 100 + n * p := Int.mul_add ..
  have e3 : x * (d * 100) = x * d * 100 := (Int.mul_assoc ..).symm
  have e4 : (y + 1) * (d * 100) = y * d * 100 + d * 100 := by rw [Int.add_mul, Int.one_mul, Int.mul_assoc]
  omega

theorem brah (r x a b k : Int) : sq (r * a - x * b) (r * b + x * a + k) ≤ 2 * ((r * r + x * x) * sq a b) + 2 * (k * k) := by
  have h1 := mul_self_nonneg (r * a - x * b)
  have h2 := mul_self_nonneg (r * b + x * a - k)
  have e : 2 * ((r * r + x * x) * sq a b) + 2 * (k * k) - sq (r * a - x * b) (r * b + x * a + k) = (r * a - x * b) * (r * a - x * b) + (r * b + x * a - k) * (r * b + x * a - k) := by
    unfold sq
    grind
  omega

theorem sq_le {x c : Int} (h : 0 ≤ x) (h2 : x ≤ c) : x * x ≤ c * c := Int.mul_le_mul h2 h2 h (Int.le_trans h h2)
/-- (1) a level is at most 337800. -/
theorem level_le {re le bl ma st lo w : Int} (hF : Fit re le bl ma st lo w) : vN re le bl ma st lo w ≤ 337800 * vD ma st lo w := by
  have hw := hF.w
  have hl := hF.lo
  have hb := hF.bl
  have hr := hF.re
  have he := hF.le
  have h1 := brah re (w * le) (mRe st ma w) (mIm lo w) (w * bl * bl)
  have e : vN re le bl ma st lo w = sq (re * mRe st ma w - w * le * mIm lo w) (re * mIm lo w + w * le * mRe st ma w + w * bl * bl) := by
    unfold vN nRe nIm eRe eIm tRe tIm pl
    congr 1 <;> grind
  have q1 := sq_le (x := re) (c := 50) (by omega) (by omega)
  have q2 : w * le ≤ 8 * 10 := Int.mul_le_mul hw.2 he.2 he.1 (by omega)
  have q3 := sq_le (x := w * le) (c := 80) (Int.mul_nonneg (by omega) he.1) (by omega)
  have q4 : bl * bl ≤ 400 := sq_le (x := bl) (c := 20) (by omega) (by omega)
  have q5 : w * (bl * bl) ≤ w * 400 := Int.mul_le_mul_of_nonneg_left q4 (by omega)
  have q6 : w * 1 ≤ w * lo := Int.mul_le_mul_of_nonneg_left hl.1 (by omega)
  have q7 : 0 ≤ w * (bl * bl) := Int.mul_nonneg (by omega) (mul_self_nonneg bl)
  have q8 := sq_le (x := w * bl * bl) (c := 400 * mIm lo w) (by rw [Int.mul_assoc]; exact q7) (by rw [Int.mul_assoc]; unfold mIm; omega)
  have q9 : 400 * mIm lo w * (400 * mIm lo w) = 160000 * (mIm lo w * mIm lo w) := by grind
  have q10 := mul_self_nonneg (mRe st ma w)
  have q11 := mul_self_nonneg (mIm lo w)
  have q12 : (re * re + w * le * (w * le)) * sq (mRe st ma w) (mIm lo w) ≤ 8900 * sq (mRe st ma w) (mIm lo w) := Int.mul_le_mul_of_nonneg_right (by omega) (by unfold sq; omega)
  rw [e]
  unfold vD
  unfold sq at *
  omega
end Go.Proofs.YtpkldjlljoledaaDoor

/- DriverHolds, plain: the least conflict. No program. -/
namespace Go.Proofs.YtpkldjlljoledaaDoor

/-- the readings at some indices. -/
def someL (zs : List (Int × Int × Int)) (l : List Nat) : List (Int × Int × Int) := l.map fun i => zs.getD i (0, 0, 0)
/-- strictly rising, from f on, below n. -/
def Inc (n : Nat) : Nat → List Nat → Prop
  | _, [] => True
  | f, i :: l => f ≤ i ∧ i < n ∧ Inc n (i + 1) l
theorem Inc.mono {n : Nat} : ∀ {l : List Nat} {f g : Nat}, f ≤ g → Inc n g l → Inc n f l
  | [], _, _, _, _ => trivial
  | i :: l, f, g, h, ⟨h1, h2, h3⟩ => ⟨Nat.le_trans h h1, h2, h3⟩
theorem Inc.mem {n : Nat} : ∀ {l : List Nat} {f : Nat}, Inc n f l → ∀ i ∈ l, f ≤ i ∧ i < n
  | i :: l, f, ⟨h1, h2, h3⟩, j, hj => by
    rcases List.mem_cons.1 hj with rfl | hj
    · exact ⟨h1, h2⟩
    · have := Inc.mem h3 j hj; exact ⟨by omega, this.2⟩
theorem Inc.len {n : Nat} : ∀ {l : List Nat} {f : Nat}, Inc n f l → l.length ≤ n - f
  | [], _, _ => by simp
  | i :: l, f, ⟨h1, h2, h3⟩ => by have := Inc.len h3; simp; omega
theorem Inc.filter {n : Nat} (p : Nat → Bool) : ∀ (m f : Nat), (∀ j, f ≤ j → j < f + m → p j = true → j < n) → Inc n f ((List.range' f m).filter p)
  | 0, f, _ => by simp [Inc]
  | m + 1, f, h => by
    rw [List.range'_succ, List.filter_cons]
    have ih := Inc.filter p m (f + 1) (fun j h1 h2 => h j (by omega) (by omega))
    split
    · rename_i hp
      exact ⟨Nat.le_refl _, h f (Nat.le_refl _) (by omega) hp, ih⟩
    · exact ih.mono (by omega)
theorem filter_inc : ∀ (m f : Nat) (l : List Nat), Inc (f + m) f l → (List.range' f m).filter (fun j => decide (j ∈ l)) = l
  | 0, f, [], _ => by simp
  | 0, f, i :: l, h => by have := h.1; have := h.2.1; omega
  | m + 1, f, l, h => by
    rw [List.range'_succ, List.filter_cons]
    by_cases hf : f ∈ l
    · cases l with
      | nil => cases hf
      | cons i t =>
        have hi : i = f := by
          rcases List.mem_cons.1 hf with h1 | h1
          · exact h1.symm
          · have := (Inc.mem h.2.2 f h1).1; have := h.1; omega
        subst hi
        rw [if_pos (by simp)]
        congr 1
        have ih := filter_inc m (i + 1) t (by rw [show i + 1 + m = i + (m + 1) by omega]; exact h.2.2)
        refine Eq.trans (List.filter_congr fun j hj => ?_) ih
        have hj1 := (List.mem_range'_1.1 hj).1
        exact decide_eq_decide.2 ⟨fun h1 => (List.mem_cons.1 h1).elim (fun h2 => by omega) id, fun h1 => List.mem_cons_of_mem _ h1⟩
    · rw [if_neg (by simpa using hf)]
      refine filter_inc m (f + 1) l ?_
      rw [show f + 1 + m = f + (m + 1) by omega]
      cases l with
      | nil => trivial
      | cons i t =>
        have : f ≠ i := fun e => hf (by simp [e])
        exact ⟨by have := h.1; omega, h.2.1, h.2.2⟩
/-- the number with these bits. -/
def setN (p : Nat → Bool) : Nat → Nat
  | 0 => 0
  | k + 1 => if p k = true then 2 ^ k + setN p k else setN p k
theorem setN_lt (p : Nat → Bool) : ∀ k, setN p k < 2 ^ k
  | 0 => by simp [setN]
  | k + 1 => by
    have := setN_lt p k
    unfold setN
    rw [Nat.pow_succ]
    split <;> omega
theorem setN_bit (p : Nat → Bool) : ∀ (k j : Nat), j < k → (setN p k).testBit j = p j
  | k + 1, j, h => by
    unfold setN
    by_cases hj : j = k
    · subst hj
      have h0 : (setN p j).testBit j = false := Nat.testBit_lt_two_pow (setN_lt p j)
      split
      · rename_i hp
        rw [Nat.testBit_two_pow_add_eq, h0, hp]; rfl
      · rename_i hp
        rw [h0]; simpa using hp
    · have ih := setN_bit p k j (by omega)
      split
      · rw [Nat.testBit_two_pow_add_gt (by omega), ih]
      · exact ih
theorem bit_iff (s j : Nat) : (s / 2 ^ j % 2 == 1) = s.testBit j := by
  rw [Nat.testBit_eq_decide_div_mod_eq]
  by_cases h : s / 2 ^ j % 2 = 1 <;> simp [h]
theorem memL_filter (s : Nat) : memL s = (List.range' 0 8).filter (fun j => s.testBit j) := by
  unfold memL memN
  rw [List.range_eq_range']
  exact List.filter_congr fun j _ => bit_iff s j
theorem mem_memL {s i : Nat} : i ∈ memL s ↔ i < 8 ∧ s.testBit i = true := by
  rw [memL_filter, List.mem_filter, List.mem_range'_1]
  simp
theorem bit_lt {s n j : Nat} (hs : s < 2 ^ n) (h : s.testBit j = true) : j < n := by
  rcases Nat.lt_or_ge j n with h1 | h1
  · exact h1
  · rw [Nat.testBit_lt_two_pow (Nat.lt_of_lt_of_le hs (Nat.pow_le_pow_right (by decide) h1))] at h
    cases h
theorem memL_inc {s n : Nat} (hs : s < 2 ^ n) : Inc n 0 (memL s) := by
  rw [memL_filter]
  exact Inc.filter _ 8 0 (fun j _ _ h => bit_lt hs h)
theorem memL_set {n : Nat} (hn : n ≤ 8) {l : List Nat} (h : Inc n 0 l) : ∃ s, s < 2 ^ n ∧ memL s = l := by
  refine ⟨setN (fun j => decide (j ∈ l)) n, setN_lt _ _, ?_⟩
  have hlt := setN_lt (fun j => decide (j ∈ l)) n
  rw [memL_filter]
  have h8 : Inc (0 + 8) 0 l := by
    have mono : ∀ {l : List Nat} {f : Nat}, Inc n f l → Inc 8 f l := by
      intro l
      induction l with
      | nil => intro f _; trivial
      | cons i t ih => intro f hh; exact ⟨hh.1, by have := hh.2.1; omega, ih hh.2.2⟩
    exact mono h
  refine Eq.trans (List.filter_congr fun j _ => ?_) (filter_inc 8 0 l h8)
  rcases Nat.lt_or_ge j n with hj | hj
  · exact setN_bit _ n j hj
  · rw [Nat.testBit_lt_two_pow (Nat.lt_of_lt_of_le hlt (Nat.pow_le_pow_right (by decide) hj))]
    symm
    rw [decide_eq_false_iff_not]
    intro hm
    have := (h.mem j hm).2
    omega

theorem mask_bit (p : Int × Int × Int → Bool) (zs : List (Int × Int × Int)) : ∀ (k j : Nat), (maskN p zs k).testBit j = (decide (j < k) && p (zs.getD j (0, 0, 0)))
  | 0, j => by simp [maskN]
  | k + 1, j => by
    have ih := mask_bit p zs k j
    unfold maskN
    by_cases hj : j = k
    · subst hj
      split
      · rename_i hp
        rw [Nat.testBit_or, ih, Nat.testBit_two_pow, hp]; simp
      · rename_i hp
        rw [ih, Bool.eq_false_iff.2 hp]; simp
    · have e : decide (j < k + 1) = decide (j < k) := decide_eq_decide.2 (by omega)
      have e2 : decide (k = j) = false := decide_eq_false (fun h => hj h.symm)
      split
      · rw [Nat.testBit_or, ih, Nat.testBit_two_pow, e2, e, Bool.or_false]
      · rw [ih, e]
theorem sub_iff (a s : Nat) : ((a &&& s) == s) = true ↔ ∀ j, s.testBit j = true → a.testBit j = true := by
  rw [beq_iff_eq]
  constructor
  · intro h j hj
    have := congrArg (fun x => x.testBit j) h
    simp only [Nat.testBit_and] at this
    rw [hj, Bool.and_true] at this
    exact this
  · intro h
    apply Nat.eq_of_testBit_eq
    intro j
    rw [Nat.testBit_and]
    cases hj : s.testBit j
    · simp
    · simp [h j hj]
/-- a set is covered by a driver that explains its readings. -/
theorem cov_expl {re le bl : Int} {zs : List (Int × Int × Int)} {s : Nat} (hn : zs.length ≤ 8) (hs : s < 2 ^ zs.length) (x : Int × Int × Int) : ((maskOf re le bl zs x &&& s) == s) = explB re le bl x.1 x.2.1 x.2.2 (someL zs (memL s)) := by
  rw [Bool.eq_iff_iff, sub_iff]
  unfold explB someL maskOf
  rw [List.all_eq_true]
  constructor
  · intro h r hr
    obtain ⟨i, hi, rfl⟩ := List.mem_map.1 hr
    have h1 := h i (mem_memL.1 hi).2
    rw [mask_bit, Bool.and_eq_true] at h1
    exact h1.2
  · intro h j hj
    have hjn := bit_lt hs hj
    rw [mask_bit, Bool.and_eq_true]
    exact ⟨decide_eq_true hjn, h _ (List.mem_map.2 ⟨j, mem_memL.2 ⟨by omega, hj⟩, rfl⟩)⟩
theorem lexI_irrefl : ∀ a : List Int, lexI a a = false
  | [] => rfl
  | x :: a => by simp [lexI, lexI_irrefl a]
theorem lexI_trans : ∀ a b c : List Int, a.length = b.length → b.length = c.length → lexI a b = true → lexI b c = true → lexI a c = true
  | [], _, _, _, _, h, _ => by simp [lexI] at h
  | x :: a, [], _, hl, _, _, _ => by simp at hl
  | x :: a, y :: b, [], _, hl, _, _ => by simp at hl
  | x :: a, y :: b, z :: c, h1, h2, h, h' => by
    unfold lexI at h h' ⊢
    by_cases e1 : x = y
    · subst e1
      rw [if_pos rfl] at h
      by_cases e2 : x = z
      · subst e2
        rw [if_pos rfl] at h' ⊢
        exact lexI_trans a b c (by simpa using h1) (by simpa using h2) h h'
      · rw [if_neg e2] at h' ⊢
        exact h'
    · rw [if_neg e1, decide_eq_true_eq] at h
      by_cases e2 : y = z
      · subst e2
        rw [if_neg e1]
        exact decide_eq_true h
      · rw [if_neg e2, decide_eq_true_eq] at h'
        rw [if_neg (by omega)]
        exact decide_eq_true (by omega)
theorem earlierI_irrefl (a : List Int) : earlierI a a = false := by
  unfold earlierI
  rw [if_pos rfl, lexI_irrefl]
theorem earlierI_trans {a b c : List Int} (h : earlierI a b = true) (h' : earlierI b c = true) : earlierI a c = true := by
  unfold earlierI at *
  by_cases e1 : a.length = b.length
  · rw [if_pos e1] at h
    by_cases e2 : b.length = c.length
    · rw [if_pos e2] at h'
      rw [if_pos (e1.trans e2)]
      exact lexI_trans a b c e1 e2 h h'
    · rw [if_neg e2, decide_eq_true_eq] at h'
      rw [if_neg (by omega)]
      exact decide_eq_true (by omega)
  · rw [if_neg e1, decide_eq_true_eq] at h
    by_cases e2 : b.length = c.length
    · rw [if_neg (by omega)]
      exact decide_eq_true (by omega)
    · rw [if_neg e2, decide_eq_true_eq] at h'
      rw [if_neg (by omega)]
      exact decide_eq_true (by omega)

/-- what the search over sets finds: an uncovered set, none earlier. -/
theorem confF_least (re le bl : Int) (zs xs : List (Int × Int × Int)) : ∀ k : Nat,
    (confF re le bl zs xs k = none → ∀ s, 1 ≤ s → s < k → covB re le bl zs xs s = true) ∧
    (∀ b, confF re le bl zs xs k = some b → 1 ≤ b ∧ b < k ∧ covB re le bl zs xs b = false ∧ ∀ s, 1 ≤ s → s < k → covB re le bl zs xs s = false → earlierI (toI (memL s)) (toI (memL b)) = false)
  | 0 => ⟨fun _ s _ h => by omega, fun b h => by cases h⟩
  | s0 + 1 => by
    obtain ⟨ih1, ih2⟩ := confF_least re le bl zs xs s0
    rw [confF_succ]
    by_cases hc : s0 = 0 ∨ covB re le bl zs xs s0 = true
    · rw [if_pos hc]
      refine ⟨fun h s h1 h2 => ?_, fun b h => ?_⟩
      · by_cases e : s = s0
        · subst e; exact hc.resolve_left (by omega)
        · exact ih1 h s h1 (by omega)
      · obtain ⟨q1, q2, q3, q4⟩ := ih2 b h
        refine ⟨q1, by omega, q3, fun s h1 h2 h3 => ?_⟩
        by_cases e : s = s0
        · subst e
          rw [hc.resolve_left (by omega)] at h3
          cases h3
        · exact q4 s h1 (by omega) h3
    · rw [if_neg hc]
      have hs0 : s0 ≠ 0 := fun e => hc (.inl e)
      have hun : covB re le bl zs xs s0 = false := Bool.eq_false_iff.2 fun e => hc (.inr e)
      cases hb : confF re le bl zs xs s0 with
      | none =>
        refine ⟨(fun h => by cases h), fun b h => ?_⟩
        cases h
        refine ⟨by omega, by omega, hun, fun s h1 h2 h3 => ?_⟩
        by_cases e : s = s0
        · subst e; exact earlierI_irrefl _
        · rw [ih1 hb s h1 (by omega)] at h3; cases h3
      | some b0 =>
        obtain ⟨q1, q2, q3, q4⟩ := ih2 b0 hb
        simp only []
        by_cases he : earlierI (toI (memL s0)) (toI (memL b0)) = true
        · rw [if_pos he]
          refine ⟨(fun h => by cases h), fun b h => ?_⟩
          cases h
          refine ⟨by omega, by omega, hun, fun s h1 h2 h3 => ?_⟩
          by_cases e : s = s0
          · subst e; exact earlierI_irrefl _
          · refine Bool.eq_false_iff.2 fun hh => ?_
            have := q4 s h1 (by omega) h3
            rw [earlierI_trans hh he] at this
            cases this
        · rw [if_neg he]
          refine ⟨(fun h => by cases h), fun b h => ?_⟩
          cases h
          refine ⟨q1, by omega, q3, fun s h1 h2 h3 => ?_⟩
          by_cases e : s = s0
          · subst e; exact Bool.eq_false_iff.2 he
          · exact q4 s h1 (by omega) h3

theorem memL_zero : memL 0 = [] := by decide
theorem cov_no2 {re le bl ma st lo m k r : Int} {zs : List (Int × Int × Int)} {s : Nat} (hn : zs.length ≤ 8) (hs : s < 2 ^ zs.length) : covB re le bl zs (drvs ma st lo m k r) s = false ↔ regD re le bl ma st lo m k r (someL zs (memL s)) = [] := by
  unfold covB regD
  rw [List.filter_eq_nil_iff, Bool.eq_false_iff, ne_eq, List.any_eq_true]
  constructor
  · intro h x hx hh
    exact h ⟨x, hx, by rw [cov_expl hn hs]; exact hh⟩
  · rintro h ⟨x, hx, hh⟩
    rw [cov_expl hn hs] at hh
    exact h x hx hh
theorem Inc.sub {n : Nat} : ∀ {l l' : List Nat}, l'.Sublist l → ∀ {f : Nat}, Inc n f l → Inc n f l'
  | _, _, .slnil, _, _ => trivial
  | _, _, .cons a h, f, hi => ((Inc.sub h hi.2.2).mono (by have := hi.1; omega))
  | _, _, .cons_cons a h, f, hi => ⟨hi.1, hi.2.1, Inc.sub h hi.2.2⟩
theorem inc_range (n : Nat) : ∀ (m f : Nat), f + m ≤ n → Inc n f (List.range' f m)
  | 0, _, _ => trivial
  | m + 1, f, h => by
    rw [List.range'_succ]
    exact ⟨Nat.le_refl _, by omega, inc_range n m (f + 1) (by omega)⟩
theorem someL_range (zs : List (Int × Int × Int)) : someL zs (List.range' 0 zs.length) = zs := by
  unfold someL
  rw [← List.range_eq_range']
  apply List.ext_getElem
  · simp
  · intro i h1 h2
    simp [List.getElem_map, List.getElem_range, List.getD_eq_getElem?_getD, List.getElem?_eq_getElem h2]
theorem regD_nil (re le bl ma st lo m k r : Int) : regD re le bl ma st lo m k r [] = drvs ma st lo m k r := by
  unfold regD explB
  simp
/-- the indices without the n-th one, up to the j-th one. -/
def skipL (l : List Nat) (n : Int) (j : Nat) : List Nat := ((List.range j).filter fun (o : Nat) => decide ((o : Int) ≠ n)).map fun (o : Nat) => l.getD o 0
theorem skipL_zero (l : List Nat) (n : Int) : skipL l n 0 = [] := rfl
theorem skipL_at (l : List Nat) (n : Int) (j : Nat) (h : (j : Int) = n) : skipL l n (j + 1) = skipL l n j := by
  unfold skipL
  rw [List.range_succ, List.filter_append, List.map_append]
  simp [h]
theorem skipL_other (l : List Nat) (n : Int) (j : Nat) (h : (j : Int) ≠ n) : skipL l n (j + 1) = skipL l n j ++ [l.getD j 0] := by
  unfold skipL
  rw [List.range_succ, List.filter_append, List.map_append]
  simp [h]
theorem map_get (l : List Nat) : (List.range l.length).map (fun o => l.getD o 0) = l := by
  apply List.ext_getElem
  · simp
  · intro i h1 h2
    simp [List.getElem_map, List.getElem_range, List.getD_eq_getElem?_getD, List.getElem?_eq_getElem h2]
theorem skipL_sub (l : List Nat) (n : Int) : (skipL l n l.length).Sublist l := by
  have := (List.filter_sublist (p := fun o : Nat => decide ((o : Int) ≠ n)) (l := List.range l.length)).map (fun o => l.getD o 0)
  rw [map_get] at this
  exact this
theorem skipL_all (l : List Nat) {n : Int} (h : n < 0) : skipL l n l.length = l := by
  unfold skipL
  rw [List.filter_eq_self.2, map_get]
  intro a _
  simp
  omega
theorem skipL_less (l : List Nat) {n : Nat} (h : n < l.length) : (skipL l n l.length).length < l.length := by
  unfold skipL
  rw [List.length_map]
  have := List.length_filter_lt_length_iff_exists (p := fun o : Nat => decide ((o : Int) ≠ (n : Int))) (l := List.range l.length)
  rw [List.length_range] at this
  exact this.2 ⟨n, List.mem_range.2 h, by simp⟩
theorem skipL_len (l : List Nat) (n : Int) : ∀ j, (skipL l n j).length ≤ j := fun j => by
  unfold skipL
  rw [List.length_map]
  exact Nat.le_trans (List.length_filter_le _ _) (by simp)

/-- a conflict: none where a driver explains all; else the least set. -/
theorem conf_holds {re le bl ma st lo m k r : Int} {zs : List (Int × Int × Int)} (hn : zs.length ≤ 8) (hd : drvs ma st lo m k r ≠ []) :
    (regD re le bl ma st lo m k r zs ≠ [] → confF re le bl zs (drvs ma st lo m k r) (2 ^ zs.length) = none) ∧
    (regD re le bl ma st lo m k r zs = [] → ∃ b, confF re le bl zs (drvs ma st lo m k r) (2 ^ zs.length) = some b ∧ Inc zs.length 0 (memL b) ∧ 1 ≤ (memL b).length ∧
      ∀ n : Int, -1 ≤ n → n < (memL b).length → (regD re le bl ma st lo m k r (someL zs (skipL (memL b) n (memL b).length)) = [] ↔ n < 0)) := by
  obtain ⟨f1, f2⟩ := confF_least re le bl zs (drvs ma st lo m k r) (2 ^ zs.length)
  constructor
  · intro h
    cases hf : confF re le bl zs (drvs ma st lo m k r) (2 ^ zs.length) with
    | none => rfl
    | some b =>
      obtain ⟨b1, b2, b3, _⟩ := f2 b hf
      have e := (cov_no2 hn b2).1 b3
      exfalso
      obtain ⟨x, t, hx⟩ := List.exists_cons_of_ne_nil h
      have hm : x ∈ regD re le bl ma st lo m k r zs := by rw [hx]; simp
      unfold regD at hm e
      obtain ⟨m1, m2⟩ := List.mem_filter.1 hm
      refine (List.filter_eq_nil_iff.1 e) x m1 ?_
      unfold explB at m2 ⊢
      rw [List.all_eq_true] at m2 ⊢
      intro z hz
      unfold someL at hz
      obtain ⟨i, hi, rfl⟩ := List.mem_map.1 hz
      have hlt : i < zs.length := bit_lt b2 (mem_memL.1 hi).2
      have : zs.getD i (0, 0, 0) ∈ zs := by
        rw [List.getD_eq_getElem?_getD, List.getElem?_eq_getElem hlt]
        exact List.getElem_mem hlt
      exact m2 _ this
  · intro h
    have h0 : ∀ s, s < 2 ^ zs.length → regD re le bl ma st lo m k r (someL zs (memL s)) = [] → 1 ≤ s := by
      intro s _ he
      rcases Nat.eq_zero_or_pos s with rfl | hs
      · rw [memL_zero] at he
        exact absurd ((regD_nil re le bl ma st lo m k r).symm.trans he) hd
      · exact hs
    obtain ⟨sf, hsf, hml⟩ := memL_set hn (inc_range zs.length zs.length 0 (by omega))
    have hall : regD re le bl ma st lo m k r (someL zs (memL sf)) = [] := by rw [hml, someL_range]; exact h
    cases hf : confF re le bl zs (drvs ma st lo m k r) (2 ^ zs.length) with
    | none =>
      have := f1 hf sf (h0 sf hsf hall) hsf
      rw [(cov_no2 hn hsf).2 hall] at this
      cases this
    | some b =>
      obtain ⟨b1, b2, b3, b4⟩ := f2 b hf
      have hb := (cov_no2 hn b2).1 b3
      have hi := memL_inc b2
      refine ⟨b, rfl, hi, memL_pos b (Nat.lt_of_lt_of_le b2 (Nat.pow_le_pow_right (by decide) hn : 2 ^ zs.length ≤ 2 ^ 8)) b1, fun n n1 n2 => ?_⟩
      by_cases hneg : n < 0
      · rw [skipL_all _ hneg]
        exact ⟨fun _ => hneg, fun _ => hb⟩
      · refine ⟨fun he => ?_, fun hh => absurd hh hneg⟩
        obtain ⟨q, rfl⟩ : ∃ q : Nat, n = q := ⟨n.toNat, by omega⟩
        have hq : q < (memL b).length := by omega
        obtain ⟨s, hs, hms⟩ := memL_set hn (hi.sub (skipL_sub (memL b) q))
        rw [← hms] at he
        have := b4 s (h0 s hs he) hs ((cov_no2 hn hs).2 he)
        have hl := skipL_less (memL b) hq
        rw [← hms] at hl
        have he2 : earlierI (toI (memL s)) (toI (memL b)) = true := by
          unfold earlierI
          rw [toI_len, toI_len, if_neg (by omega)]
          exact decide_eq_true hl
        rw [he2] at this
        cases this
end Go.Proofs.YtpkldjlljoledaaDoor
