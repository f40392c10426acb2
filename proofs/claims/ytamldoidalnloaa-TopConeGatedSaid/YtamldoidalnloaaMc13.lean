/- Part 13 of the texts of the claim: Te3, Te4. -/
import Derived.Test.YtamldoidalnloaaMc12
import Derived.Test.YtamldoidalnloaaMc8

/- The law of TopConeGated, plain: the room's response, its gate, its decay and its first reflection. -/
namespace Go.Proofs.Ytamldoidalnloaa
open Go.RowKit
open Calm (bcell Blk)
def roomF (h : List Int) (k : Int) (at' i j : Nat) : Int := if j < i then h.getD j 0 else if at' ≤ j ∧ j < at' + i then k * h.getD (j - at') 0 else 0
def roomL (h : List Int) (k : Int) (at' i : Nat) : List Int := (List.range (at' + h.length)).map (roomF h k at' i)
def freeL (h : List Int) (at' i : Nat) : List Int := (List.range (at' + h.length)).map fun j => if j < i then h.getD j 0 else 0
theorem roomL_len (h : List Int) (k : Int) (at' i : Nat) : (roomL h k at' i).length = at' + h.length := by simp [roomL]
theorem freeL_len (h : List Int) (at' i : Nat) : (freeL h at' i).length = at' + h.length := by simp [freeL]
theorem roomL_get (h : List Int) (k : Int) (at' i j : Nat) (hj : j < at' + h.length) : (roomL h k at' i).getD j 0 = roomF h k at' i j := by
  simp [roomL, List.getD_eq_getElem?_getD, hj]
theorem freeL_get (h : List Int) (at' i j : Nat) (hj : j < at' + h.length) : (freeL h at' i).getD j 0 = if j < i then h.getD j 0 else 0 := by
  simp [freeL, List.getD_eq_getElem?_getD, hj]
/-- the cells of a list. -/
def cellsL (l : List Int) : Array Value := (l.map (Value.int .i64)).toArray
theorem cellsL_size (l : List Int) : (cellsL l).size = l.length := by simp [cellsL]
theorem cellsL_set (l : List Int) (i : Nat) (x : Int) : (cellsL l).setIfInBounds i (.int .i64 x) = cellsL (l.set i x) := by
  simp [cellsL, List.map_set]
theorem range_set (m : Nat) (f g : Nat → Int) (i : Nat) (h : ∀ j, j < m → j ≠ i → f j = g j) : ((List.range m).map f).set i (g i) = (List.range m).map g := by
  apply List.ext_getElem?
  intro j
  rw [List.getElem?_set]
  by_cases hi : i = j
  · subst hi
    by_cases hm : i < m <;> simp [hm]
  · rw [if_neg hi]
    by_cases hm : j < m
    · simp [hm, h j hm (Ne.symm hi)]
    · simp [hm]
theorem freeL_set (h : List Int) (at' i : Nat) : (freeL h at' i).set i (h.getD i 0) = freeL h at' (i + 1) := by
  have := range_set (at' + h.length) (fun j => if j < i then h.getD j 0 else 0) (fun j => if j < i + 1 then h.getD j 0 else 0) i (fun j _ hj => by
    by_cases h1 : j < i
    · rw [if_pos h1, if_pos (by omega)]
    · rw [if_neg h1, if_neg (by omega)])
  simp only [if_pos (show i < i + 1 by omega)] at this
  exact this
theorem roomL_set (h : List Int) (k : Int) (at' i : Nat) (hi : i < h.length) (ha : h.length ≤ at') : ((roomL h k at' i).set i (h.getD i 0)).set (at' + i) (k * h.getD i 0) = roomL h k at' (i + 1) := by
  have e1 := range_set (at' + h.length) (roomF h k at' i) (fun j => if j = i then h.getD i 0 else roomF h k at' i j) i (fun j _ hj => by rw [if_neg hj])
  simp only [if_true] at e1
  have e2 := range_set (at' + h.length) (fun j => if j = i then h.getD i 0 else roomF h k at' i j) (roomF h k at' (i + 1)) (at' + i) (fun j _ hj => by
    unfold roomF
    by_cases h1 : j = i
    · subst h1
      rw [if_pos rfl, if_pos (by omega)]
    · rw [if_neg h1]
      by_cases h2 : j < i
      · rw [if_pos h2, if_pos (by omega)]
      · rw [if_neg h2, if_neg (show ¬ j < i + 1 by omega)]
        by_cases h3 : at' ≤ j ∧ j < at' + i
        · rw [if_pos h3, if_pos (show at' ≤ j ∧ j < at' + (i + 1) by omega)]
        · rw [if_neg h3, if_neg (show ¬ (at' ≤ j ∧ j < at' + (i + 1)) by omega)])
  have e3 : roomF h k at' (i + 1) (at' + i) = k * h.getD i 0 := by
    unfold roomF
    rw [if_neg (by omega), if_pos (by omega), Nat.add_sub_cancel_left]
  rw [e3] at e2
  unfold roomL
  rw [e1, e2]
def ecK (h : List Int) (k : Int) : Nat → Int
  | 0 => 0
  | i + 1 => ecK h k i + k * h.getD i 0 * k * h.getD i 0
def fsK (h : List Int) (k : Int) : Nat → Option Nat
  | 0 => none
  | i + 1 => match fsK h k i with
    | some j => some j
    | none => if h.getD i 0 = 0 ∨ k = 0 then none else some i
def fsV (at' : Nat) : Option Nat → Int
  | none => -1
  | some j => ((at' + j : Nat) : Int)
theorem enK_congr {l m : List Int} : ∀ {n : Nat}, (∀ j, j < n → l.getD j 0 = m.getD j 0) → enK l n = enK m n
  | 0, _ => rfl
  | n + 1, h => by
    simp only [enK]
    rw [enK_congr (n := n) (fun j hj => h j (by omega)), h n (by omega)]
theorem enK_zero {l : List Int} {n : Nat} : ∀ {d : Nat}, (∀ j, n ≤ j → j < n + d → l.getD j 0 = 0) → enK l (n + d) = enK l n
  | 0, _ => rfl
  | d + 1, h => by
    rw [← Nat.add_assoc]
    simp only [enK]
    rw [enK_zero (d := d) (fun j h1 h2 => h j h1 (by omega)), h (n + d) (by omega) (by omega)]
    simp
theorem enK_dK (l : List Int) : ∀ i, i ≤ l.length → enK l (l.length - i) + dK l i = enK l l.length
  | 0, _ => by simp [dK]
  | i + 1, h => by
    have h1 := enK_dK l i (by omega)
    have e : l.length - i = (l.length - (i + 1)) + 1 := by omega
    rw [e] at h1
    simp only [enK] at h1
    simp only [dK]
    rw [show l.length - 1 - i = l.length - (i + 1) by omega]
    omega
section
variable (h : List Int) (k : Int) (at' : Nat) (ha : h.length ≤ at')
include ha
omit ha in
theorem room_lo {j : Nat} (hj : j < at') : (roomL h k at' h.length).getD j 0 = if j < h.length then h.getD j 0 else 0 := by
  rw [roomL_get _ _ _ _ _ (by omega)]
  unfold roomF
  by_cases h1 : j < h.length
  · rw [if_pos h1, if_pos h1]
  · rw [if_neg h1, if_neg h1, if_neg (by omega)]
theorem room_hi {j : Nat} (hj : j < h.length) : (roomL h k at' h.length).getD (at' + j) 0 = k * h.getD j 0 := by
  rw [roomL_get _ _ _ _ _ (by omega)]
  unfold roomF
  rw [if_neg (by omega), if_pos (by omega), Nat.add_sub_cancel_left]
theorem enK_room_at : enK (roomL h k at' h.length) at' = enK h h.length := by
  have e : at' = h.length + (at' - h.length) := by omega
  have h1 : enK (roomL h k at' h.length) (h.length + (at' - h.length)) = enK (roomL h k at' h.length) h.length := enK_zero (fun j q1 q2 => by rw [room_lo h k at' (by omega), if_neg (by omega)])
  rw [← e] at h1
  rw [h1]
  exact enK_congr (fun j hj => by rw [room_lo h k at' (by omega), if_pos hj])
omit ha in
theorem enF_free : enF (freeL h at' h.length) = enK h h.length := by
  unfold enF
  rw [freeL_len, show at' + h.length = h.length + at' by omega]
  have h1 : enK (freeL h at' h.length) (h.length + at') = enK (freeL h at' h.length) h.length := enK_zero (fun j q1 q2 => by rw [freeL_get _ _ _ _ (by omega), if_neg (by omega)])
  rw [h1]
  exact enK_congr (fun j hj => by rw [freeL_get _ _ _ _ (by omega), if_pos hj])
theorem enK_room_hi : ∀ i, i ≤ h.length → enK (roomL h k at' h.length) (at' + i) = enK h h.length + ecK h k i
  | 0, _ => by rw [Nat.add_zero, enK_room_at h k at' ha]; simp [ecK]
  | i + 1, hi => by
    rw [← Nat.add_assoc]
    simp only [enK, ecK]
    rw [enK_room_hi i (by omega), room_hi h k at' ha (by omega), Int.mul_assoc (k * h.getD i 0) k (h.getD i 0)]
    omega
theorem room_lost : enF (roomL h k at' h.length) - enF (freeL h at' h.length) = ecK h k h.length := by
  rw [enF_free h at']
  unfold enF
  rw [roomL_len, enK_room_hi h k at' ha _ (Nat.le_refl _)]
  omega
theorem room_dec0 (h0 : 0 < h.length) : (decL (roomL h k at' h.length)).getD 0 0 = enK h h.length + ecK h k h.length := by
  have h1 := enK_dK (roomL h k at' h.length) _ (Nat.le_refl _)
  rw [Nat.sub_self] at h1
  have h2 : (decL (roomL h k at' h.length)).getD 0 0 = dK (roomL h k at' h.length) (roomL h k at' h.length).length := by
    simp [decL, List.getD_eq_getElem?_getD, roomL_len, show 0 < at' + h.length by omega]
  rw [h2]
  have h3 : enK (roomL h k at' h.length) 0 = 0 := rfl
  rw [h3, roomL_len, enK_room_hi h k at' ha _ (Nat.le_refl _)] at h1
  rw [roomL_len]
  omega
theorem room_decAt (h0 : 0 < h.length) : (decL (roomL h k at' h.length)).getD at' 0 = ecK h k h.length := by
  have h1 := enK_dK (roomL h k at' h.length) h.length (by rw [roomL_len]; omega)
  have h2 : (decL (roomL h k at' h.length)).getD at' 0 = dK (roomL h k at' h.length) h.length := by
    simp [decL, List.getD_eq_getElem?_getD, roomL_len, show at' < at' + h.length by omega]
  rw [h2]
  rw [roomL_len, Nat.add_sub_cancel, enK_room_at h k at' ha, enK_room_hi h k at' ha _ (Nat.le_refl _)] at h1
  omega
theorem room_gate : gateL (roomL h k at' h.length) at' = freeL h at' h.length := by
  apply List.ext_getElem?
  intro j
  unfold gateL
  rw [roomL_len, Nat.add_sub_cancel_left]
  have hl : ((roomL h k at' h.length).take at').length = at' := by rw [List.length_take, roomL_len]; omega
  by_cases hj : j < at'
  · rw [List.getElem?_append_left (by omega), List.getElem?_take, if_pos hj]
    have h1 := room_lo h k at' hj
    rw [List.getD_eq_getElem?_getD, List.getElem?_eq_getElem (by rw [roomL_len]; omega)] at h1
    rw [List.getElem?_eq_getElem (by rw [roomL_len]; omega)]
    simp at h1
    simp [freeL, show j < at' + h.length by omega, h1, List.getD_eq_getElem?_getD]
  · rw [List.getElem?_append_right (by omega), hl]
    by_cases hj2 : j < at' + h.length
    · rw [List.getElem?_replicate, if_pos (by omega)]
      simp [freeL, hj2, show ¬ j < h.length by omega]
    · rw [List.getElem?_replicate, if_neg (by omega), List.getElem?_eq_none (by rw [freeL_len]; omega)]
omit ha in
theorem firstD_lo : ∀ m, m ≤ at' → firstD (roomL h k at' h.length) (freeL h at' h.length) m = none
  | 0, _ => rfl
  | m + 1, hm => by
    simp only [firstD]
    rw [firstD_lo m (by omega)]
    simp only []
    rw [if_pos (by rw [room_lo h k at' (by omega), freeL_get _ _ _ _ (by omega)])]
theorem firstD_hi : ∀ i, i ≤ h.length → firstD (roomL h k at' h.length) (freeL h at' h.length) (at' + i) = (fsK h k i).map (at' + ·)
  | 0, _ => by rw [Nat.add_zero, firstD_lo h k at' _ (Nat.le_refl _)]; rfl
  | i + 1, hi => by
    rw [← Nat.add_assoc]
    simp only [firstD, fsK]
    rw [firstD_hi i (by omega)]
    cases hf : fsK h k i with
    | some j => rfl
    | none =>
      simp only [Option.map_none]
      rw [room_hi h k at' ha (by omega), freeL_get _ _ _ _ (by omega), if_neg (show ¬ at' + i < h.length by omega)]
      by_cases h1 : h.getD i 0 = 0 ∨ k = 0
      · rw [if_pos h1, if_pos (by rcases h1 with h1 | h1 <;> rw [h1] <;> simp)]; rfl
      · rw [if_neg h1, if_neg (fun e => h1 (by rcases Int.mul_eq_zero.1 e with q | q; exact .inr q; exact .inl q))]; rfl
end
theorem cells_zero (h : List Int) (k : Int) (at' : Nat) : cellsL (roomL h k at' 0) = (zerosA (at' + h.length)).toArray ∧ cellsL (freeL h at' 0) = (zerosA (at' + h.length)).toArray := by
  have e : ∀ (f : Nat → Int) (m : Nat), (∀ j, f j = 0) → cellsL ((List.range m).map f) = (zerosA m).toArray := fun f m hf => by
    unfold cellsL zerosA
    congr 1
    apply List.ext_getElem?
    intro t
    rcases Nat.lt_or_ge t m with ht | ht <;> simp [ht, hf]
  exact ⟨e _ _ (fun j => by unfold roomF; rw [if_neg (by omega), if_neg (by omega)]), e _ _ (fun j => if_neg (by omega))⟩
theorem getD_bd {l : List Int} {B : Int} (hB : 0 ≤ B) (h : ∀ x ∈ l, -B ≤ x ∧ x ≤ B) (j : Nat) : -B ≤ l.getD j 0 ∧ l.getD j 0 ≤ B := by
  rw [List.getD_eq_getElem?_getD]
  cases e : l[j]? with
  | none => simp; exact hB
  | some x => exact h x (List.mem_of_getElem? e)
theorem room_bd {h : List Int} {k : Int} {at' : Nat} (hh : ∀ x ∈ h, -100 ≤ x ∧ x ≤ 100) (hk : -3 ≤ k ∧ k ≤ 3) (i : Nat) : ∀ x ∈ roomL h k at' i, -300 ≤ x ∧ x ≤ 300 := by
  intro x hx
  simp only [roomL, List.mem_map] at hx
  obtain ⟨j, -, rfl⟩ := hx
  unfold roomF
  have h1 := getD_bd (B := 100) (by decide) hh j
  have h2 := getD_bd (B := 100) (by decide) hh (j - at')
  split
  · omega
  · split
    · obtain ⟨y, hy⟩ : ∃ y, y = h.getD (j - at') 0 := ⟨_, rfl⟩
      rw [← hy] at h2 ⊢
      rcases (by omega : k = -3 ∨ k = -2 ∨ k = -1 ∨ k = 0 ∨ k = 1 ∨ k = 2 ∨ k = 3) with rfl | rfl | rfl | rfl | rfl | rfl | rfl <;> omega
    · omega
theorem cv_small {h p : List Int} (hh : ∀ x ∈ h, -300 ≤ x ∧ x ≤ 300) (hp : ∀ x ∈ p, x = 1 ∨ x = -1) (t : Nat) : ∀ i : Nat, -300 * (i : Int) ≤ cvAt h p t i ∧ cvAt h p t i ≤ 300 * (i : Int)
  | 0 => by simp [cvAt]
  | i + 1 => by
    have h1 := cv_small hh hp t i
    have h2 := getD_bd (B := 300) (by decide) hh i
    have h3 : p.getD (t - i) 0 = 1 ∨ p.getD (t - i) 0 = -1 ∨ p.getD (t - i) 0 = 0 := by
      rw [List.getD_eq_getElem?_getD]
      cases e : p[t - i]? with
      | none => simp
      | some x => rcases hp x (List.mem_of_getElem? e) with q | q <;> simp [q]
    simp only [cvAt]
    split
    · rcases h3 with e | e | e <;> rw [e] <;> omega
    · omega
theorem conv_small {h p : List Int} (hh : ∀ x ∈ h, -300 ≤ x ∧ x ≤ 300) (hp : ∀ x ∈ p, x = 1 ∨ x = -1) (hl : h.length ≤ 256) : lvls (conv h p) := by
  intro x hx
  unfold conv at hx
  split at hx
  · cases hx
  · obtain ⟨t, -, rfl⟩ := List.mem_map.1 hx
    have := cv_small hh hp t h.length
    omega
theorem enK_100 {h : List Int} (hh : ∀ x ∈ h, -100 ≤ x ∧ x ≤ 100) : ∀ i : Nat, 0 ≤ enK h i ∧ enK h i ≤ 10000 * (i : Int)
  | 0 => by simp [enK]
  | i + 1 => by
    have h1 := enK_100 hh i
    have h2 := getD_bd (B := 100) (by decide) hh i
    have h3 : 0 ≤ h.getD i 0 * h.getD i 0 ∧ h.getD i 0 * h.getD i 0 ≤ 10000 := by
      obtain ⟨y, hy⟩ : ∃ y, y = h.getD i 0 := ⟨_, rfl⟩
      rw [← hy] at h2 ⊢
      refine ⟨?_, ?_⟩
      · rcases Int.le_total 0 y with q | q
        · exact Int.mul_nonneg q q
        · exact Int.mul_nonneg_of_nonpos_of_nonpos q q
      · have : (100 - y) * (100 + y) ≥ 0 := Int.mul_nonneg (by omega) (by omega)
        have e : (100 - y) * (100 + y) = 10000 - y * y := by rw [Int.sub_mul, Int.mul_add, Int.mul_add, Int.mul_comm y 100]; omega
        omega
    simp only [enK]
    omega
theorem kk_bd {k y : Int} (hk : -3 ≤ k ∧ k ≤ 3) (hy : -100 ≤ y ∧ y ≤ 100) : -300 ≤ k * y ∧ k * y ≤ 300 ∧ -900 ≤ k * y * k ∧ k * y * k ≤ 900 ∧ 0 ≤ k * y * k * y ∧ k * y * k * y ≤ 90000 := by
  have e : k * y * k * y = (k * y) * (k * y) := Int.mul_assoc (k * y) k y
  rw [e]
  have h1 : -300 ≤ k * y ∧ k * y ≤ 300 ∧ -900 ≤ k * y * k ∧ k * y * k ≤ 900 := by
    rcases (by omega : k = -3 ∨ k = -2 ∨ k = -1 ∨ k = 0 ∨ k = 1 ∨ k = 2 ∨ k = 3) with rfl | rfl | rfl | rfl | rfl | rfl | rfl <;> omega
  refine ⟨h1.1, h1.2.1, h1.2.2.1, h1.2.2.2, ?_, ?_⟩
  · rcases Int.le_total 0 (k * y) with q | q
    · exact Int.mul_nonneg q q
    · exact Int.mul_nonneg_of_nonpos_of_nonpos q q
  · obtain ⟨z, hz⟩ : ∃ z, z = k * y := ⟨_, rfl⟩
    rw [← hz] at h1 ⊢
    have : (300 - z) * (300 + z) ≥ 0 := Int.mul_nonneg (by omega) (by omega)
    have e : (300 - z) * (300 + z) = 90000 - z * z := by rw [Int.sub_mul, Int.mul_add, Int.mul_add, Int.mul_comm z 300]; omega
    omega
theorem ecK_bd {h : List Int} {k : Int} (hk : -3 ≤ k ∧ k ≤ 3) (hh : ∀ x ∈ h, -100 ≤ x ∧ x ≤ 100) : ∀ i : Nat, 0 ≤ ecK h k i ∧ ecK h k i ≤ 90000 * (i : Int)
  | 0 => by simp [ecK]
  | i + 1 => by
    have h1 := ecK_bd hk hh i
    have h2 := kk_bd hk (getD_bd (B := 100) (by decide) hh i)
    simp only [ecK]
    omega
end Go.Proofs.Ytamldoidalnloaa

/- TopConeGated's walk. -/
namespace Go.Proofs.Ytamldoidalnloaa
open Go.RowKit
open Calm (bcell Blk)
set_option maxRecDepth 100000 in
set_option maxHeartbeats 8000000 in
theorem gated_big (h : List Int) (A : Option Addr) (c N : Nat) (wt fc : Int) (w : World) (hN : 12 < N ∨ N = 0) : Calls Try.prog 3 #[.slice A N c, .int .u8 wt, .int .u8 fc] w fun r w' => r = .returned (.bool true) ∧ Below w.heap.size w w' := by
  have HCB := Lib.hid (fun W => coneBooth_ok W)
  rcases hN with h1 | rfl
  · have h2 : 12 < (N : Int) := by omega
    clear h1
    go_enter Try.func3, Try.ntmps3
    go_wp2_with (go_at_call 5; refine (HCB.out _).mono ?_; rintro r w1 ⟨rfl, hb⟩; have HB := Lib.hid hb; clear hb; refine Hid.out ?_)
    unfold Hid
    go_wp2
    go_ret
    exact ⟨rfl, HB.out⟩
  · go_enter Try.func3, Try.ntmps3
    go_wp2_with (go_at_call 5; refine (HCB.out _).mono ?_; rintro r w1 ⟨rfl, hb⟩; have HB := Lib.hid hb; clear hb; refine Hid.out ?_)
    unfold Hid
    go_wp2
    go_ret
    exact ⟨rfl, HB.out⟩
theorem gated_turn {w W : World} {fb rb i at' B : Nat} {h : List Int} {kf x p : Int} (KF : Blk W fb (cellsL (freeL h at' i))) (KR : Blk W rb (cellsL (roomL h kf at' i))) (hne : fb ≠ rb) (hi : i < h.length) (ha : h.length ≤ at') (hb : Below B w W) (hB : B ≤ fb ∧ B ≤ rb) (hx : x = h.getD i 0) (hp : p = kf * x) :
    Blk (((W.setCell ⟨fb, i, none⟩ (.int .i64 x)).setCell ⟨rb, i, none⟩ (.int .i64 x)).setCell ⟨rb, at' + i, none⟩ (.int .i64 p)) fb (cellsL (freeL h at' (i + 1))) ∧ Blk (((W.setCell ⟨fb, i, none⟩ (.int .i64 x)).setCell ⟨rb, i, none⟩ (.int .i64 x)).setCell ⟨rb, at' + i, none⟩ (.int .i64 p)) rb (cellsL (roomL h kf at' (i + 1))) ∧ Below B w (((W.setCell ⟨fb, i, none⟩ (.int .i64 x)).setCell ⟨rb, i, none⟩ (.int .i64 x)).setCell ⟨rb, at' + i, none⟩ (.int .i64 p)) := by
  subst hp hx
  refine ⟨?_, ?_, ((hb.setCell hB.1 _).setCell hB.2 _).setCell hB.2 _⟩
  · have h1 := ((KF.set (i := i) (by rw [cellsL_size, freeL_len]; omega) (.int .i64 (h.getD i 0))).far (p := ⟨rb, i, none⟩) (Ne.symm hne) (.int .i64 (h.getD i 0))).far (p := ⟨rb, at' + i, none⟩) (Ne.symm hne) (.int .i64 (kf * h.getD i 0))
    rw [cellsL_set, freeL_set] at h1
    exact h1
  · have h1 := ((KR.far (p := ⟨fb, i, none⟩) hne (.int .i64 (h.getD i 0))).set (i := i) (by rw [cellsL_size, roomL_len]; omega) (.int .i64 (h.getD i 0))).set (i := at' + i) (by rw [Array.size_setIfInBounds, cellsL_size, roomL_len]; omega) (.int .i64 (kf * h.getD i 0))
    rw [cellsL_set, cellsL_set, roomL_set h kf at' i hi ha] at h1
    exact h1
theorem lv300 {R : List Int} (h : ∀ x ∈ R, -300 ≤ x ∧ x ≤ 300) : lvls R := fun x hx => by have := h x hx; omega
theorem ans_R (R : List Int) (hR : ∀ x ∈ R, -300 ≤ x ∧ x ≤ 300) (M : Nat) (hM : M = R.length) (h1 : 1 ≤ M) (h5 : M ≤ 240) (A : Option Addr) (c : Nat) (W : World) (hC : Cells W A R) :
    Calls Try.prog 6 #[.slice A M c, (.int .i64 16)] W fun r w' => (∃ X x Y y, r = .returned (.tuple #[.slice X (M + 15) x, .slice Y (M + 15) y, (.int .i64 0)]) ∧ Cells w' X (conv R (gol 4).1) ∧ Cells w' Y (conv R (gol 4).2)) ∧ Below W.heap.size W w' := by
  obtain ⟨g1, g2⟩ := gol_len 4
  obtain ⟨m1, m2⟩ := gol_pm 4
  have l1 : (conv R (gol 4).1).length = M + 15 := by rw [conv_len, if_neg (by omega), g1, ← hM]; rfl
  have l2 : (conv R (gol 4).2).length = M + 15 := by rw [conv_len, if_neg (by omega), g2, ← hM]; rfl
  refine (Answers_ok R 4 (by decide) A c M W hM (by omega) (lv300 hR) hC (conv_small hR m1 (by omega)) (conv_small hR m2 (by omega))).mono ?_
  rintro r w' ⟨u, v, rfl, ⟨X, x, rfl, hX, -⟩, ⟨Y, y, rfl, hY, -⟩, hb⟩
  exact ⟨⟨X, x, Y, y, by rw [l1, l2], hX, hY⟩, hb⟩
theorem dec_R (R : List Int) (hR : ∀ x ∈ R, -300 ≤ x ∧ x ≤ 300) (M : Nat) (hM : M = R.length) (h1 : 1 ≤ M) (h5 : M ≤ 240) (A B : Option Addr) (ca cb : Nat) (W : World) (hA : Cells W A (conv R (gol 4).1)) (hB : Cells W B (conv R (gol 4).2)) :
    Calls Try.prog 7 #[.slice A (M + 15) ca, .slice B (M + 15) cb, (.int .i64 16)] W fun r w' => (∃ X x, r = .returned (.tuple #[.slice X M x, (.int .i64 0)]) ∧ Cells w' X R) ∧ Below W.heap.size W w' := by
  obtain ⟨m1, m2⟩ := gol_pm 4
  have hg := golay (e := 4) (by decide) R (by omega)
  refine (Deconvolve_ok R _ _ 4 (by decide) A B ca cb M (M + 15) W hM h1 (by omega) rfl rfl rfl (lv300 hR) (conv_small hR m1 (by omega)) (conv_small hR m2 (by omega)) hA hB (Lib.hid (by rw [hM]; exact hg))).mono ?_
  rintro r w' ⟨u, rfl, ⟨X, x, rfl, h2, -⟩, h3⟩
  exact ⟨⟨X, x, by rw [← hM], h2⟩, h3⟩
theorem gate_R (R Fr : List Int) (at' : Nat) (E : Int) (hR : ∀ x ∈ R, -300 ≤ x ∧ x ≤ 300) (hg : gateL R at' = Fr) (hE : enF R - enF Fr = E) (M : Nat) (hM : M = R.length) (h1 : 1 ≤ M) (h5 : M ≤ 240) (ha : at' ≤ M) (A : Option Addr) (c : Nat) (hc : M ≤ c) (W : World) (hA : Cells W A R) :
    Calls Try.prog 9 #[.slice A M c, (.int .i64 0), (.int .i64 ((at' : Int)))] W fun r w' => (∃ X x, r = .returned (.tuple #[.slice X M x, (.int .i64 E), (.int .i64 0)]) ∧ Cells w' X Fr) ∧ Below W.heap.size W w' := by
  refine (Gate_ok R A c M at' W hM h1 (by omega) ha hc (lv300 hR) hA).mono ?_
  rintro r w' ⟨u, rfl, ⟨X, x, rfl, h2, -⟩, h3⟩
  rw [hg] at h2 ⊢
  rw [hE]
  have hl : Fr.length = M := by rw [← hg, gateL_len (by omega)]; exact hM.symm
  exact ⟨⟨X, x, by rw [hl], h2⟩, h3⟩
theorem decay_R (R : List Int) (hR : ∀ x ∈ R, -300 ≤ x ∧ x ≤ 300) (M : Nat) (hM : M = R.length) (h1 : 1 ≤ M) (h5 : M ≤ 240) (A : Option Addr) (c : Nat) (W : World) (hA : Cells W A R) :
    Calls Try.prog 10 #[.slice A M c] W fun r w' => (∃ X x, r = .returned (.tuple #[.slice X M x, (.int .i64 0)]) ∧ Cells w' X (decL R)) ∧ Below W.heap.size W w' := by
  refine (Decay_ok R A c M W hM h1 (by omega) (lv300 hR) hA).mono ?_
  rintro r w' ⟨u, rfl, ⟨X, x, rfl, h2, -⟩, h3⟩
  exact ⟨⟨X, x, by rw [decL_len, ← hM], h2⟩, h3⟩
theorem own_empty (W : World) : (W.alloc (.cells #[] 3)).ownsRow W.heap.size 3 1 (.slice (some ⟨W.heap.size, 0, none⟩) 0 0) 0 [] := World.ownsRow_made W #[] 0 (Nat.le_refl _) (Nat.zero_le _) rfl
end Go.Proofs.Ytamldoidalnloaa
