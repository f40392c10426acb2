/- Part 9 of the texts of the claim: B6, B1, B2, B4, B7, B8, Calm2. -/
import Derived.Test.YtadcmjnebjgijaaGreatDoorMb8
import Derived.BigQuiet
import Derived.Test.YtadcmjnebjgijaaGreatDoorMb1

/- Contract of package driver's CheckReadings. -/
namespace Go.Proofs.YtadcmjnebjgijaaGreatDoor
open Go.RowKit
open Calm (bcell Blk)

/-- the slice of these readings lies in memory (an empty one anywhere, or nowhere). -/
def RCells (w : World) (A : Option Addr) (zs : List (Int × Int × Int)) : Prop :=
  0 < zs.length → ∃ b off, A = some ⟨b, off, none⟩ ∧ b < w.heap.size ∧ ∀ k, k < zs.length → w.cell? ⟨b, off + k * 3, none⟩ = some (.int .i64 ((zs.getD k (0, 0, 0)).1)) ∧ w.cell? ⟨b, off + k * 3 + 1, none⟩ = some (.int .i64 ((zs.getD k (0, 0, 0)).2.1)) ∧ w.cell? ⟨b, off + k * 3 + 2, none⟩ = some (.int .i64 ((zs.getD k (0, 0, 0)).2.2))
theorem RCells.below {w w' : World} {A : Option Addr} {zs : List (Int × Int × Int)} (h : RCells w A zs) (hb : Below w.heap.size w w') : RCells w' A zs := by
  intro h0
  obtain ⟨b, off, hA, hl, hc⟩ := h h0
  refine ⟨b, off, hA, Nat.lt_of_lt_of_le hl hb.size, fun k hk => ?_⟩
  obtain ⟨h1, h2, h3⟩ := hc k hk
  exact ⟨(hb.cell (p := ⟨b, off + k * 3, none⟩) hl).trans h1, (hb.cell (p := ⟨b, off + k * 3 + 1, none⟩) hl).trans h2, (hb.cell (p := ⟨b, off + k * 3 + 2, none⟩) hl).trans h3⟩

/-- the first errors of readings, without their number. -/
def readErrs (zs : List (Int × Int × Int)) : List Int := zs.map fun r => readErr r.1 r.2.1 r.2.2
def readsErr (zs : List (Int × Int × Int)) : Int := if 32 < zs.length then 5 else firstOf (readErrs zs)

theorem checkReadings_long (A : Option Addr) (n c : Nat) (w : World) (h : 32 < n) (h2 : n ≤ 100000) :
    Calls Tryz.prog 63 #[.slice A n c] w fun r w' => r = .returned (.int .i64 (5)) ∧ w = w' := by
  go_enter Tryz.func63, Tryz.ntmps63
  go_wp2
  go_ret
  exact ⟨rfl, rfl⟩

set_option maxHeartbeats 2000000 in
theorem checkReadings_len (A : Option Addr) (zs : List (Int × Int × Int)) (c : Nat) (w : World) (hC : RCells w A zs) (h : zs.length ≤ 32) :
    Calls Tryz.prog 63 #[.slice A zs.length c] w fun r w' => r = .returned (.int .i64 (firstOf (readErrs zs))) ∧ Below w.heap.size w w' := by
  go_enter Tryz.func63, Tryz.ntmps63
  go_wp2
  go_loopw [11] (fun i wr => ∃ k : Nat, k ≤ zs.length ∧ i = (.int .i64 (k)) ∧ (∀ j, j < k → (readErrs zs).getD j 0 = 0) ∧ Below w.heap.size w wr) (fun i _ => zs.length - (intOf i).toNat)
  case atStart => exact ⟨0, Nat.zero_le _, rfl, fun j hj => by omega, Below.refl _ _⟩
  case round =>
    obtain ⟨k, hk, rfl, hz, hB⟩ := hrel
    have HZ := Lib.hid hz
    clear hz
    by_cases hlt : k < zs.length
    · obtain ⟨b, o, rfl, l1, k1⟩ := hC (by omega)
      obtain ⟨x1, x2, x3⟩ := k1 k hlt
      have x1 := (hB.cell (p := ⟨b, o + k * 3, none⟩) l1).trans x1
      have x2 := (hB.cell (p := ⟨b, o + k * 3 + 1, none⟩) l1).trans x2
      have x3 := (hB.cell (p := ⟨b, o + k * 3 + 2, none⟩) l1).trans x3
      have hE : (readErrs zs).getD k 0 = readErr (zs.getD k (0, 0, 0)).1 (zs.getD k (0, 0, 0)).2.1 (zs.getD k (0, 0, 0)).2.2 := by
        simp [readErrs, List.getD_eq_getElem?_getD, List.getElem?_map, List.getElem?_eq_getElem hlt]
      have HK := Lib.hid k1
      clear k1 hC
      obtain ⟨⟨x, y, z⟩, hx⟩ : ∃ x, x = zs.getD k (0, 0, 0) := ⟨_, rfl⟩
      rw [← hx] at x1 x2 x3 hE
      clear hx
      have hsz := hB.size
      simp only [] at x1 x2 x3 hE
      by_cases he : readErr x y z = 0
      · have HE := Lib.hid hE
        clear hE
        go_wp2_with (first | (go_at_call 81; refine (readCheck_any _ _ _ _).mono ?_; rintro r w1 ⟨rfl, hb⟩; obtain ⟨hc, hf⟩ := bcell hb; have hz := hb.size; (try simp at hz); (try have hz0 : w.heap.size < w1.heap.size := by omega); (try have hz1 : w.heap.size + 1 < w1.heap.size := by omega); (try have hz2 : w.heap.size + 1 + 1 < w1.heap.size := by omega); (try have hz3 : w.heap.size + 1 + 1 + 1 < w1.heap.size := by omega); (try have hz4 : w.heap.size + 1 + 1 + 1 + 1 < w1.heap.size := by omega); (try have hz5 : w.heap.size + 1 + 1 + 1 + 1 + 1 < w1.heap.size := by omega); (try have hz6 : w.heap.size + 1 + 1 + 1 + 1 + 1 + 1 < w1.heap.size := by omega)))
        go_roundw
        case rel => exact ⟨k + 1, by omega, by go_num, fun j hj => by
          rcases Nat.lt_or_ge j k with h | h
          · exact HZ.out j h
          · obtain rfl : j = k := by omega
            rw [HE.out, he], hB.trans (Below.mono (by (repeat (first | (with_reducible exact Below.refl _ _) | ((with_reducible refine Below.setCell ?_ ?_ _); rotate_left 1; focus (first | (simp; done) | (simp; omega) | (simp at *; omega))) | ((with_reducible refine Below.alloc ?_ ?_ _); rotate_left 1; focus (first | (simp; done) | (simp; omega) | (simp at *; omega))) | (with_reducible refine Below.drew ?_) | ((with_reducible refine Calm.step (by assumption) ?_ ?_); rotate_left 1; focus (first | (simp; done) | (simp; omega) | (simp at *; omega)))))) hsz)⟩
        case measure => simp [intOf]; omega
      · have HE := Lib.hid hE
        clear hE
        go_wp2_with (first | (go_at_call 81; refine (readCheck_any _ _ _ _).mono ?_; rintro r w1 ⟨rfl, hb⟩; obtain ⟨hc, hf⟩ := bcell hb; have hz := hb.size; (try simp at hz); (try have hz0 : w.heap.size < w1.heap.size := by omega); (try have hz1 : w.heap.size + 1 < w1.heap.size := by omega); (try have hz2 : w.heap.size + 1 + 1 < w1.heap.size := by omega); (try have hz3 : w.heap.size + 1 + 1 + 1 < w1.heap.size := by omega); (try have hz4 : w.heap.size + 1 + 1 + 1 + 1 < w1.heap.size := by omega); (try have hz5 : w.heap.size + 1 + 1 + 1 + 1 + 1 < w1.heap.size := by omega); (try have hz6 : w.heap.size + 1 + 1 + 1 + 1 + 1 + 1 < w1.heap.size := by omega)))
        go_ret
        refine ⟨ret_i ?_, hB.trans (Below.mono (by (repeat (first | (with_reducible exact Below.refl _ _) | ((with_reducible refine Below.setCell ?_ ?_ _); rotate_left 1; focus (first | (simp; done) | (simp; omega) | (simp at *; omega))) | ((with_reducible refine Below.alloc ?_ ?_ _); rotate_left 1; focus (first | (simp; done) | (simp; omega) | (simp at *; omega))) | (with_reducible refine Below.drew ?_) | ((with_reducible refine Calm.step (by assumption) ?_ ?_); rotate_left 1; focus (first | (simp; done) | (simp; omega) | (simp at *; omega)))))) hsz)⟩
        rw [firstOf_take HZ.out (by simpa [readErrs] using hlt) (by rw [HE.out]; exact he), HE.out]
    · go_wp2
      go_ret
      exact ⟨ret_i (firstOf_zero fun j hj => HZ.out j (by simp [readErrs] at hj; omega)).symm, hB⟩
end Go.Proofs.YtadcmjnebjgijaaGreatDoor

/- Contracts of package driver's curves. -/
namespace Go.Proofs.YtadcmjnebjgijaaGreatDoor
open Go.RowKit
open Calm (bcell Blk)

/-- the slice of these integers lies in memory (an empty one anywhere, or nowhere). -/
def Cells (w : World) (A : Option Addr) (zs : List Int) : Prop :=
  0 < zs.length → ∃ b off, A = some ⟨b, off, none⟩ ∧ b < w.heap.size ∧ ∀ k, k < zs.length → w.cell? ⟨b, off + k, none⟩ = some (.int .i64 (zs.getD k 0))
theorem Cells.below {w w' : World} {A : Option Addr} {zs : List Int} (h : Cells w A zs) (hb : Below w.heap.size w w') : Cells w' A zs := by
  intro h0
  obtain ⟨b, off, hA, hl, hc⟩ := h h0
  exact ⟨b, off, hA, Nat.lt_of_lt_of_le hl hb.size, fun k hk => (hb.cell (p := ⟨b, off + k, none⟩) hl).trans (hc k hk)⟩

def inR (x : Int) : Prop := 1 ≤ x ∧ x ≤ 999999999
/-- the error of a curve. -/
def curveErr (xs ys : List Int) : Int := if xs.length % 2 = 0 ∨ xs.length < 3 ∨ 33 < xs.length ∨ ys.length ≠ xs.length then 2 else if (∀ x ∈ xs, 1 ≤ x ∧ x ≤ 999999999) ∧ (∀ y ∈ ys, 1 ≤ y ∧ y ≤ 999999999) then 0 else 3

set_option maxHeartbeats 1000000 in
theorem checkCurve_shape (A1 A2 : Option Addr) (xs ys : List Int) (c1 c2 : Nat) (w : World) (h1 : xs.length ≤ 100000) (h2 : ys.length ≤ 100000) (h : xs.length % 2 = 0 ∨ xs.length < 3 ∨ 33 < xs.length ∨ ys.length ≠ xs.length) :
    Calls Tryz.prog 70 #[.agg #[.slice A1 xs.length c1, .slice A2 ys.length c2]] w fun r w' => r = .returned (.int .i64 (2)) ∧ Below w.heap.size w w' := by
  generalize xs.length = n at *
  generalize ys.length = m at *
  by_cases e1 : n % 2 = 0
  · clear h
    have f1 : ((n : Int) % 2 == 0) = true := by rw [beq_iff_eq]; omega
    go_enter Tryz.func70, Tryz.ntmps70
    go_wp2
    go_ret
    refine ⟨rfl, ?_⟩
    repeat (first | (with_reducible exact Below.refl _ _) | ((with_reducible refine Below.setCell ?_ ?_ _); rotate_left 1; focus (first | (simp; done) | (simp; omega) | (simp at *; omega))) | ((with_reducible refine Below.alloc ?_ ?_ _); rotate_left 1; focus (first | (simp; done) | (simp; omega) | (simp at *; omega))) | (with_reducible refine Below.drew ?_) | ((with_reducible refine Calm.step (by assumption) ?_ ?_); rotate_left 1; focus (first | (simp; done) | (simp; omega) | (simp at *; omega))))
  · have f1 : ((n : Int) % 2 == 0) = false := by rw [beq_eq_false_iff_ne]; omega
    by_cases e2 : n < 3
    · clear h e1
      go_enter Tryz.func70, Tryz.ntmps70
      go_wp2
      go_ret
      refine ⟨rfl, ?_⟩
      repeat (first | (with_reducible exact Below.refl _ _) | ((with_reducible refine Below.setCell ?_ ?_ _); rotate_left 1; focus (first | (simp; done) | (simp; omega) | (simp at *; omega))) | ((with_reducible refine Below.alloc ?_ ?_ _); rotate_left 1; focus (first | (simp; done) | (simp; omega) | (simp at *; omega))) | (with_reducible refine Below.drew ?_) | ((with_reducible refine Calm.step (by assumption) ?_ ?_); rotate_left 1; focus (first | (simp; done) | (simp; omega) | (simp at *; omega))))
    · by_cases e3 : 33 < n
      · clear h e1
        go_enter Tryz.func70, Tryz.ntmps70
        go_wp2
        go_ret
        refine ⟨rfl, ?_⟩
        repeat (first | (with_reducible exact Below.refl _ _) | ((with_reducible refine Below.setCell ?_ ?_ _); rotate_left 1; focus (first | (simp; done) | (simp; omega) | (simp at *; omega))) | ((with_reducible refine Below.alloc ?_ ?_ _); rotate_left 1; focus (first | (simp; done) | (simp; omega) | (simp at *; omega))) | (with_reducible refine Below.drew ?_) | ((with_reducible refine Calm.step (by assumption) ?_ ?_); rotate_left 1; focus (first | (simp; done) | (simp; omega) | (simp at *; omega))))
      · have e4 : ¬ m = n := by omega
        have f4 : ((m : Int) != n) = true := by rw [bne_iff_ne]; omega
        clear h e1
        go_enter Tryz.func70, Tryz.ntmps70
        go_wp2
        go_ret
        refine ⟨rfl, ?_⟩
        repeat (first | (with_reducible exact Below.refl _ _) | ((with_reducible refine Below.setCell ?_ ?_ _); rotate_left 1; focus (first | (simp; done) | (simp; omega) | (simp at *; omega))) | ((with_reducible refine Below.alloc ?_ ?_ _); rotate_left 1; focus (first | (simp; done) | (simp; omega) | (simp at *; omega))) | (with_reducible refine Below.drew ?_) | ((with_reducible refine Calm.step (by assumption) ?_ ?_); rotate_left 1; focus (first | (simp; done) | (simp; omega) | (simp at *; omega))))

theorem rangeErr3 {x : Int} (h : ¬ (1 ≤ x ∧ x ≤ 999999999)) : rangeErr x 1 999999999 = 3 := by
  rcases rangeErr_cases x 1 999999999 with ⟨h0, h1, h2⟩ | ⟨h0, _⟩
  · exact absurd ⟨h1, h2⟩ h
  · exact h0
theorem getD_mem {l : List Int} {k : Nat} (h : k < l.length) : l.getD k 0 ∈ l := by
  rw [List.getD_eq_getElem?_getD, List.getElem?_eq_getElem h]
  exact List.getElem_mem h
theorem mem_getD {l : List Int} {p : Int → Prop} (h : ∀ k, k < l.length → p (l.getD k 0)) : ∀ x ∈ l, p x := by
  intro x hx
  obtain ⟨k, hk, rfl⟩ := List.mem_iff_getElem.1 hx
  have := h k hk
  rwa [List.getD_eq_getElem?_getD, List.getElem?_eq_getElem hk] at this

set_option maxRecDepth 100000 in
set_option maxHeartbeats 8000000 in
theorem checkCurve_len (A1 A2 : Option Addr) (xs ys : List Int) (c1 c2 : Nat) (w : World) (hC1 : Cells w A1 xs) (hC2 : Cells w A2 ys) (h : ¬ (xs.length % 2 = 0 ∨ xs.length < 3 ∨ 33 < xs.length ∨ ys.length ≠ xs.length)) :
    Calls Tryz.prog 70 #[.agg #[.slice A1 xs.length c1, .slice A2 ys.length c2]] w fun r w' => r = .returned (.int .i64 (curveErr xs ys)) ∧ Below w.heap.size w w' := by
  have hlen : ys.length = xs.length := Classical.byContradiction fun hh => h (.inr (.inr (.inr hh)))
  have hE : curveErr xs ys = if (∀ x ∈ xs, 1 ≤ x ∧ x ≤ 999999999) ∧ (∀ y ∈ ys, 1 ≤ y ∧ y ≤ 999999999) then 0 else 3 := if_neg h
  have g1 : 3 ≤ xs.length ∧ xs.length ≤ 33 ∧ xs.length % 2 = 1 := by omega
  clear h
  obtain ⟨b1, o1, rfl, l1, k1⟩ := hC1 (by omega)
  obtain ⟨b2, o2, rfl, l2, k2⟩ := hC2 (by omega)
  obtain ⟨R, hR⟩ : ∃ R, R = curveErr xs ys := ⟨_, rfl⟩
  rw [← hR]
  have HE := Lib.hid (hR.trans hE)
  clear hR
  clear hE hC1 hC2
  rw [hlen] at k2 ⊢
  obtain ⟨n, hn⟩ : ∃ n, n = xs.length := ⟨_, rfl⟩
  rw [← hn] at g1 k1 k2 hlen ⊢
  have HN := Lib.hid hn
  clear hn
  have HL := Lib.hid hlen
  clear hlen
  obtain ⟨g2, g3, g4⟩ := g1
  have f1 : ((n : Int) % 2 == 0) = false := by rw [beq_eq_false_iff_ne]; omega
  go_enter Tryz.func70, Tryz.ntmps70
  go_wp2
  have k0 : Blk (w.alloc (.cells #[.slice (some ⟨b1, o1, none⟩) n c1, .slice (some ⟨b2, o2, none⟩) n c2] 78)) w.heap.size #[.slice (some ⟨b1, o1, none⟩) n c1, .slice (some ⟨b2, o2, none⟩) n c2] := Blk.at_ rfl
  have hb0 : Below w.heap.size w (w.alloc (.cells #[.slice (some ⟨b1, o1, none⟩) n c1, .slice (some ⟨b2, o2, none⟩) n c2] 78)) := (Below.refl _ _).alloc (Nat.le_refl _) _
  go_loopw [28] (fun i wr => ∃ k : Nat, k ≤ n ∧ i = (.int .i64 (k)) ∧ (∀ j, j < k → (1 ≤ xs.getD j 0 ∧ xs.getD j 0 ≤ 999999999) ∧ (1 ≤ ys.getD j 0 ∧ ys.getD j 0 ≤ 999999999)) ∧ Below w.heap.size w wr ∧ Blk wr w.heap.size #[.slice (some ⟨b1, o1, none⟩) n c1, .slice (some ⟨b2, o2, none⟩) n c2]) (fun i _ => n - (intOf i).toNat)
  case atStart => exact ⟨0, Nat.zero_le _, rfl, fun j hj => by omega, hb0, k0⟩
  case round =>
    clear k0 hb0
    obtain ⟨k, hk, rfl, hz, hB, hK⟩ := hrel
    have HZ := Lib.hid hz
    clear hz
    have d0 := hK.cell 0 _ rfl
    have d1 := hK.cell 1 _ rfl
    have dl := hK.lt
    by_cases hlt : k < n
    · have x1 : wr.cell? ⟨b1, o1 + k, none⟩ = some (.int .i64 (xs.getD k 0)) := (hB.cell (p := ⟨b1, o1 + k, none⟩) l1).trans (k1 k hlt)
      have x2 : wr.cell? ⟨b2, o2 + k, none⟩ = some (.int .i64 (ys.getD k 0)) := (hB.cell (p := ⟨b2, o2 + k, none⟩) l2).trans (k2 k hlt)
      have y1 : b1 < wr.heap.size := by omega
      have y2 : b2 < wr.heap.size := by omega
      clear k1 k2
      obtain ⟨x, hx⟩ : ∃ x, x = xs.getD k 0 := ⟨_, rfl⟩
      obtain ⟨y, hy⟩ : ∃ y, y = ys.getD k 0 := ⟨_, rfl⟩
      rw [← hx] at x1
      rw [← hy] at x2
      have HX := Lib.hid hx
      have HY := Lib.hid hy
      clear hx hy
      by_cases hok : (1 ≤ x ∧ x ≤ 999999999) ∧ (1 ≤ y ∧ y ≤ 999999999)
      · have e0 : firstOf [rangeErr x 1 999999999, rangeErr y 1 999999999] = 0 := by rw [rangeErr_in hok.1.1 hok.1.2, rangeErr_in hok.2.1 hok.2.2]; rfl
        have HO := Lib.hid hok
        clear hok
        go_wp2
        refine Calm.tail_below 12 (by kernel_rfl) (by kernel_rfl) ?_
        simp only [List.take_succ_cons, List.take_zero, List.drop_succ_cons, List.drop_zero]
        repeat (first | (first | (apply Calm.op_move; (focus rfl); (focus (first | exact .inl rfl | exact .inr rfl)); (focus ((try simp only [Act.eval, Array.getD_eq_getD_getElem?, List.getElem?_toArray, List.getElem?_cons_succ, List.getElem?_cons_zero, Option.getD_some]); rfl)); (try simp only [Act.put, List.setIfInBounds_toArray, List.set_cons_zero, List.set_cons_succ])) | (apply Calm.op_not; (focus rfl); (try simp only [Act.put, List.setIfInBounds_toArray, List.set_cons_zero, List.set_cons_succ])) | (apply Calm.op; (focus rfl); (focus (intro W hb; obtain ⟨hc, hf⟩ := bcell hb; clear hb hf; go_simp; (try go_bits); (try rfl); done)); (try simp only [Act.put, List.setIfInBounds_toArray, List.set_cons_zero, List.set_cons_succ]))) | (apply Calm.op_call; (focus rfl); (focus (intro W hb; obtain ⟨hc, hf⟩ := bcell hb; clear hb hf; go_simp; refine ⟨?_, ?_⟩; rfl; rfl)); (focus (intro W hb; first | (go_at_call 56; exact Calm.call_same hb (within_any _ _ _ _)))); (try simp only [Act.put, List.setIfInBounds_toArray, List.set_cons_zero, List.set_cons_succ])))
        refine wpQuiet_nil ?_
        intro w1 hb
        obtain ⟨hbc, hbf⟩ := bcell hb
        have hbz := hb.size
        (try simp at hbz)
        (try have hbz0 : w.heap.size < w1.heap.size := by omega)
        (try have hbz1 : w.heap.size + 1 < w1.heap.size := by omega)
        (try have hbz2 : w.heap.size + 1 + 1 < w1.heap.size := by omega)
        (try have hbz3 : w.heap.size + 1 + 1 + 1 < w1.heap.size := by omega)
        (try have hbz4 : w.heap.size + 1 + 1 + 1 + 1 < w1.heap.size := by omega)
        (try have hbz5 : w.heap.size + 1 + 1 + 1 + 1 + 1 < w1.heap.size := by omega)
        go_wp2_with (first | (go_at_call 53; refine (first2_any _ _ _).mono ?_; rintro r w1 ⟨rfl, rfl⟩))
        go_roundw
        case rel => exact ⟨k + 1, by omega, by go_num, fun j hj => by
          rcases Nat.lt_or_ge j k with h | h
          · exact HZ.out j h
          · obtain rfl : j = k := by omega
            rw [← HX.out, ← HY.out]
            exact HO.out, hB.trans (Below.mono (by (repeat (first | (with_reducible exact Below.refl _ _) | ((with_reducible refine Below.setCell ?_ ?_ _); rotate_left 1; focus (first | (simp; done) | (simp; omega) | (simp at *; omega))) | ((with_reducible refine Below.alloc ?_ ?_ _); rotate_left 1; focus (first | (simp; done) | (simp; omega) | (simp at *; omega))) | (with_reducible refine Below.drew ?_) | ((with_reducible refine Calm.step (by assumption) ?_ ?_); rotate_left 1; focus (first | (simp; done) | (simp; omega) | (simp at *; omega)))))) hB.size), hK.below (by (repeat (first | (with_reducible exact Below.refl _ _) | ((with_reducible refine Below.setCell ?_ ?_ _); rotate_left 1; focus (first | (simp; done) | (simp; omega) | (simp at *; omega))) | ((with_reducible refine Below.alloc ?_ ?_ _); rotate_left 1; focus (first | (simp; done) | (simp; omega) | (simp at *; omega))) | (with_reducible refine Below.drew ?_) | ((with_reducible refine Calm.step (by assumption) ?_ ?_); rotate_left 1; focus (first | (simp; done) | (simp; omega) | (simp at *; omega))))))⟩
        case measure => simp [intOf]; omega
      · have e0 : firstOf [rangeErr x 1 999999999, rangeErr y 1 999999999] = 3 := by
          by_cases hx : 1 ≤ x ∧ x ≤ 999999999
          · rw [rangeErr_in hx.1 hx.2, rangeErr3 (fun hh => hok ⟨hx, hh⟩)]; rfl
          · rw [rangeErr3 hx]; rfl
        have he : firstOf [rangeErr x 1 999999999, rangeErr y 1 999999999] ≠ 0 := by rw [e0]; decide
        have E0 := Lib.hid e0
        clear e0
        have HO := Lib.hid hok
        clear hok
        go_wp2
        refine Calm.tail_below 12 (by kernel_rfl) (by kernel_rfl) ?_
        simp only [List.take_succ_cons, List.take_zero, List.drop_succ_cons, List.drop_zero]
        repeat (first | (first | (apply Calm.op_move; (focus rfl); (focus (first | exact .inl rfl | exact .inr rfl)); (focus ((try simp only [Act.eval, Array.getD_eq_getD_getElem?, List.getElem?_toArray, List.getElem?_cons_succ, List.getElem?_cons_zero, Option.getD_some]); rfl)); (try simp only [Act.put, List.setIfInBounds_toArray, List.set_cons_zero, List.set_cons_succ])) | (apply Calm.op_not; (focus rfl); (try simp only [Act.put, List.setIfInBounds_toArray, List.set_cons_zero, List.set_cons_succ])) | (apply Calm.op; (focus rfl); (focus (intro W hb; obtain ⟨hc, hf⟩ := bcell hb; clear hb hf; go_simp; (try go_bits); (try rfl); done)); (try simp only [Act.put, List.setIfInBounds_toArray, List.set_cons_zero, List.set_cons_succ]))) | (apply Calm.op_call; (focus rfl); (focus (intro W hb; obtain ⟨hc, hf⟩ := bcell hb; clear hb hf; go_simp; refine ⟨?_, ?_⟩; rfl; rfl)); (focus (intro W hb; first | (go_at_call 56; exact Calm.call_same hb (within_any _ _ _ _)))); (try simp only [Act.put, List.setIfInBounds_toArray, List.set_cons_zero, List.set_cons_succ])))
        refine wpQuiet_nil ?_
        intro w1 hb
        obtain ⟨hbc, hbf⟩ := bcell hb
        have hbz := hb.size
        (try simp at hbz)
        (try have hbz0 : w.heap.size < w1.heap.size := by omega)
        (try have hbz1 : w.heap.size + 1 < w1.heap.size := by omega)
        (try have hbz2 : w.heap.size + 1 + 1 < w1.heap.size := by omega)
        (try have hbz3 : w.heap.size + 1 + 1 + 1 < w1.heap.size := by omega)
        (try have hbz4 : w.heap.size + 1 + 1 + 1 + 1 < w1.heap.size := by omega)
        (try have hbz5 : w.heap.size + 1 + 1 + 1 + 1 + 1 < w1.heap.size := by omega)
        go_wp2_with (first | (go_at_call 53; refine (first2_any _ _ _).mono ?_; rintro r w1 ⟨rfl, rfl⟩))
        go_ret
        refine ⟨ret_i (E0.out.trans (HE.out.trans (if_neg (fun hh => HO.out ⟨?_, ?_⟩))).symm), ?_⟩
        · rw [HX.out]; exact hh.1 _ (getD_mem (by rw [← HN.out]; exact hlt))
        · rw [HY.out]; exact hh.2 _ (getD_mem (by rw [HL.out]; exact hlt))
        · refine hB.trans (Below.mono ?_ hB.size)
          repeat (first | (with_reducible exact Below.refl _ _) | ((with_reducible refine Below.setCell ?_ ?_ _); rotate_left 1; focus (first | (simp; done) | (simp; omega) | (simp at *; omega))) | ((with_reducible refine Below.alloc ?_ ?_ _); rotate_left 1; focus (first | (simp; done) | (simp; omega) | (simp at *; omega))) | (with_reducible refine Below.drew ?_) | ((with_reducible refine Calm.step (by assumption) ?_ ?_); rotate_left 1; focus (first | (simp; done) | (simp; omega) | (simp at *; omega))))
    · clear k1 k2
      go_wp2
      go_ret
      refine ⟨ret_i (HE.out.trans (if_pos ⟨mem_getD fun j hj => ?_, mem_getD fun j hj => ?_⟩)).symm, hB⟩
      · exact (HZ.out j (by rw [← HN.out] at hj; omega)).1
      · exact (HZ.out j (by rw [HL.out] at hj; omega)).2
end Go.Proofs.YtadcmjnebjgijaaGreatDoor

/- Contracts of package driver's readings: levels, and whether a driver fits one. -/
namespace Go.Proofs.YtadcmjnebjgijaaGreatDoor
open Go.RowKit
open Calm (bcell Blk)

def sq (a b : Int) : Int := a * a + b * b
theorem mul_self_nonneg (a : Int) : 0 ≤ a * a := by
  rcases Int.le_total 0 a with h | h
  · exact Int.mul_nonneg h h
  · exact Int.mul_nonneg_of_nonpos_of_nonpos h h
theorem sq_bd {M a b : Int} (h1 : Bd M a) (h2 : Bd M b) (hM : 0 ≤ M) : 0 ≤ sq a b ∧ sq a b ≤ 2 * (M * M) := by
  obtain ⟨_, e1⟩ := h1.mul h1 hM
  obtain ⟨_, e2⟩ := h2.mul h2 hM
  have p1 := mul_self_nonneg a
  have p2 := mul_self_nonneg b
  unfold sq
  omega
theorem square_any (a b : Int) (w : World) (h1 : Bd 1000000000 a) (h2 : Bd 1000000000 b) :
    Calls Tryz.prog 80 #[.agg #[(.int .i64 (a)), (.int .i64 (b))]] w fun r w' => r = .returned (.int .i64 (sq a b)) ∧ Below w.heap.size w w' := by
  obtain ⟨e1, e2⟩ := h1.mul h1 (by omega)
  obtain ⟨e3, e4⟩ := h2.mul h2 (by omega)
  have p1 := mul_self_nonneg a
  have p2 := mul_self_nonneg b
  go_enter Tryz.func80, Tryz.ntmps80
  go_wp2
  go_ret
  refine ⟨rfl, ?_⟩
  repeat (first | (with_reducible exact Below.refl _ _) | ((with_reducible refine Below.setCell ?_ ?_ _); rotate_left 1; focus (first | (simp; done) | (simp; omega) | (simp at *; omega))) | ((with_reducible refine Below.alloc ?_ ?_ _); rotate_left 1; focus (first | (simp; done) | (simp; omega) | (simp at *; omega))) | (with_reducible refine Below.drew ?_) | ((with_reducible refine Calm.step (by assumption) ?_ ?_); rotate_left 1; focus (first | (simp; done) | (simp; omega) | (simp at *; omega))))

/-- the squared absolute value of an impedance, as a quotient. -/
def vN (re le bl ma st lo w : Int) : Int := sq (nRe re le bl ma st lo w) (nIm re le bl ma st lo w)
def vD (ma st lo w : Int) : Int := sq (mRe st ma w) (mIm lo w)
theorem v_bds {re le bl ma st lo w0 : Int} (hF : Fit re le bl ma st lo w0) : (0 ≤ vN re le bl ma st lo w0 ∧ vN re le bl ma st lo w0 ≤ 34426880000000000) ∧ 1 ≤ vD ma st lo w0 ∧ vD ma st lo w0 ≤ 800000000 := by
  obtain ⟨m1, m2⟩ := hF.mech
  obtain ⟨n1, n2⟩ := hF.num
  have h1 := sq_bd n1 n2 (by omega)
  have h2 := sq_bd m1 m2 (by omega)
  refine ⟨⟨h1.1, by have := h1.2; unfold vN; omega⟩, ?_, by have := h2.2; unfold vD; omega⟩
  have p : 1 ≤ mIm lo w0 := by
    have := Int.mul_pos (show 0 < w0 by have := hF.w; omega) (show 0 < lo by have := hF.lo; omega)
    unfold mIm
    omega
  have q : 0 < mIm lo w0 * mIm lo w0 := Int.mul_pos (by omega) (by omega)
  have r := mul_self_nonneg (mRe st ma w0)
  unfold vD sq
  omega
theorem level_any (re le bl ma st lo w0 : Int) (w : World) (hF : Fit re le bl ma st lo w0) :
    Calls Tryz.prog 61 #[.agg #[(.int .i64 (re)), (.int .i64 (le)), (.int .i64 (bl)), (.int .i64 (ma)), (.int .i64 (st)), (.int .i64 (lo))], (.int .i64 (w0))] w fun r w' => r = .returned (.tuple #[(.int .i64 (vN re le bl ma st lo w0)), (.int .i64 (vD ma st lo w0))]) ∧ Below w.heap.size w w' := by
  obtain ⟨⟨m1, m2⟩, ⟨m3, m4⟩⟩ := hF.mech
  obtain ⟨⟨n1, n2⟩, ⟨n3, n4⟩⟩ := hF.num
  go_enter Tryz.func61, Tryz.ntmps61
  go_wp2_with (first | (go_at_call 44; refine (impedance_any _ _ _ _ _ _ _ _ hF).mono ?_; rintro r w1 ⟨rfl, hb⟩; obtain ⟨hc, hf⟩ := bcell hb; have hz := hb.size; (try simp at hz); (try have hz0 : w.heap.size < w1.heap.size := by omega); (try have hz1 : w.heap.size + 1 < w1.heap.size := by omega); (try have hz2 : w.heap.size + 1 + 1 < w1.heap.size := by omega); (try have hz3 : w.heap.size + 1 + 1 + 1 < w1.heap.size := by omega); (try have hz4 : w.heap.size + 1 + 1 + 1 + 1 < w1.heap.size := by omega); (try have hz5 : w.heap.size + 1 + 1 + 1 + 1 + 1 < w1.heap.size := by omega); (try have hz6 : w.heap.size + 1 + 1 + 1 + 1 + 1 + 1 < w1.heap.size := by omega)))
  refine Calm.all_below (by kernel_rfl) (by kernel_rfl) ?_
  repeat (first | (first | (apply Calm.op_move; (focus rfl); (focus (first | exact .inl rfl | exact .inr rfl)); (focus ((try simp only [Act.eval, Array.getD_eq_getD_getElem?, List.getElem?_toArray, List.getElem?_cons_succ, List.getElem?_cons_zero, Option.getD_some]); rfl)); (try simp only [Act.put, List.setIfInBounds_toArray, List.set_cons_zero, List.set_cons_succ])) | (apply Calm.op_not; (focus rfl); (try simp only [Act.put, List.setIfInBounds_toArray, List.set_cons_zero, List.set_cons_succ])) | (apply Calm.op; (focus rfl); (focus (intro W hb; obtain ⟨hc, hf⟩ := bcell hb; clear hb hf; go_simp; (try go_bits); (try rfl); done)); (try simp only [Act.put, List.setIfInBounds_toArray, List.set_cons_zero, List.set_cons_succ]))) | (apply Calm.op_call; (focus rfl); (focus (intro W hb; obtain ⟨hc, hf⟩ := bcell hb; clear hb hf; go_simp; refine ⟨?_, ?_⟩; rfl; rfl)); (focus (intro W hb; first | (go_at_call 80; exact Calm.call_below hb (square_any _ _ _ ⟨by omega, by omega⟩ ⟨by omega, by omega⟩)))); (try simp only [Act.put, List.setIfInBounds_toArray, List.set_cons_zero, List.set_cons_succ])))
  refine wpQuiet_nil ?_
  intro w2 hb2
  obtain ⟨hb2c, hb2f⟩ := bcell hb2
  have hb2z := hb2.size
  (try simp at hb2z)
  (try have hb2z0 : w.heap.size < w2.heap.size := by omega)
  (try have hb2z1 : w.heap.size + 1 < w2.heap.size := by omega)
  (try have hb2z2 : w.heap.size + 1 + 1 < w2.heap.size := by omega)
  (try have hb2z3 : w.heap.size + 1 + 1 + 1 < w2.heap.size := by omega)
  (try have hb2z4 : w.heap.size + 1 + 1 + 1 + 1 < w2.heap.size := by omega)
  (try have hb2z5 : w.heap.size + 1 + 1 + 1 + 1 + 1 < w2.heap.size := by omega)
  go_wp2
  go_ret2
  refine ⟨by simp [vN, vD], ?_⟩
  repeat (first | (with_reducible exact Below.refl _ _) | ((with_reducible refine Below.setCell ?_ ?_ _); rotate_left 1; focus (first | (simp; done) | (simp; omega) | (simp at *; omega))) | ((with_reducible refine Below.alloc ?_ ?_ _); rotate_left 1; focus (first | (simp; done) | (simp; omega) | (simp at *; omega))) | (with_reducible refine Below.drew ?_) | ((with_reducible refine Calm.step (by assumption) ?_ ?_); rotate_left 1; focus (first | (simp; done) | (simp; omega) | (simp at *; omega))))

/-- does a driver fit a reading. -/
def fitB (re le bl ma st lo w a b : Int) : Bool := decide (a * vD ma st lo w ≤ vN re le bl ma st lo w ∧ vN re le bl ma st lo w ≤ b * vD ma st lo w)
set_option maxHeartbeats 1000000 in
theorem fits_any (re le bl ma st lo w0 a b : Int) (w : World) (hF : Fit re le bl ma st lo w0) (ha : 0 ≤ a ∧ a ≤ 1000000) (hb' : 0 ≤ b ∧ b ≤ 1000000) :
    Calls Tryz.prog 83 #[.agg #[(.int .i64 (re)), (.int .i64 (le)), (.int .i64 (bl)), (.int .i64 (ma)), (.int .i64 (st)), (.int .i64 (lo))], .agg #[(.int .i64 (w0)), (.int .i64 (a)), (.int .i64 (b))]] w fun r w' => r = .returned (.bool (fitB re le bl ma st lo w0 a b)) ∧ Below w.heap.size w w' := by
  obtain ⟨⟨v1, v2⟩, v3, v4⟩ := v_bds hF
  have qa : Bd 1000000 a := ⟨by omega, by omega⟩
  have qb : Bd 1000000 b := ⟨by omega, by omega⟩
  have qd : Bd 800000000 (vD ma st lo w0) := ⟨by omega, by omega⟩
  obtain ⟨e1, e2⟩ := qa.mul qd (by omega)
  obtain ⟨e3, e4⟩ := qb.mul qd (by omega)
  clear qa qb qd ha hb'
  by_cases h1 : a * vD ma st lo w0 ≤ vN re le bl ma st lo w0
  · by_cases h2 : vN re le bl ma st lo w0 ≤ b * vD ma st lo w0
    · have hR : fitB re le bl ma st lo w0 a b = true := decide_eq_true ⟨h1, h2⟩
      rw [hR]
      clear hR
      go_enter Tryz.func83, Tryz.ntmps83
      go_wp2_with (first | (go_at_call 61; refine (level_any _ _ _ _ _ _ _ _ hF).mono ?_; rintro r w1 ⟨rfl, hb⟩; obtain ⟨hc, hf⟩ := bcell hb; have hz := hb.size; (try simp at hz); (try have hz0 : w.heap.size < w1.heap.size := by omega); (try have hz1 : w.heap.size + 1 < w1.heap.size := by omega); (try have hz2 : w.heap.size + 1 + 1 < w1.heap.size := by omega); (try have hz3 : w.heap.size + 1 + 1 + 1 < w1.heap.size := by omega); (try have hz4 : w.heap.size + 1 + 1 + 1 + 1 < w1.heap.size := by omega); (try have hz5 : w.heap.size + 1 + 1 + 1 + 1 + 1 < w1.heap.size := by omega); (try have hz6 : w.heap.size + 1 + 1 + 1 + 1 + 1 + 1 < w1.heap.size := by omega)))
      go_ret
      refine ⟨by first | rfl | (simp; omega), ?_⟩
      repeat (first | (with_reducible exact Below.refl _ _) | ((with_reducible refine Below.setCell ?_ ?_ _); rotate_left 1; focus (first | (simp; done) | (simp; omega) | (simp at *; omega))) | ((with_reducible refine Below.alloc ?_ ?_ _); rotate_left 1; focus (first | (simp; done) | (simp; omega) | (simp at *; omega))) | (with_reducible refine Below.drew ?_) | ((with_reducible refine Calm.step (by assumption) ?_ ?_); rotate_left 1; focus (first | (simp; done) | (simp; omega) | (simp at *; omega))))
    · have hR : fitB re le bl ma st lo w0 a b = false := decide_eq_false (fun h => h2 h.2)
      rw [hR]
      clear hR
      go_enter Tryz.func83, Tryz.ntmps83
      go_wp2_with (first | (go_at_call 61; refine (level_any _ _ _ _ _ _ _ _ hF).mono ?_; rintro r w1 ⟨rfl, hb⟩; obtain ⟨hc, hf⟩ := bcell hb; have hz := hb.size; (try simp at hz); (try have hz0 : w.heap.size < w1.heap.size := by omega); (try have hz1 : w.heap.size + 1 < w1.heap.size := by omega); (try have hz2 : w.heap.size + 1 + 1 < w1.heap.size := by omega); (try have hz3 : w.heap.size + 1 + 1 + 1 < w1.heap.size := by omega); (try have hz4 : w.heap.size + 1 + 1 + 1 + 1 < w1.heap.size := by omega); (try have hz5 : w.heap.size + 1 + 1 + 1 + 1 + 1 < w1.heap.size := by omega); (try have hz6 : w.heap.size + 1 + 1 + 1 + 1 + 1 + 1 < w1.heap.size := by omega)))
      go_ret
      refine ⟨by first | rfl | (simp; omega), ?_⟩
      repeat (first | (with_reducible exact Below.refl _ _) | ((with_reducible refine Below.setCell ?_ ?_ _); rotate_left 1; focus (first | (simp; done) | (simp; omega) | (simp at *; omega))) | ((with_reducible refine Below.alloc ?_ ?_ _); rotate_left 1; focus (first | (simp; done) | (simp; omega) | (simp at *; omega))) | (with_reducible refine Below.drew ?_) | ((with_reducible refine Calm.step (by assumption) ?_ ?_); rotate_left 1; focus (first | (simp; done) | (simp; omega) | (simp at *; omega))))
  · have hR : fitB re le bl ma st lo w0 a b = false := decide_eq_false (fun h => h1 h.1)
    rw [hR]
    clear hR
    go_enter Tryz.func83, Tryz.ntmps83
    go_wp2_with (first | (go_at_call 61; refine (level_any _ _ _ _ _ _ _ _ hF).mono ?_; rintro r w1 ⟨rfl, hb⟩; obtain ⟨hc, hf⟩ := bcell hb; have hz := hb.size; (try simp at hz); (try have hz0 : w.heap.size < w1.heap.size := by omega); (try have hz1 : w.heap.size + 1 < w1.heap.size := by omega); (try have hz2 : w.heap.size + 1 + 1 < w1.heap.size := by omega); (try have hz3 : w.heap.size + 1 + 1 + 1 < w1.heap.size := by omega); (try have hz4 : w.heap.size + 1 + 1 + 1 + 1 < w1.heap.size := by omega); (try have hz5 : w.heap.size + 1 + 1 + 1 + 1 + 1 < w1.heap.size := by omega); (try have hz6 : w.heap.size + 1 + 1 + 1 + 1 + 1 + 1 < w1.heap.size := by omega)))
    go_ret
    refine ⟨by first | rfl | (simp; omega), ?_⟩
    repeat (first | (with_reducible exact Below.refl _ _) | ((with_reducible refine Below.setCell ?_ ?_ _); rotate_left 1; focus (first | (simp; done) | (simp; omega) | (simp at *; omega))) | ((with_reducible refine Below.alloc ?_ ?_ _); rotate_left 1; focus (first | (simp; done) | (simp; omega) | (simp at *; omega))) | (with_reducible refine Below.drew ?_) | ((with_reducible refine Calm.step (by assumption) ?_ ?_); rotate_left 1; focus (first | (simp; done) | (simp; omega) | (simp at *; omega))))
end Go.Proofs.YtadcmjnebjgijaaGreatDoor

/- Contracts of package driver's 'kept', as it is used. -/
namespace Go.Proofs.YtadcmjnebjgijaaGreatDoor
open Go.RowKit
open Calm (bcell Blk)

theorem Tryz.infoI : (Tryz.prog.info? 3).map (fun i => (i.zero, i.size, i.bytes)) = some (some (.int .i64 0), 1, 8) := by kernel_rfl

theorem sweepBad_no (x : Int) (w : World) (h : rangeErr x 1 8 = 0) : Calls Tryz.prog 59 #[(.int .i64 (x))] w fun r w' => r = .returned (.bool false) ∧ w = w' := by
  go_enter Tryz.func59, Tryz.ntmps59
  go_wp2_with (first | (go_at_call 60; refine (checkW_any _ _).mono ?_; rintro r w1 ⟨rfl, rfl⟩))
  go_ret
  exact ⟨rfl, rfl⟩
theorem sweepBad_yes (x : Int) (w : World) (h : rangeErr x 1 8 = 3) : Calls Tryz.prog 59 #[(.int .i64 (x))] w fun r w' => r = .returned (.bool true) ∧ w = w' := by
  go_enter Tryz.func59, Tryz.ntmps59
  go_wp2_with (first | (go_at_call 60; refine (checkW_any _ _).mono ?_; rintro r w1 ⟨rfl, rfl⟩))
  go_ret
  exact ⟨rfl, rfl⟩

/-- a slice of n elements is handed back. -/
def SomeLen (n : Nat) (w : World) (e : Ending) (w' : World) : Prop := ∃ A c, e = .returned (.slice A n c) ∧ Below w.heap.size w w'
def keptBad (zs : List Int) : List Int := zs.filter (fun x => rangeErr x 1 8 != 0)
theorem keptBad_succ {zs : List Int} {k : Nat} (hk : k < zs.length) : keptBad (zs.take (k + 1)) = keptBad (zs.take k) ++ (if rangeErr (zs.getD k 0) 1 8 = 0 then [] else [zs.getD k 0]) := by
  rw [List.take_succ_eq_append_getElem hk]
  simp only [keptBad, List.filter_append, List.getD_eq_getElem?_getD, List.getElem?_eq_getElem hk, Option.getD_some]
  by_cases h : rangeErr zs[k] 1 8 = 0 <;> simp [h]
theorem keptBad_le (zs : List Int) (k : Nat) : (keptBad (zs.take k)).length ≤ k := Nat.le_trans (List.length_filter_le _ _) (List.length_take_le _ _)

set_option maxHeartbeats 2000000 in
set_option maxRecDepth 100000 in
theorem keptBad_any (A : Option Addr) (zs : List Int) (c : Nat) (w : World) (hC : Cells w A zs) (hn : zs.length ≤ 100000) :
    Calls Tryz.prog 58 #[.slice A zs.length c, .func (.func 59) #[] #[]] w (SomeLen (keptBad zs).length w) := by
  obtain ⟨i0, hi, hz0, hz1, hz2⟩ := info_parts Tryz.infoI
  go_enter Tryz.func58, Tryz.ntmps58
  go_wp2
  go_loopw [5, 10] (fun v i wr => ∃ k : Nat, k ≤ zs.length ∧ i = (.int .i64 (k)) ∧ wr.ownsRow w.heap.size 3 1 v (keptBad (zs.take k)).length ((keptBad (zs.take k)).map (Value.int .i64)) ∧ Below w.heap.size w wr) (fun _ i _ => zs.length - (intOf i).toNat)
  case atStart => exact ⟨0, Nat.zero_le _, rfl, World.ownsRow_nil _ _ _ _, Below.refl _ _⟩
  case round =>
    obtain ⟨k, hk, rfl, hown, hB⟩ := hrel
    have hle := keptBad_le zs k
    by_cases hlt : k < zs.length
    · obtain ⟨b, o, rfl, l1, k1⟩ := hC (by omega)
      have x1 : wr.cell? ⟨b, o + k, none⟩ = some (.int .i64 (zs.getD k 0)) := (hB.cell (p := ⟨b, o + k, none⟩) l1).trans (k1 k hlt)
      have hs := keptBad_succ hlt
      clear k1 hC
      obtain ⟨x, hx⟩ : ∃ x, x = zs.getD k 0 := ⟨_, rfl⟩
      rw [← hx] at x1 hs
      clear hx
      rcases rangeErr_cases x 1 8 with ⟨h0, _, _⟩ | ⟨h0, _⟩
      · rw [if_pos h0, List.append_nil] at hs
        have HS := Lib.hid hs
        clear hs
        go_wp2_with (go_at_call 59; refine (sweepBad_no _ _ h0).mono ?_; rintro r w2 ⟨rfl, rfl⟩)
        go_roundw
        case rel => exact ⟨k + 1, by omega, by go_num, by rw [HS.out]; exact hown, hB⟩
        case measure => simp [intOf]; omega
      · rw [if_neg (by omega)] at hs
        have HS := Lib.hid hs
        clear hs
        go_wp2_with (first
          | (go_at_call 59; refine (sweepBad_yes _ _ h0).mono ?_; rintro r w2 ⟨rfl, rfl⟩)
          | (at_builtin; refine wpList_append_own _ rfl _ _ 67 rfl w.heap.size 3 i0 (.int .i64 0) 1 8 Tryz.underlying67 hi hz0 hz1 hz2 rfl (by decide) _ _ _ rfl (hown.alloc _) ⟨wr.heap.size, 0, none⟩ 1 1 [.int .i64 x] rfl rfl ?c1 ?c2 ?c3 ?c4 ?c5 ?_))
        case c1 =>
          intro j u hj
          match j, hj with
          | 0, hj => simp at hj; subst hj; simp [Addr.add]
        case c2 => intro u hu; simp at hu; subst hu; rfl
        case c3 => unfold maxLen; omega
        case c4 => omega
        case c5 => have := hB.size; simp; omega
        intro v' w1 hown' hgrow _
        have hsz := hB.size
        have hB' : Below w.heap.size w w1 := (hB.alloc hsz _).grown hgrow (by simp; omega) (fun j hj => (hown.lt j hj).1)
        clear hgrow
        go_wp2
        go_roundw
        case rel => exact ⟨k + 1, by omega, by go_num, by rw [HS.out]; simpa using hown', hB'⟩
        case measure => simp [intOf]; omega
    · obtain rfl : k = zs.length := by omega
      have e : zs.take zs.length = zs := List.take_length
      rw [e] at hown
      go_wp2
      go_ret
      rcases hown.2 with ⟨rfl, h⟩ | ⟨g, cap, cur, rfl, _⟩
      · have h1 := hown.1
        have : (keptBad zs).length = 0 := by simp [h]
        exact ⟨none, 0, by rw [this]; rfl, hB⟩
      · exact ⟨_, _, rfl, hB⟩
end Go.Proofs.YtadcmjnebjgijaaGreatDoor

/- Contracts of package driver's 'kept' over readings, and of 'explains'. -/
namespace Go.Proofs.YtadcmjnebjgijaaGreatDoor
open Go.RowKit
open Calm (bcell Blk)

theorem ownsRow_below {w w' : World} {B e size n : Nat} {v : Value} {xs : List Value} (h : w.ownsRow B e size v n xs) (hb : Below w.heap.size w w') : w'.ownsRow B e size v n xs := by
  refine ⟨h.1, ?_⟩
  rcases h.2 with hn | ⟨g, cap, cur, rfl, hg, hgg, rest⟩
  · exact .inl hn
  · exact .inr ⟨g, cap, cur, rfl, hg, by rw [hb.block g (Array.getElem?_eq_some_iff.1 hgg).1]; exact hgg, rest⟩

theorem readErr_zero {a b c : Int} (h : readErr a b c = 0) : (1 ≤ a ∧ a ≤ 8) ∧ (0 ≤ b ∧ b ≤ 1000000) ∧ (0 ≤ c ∧ c ≤ 1000000) ∧ b ≤ c := by
  unfold readErr at h
  have h1 := firstOf_eq_zero.1 h
  simp only [List.mem_cons, List.not_mem_nil, or_false, forall_eq_or_imp, forall_eq, rangeErr_zero] at h1
  obtain ⟨h1, h2, h3, h4⟩ := h1
  refine ⟨h1, h2, h3, ?_⟩
  by_cases hh : c < b
  · rw [if_pos hh] at h4; omega
  · omega
theorem fit_of {re le bl ma st lo w0 : Int} (hd : drvErr re le bl ma st lo = 0) (hw : 1 ≤ w0 ∧ w0 ≤ 8) : Fit re le bl ma st lo w0 := by
  refine drvn_fit ?_
  unfold drvnErr
  refine firstOf_eq_zero.2 ?_
  simp only [List.mem_cons, List.not_mem_nil, or_false, forall_eq_or_imp, forall_eq, rangeErr_zero]
  exact ⟨hd, hw⟩

theorem Tryz.infoR : (Tryz.prog.info? 76).map (fun i => (i.zero, i.size, i.bytes)) = some (some (.agg #[.int .i64 0, .int .i64 0, .int .i64 0]), 3, 24) := by kernel_rfl

/-- the readings that a driver fits. -/
def keptFit (re le bl ma st lo : Int) (zs : List (Int × Int × Int)) : List (Int × Int × Int) := zs.filter (fun r => fitB re le bl ma st lo r.1 r.2.1 r.2.2)
def flat3 (zs : List (Int × Int × Int)) : List Value := zs.flatMap fun r => [(.int .i64 (r.1)), (.int .i64 (r.2.1)), (.int .i64 (r.2.2))]
theorem flat3_append (a b : List (Int × Int × Int)) : flat3 (a ++ b) = flat3 a ++ flat3 b := by simp [flat3]
theorem keptFit_succ (re le bl ma st lo : Int) {zs : List (Int × Int × Int)} {k : Nat} (hk : k < zs.length) : keptFit re le bl ma st lo (zs.take (k + 1)) = keptFit re le bl ma st lo (zs.take k) ++ (if fitB re le bl ma st lo (zs.getD k (0, 0, 0)).1 (zs.getD k (0, 0, 0)).2.1 (zs.getD k (0, 0, 0)).2.2 = true then [zs.getD k (0, 0, 0)] else []) := by
  rw [List.take_succ_eq_append_getElem hk]
  simp only [keptFit, List.filter_append, List.getD_eq_getElem?_getD, List.getElem?_eq_getElem hk, Option.getD_some]
  by_cases h : fitB re le bl ma st lo zs[k].1 zs[k].2.1 zs[k].2.2 = true <;> simp [h]
theorem keptFit_le (re le bl ma st lo : Int) (zs : List (Int × Int × Int)) (k : Nat) : (keptFit re le bl ma st lo (zs.take k)).length ≤ k := Nat.le_trans (List.length_filter_le _ _) (List.length_take_le _ _)

set_option maxHeartbeats 4000000 in
set_option maxRecDepth 100000 in
theorem keptFit_any (re le bl ma st lo : Int) (A : Option Addr) (zs : List (Int × Int × Int)) (c : Nat) (w : World) (hd : drvErr re le bl ma st lo = 0) (hC : RCells w A zs) (hn : zs.length ≤ 1000) (hz : ∀ k, k < zs.length → readErr (zs.getD k (0, 0, 0)).1 (zs.getD k (0, 0, 0)).2.1 (zs.getD k (0, 0, 0)).2.2 = 0) :
    Calls Tryz.prog 82 #[.slice A zs.length c, .func (.func 83) #[.agg #[(.int .i64 (re)), (.int .i64 (le)), (.int .i64 (bl)), (.int .i64 (ma)), (.int .i64 (st)), (.int .i64 (lo))]] #[]] w (SomeLen (keptFit re le bl ma st lo zs).length w) := by
  obtain ⟨i0, hi, hz0, hz1, hz2⟩ := info_parts Tryz.infoR
  have HZ := Lib.hid hz
  have HC := Lib.hid hC
  have HD := Lib.hid hd
  clear hz hC hd
  go_enter Tryz.func82, Tryz.ntmps82
  go_wp2
  go_loopw [5, 10] (fun v i wr => ∃ k : Nat, k ≤ zs.length ∧ i = (.int .i64 (k)) ∧ wr.ownsRow w.heap.size 76 3 v (keptFit re le bl ma st lo (zs.take k)).length (flat3 (keptFit re le bl ma st lo (zs.take k))) ∧ Below w.heap.size w wr) (fun _ i _ => zs.length - (intOf i).toNat)
  case atStart => exact ⟨0, Nat.zero_le _, rfl, World.ownsRow_nil _ _ _ _, Below.refl _ _⟩
  case round =>
    obtain ⟨k, hk, rfl, hown, hB⟩ := hrel
    have hle := keptFit_le re le bl ma st lo zs k
    have hsz := hB.size
    by_cases hlt : k < zs.length
    · have hE := HZ.out k hlt
      obtain ⟨b, o, rfl, l1, k1⟩ := HC.out (by omega)
      obtain ⟨x1, x2, x3⟩ := k1 k hlt
      have x1 := (hB.cell (p := ⟨b, o + k * 3, none⟩) l1).trans x1
      have x2 := (hB.cell (p := ⟨b, o + k * 3 + 1, none⟩) l1).trans x2
      have x3 := (hB.cell (p := ⟨b, o + k * 3 + 2, none⟩) l1).trans x3
      have hs := keptFit_succ re le bl ma st lo hlt
      clear k1
      obtain ⟨⟨x, y, z⟩, hx⟩ : ∃ x, x = zs.getD k (0, 0, 0) := ⟨_, rfl⟩
      rw [← hx] at x1 x2 x3 hE hs
      clear hx
      simp only [] at x1 x2 x3 hE hs
      obtain ⟨q1, q2, q3, _⟩ := readErr_zero hE
      have hF := fit_of HD.out q1
      clear hE
      cases hf : fitB re le bl ma st lo x y z
      · rw [hf, if_neg (by simp), List.append_nil] at hs
        have HS := Lib.hid hs
        have HO := Lib.hid hown
        clear hs hown
        go_wp2_with (go_at_call 83; refine (fits_any re le bl ma st lo x y z _ hF q2 q3).mono ?_; rw [hf]; rintro r w1 ⟨rfl, hb⟩; obtain ⟨hc, hff⟩ := bcell hb; have hz := hb.size; (try simp at hz))
        go_roundw
        case rel => exact ⟨k + 1, by omega, by go_num, by rw [HS.out]; exact ownsRow_below HO.out (Below.trans ((Below.refl _ _).alloc (Nat.le_refl _) _) (Below.mono hb (by simp))), hB.trans (Below.mono (by (repeat (first | (with_reducible exact Below.refl _ _) | ((with_reducible refine Below.setCell ?_ ?_ _); rotate_left 1; focus (first | (simp; done) | (simp; omega) | (simp at *; omega))) | ((with_reducible refine Below.alloc ?_ ?_ _); rotate_left 1; focus (first | (simp; done) | (simp; omega) | (simp at *; omega))) | (with_reducible refine Below.drew ?_) | ((with_reducible refine Calm.step (by assumption) ?_ ?_); rotate_left 1; focus (first | (simp; done) | (simp; omega) | (simp at *; omega)))))) hsz)⟩
        case measure => simp [intOf]; omega
      · rw [hf, if_pos rfl] at hs
        have HS := Lib.hid hs
        have HO := Lib.hid hown
        clear hs hown
        go_wp2_with (first
          | (go_at_call 83; refine (fits_any re le bl ma st lo x y z _ hF q2 q3).mono ?_; rw [hf]; rintro r w1 ⟨rfl, hb⟩; obtain ⟨hc, hff⟩ := bcell hb; have hz := hb.size; (try simp at hz); have ho1 := ownsRow_below HO.out (Below.trans ((Below.refl _ _).alloc (Nat.le_refl _) _) (Below.mono hb (by simp))))
          | (at_builtin; refine wpList_append_own _ rfl _ _ 64 rfl w.heap.size 76 i0 _ 3 24 Tryz.underlying64 hi hz0 hz1 hz2 rfl (by decide) _ _ _ rfl (ho1.alloc _) ⟨w1.heap.size, 0, none⟩ 1 1 [(.int .i64 (x)), (.int .i64 (y)), (.int .i64 (z))] rfl rfl ?c1 ?c2 ?c3 ?c4 ?c5 ?_))
        case c1 =>
          intro j u hj
          match j, hj with
          | 0, hj => simp at hj; subst hj; simp [Addr.add]
          | 1, hj => simp at hj; subst hj; simp [Addr.add]
          | 2, hj => simp at hj; subst hj; simp [Addr.add]
        case c2 => intro u hu; simp at hu; rcases hu with rfl | rfl | rfl <;> rfl
        case c3 => unfold maxLen; omega
        case c4 => omega
        case c5 => simp; omega
        intro v' w2 hown' hgrow _
        have hB1 : Below w.heap.size w w1 := hB.trans (Below.mono (by (repeat (first | (with_reducible exact Below.refl _ _) | ((with_reducible refine Below.setCell ?_ ?_ _); rotate_left 1; focus (first | (simp; done) | (simp; omega) | (simp at *; omega))) | ((with_reducible refine Below.alloc ?_ ?_ _); rotate_left 1; focus (first | (simp; done) | (simp; omega) | (simp at *; omega))) | (with_reducible refine Below.drew ?_) | ((with_reducible refine Calm.step (by assumption) ?_ ?_); rotate_left 1; focus (first | (simp; done) | (simp; omega) | (simp at *; omega)))))) hsz)
        have hB' : Below w.heap.size w w2 := (hB1.alloc (by omega) _).grown hgrow (by simp; omega) (fun j hj => (HO.out.lt j hj).1)
        clear hgrow
        go_wp2
        go_roundw
        case rel => exact ⟨k + 1, by omega, by go_num, by rw [HS.out, flat3_append]; simpa [flat3] using hown', hB'⟩
        case measure => simp [intOf]; omega
    · obtain rfl : k = zs.length := by omega
      have e : zs.take zs.length = zs := List.take_length
      rw [e] at hown
      go_wp2
      go_ret
      rcases hown.2 with ⟨rfl, h⟩ | ⟨g, cap, cur, rfl, _⟩
      · have h1 := hown.1
        exact ⟨none, 0, by rw [h]; rfl, hB⟩
      · exact ⟨_, _, rfl, hB⟩
end Go.Proofs.YtadcmjnebjgijaaGreatDoor

/- Contracts of 'explains' and 'Explains'. -/
namespace Go.Proofs.YtadcmjnebjgijaaGreatDoor
open Go.RowKit
open Calm (bcell Blk)

/-- does a driver explain all readings. -/
def explB (re le bl ma st lo : Int) (zs : List (Int × Int × Int)) : Bool := zs.all fun r => fitB re le bl ma st lo r.1 r.2.1 r.2.2
theorem explB_len (re le bl ma st lo : Int) (zs : List (Int × Int × Int)) : explB re le bl ma st lo zs = decide ((keptFit re le bl ma st lo zs).length = zs.length) := by
  unfold explB keptFit
  by_cases h : (zs.filter fun r => fitB re le bl ma st lo r.1 r.2.1 r.2.2).length = zs.length
  · rw [decide_eq_true h, List.all_eq_true]
    exact List.length_filter_eq_length_iff.1 h
  · rw [decide_eq_false h, Bool.eq_false_iff]
    intro h2
    exact h (List.length_filter_eq_length_iff.2 (List.all_eq_true.1 h2))
set_option maxHeartbeats 1000000 in
theorem explains_any (re le bl ma st lo : Int) (A : Option Addr) (zs : List (Int × Int × Int)) (c : Nat) (w : World) (hd : drvErr re le bl ma st lo = 0) (hC : RCells w A zs) (hn : zs.length ≤ 1000) (hz : ∀ k, k < zs.length → readErr (zs.getD k (0, 0, 0)).1 (zs.getD k (0, 0, 0)).2.1 (zs.getD k (0, 0, 0)).2.2 = 0) :
    Calls Tryz.prog 65 #[.agg #[(.int .i64 (re)), (.int .i64 (le)), (.int .i64 (bl)), (.int .i64 (ma)), (.int .i64 (st)), (.int .i64 (lo))], .slice A zs.length c] w fun r w' => r = .returned (.bool (explB re le bl ma st lo zs)) ∧ Below w.heap.size w w' := by
  have hle := keptFit_le re le bl ma st lo zs zs.length
  rw [List.take_length] at hle
  rw [explB_len]
  have HZ := Lib.hid hz
  have HC := Lib.hid hC
  have HD := Lib.hid hd
  clear hz hC hd
  obtain ⟨m, hm⟩ : ∃ m, m = (keptFit re le bl ma st lo zs).length := ⟨_, rfl⟩
  have HM := Lib.hid hm
  rw [← hm] at hle ⊢
  clear hm
  by_cases hq : m = zs.length
  · rw [decide_eq_true hq]
    go_enter Tryz.func65, Tryz.ntmps65
    go_wp2_with (go_at_call 82; refine (keptFit_any re le bl ma st lo A zs c _ HD.out (HC.out.below (by (repeat (first | (with_reducible exact Below.refl _ _) | ((with_reducible refine Below.setCell ?_ ?_ _); rotate_left 1; focus (first | (simp; done) | (simp; omega) | (simp at *; omega))) | ((with_reducible refine Below.alloc ?_ ?_ _); rotate_left 1; focus (first | (simp; done) | (simp; omega) | (simp at *; omega))) | (with_reducible refine Below.drew ?_) | ((with_reducible refine Calm.step (by assumption) ?_ ?_); rotate_left 1; focus (first | (simp; done) | (simp; omega) | (simp at *; omega))))))) hn HZ.out).mono ?_; rw [← HM.out]; rintro r w1 ⟨A1, c1, rfl, hb⟩; obtain ⟨hc, hff⟩ := bcell hb)
    go_ret
    refine ⟨by first | rfl | (simp; done), ?_⟩
    repeat (first | (with_reducible exact Below.refl _ _) | ((with_reducible refine Below.setCell ?_ ?_ _); rotate_left 1; focus (first | (simp; done) | (simp; omega) | (simp at *; omega))) | ((with_reducible refine Below.alloc ?_ ?_ _); rotate_left 1; focus (first | (simp; done) | (simp; omega) | (simp at *; omega))) | (with_reducible refine Below.drew ?_) | ((with_reducible refine Calm.step (by assumption) ?_ ?_); rotate_left 1; focus (first | (simp; done) | (simp; omega) | (simp at *; omega))))
  · rw [decide_eq_false hq]
    go_enter Tryz.func65, Tryz.ntmps65
    go_wp2_with (go_at_call 82; refine (keptFit_any re le bl ma st lo A zs c _ HD.out (HC.out.below (by (repeat (first | (with_reducible exact Below.refl _ _) | ((with_reducible refine Below.setCell ?_ ?_ _); rotate_left 1; focus (first | (simp; done) | (simp; omega) | (simp at *; omega))) | ((with_reducible refine Below.alloc ?_ ?_ _); rotate_left 1; focus (first | (simp; done) | (simp; omega) | (simp at *; omega))) | (with_reducible refine Below.drew ?_) | ((with_reducible refine Calm.step (by assumption) ?_ ?_); rotate_left 1; focus (first | (simp; done) | (simp; omega) | (simp at *; omega))))))) hn HZ.out).mono ?_; rw [← HM.out]; rintro r w1 ⟨A1, c1, rfl, hb⟩; obtain ⟨hc, hff⟩ := bcell hb)
    go_ret
    refine ⟨by first | rfl | (simp; omega), ?_⟩
    repeat (first | (with_reducible exact Below.refl _ _) | ((with_reducible refine Below.setCell ?_ ?_ _); rotate_left 1; focus (first | (simp; done) | (simp; omega) | (simp at *; omega))) | ((with_reducible refine Below.alloc ?_ ?_ _); rotate_left 1; focus (first | (simp; done) | (simp; omega) | (simp at *; omega))) | (with_reducible refine Below.drew ?_) | ((with_reducible refine Calm.step (by assumption) ?_ ?_); rotate_left 1; focus (first | (simp; done) | (simp; omega) | (simp at *; omega))))
set_option maxHeartbeats 1000000 in
theorem readErrs_all {zs : List (Int × Int × Int)} (h : firstOf (readErrs zs) = 0) : ∀ k, k < zs.length → readErr (zs.getD k (0, 0, 0)).1 (zs.getD k (0, 0, 0)).2.1 (zs.getD k (0, 0, 0)).2.2 = 0 := by
  intro k hk
  have h1 := firstOf_eq_zero.1 h
  rw [List.getD_eq_getElem?_getD, List.getElem?_eq_getElem hk]
  exact h1 _ (List.mem_map.2 ⟨zs[k], List.getElem_mem hk, rfl⟩)
/-- the first error of a driver and readings. -/
def explErr (re le bl ma st lo : Int) (zs : List (Int × Int × Int)) : Int := firstOf [drvErr re le bl ma st lo, readsErr zs]
theorem checkReadings_any (A : Option Addr) (zs : List (Int × Int × Int)) (c : Nat) (w : World) (hC : RCells w A zs) (hn : zs.length ≤ 1000) :
    Calls Tryz.prog 63 #[.slice A zs.length c] w fun r w' => r = .returned (.int .i64 (readsErr zs)) ∧ Below w.heap.size w w' := by
  unfold readsErr
  by_cases h : 32 < zs.length
  · rw [if_pos h]
    refine (checkReadings_long A zs.length c w h (by omega)).mono ?_
    rintro r w' ⟨rfl, rfl⟩
    exact ⟨rfl, Below.refl _ _⟩
  · rw [if_neg h]
    exact checkReadings_len A zs c w hC (by omega)
end Go.Proofs.YtadcmjnebjgijaaGreatDoor

/- The walk of Calm, its goal behind a name of its own: a goal 'wpQuiet ..' unfolds by itself over operations that are passed over, which is slow. -/
namespace Go.Proofs.YtadcmjnebjgijaaGreatDoor.Calm
open Go.RowKit

section
variable {P : Program} {ops : Array Oper} {C : World → Prop}
structure Still (P : Program) (ops : Array Oper) (C : World → Prop) (Q : Act → Prop) (rest : List Oper) (a : Act) : Prop where
  h : wpQuiet P ops C Q rest a
theorem still_op {Q : Act → Prop} {a : Act} {o : Oper} {rest : List Oper} (v : Value) (hw : Region.wanted o (yielded ops a.tmps) = true) (h : ∀ w, C w → (execOp a.eval o).run P w = .ok (.value v) w)
    (hn : Still P ops C Q rest (a.put o.dst v)) : Still P ops C Q (o :: rest) a := ⟨op v hw h hn.h⟩
theorem still_op_move {Q : Act → Prop} {a : Act} {o : Oper} {rest : List Oper} (v : Value) (x : Operand) (hw : Region.wanted o (yielded ops a.tmps) = true) (ho : o.op = .move x ∨ o.op = .assign x) (hv : a.eval x = v)
    (hn : Still P ops C Q rest (a.put o.dst v)) : Still P ops C Q (o :: rest) a := ⟨op_move v x hw ho hv hn.h⟩
theorem still_op_not {Q : Act → Prop} {a : Act} {o : Oper} {rest : List Oper} (hw : Region.wanted o (yielded ops a.tmps) = false) (hn : Still P ops C Q rest (a.put o.dst undef)) : Still P ops C Q (o :: rest) a := ⟨op_not hw hn.h⟩
theorem still_op_call {Q : Act → Prop} {a : Act} {o : Oper} {rest : List Oper} (v : Value) (f : FuncId) (args : Array Value) (hw : Region.wanted o (yielded ops a.tmps) = true) (h : ∀ w, C w → (execOp a.eval o).run P w = .ok (.enter f args) w)
    (hc : ∀ w, C w → Calls P f args w fun e w' => e = .returned v ∧ C w') (hn : Still P ops C Q rest (a.put o.dst v)) : Still P ops C Q (o :: rest) a := ⟨op_call v f args hw h hc hn.h⟩
theorem still_nil {Q : Act → Prop} {a : Act} (h : Q a) : Still P ops C Q [] a := ⟨wpQuiet_nil h⟩
theorem still_tail {id : Nat} {Q : Exit → Act → World → Prop} {a : Act} {w : World} {l : List Oper} (n : Nat) (hm : P.follows .mixedOrders = true) (hB : Region.lexTailB .any l.toArray n = true)
    (h : Still P l.toArray (fun W => Below w.heap.size w W) (fun a' => ∀ w', Below w.heap.size w w' → wpList P l.toArray Q (l.drop n) a' w') (l.take n) a) : (Code.region id l.toArray true).wp P Q a w :=
  tail_below n hm hB h.h
theorem still_all {id : Nat} {Q : Exit → Act → World → Prop} {a : Act} {w : World} {l : List Oper} (hm : P.follows .mixedOrders = true) (hB : Region.lexB .any l.toArray = true)
    (h : Still P l.toArray (fun W => Below w.heap.size w W) (fun a' => ∀ w', Below w.heap.size w w' → Q .normal a' w') l a) : (Code.region id l.toArray true).wp P Q a w :=
  all_below hm hB h.h
end
end Go.Proofs.YtadcmjnebjgijaaGreatDoor.Calm
