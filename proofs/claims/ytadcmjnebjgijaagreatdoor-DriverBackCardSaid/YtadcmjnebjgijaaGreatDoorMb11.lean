/- Part 11 of the texts of the claim: Opn, T5, T3, C1, T6, T7, Rel3. -/
import Derived.Test.YtadcmjnebjgijaaGreatDoorMb1
import Derived.Test.YtadcmjnebjgijaaGreatDoorMb4
import Derived.Test.YtadcmjnebjgijaaGreatDoorMb10
import Derived.BigRegion
import Derived.RegionTactic
import Derived.ChangeAlike
import Derived.Laws.AppendOwn
import Derived.Test.YtadcmjnebjgijaaGreatDoorMb6
import Derived.Test.YtadcmjnebjgijaaGreatDoorMb9
import Derived.ChangeKeysEq
import Derived.Test.YtadcmjnebjgijaaGreatDoorMb5
import Derived.ArgAppend

/- A block known whole, opened: its cells, its place, its marks. No program. -/
namespace Go.Proofs.YtadcmjnebjgijaaGreatDoor.Calm
theorem Blk.o1 {w : World} {g : Nat} {a0 : Value} (h : Blk w g #[a0]) : w.cell? ⟨g, 0, none⟩ = some a0 ∧ g < w.heap.size ∧ ∀ i, w.frozen? ⟨g, i, none⟩ = false :=
  ⟨h.cell 0 _ rfl, h.lt, h.f⟩
theorem Blk.o2 {w : World} {g : Nat} {a0 a1 : Value} (h : Blk w g #[a0, a1]) : w.cell? ⟨g, 0, none⟩ = some a0 ∧ w.cell? ⟨g, 1, none⟩ = some a1 ∧ g < w.heap.size ∧ ∀ i, w.frozen? ⟨g, i, none⟩ = false :=
  ⟨h.cell 0 _ rfl, h.cell 1 _ rfl, h.lt, h.f⟩
theorem Blk.o3 {w : World} {g : Nat} {a0 a1 a2 : Value} (h : Blk w g #[a0, a1, a2]) : w.cell? ⟨g, 0, none⟩ = some a0 ∧ w.cell? ⟨g, 1, none⟩ = some a1 ∧ w.cell? ⟨g, 2, none⟩ = some a2 ∧ g < w.heap.size ∧ ∀ i, w.frozen? ⟨g, i, none⟩ = false :=
  ⟨h.cell 0 _ rfl, h.cell 1 _ rfl, h.cell 2 _ rfl, h.lt, h.f⟩
theorem Blk.o4 {w : World} {g : Nat} {a0 a1 a2 a3 : Value} (h : Blk w g #[a0, a1, a2, a3]) : w.cell? ⟨g, 0, none⟩ = some a0 ∧ w.cell? ⟨g, 1, none⟩ = some a1 ∧ w.cell? ⟨g, 2, none⟩ = some a2 ∧ w.cell? ⟨g, 3, none⟩ = some a3 ∧ g < w.heap.size ∧ ∀ i, w.frozen? ⟨g, i, none⟩ = false :=
  ⟨h.cell 0 _ rfl, h.cell 1 _ rfl, h.cell 2 _ rfl, h.cell 3 _ rfl, h.lt, h.f⟩
theorem Blk.o5 {w : World} {g : Nat} {a0 a1 a2 a3 a4 : Value} (h : Blk w g #[a0, a1, a2, a3, a4]) : w.cell? ⟨g, 0, none⟩ = some a0 ∧ w.cell? ⟨g, 1, none⟩ = some a1 ∧ w.cell? ⟨g, 2, none⟩ = some a2 ∧ w.cell? ⟨g, 3, none⟩ = some a3 ∧ w.cell? ⟨g, 4, none⟩ = some a4 ∧ g < w.heap.size ∧ ∀ i, w.frozen? ⟨g, i, none⟩ = false :=
  ⟨h.cell 0 _ rfl, h.cell 1 _ rfl, h.cell 2 _ rfl, h.cell 3 _ rfl, h.cell 4 _ rfl, h.lt, h.f⟩
theorem Blk.o6 {w : World} {g : Nat} {a0 a1 a2 a3 a4 a5 : Value} (h : Blk w g #[a0, a1, a2, a3, a4, a5]) : w.cell? ⟨g, 0, none⟩ = some a0 ∧ w.cell? ⟨g, 1, none⟩ = some a1 ∧ w.cell? ⟨g, 2, none⟩ = some a2 ∧ w.cell? ⟨g, 3, none⟩ = some a3 ∧ w.cell? ⟨g, 4, none⟩ = some a4 ∧ w.cell? ⟨g, 5, none⟩ = some a5 ∧ g < w.heap.size ∧ ∀ i, w.frozen? ⟨g, i, none⟩ = false :=
  ⟨h.cell 0 _ rfl, h.cell 1 _ rfl, h.cell 2 _ rfl, h.cell 3 _ rfl, h.cell 4 _ rfl, h.cell 5 _ rfl, h.lt, h.f⟩
theorem Blk.o7 {w : World} {g : Nat} {a0 a1 a2 a3 a4 a5 a6 : Value} (h : Blk w g #[a0, a1, a2, a3, a4, a5, a6]) : w.cell? ⟨g, 0, none⟩ = some a0 ∧ w.cell? ⟨g, 1, none⟩ = some a1 ∧ w.cell? ⟨g, 2, none⟩ = some a2 ∧ w.cell? ⟨g, 3, none⟩ = some a3 ∧ w.cell? ⟨g, 4, none⟩ = some a4 ∧ w.cell? ⟨g, 5, none⟩ = some a5 ∧ w.cell? ⟨g, 6, none⟩ = some a6 ∧ g < w.heap.size ∧ ∀ i, w.frozen? ⟨g, i, none⟩ = false :=
  ⟨h.cell 0 _ rfl, h.cell 1 _ rfl, h.cell 2 _ rfl, h.cell 3 _ rfl, h.cell 4 _ rfl, h.cell 5 _ rfl, h.cell 6 _ rfl, h.lt, h.f⟩
theorem Blk.o8 {w : World} {g : Nat} {a0 a1 a2 a3 a4 a5 a6 a7 : Value} (h : Blk w g #[a0, a1, a2, a3, a4, a5, a6, a7]) : w.cell? ⟨g, 0, none⟩ = some a0 ∧ w.cell? ⟨g, 1, none⟩ = some a1 ∧ w.cell? ⟨g, 2, none⟩ = some a2 ∧ w.cell? ⟨g, 3, none⟩ = some a3 ∧ w.cell? ⟨g, 4, none⟩ = some a4 ∧ w.cell? ⟨g, 5, none⟩ = some a5 ∧ w.cell? ⟨g, 6, none⟩ = some a6 ∧ w.cell? ⟨g, 7, none⟩ = some a7 ∧ g < w.heap.size ∧ ∀ i, w.frozen? ⟨g, i, none⟩ = false :=
  ⟨h.cell 0 _ rfl, h.cell 1 _ rfl, h.cell 2 _ rfl, h.cell 3 _ rfl, h.cell 4 _ rfl, h.cell 5 _ rfl, h.cell 6 _ rfl, h.cell 7 _ rfl, h.lt, h.f⟩
theorem Blk.o9 {w : World} {g : Nat} {a0 a1 a2 a3 a4 a5 a6 a7 a8 : Value} (h : Blk w g #[a0, a1, a2, a3, a4, a5, a6, a7, a8]) : w.cell? ⟨g, 0, none⟩ = some a0 ∧ w.cell? ⟨g, 1, none⟩ = some a1 ∧ w.cell? ⟨g, 2, none⟩ = some a2 ∧ w.cell? ⟨g, 3, none⟩ = some a3 ∧ w.cell? ⟨g, 4, none⟩ = some a4 ∧ w.cell? ⟨g, 5, none⟩ = some a5 ∧ w.cell? ⟨g, 6, none⟩ = some a6 ∧ w.cell? ⟨g, 7, none⟩ = some a7 ∧ w.cell? ⟨g, 8, none⟩ = some a8 ∧ g < w.heap.size ∧ ∀ i, w.frozen? ⟨g, i, none⟩ = false :=
  ⟨h.cell 0 _ rfl, h.cell 1 _ rfl, h.cell 2 _ rfl, h.cell 3 _ rfl, h.cell 4 _ rfl, h.cell 5 _ rfl, h.cell 6 _ rfl, h.cell 7 _ rfl, h.cell 8 _ rfl, h.lt, h.f⟩
theorem Blk.o10 {w : World} {g : Nat} {a0 a1 a2 a3 a4 a5 a6 a7 a8 a9 : Value} (h : Blk w g #[a0, a1, a2, a3, a4, a5, a6, a7, a8, a9]) : w.cell? ⟨g, 0, none⟩ = some a0 ∧ w.cell? ⟨g, 1, none⟩ = some a1 ∧ w.cell? ⟨g, 2, none⟩ = some a2 ∧ w.cell? ⟨g, 3, none⟩ = some a3 ∧ w.cell? ⟨g, 4, none⟩ = some a4 ∧ w.cell? ⟨g, 5, none⟩ = some a5 ∧ w.cell? ⟨g, 6, none⟩ = some a6 ∧ w.cell? ⟨g, 7, none⟩ = some a7 ∧ w.cell? ⟨g, 8, none⟩ = some a8 ∧ w.cell? ⟨g, 9, none⟩ = some a9 ∧ g < w.heap.size ∧ ∀ i, w.frozen? ⟨g, i, none⟩ = false :=
  ⟨h.cell 0 _ rfl, h.cell 1 _ rfl, h.cell 2 _ rfl, h.cell 3 _ rfl, h.cell 4 _ rfl, h.cell 5 _ rfl, h.cell 6 _ rfl, h.cell 7 _ rfl, h.cell 8 _ rfl, h.cell 9 _ rfl, h.lt, h.f⟩
end Go.Proofs.YtadcmjnebjgijaaGreatDoor.Calm

/- Contract of the reader of the next integer. -/
namespace Go.Proofs.YtadcmjnebjgijaaGreatDoor
open Go.RowKit
open Go.Lib
open Calm (bcell Blk)
/-- how the reader of the next integer answers. -/
def TakePost (g b off n : Nat) (wr : Bool) (R : Option Nat) (w : World) (r : Ending) (w' : World) : Prop :=
  ∃ (m : Int) (A : Option Addr), r = .returned (.int .i64 (m)) ∧ (∀ k, R = some k → m = k) ∧ Blk w' g #[.slice A n n, .bool (wr || !R.isSome)] ∧ (0 < n → A = some ⟨b, off + 1, none⟩) ∧ w.grownBy w' (some g)
theorem take_done {w w1 : World} {g : Nat} {x y : Value} (K : Blk w1 g #[x, y]) (h1 : Below w.heap.size w w1) (v u : Value) :
    Blk ((w1.setCell ⟨g, 0, none⟩ v).setCell ⟨g, 1, none⟩ u).drew g #[v, u] ∧ w.grownBy ((w1.setCell ⟨g, 0, none⟩ v).setCell ⟨g, 1, none⟩ u).drew (some g) := by
  refine ⟨?_, ?_⟩
  · have := (((K.set (i := 0) (by simp) v).set (i := 1) (by simp) u)).drew
    simpa using this
  · have a1 := (grownBy_below h1 (some g)).trans ((grownBy_setCellAny w1 ⟨g, 0, none⟩ v).trans (grownBy_setCellAny _ ⟨g, 1, none⟩ u))
    exact ⟨a1.os, a1.tape, a1.output, a1.size, a1.block⟩
set_option maxHeartbeats 4000000 in
theorem taker_false_more (g b off n : Nat) (s : ByteArray) (w : World) (hT : Tab w) (hK : Hid (Blk w g #[.slice (some ⟨b, off, none⟩) (n + 1) (n + 1), .bool false])) (hw : w.cell? ⟨b, off, none⟩ = some (.string s)) (hb : b < w.heap.size) (hn : 0 < n) (hs : s.size ≤ 4096) (hcm : n ≤ 1000000) :
    Calls Tryz.prog 35 #[.pointer (some ⟨g, 0, none⟩)] w (TakePost g b off n false (numL s.data.toList) w) := by
  obtain ⟨f0, f1, fl, ff⟩ := hK.out.o2
  have hn2 : ¬ n = 0 := by omega
  go_enter Tryz.func35, Tryz.ntmps35
  go_wp2_with (go_at_call 74; refine (integer_any s _ hT hs).mono ?_; rintro r w1 ⟨m, rfl, h2, h1⟩; refine Hid.out ?_)
  unfold Hid
  have H2 := Lib.hid h2
  obtain ⟨R, hR⟩ : ∃ R, R = numL s.data.toList := ⟨_, rfl⟩
  rw [← hR] at H2 ⊢
  have HR := Lib.hid hR
  obtain ⟨q, hq⟩ : ∃ q, q = R.isSome := ⟨_, rfl⟩
  rw [← hq]
  have HQ := Lib.hid hq
  have K1 := Lib.hid (hK.out.below h1)
  have H1 := Lib.hid h1
  clear h2 hq f0 f1 fl ff h1 hR hw
  obtain ⟨f0, f1, fl, ff⟩ := K1.out.o2
  go_wp2
  go_region
  go_wp2
  go_ret
  obtain ⟨r1, r2⟩ := take_done K1.out H1.out (.slice (some ⟨b, off + 1, none⟩) n n) (.bool (!q))
  rw [← HR.out]
  refine ⟨m, _, rfl, H2.out, ?_, fun _ => rfl, r2⟩
  rw [← HQ.out, Bool.false_or]
  exact r1
set_option maxHeartbeats 4000000 in
theorem taker_false_last (g b off n : Nat) (s : ByteArray) (w : World) (hT : Tab w) (hK : Hid (Blk w g #[.slice (some ⟨b, off, none⟩) (0 + 1) (0 + 1), .bool false])) (hw : w.cell? ⟨b, off, none⟩ = some (.string s)) (hb : b < w.heap.size) (hs : s.size ≤ 4096) (hcm : n ≤ 1000000) :
    Calls Tryz.prog 35 #[.pointer (some ⟨g, 0, none⟩)] w (TakePost g b off 0 false (numL s.data.toList) w) := by
  obtain ⟨f0, f1, fl, ff⟩ := hK.out.o2
  skip
  go_enter Tryz.func35, Tryz.ntmps35
  go_wp2_with (go_at_call 74; refine (integer_any s _ hT hs).mono ?_; rintro r w1 ⟨m, rfl, h2, h1⟩; refine Hid.out ?_)
  unfold Hid
  have H2 := Lib.hid h2
  obtain ⟨R, hR⟩ : ∃ R, R = numL s.data.toList := ⟨_, rfl⟩
  rw [← hR] at H2 ⊢
  have HR := Lib.hid hR
  obtain ⟨q, hq⟩ : ∃ q, q = R.isSome := ⟨_, rfl⟩
  rw [← hq]
  have HQ := Lib.hid hq
  have K1 := Lib.hid (hK.out.below h1)
  have H1 := Lib.hid h1
  clear h2 hq f0 f1 fl ff h1 hR hw
  obtain ⟨f0, f1, fl, ff⟩ := K1.out.o2
  go_wp2
  go_region
  go_wp2
  go_ret
  obtain ⟨r1, r2⟩ := take_done K1.out H1.out (.slice (some ⟨b, off, none⟩) 0 0) (.bool (!q))
  rw [← HR.out]
  refine ⟨m, some ⟨b, off, none⟩, rfl, H2.out, ?_, fun h => absurd h (Nat.lt_irrefl 0), r2⟩
  rw [← HQ.out, Bool.false_or]
  exact r1
set_option maxHeartbeats 4000000 in
theorem taker_true_more (g b off n : Nat) (s : ByteArray) (w : World) (hT : Tab w) (hK : Hid (Blk w g #[.slice (some ⟨b, off, none⟩) (n + 1) (n + 1), .bool true])) (hw : w.cell? ⟨b, off, none⟩ = some (.string s)) (hb : b < w.heap.size) (hn : 0 < n) (hs : s.size ≤ 4096) (hcm : n ≤ 1000000) :
    Calls Tryz.prog 35 #[.pointer (some ⟨g, 0, none⟩)] w (TakePost g b off n true (numL s.data.toList) w) := by
  obtain ⟨f0, f1, fl, ff⟩ := hK.out.o2
  have hn2 : ¬ n = 0 := by omega
  go_enter Tryz.func35, Tryz.ntmps35
  go_wp2_with (go_at_call 74; refine (integer_any s _ hT hs).mono ?_; rintro r w1 ⟨m, rfl, h2, h1⟩; refine Hid.out ?_)
  unfold Hid
  have H2 := Lib.hid h2
  obtain ⟨R, hR⟩ : ∃ R, R = numL s.data.toList := ⟨_, rfl⟩
  rw [← hR] at H2 ⊢
  have HR := Lib.hid hR
  obtain ⟨q, hq⟩ : ∃ q, q = R.isSome := ⟨_, rfl⟩
  rw [← hq]
  have HQ := Lib.hid hq
  have K1 := Lib.hid (hK.out.below h1)
  have H1 := Lib.hid h1
  clear h2 hq f0 f1 fl ff h1 hR hw
  obtain ⟨f0, f1, fl, ff⟩ := K1.out.o2
  go_wp2
  go_region
  go_wp2
  go_ret
  obtain ⟨r1, r2⟩ := take_done K1.out H1.out (.slice (some ⟨b, off + 1, none⟩) n n) (.bool true)
  rw [← HR.out]
  refine ⟨m, _, rfl, H2.out, ?_, fun _ => rfl, r2⟩
  rw [Bool.true_or]
  exact r1
set_option maxHeartbeats 4000000 in
theorem taker_true_last (g b off n : Nat) (s : ByteArray) (w : World) (hT : Tab w) (hK : Hid (Blk w g #[.slice (some ⟨b, off, none⟩) (0 + 1) (0 + 1), .bool true])) (hw : w.cell? ⟨b, off, none⟩ = some (.string s)) (hb : b < w.heap.size) (hs : s.size ≤ 4096) (hcm : n ≤ 1000000) :
    Calls Tryz.prog 35 #[.pointer (some ⟨g, 0, none⟩)] w (TakePost g b off 0 true (numL s.data.toList) w) := by
  obtain ⟨f0, f1, fl, ff⟩ := hK.out.o2
  skip
  go_enter Tryz.func35, Tryz.ntmps35
  go_wp2_with (go_at_call 74; refine (integer_any s _ hT hs).mono ?_; rintro r w1 ⟨m, rfl, h2, h1⟩; refine Hid.out ?_)
  unfold Hid
  have H2 := Lib.hid h2
  obtain ⟨R, hR⟩ : ∃ R, R = numL s.data.toList := ⟨_, rfl⟩
  rw [← hR] at H2 ⊢
  have HR := Lib.hid hR
  obtain ⟨q, hq⟩ : ∃ q, q = R.isSome := ⟨_, rfl⟩
  rw [← hq]
  have HQ := Lib.hid hq
  have K1 := Lib.hid (hK.out.below h1)
  have H1 := Lib.hid h1
  clear h2 hq f0 f1 fl ff h1 hR hw
  obtain ⟨f0, f1, fl, ff⟩ := K1.out.o2
  go_wp2
  go_region
  go_wp2
  go_ret
  obtain ⟨r1, r2⟩ := take_done K1.out H1.out (.slice (some ⟨b, off, none⟩) 0 0) (.bool true)
  rw [← HR.out]
  refine ⟨m, some ⟨b, off, none⟩, rfl, H2.out, ?_, fun h => absurd h (Nat.lt_irrefl 0), r2⟩
  rw [Bool.true_or]
  exact r1
theorem taker_any (g b off n : Nat) (wr : Bool) (s : ByteArray) (w : World) (hT : Tab w) (hK : Hid (Blk w g #[.slice (some ⟨b, off, none⟩) (n + 1) (n + 1), .bool wr])) (hw : w.cell? ⟨b, off, none⟩ = some (.string s)) (hb : b < w.heap.size) (hs : s.size ≤ 4096) (hcm : n ≤ 1000000) :
    Calls Tryz.prog 35 #[.pointer (some ⟨g, 0, none⟩)] w (TakePost g b off n wr (numL s.data.toList) w) := by
  rcases Nat.eq_zero_or_pos n with rfl | hn
  · cases wr
    · exact taker_false_last g b off 0 s w hT hK hw hb hs hcm
    · exact taker_true_last g b off 0 s w hT hK hw hb hs hcm
  · cases wr
    · exact taker_false_more g b off n s w hT hK hw hb hn hs hcm
    · exact taker_true_more g b off n s w hT hK hw hb hn hs hcm
end Go.Proofs.YtadcmjnebjgijaaGreatDoor

/- Contract of the reference's Split. -/
namespace Go.Proofs.YtadcmjnebjgijaaGreatDoor
open Go.RowKit
open Go.Lib
open Calm (bcell Blk)
theorem Tryz.infoS : (Tryz.prog.info? 9).map (fun i => (i.zero, i.size, i.bytes)) = some (some (.string ByteArray.empty), 1, 16) := by kernel_rfl

def words (l : List (List UInt8)) : List Value := l.map fun x => .string ⟨x.toArray⟩
theorem cutL_snoc {c x : UInt8} : ∀ {l : List UInt8} {out : List (List UInt8)} {q : List UInt8}, cutL c l = out ++ [q] → cutL c (l ++ [x]) = if x = c then out ++ [q] ++ [[]] else out ++ [q ++ [x]]
  | [], out, q, h => by
    have h1 : out = [] ∧ q = [] := by
      cases out with
      | nil => simp [cutL] at h; exact ⟨rfl, by first | exact h | exact h.symm⟩
      | cons a t => simp [cutL] at h
    obtain ⟨rfl, rfl⟩ := h1
    by_cases hx : x = c <;> simp [cutL, hx]
  | y :: r, out, q, h => by
    rw [List.cons_append]
    unfold cutL at h ⊢
    by_cases hy : y = c
    · rw [if_pos hy] at h ⊢
      cases out with
      | nil =>
        have := cutL_ne c r
        simp at h
        exact absurd h.2 this
      | cons a t =>
        simp only [List.cons_append, List.cons.injEq] at h
        rw [cutL_snoc (x := x) h.2, ← h.1]
        split <;> rfl
    · rw [if_neg hy] at h ⊢
      cases hr : cutL c r with
      | nil => exact absurd hr (cutL_ne c r)
      | cons a t =>
        rw [hr] at h
        simp only [] at h
        cases out with
        | nil =>
          simp only [List.nil_append, List.cons.injEq] at h
          obtain ⟨h1, h2⟩ := h
          subst h2
          rw [cutL_snoc (x := x) (out := []) (q := a) hr, ← h1]
          by_cases hx : x = c <;> simp [hx]
        | cons b u =>
          simp only [List.cons_append, List.cons.injEq] at h
          obtain ⟨h1, h2⟩ := h
          subst h2
          rw [cutL_snoc (x := x) (out := a :: u) (q := q) (by rw [hr]; rfl), ← h1]
          by_cases hx : x = c <;> simp [hx]
/-- the words so far, and where the last one begins. -/
def CutRel (s : ByteArray) (k : Nat) (out : List (List UInt8)) (f : Nat) : Prop := f ≤ k ∧ cutL 32 (s.data.toList.take k) = out ++ [(s.data.toList.take k).drop f]
theorem CutRel.start (s : ByteArray) : CutRel s 0 [] 0 := ⟨Nat.le_refl _, by simp [cutL]⟩
theorem CutRel.hit {s : ByteArray} {k f : Nat} {out : List (List UInt8)} (h : CutRel s k out f) (hk : k < s.size) (hx : s[k] = 32) : CutRel s (k + 1) (out ++ [(s.data.toList.take k).drop f]) (k + 1) := by
  refine ⟨Nat.le_refl _, ?_⟩
  rw [take_snoc s k hk, cutL_snoc h.2, if_pos hx, show (s.data.toList.take k ++ [s[k]]).drop (k + 1) = [] from List.drop_eq_nil_of_le (by rw [List.length_append, List.length_take, size_list, List.length_singleton]; omega)]
theorem CutRel.miss {s : ByteArray} {k f : Nat} {out : List (List UInt8)} (h : CutRel s k out f) (hk : k < s.size) (hx : ¬ s[k] = 32) : CutRel s (k + 1) out f := by
  refine ⟨Nat.le_succ_of_le h.1, ?_⟩
  rw [take_snoc s k hk, cutL_snoc h.2, if_neg hx, List.drop_append_of_le_length (by rw [List.length_take, size_list]; have := h.1; omega)]
theorem CutRel.len {s : ByteArray} {k f : Nat} {out : List (List UInt8)} (h : CutRel s k out f) (hk : k ≤ s.size) : out.length ≤ k := by
  have h1 : ∀ l : List UInt8, (cutL 32 l).length ≤ l.length + 1 := by
    intro l
    induction l with
    | nil => simp [cutL]
    | cons x r ih =>
      unfold cutL
      split
      · simp; omega
      · split
        · simp
        · rename_i hh; rw [hh] at ih; simp at ih ⊢; omega
  have h2 := h1 (s.data.toList.take k)
  rw [h.2, List.length_append, List.length_singleton, List.length_take, size_list] at h2
  omega
theorem piece {s : ByteArray} {f k : Nat} (hf : f ≤ k) (hk : k ≤ s.size) : s.extract f k = ⟨((s.data.toList.take k).drop f).toArray⟩ := by
  apply ByteArray.ext
  apply Array.ext'
  rw [extract_data]
  simp
  rw [List.drop_take]
set_option maxHeartbeats 4000000 in
theorem refSplit_any (s : ByteArray) (w : World) (hl : s.size ≤ 1000000) :
    Calls Tryz.prog 39 #[.string s, .int .u8 32] w fun r w' => ∃ v, r = .returned v ∧ w'.ownsRow w.heap.size 9 1 v (cutL 32 s.data.toList).length (words (cutL 32 s.data.toList)) ∧ Below w.heap.size w w' := by
  obtain ⟨i0, hi, hz0, hz1, hz2⟩ := info_parts Tryz.infoS
  go_enter Tryz.func39, Tryz.ntmps39
  go_wp2
  go_loopw [5, 6, 7] (fun v f i wr => ∃ (k g : Nat) (out : List (List UInt8)), k ≤ s.size ∧ i = (.int .i64 ((k : Int))) ∧ f = (.int .i64 ((g : Int))) ∧ CutRel s k out g ∧ wr.ownsRow w.heap.size 9 1 v out.length (words out) ∧ Below w.heap.size w wr) (fun _ _ i _ => s.size - (RowKit.intOf i).toNat)
  case atStart => exact ⟨0, 0, [], by omega, rfl, rfl, CutRel.start s, World.ownsRow_nil _ _ _ _, Below.refl _ _⟩
  case round =>
    obtain ⟨k, g, out, hk, rfl, rfl, hc, ho, hBr⟩ := hrel
    have hsz := hBr.size
    have hgk := hc.1
    have hlen := hc.len hk
    have HC := Lib.hid hc
    have HO := Lib.hid ho
    have HBR := Lib.hid hBr
    clear hc ho hBr
    by_cases hlt : k < s.size
    · by_cases hx : s[k] = 32
      · have hx2 : ((s[k].toNat : Int) == 32) = true := by rw [hx]; rfl
        have HX := Lib.hid (HC.out.hit hlt hx)
        have HP := Lib.hid (piece (s := s) hgk hk)
        clear hx
        go_wp2_with (at_builtin; refine wpList_append_own _ rfl _ _ 86 rfl w.heap.size 9 i0 _ 1 16 Tryz.underlying86 hi hz0 hz1 hz2 rfl (by decide) _ _ _ rfl (HO.out.alloc _) ⟨wr.heap.size, 0, none⟩ 1 1 [.string (s.extract g k)] rfl rfl ?c1 ?c2 ?c3 ?c4 ?c5 ?_)
        case c1 =>
          intro j u hj
          match j, hj with
          | 0, hj => simp at hj; subst hj; simp [Addr.add]
        case c2 => intro u hu; simp at hu; subst hu; rfl
        case c3 => unfold maxLen; omega
        case c4 => omega
        case c5 => simp; omega
        intro v' w3 hown' hgrow _
        have hB' : Below w.heap.size w w3 := (HBR.out.alloc hsz _).grown hgrow (by simp; omega) (fun j hj => (HO.out.lt j hj).1)
        have HO2 := Lib.hid hown'
        clear hgrow hown'
        go_wp2
        go_roundw
        case rel =>
          refine ⟨k + 1, k + 1, _, by omega, by go_num, by go_num, HX.out, ?_, hB'⟩
          rw [List.length_append, List.length_singleton]
          have := HO2.out
          rw [HP.out] at this
          unfold words at this ⊢
          rw [List.map_append]; exact this
        case measure => simp [RowKit.intOf]; omega
      · have hx2 : ((s[k].toNat : Int) == 32) = false := beq_eq_false_iff_ne.2 (fun e => hx (UInt8.toNat_inj.1 (by show s[k].toNat = 32; omega)))
        have HX := Lib.hid (HC.out.miss hlt hx)
        clear hx
        go_wp2
        go_roundw
        case rel => exact ⟨k + 1, g, out, by omega, by go_num, rfl, HX.out, HO.out, HBR.out⟩
        case measure => simp [RowKit.intOf]; omega
    · obtain rfl : k = s.size := by omega
      have hall : s.data.toList.take s.size = s.data.toList := List.take_of_length_le (by rw [size_list]; exact Nat.le_refl _)
      have hcut := HC.out.2
      rw [hall] at hcut
      have HCUT := Lib.hid hcut
      have HP := Lib.hid (piece (s := s) hgk hk)
      have HALL := Lib.hid hall
      clear hall hcut
      go_wp2_with (at_builtin; refine wpList_append_own _ rfl _ _ 86 rfl w.heap.size 9 i0 _ 1 16 Tryz.underlying86 hi hz0 hz1 hz2 rfl (by decide) _ _ _ rfl (HO.out.alloc _) ⟨wr.heap.size, 0, none⟩ 1 1 [.string (s.extract g s.size)] rfl rfl ?d1 ?d2 ?d3 ?d4 ?d5 ?_)
      case d1 =>
        intro j u hj
        match j, hj with
        | 0, hj => simp at hj; subst hj; simp [Addr.add]
      case d2 => intro u hu; simp at hu; subst hu; rfl
      case d3 => unfold maxLen; omega
      case d4 => omega
      case d5 => simp; omega
      intro v' w3 hown' hgrow _
      have hB' : Below w.heap.size w w3 := (HBR.out.alloc hsz _).grown hgrow (by simp; omega) (fun j hj => (HO.out.lt j hj).1)
      have HO2 := Lib.hid hown'
      clear hgrow hown'
      go_wp2
      go_ret
      refine ⟨_, rfl, ?_, hB'⟩
      have := HO2.out
      rw [HP.out, HALL.out] at this
      rw [HCUT.out]
      unfold words at this ⊢
      rw [List.map_append, List.length_append, List.length_singleton]; exact this
end Go.Proofs.YtadcmjnebjgijaaGreatDoor

/- Contracts of the reference's checks. %still -/
namespace Go.Proofs.YtadcmjnebjgijaaGreatDoor
open Go.RowKit
open Calm (bcell Blk)

theorem qFirst_any (l : List Int) (b off c : Nat) (w : World) (hl : l.length ≤ 64) (hc : ∀ k, k < l.length → w.cell? ⟨b, off + k, none⟩ = some (.int .i64 (l.getD k 0))) :
    Calls Tryz.prog 36 #[.slice (some ⟨b, off, none⟩) l.length c] w fun r w' => r = .returned (.int .i64 (firstOf l)) ∧ w = w' := by
  go_enter Tryz.func36, Tryz.ntmps36
  go_wp2
  go_loop [3] (fun i => ∃ k : Nat, k ≤ l.length ∧ i = (.int .i64 (k)) ∧ ∀ j, j < k → l.getD j 0 = 0) (fun i => l.length - (intOf i).toNat)
  case atStart => exact ⟨0, Nat.zero_le _, rfl, fun j hj => by omega⟩
  case round =>
    obtain ⟨k, hk, rfl, hz⟩ := hrel
    have HZ := Lib.hid hz
    clear hz
    by_cases hlt : k < l.length
    · have hck := hc k hlt
      clear hc
      by_cases h0 : l.getD k 0 = 0
      · rw [h0] at hck
        have H0 := Lib.hid h0
        clear h0
        go_wp2
        go_round
        case rel => exact ⟨k + 1, by omega, by go_num, fun j hj => by
          rcases Nat.lt_or_ge j k with hjk | hjk
          · exact HZ.out j hjk
          · obtain rfl : j = k := by omega
            exact H0.out⟩
        case measure => simp [intOf]; omega
      · obtain ⟨x, hx⟩ : ∃ x, x = l.getD k 0 := ⟨_, rfl⟩
        rw [← hx] at hck h0
        have H0 := Lib.hid hx
        clear hx
        go_wp2
        go_ret
        exact ⟨ret_i (by rw [firstOf_take HZ.out hlt (by rw [← H0.out]; exact h0)]; exact H0.out), rfl⟩
    · clear hc
      go_wp2
      go_ret
      exact ⟨ret_i (by rw [firstOf_zero (fun j hj => HZ.out j (by omega))]), rfl⟩

theorem checkRange_any (n lo hi : Int) (w : World) : Calls Tryz.prog 37 #[(.int .i64 (n)), (.int .i64 (lo)), (.int .i64 (hi))] w fun r w' => r = .returned (.int .i64 (rangeErr n lo hi)) ∧ w = w' := by
  by_cases h1 : n < lo
  · rw [rangeErr_lo h1]
    go_enter Tryz.func37, Tryz.ntmps37
    go_wp2
    go_ret
    exact ⟨rfl, rfl⟩
  · by_cases h2 : hi < n
    · rw [rangeErr_hi h2]
      go_enter Tryz.func37, Tryz.ntmps37
      go_wp2
      go_ret
      exact ⟨rfl, rfl⟩
    · rw [rangeErr_in (by omega) (by omega)]
      go_enter Tryz.func37, Tryz.ntmps37
      go_wp2
      go_ret
      exact ⟨rfl, rfl⟩
theorem qFirst2_any (a b : Int) (W : World) : Calls Tryz.prog 36 #[.slice (some ⟨W.heap.size, 0, none⟩) 2 2] (W.alloc (.cells #[(.int .i64 (a)), (.int .i64 (b))] 3)) fun r w' => r = .returned (.int .i64 (firstOf [a, b])) ∧ W.alloc (.cells #[(.int .i64 (a)), (.int .i64 (b))] 3) = w' :=
  qFirst_any [a, b] W.heap.size 0 2 _ (by simp) fun k hk => by
    have : k = 0 ∨ k = 1 := by simp at hk; omega
    rcases this with rfl | rfl <;> simp
theorem qFirst3_any (a b c : Int) (W : World) : Calls Tryz.prog 36 #[.slice (some ⟨W.heap.size, 0, none⟩) 3 3] (W.alloc (.cells #[(.int .i64 (a)), (.int .i64 (b)), (.int .i64 (c))] 3)) fun r w' => r = .returned (.int .i64 (firstOf [a, b, c])) ∧ W.alloc (.cells #[(.int .i64 (a)), (.int .i64 (b)), (.int .i64 (c))] 3) = w' :=
  qFirst_any [a, b, c] W.heap.size 0 3 _ (by simp) fun k hk => by
    have : k = 0 ∨ k = 1 ∨ k = 2 := by simp at hk; omega
    rcases this with rfl | rfl | rfl <;> simp
theorem qFirst4_any (a b c d : Int) (W : World) : Calls Tryz.prog 36 #[.slice (some ⟨W.heap.size, 0, none⟩) 4 4] (W.alloc (.cells #[(.int .i64 (a)), (.int .i64 (b)), (.int .i64 (c)), (.int .i64 (d))] 3)) fun r w' => r = .returned (.int .i64 (firstOf [a, b, c, d])) ∧ W.alloc (.cells #[(.int .i64 (a)), (.int .i64 (b)), (.int .i64 (c)), (.int .i64 (d))] 3) = w' :=
  qFirst_any [a, b, c, d] W.heap.size 0 4 _ (by simp) fun k hk => by
    have : k = 0 ∨ k = 1 ∨ k = 2 ∨ k = 3 := by simp at hk; omega
    rcases this with rfl | rfl | rfl | rfl <;> simp
theorem qFirst6_any (a b c d e f : Int) (W : World) : Calls Tryz.prog 36 #[.slice (some ⟨W.heap.size, 0, none⟩) 6 6] (W.alloc (.cells #[(.int .i64 (a)), (.int .i64 (b)), (.int .i64 (c)), (.int .i64 (d)), (.int .i64 (e)), (.int .i64 (f))] 3)) fun r w' => r = .returned (.int .i64 (firstOf [a, b, c, d, e, f])) ∧ W.alloc (.cells #[(.int .i64 (a)), (.int .i64 (b)), (.int .i64 (c)), (.int .i64 (d)), (.int .i64 (e)), (.int .i64 (f))] 3) = w' :=
  qFirst_any [a, b, c, d, e, f] W.heap.size 0 6 _ (by simp) fun k hk => by
    have : k = 0 ∨ k = 1 ∨ k = 2 ∨ k = 3 ∨ k = 4 ∨ k = 5 := by simp at hk; omega
    rcases this with rfl | rfl | rfl | rfl | rfl | rfl <;> simp
set_option maxHeartbeats 1000000 in
theorem refCheckDriver_any (re le bl ma st lo : Int) (w : World) :
    Calls Tryz.prog 8 #[.agg #[(.int .i64 (re)), (.int .i64 (le)), (.int .i64 (bl)), (.int .i64 (ma)), (.int .i64 (st)), (.int .i64 (lo))]] w fun r w' => r = .returned (.int .i64 (drvErr re le bl ma st lo)) ∧ Below w.heap.size w w' := by
  have hE : drvErr re le bl ma st lo = firstOf [rangeErr re 1 50, rangeErr le 0 10, rangeErr bl 1 20, rangeErr ma 1 100, rangeErr st 1 5000, rangeErr lo 1 100] := rfl
  rw [hE]
  clear hE
  go_enter Tryz.func8, Tryz.ntmps8
  go_wp2
  refine Calm.still_tail 18 (by kernel_rfl) (by kernel_rfl) ?_
  simp only [List.take_succ_cons, List.take_zero, List.drop_succ_cons, List.drop_zero]
  repeat (first | (first | (apply Calm.still_op_move; (focus rfl); (focus (first | exact .inl rfl | exact .inr rfl)); (focus ((try simp only [Act.eval, Array.getD_eq_getD_getElem?, List.getElem?_toArray, List.getElem?_cons_succ, List.getElem?_cons_zero, Option.getD_some]); rfl)); (try simp only [Act.put, List.setIfInBounds_toArray, List.set_cons_zero, List.set_cons_succ])) | (apply Calm.still_op_not; (focus rfl); (try simp only [Act.put, List.setIfInBounds_toArray, List.set_cons_zero, List.set_cons_succ])) | (apply Calm.still_op; (focus rfl); (focus (intro W hb; obtain ⟨hc, hf⟩ := bcell hb; clear hb hf; go_simp; (try go_bits); (try rfl); done)); (try simp only [Act.put, List.setIfInBounds_toArray, List.set_cons_zero, List.set_cons_succ]))) | (apply Calm.still_op_call; (focus rfl); (focus (intro W hb; obtain ⟨hc, hf⟩ := bcell hb; clear hb hf; go_simp; refine ⟨?_, ?_⟩; rfl; rfl)); (focus (intro W hb; first | (go_at_call 37; exact Calm.call_same hb (checkRange_any _ _ _ _)))); (try simp only [Act.put, List.setIfInBounds_toArray, List.set_cons_zero, List.set_cons_succ])))
  refine Calm.still_nil ?_
  intro w1 hb
  obtain ⟨hbc, hbf⟩ := bcell hb
  have hbz := hb.size
  (try simp at hbz)
  (try have hbz0 : w.heap.size < w1.heap.size := by omega)
  (try have hbz1 : w.heap.size + 1 < w1.heap.size := by omega)
  (try have hbz2 : w.heap.size + 1 + 1 < w1.heap.size := by omega)
  (try have hbz3 : w.heap.size + 1 + 1 + 1 < w1.heap.size := by omega)
  (try have hbz4 : w.heap.size + 1 + 1 + 1 + 1 < w1.heap.size := by omega)
  (try have hbz5 : w.heap.size + 1 + 1 + 1 + 1 + 1 < w1.heap.size := by omega)
  go_wp2_with (first | (go_at_call 36; refine (qFirst6_any _ _ _ _ _ _ _).mono ?_; rintro r w1 ⟨rfl, rfl⟩))
  go_ret
  refine ⟨by first | rfl | (simp; done), ?_⟩
  repeat (first | (with_reducible exact Below.refl _ _) | ((with_reducible refine Below.setCell ?_ ?_ _); rotate_left 1; focus (first | (simp; done) | (simp; omega) | (simp at *; omega))) | ((with_reducible refine Below.alloc ?_ ?_ _); rotate_left 1; focus (first | (simp; done) | (simp; omega) | (simp at *; omega))) | (with_reducible refine Below.drew ?_) | ((with_reducible refine Calm.step (by assumption) ?_ ?_); rotate_left 1; focus (first | (simp; done) | (simp; omega) | (simp at *; omega))))
end Go.Proofs.YtadcmjnebjgijaaGreatDoor

/- Parse, plain; the program's Parse. -/
namespace Go.Proofs.YtadcmjnebjgijaaGreatDoor
open Go.RowKit
open Go.Lib
open Calm (bcell Blk)

def drvW : List UInt8 := [100, 114, 105, 118, 101, 114]
/-- what is parsed: a driver and an error. -/
def PRes (l : List UInt8) (a b c d e f E : Int) : Prop :=
  (4096 < l.length ∧ (a = 0 ∧ b = 0 ∧ c = 0 ∧ d = 0 ∧ e = 0 ∧ f = 0) ∧ E = 27) ∨
  (l.length ≤ 4096 ∧ ((cutL 32 l).length ≠ 7 ∨ (cutL 32 l).head? ≠ some drvW) ∧ (a = 0 ∧ b = 0 ∧ c = 0 ∧ d = 0 ∧ e = 0 ∧ f = 0) ∧ E = 26) ∨
  (l.length ≤ 4096 ∧ ∃ w1 w2 w3 w4 w5 w6, cutL 32 l = [drvW, w1, w2, w3, w4, w5, w6] ∧
    (((numL w1 = none ∨ numL w2 = none ∨ numL w3 = none ∨ numL w4 = none ∨ numL w5 = none ∨ numL w6 = none) ∧ (a = 0 ∧ b = 0 ∧ c = 0 ∧ d = 0 ∧ e = 0 ∧ f = 0) ∧ E = 26) ∨
     ∃ n1 n2 n3 n4 n5 n6 : Nat, (numL w1 = some n1 ∧ numL w2 = some n2 ∧ numL w3 = some n3 ∧ numL w4 = some n4 ∧ numL w5 = some n5 ∧ numL w6 = some n6) ∧
      ((drvErr n1 n2 n3 n4 n5 n6 ≠ 0 ∧ (a = 0 ∧ b = 0 ∧ c = 0 ∧ d = 0 ∧ e = 0 ∧ f = 0) ∧ E = drvErr n1 n2 n3 n4 n5 n6) ∨
       (drvErr n1 n2 n3 n4 n5 n6 = 0 ∧ (a = n1 ∧ b = n2 ∧ c = n3 ∧ d = n4 ∧ e = n5 ∧ f = n6) ∧ E = 0))))
theorem pres_ex (l : List UInt8) : ∃ a b c d e f E, PRes l a b c d e f E := by
  by_cases h1 : 4096 < l.length
  · exact ⟨0, 0, 0, 0, 0, 0, 27, .inl ⟨h1, ⟨rfl, rfl, rfl, rfl, rfl, rfl⟩, rfl⟩⟩
  by_cases h2 : (cutL 32 l).length ≠ 7 ∨ (cutL 32 l).head? ≠ some drvW
  · exact ⟨0, 0, 0, 0, 0, 0, 26, .inr (.inl ⟨by omega, h2, ⟨rfl, rfl, rfl, rfl, rfl, rfl⟩, rfl⟩)⟩
  have h3 : (cutL 32 l).length = 7 := Classical.byContradiction fun h => h2 (.inl h)
  have h4 : (cutL 32 l).head? = some drvW := Classical.byContradiction fun h => h2 (.inr h)
  obtain ⟨w0, w1, w2, w3, w4, w5, w6, hw⟩ : ∃ w0 w1 w2 w3 w4 w5 w6, cutL 32 l = [w0, w1, w2, w3, w4, w5, w6] := by
    generalize cutL 32 l = ws at h3
    match ws, h3 with
    | [w0, w1, w2, w3, w4, w5, w6], _ => exact ⟨w0, w1, w2, w3, w4, w5, w6, rfl⟩
  rw [hw] at h4
  obtain rfl : w0 = drvW := by simpa using h4
  by_cases h5 : numL w1 = none ∨ numL w2 = none ∨ numL w3 = none ∨ numL w4 = none ∨ numL w5 = none ∨ numL w6 = none
  · exact ⟨0, 0, 0, 0, 0, 0, 26, .inr (.inr ⟨by omega, w1, w2, w3, w4, w5, w6, hw, .inl ⟨h5, ⟨rfl, rfl, rfl, rfl, rfl, rfl⟩, rfl⟩⟩)⟩
  have h6 : ∀ w, numL w ≠ none → ∃ n, numL w = some n := fun w h => Option.ne_none_iff_exists'.1 h
  obtain ⟨n1, e1⟩ := h6 w1 (fun h => h5 (.inl h))
  obtain ⟨n2, e2⟩ := h6 w2 (fun h => h5 (.inr (.inl h)))
  obtain ⟨n3, e3⟩ := h6 w3 (fun h => h5 (.inr (.inr (.inl h))))
  obtain ⟨n4, e4⟩ := h6 w4 (fun h => h5 (.inr (.inr (.inr (.inl h)))))
  obtain ⟨n5, e5⟩ := h6 w5 (fun h => h5 (.inr (.inr (.inr (.inr (.inl h))))))
  obtain ⟨n6, e6⟩ := h6 w6 (fun h => h5 (.inr (.inr (.inr (.inr (.inr h))))))
  by_cases h7 : drvErr n1 n2 n3 n4 n5 n6 = 0
  · exact ⟨n1, n2, n3, n4, n5, n6, 0, .inr (.inr ⟨by omega, w1, w2, w3, w4, w5, w6, hw, .inr ⟨n1, n2, n3, n4, n5, n6, ⟨e1, e2, e3, e4, e5, e6⟩, .inr ⟨h7, ⟨rfl, rfl, rfl, rfl, rfl, rfl⟩, rfl⟩⟩⟩)⟩
  · exact ⟨0, 0, 0, 0, 0, 0, _, .inr (.inr ⟨by omega, w1, w2, w3, w4, w5, w6, hw, .inr ⟨n1, n2, n3, n4, n5, n6, ⟨e1, e2, e3, e4, e5, e6⟩, .inl ⟨h7, ⟨rfl, rfl, rfl, rfl, rfl, rfl⟩, rfl⟩⟩⟩)⟩
theorem word_len {c : UInt8} : ∀ {l : List UInt8} {x : List UInt8}, x ∈ cutL c l → x.length ≤ l.length
  | [], x, h => by simp [cutL] at h; subst h; simp
  | y :: r, x, h => by
    unfold cutL at h
    split at h
    · rcases List.mem_cons.1 h with rfl | h
      · simp
      · have := word_len h; simp; omega
    · cases hr : cutL c r with
      | nil => exact absurd hr (cutL_ne c r)
      | cons a t =>
        rw [hr] at h
        rcases List.mem_cons.1 h with rfl | h
        · have := word_len (c := c) (l := r) (x := a) (by rw [hr]; simp); simp; omega
        · have := word_len (c := c) (l := r) (x := x) (by rw [hr]; simp [h]); simp; omega
/-- the words of a text, as the library lays them. -/
theorem words_split (s : ByteArray) : (Lib.splitB ⟨#[32]⟩ 0 (Lib.countB s ⟨#[32]⟩) s).map Value.string = words (cutL 32 s.data.toList) ∧ Lib.countB s ⟨#[32]⟩ + 1 = (cutL 32 s.data.toList).length := by
  have h1 : (Lib.splitB ⟨#[32]⟩ 0 (Lib.countB s ⟨#[32]⟩) s).map (·.data.toList) = cutL 32 s.data.toList := by
    rw [Lib.splitB_data, ← split_cut]; rfl
  have h2 : (Lib.splitB ⟨#[32]⟩ 0 (Lib.countB s ⟨#[32]⟩) s).map Value.string = words (cutL 32 s.data.toList) := by
    rw [← h1]; unfold words; rw [List.map_map]; exact List.map_congr_left fun x _ => rfl
  refine ⟨h2, ?_⟩
  have h3 : ∀ l : List UInt8, (cutL 32 l).length = l.count 32 + 1 := by
    intro l
    induction l with
    | nil => rfl
    | cons x r ih =>
      unfold cutL
      by_cases h : x = 32
      · subst h; rw [if_pos rfl]; simp [ih]
      · rw [if_neg h, List.count_cons_of_ne h]
        cases hr : cutL 32 r with
        | nil => exact absurd hr (cutL_ne 32 r)
        | cons a t => rw [hr] at ih; simpa using ih
  rw [h3]
  show Lib.count s.data.toList [32] + 1 = _
  rw [Lib.count_one]
theorem split_any (s : ByteArray) (w : World) (hT : Tab w) (hs : s.size ≤ 4096) :
    Calls Tryz.prog 34 #[.string s, .string ⟨#[32]⟩] w fun r w' => ∃ A, r = .returned (.slice A (cutL 32 s.data.toList).length (cutL 32 s.data.toList).length) ∧ A = some ⟨w.heap.size, 0, none⟩ ∧ w' = w.alloc (.cells (words (cutL 32 s.data.toList)).toArray 9) := by
  obtain ⟨_, m, hm⟩ := hT.mx
  obtain ⟨h1, h2⟩ := words_split s
  refine (Tryz.strings_Split s ⟨#[32]⟩ m w (by omega) hm (by decide)).mono ?_
  rintro r w' ⟨rfl, rfl⟩
  exact ⟨_, by rw [h2], rfl, by rw [h1]⟩
end Go.Proofs.YtadcmjnebjgijaaGreatDoor

/- The program's Parse: too long; not of the form. -/
namespace Go.Proofs.YtadcmjnebjgijaaGreatDoor
open Go.RowKit
open Go.Lib
open Calm (bcell Blk)
theorem split_blk (s : ByteArray) (w : World) (hT : Tab w) (hs : s.size ≤ 4096) {ws : List (List UInt8)} (hw : cutL 32 s.data.toList = ws) :
    Calls Tryz.prog 34 #[.string s, .string ⟨#[32]⟩] w fun r w' => ∃ b, r = .returned (.slice (some ⟨b, 0, none⟩) ws.length ws.length) ∧ w.heap.size ≤ b ∧ Blk w' b (words ws).toArray ∧ Below w.heap.size w w' := by
  subst hw
  refine (split_any s w hT hs).mono ?_
  rintro r w' ⟨A, rfl, rfl, rfl⟩
  exact ⟨_, rfl, Nat.le_refl _, Calm.Blk.new _ _ _, (Below.refl _ _).alloc (Nat.le_refl _) _⟩
theorem name_post {P : Program} {fn : Func} {R : Ending → World → Prop} {e : Exit} {a : Act} {W : World} (h : ∀ W', W' = W → bodyPost P fn R e a W') : bodyPost P fn R e a W := h W rfl
theorem zeros_blk {w : World} {g : Nat} (h : Blk w g #[(.int .i64 (0)), (.int .i64 (0)), (.int .i64 (0)), (.int .i64 (0)), (.int .i64 (0)), (.int .i64 (0))]) (a b c d e f : Int) : Blk ((((((w.setCell ⟨g, 0, none⟩ (.int .i64 (a))).setCell ⟨g, 1, none⟩ (.int .i64 (b))).setCell ⟨g, 2, none⟩ (.int .i64 (c))).setCell ⟨g, 3, none⟩ (.int .i64 (d))).setCell ⟨g, 4, none⟩ (.int .i64 (e))).setCell ⟨g, 5, none⟩ (.int .i64 (f))) g #[(.int .i64 (a)), (.int .i64 (b)), (.int .i64 (c)), (.int .i64 (d)), (.int .i64 (e)), (.int .i64 (f))] := by
  have := (((((h.set (i := 0) (by simp) (.int .i64 (a))).set (i := 1) (by simp) (.int .i64 (b))).set (i := 2) (by simp) (.int .i64 (c))).set (i := 3) (by simp) (.int .i64 (d))).set (i := 4) (by simp) (.int .i64 (e))).set (i := 5) (by simp) (.int .i64 (f))
  simpa using this
theorem zeros_below {B : Nat} {w0 w : World} {g : Nat} (h : Below B w0 w) (hg : B ≤ g) (a b c d e f : Int) : Below B w0 ((((((w.setCell ⟨g, 0, none⟩ (.int .i64 (a))).setCell ⟨g, 1, none⟩ (.int .i64 (b))).setCell ⟨g, 2, none⟩ (.int .i64 (c))).setCell ⟨g, 3, none⟩ (.int .i64 (d))).setCell ⟨g, 4, none⟩ (.int .i64 (e))).setCell ⟨g, 5, none⟩ (.int .i64 (f))) :=
  (((((h.setCell (p := ⟨g, 0, none⟩) hg _).setCell (p := ⟨g, 1, none⟩) hg _).setCell (p := ⟨g, 2, none⟩) hg _).setCell (p := ⟨g, 3, none⟩) hg _).setCell (p := ⟨g, 4, none⟩) hg _).setCell (p := ⟨g, 5, none⟩) hg _
def zer : Value := .agg #[(.int .i64 (0)), (.int .i64 (0)), (.int .i64 (0)), (.int .i64 (0)), (.int .i64 (0)), (.int .i64 (0))]
theorem parse_res {tmps : Array Value} {g : Nat} {W : World} {a b c d e f E : Int} (h2 : tmps[2]?.getD undef = .pointer (some ⟨g, 0, none⟩)) (h3 : tmps[3]?.getD undef = (.int .i64 (E))) (K : Blk W g #[(.int .i64 (a)), (.int .i64 (b)), (.int .i64 (c)), (.int .i64 (d)), (.int .i64 (e)), (.int .i64 (f))]) :
    (results Tryz.f7 tmps).run Tryz.prog W = .ok (.tuple #[.agg #[(.int .i64 (a)), (.int .i64 (b)), (.int .i64 (c)), (.int .i64 (d)), (.int .i64 (e)), (.int .i64 (f))], (.int .i64 (E))]) W := by
  obtain ⟨f0, f1, f2, f3, f4, f5, fl, ff⟩ := K.o6
  simp [results, Tryz.results7, go_sem, h2, h3, f0, f1, f2, f3, f4, f5]
set_option maxRecDepth 100000 in
theorem parse_long (s : ByteArray) (w : World) (h : 4096 < s.size) : Calls Tryz.prog 7 #[.string s] w fun r w' => r = .returned (.tuple #[zer, (.int .i64 (27))]) ∧ Below w.heap.size w w' := by
  go_enter Tryz.func7, Tryz.ntmps7
  go_wp2
  refine bodyPost_ret (v := .tuple #[zer, (.int .i64 (27))]) (by simp [results, Tryz.results7, go_sem, zer, *]) rfl ⟨rfl, ?_⟩
  repeat (first | (with_reducible exact Below.refl _ _) | ((with_reducible refine Below.setCell ?_ ?_ _); rotate_left 1; focus (first | (simp; done) | (simp; omega) | (simp at *; omega))) | ((with_reducible refine Below.alloc ?_ ?_ _); rotate_left 1; focus (first | (simp; done) | (simp; omega) | (simp at *; omega))) | (with_reducible refine Below.drew ?_) | ((with_reducible refine Calm.step (by assumption) ?_ ?_); rotate_left 1; focus (first | (simp; done) | (simp; omega) | (simp at *; omega))))
set_option maxRecDepth 100000 in
set_option maxHeartbeats 2000000 in
theorem parse_len (s : ByteArray) (w : World) (hT : Tab w) (h : s.size ≤ 4096) {ws : List (List UInt8)} (hw : cutL 32 s.data.toList = ws) (h7 : ws.length ≠ 7) : Calls Tryz.prog 7 #[.string s] w fun r w' => r = .returned (.tuple #[zer, (.int .i64 (26))]) ∧ Below w.heap.size w w' := by
  have hn : ((ws.length : Int) == 7) = false := beq_eq_false_iff_ne.2 (by omega)
  have hn2 : ¬ (ws.length : Int) = 7 := by omega
  have HW := Lib.hid hw
  obtain ⟨n, hN⟩ : ∃ n, n = ws.length := ⟨_, rfl⟩
  have HN := Lib.hid hN
  rw [← hN] at hn hn2 h7
  have hn3 : ¬ n = 7 := h7
  clear hw h7 hN
  go_enter Tryz.func7, Tryz.ntmps7
  go_wp2_with (go_at_call 34; refine (split_blk s _ (hT.below (by (repeat (first | (with_reducible exact Below.refl _ _) | ((with_reducible refine Below.setCell ?_ ?_ _); rotate_left 1; focus (first | (simp; done) | (simp; omega) | (simp at *; omega))) | ((with_reducible refine Below.alloc ?_ ?_ _); rotate_left 1; focus (first | (simp; done) | (simp; omega) | (simp at *; omega))) | (with_reducible refine Below.drew ?_) | ((with_reducible refine Calm.step (by assumption) ?_ ?_); rotate_left 1; focus (first | (simp; done) | (simp; omega) | (simp at *; omega))))))) h HW.out).mono ?_; rw [← HN.out]; rintro r w1 ⟨b, rfl, hb, K, h1⟩; refine Hid.out ?_)
  unfold Hid
  have hB : Below w.heap.size w w1 := ((Below.refl _ _).alloc (Nat.le_refl _) _).trans (h1.mono (by simp))
  have K2 := Lib.hid ((Calm.Blk.new w _ _).below h1)
  have HB := Lib.hid hB
  clear h1 K hB hb
  obtain ⟨f0, f1, f2, f3, f4, f5, fl, ff⟩ := K2.out.o6
  go_wp2
  refine name_post ?_
  intro W eW
  have KF : Blk W w.heap.size #[(.int .i64 (0)), (.int .i64 (0)), (.int .i64 (0)), (.int .i64 (0)), (.int .i64 (0)), (.int .i64 (0))] := eW.symm ▸ zeros_blk K2.out 0 0 0 0 0 0
  have HF : Below w.heap.size w W := eW.symm ▸ zeros_below HB.out (Nat.le_refl _) 0 0 0 0 0 0
  exact bodyPost_ret (parse_res rfl rfl KF) rfl ⟨rfl, HF⟩
theorem words_cell {w : World} {b : Nat} {ws : List (List UInt8)} (K : Blk w b (words ws).toArray) {i : Nat} (hi : i < ws.length) : w.cell? ⟨b, i, none⟩ = some (.string ⟨(ws.getD i []).toArray⟩) := by
  rw [K.c i]
  simp [words, List.getElem?_map, List.getElem?_eq_getElem hi, List.getD_eq_getElem?_getD]
set_option maxRecDepth 100000 in
set_option maxHeartbeats 2000000 in
theorem parse_head (s : ByteArray) (w : World) (hT : Tab w) (h : s.size ≤ 4096) {ws : List (List UInt8)} (hw : cutL 32 s.data.toList = ws) (h7 : ws.length = 7) (hd : ws.head? ≠ some drvW) : Calls Tryz.prog 7 #[.string s] w fun r w' => r = .returned (.tuple #[zer, (.int .i64 (26))]) ∧ Below w.heap.size w w' := by
  obtain ⟨x, hx⟩ : ∃ x, x = ws.getD 0 [] := ⟨_, rfl⟩
  have hxd : (x == [100, 114, 105, 118, 101, 114]) = false := beq_eq_false_iff_ne.2 (fun e => hd (by
    rw [List.head?_eq_getElem?, List.getElem?_eq_getElem (by omega)]
    rw [List.getD_eq_getElem?_getD, List.getElem?_eq_getElem (by omega)] at hx
    rw [← show x = ws[0] from hx, e]; rfl))
  have HX := Lib.hid hx
  have HW := Lib.hid hw
  have H7 := Lib.hid h7
  clear hw h7 hx hd
  go_enter Tryz.func7, Tryz.ntmps7
  go_wp2_with (go_at_call 34; refine (split_blk s _ (hT.below (by (repeat (first | (with_reducible exact Below.refl _ _) | ((with_reducible refine Below.setCell ?_ ?_ _); rotate_left 1; focus (first | (simp; done) | (simp; omega) | (simp at *; omega))) | ((with_reducible refine Below.alloc ?_ ?_ _); rotate_left 1; focus (first | (simp; done) | (simp; omega) | (simp at *; omega))) | (with_reducible refine Below.drew ?_) | ((with_reducible refine Calm.step (by assumption) ?_ ?_); rotate_left 1; focus (first | (simp; done) | (simp; omega) | (simp at *; omega))))))) h HW.out).mono ?_; rw [H7.out]; rintro r w1 ⟨b, rfl, hb, K, h1⟩; refine Hid.out ?_)
  unfold Hid
  have hB : Below w.heap.size w w1 := ((Below.refl _ _).alloc (Nat.le_refl _) _).trans (h1.mono (by simp))
  have K2 := Lib.hid ((Calm.Blk.new w _ _).below h1)
  have HB := Lib.hid hB
  have hc := words_cell K (i := 0) (by rw [H7.out]; decide)
  rw [← HX.out] at hc
  clear h1 K hB hb
  obtain ⟨f0, f1, f2, f3, f4, f5, fl, ff⟩ := K2.out.o6
  go_wp2
  refine name_post ?_
  intro W eW
  have KF : Blk W w.heap.size #[(.int .i64 (0)), (.int .i64 (0)), (.int .i64 (0)), (.int .i64 (0)), (.int .i64 (0)), (.int .i64 (0))] := eW.symm ▸ zeros_blk K2.out 0 0 0 0 0 0
  have HF : Below w.heap.size w W := eW.symm ▸ zeros_below HB.out (Nat.le_refl _) 0 0 0 0 0 0
  exact bodyPost_ret (parse_res rfl rfl KF) rfl ⟨rfl, HF⟩
end Go.Proofs.YtadcmjnebjgijaaGreatDoor

/- Regions whose order is open and whose edges bind in part; an append and a call with relational results in the head. -/
namespace Go.Proofs.YtadcmjnebjgijaaGreatDoor.Rel
open Go.RowKit
/-- the operations that this one waits for. -/
def ons (o : Oper) : List Nat := (o.after.toList.filter fun e => Region.binds .any e).map (·.on)
def Ob3 (P : Program) (DS : List Tmp) (w0 : World) (a0 : Act) (Γ : Ctx) (o : Oper) (R : Know) : Prop :=
  ∀ (a : Act) (W : World), Below w0.heap.size w0 W → deps Γ a W (ons o) → (∀ t, t ∉ DS → a.eval (.tmp t) = a0.eval (.tmp t)) →
    ∀ (K : Act → World → Prop) (Q : Exit → Act → World → Prop), (∀ v W', R v W' → Below W.heap.size W W' → K (a.put o.dst v) W') → o.wp P a W K Q
def GOK3 (Γ : Ctx) (o : Oper) : Prop := o.guard = none ∨ ∃ g b t, o.guard = some (g, b) ∧ g ∈ ons o ∧ Γ[g]? = some (some t, fun u _ => u = .bool b)
def walk3 (P : Program) (DS : List Tmp) (w0 : World) (a0 : Act) (T : Ctx → Prop) : Ctx → List Oper → Prop
  | Γ, [] => T Γ
  | Γ, o :: l => ∃ R, Stable R ∧ GOK3 Γ o ∧ Ob3 P DS w0 a0 Γ o R ∧ walk3 P DS w0 a0 T (Γ ++ [(o.dst, R)]) l
theorem walk_of_walk3 {P : Program} {ops : Array Oper} {n : Nat} {DS : List Tmp} {w0 : World} {a0 : Act} {T : Ctx → Prop} {T' : List Know → Prop} (hDS : ∀ t, t ∉ DS → ∀ j, j < n → dst ops j ≠ some t)
    (hT : ∀ Γ, T Γ → T' (Γ.map (·.2))) :
    ∀ (l : List Oper) (Γ : Ctx), (∀ j, j < l.length → l[j]? = ops[Γ.length + j]?) → (∀ j d R, Γ[j]? = some (d, R) → dst ops j = d) → walk3 P DS w0 a0 T Γ l → walk P ops n w0 a0 T' (Γ.map (·.2)) l
  | [], Γ, _, _, h => hT Γ h
  | o :: l, Γ, hl, hΓ, h => by
    obtain ⟨R, hs, hg, hob, hw⟩ := h
    have h0 : ops[Γ.length]? = some o := by simpa using (hl 0 (by simp)).symm
    have hg' : GOK ops (Γ.map (·.2)) o := by
      rcases hg with hg | ⟨g, b, t, hg, hin, hΓg⟩
      · exact .inl hg
      · obtain ⟨e, he, rfl⟩ := List.mem_map.1 hin
        obtain ⟨he1, he2⟩ := List.mem_filter.1 he
        exact .inr ⟨e.on, b, t, hg, ⟨e, by simpa using he1, he2, rfl⟩, hΓ _ _ _ hΓg, by simp [hΓg]⟩
    refine ⟨R, hs, hg', fun _ => ?_, ?_⟩
    · intro a W hb hz hd hbase K Q hK
      refine hob a W hb (deps_of _ fun j hj => ?_) (fun t ht => hbase t (fun j hj => hDS t ht j hj)) K Q hK
      obtain ⟨e, he, rfl⟩ := List.mem_map.1 hj
      obtain ⟨he1, he2⟩ := List.mem_filter.1 he
      have he' : e ∈ o.after := by simpa using he1
      cases hc : Γ[e.on]? with
      | none => trivial
      | some c =>
        obtain ⟨d, K'⟩ := c
        cases d with
        | none => trivial
        | some t => exact hd e he' he2 t (hΓ _ _ _ hc) K' (by simp [hc])
    · have := walk_of_walk3 hDS hT l (Γ ++ [(o.dst, R)]) (fun j hj => by
        have := hl (j + 1) (by simp; omega)
        simpa [Nat.add_assoc, Nat.add_comm 1 j] using this) (fun j d R' hj => by
        rcases Nat.lt_or_ge j Γ.length with h | h
        · rw [List.getElem?_append_left h] at hj
          exact hΓ j d R' hj
        · have hjl : j < (Γ ++ [(o.dst, R)]).length := (List.getElem?_eq_some_iff.1 hj).1
          obtain rfl : j = Γ.length := by simp at hjl; omega
          simp at hj
          rw [← hj.1]
          simp [dst, h0]) hw
      simpa using this
theorem region3 {P : Program} {id : Nat} {Q : Exit → Act → World → Prop} {a : Act} {w : World} {l : List Oper} (n : Nat) (hm : P.follows .mixedOrders = true) (hok : okB l.toArray n = true) (hsz : sizeB l.toArray n a.tmps.size = true)
    (h : walk3 P ((l.take n).filterMap (·.dst)) w a (fun Γ => ∀ (x : Nat → Value) (W : World), Below w.heap.size w W → facts x W 0 Γ → wpList P l.toArray Q (l.drop n) (fill (l.take n) 0 x a) W) [] (l.take n)) :
    (Code.region id l.toArray true).wp P Q a w := by
  have hn' : n < l.length := by
    simp only [okB, Bool.and_eq_true, decide_eq_true_eq] at hok
    simpa using hok.1.1.1.1.1
  have htl : (l.take n).length = n := by simp; omega
  refine region n hm hok hsz (walk_of_walk3 (n := n) (fun t ht j hj hd => ht ?_) (fun Γ hT x W hb hx => hT x W hb (facts_of Γ 0 (fun j K hj => by rw [Nat.zero_add]; exact hx j K hj))) (l.take n) [] (fun j hj => by
      rw [htl] at hj
      simp [List.getElem?_take, hj]) (fun j d R hj => by simp at hj) h)
  have hlj : j < l.length := by omega
  simp [dst, hlj] at hd
  exact List.mem_filterMap.2 ⟨l[j], List.mem_iff_getElem.2 ⟨j, by omega, by simp⟩, hd⟩
section
variable {P : Program} {DS : List Tmp} {w0 : World} {a0 : Act} {T : Ctx → Prop} {Γ : Ctx} {o : Oper} {rest : List Oper}
theorem gno {Γ : Ctx} {o : Oper} (h : o.guard = none) : GOK3 Γ o := .inl h
theorem gyes {Γ : Ctx} {o : Oper} (g : Nat) (b : Bool) (t : Tmp) (h1 : o.guard = some (g, b)) (h2 : (ons o).contains g = true) (h3 : Γ[g]? = some (some t, fun u _ => u = .bool b)) : GOK3 Γ o :=
  .inr ⟨g, b, t, h1, by simpa using h2, h3⟩
theorem op3 (v : Value) (hg : GOK3 Γ o) (h : ∀ (a : Act) (W : World), Below w0.heap.size w0 W → deps Γ a W (ons o) → (∀ t, t ∉ DS → a.eval (.tmp t) = a0.eval (.tmp t)) → (execOp a.eval o).run P W = .ok (.value v) W)
    (hn : walk3 P DS w0 a0 T (Γ ++ [(o.dst, fun u _ => u = v)]) rest) : walk3 P DS w0 a0 T Γ (o :: rest) :=
  ⟨_, stable_eq v, hg, fun a W hb hd hbase K Q hK => by
    unfold Oper.wp
    rw [h a W hb hd hbase]
    exact hK v W rfl (Below.refl _ _), hn⟩
/-- One operation that only reads, of whose result R is known. -/
theorem opR3 (R : Know) (hs : Stable R) (hg : GOK3 Γ o) (h : ∀ (a : Act) (W : World), Below w0.heap.size w0 W → deps Γ a W (ons o) → (∀ t, t ∉ DS → a.eval (.tmp t) = a0.eval (.tmp t)) → ∃ v, (execOp a.eval o).run P W = .ok (.value v) W ∧ R v W)
    (hn : walk3 P DS w0 a0 T (Γ ++ [(o.dst, R)]) rest) : walk3 P DS w0 a0 T Γ (o :: rest) :=
  ⟨_, hs, hg, fun a W hb hd hbase K Q hK => by
    obtain ⟨v, h1, h2⟩ := h a W hb hd hbase
    unfold Oper.wp
    rw [h1]
    exact hK v W h2 (Below.refl _ _), hn⟩
theorem build3 (t : TypeId) (n c : Nat) (cs : Array Value) (hg : GOK3 Γ o)
    (h : ∀ (a : Act) (W : World), Below w0.heap.size w0 W → deps Γ a W (ons o) → (∀ t, t ∉ DS → a.eval (.tmp t) = a0.eval (.tmp t)) → (execOp a.eval o).run P W = .ok (.value (.slice (some ⟨W.heap.size, 0, none⟩) n c)) (W.alloc (.cells cs t)))
    (hn : walk3 P DS w0 a0 T (Γ ++ [(o.dst, NewS w0.heap.size n c cs)]) rest) : walk3 P DS w0 a0 T Γ (o :: rest) :=
  ⟨_, stable_newS _ n c cs, hg, fun a W hb hd hbase K Q hK => by
    unfold Oper.wp
    rw [h a W hb hd hbase]
    exact hK _ _ ⟨_, rfl, hb.size, Calm.Blk.new W t cs⟩ ((Below.refl _ _).alloc (Nat.le_refl _) _), hn⟩
/-- A slice that owns a row. -/
def OwnS (B : Nat) (e : TypeId) (size n : Nat) (xs : List Value) : Know := fun u W => W.ownsRow B e size u n xs
theorem stable_ownS (B : Nat) (e : TypeId) (size n : Nat) (xs : List Value) : Stable (OwnS B e size n xs) := fun u W W' h hb => by
  refine ⟨h.1, ?_⟩
  rcases h.2 with h2 | ⟨g, cap, cur, h1, h2, h3, h4⟩
  · exact .inl h2
  · exact .inr ⟨g, cap, cur, h1, h2, (hb.block g (Array.getElem?_eq_some_iff.1 h3).1).trans h3, h4⟩
/-- An empty slice of its own that is not nil. -/
def Empty (B : Nat) (e : TypeId) (size : Nat) : Know := fun u W => (∃ g, u = .slice (some ⟨g, 0, none⟩) 0 0) ∧ W.ownsRow B e size u 0 []
theorem stable_empty (B : Nat) (e : TypeId) (size : Nat) : Stable (Empty B e size) := fun u W W' h hb => ⟨h.1, stable_ownS B e size 0 [] u W W' h.2 hb⟩
theorem empty3 (e : TypeId) (size : Nat) (hg : GOK3 Γ o)
    (h : ∀ (a : Act) (W : World), (execOp a.eval o).run P W = .ok (.value (.slice (some ⟨W.heap.size, 0, none⟩) 0 0)) (W.alloc (.cells #[] e)))
    (hn : walk3 P DS w0 a0 T (Γ ++ [(o.dst, Empty w0.heap.size e size)]) rest) : walk3 P DS w0 a0 T Γ (o :: rest) :=
  ⟨_, stable_empty _ _ _, hg, fun a W hb hd hbase K Q hK => by
    unfold Oper.wp
    rw [h a W]
    refine hK _ _ ⟨⟨_, rfl⟩, by simp, .inr ⟨_, 0, #[], rfl, hb.size, by show (W.heap.push _)[W.heap.size]? = _; simp, Nat.le_refl _, Nat.zero_le _, by simp, by simp⟩⟩ ((Below.refl _ _).alloc (Nat.le_refl _) _), hn⟩
theorem run_append_zero (W : World) (t ty e : TypeId) (i : TypeInfo) (z : Value) (ht : P.underlying t = some (.slice e)) (hi : P.info? e = some i) (hz : i.zero = some z) (b : Addr) (A : Option Addr) (c : Nat) :
    (Builtin.append_ #[t, t] ty #[.slice (some b) 0 0, .slice A 0 c]).run P W = .ok (.slice (some b) 0 0) W := by
  have hl : ∀ (x : Addr), (loadCells x 0).run P W = .ok #[] W := fun x => by simpa using run_loadCells_list (P := P) W x [] (by simp)
  cases A <;> simp [Builtin.append_, run_underlying ht, sizeOf, typeInfo, zeroValue, hi, hz, Builtin.lenOf, Builtin.firstCells, storeCells, hl]
/-- 'append([]T{}, l...)'. -/
theorem app3 (s x : Operand) (t : TypeId) (hop : o.op = .call { callee := .builtin .append, args := #[s, x], argTypes := #[t, t] }) (e : TypeId) (i : TypeInfo) (z : Value) (size bytes : Nat)
    (ht : P.underlying t = some (.slice e)) (hi : P.info? e = some i) (hz : i.zero = some z) (hsize : i.size = size) (hby : i.bytes = bytes) (hzs : z.cells.size = size) (hsz : 0 < size) (n : Nat) (news : List Value) (hl : news.length = n * size) (h1 : ∀ u ∈ news, u.oneCell' = true) (h63 : n ≤ maxLen) (hbytes : n * bytes ≤ 140737488355328) (hg : GOK3 Γ o)
    (h : ∀ (a : Act) (W : World), Below w0.heap.size w0 W → deps Γ a W (ons o) → (∀ t, t ∉ DS → a.eval (.tmp t) = a0.eval (.tmp t)) → (∃ v0, a.eval s = v0 ∧ Empty w0.heap.size e size v0 W) ∧ ∃ A c, a.eval x = .slice A n c ∧ (0 < n → ∃ ad, A = some ad ∧ ∀ j u, news[j]? = some u → W.cell? (ad.add j) = some u))
    (hn : walk3 P DS w0 a0 T (Γ ++ [(o.dst, OwnS w0.heap.size e size n news)]) rest) : walk3 P DS w0 a0 T Γ (o :: rest) :=
  ⟨_, stable_ownS _ _ _ _ _, hg, fun a W hb hd hbase K Q hK => by
    obtain ⟨⟨v0, hs, ⟨g, hgv⟩, hown⟩, A, c, hx, hc⟩ := h a W hb hd hbase
    subst hgv
    rcases Nat.eq_zero_or_pos n with rfl | hpos
    · obtain rfl : news = [] := List.eq_nil_of_length_eq_zero (by omega)
      have hrun := run_append_zero (P := P) W t o.type e i z ht hi hz ⟨g, 0, none⟩ A c
      unfold Oper.wp
      simp [execOp, hop, resolve, invoke, builtin, hs, hx, hrun, Result.andThen]
      exact hK _ _ hown (Below.refl _ _)
    · obtain ⟨ad, rfl, hc2⟩ := hc hpos
      obtain ⟨v', w', hrun, r1, r2⟩ := run_append_arg_grows (P := P) W t o.type e i z size bytes ht hi hz hsize hby hzs hsz ⟨g, 0, none⟩ 0 0 [] (by simp) (by simp) ad n c news hl hc2 (by omega) (by omega) (by rw [Nat.zero_add]; exact hbytes)
      unfold Oper.wp
      simp [execOp, hop, resolve, invoke, builtin, hs, hx, hrun, Result.andThen]
      refine hK v' w' ?_ ((Below.refl W.heap.size W).grown r2 (Nat.le_refl _) (fun k hk => by cases hk))
      have r1' : w'.ownsRow W.heap.size e size v' n news := by simpa using r1
      refine ⟨r1'.1, ?_⟩
      rcases r1'.2 with h2 | ⟨g', cap, cur, h1, h2, h3⟩
      · exact .inl h2
      · exact .inr ⟨g', cap, cur, h1, Nat.le_trans hb.size h2, h3⟩, hn⟩
/-- A call, by a contract. -/
theorem callR3 (R : Know) (hs : Stable R) (hg : GOK3 Γ o)
    (h : ∀ (a : Act) (W : World), Below w0.heap.size w0 W → deps Γ a W (ons o) → (∀ t, t ∉ DS → a.eval (.tmp t) = a0.eval (.tmp t)) → ∃ f args, (execOp a.eval o).run P W = .ok (.enter f args) W ∧ Calls P f args W fun e W' => ∃ v, e = .returned v ∧ R v W' ∧ Below W.heap.size W W')
    (hn : walk3 P DS w0 a0 T (Γ ++ [(o.dst, R)]) rest) : walk3 P DS w0 a0 T Γ (o :: rest) :=
  ⟨R, hs, hg, fun a W hb hd hbase K Q hK => by
    obtain ⟨f, args, hrun, hc⟩ := h a W hb hd hbase
    unfold Oper.wp
    rw [hrun]
    simp only [Oper.upon]
    refine hc.mono ?_
    rintro e W' ⟨v, rfl, hR, hbb⟩
    exact hK v W' hR hbb, hn⟩
/-- A call whose arguments and result are known. -/
theorem call3 (v : Value) (f : FuncId) (args : Array Value) (hg : GOK3 Γ o)
    (h : ∀ (a : Act) (W : World), Below w0.heap.size w0 W → deps Γ a W (ons o) → (∀ t, t ∉ DS → a.eval (.tmp t) = a0.eval (.tmp t)) → (execOp a.eval o).run P W = .ok (.enter f args) W)
    (hc : ∀ W, Below w0.heap.size w0 W → Calls P f args W fun e W' => e = .returned v ∧ Below W.heap.size W W')
    (hn : walk3 P DS w0 a0 T (Γ ++ [(o.dst, fun u _ => u = v)]) rest) : walk3 P DS w0 a0 T Γ (o :: rest) :=
  callR3 _ (stable_eq v) hg (fun a W hb hd hbase => ⟨f, args, h a W hb hd hbase, (hc W hb).mono fun e W' ⟨he, hb'⟩ => ⟨v, he, rfl, hb'⟩⟩) hn
theorem done3 (h : T Γ) : walk3 P DS w0 a0 T Γ [] := h
end
end Go.Proofs.YtadcmjnebjgijaaGreatDoor.Rel
