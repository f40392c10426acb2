/- Part 5 of the texts of the claim: Tg4, Tg6, Tc10, Tc12, Tc13, Tc14, Td0, Td1, S7, S8, J1, J2, J3, X5, Y1, Y2, Y3, Y4, Y5, Y6, Y7, Y8, QC, QW, Y9, Y10, Y11, Td2, Tg7, Tg8. -/
import Derived.Test.YtamldoidalnloaaGreatDoorMx4
import Derived.Test.YtamldoidalnloaaGreatDoorMx3
import Derived.Test.YtamldoidalnloaaGreatDoorMx2
import Derived.Test.YtamldoidalnloaaGreatDoorMx1
import Derived.WalkMore
import Derived.Laws.RangeAny
import Derived.ChangeKeysEq
import Derived.Maps.OwnOps
import Derived.Maps.OwnSet
import Derived.Maps.Views

/- signal: what its small functions do with floats that stand for sixteenths; CheckSample, checkAll. -/
namespace Go.Proofs.YtamldoidalnloaaGreatDoor
open Go.RowKit
open Calm (bcell Blk)
section
variable {z : Int} (h : FlOk z)
include h
theorem FlOk.rquo (W : World) : (binOp .quo 29 (.float .f32 (floatOfInt .f32 z)) (.float .f32 1098907648)).run Tryz.prog W = .ok (.float .f32 (fl z)) W := run_float_arith W .quo _ .f32 _ _ _ h.quo
theorem FlOk.rmul (W : World) : (binOp .mul 29 (.float .f32 (fl z)) (.float .f32 1098907648)).run Tryz.prog W = .ok (.float .f32 (floatOfInt .f32 z)) W := run_float_arith W .mul _ .f32 _ _ _ h.mul
theorem FlOk.rsub (W : World) : (binOp .sub 29 (.float .f32 (fl z)) (.float .f32 (fl z))).run Tryz.prog W = .ok (.float .f32 0) W := run_float_arith W .sub _ .f32 _ _ _ h.sub
theorem FlOk.radd (W : World) : (binOp .add 29 (.float .f32 (fl z)) (.float .f32 0)).run Tryz.prog W = .ok (.float .f32 (fl z)) W := run_float_arith W .add _ .f32 _ _ _ h.add0
theorem FlOk.rint (W : World) : (convert 29 3 (.float .f32 (floatOfInt .f32 z))).run Tryz.prog W = .ok (.int .i64 z) W := run_convert_float_int W _ _ .f32 .i64 _ _ (by kernel_rfl) (by kernel_rfl) h.toI
omit h in
theorem FlOk.rflt (W : World) : (convert 3 29 (.int .i64 z)).run Tryz.prog W = .ok (.float .f32 (floatOfInt .f32 z)) W := run_convert_int_float W _ _ .i64 .f32 _ (by kernel_rfl) (by kernel_rfl)
theorem gWith1_any (w : World) : Calls Tryz.prog 53 #[encF z] w fun r w' => r = .returned (encF z) ∧ w = w' := by
  have q1 := fun W => h.radd W
  unfold encF
  go_enter Tryz.func53, Tryz.ntmps53
  go_wp2
  go_ret
  exact ⟨rfl, rfl⟩
theorem gSeq1_any (w : World) : Calls Tryz.prog 44 #[encF z] w fun r w' => r = .returned (.int .i64 z) ∧ w = w' := by
  have q1 := fun W => h.rmul W
  have q2 := fun W => h.rint W
  unfold encF
  go_enter Tryz.func44, Tryz.ntmps44
  go_wp2
  go_ret
  exact ⟨rfl, rfl⟩
theorem gSample_any (w : World) : Calls Tryz.prog 68 #[encF z] w fun r w' => r = .returned (.int .i64 0) ∧ w = w' := by
  have q1 := fun W => h.rmul W
  have q2 := fun W => h.rint W
  have q3 := fun W => FlOk.rflt (z := z) W
  have q4 := fun W => h.rsub W
  have q5 := h.lo
  have q6 := h.hi
  have q7 : FloatKind.f32.format.order (floatOfInt .f32 z) (floatOfInt .f32 z) = some .eq := h.eq
  unfold encF
  generalize fl z = F at *
  generalize floatOfInt .f32 z = G at *
  have q8 : FloatKind.f32.format.order 0 0 = some .eq := rfl
  go_enter Tryz.func68, Tryz.ntmps68
  go_wp2_with (go_at_call 27; refine (gWhen_any _ _ _).mono ?_; rintro r w' ⟨rfl, rfl⟩)
  go_ret
  exact ⟨rfl, rfl⟩
end
/-- all elements stand for small numbers. -/
def flL (l : List Int) : Prop := ∀ x ∈ l, FlOk x
theorem flL.get {l : List Int} (h : flL l) {k : Nat} (hk : k < l.length) : FlOk (l.getD k 0) := by
  rw [List.getD_eq_getElem?_getD, List.getElem?_eq_getElem hk]
  exact h _ (List.getElem_mem hk)
set_option maxRecDepth 100000 in
set_option maxHeartbeats 2000000 in
theorem checkAll_ok (l : List Int) (A : Option Addr) (c N : Nat) (w : World) (hN : N = l.length) (hN5 : N ≤ 5000) (hl : flL l) (hC : EC encF w A l) :
    Calls Tryz.prog 51 #[.slice A N c] w fun r w' => r = .returned (.int .i64 0) ∧ Below w.heap.size w w' := by
  have HC := Lib.hid hC
  have HN := Lib.hid hN
  have HS : Hid (∀ k, k < N → ∀ W, Calls Tryz.prog 68 #[encF (l.getD k 0)] W fun r w' => r = .returned (.int .i64 0) ∧ W = w') := Lib.hid (fun k hk W => gSample_any (hl.get (by omega)) W)
  clear hC hN hl
  go_enter Tryz.func51, Tryz.ntmps51
  go_wp2
  go_step3
  go_wp2
  go_step3
  go_wp2
  go_loopw [3, 8] (fun x z wr => ∃ k : Nat, k ≤ N ∧ z = (.int .i64 ((k : Int))) ∧ x = (.int .i64 0) ∧ Below w.heap.size w wr) (fun _ z _ => N - (intOf z).toNat)
  case atStart => exact ⟨0, Nat.zero_le _, rfl, rfl, Below.refl _ _⟩
  case round =>
    obtain ⟨k, hk, rfl, rfl, hbr⟩ := hrel
    have HBR := Lib.hid hbr
    by_cases hlt : k < N
    · obtain ⟨b, o, rfl, lb, hc⟩ := HC.out (by rw [← HN.out]; omega)
      have x1 := (hbr.cell (p := ⟨b, o + k, none⟩) lb).trans (hc k (by rw [← HN.out]; exact hlt))
      have HSX := Lib.hid (HS.out k hlt)
      obtain ⟨x, hx⟩ : ∃ x, x = encF (l.getD k 0) := ⟨_, rfl⟩
      rw [← hx] at x1 HSX
      clear hc hx hbr
      go_wp2_with (go_at_call 68; refine (HSX.out _).mono ?_; rintro r w' ⟨rfl, rfl⟩)
      go_roundw
      case rel => exact ⟨k + 1, by omega, by go_num, rfl, HBR.out⟩
      case measure => simp [intOf] <;> omega
    · obtain rfl : k = N := by omega
      clear hbr
      go_wp2
      rw [Exit.noGoto_ret]
      go_ret
      exact ⟨rfl, HBR.out⟩
end Go.Proofs.YtamldoidalnloaaGreatDoor

/- signal: mapped between integers and floats. -/
namespace Go.Proofs.YtamldoidalnloaaGreatDoor
open Go.RowKit
open Calm (bcell Blk)
theorem EC.cells {w : World} {A : Option Addr} {l : List Int} (h : EC (Value.int .i64) w A l) : Cells w A l := h
set_option maxRecDepth 100000 in
set_option maxHeartbeats 2000000 in
theorem mapWith_any (A : Option Addr) (l : List Int) (c N : Nat) (w : World) (hN : N = l.length) (hn : N ≤ 5000) (hl : flL l) (hC : EC encF w A l) :
    Calls Tryz.prog 52 #[.slice A N c, .func (.func 53) #[] #[]] w fun r w' =>
      (∃ B d, r = .returned (.slice B N d) ∧ EC encF w' B l ∧ ∀ p, B = some p → w.heap.size ≤ p.block) ∧ Below w.heap.size w w' := by
  have HC := Lib.hid hC
  have HN := Lib.hid hN
  have HKALL : Hid (∀ k, k < N → ∀ z, z = l.getD k 0 → ∀ W, Calls Tryz.prog 53 #[(.float .f32 (fl z))] W fun r w' => r = .returned (.float .f32 (fl z)) ∧ W = w') := Lib.hid (fun k hk z hz W => by rw [hz]; exact gWith1_any (hl.get (by omega)) W)
  have HL : Hid (∀ k, k ≤ N → (l.take k).length = k) := Lib.hid (fun k hk => by rw [List.length_take]; omega)
  have HALL : Hid (l.take N = l) := Lib.hid (by rw [hN]; exact List.take_length)
  have HSU : Hid (∀ k, k < N → l.take (k + 1) = l.take k ++ [l.getD k 0]) := Lib.hid (fun k hk => by rw [List.take_succ_eq_append_getElem (by omega), List.getD_eq_getElem?_getD, List.getElem?_eq_getElem (by omega)]; rfl)
  clear hN hC hl
  go_enter Tryz.func52, Tryz.ntmps52
  go_wp2
  go_loopw [5, 10] (fun v i wr => ∃ k : Nat, k ≤ N ∧ i = (.int .i64 ((k : Int))) ∧ wr.ownsRow w.heap.size 29 1 v (l.take k).length ((l.take k).map encF) ∧ Below w.heap.size w wr) (fun _ i _ => N - (intOf i).toNat)
  case atStart => exact ⟨0, Nat.zero_le _, rfl, World.ownsRow_nil _ _ _ _, Below.refl _ _⟩
  case round =>
    obtain ⟨k, hk, rfl, hown, hB⟩ := hrel
    have HO := Lib.hid hown
    have hle := Lib.hid (HL.out k hk)
    have hsz := hB.size
    clear hown
    by_cases hlt : k < N
    · obtain ⟨b, o, rfl, l1, k1⟩ := HC.out (by rw [← HN.out]; omega)
      have x1 := (hB.cell (p := ⟨b, o + k, none⟩) l1).trans (k1 k (by rw [← HN.out]; exact hlt))
      have HS := Lib.hid (HSU.out k hlt)
      obtain ⟨z, hz⟩ : ∃ z, z = l.getD k 0 := ⟨_, rfl⟩
      have HCX := Lib.hid (HKALL.out k hlt z hz)
      rw [← hz] at x1 HS
      have x1 : wr.cell? ⟨b, o + k, none⟩ = some (.float .f32 (fl z)) := x1
      clear k1 hz
      go_wp2_with (first
        | (go_at_call 53; refine (HCX.out _).mono ?_; rintro r w2 ⟨rfl, rfl⟩)
        | (at_builtin; refine name_list ?_; intro w3 e3; refine Hid.out ?_))
      unfold Hid
      have h3 : Below wr.heap.size wr w3 := by rw [e3]; exact bel
      have K3 : Blk w3 wr.heap.size #[(.float .f32 (fl z))] := by rw [e3]; exact Calm.Blk.new _ _ _
      have HO3 := Lib.hid (ownsRow_below HO.out h3)
      have HB3 := Lib.hid (hB.trans (h3.mono hsz))
      have hs3 := HB3.out.size
      have hEC : EC encF w3 (some ⟨wr.heap.size, 0, none⟩) [z] := EC.blk K3 rfl
      clear e3 h3 K3 hB
      refine wpList_appE eF (fun _ => rfl) rfl _ _ rfl w.heap.size _ (l.take k) rfl HO3.out _ 1 1 [z] rfl rfl hEC (by rw [hle.out]; omega) hs3 ?_
      intro v' w1 hown' hgrow
      have HB' := Lib.hid (HB3.out.grown hgrow hs3 (fun j hj => (HO3.out.lt j hj).1))
      have HO' := Lib.hid hown'
      clear hgrow hown' hEC
      go_wp2
      go_roundw
      case rel => exact ⟨k + 1, by omega, by go_num, by rw [HS.out]; exact HO'.out, HB'.out⟩
      case measure => simp [intOf]; omega
    · obtain rfl : k = N := by omega
      have hown := HO.out
      rw [hle.out, HALL.out] at hown
      obtain ⟨B, d, rfl, hge, hr⟩ := own_ec (enc := encF) hown HN.out
      have HR := Lib.hid hr
      have HG := Lib.hid hge
      clear hown hr hge
      go_wp2
      go_ret
      exact ⟨⟨B, d, rfl, HR.out, HG.out⟩, hB⟩
set_option maxRecDepth 100000 in
set_option maxHeartbeats 2000000 in
theorem mapSeq_any (A : Option Addr) (l : List Int) (c N : Nat) (w : World) (hN : N = l.length) (hn : N ≤ 5000) (hl : flL l) (hC : EC encF w A l) :
    Calls Tryz.prog 43 #[.slice A N c, .func (.func 44) #[] #[]] w fun r w' =>
      (∃ B d, r = .returned (.slice B N d) ∧ EC (Value.int .i64) w' B l ∧ ∀ p, B = some p → w.heap.size ≤ p.block) ∧ Below w.heap.size w w' := by
  have HC := Lib.hid hC
  have HN := Lib.hid hN
  have HKALL : Hid (∀ k, k < N → ∀ z, z = l.getD k 0 → ∀ W, Calls Tryz.prog 44 #[(.float .f32 (fl z))] W fun r w' => r = .returned (.int .i64 z) ∧ W = w') := Lib.hid (fun k hk z hz W => by rw [hz]; exact gSeq1_any (hl.get (by omega)) W)
  have HL : Hid (∀ k, k ≤ N → (l.take k).length = k) := Lib.hid (fun k hk => by rw [List.length_take]; omega)
  have HALL : Hid (l.take N = l) := Lib.hid (by rw [hN]; exact List.take_length)
  have HSU : Hid (∀ k, k < N → l.take (k + 1) = l.take k ++ [l.getD k 0]) := Lib.hid (fun k hk => by rw [List.take_succ_eq_append_getElem (by omega), List.getD_eq_getElem?_getD, List.getElem?_eq_getElem (by omega)]; rfl)
  clear hN hC hl
  go_enter Tryz.func43, Tryz.ntmps43
  go_wp2
  go_loopw [5, 10] (fun v i wr => ∃ k : Nat, k ≤ N ∧ i = (.int .i64 ((k : Int))) ∧ wr.ownsRow w.heap.size 3 1 v (l.take k).length ((l.take k).map (Value.int .i64)) ∧ Below w.heap.size w wr) (fun _ i _ => N - (intOf i).toNat)
  case atStart => exact ⟨0, Nat.zero_le _, rfl, World.ownsRow_nil _ _ _ _, Below.refl _ _⟩
  case round =>
    obtain ⟨k, hk, rfl, hown, hB⟩ := hrel
    have HO := Lib.hid hown
    have hle := Lib.hid (HL.out k hk)
    have hsz := hB.size
    clear hown
    by_cases hlt : k < N
    · obtain ⟨b, o, rfl, l1, k1⟩ := HC.out (by rw [← HN.out]; omega)
      have x1 := (hB.cell (p := ⟨b, o + k, none⟩) l1).trans (k1 k (by rw [← HN.out]; exact hlt))
      have HS := Lib.hid (HSU.out k hlt)
      obtain ⟨z, hz⟩ : ∃ z, z = l.getD k 0 := ⟨_, rfl⟩
      have HCX := Lib.hid (HKALL.out k hlt z hz)
      rw [← hz] at x1 HS
      have x1 : wr.cell? ⟨b, o + k, none⟩ = some (.float .f32 (fl z)) := x1
      clear k1 hz
      go_wp2_with (first
        | (go_at_call 44; refine (HCX.out _).mono ?_; rintro r w2 ⟨rfl, rfl⟩)
        | (at_builtin; refine name_list ?_; intro w3 e3; refine Hid.out ?_))
      unfold Hid
      have h3 : Below wr.heap.size wr w3 := by rw [e3]; exact bel
      have K3 : Blk w3 wr.heap.size #[(.int .i64 z)] := by rw [e3]; exact Calm.Blk.new _ _ _
      have HO3 := Lib.hid (ownsRow_below HO.out h3)
      have HB3 := Lib.hid (hB.trans (h3.mono hsz))
      have hs3 := HB3.out.size
      have hEC : EC (Value.int .i64) w3 (some ⟨wr.heap.size, 0, none⟩) [z] := EC.blk K3 rfl
      clear e3 h3 K3 hB
      refine wpList_appE eI (fun _ => rfl) rfl _ _ rfl w.heap.size _ (l.take k) rfl HO3.out _ 1 1 [z] rfl rfl hEC (by rw [hle.out]; omega) hs3 ?_
      intro v' w1 hown' hgrow
      have HB' := Lib.hid (HB3.out.grown hgrow hs3 (fun j hj => (HO3.out.lt j hj).1))
      have HO' := Lib.hid hown'
      clear hgrow hown' hEC
      go_wp2
      go_roundw
      case rel => exact ⟨k + 1, by omega, by go_num, by rw [HS.out]; exact HO'.out, HB'.out⟩
      case measure => simp [intOf]; omega
    · obtain rfl : k = N := by omega
      have hown := HO.out
      rw [hle.out, HALL.out] at hown
      obtain ⟨B, d, rfl, hge, hr⟩ := own_ec (enc := (Value.int .i64)) hown HN.out
      have HR := Lib.hid hr
      have HG := Lib.hid hge
      clear hown hr hge
      go_wp2
      go_ret
      exact ⟨⟨B, d, rfl, HR.out, HG.out⟩, hB⟩
end Go.Proofs.YtamldoidalnloaaGreatDoor

/- slices.Equal of equal lists; Deconvolve of the answers of a response. -/
namespace Go.Proofs.YtamldoidalnloaaGreatDoor
open Go.RowKit
open Calm (bcell Blk)
theorem Cells.undefer {W : World} {B : Option Addr} {l : List Int} {d : Nat} {x : Option (List Deferred)} (h : Cells W B l) (D : W.heap[d]? = some (.deferred x)) : Cells (W.putObj d (.deferred none)) B l := fun h0 => by
  obtain ⟨b, off, rfl, hl, hcc⟩ := h h0
  have hbn : b ≠ d := fun e => by
    have := hcc 0 h0
    unfold World.cell? at this
    rw [show (⟨b, off + 0, none⟩ : Addr).block = d from e, D] at this
    cases this
  exact ⟨b, off, rfl, by simpa using hl, fun k hk => (World.cell?_of_block (w := W) (a := ⟨b, off + k, none⟩) (World.putObj_heap_other (by omega))).trans (hcc k hk)⟩
end Go.Proofs.YtamldoidalnloaaGreatDoor

/- chamber's energy and Gate. -/
namespace Go.Proofs.YtamldoidalnloaaGreatDoor
open Go.RowKit
open Calm (bcell Blk)
end Go.Proofs.YtamldoidalnloaaGreatDoor

/- slices.Backward as an iterator; chamber's decay and Decay. -/
namespace Go.Proofs.YtamldoidalnloaaGreatDoor
open Go.RowKit
open Calm (bcell Blk)
theorem range_split {k N : Nat} (h : k < N) : List.range N = List.range k ++ k :: (List.range N).drop (k + 1) := by
  conv => lhs; rw [← List.take_append_drop k (List.range N)]
  congr 1
  · rw [List.take_range, Nat.min_eq_left (by omega)]
  · rw [List.drop_eq_getElem_cons (by simpa using h)]
    simp
theorem range_pre {N x : Nat} {pre : List Nat} (h : ∃ post, List.range N = pre ++ x :: post) : x < N ∧ pre.length = x := by
  obtain ⟨post, h⟩ := h
  have h1 : (List.range N)[pre.length]? = some x := by rw [h]; simp
  have h2 : pre.length < N := by
    rcases Nat.lt_or_ge pre.length N with q | q
    · exact q
    · rw [List.getElem?_eq_none (by simpa using q)] at h1; cases h1
  rw [List.getElem?_range h2] at h1
  cases h1
  exact ⟨h2, rfl⟩
end Go.Proofs.YtamldoidalnloaaGreatDoor

/- chamber's find and Reflection. -/
namespace Go.Proofs.YtamldoidalnloaaGreatDoor
open Go.RowKit
open Calm (bcell Blk)
end Go.Proofs.YtamldoidalnloaaGreatDoor

/- Contracts of the small functions of the package line. -/
namespace Go.Proofs.YtamldoidalnloaaGreatDoor
open Go.RowKit
open Calm (bcell Blk)
end Go.Proofs.YtamldoidalnloaaGreatDoor

/- Names of one letter; a unit by itself. -/
namespace Go.Proofs.YtamldoidalnloaaGreatDoor
open Go.RowKit
open Calm (bcell Blk)
end Go.Proofs.YtamldoidalnloaaGreatDoor

/- Contracts of From and Run (sections that hold). -/
namespace Go.Proofs.YtamldoidalnloaaGreatDoor
open Go.RowKit
open Calm (bcell Blk)

end Go.Proofs.YtamldoidalnloaaGreatDoor

/- Contract of Cascade (sections and a signal that hold). -/
namespace Go.Proofs.YtamldoidalnloaaGreatDoor
open Go.RowKit
open Calm (bcell Blk)

end Go.Proofs.YtamldoidalnloaaGreatDoor

/- Contracts of the references: First, CheckRange, SameInts, CheckInput, CheckValue, CheckSignal. -/
namespace Go.Proofs.YtamldoidalnloaaGreatDoor
open Go.RowKit
open Calm (bcell Blk)

theorem qRange_any (n lo hi : Int) (w : World) : Calls Tryz.prog 22 #[(.int .i64 n), (.int .i64 lo), (.int .i64 hi)] w fun r w' => r = .returned (.int .i64 (rangeErr n lo hi)) ∧ w = w' := by
  rcases Int.lt_or_le n lo with h | h
  · go_enter Tryz.func22, Tryz.ntmps22
    go_wp2
    go_ret
    exact ⟨ret_i (rangeErr_lo h).symm, rfl⟩
  · rcases Int.lt_or_le hi n with h' | h'
    · go_enter Tryz.func22, Tryz.ntmps22
      go_wp2
      go_ret
      exact ⟨ret_i (rangeErr_hi h').symm, rfl⟩
    · go_enter Tryz.func22, Tryz.ntmps22
      go_wp2
      go_ret
      exact ⟨ret_i (rangeErr_in (by omega) (by omega)).symm, rfl⟩
theorem qFirst_any (l : List Int) (A : Option Addr) (c : Nat) (w : World) (hl : l.length ≤ 5000) (hC : Cells w A l) :
    Calls Tryz.prog 20 #[.slice A l.length c] w fun r w' => r = .returned (.int .i64 (firstOf l)) ∧ w = w' := by
  go_enter Tryz.func20, Tryz.ntmps20
  go_wp2
  go_loop [3] (fun i => ∃ k : Nat, k ≤ l.length ∧ i = (.int .i64 k) ∧ ∀ j, j < k → l.getD j 0 = 0) (fun i => l.length - (intOf i).toNat)
  case atStart => exact ⟨0, Nat.zero_le _, rfl, fun j hj => by omega⟩
  case round =>
    obtain ⟨k, hk, rfl, hz⟩ := hrel
    have HZ := Lib.hid hz
    clear hz
    by_cases hlt : k < l.length
    · obtain ⟨b, off, rfl, hbl, hc⟩ := hC (by omega)
      have hck := hc k hlt
      clear hc hC
      by_cases h0 : l.getD k 0 = 0
      · rw [h0] at hck
        have H0 := Lib.hid h0
        clear h0
        go_wp2
        go_round
        case rel => exact ⟨k + 1, by omega, by go_num, fun j hj => by
          rcases Nat.lt_or_ge j k with hjk | hjk
          · exact HZ.out j hjk
          · obtain rfl : j = k := by omega
            exact H0.out⟩
        case measure => simp [intOf]; omega
      · obtain ⟨x, hx⟩ : ∃ x, x = l.getD k 0 := ⟨_, rfl⟩
        rw [← hx] at hck h0
        have H0 := Lib.hid hx
        clear hx
        go_wp2
        go_ret
        exact ⟨ret_i (by rw [firstOf_take HZ.out hlt (by rw [← H0.out]; exact h0)]; exact H0.out), rfl⟩
    · clear hC
      go_wp2
      go_ret
      exact ⟨ret_i (by rw [firstOf_zero (fun j hj => HZ.out j (by omega))]), rfl⟩
set_option maxRecDepth 100000 in
set_option maxHeartbeats 4000000 in
theorem sameInts_any (A B : Option Addr) (a b : List Int) (ca cb : Nat) (w : World) (hA : Cells w A a) (hB : Cells w B b) (h1 : a.length ≤ 100000) (h2 : b.length ≤ 100000) :
    Calls Tryz.prog 17 #[.slice A a.length ca, .slice B b.length cb] w fun x w' => x = .returned (.bool (decide (a = b))) ∧ Below w.heap.size w w' := by
  obtain ⟨E, hE⟩ : ∃ E, E = decide (a = b) := ⟨_, rfl⟩
  have HE := Lib.hid hE
  have HCA := Lib.hid hA
  have HCB := Lib.hid hB
  obtain ⟨N, hN⟩ : ∃ N, N = a.length := ⟨_, rfl⟩
  obtain ⟨M, hM⟩ : ∃ M, M = b.length := ⟨_, rfl⟩
  have HN := Lib.hid hN
  have HM := Lib.hid hM
  rw [← hE]
  rw [← hN] at h1 ⊢
  rw [← hM] at h2 ⊢
  clear hE hA hB hN hM
  by_cases hnm : N = M
  · have HNM := Lib.hid hnm
    subst hnm
    go_enter Tryz.func17, Tryz.ntmps17
    go_wp2
    go_loopw [5] (fun i wr => ∃ k : Nat, k ≤ N ∧ i = (.int .i64 ((k : Nat))) ∧ (∀ j, j < k → a.getD j 0 = b.getD j 0) ∧ Below w.heap.size w wr) (fun i _ => N - (intOf i).toNat)
    case atStart => exact ⟨0, by omega, rfl, fun j hj => by omega, Below.refl _ _⟩
    case round =>
      obtain ⟨k, hk, rfl, hz, hBr⟩ := hrel
      have HZ := Lib.hid hz
      have HBR := Lib.hid hBr
      have hszr := hBr.size
      clear hz hBr
      by_cases hlt : k < N
      · have l1 : k < a.length := by rw [← HN.out]; exact hlt
        have l2 : k < b.length := by rw [← HM.out]; exact hlt
        obtain ⟨g, o, rfl, q1, k1⟩ := (HCA.out.below HBR.out) (by omega)
        obtain ⟨g', o', rfl, q2, k2⟩ := (HCB.out.below HBR.out) (by omega)
        have y1 := k1 k l1
        have y2 := k2 k l2
        obtain ⟨x, hx⟩ : ∃ x, x = a.getD k 0 := ⟨_, rfl⟩
        obtain ⟨y, hy⟩ : ∃ y, y = b.getD k 0 := ⟨_, rfl⟩
        rw [← hx] at y1
        rw [← hy] at y2
        have HX := Lib.hid hx
        have HY := Lib.hid hy
        clear k1 k2 hx hy l1 l2
        by_cases hxy : x = y
        · subst hxy
          go_wp2
          refine Calm.tail_below 8 (by kernel_rfl) (by kernel_rfl) ?_
          simp only [List.take_succ_cons, List.take_zero, List.drop_succ_cons, List.drop_zero]
          repeat (first | (apply Calm.op_move; (focus rfl); (focus (first | exact .inl rfl | exact .inr rfl)); (focus ((try simp only [Act.eval, Array.getD_eq_getD_getElem?, List.getElem?_toArray, List.getElem?_cons_succ, List.getElem?_cons_zero, Option.getD_some]); rfl)); (try simp only [Act.put, List.setIfInBounds_toArray, List.set_cons_zero, List.set_cons_succ])) | (apply Calm.op_not; (focus rfl); (try simp only [Act.put, List.setIfInBounds_toArray, List.set_cons_zero, List.set_cons_succ])) | (apply Calm.op; (focus rfl); (focus (intro W hb; obtain ⟨hc, hf⟩ := bcell hb; clear hb hf; go_simp; (try go_bits); (try rfl); done)); (try simp only [Act.put, List.setIfInBounds_toArray, List.set_cons_zero, List.set_cons_succ])))
          refine wpQuiet_nil ?_
          intro w2 hb2
          obtain ⟨hb2c, hb2f⟩ := bcell hb2
          have hb2z := hb2.size
          (try simp at hb2z)
          (try have hb2z0 : w.heap.size < w2.heap.size := by omega)
          (try have hb2z1 : w.heap.size + 1 < w2.heap.size := by omega)
          (try have hb2z2 : w.heap.size + 1 + 1 < w2.heap.size := by omega)
          (try have hb2z3 : w.heap.size + 1 + 1 + 1 < w2.heap.size := by omega)
          (try have hb2z4 : w.heap.size + 1 + 1 + 1 + 1 < w2.heap.size := by omega)
          (try have hb2z5 : w.heap.size + 1 + 1 + 1 + 1 + 1 < w2.heap.size := by omega)
          go_wp2
          go_roundw
          case rel =>
            refine ⟨k + 1, by omega, by go_num, fun j hj => ?_, HBR.out.trans (hb2.mono hszr)⟩
            rcases Nat.lt_or_ge j k with h | h
            · exact HZ.out j h
            · obtain rfl : j = k := by omega
              rw [← HX.out, ← HY.out]
          case measure => simp [intOf]; omega
        · have HEE := Lib.hid (show E = false by
            rw [HE.out]
            refine decide_eq_false (fun e => hxy ?_)
            rw [HX.out, HY.out, e])
          go_wp2
          refine Calm.tail_below 8 (by kernel_rfl) (by kernel_rfl) ?_
          simp only [List.take_succ_cons, List.take_zero, List.drop_succ_cons, List.drop_zero]
          repeat (first | (apply Calm.op_move; (focus rfl); (focus (first | exact .inl rfl | exact .inr rfl)); (focus ((try simp only [Act.eval, Array.getD_eq_getD_getElem?, List.getElem?_toArray, List.getElem?_cons_succ, List.getElem?_cons_zero, Option.getD_some]); rfl)); (try simp only [Act.put, List.setIfInBounds_toArray, List.set_cons_zero, List.set_cons_succ])) | (apply Calm.op_not; (focus rfl); (try simp only [Act.put, List.setIfInBounds_toArray, List.set_cons_zero, List.set_cons_succ])) | (apply Calm.op; (focus rfl); (focus (intro W hb; obtain ⟨hc, hf⟩ := bcell hb; clear hb hf; go_simp; (try go_bits); (try rfl); done)); (try simp only [Act.put, List.setIfInBounds_toArray, List.set_cons_zero, List.set_cons_succ])))
          refine wpQuiet_nil ?_
          intro w2 hb2
          obtain ⟨hb2c, hb2f⟩ := bcell hb2
          have hb2z := hb2.size
          (try simp at hb2z)
          (try have hb2z0 : w.heap.size < w2.heap.size := by omega)
          (try have hb2z1 : w.heap.size + 1 < w2.heap.size := by omega)
          (try have hb2z2 : w.heap.size + 1 + 1 < w2.heap.size := by omega)
          (try have hb2z3 : w.heap.size + 1 + 1 + 1 < w2.heap.size := by omega)
          (try have hb2z4 : w.heap.size + 1 + 1 + 1 + 1 < w2.heap.size := by omega)
          (try have hb2z5 : w.heap.size + 1 + 1 + 1 + 1 + 1 < w2.heap.size := by omega)
          go_wp2
          go_ret
          exact ⟨by rw [HEE.out]; rfl, HBR.out.trans (hb2.mono hszr)⟩
      · obtain rfl : k = N := by omega
        have HEE := Lib.hid (show E = true by
          rw [HE.out]
          refine decide_eq_true (List.ext_getElem? fun i => ?_)
          have hl : a.length = b.length := HN.out.symm.trans HM.out
          rcases Nat.lt_or_ge i a.length with h | h
          · have := HZ.out i (by rw [HN.out]; exact h)
            simpa [h, show i < b.length by omega] using this
          · rw [List.getElem?_eq_none h, List.getElem?_eq_none (by omega)])
        go_wp2
        go_ret
        exact ⟨by rw [HEE.out]; rfl, HBR.out⟩
  · have HEE := Lib.hid (show E = false by
      rw [HE.out]
      refine decide_eq_false (fun e => hnm ?_)
      rw [HN.out, HM.out, e])
    have hnm2 : ¬ (N : Int) = (M : Int) := by omega
    go_enter Tryz.func17, Tryz.ntmps17
    go_wp2
    go_ret
    exact ⟨by rw [HEE.out]; rfl, Below.refl _ _⟩
end Go.Proofs.YtamldoidalnloaaGreatDoor

/- Contracts of the reference's numbers, CheckSection, CheckSections. -/
namespace Go.Proofs.YtamldoidalnloaaGreatDoor
open Go.RowKit
open Calm (bcell Blk)

end Go.Proofs.YtamldoidalnloaaGreatDoor

/- A guard's error, number by number; a guard without error is valid. No walk. -/
namespace Go.Proofs.YtamldoidalnloaaGreatDoor
open Go.RowKit

/-- the error, from the first number that is not yet known to be right. -/
def G1 (gs : List Int) (l : List Int) : Int := if firstOf l = 0 then guardErr2 gs else firstOf l
end Go.Proofs.YtamldoidalnloaaGreatDoor

/- protect.Loudest. -/
namespace Go.Proofs.YtamldoidalnloaaGreatDoor
open Go.RowKit
open Calm (bcell Blk)

end Go.Proofs.YtamldoidalnloaaGreatDoor

/- Contracts of checkHeat, checkValue and CheckState. -/
namespace Go.Proofs.YtamldoidalnloaaGreatDoor
open Go.RowKit
open Calm (bcell Blk)

end Go.Proofs.YtamldoidalnloaaGreatDoor

/- Contracts of Begin, safe, Safe, Tails. -/
namespace Go.Proofs.YtamldoidalnloaaGreatDoor
open Go.RowKit
open Calm (bcell Blk)

/-- a valid guard and state. -/
structure StV (lk ht rc : Int) (ts gs : List Int) (h lv : Int) (ps : List Int) : Prop where
  g : guardErr lk ht rc ts gs = 0
  v : Valid lk ht rc ts gs
  h : 0 ≤ h ∧ h ≤ 536870912
  lv : 0 ≤ lv ∧ lv < gs.length
  pl : ts.length = ps.length + 1
  pb : inB 2048 ps
end Go.Proofs.YtamldoidalnloaaGreatDoor

/- Contracts of safe, Safe, Tails. -/
namespace Go.Proofs.YtamldoidalnloaaGreatDoor
open Go.RowKit
open Calm (bcell Blk)

end Go.Proofs.YtamldoidalnloaaGreatDoor

/- Contracts of Behind and Step. -/
namespace Go.Proofs.YtamldoidalnloaaGreatDoor
open Go.RowKit
open Calm (bcell Blk)

end Go.Proofs.YtamldoidalnloaaGreatDoor

/- Contract of Step. -/
namespace Go.Proofs.YtamldoidalnloaaGreatDoor
open Go.RowKit
open Calm (bcell Blk)

end Go.Proofs.YtamldoidalnloaaGreatDoor

/- Contract of Release. -/
namespace Go.Proofs.YtamldoidalnloaaGreatDoor
open Go.RowKit
open Calm (bcell Blk)

end Go.Proofs.YtamldoidalnloaaGreatDoor

/- Contracts of slices.Equal, Run, Levels, Peaks and CheckRun. -/
namespace Go.Proofs.YtamldoidalnloaaGreatDoor
open Go.RowKit
open Calm (bcell Blk)

end Go.Proofs.YtamldoidalnloaaGreatDoor

/- Contracts of CheckRun (with a right length), steady, Steady. -/
namespace Go.Proofs.YtamldoidalnloaaGreatDoor
open Go.RowKit
open Calm (bcell Blk)

end Go.Proofs.YtamldoidalnloaaGreatDoor

/- Plain laws: a heat that cools. -/
namespace Go.Proofs.YtamldoidalnloaaGreatDoor
open Go.RowKit

end Go.Proofs.YtamldoidalnloaaGreatDoor

/- Plain laws: the weight of the taps, the steady output, the quiet input. -/
namespace Go.Proofs.YtamldoidalnloaaGreatDoor
open Go.RowKit

end Go.Proofs.YtamldoidalnloaaGreatDoor

/- Contract of weight. -/
namespace Go.Proofs.YtamldoidalnloaaGreatDoor
open Go.RowKit
open Calm (bcell Blk)

end Go.Proofs.YtamldoidalnloaaGreatDoor

/- Contracts of Steady and Quiet. -/
namespace Go.Proofs.YtamldoidalnloaaGreatDoor
open Go.RowKit
open Calm (bcell Blk)

end Go.Proofs.YtamldoidalnloaaGreatDoor

/- Contract of Cool: a map that the call makes holds the heats that were seen. -/
namespace Go.Proofs.YtamldoidalnloaaGreatDoor
open Go.RowKit
open Calm (bcell Blk)
open Go.Maps (Keyed)

end Go.Proofs.YtamldoidalnloaaGreatDoor

/- CheckUnits of four units that are known. -/
namespace Go.Proofs.YtamldoidalnloaaGreatDoor
open Go.RowKit
open Calm (bcell Blk)
/-- the four units: a 5, b 1, c 4, d 2. -/
structure US (W : World) (ub v0 v1 v2 v3 : Nat) : Prop where
  u : Blk W ub #[.string ⟨#[97]⟩, .slice (some ⟨v0, 0, none⟩) 1 1, .string ⟨#[98]⟩, .slice (some ⟨v1, 0, none⟩) 1 1, .string ⟨#[99]⟩, .slice (some ⟨v2, 0, none⟩) 1 1, .string ⟨#[100]⟩, .slice (some ⟨v3, 0, none⟩) 1 1]
  k0 : Blk W v0 #[(.int .i64 5)]
  k1 : Blk W v1 #[(.int .i64 1)]
  k2 : Blk W v2 #[(.int .i64 4)]
  k3 : Blk W v3 #[(.int .i64 2)]
end Go.Proofs.YtamldoidalnloaaGreatDoor

/- signal: records that hold: CheckRecord, with, checked, OfSequence, Sequence. -/
namespace Go.Proofs.YtamldoidalnloaaGreatDoor
open Go.RowKit
open Calm (bcell Blk)
/-- a name that the program takes for one. -/
structure NmOk (nm : ByteArray) : Prop where
  call : ∀ W, Calls Tryz.prog 42 #[.string nm] W fun r w' => r = .returned (.int .i64 0) ∧ Below W.heap.size W w'
  len : nm.size ≤ 24
theorem gRange_ok (n lo hi : Int) (h : lo ≤ n ∧ n ≤ hi) (W : World) : Calls Tryz.prog 26 #[(.int .i64 n), (.int .i64 lo), (.int .i64 hi)] W fun r w' => r = .returned (.int .i64 0) ∧ Below W.heap.size W w' :=
  (gWithin_any n lo hi W).mono fun _ _ ⟨he, h2⟩ => ⟨by rw [he, rangeErr_in h.1 h.2], h2 ▸ Below.refl _ _⟩
theorem gWhen_no (e : Int) (W : World) : Calls Tryz.prog 27 #[.bool false, (.int .i64 e)] W fun r w' => r = .returned (.int .i64 0) ∧ Below W.heap.size W w' := (gWhen_any false e W).mono fun _ _ ⟨he, h2⟩ => ⟨he, h2 ▸ Below.refl _ _⟩
set_option maxRecDepth 100000 in
set_option maxHeartbeats 4000000 in
theorem checkRecord_ok (nm : ByteArray) (rate : Int) (l : List Int) (A : Option Addr) (c N : Nat) (w : World) (hnm : NmOk nm) (hr : 1 ≤ rate ∧ rate ≤ 192000) (hN : N = l.length) (hN5 : N ≤ 4096) (hl : flL l) (hC : EC encF w A l) :
    Calls Tryz.prog 25 #[.agg #[.string nm, (.int .i64 rate), .slice A N c]] w fun r w' => r = .returned (.int .i64 0) ∧ Below w.heap.size w w' := by
  have HNM := Lib.hid hnm.call
  have HWI := Lib.hid (gRange_ok rate 1 192000 hr)
  have HWH := Lib.hid gWhen_no
  have HF3 : Hid (∀ (W : World), Calls Tryz.prog 24 #[.slice (some ⟨W.heap.size, 0, none⟩) 3 3] (W.alloc (.cells #[(.int .i64 0), (.int .i64 0), (.int .i64 0)] 31)) fun r w' => r = .returned (.int .i64 0) ∧ (W.alloc (.cells #[(.int .i64 0), (.int .i64 0), (.int .i64 0)] 31)) = w') := Lib.hid (fun W => gFirst_cells [0, 0, 0] W (by simp))
  have HCA : Hid (∀ W, EC encF W A l → Calls Tryz.prog 51 #[.slice A N c] W fun r w' => r = .returned (.int .i64 0) ∧ Below W.heap.size W w') := Lib.hid (fun W q => checkAll_ok l A c N W hN (by omega) hl q)
  have HC := Lib.hid hC
  have hgt : decide ((4096 : Int) < (N : Int)) = false := decide_eq_false (by omega)
  clear hnm hN hl hC hr
  go_enter Tryz.func25, Tryz.ntmps25
  go_wp2
  refine name_world ?_
  intro w1 e1
  have K0 : Blk w1 w.heap.size #[.string nm, (.int .i64 rate), .slice A N c] := by rw [e1]; (repeat (first | ((with_reducible refine Blk.at_ ?_); focus (first | rfl | (simp; done) | (simp; omega))) | (with_reducible refine Blk.alloc ?_ _) | (with_reducible refine Blk.below ?_ (by with_reducible assumption)) | (with_reducible refine Blk.drew ?_)))
  have HB1 := Lib.hid (show Below w.heap.size w w1 by rw [e1]; exact bel)
  have HK0 := Lib.hid K0
  obtain ⟨a0, a1, a2, al, af⟩ := K0.o3
  clear e1 K0
  refine Rel.region3 11 (by kernel_rfl) (by kernel_rfl) (by kernel_rfl) ?_
  simp only [List.take_succ_cons, List.take_zero, List.drop_succ_cons, List.drop_zero, List.filterMap_cons, List.filterMap_nil]
  iterate 2 (apply Rel.op3; (focus (first | exact Rel.gno rfl | exact Rel.gyes _ true _ rfl rfl rfl | exact Rel.gyes _ false _ rfl rfl rfl)); (focus (intro a W hb hd hbase; obtain ⟨hc, hf⟩ := bcell hb; clear hb hf; simp [Rel.deps, Rel.dep1, Rel.ons, Region.binds, Act.eval] at hd; simp only [Act.eval, List.mem_cons, List.not_mem_nil, not_or, and_imp, or_false, Array.getD_eq_getD_getElem?] at hbase; go_simp; (try go_bits); (try rfl); done)); (try simp only [List.nil_append, List.cons_append]))
  (apply Rel.call3; (focus (first | exact Rel.gno rfl | exact Rel.gyes _ true _ rfl rfl rfl | exact Rel.gyes _ false _ rfl rfl rfl)); (focus (intro a W hb hd hbase; obtain ⟨hc, hf⟩ := bcell hb; clear hb hf; simp [Rel.deps, Rel.dep1, Rel.ons, Region.binds, Act.eval] at hd; simp only [Act.eval, List.mem_cons, List.not_mem_nil, not_or, and_imp, or_false, Array.getD_eq_getD_getElem?] at hbase; go_simp; refine ⟨?_, ?_⟩; rfl; rfl)); (focus (intro W hb; go_at_call 42; exact HNM.out W)); (try simp only [List.nil_append, List.cons_append]))
  iterate 2 (apply Rel.op3; (focus (first | exact Rel.gno rfl | exact Rel.gyes _ true _ rfl rfl rfl | exact Rel.gyes _ false _ rfl rfl rfl)); (focus (intro a W hb hd hbase; obtain ⟨hc, hf⟩ := bcell hb; clear hb hf; simp [Rel.deps, Rel.dep1, Rel.ons, Region.binds, Act.eval] at hd; simp only [Act.eval, List.mem_cons, List.not_mem_nil, not_or, and_imp, or_false, Array.getD_eq_getD_getElem?] at hbase; go_simp; (try go_bits); (try rfl); done)); (try simp only [List.nil_append, List.cons_append]))
  (apply Rel.call3; (focus (first | exact Rel.gno rfl | exact Rel.gyes _ true _ rfl rfl rfl | exact Rel.gyes _ false _ rfl rfl rfl)); (focus (intro a W hb hd hbase; obtain ⟨hc, hf⟩ := bcell hb; clear hb hf; simp [Rel.deps, Rel.dep1, Rel.ons, Region.binds, Act.eval] at hd; simp only [Act.eval, List.mem_cons, List.not_mem_nil, not_or, and_imp, or_false, Array.getD_eq_getD_getElem?] at hbase; go_simp; refine ⟨?_, ?_⟩; rfl; rfl)); (focus (intro W hb; go_at_call 26; exact HWI.out W)); (try simp only [List.nil_append, List.cons_append]))
  iterate 3 (apply Rel.op3; (focus (first | exact Rel.gno rfl | exact Rel.gyes _ true _ rfl rfl rfl | exact Rel.gyes _ false _ rfl rfl rfl)); (focus (intro a W hb hd hbase; obtain ⟨hc, hf⟩ := bcell hb; clear hb hf; simp [Rel.deps, Rel.dep1, Rel.ons, Region.binds, Act.eval] at hd; simp only [Act.eval, List.mem_cons, List.not_mem_nil, not_or, and_imp, or_false, Array.getD_eq_getD_getElem?] at hbase; go_simp; (try go_bits); (try rfl); done)); (try simp only [List.nil_append, List.cons_append]))
  (apply Rel.op3 (.bool false); (focus (first | exact Rel.gno rfl | exact Rel.gyes _ true _ rfl rfl rfl | exact Rel.gyes _ false _ rfl rfl rfl)); (focus (intro a W hb hd hbase; obtain ⟨hc, hf⟩ := bcell hb; clear hb hf; simp [Rel.deps, Rel.dep1, Rel.ons, Region.binds, Act.eval] at hd; simp only [Act.eval, List.mem_cons, List.not_mem_nil, not_or, and_imp, or_false, Array.getD_eq_getD_getElem?] at hbase; go_simp; (try go_bits); (try rfl); done)); (try simp only [List.nil_append, List.cons_append]))
  (apply Rel.call3; (focus (first | exact Rel.gno rfl | exact Rel.gyes _ true _ rfl rfl rfl | exact Rel.gyes _ false _ rfl rfl rfl)); (focus (intro a W hb hd hbase; obtain ⟨hc, hf⟩ := bcell hb; clear hb hf; simp [Rel.deps, Rel.dep1, Rel.ons, Region.binds, Act.eval] at hd; simp only [Act.eval, List.mem_cons, List.not_mem_nil, not_or, and_imp, or_false, Array.getD_eq_getD_getElem?] at hbase; go_simp; refine ⟨?_, ?_⟩; rfl; rfl)); (focus (intro W hb; go_at_call 27; exact HWH.out 5 W)); (try simp only [List.nil_append, List.cons_append]))
  refine Rel.done3 ?_
  intro x w2 hb2 hx
  simp only [Rel.facts, Nat.zero_add, Nat.reduceAdd] at hx
  obtain ⟨e0, e1, e2, e3, e4, e5, e6, e7, e8, e9, e10, _⟩ := hx
  simp only [Rel.fill, Nat.zero_add, Nat.reduceAdd, e0, e1, e2, e3, e4, e5, e6, e7, e8, e9, e10]
  simp only [Act.put, List.setIfInBounds_toArray, List.set_cons_zero, List.set_cons_succ]
  clear e0 e1 e2 e3 e4 e5 e6 e7 e8 e9 e10
  have HB2 := Lib.hid (HB1.out.trans (hb2.mono HB1.out.size))
  have K02 := Lib.hid (HK0.out.below hb2)
  clear hb2 a0 a1 a2 al af
  go_wp2_with (go_at_call 24; refine (HF3.out _).mono ?_; rintro r wx ⟨rfl, rfl⟩; refine Hid.out ?_)
  unfold Hid
  obtain ⟨a0, a1, a2, al, af⟩ := (K02.out.alloc (.cells #[(.int .i64 0), (.int .i64 0), (.int .i64 0)] 31)).o3
  go_wp2_with (go_at_call 51; refine name_calls ?_; intro w3 e3; refine Hid.out ?_)
  unfold Hid
  have h3 : Below w2.heap.size w2 w3 := by rw [e3]; exact bel
  have HB3 := Lib.hid (HB2.out.trans (h3.mono HB2.out.size))
  clear e3 h3 a0 a1 a2 al af
  refine (HCA.out w3 (HC.out.below HB3.out)).mono ?_
  rintro r w4 ⟨rfl, h4⟩
  have HB4 := Lib.hid (HB3.out.trans (h4.mono HB3.out.size))
  clear h4
  go_wp2
  go_ret
  exact ⟨rfl, HB4.out⟩
end Go.Proofs.YtamldoidalnloaaGreatDoor

/- signal: with, checked, OfSequence, Sequence. -/
namespace Go.Proofs.YtamldoidalnloaaGreatDoor
open Go.RowKit
open Calm (bcell Blk)
theorem EC.far {enc : Int → Value} {w : World} {A : Option Addr} {l : List Int} (h : EC enc w A l) {p : Addr} (hp : ∀ q, A = some q → q.block ≠ p.block) (v : Value) : EC enc (w.setCell p v) A l := fun h0 => by
  obtain ⟨b, o, rfl, hl, hc⟩ := h h0
  have e : (w.setCell p v).heap[b]? = w.heap[b]? := Below.heap_setCell _ _ _ _ (fun e => hp _ rfl e)
  exact ⟨b, o, rfl, by simpa using hl, fun k hk => (World.cell?_of_block (w := w) (a := ⟨b, o + k, none⟩) e).trans (hc k hk)⟩
set_option maxRecDepth 100000 in
set_option maxHeartbeats 4000000 in
theorem with_any (nm : ByteArray) (rate : Int) (l : List Int) (A A0 : Option Addr) (c N n0 c0 : Nat) (w : World) (hN : N = l.length) (hN5 : N ≤ 5000) (hl : flL l) (hC : EC encF w A l) :
    Calls Tryz.prog 28 #[.agg #[.string nm, (.int .i64 rate), .slice A0 n0 c0], .slice A N c] w fun r w' => (∃ B d, r = .returned (.agg #[.string nm, (.int .i64 rate), .slice B N d]) ∧ EC encF w' B l ∧ ∀ p, B = some p → w.heap.size ≤ p.block) ∧ Below w.heap.size w w' := by
  have HM : Hid (∀ W, EC encF W A l → Calls Tryz.prog 52 #[.slice A N c, .func (.func 53) #[] #[]] W fun r w' => (∃ B d, r = .returned (.slice B N d) ∧ EC encF w' B l ∧ ∀ p, B = some p → W.heap.size ≤ p.block) ∧ Below W.heap.size W w') := Lib.hid (fun W q => mapWith_any A l c N W hN hN5 hl q)
  have HC := Lib.hid hC
  clear hC hN hl
  go_enter Tryz.func28, Tryz.ntmps28
  go_wp2_with (go_at_call 52; refine name_calls ?_; intro w1 e1; refine Hid.out ?_)
  unfold Hid
  have K0 : Blk w1 w.heap.size #[.string nm, (.int .i64 rate), .slice A0 n0 c0] := by rw [e1]; (repeat (first | ((with_reducible refine Blk.at_ ?_); focus (first | rfl | (simp; done) | (simp; omega))) | (with_reducible refine Blk.alloc ?_ _) | (with_reducible refine Blk.below ?_ (by with_reducible assumption)) | (with_reducible refine Blk.drew ?_)))
  have K1 : Blk w1 (w.heap.size + 1) #[.string ⟨#[]⟩, (.int .i64 0), .slice none 0 0] := by rw [e1]; (repeat (first | ((with_reducible refine Blk.at_ ?_); focus (first | rfl | (simp; done) | (simp; omega))) | (with_reducible refine Blk.alloc ?_ _) | (with_reducible refine Blk.below ?_ (by with_reducible assumption)) | (with_reducible refine Blk.drew ?_)))
  have HB1 := Lib.hid (show Below w.heap.size w w1 by rw [e1]; exact bel)
  have HZ : w.heap.size + 1 < w1.heap.size := K1.lt
  clear e1
  refine (HM.out w1 (HC.out.below HB1.out)).mono ?_
  rintro r w2 ⟨⟨B, d, rfl, hb, hf⟩, h2⟩
  have HB2 := Lib.hid (HB1.out.trans (h2.mono HB1.out.size))
  have HK0 := Lib.hid (K0.below h2)
  have HK1 := Lib.hid (K1.below h2)
  have HBF := Lib.hid hb
  have HF := Lib.hid hf
  obtain ⟨a0, a1, a2, al, af⟩ := HK0.out.o3
  obtain ⟨b0, b1, b2, bl, bf⟩ := HK1.out.o3
  clear hb hf h2 K0 K1
  go_wp2
  refine name_post ?_
  intro wz ez
  have KZ : Blk wz (w.heap.size + 1) #[.string nm, (.int .i64 rate), .slice B N d] := by
    rw [ez]
    exact (((HK1.out.far (p := ⟨w.heap.size, 2, none⟩) (by simp) _).set (i := 0) (by simp) _).set (i := 1) (by simp) _).set (i := 2) (by simp) _
  have HCZ : EC encF wz B l := by
    rw [ez]
    exact (((HBF.out.far (p := ⟨w.heap.size, 2, none⟩) (fun q hq => by have := HF.out q hq; simp only; omega) _).far (p := ⟨w.heap.size + 1, 0, none⟩) (fun q hq => by have := HF.out q hq; simp only; omega) _).far (p := ⟨w.heap.size + 1, 1, none⟩) (fun q hq => by have := HF.out q hq; simp only; omega) _).far (p := ⟨w.heap.size + 1, 2, none⟩) (fun q hq => by have := HF.out q hq; simp only; omega) _
  have HBZ : Below w.heap.size w wz := by
    rw [ez]
    exact (((HB2.out.setCell (p := ⟨w.heap.size, 2, none⟩) (Nat.le_refl _) _).setCell (p := ⟨w.heap.size + 1, 0, none⟩) (by simp) _).setCell (p := ⟨w.heap.size + 1, 1, none⟩) (by simp) _).setCell (p := ⟨w.heap.size + 1, 2, none⟩) (by simp) _
  obtain ⟨k0, k1, k2, -, -⟩ := KZ.o3
  clear ez
  refine bodyPost_ret (v := .agg #[.string nm, (.int .i64 rate), .slice B N d]) (by simp [results, Tryz.results28, go_sem, k0, k1, k2]) rfl ⟨⟨B, d, rfl, HCZ, fun p hp => by have := HF.out p hp; omega⟩, HBZ⟩
set_option maxRecDepth 100000 in
set_option maxHeartbeats 4000000 in
theorem checked_any (nm : ByteArray) (rate : Int) (l : List Int) (A : Option Addr) (c N : Nat) (w : World) (hN : N = l.length) (hN5 : N ≤ 5000) (hl : flL l) (hC : EC encF w A l) :
    Calls Tryz.prog 30 #[.agg #[.string nm, (.int .i64 rate), .slice A N c]] w fun r w' => (∃ B d, r = .returned (.tuple #[.agg #[.string nm, (.int .i64 rate), .slice B N d], (.int .i64 0)]) ∧ EC encF w' B l ∧ ∀ p, B = some p → w.heap.size ≤ p.block) ∧ Below w.heap.size w w' := by
  have HW : Hid (∀ W, EC encF W A l → Calls Tryz.prog 28 #[.agg #[.string nm, (.int .i64 rate), .slice A N c], .slice A N c] W fun r w' => (∃ B d, r = .returned (.agg #[.string nm, (.int .i64 rate), .slice B N d]) ∧ EC encF w' B l ∧ ∀ p, B = some p → W.heap.size ≤ p.block) ∧ Below W.heap.size W w') := Lib.hid (fun W q => with_any nm rate l A A c N N c W hN hN5 hl q)
  have HCA : Hid (∀ W, EC encF W A l → Calls Tryz.prog 51 #[.slice A N c] W fun r w' => r = .returned (.int .i64 0) ∧ Below W.heap.size W w') := Lib.hid (fun W q => checkAll_ok l A c N W hN (by omega) hl q)
  have HC := Lib.hid hC
  clear hC hN hl
  go_enter Tryz.func30, Tryz.ntmps30
  go_wp2_with (go_at_call 51; refine name_calls ?_; intro w1 e1; refine Hid.out ?_)
  unfold Hid
  have K0 : Blk w1 w.heap.size #[.string nm, (.int .i64 rate), .slice A N c] := by rw [e1]; (repeat (first | ((with_reducible refine Blk.at_ ?_); focus (first | rfl | (simp; done) | (simp; omega))) | (with_reducible refine Blk.alloc ?_ _) | (with_reducible refine Blk.below ?_ (by with_reducible assumption)) | (with_reducible refine Blk.drew ?_)))
  have K1 : Blk w1 (w.heap.size + 1) #[.string ⟨#[]⟩, (.int .i64 0), .slice none 0 0] := by rw [e1]; (repeat (first | ((with_reducible refine Blk.at_ ?_); focus (first | rfl | (simp; done) | (simp; omega))) | (with_reducible refine Blk.alloc ?_ _) | (with_reducible refine Blk.below ?_ (by with_reducible assumption)) | (with_reducible refine Blk.drew ?_)))
  have HB1 := Lib.hid (show Below w.heap.size w w1 by rw [e1]; exact bel)
  have HZ : w.heap.size + 1 < w1.heap.size := K1.lt
  clear e1
  refine (HCA.out w1 (HC.out.below HB1.out)).mono ?_
  rintro r w2 ⟨rfl, h2⟩
  have HB2 := Lib.hid (HB1.out.trans (h2.mono HB1.out.size))
  have HK1 := Lib.hid (K1.below h2)
  have HK0 := Lib.hid (K0.below h2)
  obtain ⟨a0, a1, a2, al, af⟩ := HK0.out.o3
  have hz2 := h2.size
  clear h2 K0 K1
  go_wp2_with (go_at_call 28; refine (HW.out w2 (HC.out.below HB2.out)).mono ?_; rintro r w3 ⟨⟨B, d, rfl, hb, hf⟩, h3⟩; refine Hid.out ?_)
  unfold Hid
  have HB3 := Lib.hid (HB2.out.trans (h3.mono HB2.out.size))
  have HK13 := Lib.hid (HK1.out.below h3)
  have HBF := Lib.hid hb
  have HF := Lib.hid hf
  obtain ⟨b0, b1, b2, bl, bf⟩ := HK13.out.o3
  clear hb hf h3 a0 a1 a2 al af
  go_wp2
  refine name_post ?_
  intro wz ez
  have KZ : Blk wz (w.heap.size + 1) #[.string nm, (.int .i64 rate), .slice B N d] := by
    rw [ez]
    exact ((HK13.out.set (i := 0) (by simp) _).set (i := 1) (by simp) _).set (i := 2) (by simp) _
  have HCZ : EC encF wz B l := by
    rw [ez]
    exact ((HBF.out.far (p := ⟨w.heap.size + 1, 0, none⟩) (fun q hq => by have := HF.out q hq; simp only; omega) _).far (p := ⟨w.heap.size + 1, 1, none⟩) (fun q hq => by have := HF.out q hq; simp only; omega) _).far (p := ⟨w.heap.size + 1, 2, none⟩) (fun q hq => by have := HF.out q hq; simp only; omega) _
  have HBZ : Below w.heap.size w wz := by
    rw [ez]
    exact ((HB3.out.setCell (p := ⟨w.heap.size + 1, 0, none⟩) (by simp) _).setCell (p := ⟨w.heap.size + 1, 1, none⟩) (by simp) _).setCell (p := ⟨w.heap.size + 1, 2, none⟩) (by simp) _
  obtain ⟨k0, k1, k2, -, -⟩ := KZ.o3
  clear ez
  refine bodyPost_ret (v := .tuple #[.agg #[.string nm, (.int .i64 rate), .slice B N d], (.int .i64 0)]) (by simp [results, Tryz.results30, go_sem, k0, k1, k2]) rfl ⟨⟨B, d, rfl, HCZ, fun p hp => by have := HF.out p hp; omega⟩, HBZ⟩
set_option maxRecDepth 100000 in
set_option maxHeartbeats 4000000 in
theorem sequence_ok (nm : ByteArray) (rate : Int) (l : List Int) (A : Option Addr) (c N : Nat) (w : World) (hnm : NmOk nm) (hr : 1 ≤ rate ∧ rate ≤ 192000) (hN : N = l.length) (hN5 : N ≤ 4096) (hl : flL l) (hC : EC encF w A l) :
    Calls Tryz.prog 15 #[.agg #[.string nm, (.int .i64 rate), .slice A N c]] w fun r w' => (∃ B d, r = .returned (.tuple #[.slice B N d, (.int .i64 0)]) ∧ Cells w' B l ∧ ∀ p, B = some p → w.heap.size ≤ p.block) ∧ Below w.heap.size w w' := by
  have HCR : Hid (∀ W, EC encF W A l → Calls Tryz.prog 25 #[.agg #[.string nm, (.int .i64 rate), .slice A N c]] W fun r w' => r = .returned (.int .i64 0) ∧ Below W.heap.size W w') := Lib.hid (fun W q => checkRecord_ok nm rate l A c N W hnm hr hN hN5 hl q)
  have HM : Hid (∀ W, EC encF W A l → Calls Tryz.prog 43 #[.slice A N c, .func (.func 44) #[] #[]] W fun r w' => (∃ B d, r = .returned (.slice B N d) ∧ EC (Value.int .i64) w' B l ∧ ∀ p, B = some p → W.heap.size ≤ p.block) ∧ Below W.heap.size W w') := Lib.hid (fun W q => mapSeq_any A l c N W hN (by omega) hl q)
  have HC := Lib.hid hC
  clear hC hN hl hr hnm
  go_enter Tryz.func15, Tryz.ntmps15
  go_wp2_with (go_at_call 25; refine name_calls ?_; intro w1 e1; refine Hid.out ?_)
  unfold Hid
  have K0 : Blk w1 w.heap.size #[.string nm, (.int .i64 rate), .slice A N c] := by rw [e1]; (repeat (first | ((with_reducible refine Blk.at_ ?_); focus (first | rfl | (simp; done) | (simp; omega))) | (with_reducible refine Blk.alloc ?_ _) | (with_reducible refine Blk.below ?_ (by with_reducible assumption)) | (with_reducible refine Blk.drew ?_)))
  have HB1 := Lib.hid (show Below w.heap.size w w1 by rw [e1]; exact bel)
  clear e1
  refine (HCR.out w1 (HC.out.below HB1.out)).mono ?_
  rintro r w2 ⟨rfl, h2⟩
  have HB2 := Lib.hid (HB1.out.trans (h2.mono HB1.out.size))
  obtain ⟨a0, a1, a2, al, af⟩ := (K0.below h2).o3
  clear h2 K0
  go_wp2_with (go_at_call 43; refine (HM.out w2 (HC.out.below HB2.out)).mono ?_; rintro r w3 ⟨⟨B, d, rfl, hb, hf⟩, h3⟩; refine Hid.out ?_)
  unfold Hid
  have HB3 := Lib.hid (HB2.out.trans (h3.mono HB2.out.size))
  have HBF := Lib.hid hb
  have HF : Hid (∀ p, B = some p → w.heap.size ≤ p.block) := Lib.hid (fun p hp => Nat.le_trans HB2.out.size (hf p hp))
  clear hb hf h3 a0 a1 a2 al af
  go_wp2
  refine bodyPost_ret (v := .tuple #[.slice B N d, (.int .i64 0)]) (by simp [results, Tryz.results15, go_sem]) rfl ⟨⟨B, d, rfl, HBF.out.cells, HF.out⟩, HB3.out⟩
end Go.Proofs.YtamldoidalnloaaGreatDoor
