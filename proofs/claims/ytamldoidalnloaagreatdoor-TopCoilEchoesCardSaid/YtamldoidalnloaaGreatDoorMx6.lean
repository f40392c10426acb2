/- Part 6 of the texts of the claim: Ti0, Ti1, Ti2, Ti3. -/
import Derived.Test.YtamldoidalnloaaGreatDoorMx5
import Derived.Laws.CopyRow

/- signal: samples of any bits that CheckSample takes (-0 too): CheckSample, checkAll, mapped. -/
namespace Go.Proofs.YtamldoidalnloaaGreatDoor
open Go.RowKit
open Calm (bcell Blk)
/-- what is known of a float x that stands for z sixteenths; g: 16 times it. -/
structure SOk (x g : Nat) (z : Int) : Prop where
  mul : floatBits .mul .f32 x 1098907648 = some g
  sub : floatBits .sub .f32 x x = some 0
  add0 : floatBits .add .f32 x 0 = some (fl z)
  toI : floatToIntVal .f32 g .i64 = some z
  lo : (FloatKind.f32.format.order x 3305111552 == some .lt) = false
  hi : (FloatKind.f32.format.order x 1157627904 == some .gt) = false
  eq : FloatKind.f32.format.order (floatOfInt .f32 z) g = some .eq
theorem FlOk.sok {z : Int} (h : FlOk z) : SOk (fl z) (fi z) z := ⟨h.mul, h.sub, h.add0, h.toI, h.lo, h.hi, h.eq⟩
theorem sok_nz : SOk 2147483648 2147483648 0 := ⟨by decide, by decide, by decide, by decide, by decide, by decide, by decide⟩
section
variable {x g : Nat} {z : Int} (h : SOk x g z)
include h
theorem SOk.rmul (W : World) : (binOp .mul 29 (.float .f32 x) (.float .f32 1098907648)).run Tryz.prog W = .ok (.float .f32 g) W := run_float_arith W .mul _ .f32 _ _ _ h.mul
theorem SOk.rsub (W : World) : (binOp .sub 29 (.float .f32 x) (.float .f32 x)).run Tryz.prog W = .ok (.float .f32 0) W := run_float_arith W .sub _ .f32 _ _ _ h.sub
theorem SOk.radd (W : World) : (binOp .add 29 (.float .f32 x) (.float .f32 0)).run Tryz.prog W = .ok (.float .f32 (fl z)) W := run_float_arith W .add _ .f32 _ _ _ h.add0
theorem SOk.rint (W : World) : (convert 29 3 (.float .f32 g)).run Tryz.prog W = .ok (.int .i64 z) W := run_convert_float_int W _ _ .f32 .i64 _ _ (by kernel_rfl) (by kernel_rfl) h.toI
theorem gWith1_raw (w : World) : Calls Tryz.prog 53 #[.float .f32 x] w fun r w' => r = .returned (encF z) ∧ w = w' := by
  have q1 := fun W => h.radd W
  unfold encF
  generalize fl z = F at *
  go_enter Tryz.func53, Tryz.ntmps53
  go_wp2
  go_ret
  exact ⟨rfl, rfl⟩
theorem gSeq1_raw (w : World) : Calls Tryz.prog 44 #[.float .f32 x] w fun r w' => r = .returned (.int .i64 z) ∧ w = w' := by
  have q1 := fun W => h.rmul W
  have q2 := fun W => h.rint W
  go_enter Tryz.func44, Tryz.ntmps44
  go_wp2
  go_ret
  exact ⟨rfl, rfl⟩
theorem gSample_raw (w : World) : Calls Tryz.prog 68 #[.float .f32 x] w fun r w' => r = .returned (.int .i64 0) ∧ w = w' := by
  have q1 := fun W => h.rmul W
  have q2 := fun W => h.rint W
  have q3 := fun W => FlOk.rflt (z := z) W
  have q4 := fun W => h.rsub W
  have q5 := h.lo
  have q6 := h.hi
  have q7 := h.eq
  generalize floatOfInt .f32 z = G at *
  have q8 : FloatKind.f32.format.order 0 0 = some .eq := rfl
  go_enter Tryz.func68, Tryz.ntmps68
  go_wp2_with (go_at_call 27; refine (gWhen_any _ _ _).mono ?_; rintro r w' ⟨rfl, rfl⟩)
  go_ret
  exact ⟨rfl, rfl⟩
end
/-- floats xb c that stand for vz c sixteenths. -/
def rawOk (xb : Int → Nat) (vz : Int → Int) (l : List Int) : Prop := ∀ c ∈ l, ∃ g, SOk (xb c) g (vz c)
def encW (xb : Int → Nat) (c : Int) : Value := .float .f32 (xb c)
theorem rawOk.get {xb : Int → Nat} {vz : Int → Int} {l : List Int} (h : rawOk xb vz l) {k : Nat} (hk : k < l.length) : ∃ g, SOk (xb (l.getD k 0)) g (vz (l.getD k 0)) := by
  rw [List.getD_eq_getElem?_getD, List.getElem?_eq_getElem hk]
  exact h _ (List.getElem_mem hk)
set_option maxRecDepth 100000 in
set_option maxHeartbeats 2000000 in
theorem checkAll_raw (xb : Int → Nat) (vz : Int → Int) (l : List Int) (A : Option Addr) (c N : Nat) (w : World) (hN : N = l.length) (hN5 : N ≤ 5000) (hl : rawOk xb vz l) (hC : EC (encW xb) w A l) :
    Calls Tryz.prog 51 #[.slice A N c] w fun r w' => r = .returned (.int .i64 0) ∧ Below w.heap.size w w' := by
  have HC := Lib.hid hC
  have HN := Lib.hid hN
  have HS : Hid (∀ k, k < N → ∀ W, Calls Tryz.prog 68 #[.float .f32 (xb (l.getD k 0))] W fun r w' => r = .returned (.int .i64 0) ∧ W = w') := Lib.hid (fun k hk W => (by obtain ⟨g, hg⟩ := hl.get (k := k) (by omega); exact gSample_raw hg W))
  clear hC hN hl
  go_enter Tryz.func51, Tryz.ntmps51
  go_wp2
  go_step3
  go_wp2
  go_step3
  go_wp2
  go_loopw [3, 8] (fun x z wr => ∃ k : Nat, k ≤ N ∧ z = (.int .i64 ((k : Int))) ∧ x = (.int .i64 0) ∧ Below w.heap.size w wr) (fun _ z _ => N - (intOf z).toNat)
  case atStart => exact ⟨0, Nat.zero_le _, rfl, rfl, Below.refl _ _⟩
  case round =>
    obtain ⟨k, hk, rfl, rfl, hbr⟩ := hrel
    have HBR := Lib.hid hbr
    by_cases hlt : k < N
    · obtain ⟨b, o, rfl, lb, hc⟩ := HC.out (by rw [← HN.out]; omega)
      have x1 := (hbr.cell (p := ⟨b, o + k, none⟩) lb).trans (hc k (by rw [← HN.out]; exact hlt))
      have HSX := Lib.hid (HS.out k hlt)
      replace x1 : wr.cell? ⟨b, o + k, none⟩ = some (.float .f32 (xb (l.getD k 0))) := x1
      obtain ⟨x, hx⟩ : ∃ x, x = xb (l.getD k 0) := ⟨_, rfl⟩
      rw [← hx] at x1 HSX
      clear hc hx hbr
      go_wp2_with (go_at_call 68; refine (HSX.out _).mono ?_; rintro r w' ⟨rfl, rfl⟩)
      go_roundw
      case rel => exact ⟨k + 1, by omega, by go_num, rfl, HBR.out⟩
      case measure => simp [intOf] <;> omega
    · obtain rfl : k = N := by omega
      clear hbr
      go_wp2
      rw [Exit.noGoto_ret]
      go_ret
      exact ⟨rfl, HBR.out⟩
set_option maxRecDepth 100000 in
set_option maxHeartbeats 2000000 in
theorem mapWith_raw (xb : Int → Nat) (vz : Int → Int) (A : Option Addr) (l : List Int) (c N : Nat) (w : World) (hN : N = l.length) (hn : N ≤ 5000) (hl : rawOk xb vz l) (hC : EC (encW xb) w A l) :
    Calls Tryz.prog 52 #[.slice A N c, .func (.func 53) #[] #[]] w fun r w' =>
      (∃ B d, r = .returned (.slice B N d) ∧ EC encF w' B (l.map vz) ∧ ∀ p, B = some p → w.heap.size ≤ p.block) ∧ Below w.heap.size w w' := by
  have HC := Lib.hid hC
  have HN := Lib.hid hN
  have HKALL : Hid (∀ k, k < N → ∀ z x, z = vz (l.getD k 0) → x = xb (l.getD k 0) → ∀ W, Calls Tryz.prog 53 #[.float .f32 x] W fun r w' => r = .returned (.float .f32 (fl z)) ∧ W = w') := Lib.hid (fun k hk z x hz hx W => by rw [hz, hx]; obtain ⟨g, hg⟩ := hl.get (k := k) (by omega); exact gWith1_raw hg W)
  have HL : Hid (∀ k, k ≤ N → ((l.map vz).take k).length = k) := Lib.hid (fun k hk => by rw [List.length_take, List.length_map]; omega)
  have HALL : Hid ((l.map vz).take N = l.map vz) := Lib.hid (by have := List.take_length (l := l.map vz); rwa [List.length_map, ← hN] at this)
  have HNM : Hid (N = (l.map vz).length) := Lib.hid (by rw [List.length_map]; exact hN)
  have HSU : Hid (∀ k, k < N → (l.map vz).take (k + 1) = (l.map vz).take k ++ [vz (l.getD k 0)]) := Lib.hid (fun k hk => by rw [List.take_succ_eq_append_getElem (by rw [List.length_map]; omega), List.getElem_map, List.getD_eq_getElem?_getD, List.getElem?_eq_getElem (show k < l.length by omega)]; rfl)
  clear hN hC hl
  go_enter Tryz.func52, Tryz.ntmps52
  go_wp2
  go_loopw [5, 10] (fun v i wr => ∃ k : Nat, k ≤ N ∧ i = (.int .i64 ((k : Int))) ∧ wr.ownsRow w.heap.size 29 1 v ((l.map vz).take k).length (((l.map vz).take k).map encF) ∧ Below w.heap.size w wr) (fun _ i _ => N - (intOf i).toNat)
  case atStart => exact ⟨0, Nat.zero_le _, rfl, World.ownsRow_nil _ _ _ _, Below.refl _ _⟩
  case round =>
    obtain ⟨k, hk, rfl, hown, hB⟩ := hrel
    have HO := Lib.hid hown
    have hle := Lib.hid (HL.out k hk)
    have hsz := hB.size
    clear hown
    by_cases hlt : k < N
    · obtain ⟨b, o, rfl, l1, k1⟩ := HC.out (by rw [← HN.out]; omega)
      have x1 := (hB.cell (p := ⟨b, o + k, none⟩) l1).trans (k1 k (by rw [← HN.out]; exact hlt))
      have HS := Lib.hid (HSU.out k hlt)
      obtain ⟨z, hz⟩ : ∃ z, z = vz (l.getD k 0) := ⟨_, rfl⟩
      replace x1 : wr.cell? ⟨b, o + k, none⟩ = some (.float .f32 (xb (l.getD k 0))) := x1
      obtain ⟨x, hx⟩ : ∃ x, x = xb (l.getD k 0) := ⟨_, rfl⟩
      have HCX := Lib.hid (HKALL.out k hlt z x hz hx)
      rw [← hx] at x1
      rw [← hz] at HS
      clear k1 hz hx
      go_wp2_with (first
        | (go_at_call 53; refine (HCX.out _).mono ?_; rintro r w2 ⟨rfl, rfl⟩)
        | (at_builtin; refine name_list ?_; intro w3 e3; refine Hid.out ?_))
      unfold Hid
      have h3 : Below wr.heap.size wr w3 := by rw [e3]; exact bel
      have K3 : Blk w3 wr.heap.size #[(.float .f32 (fl z))] := by rw [e3]; exact Calm.Blk.new _ _ _
      have HO3 := Lib.hid (ownsRow_below HO.out h3)
      have HB3 := Lib.hid (hB.trans (h3.mono hsz))
      have hs3 := HB3.out.size
      have hEC : EC encF w3 (some ⟨wr.heap.size, 0, none⟩) [z] := EC.blk K3 rfl
      clear e3 h3 K3 hB
      refine wpList_appE eF (fun _ => rfl) rfl _ _ rfl w.heap.size _ ((l.map vz).take k) rfl HO3.out _ 1 1 [z] rfl rfl hEC (by rw [hle.out]; omega) hs3 ?_
      intro v' w1 hown' hgrow
      have HB' := Lib.hid (HB3.out.grown hgrow hs3 (fun j hj => (HO3.out.lt j hj).1))
      have HO' := Lib.hid hown'
      clear hgrow hown' hEC
      go_wp2
      go_roundw
      case rel => exact ⟨k + 1, by omega, by go_num, by rw [HS.out]; exact HO'.out, HB'.out⟩
      case measure => simp [intOf]; omega
    · obtain rfl : k = N := by omega
      have hown := HO.out
      rw [hle.out, HALL.out] at hown
      obtain ⟨B, d, rfl, hge, hr⟩ := own_ec (enc := encF) hown HNM.out
      have HR := Lib.hid hr
      have HG := Lib.hid hge
      clear hown hr hge
      go_wp2
      go_ret
      exact ⟨⟨B, d, rfl, HR.out, HG.out⟩, hB⟩
set_option maxRecDepth 100000 in
set_option maxHeartbeats 2000000 in
theorem mapSeq_raw (xb : Int → Nat) (vz : Int → Int) (A : Option Addr) (l : List Int) (c N : Nat) (w : World) (hN : N = l.length) (hn : N ≤ 5000) (hl : rawOk xb vz l) (hC : EC (encW xb) w A l) :
    Calls Tryz.prog 43 #[.slice A N c, .func (.func 44) #[] #[]] w fun r w' =>
      (∃ B d, r = .returned (.slice B N d) ∧ EC (Value.int .i64) w' B (l.map vz) ∧ ∀ p, B = some p → w.heap.size ≤ p.block) ∧ Below w.heap.size w w' := by
  have HC := Lib.hid hC
  have HN := Lib.hid hN
  have HKALL : Hid (∀ k, k < N → ∀ z x, z = vz (l.getD k 0) → x = xb (l.getD k 0) → ∀ W, Calls Tryz.prog 44 #[.float .f32 x] W fun r w' => r = .returned (.int .i64 z) ∧ W = w') := Lib.hid (fun k hk z x hz hx W => by rw [hz, hx]; obtain ⟨g, hg⟩ := hl.get (k := k) (by omega); exact gSeq1_raw hg W)
  have HL : Hid (∀ k, k ≤ N → ((l.map vz).take k).length = k) := Lib.hid (fun k hk => by rw [List.length_take, List.length_map]; omega)
  have HALL : Hid ((l.map vz).take N = l.map vz) := Lib.hid (by have := List.take_length (l := l.map vz); rwa [List.length_map, ← hN] at this)
  have HNM : Hid (N = (l.map vz).length) := Lib.hid (by rw [List.length_map]; exact hN)
  have HSU : Hid (∀ k, k < N → (l.map vz).take (k + 1) = (l.map vz).take k ++ [vz (l.getD k 0)]) := Lib.hid (fun k hk => by rw [List.take_succ_eq_append_getElem (by rw [List.length_map]; omega), List.getElem_map, List.getD_eq_getElem?_getD, List.getElem?_eq_getElem (show k < l.length by omega)]; rfl)
  clear hN hC hl
  go_enter Tryz.func43, Tryz.ntmps43
  go_wp2
  go_loopw [5, 10] (fun v i wr => ∃ k : Nat, k ≤ N ∧ i = (.int .i64 ((k : Int))) ∧ wr.ownsRow w.heap.size 3 1 v ((l.map vz).take k).length (((l.map vz).take k).map (Value.int .i64)) ∧ Below w.heap.size w wr) (fun _ i _ => N - (intOf i).toNat)
  case atStart => exact ⟨0, Nat.zero_le _, rfl, World.ownsRow_nil _ _ _ _, Below.refl _ _⟩
  case round =>
    obtain ⟨k, hk, rfl, hown, hB⟩ := hrel
    have HO := Lib.hid hown
    have hle := Lib.hid (HL.out k hk)
    have hsz := hB.size
    clear hown
    by_cases hlt : k < N
    · obtain ⟨b, o, rfl, l1, k1⟩ := HC.out (by rw [← HN.out]; omega)
      have x1 := (hB.cell (p := ⟨b, o + k, none⟩) l1).trans (k1 k (by rw [← HN.out]; exact hlt))
      have HS := Lib.hid (HSU.out k hlt)
      obtain ⟨z, hz⟩ : ∃ z, z = vz (l.getD k 0) := ⟨_, rfl⟩
      replace x1 : wr.cell? ⟨b, o + k, none⟩ = some (.float .f32 (xb (l.getD k 0))) := x1
      obtain ⟨x, hx⟩ : ∃ x, x = xb (l.getD k 0) := ⟨_, rfl⟩
      have HCX := Lib.hid (HKALL.out k hlt z x hz hx)
      rw [← hx] at x1
      rw [← hz] at HS
      clear k1 hz hx
      go_wp2_with (first
        | (go_at_call 44; refine (HCX.out _).mono ?_; rintro r w2 ⟨rfl, rfl⟩)
        | (at_builtin; refine name_list ?_; intro w3 e3; refine Hid.out ?_))
      unfold Hid
      have h3 : Below wr.heap.size wr w3 := by rw [e3]; exact bel
      have K3 : Blk w3 wr.heap.size #[(.int .i64 z)] := by rw [e3]; exact Calm.Blk.new _ _ _
      have HO3 := Lib.hid (ownsRow_below HO.out h3)
      have HB3 := Lib.hid (hB.trans (h3.mono hsz))
      have hs3 := HB3.out.size
      have hEC : EC (Value.int .i64) w3 (some ⟨wr.heap.size, 0, none⟩) [z] := EC.blk K3 rfl
      clear e3 h3 K3 hB
      refine wpList_appE eI (fun _ => rfl) rfl _ _ rfl w.heap.size _ ((l.map vz).take k) rfl HO3.out _ 1 1 [z] rfl rfl hEC (by rw [hle.out]; omega) hs3 ?_
      intro v' w1 hown' hgrow
      have HB' := Lib.hid (HB3.out.grown hgrow hs3 (fun j hj => (HO3.out.lt j hj).1))
      have HO' := Lib.hid hown'
      clear hgrow hown' hEC
      go_wp2
      go_roundw
      case rel => exact ⟨k + 1, by omega, by go_num, by rw [HS.out]; exact HO'.out, HB'.out⟩
      case measure => simp [intOf]; omega
    · obtain rfl : k = N := by omega
      have hown := HO.out
      rw [hle.out, HALL.out] at hown
      obtain ⟨B, d, rfl, hge, hr⟩ := own_ec (enc := (Value.int .i64)) hown HNM.out
      have HR := Lib.hid hr
      have HG := Lib.hid hge
      clear hown hr hge
      go_wp2
      go_ret
      exact ⟨⟨B, d, rfl, HR.out, HG.out⟩, hB⟩
end Go.Proofs.YtamldoidalnloaaGreatDoor

/- signal: records whose samples may be -0: CheckRecord, with, Sequence. -/
namespace Go.Proofs.YtamldoidalnloaaGreatDoor
open Go.RowKit
open Calm (bcell Blk)
set_option maxRecDepth 100000 in
set_option maxHeartbeats 4000000 in
theorem checkRecord_raw (xb : Int → Nat) (vz : Int → Int) (nm : ByteArray) (rate : Int) (l : List Int) (A : Option Addr) (c N : Nat) (w : World) (hnm : NmOk nm) (hr : 1 ≤ rate ∧ rate ≤ 192000) (hN : N = l.length) (hN5 : N ≤ 4096) (hl : rawOk xb vz l) (hC : EC (encW xb) w A l) :
    Calls Tryz.prog 25 #[.agg #[.string nm, (.int .i64 rate), .slice A N c]] w fun r w' => r = .returned (.int .i64 0) ∧ Below w.heap.size w w' := by
  have HNM := Lib.hid hnm.call
  have HWI := Lib.hid (gRange_ok rate 1 192000 hr)
  have HWH := Lib.hid gWhen_no
  have HF3 : Hid (∀ (W : World), Calls Tryz.prog 24 #[.slice (some ⟨W.heap.size, 0, none⟩) 3 3] (W.alloc (.cells #[(.int .i64 0), (.int .i64 0), (.int .i64 0)] 31)) fun r w' => r = .returned (.int .i64 0) ∧ (W.alloc (.cells #[(.int .i64 0), (.int .i64 0), (.int .i64 0)] 31)) = w') := Lib.hid (fun W => gFirst_cells [0, 0, 0] W (by simp))
  have HCA : Hid (∀ W, EC (encW xb) W A l → Calls Tryz.prog 51 #[.slice A N c] W fun r w' => r = .returned (.int .i64 0) ∧ Below W.heap.size W w') := Lib.hid (fun W q => checkAll_raw xb vz l A c N W hN (by omega) hl q)
  have HC := Lib.hid hC
  have hgt : decide ((4096 : Int) < (N : Int)) = false := decide_eq_false (by omega)
  clear hnm hN hl hC hr
  go_enter Tryz.func25, Tryz.ntmps25
  go_wp2
  refine name_world ?_
  intro w1 e1
  have K0 : Blk w1 w.heap.size #[.string nm, (.int .i64 rate), .slice A N c] := by rw [e1]; (repeat (first | ((with_reducible refine Blk.at_ ?_); focus (first | rfl | (simp; done) | (simp; omega))) | (with_reducible refine Blk.alloc ?_ _) | (with_reducible refine Blk.below ?_ (by with_reducible assumption)) | (with_reducible refine Blk.drew ?_)))
  have HB1 := Lib.hid (show Below w.heap.size w w1 by rw [e1]; exact bel)
  have HK0 := Lib.hid K0
  obtain ⟨a0, a1, a2, al, af⟩ := K0.o3
  clear e1 K0
  refine Rel.region3 11 (by kernel_rfl) (by kernel_rfl) (by kernel_rfl) ?_
  simp only [List.take_succ_cons, List.take_zero, List.drop_succ_cons, List.drop_zero, List.filterMap_cons, List.filterMap_nil]
  iterate 2 (apply Rel.op3; (focus (first | exact Rel.gno rfl | exact Rel.gyes _ true _ rfl rfl rfl | exact Rel.gyes _ false _ rfl rfl rfl)); (focus (intro a W hb hd hbase; obtain ⟨hc, hf⟩ := bcell hb; clear hb hf; simp [Rel.deps, Rel.dep1, Rel.ons, Region.binds, Act.eval] at hd; simp only [Act.eval, List.mem_cons, List.not_mem_nil, not_or, and_imp, or_false, Array.getD_eq_getD_getElem?] at hbase; go_simp; (try go_bits); (try rfl); done)); (try simp only [List.nil_append, List.cons_append]))
  (apply Rel.call3; (focus (first | exact Rel.gno rfl | exact Rel.gyes _ true _ rfl rfl rfl | exact Rel.gyes _ false _ rfl rfl rfl)); (focus (intro a W hb hd hbase; obtain ⟨hc, hf⟩ := bcell hb; clear hb hf; simp [Rel.deps, Rel.dep1, Rel.ons, Region.binds, Act.eval] at hd; simp only [Act.eval, List.mem_cons, List.not_mem_nil, not_or, and_imp, or_false, Array.getD_eq_getD_getElem?] at hbase; go_simp; refine ⟨?_, ?_⟩; rfl; rfl)); (focus (intro W hb; go_at_call 42; exact HNM.out W)); (try simp only [List.nil_append, List.cons_append]))
  iterate 2 (apply Rel.op3; (focus (first | exact Rel.gno rfl | exact Rel.gyes _ true _ rfl rfl rfl | exact Rel.gyes _ false _ rfl rfl rfl)); (focus (intro a W hb hd hbase; obtain ⟨hc, hf⟩ := bcell hb; clear hb hf; simp [Rel.deps, Rel.dep1, Rel.ons, Region.binds, Act.eval] at hd; simp only [Act.eval, List.mem_cons, List.not_mem_nil, not_or, and_imp, or_false, Array.getD_eq_getD_getElem?] at hbase; go_simp; (try go_bits); (try rfl); done)); (try simp only [List.nil_append, List.cons_append]))
  (apply Rel.call3; (focus (first | exact Rel.gno rfl | exact Rel.gyes _ true _ rfl rfl rfl | exact Rel.gyes _ false _ rfl rfl rfl)); (focus (intro a W hb hd hbase; obtain ⟨hc, hf⟩ := bcell hb; clear hb hf; simp [Rel.deps, Rel.dep1, Rel.ons, Region.binds, Act.eval] at hd; simp only [Act.eval, List.mem_cons, List.not_mem_nil, not_or, and_imp, or_false, Array.getD_eq_getD_getElem?] at hbase; go_simp; refine ⟨?_, ?_⟩; rfl; rfl)); (focus (intro W hb; go_at_call 26; exact HWI.out W)); (try simp only [List.nil_append, List.cons_append]))
  iterate 3 (apply Rel.op3; (focus (first | exact Rel.gno rfl | exact Rel.gyes _ true _ rfl rfl rfl | exact Rel.gyes _ false _ rfl rfl rfl)); (focus (intro a W hb hd hbase; obtain ⟨hc, hf⟩ := bcell hb; clear hb hf; simp [Rel.deps, Rel.dep1, Rel.ons, Region.binds, Act.eval] at hd; simp only [Act.eval, List.mem_cons, List.not_mem_nil, not_or, and_imp, or_false, Array.getD_eq_getD_getElem?] at hbase; go_simp; (try go_bits); (try rfl); done)); (try simp only [List.nil_append, List.cons_append]))
  (apply Rel.op3 (.bool false); (focus (first | exact Rel.gno rfl | exact Rel.gyes _ true _ rfl rfl rfl | exact Rel.gyes _ false _ rfl rfl rfl)); (focus (intro a W hb hd hbase; obtain ⟨hc, hf⟩ := bcell hb; clear hb hf; simp [Rel.deps, Rel.dep1, Rel.ons, Region.binds, Act.eval] at hd; simp only [Act.eval, List.mem_cons, List.not_mem_nil, not_or, and_imp, or_false, Array.getD_eq_getD_getElem?] at hbase; go_simp; (try go_bits); (try rfl); done)); (try simp only [List.nil_append, List.cons_append]))
  (apply Rel.call3; (focus (first | exact Rel.gno rfl | exact Rel.gyes _ true _ rfl rfl rfl | exact Rel.gyes _ false _ rfl rfl rfl)); (focus (intro a W hb hd hbase; obtain ⟨hc, hf⟩ := bcell hb; clear hb hf; simp [Rel.deps, Rel.dep1, Rel.ons, Region.binds, Act.eval] at hd; simp only [Act.eval, List.mem_cons, List.not_mem_nil, not_or, and_imp, or_false, Array.getD_eq_getD_getElem?] at hbase; go_simp; refine ⟨?_, ?_⟩; rfl; rfl)); (focus (intro W hb; go_at_call 27; exact HWH.out 5 W)); (try simp only [List.nil_append, List.cons_append]))
  refine Rel.done3 ?_
  intro x w2 hb2 hx
  simp only [Rel.facts, Nat.zero_add, Nat.reduceAdd] at hx
  obtain ⟨e0, e1, e2, e3, e4, e5, e6, e7, e8, e9, e10, _⟩ := hx
  simp only [Rel.fill, Nat.zero_add, Nat.reduceAdd, e0, e1, e2, e3, e4, e5, e6, e7, e8, e9, e10]
  simp only [Act.put, List.setIfInBounds_toArray, List.set_cons_zero, List.set_cons_succ]
  clear e0 e1 e2 e3 e4 e5 e6 e7 e8 e9 e10
  have HB2 := Lib.hid (HB1.out.trans (hb2.mono HB1.out.size))
  have K02 := Lib.hid (HK0.out.below hb2)
  clear hb2 a0 a1 a2 al af
  go_wp2_with (go_at_call 24; refine (HF3.out _).mono ?_; rintro r wx ⟨rfl, rfl⟩; refine Hid.out ?_)
  unfold Hid
  obtain ⟨a0, a1, a2, al, af⟩ := (K02.out.alloc (.cells #[(.int .i64 0), (.int .i64 0), (.int .i64 0)] 31)).o3
  go_wp2_with (go_at_call 51; refine name_calls ?_; intro w3 e3; refine Hid.out ?_)
  unfold Hid
  have h3 : Below w2.heap.size w2 w3 := by rw [e3]; exact bel
  have HB3 := Lib.hid (HB2.out.trans (h3.mono HB2.out.size))
  clear e3 h3 a0 a1 a2 al af
  refine (HCA.out w3 (HC.out.below HB3.out)).mono ?_
  rintro r w4 ⟨rfl, h4⟩
  have HB4 := Lib.hid (HB3.out.trans (h4.mono HB3.out.size))
  clear h4
  go_wp2
  go_ret
  exact ⟨rfl, HB4.out⟩
set_option maxRecDepth 100000 in
set_option maxHeartbeats 4000000 in
theorem with_raw (xb : Int → Nat) (vz : Int → Int) (nm : ByteArray) (rate : Int) (l : List Int) (A A0 : Option Addr) (c N n0 c0 : Nat) (w : World) (hN : N = l.length) (hN5 : N ≤ 5000) (hl : rawOk xb vz l) (hC : EC (encW xb) w A l) :
    Calls Tryz.prog 28 #[.agg #[.string nm, (.int .i64 rate), .slice A0 n0 c0], .slice A N c] w fun r w' => (∃ B d, r = .returned (.agg #[.string nm, (.int .i64 rate), .slice B N d]) ∧ EC encF w' B (l.map vz) ∧ ∀ p, B = some p → w.heap.size ≤ p.block) ∧ Below w.heap.size w w' := by
  have HM : Hid (∀ W, EC (encW xb) W A l → Calls Tryz.prog 52 #[.slice A N c, .func (.func 53) #[] #[]] W fun r w' => (∃ B d, r = .returned (.slice B N d) ∧ EC encF w' B (l.map vz) ∧ ∀ p, B = some p → W.heap.size ≤ p.block) ∧ Below W.heap.size W w') := Lib.hid (fun W q => mapWith_raw xb vz A l c N W hN hN5 hl q)
  have HC := Lib.hid hC
  clear hC hN hl
  go_enter Tryz.func28, Tryz.ntmps28
  go_wp2_with (go_at_call 52; refine name_calls ?_; intro w1 e1; refine Hid.out ?_)
  unfold Hid
  have K0 : Blk w1 w.heap.size #[.string nm, (.int .i64 rate), .slice A0 n0 c0] := by rw [e1]; (repeat (first | ((with_reducible refine Blk.at_ ?_); focus (first | rfl | (simp; done) | (simp; omega))) | (with_reducible refine Blk.alloc ?_ _) | (with_reducible refine Blk.below ?_ (by with_reducible assumption)) | (with_reducible refine Blk.drew ?_)))
  have K1 : Blk w1 (w.heap.size + 1) #[.string ⟨#[]⟩, (.int .i64 0), .slice none 0 0] := by rw [e1]; (repeat (first | ((with_reducible refine Blk.at_ ?_); focus (first | rfl | (simp; done) | (simp; omega))) | (with_reducible refine Blk.alloc ?_ _) | (with_reducible refine Blk.below ?_ (by with_reducible assumption)) | (with_reducible refine Blk.drew ?_)))
  have HB1 := Lib.hid (show Below w.heap.size w w1 by rw [e1]; exact bel)
  have HZ : w.heap.size + 1 < w1.heap.size := K1.lt
  clear e1
  refine (HM.out w1 (HC.out.below HB1.out)).mono ?_
  rintro r w2 ⟨⟨B, d, rfl, hb, hf⟩, h2⟩
  have HB2 := Lib.hid (HB1.out.trans (h2.mono HB1.out.size))
  have HK0 := Lib.hid (K0.below h2)
  have HK1 := Lib.hid (K1.below h2)
  have HBF := Lib.hid hb
  have HF := Lib.hid hf
  obtain ⟨a0, a1, a2, al, af⟩ := HK0.out.o3
  obtain ⟨b0, b1, b2, bl, bf⟩ := HK1.out.o3
  clear hb hf h2 K0 K1
  go_wp2
  refine name_post ?_
  intro wz ez
  have KZ : Blk wz (w.heap.size + 1) #[.string nm, (.int .i64 rate), .slice B N d] := by
    rw [ez]
    exact (((HK1.out.far (p := ⟨w.heap.size, 2, none⟩) (by simp) _).set (i := 0) (by simp) _).set (i := 1) (by simp) _).set (i := 2) (by simp) _
  have HCZ : EC encF wz B (l.map vz) := by
    rw [ez]
    exact (((HBF.out.far (p := ⟨w.heap.size, 2, none⟩) (fun q hq => by have := HF.out q hq; simp only; omega) _).far (p := ⟨w.heap.size + 1, 0, none⟩) (fun q hq => by have := HF.out q hq; simp only; omega) _).far (p := ⟨w.heap.size + 1, 1, none⟩) (fun q hq => by have := HF.out q hq; simp only; omega) _).far (p := ⟨w.heap.size + 1, 2, none⟩) (fun q hq => by have := HF.out q hq; simp only; omega) _
  have HBZ : Below w.heap.size w wz := by
    rw [ez]
    exact (((HB2.out.setCell (p := ⟨w.heap.size, 2, none⟩) (Nat.le_refl _) _).setCell (p := ⟨w.heap.size + 1, 0, none⟩) (by simp) _).setCell (p := ⟨w.heap.size + 1, 1, none⟩) (by simp) _).setCell (p := ⟨w.heap.size + 1, 2, none⟩) (by simp) _
  obtain ⟨k0, k1, k2, -, -⟩ := KZ.o3
  clear ez
  refine bodyPost_ret (v := .agg #[.string nm, (.int .i64 rate), .slice B N d]) (by simp [results, Tryz.results28, go_sem, k0, k1, k2]) rfl ⟨⟨B, d, rfl, HCZ, fun p hp => by have := HF.out p hp; omega⟩, HBZ⟩
set_option maxRecDepth 100000 in
set_option maxHeartbeats 4000000 in
theorem sequence_raw (xb : Int → Nat) (vz : Int → Int) (nm : ByteArray) (rate : Int) (l : List Int) (A : Option Addr) (c N : Nat) (w : World) (hnm : NmOk nm) (hr : 1 ≤ rate ∧ rate ≤ 192000) (hN : N = l.length) (hN5 : N ≤ 4096) (hl : rawOk xb vz l) (hC : EC (encW xb) w A l) :
    Calls Tryz.prog 15 #[.agg #[.string nm, (.int .i64 rate), .slice A N c]] w fun r w' => (∃ B d, r = .returned (.tuple #[.slice B N d, (.int .i64 0)]) ∧ Cells w' B (l.map vz) ∧ ∀ p, B = some p → w.heap.size ≤ p.block) ∧ Below w.heap.size w w' := by
  have HCR : Hid (∀ W, EC (encW xb) W A l → Calls Tryz.prog 25 #[.agg #[.string nm, (.int .i64 rate), .slice A N c]] W fun r w' => r = .returned (.int .i64 0) ∧ Below W.heap.size W w') := Lib.hid (fun W q => checkRecord_raw xb vz nm rate l A c N W hnm hr hN hN5 hl q)
  have HM : Hid (∀ W, EC (encW xb) W A l → Calls Tryz.prog 43 #[.slice A N c, .func (.func 44) #[] #[]] W fun r w' => (∃ B d, r = .returned (.slice B N d) ∧ EC (Value.int .i64) w' B (l.map vz) ∧ ∀ p, B = some p → W.heap.size ≤ p.block) ∧ Below W.heap.size W w') := Lib.hid (fun W q => mapSeq_raw xb vz A l c N W hN (by omega) hl q)
  have HC := Lib.hid hC
  clear hC hN hl hr hnm
  go_enter Tryz.func15, Tryz.ntmps15
  go_wp2_with (go_at_call 25; refine name_calls ?_; intro w1 e1; refine Hid.out ?_)
  unfold Hid
  have K0 : Blk w1 w.heap.size #[.string nm, (.int .i64 rate), .slice A N c] := by rw [e1]; (repeat (first | ((with_reducible refine Blk.at_ ?_); focus (first | rfl | (simp; done) | (simp; omega))) | (with_reducible refine Blk.alloc ?_ _) | (with_reducible refine Blk.below ?_ (by with_reducible assumption)) | (with_reducible refine Blk.drew ?_)))
  have HB1 := Lib.hid (show Below w.heap.size w w1 by rw [e1]; exact bel)
  clear e1
  refine (HCR.out w1 (HC.out.below HB1.out)).mono ?_
  rintro r w2 ⟨rfl, h2⟩
  have HB2 := Lib.hid (HB1.out.trans (h2.mono HB1.out.size))
  obtain ⟨a0, a1, a2, al, af⟩ := (K0.below h2).o3
  clear h2 K0
  go_wp2_with (go_at_call 43; refine (HM.out w2 (HC.out.below HB2.out)).mono ?_; rintro r w3 ⟨⟨B, d, rfl, hb, hf⟩, h3⟩; refine Hid.out ?_)
  unfold Hid
  have HB3 := Lib.hid (HB2.out.trans (h3.mono HB2.out.size))
  have HBF := Lib.hid hb
  have HF : Hid (∀ p, B = some p → w.heap.size ≤ p.block) := Lib.hid (fun p hp => Nat.le_trans HB2.out.size (hf p hp))
  clear hb hf h3 a0 a1 a2 al af
  go_wp2
  refine bodyPost_ret (v := .tuple #[.slice B N d, (.int .i64 0)]) (by simp [results, Tryz.results15, go_sem]) rfl ⟨⟨B, d, rfl, HBF.out.cells, HF.out⟩, HB3.out⟩
end Go.Proofs.YtamldoidalnloaaGreatDoor

/- signal: joined (two lists of samples, one after the other). -/
namespace Go.Proofs.YtamldoidalnloaaGreatDoor
open Go.RowKit
open Calm (bcell Blk)
/-- codes of samples: 65536 is -0, else so many sixteenths. -/
def xbR (c : Int) : Nat := if c = 65536 then 2147483648 else fl c
def vzR (c : Int) : Int := if c = 65536 then 0 else c
abbrev encR : Int → Value := encW xbR
/-- codes of samples that hold. -/
def okR (l : List Int) : Prop := ∀ c ∈ l, c = 65536 ∨ (-32768 ≤ c ∧ c ≤ 32768)
theorem okR.raw {l : List Int} (h : okR l) : rawOk xbR vzR l := fun c hc => by
  rcases h c hc with rfl | h1
  · exact ⟨_, by unfold xbR vzR; rw [if_pos rfl, if_pos rfl]; exact sok_nz⟩
  · exact ⟨_, by unfold xbR vzR; rw [if_neg (by omega), if_neg (by omega)]; exact (flOk h1).sok⟩
theorem encR_eq {c : Int} (h : c ≠ 65536) : encR c = encF c := by
  show Value.float .f32 (xbR c) = _
  unfold xbR
  rw [if_neg h]
  rfl
theorem EC.enc {e1 e2 : Int → Value} {w : World} {A : Option Addr} {l : List Int} (h : EC e1 w A l) (he : ∀ c ∈ l, e1 c = e2 c) : EC e2 w A l := fun h0 => by
  obtain ⟨b, o, hA, hl, hc⟩ := h h0
  refine ⟨b, o, hA, hl, fun k hk => ?_⟩
  rw [hc k hk, he _ (by rw [List.getD_eq_getElem?_getD, List.getElem?_eq_getElem hk]; exact List.getElem_mem hk)]
theorem EC.rawF {w : World} {A : Option Addr} {l : List Int} (h : EC encF w A l) (hl : ∀ c ∈ l, -32768 ≤ c ∧ c ≤ 32768) : EC encR w A l := h.enc (fun c hc => (encR_eq (by have := hl c hc; omega)).symm)
def zerosF (n : Nat) : List Value := List.replicate n (.float .f32 0)
theorem Tryz.infoF : (Tryz.prog.info? 29).map (fun i => (i.zero, i.size, i.bytes)) = some (some (.float .f32 0), 1, 4) := eF.i
theorem mk_floats (n : Nat) (hn : n ≤ 1000000) (W : World) : Sem.run Tryz.prog (Instr.makeSlice 22 (.int .i64 n) (.int .i64 n)) W = .ok (.slice (some ⟨W.heap.size, 0, none⟩) n n) (W.alloc (.cells (zerosF n).toArray 29)) := by
  have e : (zerosF n).toArray = madeCells #[.float .f32 0] n := by
    apply Array.toList_inj.1
    rw [toList_madeCells_one]
    simp [zerosF]
  rw [e]
  exact run_make_row' 22 29 _ 4 eF.u Tryz.infoF rfl .i64 .i64 n (by omega) (by omega) W
theorem run_copyE {P : Program} {t e : TypeId} {bytes : Nat} {z : Value} (T : ETy P t e bytes z) {enc : Int → Value} (h1 : ∀ z, (enc z).oneCell' = true) (w : World) (ty : TypeId) (g o : Nat) (A : Option Addr) (xs : List Int) (n cap c : Nat) (cur : Array Value) (ct : TypeId) (hn : xs.length ≤ n)
    (hg : w.heap[g]? = some (.cells cur ct (0, 0))) (hfit : o + xs.length ≤ cur.size) (hC : EC enc w A xs) :
    (Builtin.copy_ #[t, t] ty #[.slice (some ⟨g, o, none⟩) n cap, .slice A xs.length c]).run P w = .ok (goInt xs.length) (w.setRow g (cur.toList.take o ++ xs.map enc ++ cur.toList.drop (o + xs.length)).toArray) := by
  obtain ⟨i0, hi, hz0, hz1, hz2⟩ := info_parts T.i
  have hs : (P.info? e).map (·.size) = some 1 := by rw [hi]; simp [hz1]
  have hmin : Nat.min xs.length n = xs.length := Nat.min_eq_left hn
  cases A with
  | some a =>
    have := run_copy_row (P := P) w t t ty e g o n cap a xs.length c cur ct (xs.map enc) T.u hs hg (by rw [hmin]; simp) (fun j v hj => by
      have hj' : j < xs.length := by
        have := (List.getElem?_eq_some_iff.1 hj).1
        simpa using this
      obtain ⟨b, o', hA, hl, hc⟩ := hC (by omega)
      cases hA
      exact EC.src hc j v hj) (by simpa using hfit) (fun v hv => by obtain ⟨z, _, rfl⟩ := List.mem_map.1 hv; exact h1 z)
    simpa using this
  | none =>
    have h0 : xs = [] := by
      cases xs with
      | nil => rfl
      | cons x xs => obtain ⟨b, o', hA, _⟩ := hC (by simp); cases hA
    subst h0
    have hself : w.setRow g cur = w := setRow_self w g cur ct _ hg
    have e2 : (cur.toList.take o ++ ([] : List Int).map enc ++ cur.toList.drop (o + ([] : List Int).length)).toArray = cur := by simp
    rw [e2, hself]
    simp [Builtin.copy_, run_underlying T.u, Builtin.lenOf, Builtin.firstCells, sizeOf, typeInfo, hi, hz1, storeCells]
theorem Tryz.elemF : Tryz.prog.elem 22 = 29 := by kernel_rfl
theorem sizeOfF (W : World) : (Go.sizeOf (Tryz.prog.elem 22)).run Tryz.prog W = .ok 1 W := by
  obtain ⟨i0, hi, hz0, hz1, hz2⟩ := info_parts eF.i
  rw [Tryz.elemF]
  simp [Go.sizeOf, typeInfo, hi, hz1]
/-- what lies behind the first k elements. -/
theorem sliceF_lo (g n k : Nat) (hk : k ≤ n) (W : World) : (Instr.slice 22 (.slice (some ⟨g, 0, none⟩) n n) (some (.int .i64 ((k : Int)))) none none).run Tryz.prog W = .ok (.slice (some ⟨g, if n = k then 0 else k, none⟩) (n - k) (n - k)) W := by
  rw [run_slice_l W 22 _ n n (by rw [Tryz.elemF]; exact eF.u) .i64 (k : Int) (by omega) (by omega), sizeOfF]
  simp only [Result.andThen, sliced, Int.toNat_natCast]
  by_cases h : n = k
  · simp [h]
  · by_cases hk0 : k = 0
    · subst hk0; simp [Addr.add]
    · simp [h, hk0, Addr.add]
theorem encR_one (z : Int) : (encR z).oneCell' = true := rfl
set_option maxRecDepth 100000 in
set_option maxHeartbeats 4000000 in
theorem joined_any (xs ys : List Int) (A B : Option Addr) (ca cb N M : Nat) (w : World) (hN : N = xs.length) (hM : M = ys.length) (hN5 : N ≤ 10000) (hM5 : M ≤ 10000) (hA : EC encR w A xs) (hB : EC encR w B ys) :
    Calls Tryz.prog 29 #[.slice A N ca, .slice B M cb] w fun r w' => (∃ D, r = .returned (.slice (some ⟨D, 0, none⟩) (N + M) (N + M)) ∧ w.heap.size ≤ D ∧ w'.heap[D]? = some (.cells ((xs ++ ys).map encR).toArray 29 (0, 0))) ∧ Below w.heap.size w w' := by
  obtain ⟨L, hL⟩ : ∃ L, L = N + M := ⟨_, rfl⟩
  have hLi : (N : Int) + (M : Int) = (L : Int) := by omega
  have HMK : ∀ W : World, Sem.run Tryz.prog (Instr.makeSlice 22 (.int .i64 ((L : Int))) (.int .i64 ((L : Int)))) W = .ok (.slice (some ⟨W.heap.size, 0, none⟩) L L) (W.alloc (.cells (zerosF L).toArray 29)) := fun W => mk_floats L (by omega) W
  rw [← hL]
  obtain ⟨R1, hR1⟩ : ∃ R1, R1 = ((zerosF L).toArray.toList.take 0 ++ xs.map encR ++ (zerosF L).toArray.toList.drop (0 + xs.length)).toArray := ⟨_, rfl⟩
  have hB1 : Below w.heap.size w (w.alloc (.cells (zerosF L).toArray 29)) := (Below.refl _ _).alloc (Nat.le_refl _) _
  have g1 : (w.alloc (.cells (zerosF L).toArray 29)).heap[w.heap.size]? = some (.cells (zerosF L).toArray 29 (0, 0)) := World.alloc_heap_new _ _
  have hcp1 : ∀ ty, (Builtin.copy_ #[22, 22] ty #[.slice (some ⟨w.heap.size, 0, none⟩) L L, .slice A N ca]).run Tryz.prog (w.alloc (.cells (zerosF L).toArray 29)) = .ok (goInt N) ((w.alloc (.cells (zerosF L).toArray 29)).setRow w.heap.size R1) := fun ty => by
    have := run_copyE eF encR_one (w.alloc (.cells (zerosF L).toArray 29)) ty w.heap.size 0 A xs L L ca _ _ (by omega) g1 (by simp [zerosF]; omega) (hA.below hB1)
    rw [← hR1, ← hN] at this
    exact this
  have hR1' : R1 = (xs.map encR ++ List.replicate M (Value.float .f32 0)).toArray := by
    rw [hR1, List.take_zero, List.nil_append, Nat.zero_add]
    congr 2
    simp only [zerosF, List.drop_replicate]
    congr 1
    omega
  obtain ⟨V1, hV1⟩ : ∃ V1, V1 = (w.alloc (.cells (zerosF L).toArray 29)).setRow w.heap.size R1 := ⟨_, rfl⟩
  have g2 : V1.heap[w.heap.size]? = some (.cells R1 29 (0, 0)) := by rw [hV1]; exact setRow_heap _ _ _ _ _ _ g1
  have hB2 : Below w.heap.size w V1 := by rw [hV1]; exact below_setRow hB1 (Nat.le_refl _) _
  obtain ⟨off, hoff⟩ : ∃ off, off = if L = N then 0 else N := ⟨_, rfl⟩
  have hsl : ∀ W, (Instr.slice 22 (.slice (some ⟨w.heap.size, 0, none⟩) L L) (some (.int .i64 ((N : Int)))) none none).run Tryz.prog W = .ok (.slice (some ⟨w.heap.size, off, none⟩) (L - N) (L - N)) W := fun W => by rw [hoff]; exact sliceF_lo w.heap.size L N (by omega) W
  have hR1s : R1.size = L := by rw [hR1']; simp; omega
  have hoM : off + M ≤ L := by rw [hoff]; split <;> omega
  obtain ⟨R2, hR2⟩ : ∃ R2, R2 = (R1.toList.take off ++ ys.map encR ++ R1.toList.drop (off + ys.length)).toArray := ⟨_, rfl⟩
  have hcp2 : ∀ ty, (Builtin.copy_ #[22, 22] ty #[.slice (some ⟨w.heap.size, off, none⟩) (L - N) (L - N), .slice B M cb]).run Tryz.prog V1 = .ok (goInt M) (V1.setRow w.heap.size R2) := fun ty => by
    have := run_copyE eF encR_one V1 ty w.heap.size off B ys (L - N) (L - N) cb _ _ (by omega) g2 (by omega) (hB.below hB2)
    rw [← hR2, ← hM] at this
    exact this
  have hR2' : R2 = ((xs ++ ys).map encR).toArray := by
    rw [hR2, hR1', ← hM, List.map_append]
    congr 1
    rw [hoff]
    by_cases h0 : L = N
    · have hM0 : M = 0 := by omega
      have : ys = [] := List.eq_nil_of_length_eq_zero (by omega)
      rw [if_pos h0, this, hM0]
      simp
    · rw [if_neg h0]
      simp only [List.toList_toArray]
      rw [List.take_left' (by rw [List.length_map]; exact hN.symm), List.drop_eq_nil_of_le (by simp; omega), List.append_nil]
  have HEND : Hid ((V1.setRow w.heap.size R2).heap[w.heap.size]? = some (.cells ((xs ++ ys).map encR).toArray 29 (0, 0)) ∧ Below w.heap.size w (V1.setRow w.heap.size R2)) := Lib.hid ⟨by rw [← hR2']; exact setRow_heap _ _ _ _ _ _ g2, below_setRow hB2 (Nat.le_refl _) _⟩
  rw [hV1] at hcp2 HEND
  clear hA hB hN hM hL hR1 hR1' hR2 hR2' hV1 g1 g2 hB1 hB2 hoff hR1s hoM
  go_enter Tryz.func29, Tryz.ntmps29
  go_wp2
  go_ret
  exact ⟨⟨w.heap.size, rfl, Nat.le_refl _, HEND.out.1⟩, HEND.out.2⟩
end Go.Proofs.YtamldoidalnloaaGreatDoor

/- signal: Delay and Append. -/
namespace Go.Proofs.YtamldoidalnloaaGreatDoor
open Go.RowKit
open Calm (bcell Blk)
theorem zeros_enc (n : Nat) : (zerosF n).toArray = ((List.replicate n (0 : Int)).map encR).toArray := by
  unfold zerosF
  rw [List.map_replicate]
  rfl
theorem okR.zeros (n : Nat) : okR (List.replicate n 0) := fun c hc => by
  obtain ⟨_, rfl⟩ := List.mem_replicate.1 hc
  exact .inr (by omega)
theorem okR.app {l m : List Int} (h1 : okR l) (h2 : okR m) : okR (l ++ m) := fun c hc => by
  rcases List.mem_append.1 hc with h | h
  · exact h1 c h
  · exact h2 c h
theorem vz_zeros (n : Nat) : (List.replicate n (0 : Int)).map vzR = List.replicate n 0 := by
  rw [List.map_replicate]
  rfl
theorem EC.row {enc : Int → Value} {w : World} {g : Nat} {l : List Int} {ct : TypeId} (h : w.heap[g]? = some (.cells (l.map enc).toArray ct (0, 0))) : EC enc w (some ⟨g, 0, none⟩) l := fun h0 => by
  refine ⟨g, 0, rfl, (Array.getElem?_eq_some_iff.1 h).1, fun k hk => ?_⟩
  rw [Nat.zero_add, cell_of_row w g k _ _ _ h]
  simp [hk, List.getD_eq_getElem?_getD]
/-- a slice at B or above that holds these. -/
def SlE (B L : Nat) (enc : Int → Value) (xs : List Int) : Value → World → Prop := fun u W => ∃ A d, u = .slice A L d ∧ EC enc W A xs ∧ ∀ p, A = some p → B ≤ p.block
theorem SlE.stable (B L : Nat) (enc : Int → Value) (xs : List Int) : Rel.Stable (SlE B L enc xs) := fun _ _ _ ⟨A, d, h1, h2, h3⟩ hb => ⟨A, d, h1, h2.below hb, h3⟩
theorem joined_R (xs ys : List Int) (A B : Option Addr) (ca cb N M : Nat) (w : World) (hN : N = xs.length) (hM : M = ys.length) (hN5 : N ≤ 10000) (hM5 : M ≤ 10000) (hA : EC encR w A xs) (hB : EC encR w B ys) :
    Calls Tryz.prog 29 #[.slice A N ca, .slice B M cb] w fun r w' => ∃ v, r = .returned v ∧ SlE w.heap.size (N + M) encR (xs ++ ys) v w' ∧ Below w.heap.size w w' :=
  (joined_any xs ys A B ca cb N M w hN hM hN5 hM5 hA hB).mono fun _ _ ⟨⟨D, h1, h2, h3⟩, h4⟩ => ⟨_, h1, ⟨_, _, rfl, EC.row h3, by rintro p ⟨⟩; exact h2⟩, h4⟩
set_option maxRecDepth 100000 in
set_option maxHeartbeats 4000000 in
theorem delay_ok (nm : ByteArray) (rate : Int) (l : List Int) (A : Option Addr) (c N n : Nat) (w : World) (hnm : NmOk nm) (hr : 1 ≤ rate ∧ rate ≤ 192000) (hN : N = l.length) (hn5 : N + n ≤ 4096) (hl : okR l) (hC : EC encR w A l) :
    Calls Tryz.prog 7 #[.agg #[.string nm, (.int .i64 rate), .slice A N c], (.int .i64 ((n : Int)))] w fun r w' => (∃ B d, r = .returned (.tuple #[.agg #[.string nm, (.int .i64 rate), .slice B (n + N) d], (.int .i64 0)]) ∧ EC encF w' B (List.replicate n 0 ++ l.map vzR) ∧ ∀ p, B = some p → w.heap.size ≤ p.block) ∧ Below w.heap.size w w' := by
  have HCR : Hid (∀ W, EC encR W A l → Calls Tryz.prog 25 #[.agg #[.string nm, (.int .i64 rate), .slice A N c]] W fun r w' => r = .returned (.int .i64 0) ∧ Below W.heap.size W w') := Lib.hid (fun W q => checkRecord_raw xbR vzR nm rate l A c N W hnm hr hN (by omega) hl.raw q)
  have HWI := Lib.hid (gRange_ok (n : Int) 0 4096 (by omega))
  have HWH := Lib.hid gWhen_no
  have HF3 : Hid (∀ (W : World), Calls Tryz.prog 24 #[.slice (some ⟨W.heap.size, 0, none⟩) 3 3] (W.alloc (.cells #[(.int .i64 0), (.int .i64 0), (.int .i64 0)] 31)) fun r w' => r = .returned (.int .i64 0) ∧ (W.alloc (.cells #[(.int .i64 0), (.int .i64 0), (.int .i64 0)] 31)) = w') := Lib.hid (fun W => gFirst_cells [0, 0, 0] W (by simp))
  have HJ : Hid (∀ W D cd, EC encR W D (List.replicate n 0) → EC encR W A l → Calls Tryz.prog 29 #[.slice D n cd, .slice A N c] W fun r w' => ∃ v, r = .returned v ∧ SlE W.heap.size (n + N) encR (List.replicate n 0 ++ l) v w' ∧ Below W.heap.size W w') := Lib.hid (fun W D cd q1 q2 => joined_R _ _ D A cd c n N W (by simp) hN (by omega) (by omega) q1 q2)
  obtain ⟨L, hL⟩ : ∃ L, L = n + N := ⟨_, rfl⟩
  have HMK : Hid (∀ W : World, Sem.run Tryz.prog (Instr.makeSlice 22 (.int .i64 ((n : Int))) (.int .i64 ((n : Int)))) W = .ok (.slice (some ⟨W.heap.size, 0, none⟩) n n) (W.alloc (.cells (zerosF n).toArray 29))) := Lib.hid (fun W => mk_floats n (by omega) W)
  have HW : Hid (∀ W B d, EC encR W B (List.replicate n 0 ++ l) → Calls Tryz.prog 28 #[.agg #[.string nm, (.int .i64 rate), .slice A N c], .slice B L d] W fun r w' => (∃ B d, r = .returned (.agg #[.string nm, (.int .i64 rate), .slice B L d]) ∧ EC encF w' B (List.replicate n 0 ++ l.map vzR) ∧ ∀ p, B = some p → W.heap.size ≤ p.block) ∧ Below W.heap.size W w') := Lib.hid (fun W B d q => by
    have := with_raw xbR vzR nm rate (List.replicate n 0 ++ l) B A d L N c W (by rw [hL, hN]; simp) (by omega) ((okR.zeros n).app hl).raw q
    rwa [List.map_append, vz_zeros] at this)
  rw [← hL] at HJ ⊢
  have HC := Lib.hid hC
  have hNn : (N : Int) + (n : Int) = (L : Int) := by omega
  have hgt : decide ((4096 : Int) < (L : Int)) = false := decide_eq_false (by omega)
  have hLL : (L : Int) ≤ 4096 := by omega
  clear hnm hN hl hC hr hL hn5
  go_enter Tryz.func7, Tryz.ntmps7
  go_wp2
  refine name_world ?_
  intro w1 e1
  have K0 : Blk w1 w.heap.size #[.string nm, (.int .i64 rate), .slice A N c] := by rw [e1]; (repeat (first | ((with_reducible refine Blk.at_ ?_); focus (first | rfl | (simp; done) | (simp; omega))) | (with_reducible refine Blk.alloc ?_ _) | (with_reducible refine Blk.below ?_ (by with_reducible assumption)) | (with_reducible refine Blk.drew ?_)))
  have K1 : Blk w1 (w.heap.size + 1) #[.string ⟨#[]⟩, (.int .i64 0), .slice none 0 0] := by rw [e1]; (repeat (first | ((with_reducible refine Blk.at_ ?_); focus (first | rfl | (simp; done) | (simp; omega))) | (with_reducible refine Blk.alloc ?_ _) | (with_reducible refine Blk.below ?_ (by with_reducible assumption)) | (with_reducible refine Blk.drew ?_)))
  have HB1 := Lib.hid (show Below w.heap.size w w1 by rw [e1]; exact bel)
  have HK0 := Lib.hid K0
  have HK1 := Lib.hid K1
  obtain ⟨a0, a1, a2, al, af⟩ := K0.o3
  clear e1 K0 K1
  refine Rel.region3 11 (by kernel_rfl) (by kernel_rfl) (by kernel_rfl) ?_
  simp only [List.take_succ_cons, List.take_zero, List.drop_succ_cons, List.drop_zero, List.filterMap_cons, List.filterMap_nil]
  iterate 1 (apply Rel.op3; (focus (first | exact Rel.gno rfl | exact Rel.gyes _ true _ rfl rfl rfl | exact Rel.gyes _ false _ rfl rfl rfl)); (focus (intro a W hb hd hbase; obtain ⟨hc, hf⟩ := bcell hb; clear hb hf; simp [Rel.deps, Rel.dep1, Rel.ons, Region.binds, Act.eval] at hd; simp only [Act.eval, List.mem_cons, List.not_mem_nil, not_or, and_imp, or_false, Array.getD_eq_getD_getElem?] at hbase; go_simp; (try go_bits); (try rfl); done)); (try simp only [List.nil_append, List.cons_append]))
  (apply Rel.call3; (focus (first | exact Rel.gno rfl | exact Rel.gyes _ true _ rfl rfl rfl | exact Rel.gyes _ false _ rfl rfl rfl)); (focus (intro a W hb hd hbase; obtain ⟨hc, hf⟩ := bcell hb; clear hb hf; simp [Rel.deps, Rel.dep1, Rel.ons, Region.binds, Act.eval] at hd; simp only [Act.eval, List.mem_cons, List.not_mem_nil, not_or, and_imp, or_false, Array.getD_eq_getD_getElem?] at hbase; go_simp; refine ⟨?_, ?_⟩; rfl; rfl)); (focus (intro W hb; go_at_call 25; exact HCR.out W ((HC.out.below HB1.out).below hb))); (try simp only [List.nil_append, List.cons_append]))
  iterate 1 (apply Rel.op3; (focus (first | exact Rel.gno rfl | exact Rel.gyes _ true _ rfl rfl rfl | exact Rel.gyes _ false _ rfl rfl rfl)); (focus (intro a W hb hd hbase; obtain ⟨hc, hf⟩ := bcell hb; clear hb hf; simp [Rel.deps, Rel.dep1, Rel.ons, Region.binds, Act.eval] at hd; simp only [Act.eval, List.mem_cons, List.not_mem_nil, not_or, and_imp, or_false, Array.getD_eq_getD_getElem?] at hbase; go_simp; (try go_bits); (try rfl); done)); (try simp only [List.nil_append, List.cons_append]))
  (apply Rel.call3; (focus (first | exact Rel.gno rfl | exact Rel.gyes _ true _ rfl rfl rfl | exact Rel.gyes _ false _ rfl rfl rfl)); (focus (intro a W hb hd hbase; obtain ⟨hc, hf⟩ := bcell hb; clear hb hf; simp [Rel.deps, Rel.dep1, Rel.ons, Region.binds, Act.eval] at hd; simp only [Act.eval, List.mem_cons, List.not_mem_nil, not_or, and_imp, or_false, Array.getD_eq_getD_getElem?] at hbase; go_simp; refine ⟨?_, ?_⟩; rfl; rfl)); (focus (intro W hb; go_at_call 26; exact HWI.out W)); (try simp only [List.nil_append, List.cons_append]))
  iterate 5 (apply Rel.op3; (focus (first | exact Rel.gno rfl | exact Rel.gyes _ true _ rfl rfl rfl | exact Rel.gyes _ false _ rfl rfl rfl)); (focus (intro a W hb hd hbase; obtain ⟨hc, hf⟩ := bcell hb; clear hb hf; simp [Rel.deps, Rel.dep1, Rel.ons, Region.binds, Act.eval] at hd; simp only [Act.eval, List.mem_cons, List.not_mem_nil, not_or, and_imp, or_false, Array.getD_eq_getD_getElem?] at hbase; go_simp; (try go_bits); (try rfl); done)); (try simp only [List.nil_append, List.cons_append]))
  (apply Rel.op3 (.bool false); (focus (first | exact Rel.gno rfl | exact Rel.gyes _ true _ rfl rfl rfl | exact Rel.gyes _ false _ rfl rfl rfl)); (focus (intro a W hb hd hbase; obtain ⟨hc, hf⟩ := bcell hb; clear hb hf; simp [Rel.deps, Rel.dep1, Rel.ons, Region.binds, Act.eval] at hd; simp only [Act.eval, List.mem_cons, List.not_mem_nil, not_or, and_imp, or_false, Array.getD_eq_getD_getElem?] at hbase; go_simp; (try go_bits); (try rfl); done)); (try simp only [List.nil_append, List.cons_append]))
  (apply Rel.call3; (focus (first | exact Rel.gno rfl | exact Rel.gyes _ true _ rfl rfl rfl | exact Rel.gyes _ false _ rfl rfl rfl)); (focus (intro a W hb hd hbase; obtain ⟨hc, hf⟩ := bcell hb; clear hb hf; simp [Rel.deps, Rel.dep1, Rel.ons, Region.binds, Act.eval] at hd; simp only [Act.eval, List.mem_cons, List.not_mem_nil, not_or, and_imp, or_false, Array.getD_eq_getD_getElem?] at hbase; go_simp; refine ⟨?_, ?_⟩; rfl; rfl)); (focus (intro W hb; go_at_call 27; exact HWH.out 5 W)); (try simp only [List.nil_append, List.cons_append]))
  refine Rel.done3 ?_
  intro x w2 hb2 hx
  simp only [Rel.facts, Nat.zero_add, Nat.reduceAdd] at hx
  obtain ⟨e0, e1, e2, e3, e4, e5, e6, e7, e8, e9, e10, _⟩ := hx
  simp only [Rel.fill, Nat.zero_add, Nat.reduceAdd, e0, e1, e2, e3, e4, e5, e6, e7, e8, e9, e10]
  simp only [Act.put, List.setIfInBounds_toArray, List.set_cons_zero, List.set_cons_succ]
  clear e0 e1 e2 e3 e4 e5 e6 e7 e8 e9 e10
  have HB2 := Lib.hid (HB1.out.trans (hb2.mono HB1.out.size))
  have HK02 := Lib.hid (HK0.out.below hb2)
  have HK12 := Lib.hid (HK1.out.below hb2)
  clear hb2 a0 a1 a2 al af
  go_wp2_with (go_at_call 24; refine (HF3.out _).mono ?_; rintro r wx ⟨rfl, rfl⟩)
  refine name_world ?_
  intro w3 e3
  have h3 : Below w2.heap.size w2 w3 := by rw [e3]; exact bel
  have HB3 := Lib.hid (HB2.out.trans (h3.mono HB2.out.size))
  have HK03 := Lib.hid (HK02.out.below h3)
  have HK13 := Lib.hid (HK12.out.below h3)
  clear e3 h3
  obtain ⟨a0, a1, a2, al, af⟩ := HK03.out.o3
  refine Rel.region3 6 (by kernel_rfl) (by kernel_rfl) (by kernel_rfl) ?_
  simp only [List.take_succ_cons, List.take_zero, List.drop_succ_cons, List.drop_zero, List.filterMap_cons, List.filterMap_nil]
  iterate 2 (apply Rel.op3; (focus (first | exact Rel.gno rfl | exact Rel.gyes _ true _ rfl rfl rfl | exact Rel.gyes _ false _ rfl rfl rfl)); (focus (intro a W hb hd hbase; obtain ⟨hc, hf⟩ := bcell hb; clear hb hf; simp [Rel.deps, Rel.dep1, Rel.ons, Region.binds, Act.eval] at hd; simp only [Act.eval, List.mem_cons, List.not_mem_nil, not_or, and_imp, or_false, Array.getD_eq_getD_getElem?] at hbase; go_simp; (try go_bits); (try rfl); done)); (try simp only [List.nil_append, List.cons_append]))
  refine Rel.build3 29 n n (zerosF n).toArray (Rel.gno rfl) ?_ ?_
  · intro a W hb hd hbase
    have hmk := HMK.out W
    simp [Rel.deps, Rel.dep1, Rel.ons, Region.binds, Act.eval] at hd
    go_simp
  (try simp only [List.nil_append, List.cons_append])
  iterate 2 (apply Rel.op3; (focus (first | exact Rel.gno rfl | exact Rel.gyes _ true _ rfl rfl rfl | exact Rel.gyes _ false _ rfl rfl rfl)); (focus (intro a W hb hd hbase; obtain ⟨hc, hf⟩ := bcell hb; clear hb hf; simp [Rel.deps, Rel.dep1, Rel.ons, Region.binds, Act.eval] at hd; simp only [Act.eval, List.mem_cons, List.not_mem_nil, not_or, and_imp, or_false, Array.getD_eq_getD_getElem?] at hbase; go_simp; (try go_bits); (try rfl); done)); (try simp only [List.nil_append, List.cons_append]))
  refine Rel.callR3 (SlE w.heap.size L encR (List.replicate n 0 ++ l)) (SlE.stable _ _ _ _) (Rel.gno rfl) ?_ ?_
  · intro a W hb hd hbase
    simp [Rel.deps, Rel.dep1, Rel.ons, Region.binds] at hd
    obtain ⟨⟨g8, h8, _, hK8⟩, h9⟩ := hd
    have hWB : Below w.heap.size w W := HB3.out.trans (hb.mono HB3.out.size)
    refine ⟨29, #[.slice (some ⟨g8, 0, none⟩) n n, .slice A N c], ?_, (HJ.out W (some ⟨g8, 0, none⟩) n (EC.blk hK8 (zeros_enc n)) (HC.out.below hWB)).mono (fun e W' ⟨v, h1, ⟨D, d, h2, h4, h5⟩, h3⟩ => ⟨v, h1, ⟨D, d, h2, h4, fun p hp => Nat.le_trans hWB.size (h5 p hp)⟩, h3⟩)⟩
    simp only [Act.eval, Array.getD_eq_getD_getElem?] at h8 h9
    go_simp
    (first | done | rfl | (refine ⟨?_, ?_⟩ <;> rfl))
  (try simp only [List.nil_append, List.cons_append])
  refine Rel.done3 ?_
  intro x w4 h4 hx
  simp only [Rel.facts, Nat.zero_add, Nat.reduceAdd] at hx
  obtain ⟨e0, e1, _, e3, e4, ⟨B, d, e5, hB, hF⟩, _⟩ := hx
  simp only [Rel.fill, Nat.zero_add, Nat.reduceAdd, e0, e1, e3, e4, e5]
  simp only [Act.put, List.setIfInBounds_toArray, List.set_cons_zero, List.set_cons_succ]
  have HB4 := Lib.hid (HB3.out.trans (h4.mono HB3.out.size))
  have HK14 := Lib.hid (HK13.out.below h4)
  have HBB := Lib.hid hB
  clear e0 e1 e3 e4 e5 hB h4 a0 a1 a2 al af
  go_wp2_with (go_at_call 28; refine (HW.out w4 B d HBB.out).mono ?_; rintro r w5 ⟨⟨B5, d5, rfl, hb5, hf5⟩, h5⟩; refine Hid.out ?_)
  unfold Hid
  have HB5 := Lib.hid (HB4.out.trans (h5.mono HB4.out.size))
  have HK15 := Lib.hid (HK14.out.below h5)
  have HBF := Lib.hid hb5
  have hz5 : w.heap.size + 1 < w4.heap.size := HK14.out.lt
  have HF := Lib.hid hf5
  obtain ⟨b0, b1, b2, bl, bf⟩ := HK15.out.o3
  clear hb5 hf5 h5
  go_wp2
  refine name_post ?_
  intro wz ez
  have KZ : Blk wz (w.heap.size + 1) #[.string nm, (.int .i64 rate), .slice B5 L d5] := by
    rw [ez]
    exact ((HK15.out.set (i := 0) (by simp) _).set (i := 1) (by simp) _).set (i := 2) (by simp) _
  have HCZ : EC encF wz B5 (List.replicate n 0 ++ l.map vzR) := by
    rw [ez]
    exact ((HBF.out.far (p := ⟨w.heap.size + 1, 0, none⟩) (fun q hq => by have := HF.out q hq; simp only; omega) _).far (p := ⟨w.heap.size + 1, 1, none⟩) (fun q hq => by have := HF.out q hq; simp only; omega) _).far (p := ⟨w.heap.size + 1, 2, none⟩) (fun q hq => by have := HF.out q hq; simp only; omega) _
  have HBZ : Below w.heap.size w wz := by
    rw [ez]
    exact ((HB5.out.setCell (p := ⟨w.heap.size + 1, 0, none⟩) (by simp) _).setCell (p := ⟨w.heap.size + 1, 1, none⟩) (by simp) _).setCell (p := ⟨w.heap.size + 1, 2, none⟩) (by simp) _
  obtain ⟨k0, k1, k2, -, -⟩ := KZ.o3
  clear ez
  refine bodyPost_ret (v := .tuple #[.agg #[.string nm, (.int .i64 rate), .slice B5 L d5], (.int .i64 0)]) (by simp [results, Tryz.results7, go_sem, k0, k1, k2]) rfl ⟨⟨B5, d5, rfl, HCZ, fun p hp => by have := HF.out p hp; omega⟩, HBZ⟩
end Go.Proofs.YtamldoidalnloaaGreatDoor
