/- Part 8 of the texts of the claim: Ti9, Tj0, Tj1, Tj2, T1, Te8, Tg2. -/
import Derived.Test.YtamldoidalnloaaGreatDoorMx7
import Derived.Test.YtamldoidalnloaaGreatDoorMx5
import Derived.Test.YtamldoidalnloaaGreatDoorMx3
import Derived.Test.YtamldoidalnloaaGreatDoorMx4
import Derived.Lib.Split
import Derived.Lib.SplitLaws
import Derived.Lib.ItoaNum
import Derived.Lib.AtoiAll
import Derived.Lib.IndexBytes

/- the reference's CheckSample: any float. -/
namespace Go.Proofs.YtamldoidalnloaaGreatDoor
open Go.RowKit
open Ieee
open Calm (bcell Blk)
/-- a float64 that is no number. -/
def Nan64 (r : Nat) : Prop := ∃ s f, double.read r = .nan s f
theorem nan_read (t : Nat) : Nan64 ((t % 2) * 2 ^ 63 + 0x7ff0000000000000 + 1 + (t / 2) % (2 ^ 52 - 1)) := by
  have e1 : double.signWeight = 9223372036854775808 := by decide
  have e2 : double.binade = 4503599627370496 := by decide
  have e3 : double.infRung = 9218868437227405312 := by decide
  have h1 : t % 2 < 2 := Nat.mod_lt _ (by decide)
  have h2 : (t / 2) % (2 ^ 52 - 1) < 4503599627370495 := Nat.mod_lt _ (by decide)
  generalize t % 2 = u at *
  generalize (t / 2) % (2 ^ 52 - 1) = v at *
  obtain ⟨x, hx⟩ : ∃ x, x = u * 2 ^ 63 + 0x7ff0000000000000 + 1 + v := ⟨_, rfl⟩
  have hr : x % 9223372036854775808 = 9218868437227405313 + v := by omega
  rw [← hx]
  refine ⟨x / 9223372036854775808 % 2 == 1, 1 + v, ?_⟩
  unfold Format.read
  simp only [e1, e2, e3, hr]
  have e4 : 9218868437227405313 + v - 9218868437227405312 = 1 + v := by omega
  rw [if_neg (by omega), if_neg (by omega), if_neg (by omega), e4]
theorem Nan64.sub {r : Nat} (h : Nan64 r) : double.sub r r = none := by
  obtain ⟨s, f, h⟩ := h
  unfold Format.sub
  rw [h]
  rfl
theorem Nan64.ord {r : Nat} (h : Nan64 r) (y : Nat) : FloatKind.f64.format.order r y = none := by
  obtain ⟨s, f, h⟩ := h
  show double.order r y = none
  unfold Format.order
  rw [h]
  cases double.read y <;> rfl
theorem run_sub_nan (x : Nat) (h : double.sub x x = none) (W : World) : ∃ r, Nan64 r ∧ (binOp .sub 109 (.float .f64 x) (.float .f64 x)).run Tryz.prog W = .ok (.float .f64 r) W.drew := by
  refine ⟨_, nan_read (W.tape W.drawn (.nanBits .f64 x x)), ?_⟩
  have h' : FloatKind.f64.format.sub x x = none := h
  simp [binOp, Op.floatArith, h', Question.cut, Question.forced]
theorem run_conv_nan (b : Nat) {s : Bool} {f : Nat} (h : single.read b = .nan s f) (W : World) : ∃ r, Nan64 r ∧ (convert 29 109 (.float .f32 b)).run Tryz.prog W = .ok (.float .f64 r) W.drew := by
  refine ⟨_, nan_read (W.tape W.drawn (.nanConv .f64 b)), ?_⟩
  have h' : FloatKind.f32.decode b = .nan s f := h
  have hu : Tryz.prog.underlying 29 = some (.float .f32) := by kernel_rfl
  have hv : Tryz.prog.underlying 109 = some (.float .f64) := by kernel_rfl
  simp [convert, run_underlying hu, run_underlying hv, Conv.floatToFloat, h', Question.cut, Question.forced]
theorem conv_number {b : Nat} {z p : Int} (h : single.read b = .number (decide (z < 0)) z.natAbs p) (hz : -16777216 < z ∧ z < 16777216) (h0 : z ≠ 0) (hp : -149 ≤ p ∧ p ≤ 200) : floatToFloatBits .f32 b .f64 = some (flE double z p) := by
  have hlp : double.leastPlace = -1074 := by decide
  obtain ⟨m, q, hx⟩ := rd_flE (f := double) (z := z) (e := p) (.inr (rep_double (by omega) (by omega) (by omega) (by omega))) (by rw [hlp]; omega)
  unfold floatToFloatBits
  rw [if_neg (by decide)]
  show (match single.read b with | .nan _ _ => none | .infinity s => _ | .number s m e => _) = _
  rw [h]
  show (if (double.read (flE double z p)).isInfinity then none else some (flE double z p)) = _
  rw [hx.rd]
  rfl
/-- what the reference says of a sample. -/
def SmRes (R : Prop) (w : World) (r : Ending) (w' : World) : Prop := ∃ e : Int, r = .returned (.int .i64 e) ∧ (e = 0 → R) ∧ Below w.heap.size w w'
theorem SmRes.no (R : Prop) {e : Int} (h : e ≠ 0) {w w' : World} (hb : Below w.heap.size w w') : SmRes R w (.returned (.int .i64 e)) w' := ⟨e, rfl, fun q => absurd q h, hb⟩
theorem SmRes.yes {R : Prop} (h : R) (w : World) : SmRes R w (.returned (.int .i64 0)) w := ⟨0, rfl, fun _ => h, Below.refl _ _⟩
set_option maxRecDepth 100000 in
set_option maxHeartbeats 4000000 in
theorem sample_not (R : Prop) (x b I : Nat) (w w1 : World) (h1 : (convert 29 109 (.float .f32 b)).run Tryz.prog w = .ok (.float .f64 I) w1) (h2 : Below w.heap.size w w1) (h3 : double.sub I I = none) :
    Calls Tryz.prog 50 #[.float .f32 b] w fun r w' => SmRes R w r w' := by
  obtain ⟨r, hr, hs⟩ := run_sub_nan I h3 w1
  have ho := hr.ord 0
  have HB := Lib.hid h2
  clear h2 h3 hr
  go_enter Tryz.func50, Tryz.ntmps50
  go_wp2
  go_ret
  exact SmRes.no _ (by decide) HB.out.drew
set_option maxRecDepth 100000 in
set_option maxHeartbeats 4000000 in
theorem sample_num (R : Prop) (b Y Z : Nat) (w : World) (h1 : floatToFloatBits .f32 b .f64 = some Y) (h2 : floatBits .sub .f64 Y Y = some 0) (h3 : floatBits .mul .f64 4625196817309499392 Y = some Z)
    (h4 : (double.order Y 13880094051555868672 == some .lt) = false → (double.order Y 4656722014701092864 == some .gt) = false → ∃ n : Int, -32768 ≤ n ∧ n ≤ 32768 ∧ floatToIntVal .f64 Z .i64 = some n ∧ (double.order (floatOfInt .f64 n) Z = some .eq → R)) :
    Calls Tryz.prog 50 #[.float .f32 b] w fun r w' => SmRes R w r w' := by
  have q1 := fun W => run_convert_float_float (P := Tryz.prog) (w := W) 29 109 .f32 .f64 b Y (by kernel_rfl) (by kernel_rfl) h1
  have q2 := fun W => run_float_arith (P := Tryz.prog) W .sub 109 .f64 Y Y 0 h2
  have q3 := fun W => run_float_arith (P := Tryz.prog) W .mul 109 .f64 4625196817309499392 Y Z h3
  have q4 : FloatKind.f64.format.order 0 0 = some .eq := rfl
  have H4 := Lib.hid h4
  clear h1 h2 h3 h4
  cases c1 : (FloatKind.f64.format.order Y 13880094051555868672 == some .lt) with
  | true =>
    go_enter Tryz.func50, Tryz.ntmps50
    go_wp2
    go_ret
    exact SmRes.no _ (by decide) (Below.refl _ _)
  | false =>
    cases c2 : (FloatKind.f64.format.order Y 4656722014701092864 == some .gt) with
    | true =>
      go_enter Tryz.func50, Tryz.ntmps50
      go_wp2
      go_ret
      exact SmRes.no _ (by decide) (Below.refl _ _)
    | false =>
      obtain ⟨n, n1, n2, n3, n4⟩ := H4.out c1 c2
      have q5 := fun W => run_convert_float_int (P := Tryz.prog) W 109 3 .f64 .i64 Z n (by kernel_rfl) (by kernel_rfl) n3
      have q6 := fun W => run_convert_int_float (P := Tryz.prog) W 3 109 .i64 .f64 n (by kernel_rfl) (by kernel_rfl)
      have HN := Lib.hid n4
      clear n3 n4 H4
      generalize floatOfInt .f64 n = G at *
      by_cases c3 : FloatKind.f64.format.order G Z = some .eq
      · have HR := Lib.hid (HN.out c3)
        go_enter Tryz.func50, Tryz.ntmps50
        go_wp2
        go_ret
        exact SmRes.yes HR.out _
      · have c4 : (FloatKind.f64.format.order G Z == some .eq) = false := beq_eq_false_iff_ne.2 c3
        have c5 : (FloatKind.f64.format.order G Z != some .eq) = true := bne_iff_ne.2 c3
        clear c3
        go_enter Tryz.func50, Tryz.ntmps50
        go_wp2
        go_ret
        exact SmRes.no _ (by decide) (Below.refl _ _)
/-- bits of a sample that holds. -/
def BitOk (b : Nat) : Prop := ∃ c : Int, b = xbR c ∧ (c = 65536 ∨ (-32768 ≤ c ∧ c ≤ 32768))
theorem sample_any (b : Nat) (hb : b < 4294967296) (w : World) : Calls Tryz.prog 50 #[.float .f32 b] w fun r w' => SmRes (BitOk b) w r w' := by
  cases h : single.read b with
  | nan s f =>
    obtain ⟨r, hr, hc⟩ := run_conv_nan b h w
    exact sample_not _ 0 b r w w.drew hc (Below.refl _ _).drew hr.sub
  | infinity s =>
    have hc : floatToFloatBits .f32 b .f64 = some (double.write (.infinity s)) := by
      unfold floatToFloatBits
      rw [if_neg (by decide)]
      show (match single.read b with | .nan _ _ => none | .infinity s => _ | .number s m e => _) = _
      rw [h]
      rfl
    exact sample_not _ 0 b _ w w (run_convert_float_float (P := Tryz.prog) (w := w) 29 109 .f32 .f64 b _ (by kernel_rfl) (by kernel_rfl) hc) (Below.refl _ _) (by cases s <;> decide)
  | number s m p =>
    rcases finite_cases hb h with (rfl | rfl) | ⟨z, h0, z1, z2, p1, p2, hbz, rfl, rfl⟩
    · exact sample_num _ 0 0 0 w (by decide) (by decide) (by decide) (fun _ _ => ⟨0, by decide, by decide, by decide, fun _ => ⟨0, by decide, .inr (by decide)⟩⟩)
    · exact sample_num _ 2147483648 9223372036854775808 9223372036854775808 w (by decide) (by decide) (by decide) (fun _ _ => ⟨0, by decide, by decide, by decide, fun _ => ⟨65536, rfl, .inl rfl⟩⟩)
    · obtain ⟨s1, s2, s3⟩ := sample_number h0 ⟨z1, z2⟩ ⟨p1, p2⟩
      refine sample_num _ b (flE double z p) (flE double z (p + 4)) w (conv_number h ⟨z1, z2⟩ h0 ⟨p1, p2⟩) s1 s2 (fun d1 d2 => ?_)
      obtain ⟨n, n1, n2, n3, n4⟩ := s3 d1 d2
      refine ⟨n, n1, n2, n3, fun e => ⟨n, ?_, .inr ⟨n1, n2⟩⟩⟩
      rw [hbz, n4 e]
      unfold xbR
      rw [if_neg (by omega)]
end Go.Proofs.YtamldoidalnloaaGreatDoor

/- the reference's ShortRecord, CheckSamples, CheckRecord. -/
namespace Go.Proofs.YtamldoidalnloaaGreatDoor
open Go.RowKit
open Calm (bcell Blk)
/-- cells of floats by their bits. -/
def encU (x : Int) : Value := .float .f32 x.toNat
def bitsU (bs : List Int) : Prop := ∀ x ∈ bs, x.toNat < 4294967296
set_option maxRecDepth 100000 in
set_option maxHeartbeats 4000000 in
theorem samples_any (bs : List Int) (A : Option Addr) (c N : Nat) (w : World) (hN : N = bs.length) (hN5 : N ≤ 5000) (hb : bitsU bs) (hC : EC encU w A bs) :
    Calls Tryz.prog 23 #[.slice A N c] w fun r w' => SmRes (∀ x ∈ bs, BitOk x.toNat) w r w' := by
  have HN := Lib.hid hN
  have HC := Lib.hid hC
  have HB := Lib.hid hb
  clear hN hC hb
  go_enter Tryz.func23, Tryz.ntmps23
  go_wp2
  go_loopw [3] (fun i wr => ∃ k : Nat, k ≤ N ∧ i = (.int .i64 ((k : Int))) ∧ (∀ j, j < k → BitOk (bs.getD j 0).toNat) ∧ Below w.heap.size w wr) (fun i _ => N - (intOf i).toNat)
  case atStart => exact ⟨0, Nat.zero_le _, rfl, fun j hj => absurd hj (by omega), Below.refl _ _⟩
  case round =>
    obtain ⟨k, hk, rfl, hg, hw⟩ := hrel
    have HG := Lib.hid hg
    have HW := Lib.hid hw
    clear hg hw
    by_cases hlt : k < N
    · obtain ⟨b2, o2, rfl, l2, q2⟩ := (HC.out.below HW.out) (by have := HN.out; omega)
      have x2 := q2 k (by have := HN.out; omega)
      have HX : Hid ((bs.getD k 0).toNat < 4294967296) := Lib.hid (HB.out _ (by
        rw [List.getD_eq_getElem?_getD, List.getElem?_eq_getElem (by rw [← HN.out]; exact hlt)]
        exact List.getElem_mem _))
      have HS : Hid (BitOk (bs.getD k 0).toNat → ∀ j, j < k + 1 → BitOk (bs.getD j 0).toNat) := Lib.hid (fun q j hj => by
        by_cases e : j = k
        · subst e; exact q
        · exact HG.out j (by omega))
      unfold encU at x2
      generalize (bs.getD k 0).toNat = X at x2 HX HS
      clear q2
      go_wp2_with (go_at_call 50; refine (sample_any X HX.out wr).mono ?_; rintro r w2 ⟨e, rfl, he, hb⟩; have HE := Lib.hid he; have HW2 := Lib.hid (HW.out.trans (hb.mono HW.out.size)); clear he hb; refine Hid.out ?_)
      unfold Hid
      clear x2
      by_cases h0 : e = 0
      · have HL := Lib.hid (HS.out (HE.out h0))
        subst h0
        go_wp2
        go_roundw
        case rel => exact ⟨k + 1, by omega, rfl, HL.out, HW2.out⟩
        case measure => simp [intOf]; omega
      · have h1 : (e != 0) = true := bne_iff_ne.2 h0
        have HZ := Lib.hid h0
        clear h0
        go_wp2
        go_ret
        exact SmRes.no _ HZ.out HW2.out
    · obtain rfl : k = N := by omega
      have HL : Hid (∀ x ∈ bs, BitOk x.toNat) := Lib.hid (fun x hx => by
        obtain ⟨j, hj, rfl⟩ := List.mem_iff_getElem.1 hx
        have := HG.out j (by have := HN.out; omega)
        rwa [List.getD_eq_getElem?_getD, List.getElem?_eq_getElem hj] at this)
      clear hk hlt
      go_wp2
      go_ret
      exact ⟨0, rfl, fun _ => HL.out, HW.out⟩
theorem first_two {a b : Int} (h : firstOf [a, b] = 0) : a = 0 ∧ b = 0 := by
  unfold firstOf at h
  by_cases h1 : a = 0
  · subst h1
    refine ⟨rfl, ?_⟩
    by_cases h2 : b = 0
    · exact h2
    · simp [h2] at h
  · simp [h1] at h
theorem range_zero {n lo hi : Int} (h : rangeErr n lo hi = 0) : lo ≤ n ∧ n ≤ hi := by
  rcases Int.lt_or_le n lo with h1 | h1
  · rw [rangeErr_lo h1] at h; cases h
  · rcases Int.lt_or_le hi n with h2 | h2
    · rw [rangeErr_hi h2] at h; cases h
    · exact ⟨h1, h2⟩
set_option maxRecDepth 100000 in
set_option maxHeartbeats 4000000 in
theorem refRecord_any (nm : ByteArray) (rate : Int) (bs : List Int) (A : Option Addr) (c N : Nat) (w : World) (hnm : nm.size ≤ 100) (hN : N = bs.length) (hN5 : N ≤ 5000) (hb : bitsU bs) (hC : EC encU w A bs) :
    Calls Tryz.prog 5 #[.agg #[.string nm, (.int .i64 rate), .slice A N c]] w fun r w' => SmRes (NmGood nm ∧ (1 ≤ rate ∧ rate ≤ 192000) ∧ N ≤ 4096 ∧ ∀ x ∈ bs, BitOk x.toNat) w r w' := by
  have HCN : Hid (∀ W, Calls Tryz.prog 21 #[.string nm] W fun r w' => ∃ e : Int, r = .returned (.int .i64 e) ∧ (e = 0 → NmGood nm) ∧ W = w') := Lib.hid (fun W => refCheckName_any nm W hnm)
  have HSM : Hid (∀ W, EC encU W A bs → Calls Tryz.prog 23 #[.slice A N c] W fun r w' => SmRes (∀ x ∈ bs, BitOk x.toNat) W r w') := Lib.hid (fun W q => samples_any bs A c N W hN hN5 hb q)
  obtain ⟨E2, hE2⟩ : ∃ E2, E2 = rangeErr rate 1 192000 := ⟨_, rfl⟩
  have HRG : Hid (∀ W, Calls Tryz.prog 22 #[(.int .i64 rate), (.int .i64 1), (.int .i64 192000)] W fun r w' => r = .returned (.int .i64 E2) ∧ Below W.heap.size W w') := Lib.hid (fun W => (qRange_any rate 1 192000 W).mono (fun _ _ ⟨h1, h2⟩ => ⟨by rw [h1, hE2], h2 ▸ Below.refl _ _⟩))
  have HF2 : Hid (∀ (a b : Int) (W : World), Calls Tryz.prog 20 #[.slice (some ⟨W.heap.size, 0, none⟩) 2 2] (W.alloc (.cells #[(.int .i64 a), (.int .i64 b)] 3)) fun r w' => r = .returned (.int .i64 (firstOf [a, b])) ∧ (W.alloc (.cells #[(.int .i64 a), (.int .i64 b)] 3)) = w') := Lib.hid (fun a b W => qFirst_any [a, b] _ _ _ (by simp) (Cells.row (heap_new rfl)))
  have HE2 := Lib.hid hE2
  have HC := Lib.hid hC
  clear hnm hN hC hb hE2
  go_enter Tryz.func5, Tryz.ntmps5
  go_wp2
  refine name_world ?_
  intro w1 e1
  have K0 : Blk w1 w.heap.size #[.string nm, (.int .i64 rate), .slice A N c] := by rw [e1]; (repeat (first | ((with_reducible refine Blk.at_ ?_); focus (first | rfl | (simp; done) | (simp; omega))) | (with_reducible refine Blk.alloc ?_ _) | (with_reducible refine Blk.below ?_ (by with_reducible assumption)) | (with_reducible refine Blk.drew ?_)))
  have HB1 := Lib.hid (show Below w.heap.size w w1 by rw [e1]; exact bel)
  have HK0 := Lib.hid K0
  obtain ⟨a0, a1, a2, al, af⟩ := K0.o3
  clear e1 K0
  refine Rel.region3 6 (by kernel_rfl) (by kernel_rfl) (by kernel_rfl) ?_
  simp only [List.take_succ_cons, List.take_zero, List.drop_succ_cons, List.drop_zero, List.filterMap_cons, List.filterMap_nil]
  iterate 2 (apply Rel.op3; (focus (first | exact Rel.gno rfl | exact Rel.gyes _ true _ rfl rfl rfl | exact Rel.gyes _ false _ rfl rfl rfl)); (focus (intro a W hb hd hbase; obtain ⟨hc, hf⟩ := bcell hb; clear hb hf; simp [Rel.deps, Rel.dep1, Rel.ons, Region.binds, Act.eval] at hd; simp only [Act.eval, List.mem_cons, List.not_mem_nil, not_or, and_imp, or_false, Array.getD_eq_getD_getElem?] at hbase; go_simp; (try go_bits); (try rfl); done)); (try simp only [List.nil_append, List.cons_append]))
  refine Rel.callR3 (fun u _ => ∃ e : Int, u = (.int .i64 e) ∧ (e = 0 → NmGood nm)) (fun _ _ _ h _ => h) (Rel.gno rfl) ?_ ?_
  · intro a W hb hd hbase
    simp [Rel.deps, Rel.dep1, Rel.ons, Region.binds] at hd
    refine ⟨21, #[.string nm], ?_, (HCN.out W).mono (fun e W' ⟨v, h1, h2, h3⟩ => ⟨_, h1, ⟨v, rfl, h2⟩, h3 ▸ Below.refl _ _⟩)⟩
    simp only [Act.eval, Array.getD_eq_getD_getElem?] at hd
    go_simp
    (first | done | rfl | (refine ⟨?_, ?_⟩ <;> rfl))
  (try simp only [List.nil_append, List.cons_append])
  iterate 2 (apply Rel.op3; (focus (first | exact Rel.gno rfl | exact Rel.gyes _ true _ rfl rfl rfl | exact Rel.gyes _ false _ rfl rfl rfl)); (focus (intro a W hb hd hbase; obtain ⟨hc, hf⟩ := bcell hb; clear hb hf; simp [Rel.deps, Rel.dep1, Rel.ons, Region.binds, Act.eval] at hd; simp only [Act.eval, List.mem_cons, List.not_mem_nil, not_or, and_imp, or_false, Array.getD_eq_getD_getElem?] at hbase; go_simp; (try go_bits); (try rfl); done)); (try simp only [List.nil_append, List.cons_append]))
  (apply Rel.call3; (focus (first | exact Rel.gno rfl | exact Rel.gyes _ true _ rfl rfl rfl | exact Rel.gyes _ false _ rfl rfl rfl)); (focus (intro a W hb hd hbase; obtain ⟨hc, hf⟩ := bcell hb; clear hb hf; simp [Rel.deps, Rel.dep1, Rel.ons, Region.binds, Act.eval] at hd; simp only [Act.eval, List.mem_cons, List.not_mem_nil, not_or, and_imp, or_false, Array.getD_eq_getD_getElem?] at hbase; go_simp; refine ⟨?_, ?_⟩; rfl; rfl)); (focus (intro W hb; go_at_call 22; exact HRG.out W)); (try simp only [List.nil_append, List.cons_append]))
  refine Rel.done3 ?_
  intro x w2 hb2 hx
  simp only [Rel.facts, Nat.zero_add, Nat.reduceAdd] at hx
  obtain ⟨e0, e1, ⟨E1, e2, hE1⟩, e3, e4, e5, _⟩ := hx
  simp only [Rel.fill, Nat.zero_add, Nat.reduceAdd, e0, e1, e2, e3, e4, e5]
  simp only [Act.put, List.setIfInBounds_toArray, List.set_cons_zero, List.set_cons_succ]
  have HB2 := Lib.hid (HB1.out.trans (hb2.mono HB1.out.size))
  have HK02 := Lib.hid (HK0.out.below hb2)
  have HE1 := Lib.hid hE1
  clear e0 e1 e2 e3 e4 e5 hb2 hE1 a0 a1 a2 al af
  have HFF := Lib.hid (HF2.out E1 E2 w2)
  have HFZ : Hid (firstOf [E1, E2] = 0 → NmGood nm ∧ 1 ≤ rate ∧ rate ≤ 192000) := Lib.hid (fun h => ⟨HE1.out (first_two h).1, range_zero (by rw [← HE2.out]; exact (first_two h).2)⟩)
  generalize firstOf [E1, E2] = F at HFF HFZ
  go_wp2_with (go_at_call 20; refine HFF.out.mono ?_; rintro r wx ⟨rfl, rfl⟩; refine Hid.out ?_)
  unfold Hid
  have HB3 : Hid (Below w.heap.size w (w2.alloc (.cells #[(.int .i64 E1), (.int .i64 E2)] 3))) := Lib.hid (HB2.out.alloc HB2.out.size _)
  obtain ⟨a0, a1, a2, al, af⟩ := (HK02.out.alloc (.cells #[(.int .i64 E1), (.int .i64 E2)] 3)).o3
  by_cases h0 : F = 0
  · have HG := Lib.hid (HFZ.out h0)
    subst h0
    by_cases hn : N ≤ 4096
    · have hni : ¬ (4096 : Int) < (N : Int) := by omega
      go_wp2_with (go_at_call 23; refine (HSM.out _ (HC.out.below HB3.out)).mono ?_; rintro r w4 ⟨e, rfl, he, h4⟩; have HE := Lib.hid he; have HB4 := Lib.hid (HB3.out.trans (h4.mono HB3.out.size)); clear he h4; refine Hid.out ?_)
      unfold Hid
      have HNN := Lib.hid hn
      clear a0 a1 a2 al af hni hn
      go_wp2
      go_ret
      exact ⟨e, rfl, fun h => ⟨HG.out.1, HG.out.2, HNN.out, HE.out h⟩, HB4.out⟩
    · have hni : (4096 : Int) < (N : Int) := by omega
      go_wp2
      go_ret
      exact SmRes.no _ (by decide) HB3.out
  · have h1 : (F != 0) = true := bne_iff_ne.2 h0
    have HZ := Lib.hid h0
    clear h0
    go_wp2
    go_ret
    exact SmRes.no _ HZ.out HB3.out
/-- what ShortRecord says. -/
def ShRes (R : Prop) (w : World) (r : Ending) (w' : World) : Prop := ∃ b, r = .returned (.bool b) ∧ (b = true → R) ∧ Below w.heap.size w w'
set_option maxRecDepth 100000 in
set_option maxHeartbeats 4000000 in
theorem shortRecord_any (nm : ByteArray) (rate : Int) (A : Option Addr) (c N : Nat) (w : World) (hN : (N : Int) ≤ 9223372036854775807) :
    Calls Tryz.prog 4 #[.agg #[.string nm, (.int .i64 rate), .slice A N c], (.int .i64 16)] w fun r w' => ShRes (nm.size ≤ 60 ∧ (N ≤ 16 ∨ N = 4097)) w r w' := by
  have HB : Hid (Below w.heap.size w (w.alloc (.cells #[.string nm, (.int .i64 rate), .slice A N c] 24))) := Lib.hid ((Below.refl _ _).alloc (Nat.le_refl _) _)
  by_cases h1 : nm.size ≤ 60
  · have d1 : (nm.size : Int) ≤ 60 := by omega
    by_cases h2 : N ≤ 16
    · have d2 : (N : Int) ≤ 16 := by omega
      have HR := Lib.hid (show nm.size ≤ 60 ∧ (N ≤ 16 ∨ N = 4097) from ⟨h1, .inl h2⟩)
      clear h1 h2
      go_enter Tryz.func4, Tryz.ntmps4
      go_wp2
      go_ret
      exact ⟨_, rfl, fun _ => HR.out, HB.out⟩
    · have d2 : ¬ (N : Int) ≤ 16 := by omega
      by_cases h3 : N = 4097
      · have HR := Lib.hid (show nm.size ≤ 60 ∧ (N ≤ 16 ∨ N = 4097) from ⟨h1, .inr h3⟩)
        have d3 : ((N : Int) == 4097) = true := by rw [beq_iff_eq]; omega
        clear h1 h2 h3
        go_enter Tryz.func4, Tryz.ntmps4
        go_wp2
        go_ret
        exact ⟨_, rfl, fun _ => HR.out, HB.out⟩
      · have d3 : ((N : Int) == 4097) = false := beq_eq_false_iff_ne.2 (by omega)
        clear h1 h2 h3
        go_enter Tryz.func4, Tryz.ntmps4
        go_wp2
        go_ret
        exact ⟨_, rfl, fun h => absurd h (by decide), HB.out⟩
  · have d1 : ¬ (nm.size : Int) ≤ 60 := by omega
    clear h1
    go_enter Tryz.func4, Tryz.ntmps4
    go_wp2
    go_ret
    exact ⟨_, rfl, fun h => absurd h (by decide), HB.out⟩
end Go.Proofs.YtamldoidalnloaaGreatDoor

/- woofertop: max(x, -x) > 64 of a sample. -/
namespace Go.Proofs.YtamldoidalnloaaGreatDoor
open Go.RowKit
open Ieee
open Calm (bcell Blk)
theorem xor_top {r : Nat} (h : r < 2147483648) : r ^^^ 2147483648 = 2147483648 + r := by
  have e : (2147483648 : Nat) = 2 ^ 31 := by decide
  have h2 := Nat.two_pow_add_eq_or_of_lt (i := 31) (b := r) (by rw [← e]; exact h) 1
  rw [Nat.mul_one, ← e] at h2
  rw [h2]
  apply Nat.eq_of_testBit_eq
  intro i
  rw [Nat.testBit_xor, Nat.testBit_or, e, Nat.testBit_two_pow]
  by_cases hi : 31 = i
  · subst hi
    rw [Nat.testBit_lt_two_pow (by rw [← e]; exact h)]
    simp
  · simp [hi]
theorem neg_word {r : Nat} (h : r < 2147483648) (s : Bool) : Op.negFloat .f32 (single.word s r) = single.word (!s) r := by
  have e : FloatKind.f32.format.exponentBits + FloatKind.f32.format.fractionBits = 31 := by decide
  have e2 : single.signWeight = 2147483648 := by decide
  unfold Op.negFloat Format.word
  rw [e, e2, show (2 : Nat) ^ 31 = 2147483648 by decide]
  cases s
  · simp only [Bool.false_eq_true, if_false, Bool.not_false, if_true, Bool.toNat_false, Bool.toNat_true, Nat.zero_mul, Nat.one_mul, Nat.zero_add]
    exact xor_top h
  · simp only [Bool.false_eq_true, if_false, Bool.not_true, if_true, Bool.toNat_false, Bool.toNat_true, Nat.zero_mul, Nat.one_mul, Nat.zero_add]
    rw [← xor_top h, Nat.xor_assoc, Nat.xor_self, Nat.xor_zero]
theorem neg_fl {c : Int} (h0 : c ≠ 0) (hc : -16777216 < c ∧ c < 16777216) : Op.negFloat .f32 (fl c) = fl (-c) := by
  have r : Rep single c.natAbs (-4) := rep_single (by omega) (by omega) (by decide) (by decide)
  have hir : single.infRung = 2139095040 := by decide
  have hr := r.hi
  rw [hir] at hr
  rw [fl_eq, fl_eq]
  unfold flE
  rw [Int.natAbs_neg, nearest_rep (VE.refl _ _) r, nearest_rep (VE.refl _ _) r, neg_word (by omega)]
  congr 1
  by_cases h : c < 0
  · rw [decide_eq_true h, decide_eq_false (by omega)]; rfl
  · rw [decide_eq_false h, decide_eq_true (by omega)]; rfl
theorem max_rule (x y M : Nat) (h : (FloatKind.f32.format.order x y = some .lt ∧ M = y) ∨ (FloatKind.f32.format.order x y = some .gt ∧ M = x) ∨ (FloatKind.f32.format.order x y = some .eq ∧ M = if (FloatKind.f32.decode x).neg then y else x)) (ts : Array TypeId) (t : TypeId) (W : World) :
    (Builtin.max_ ts t #[.float .f32 x, .float .f32 y]).run Tryz.prog W = .ok (.float .f32 M) W := by
  rcases h with ⟨h, rfl⟩ | ⟨h, rfl⟩ | ⟨h, rfl⟩ <;> simp [Builtin.max_, Builtin.max2, h]
/-- max(x, -x) of a sample, and what is known where it is not above 64. -/
theorem max_abs (c : Int) (hc : c = 65536 ∨ (-32768 ≤ c ∧ c ≤ 32768)) : ∃ M, (∀ (ts : Array TypeId) (t : TypeId) (W : World), (Builtin.max_ ts t #[.float .f32 (xbR c), .float .f32 (Op.negFloat .f32 (xbR c))]).run Tryz.prog W = .ok (.float .f32 M) W) ∧
    ((FloatKind.f32.format.order M 1115684864 == some .gt) = false → -1024 ≤ vzR c ∧ vzR c ≤ 1024) := by
  have k : fl 1024 = 1115684864 := by decide
  rcases hc with rfl | hc
  · exact ⟨0, max_rule _ _ _ (.inr (.inr ⟨by decide, by decide⟩)), fun _ => by decide⟩
  · have hx : xbR c = fl c := by unfold xbR; rw [if_neg (by omega)]
    have hv : vzR c = c := by unfold vzR; rw [if_neg (by omega)]
    rw [hx, hv]
    rcases Int.lt_trichotomy c 0 with h | h | h
    · rw [neg_fl (by omega) (by omega)]
      have ho := fl_order (a := c) (b := -c) (by omega) (by omega)
      have hl : compare c (-c) = .lt := by show compareOfLessAndEq c (-c) = .lt; unfold compareOfLessAndEq; rw [if_pos (by omega)]
      rw [hl] at ho
      refine ⟨fl (-c), max_rule _ _ _ (.inl ⟨ho, rfl⟩), fun hg => ?_⟩
      have h2 := fl_order (a := -c) (b := 1024) (by omega) (by decide)
      rw [k] at h2
      have hg : (single.order (fl (-c)) 1115684864 == some .gt) = false := hg
      rw [h2] at hg
      have := not_gt_of hg
      omega
    · subst h
      exact ⟨0, max_rule _ _ _ (.inr (.inr ⟨by decide, by decide⟩)), fun _ => by decide⟩
    · rw [neg_fl (by omega) (by omega)]
      have ho := fl_order (a := c) (b := -c) (by omega) (by omega)
      have hl : compare c (-c) = .gt := by show compareOfLessAndEq c (-c) = .gt; unfold compareOfLessAndEq; rw [if_neg (by omega), if_neg (by omega)]
      rw [hl] at ho
      refine ⟨fl c, max_rule _ _ _ (.inr (.inl ⟨ho, rfl⟩)), fun hg => ?_⟩
      have h2 := fl_order (a := c) (b := 1024) (by omega) (by decide)
      rw [k] at h2
      have hg : (single.order (fl c) 1115684864 == some .gt) = false := hg
      rw [h2] at hg
      have := not_gt_of hg
      omega
/-- the codes behind bits that hold. -/
theorem codes_of : ∀ (bs : List Int), (∀ x ∈ bs, BitOk x.toNat) → (bitsU bs) → ∃ l, l.length = bs.length ∧ okR l ∧ bs.map encU = l.map encR
  | [], _, _ => ⟨[], rfl, fun _ h => absurd h (by simp), rfl⟩
  | b :: bs, h, h2 => by
    obtain ⟨l, h3, h4, h5⟩ := codes_of bs (fun x hx => h x (List.mem_cons_of_mem _ hx)) (fun x hx => h2 x (List.mem_cons_of_mem _ hx))
    obtain ⟨c, hc, hc2⟩ := h b (List.mem_cons_self ..)
    refine ⟨c :: l, by simp [h3], fun x hx => ?_, ?_⟩
    · rcases List.mem_cons.1 hx with rfl | hx
      · exact hc2
      · exact h4 x hx
    · rw [List.map_cons, List.map_cons, h5]
      congr 1
      show Value.float .f32 b.toNat = Value.float .f32 (xbR c)
      rw [hc]
theorem EC.recode {e1 e2 : Int → Value} {w : World} {A : Option Addr} {l m : List Int} (h : EC e1 w A l) (hl : m.length = l.length) (he : l.map e1 = m.map e2) : EC e2 w A m := fun h0 => by
  obtain ⟨b, o, hA, hb, hc⟩ := h (by omega)
  refine ⟨b, o, hA, hb, fun k hk => ?_⟩
  rw [hc k (by omega)]
  have := congrArg (fun q => q[k]?) he
  simp only [List.getElem?_map, List.getElem?_eq_getElem hk, List.getElem?_eq_getElem (show k < l.length by omega), Option.map_some] at this
  rw [List.getD_eq_getElem?_getD, List.getElem?_eq_getElem (show k < l.length by omega), List.getD_eq_getElem?_getD, List.getElem?_eq_getElem hk]
  exact this
end Go.Proofs.YtamldoidalnloaaGreatDoor

/- Echoes and Golay's pairs, plain. -/
namespace Go.Proofs.YtamldoidalnloaaGreatDoor
def bdL (l : List Int) (B : Int) : Prop := ∀ k, -B ≤ gd l k ∧ gd l k ≤ B
theorem bdL.of {l : List Int} {B : Int} (hB : 0 ≤ B) (h : ∀ x ∈ l, -B ≤ x ∧ x ≤ B) : bdL l B := fun k => by
  rcases Nat.lt_or_ge k l.length with hk | hk
  · unfold gd
    rw [List.getD_eq_getElem?_getD, List.getElem?_eq_getElem hk]
    exact h _ (List.getElem_mem hk)
  · rw [gd_out hk]; omega
theorem bdL.mem {l : List Int} {B : Int} (h : bdL l B) : ∀ x ∈ l, -B ≤ x ∧ x ≤ B := fun x hx => by
  obtain ⟨k, hk, rfl⟩ := List.getElem_of_mem hx
  have := h k
  unfold gd at this
  rwa [List.getD_eq_getElem?_getD, List.getElem?_eq_getElem hk] at this
theorem bdL.lvls {l : List Int} {B : Int} (h : bdL l B) (hB : B ≤ 1048576) : lvls l := fun x hx => by have := h.mem x hx; omega
/-- ones and minus ones, and zeros. -/
def pmz (l : List Int) : Prop := ∀ k, gd l k = 0 ∨ gd l k = 1 ∨ gd l k = -1
theorem sig_bd {f : Nat → Int} {B : Int} (hf : ∀ i, -B ≤ f i ∧ f i ≤ B) : ∀ n : Nat, -(B * n) ≤ sig n f ∧ sig n f ≤ B * n
  | 0 => by simp [sig]
  | n + 1 => by
    have h1 := sig_bd hf n
    have h2 := hf n
    have e : B * ((n + 1 : Nat) : Int) = B * (n : Int) + B := by rw [Int.natCast_add, Int.mul_add, Int.natCast_one, Int.mul_one]
    rw [e]
    show -(B * n + B) ≤ sig n f + f n ∧ sig n f + f n ≤ B * n + B
    omega
theorem conv_bd {g l : List Int} {B : Int} {n : Nat} (hg : pmz g) (hn : g.length ≤ n) (hB : 0 ≤ B) (hl : bdL l B) : bdL (conv g l) (B * n) := fun k => by
  by_cases h0 : g.length = 0
  · rw [conv_nil (.inl h0)]
    have : gd ([] : List Int) k = 0 := gd_out (Nat.zero_le _)
    rw [this]
    have := Int.mul_nonneg hB (Int.natCast_nonneg n)
    omega
  rw [conv_gd, ← cvAt_cp, cvAt_sig]
  have h1 := sig_bd (f := fun m => g.getD m 0 * pz l k m) (B := B) (fun i => by
    have hp : -B ≤ pz l k i ∧ pz l k i ≤ B := by
      unfold pz
      split
      · exact hl _
      · omega
    show -B ≤ gd g i * _ ∧ gd g i * _ ≤ B
    rcases hg i with e | e | e <;> rw [e] <;> omega) g.length
  have h2 : B * (g.length : Int) ≤ B * (n : Int) := Int.mul_le_mul_of_nonneg_left (by omega) hB
  omega
/-- a one, d - 1 zeros, a one. -/
def unitD (d : Nat) : List Int := ((List.replicate (d + 1) (0 : Int)).set 0 1).set d 1
theorem unitD_len (d : Nat) : (unitD d).length = d + 1 := by simp [unitD]
theorem unitD_gd (d k : Nat) (h : 1 ≤ d) : gd (unitD d) k = (if k = 0 then 1 else 0) + (if k = d then 1 else 0) := by
  unfold unitD gd
  rw [List.getD_eq_getElem?_getD, List.getElem?_set, List.getElem?_set]
  simp only [List.length_set, List.length_replicate, List.getElem?_replicate]
  by_cases h1 : k = 0
  · subst h1
    rw [if_neg (by omega), if_pos rfl, if_pos (by omega), if_pos rfl, if_neg (by omega)]
    rfl
  · by_cases h2 : k = d
    · subst h2
      rw [if_pos rfl, if_pos (by omega), if_neg h1, if_pos rfl]
      rfl
    · rw [if_neg (by omega), if_neg (by omega), if_neg h1, if_neg h2]
      split <;> rfl
theorem unitD_pmz {d : Nat} (h : 1 ≤ d) : pmz (unitD d) := fun k => by
  rw [unitD_gd d k h]
  by_cases h1 : k = 0
  · rw [if_pos h1, if_neg (by omega)]; omega
  · rw [if_neg h1]
    split <;> omega
theorem gd_zip {a b : List Int} (h : a.length = b.length) (k : Nat) : gd (List.zipWith (· + ·) a b) k = gd a k + gd b k := by
  rcases Nat.lt_or_ge k a.length with hk | hk
  · unfold gd
    rw [List.getD_eq_getElem?_getD, List.getD_eq_getElem?_getD, List.getD_eq_getElem?_getD, List.getElem?_zipWith, List.getElem?_eq_getElem hk, List.getElem?_eq_getElem (show k < b.length by omega)]
    rfl
  · rw [gd_out (by rw [List.length_zipWith]; omega), gd_out hk, gd_out (by omega)]
    rfl
/-- a record and itself d later: the convolution with the unit. -/
theorem echo_conv (own : List Int) (d : Nat) (h0 : 0 < own.length) (hd : 1 ≤ d) : List.zipWith (· + ·) (own ++ List.replicate d 0) (List.replicate d 0 ++ own) = conv own (unitD d) := by
  refine gd_ext (by rw [convL h0 (by rw [unitD_len]; omega), unitD_len]; simp; omega) (fun k hk => ?_)
  rw [gd_zip (by simp; omega), gd_pad, gd_append, conv_gd, cp_comm]
  have e1 : cp (gd (unitD d)) (gd own) k = sig (k + 1) (fun m => if m = 0 then gd own (k - m) else 0) + sig (k + 1) (fun m => if m = d then gd own (k - m) else 0) := by
    unfold cp
    rw [← sig_add]
    refine sig_congr (fun i _ => ?_)
    rw [unitD_gd d i hd]
    by_cases h1 : i = 0
    · rw [if_pos h1, if_neg (by omega), if_pos h1, if_neg (by omega)]; omega
    · rw [if_neg h1, if_neg h1]
      split <;> omega
  have s1 := sig_one (fun m => gd own (k - m)) 0 (k + 1)
  have s2 := sig_one (fun m => gd own (k - m)) d (k + 1)
  rw [if_pos (by omega)] at s1
  simp only [Nat.sub_zero] at s1
  rw [e1, s1, s2]
  congr 1
  rw [List.length_replicate]
  by_cases h2 : k < d
  · rw [if_pos h2, if_neg (by omega), gd_zeros]
  · rw [if_neg h2, if_pos (by omega)]
theorem gol_auto : ∀ e, e < 5 → ∀ t, t < 2 * 2 ^ e - 1 → gd (conv (gol e).1.reverse (gol e).1) t + gd (conv (gol e).2.reverse (gol e).2) t = if t = 2 ^ e - 1 then 2 * ((2 ^ e : Nat) : Int) else 0 := by decide +kernel
theorem gol_auto' {e : Nat} (he : e < 5) (t : Nat) : gd (conv (gol e).1.reverse (gol e).1) t + gd (conv (gol e).2.reverse (gol e).2) t = if t = 2 ^ e - 1 then 2 * ((2 ^ e : Nat) : Int) else 0 := by
  obtain ⟨l1, l2⟩ := gol_len e
  have hp := pow_le_64 (show e ≤ 6 by omega)
  rcases Nat.lt_or_ge t (2 * 2 ^ e - 1) with h | h
  · exact gol_auto e he t h
  · rw [gd_out (by rw [convL (by simp; omega) (by omega)]; simp; omega), gd_out (by rw [convL (by simp; omega) (by omega)]; simp; omega), if_neg (by omega)]
    rfl
/-- the pair's correlations with the pair's echoes sum to the record. -/
theorem gol_sum {e : Nat} (he : e < 5) (own : List Int) (h0 : 0 < own.length) (k : Nat) :
    gd (conv (gol e).1.reverse (conv (gol e).1 own)) k + gd (conv (gol e).2.reverse (conv (gol e).2 own)) k = if 2 ^ e - 1 ≤ k then 2 * ((2 ^ e : Nat) : Int) * gd own (k - (2 ^ e - 1)) else 0 := by
  obtain ⟨l1, l2⟩ := gol_len e
  have hp := pow_le_64 (show e ≤ 6 by omega)
  rw [← conv_assoc (by simp; omega) (by omega) h0, ← conv_assoc (by simp; omega) (by omega) h0, conv_gd, conv_gd]
  unfold cp
  rw [← sig_add]
  have e1 : sig (k + 1) (fun i => gd (conv (gol e).1.reverse (gol e).1) i * gd own (k - i) + gd (conv (gol e).2.reverse (gol e).2) i * gd own (k - i)) = sig (k + 1) (fun i => if i = 2 ^ e - 1 then 2 * ((2 ^ e : Nat) : Int) * gd own (k - i) else 0) := by
    refine sig_congr (fun i _ => ?_)
    rw [← Int.add_mul, gol_auto' he i]
    split
    · rfl
    · rw [Int.zero_mul]
  rw [e1, sig_one (fun m => 2 * ((2 ^ e : Nat) : Int) * gd own (k - m)) (2 ^ e - 1) (k + 1)]
  by_cases h : 2 ^ e - 1 ≤ k
  · rw [if_pos h, if_pos (by omega)]
  · rw [if_neg h, if_neg (by omega)]
theorem gol_pmz (e : Nat) : pmz (gol e).1 ∧ pmz (gol e).2 ∧ pmz (gol e).1.reverse ∧ pmz (gol e).2.reverse := by
  obtain ⟨h1, h2⟩ := gol_pm e
  have key : ∀ l : List Int, (∀ x ∈ l, x = 1 ∨ x = -1) → pmz l := fun l h k => by
    rcases Nat.lt_or_ge k l.length with hk | hk
    · have := h _ (List.getElem_mem hk)
      unfold gd
      rw [List.getD_eq_getElem?_getD, List.getElem?_eq_getElem hk]
      rcases this with q | q
      · exact .inr (.inl q)
      · exact .inr (.inr q)
    · exact .inl (gd_out hk)
  exact ⟨key _ h1, key _ h2, key _ (fun x hx => h1 x (List.mem_reverse.1 hx)), key _ (fun x hx => h2 x (List.mem_reverse.1 hx))⟩
end Go.Proofs.YtamldoidalnloaaGreatDoor

/- Texts, plain: words between blanks; numerals. No program. -/
namespace Go.Proofs.YtamldoidalnloaaGreatDoor
open Go.Lib

/-- the words between bytes c. -/
def cutL (c : UInt8) : List UInt8 → List (List UInt8)
  | [] => [[]]
  | x :: r => if x = c then [] :: cutL c r else match cutL c r with
    | [] => [[x]]
    | h :: t => (x :: h) :: t
theorem cutL_ne (c : UInt8) : ∀ l, cutL c l ≠ []
  | [] => by simp [cutL]
  | x :: r => by
    unfold cutL
    split
    · simp
    · split <;> simp
theorem index_cons_ne {x c : UInt8} (h : x ≠ c) (r : List UInt8) : index (x :: r) [c] = if index r [c] == -1 then -1 else index r [c] + 1 := by
  rw [index_one, index_one, indexByte, if_neg (by simpa using h)]
theorem index_cons_eq (c : UInt8) (r : List UInt8) : index (c :: r) [c] = 0 := by
  rw [index_one, indexByte, if_pos (by simp)]
theorem splitK_cons {x c : UInt8} (h : x ≠ c) (k : Nat) (r : List UInt8) : splitK [c] 0 k (x :: r) = match splitK [c] 0 k r with | [] => [[x]] | a :: t => (x :: a) :: t := by
  cases k with
  | zero => rfl
  | succ k =>
    unfold splitK
    rw [index_cons_ne h]
    by_cases hm : index r [c] = -1
    · rw [hm]; rfl
    · have hge := index_ge r [c]
      obtain ⟨i, hi⟩ : ∃ i : Nat, index r [c] = i := ⟨(index r [c]).toNat, by omega⟩
      rw [hi]
      have e1 : ((i : Int) == -1) = false := beq_eq_false_iff_ne.2 (by omega)
      have e2 : ((i : Int) + 1 == -1) = false := beq_eq_false_iff_ne.2 (by omega)
      rw [e1]
      simp only [Bool.false_eq_true, if_false]
      rw [e2]
      simp only [Bool.false_eq_true, if_false]
      rw [show ((i : Int) + 1).toNat = i + 1 by omega, Int.toNat_natCast]
      rfl
theorem split_cut (c : UInt8) : ∀ s, split s [c] = cutL c s
  | [] => rfl
  | x :: r => by
    have ih := split_cut c r
    unfold split at ih ⊢
    unfold cutL
    by_cases h : x = c
    · subst h
      rw [if_pos rfl, count_cons_eq, Nat.add_comm, splitK, index_cons_eq]
      simp [ih]
    · rw [if_neg h, count_cons_ne x c r h, splitK_cons h, ih]

/-- a numeral of digits alone. -/
def digB (c : UInt8) : Bool := decide (48 ≤ c.toNat) && decide (c.toNat ≤ 57)
def stepL (n : Nat) (c : UInt8) : Nat := 10 * n + (c.toNat - 48)
def valL (l : List UInt8) : Nat := l.foldl stepL 0
def Canon (l : List UInt8) : Prop := l ≠ [] ∧ l.all digB = true ∧ (1 < l.length → l.head? ≠ some 48)
instance (l : List UInt8) : Decidable (Canon l) := by unfold Canon; exact inferInstance
def numL (l : List UInt8) : Option Nat := if l.length ≤ 9 ∧ Canon l then some (valL l) else none
theorem valL_snoc (l : List UInt8) (c : UInt8) : valL (l ++ [c]) = 10 * valL l + (c.toNat - 48) := by
  unfold valL; rw [List.foldl_append]; rfl
theorem digB_iff {c : UInt8} : digB c = true ↔ 48 ≤ c.toNat ∧ c.toNat ≤ 57 := by simp [digB]
theorem dig_ofNat {d : Nat} (h : d < 10) : (UInt8.ofNat (48 + d)).toNat = 48 + d := by
  rw [UInt8.toNat_ofNat']; omega
theorem ofNat_dig {c : UInt8} (h : digB c = true) : UInt8.ofNat (48 + (c.toNat - 48)) = c := by
  have := digB_iff.1 h
  rw [show 48 + (c.toNat - 48) = c.toNat by omega]
  exact UInt8.ofNat_toNat
theorem snoc_cases {α : Type} (l : List α) : l = [] ∨ ∃ i c, l = i ++ [c] := by
  rcases List.eq_nil_or_concat l with h | ⟨i, c, h⟩
  · exact .inl h
  · exact .inr ⟨i, c, by simpa using h⟩
theorem head_app {i : List UInt8} (hi : i ≠ []) (t : List UInt8) : (i ++ t).head? = i.head? := by
  cases i with
  | nil => exact absurd rfl hi
  | cons a r => rfl
theorem valL_pos : ∀ (n : Nat) (l : List UInt8), l.length = n → l ≠ [] → l.all digB = true → l.head? ≠ some 48 → 1 ≤ valL l
  | 0, l, hn, h, _, _ => absurd (List.eq_nil_of_length_eq_zero hn) h
  | n + 1, l, hn, h, hd, hh => by
    rcases snoc_cases l with rfl | ⟨i, c, rfl⟩
    · exact absurd rfl h
    · rw [valL_snoc]
      by_cases hi : i = []
      · subst hi
        simp at hh hd
        have := digB_iff.1 hd
        have : c.toNat ≠ 48 := fun e => hh (UInt8.toNat_inj.1 (by rw [e]; rfl))
        omega
      · have ih := valL_pos n i (by simpa using hn) hi (by simp at hd ⊢; exact hd.1) (by
          intro e; apply hh
          rw [head_app hi]; exact e)
        omega
theorem dec_of_canon : ∀ (n : Nat) (l : List UInt8), l.length = n → Canon l → decDigits (valL l) = l
  | 0, l, hn, h => absurd (List.eq_nil_of_length_eq_zero hn) h.1
  | n + 1, l, hn, h => by
    obtain ⟨h1, h2, h3⟩ := h
    rcases snoc_cases l with rfl | ⟨i, c, rfl⟩
    · exact absurd rfl h1
    · have hc : digB c = true := by simp at h2; exact h2.2
      have hcd := digB_iff.1 hc
      rw [valL_snoc]
      by_cases hi : i = []
      · subst hi
        have e : valL [] = 0 := rfl
        rw [e, decDigits, dif_pos (by omega), show 10 * 0 + (c.toNat - 48) = c.toNat - 48 by omega, ofNat_dig hc]; rfl
      · have hlen : 1 < (i ++ [c]).length := by
          have := List.length_pos_iff.2 hi
          simp; omega
        have hh : i.head? ≠ some 48 := by
          intro e; apply h3 hlen
          rw [head_app hi]; exact e
        have hd : i.all digB = true := by simp at h2 ⊢; exact h2.1
        have hp := valL_pos i.length i rfl hi hd hh
        have ih := dec_of_canon n i (by simpa using hn) ⟨hi, hd, fun _ => hh⟩
        rw [decDigits, dif_neg (by omega), show (10 * valL i + (c.toNat - 48)) / 10 = valL i by omega, show (10 * valL i + (c.toNat - 48)) % 10 = c.toNat - 48 by omega, ih, ofNat_dig hc]
theorem canon_dec (u : Nat) : Canon (decDigits u) ∧ valL (decDigits u) = u ∧ (10 ≤ u → (decDigits u).head? ≠ some 48) := by
  induction u using Nat.strongRecOn with
  | _ u ih =>
    by_cases h : u < 10
    · rw [decDigits_one h]
      refine ⟨⟨by simp, by simp [digB_iff, dig_ofNat h]; omega, by simp⟩, ?_, by omega⟩
      unfold valL
      simp only [List.foldl_cons, List.foldl_nil, stepL]
      rw [dig_ofNat h]; omega
    · obtain ⟨⟨i1, i2, i3⟩, i4, i5⟩ := ih (u / 10) (by omega)
      have hd : u % 10 < 10 := Nat.mod_lt _ (by decide)
      have e : decDigits u = decDigits (u / 10) ++ [UInt8.ofNat (48 + u % 10)] := by rw [decDigits, dif_neg h]
      have hh : (decDigits u).head? ≠ some 48 := by
        rw [e, head_app i1]
        by_cases h2 : u / 10 < 10
        · rw [decDigits_one h2]
          intro e2
          simp only [List.head?_cons, Option.some.injEq] at e2
          have := congrArg UInt8.toNat e2
          rw [dig_ofNat h2] at this
          have : u / 10 = 0 := by simp at this; omega
          omega
        · exact i5 (by omega)
      refine ⟨⟨by rw [e]; simp, ?_, fun _ => hh⟩, ?_, fun _ => hh⟩
      · rw [e, List.all_append, i2]
        simp [digB_iff, dig_ofNat hd]; omega
      · rw [e, valL_snoc, i4, dig_ofNat hd]; omega
theorem valL_lt : ∀ (n : Nat) (l : List UInt8), l.length = n → l.all digB = true → valL l < 10 ^ l.length
  | 0, l, hn, _ => by rw [List.eq_nil_of_length_eq_zero hn]; decide
  | n + 1, l, hn, hd => by
    rcases snoc_cases l with rfl | ⟨i, c, rfl⟩
    · simp at hn
    · have ih := valL_lt n i (by simpa using hn) (by simp at hd ⊢; exact hd.1)
      have hc := digB_iff.1 (show digB c = true by simp at hd; exact hd.2)
      rw [valL_snoc, List.length_append, List.length_singleton, Nat.pow_succ]
      omega
theorem numL_some {l : List UInt8} {k : Nat} (h : numL l = some k) : k = valL l ∧ l.length ≤ 9 ∧ Canon l ∧ decDigits k = l ∧ k < 1000000000 := by
  unfold numL at h
  split at h
  · rename_i hc
    cases h
    refine ⟨rfl, hc.1, hc.2, dec_of_canon _ l rfl hc.2, ?_⟩
    have h1 := valL_lt _ l rfl hc.2.2.1
    have h2 : 10 ^ l.length ≤ 10 ^ 9 := Nat.pow_le_pow_right (by decide) hc.1
    omega
  · cases h
theorem numL_dec {u : Nat} (h : (decDigits u).length ≤ 9) : numL (decDigits u) = some u := by
  obtain ⟨h1, h2, _⟩ := canon_dec u
  unfold numL
  rw [if_pos ⟨h, h1⟩, h2]
theorem dec_len {u : Nat} (h : u < 1000000000) : (decDigits u).length ≤ 9 := by
  rw [decDigits_length]
  rcases Nat.lt_or_ge (nDigits u) 10 with h1 | h1
  · omega
  · exfalso
    have key : ∀ (n u : Nat), nDigits u = n + 1 → 10 ^ n ≤ u ∨ n = 0 := by
      intro n
      induction n with
      | zero => intro u _; exact .inr rfl
      | succ n ih =>
        intro u hu
        by_cases hs : u < 10
        · rw [nDigits_small hs] at hu; omega
        · rw [nDigits_big hs] at hu
          rcases ih (u / 10) (by omega) with h2 | h2
          · refine .inl ?_
            rw [Nat.pow_succ]; omega
          · subst h2; exact .inl (by simp; omega)
    obtain ⟨n, hn⟩ : ∃ n, nDigits u = n + 1 := ⟨nDigits u - 1, by omega⟩
    rcases key n u hn with h2 | h2
    · have : 10 ^ 9 ≤ 10 ^ n := Nat.pow_le_pow_right (by decide) (by omega)
      omega
    · omega
theorem foldl_ge : ∀ (l : List UInt8) (a : Nat), a ≤ l.foldl stepL a
  | [], _ => Nat.le_refl _
  | c :: r, a => Nat.le_trans (by unfold stepL; omega) (foldl_ge r (stepL a c))
theorem parse_val : ∀ (l : List UInt8) (a : Nat), l.all digB = true → l.foldl stepL a < 1844674407370955162 → parseUint10 a l = .ok (l.foldl stepL a)
  | [], a, _, _ => rfl
  | c :: r, a, hd, hv => by
    have hc := digB_iff.1 (show digB c = true by simp at hd; exact hd.1)
    have h1 := foldl_ge (c :: r) a
    have h2 := foldl_ge r (stepL a c)
    have e : (c :: r).foldl stepL a = r.foldl stepL (stepL a c) := rfl
    rw [e] at hv h1 ⊢
    have h3 : stepL a c = a * 10 + (c.toNat - 48) := by unfold stepL; omega
    rw [parseUint10, if_pos hc, if_neg (by omega), if_neg (by omega), ← h3]
    exact parse_val r _ (by simp at hd ⊢; exact hd.2) hv
/-- the program's test of a numeral and its number: the reference's. -/
theorem atoi_num {l : List UInt8} {k : Nat} (h : numL l = some k) : atoiAll l = .ok (k : Int) := by
  obtain ⟨rfl, h1, ⟨h2, h3, _⟩, _, h5⟩ := numL_some h
  match l, h2 with
  | c :: r, _ =>
    have hc := digB_iff.1 (show digB c = true by simp at h3; exact h3.1)
    have hp : parseMag (c :: r) = .ok (valL (c :: r)) := by
      unfold parseMag
      rw [if_neg (by simp)]
      exact parse_val _ 0 h3 (by show valL (c :: r) < _; omega)
    unfold atoiAll
    simp only []
    rw [if_neg (by omega), hp]
    simp only []
    rw [if_neg (by omega), if_neg (by omega), if_neg (by omega)]
theorem itoa_nat (k : Nat) : itoa (k : Int) = decDigits k := by
  unfold itoa
  rw [if_neg (by omega), Int.toNat_natCast]
end Go.Proofs.YtamldoidalnloaaGreatDoor

/- signal: the length of a convolution. -/
namespace Go.Proofs.YtamldoidalnloaaGreatDoor
open Go.RowKit
open Calm (bcell Blk)
def lenC (N M : Nat) : Nat := if N = 0 ∨ M = 0 then 0 else N + M - 1
set_option maxRecDepth 100000 in
theorem gLength_any (A B : Option Addr) (N M c d : Nat) (w : World) (hN : N ≤ 100000) (hM : M ≤ 100000) : Calls Tryz.prog 63 #[.slice A N c, .slice B M d] w fun r w' => r = .returned (.int .i64 ((lenC N M : Int))) ∧ w = w' := by
  rcases Nat.eq_zero_or_pos N with rfl | h1
  · have e : lenC 0 M = 0 := if_pos (.inl rfl)
    rw [e]
    go_enter Tryz.func63, Tryz.ntmps63
    go_wp2
    go_ret
    exact ⟨rfl, rfl⟩
  · have n1 : ((N : Int) == 0) = false := beq_eq_false_iff_ne.2 (by omega)
    rcases Nat.eq_zero_or_pos M with rfl | h2
    · have e : lenC N 0 = 0 := if_pos (.inr rfl)
      rw [e]
      go_enter Tryz.func63, Tryz.ntmps63
      go_wp2
      go_ret
      exact ⟨rfl, rfl⟩
    · have n2 : ((M : Int) == 0) = false := beq_eq_false_iff_ne.2 (by omega)
      have e : Hid ((lenC N M : Int) = (N : Int) + (M : Int) - 1) := Lib.hid (by unfold lenC; rw [if_neg (by omega)]; omega)
      go_enter Tryz.func63, Tryz.ntmps63
      go_wp2
      go_ret
      exact ⟨by rw [e.out]; rfl, rfl⟩
end Go.Proofs.YtamldoidalnloaaGreatDoor

/- signal: the products of two sequences as an iterator. -/
namespace Go.Proofs.YtamldoidalnloaaGreatDoor
open Go.RowKit
open Calm (bcell Blk)
/-- what is handed out in round t. -/
def ProdR (a b : List Int) (M t : Nat) (v : Array Value) (_ : World) : Prop := v = #[(.int .i64 (((t / M : Nat) : Int) + ((t % M : Nat) : Int))), (.int .i64 (a.getD (t / M) 0 * b.getD (t % M) 0))]
theorem dm {M i k : Nat} (hk : k < M) : (i * M + k) / M = i ∧ (i * M + k) % M = k := by
  have h0 : 0 < M := by omega
  constructor
  · rw [Nat.add_comm, Nat.add_mul_div_right _ _ h0, Nat.div_eq_of_lt hk, Nat.zero_add]
  · rw [Nat.add_comm, Nat.add_mul_mod_self_right, Nat.mod_eq_of_lt hk]
theorem products_any (A B : Option Addr) (N M ca cb : Nat) (w : World) : Calls Tryz.prog 80 #[.slice A N ca, .slice B M cb] w fun e w' => e = .returned (.func (.func 98) #[] #[.pointer (some ⟨w.heap.size, 0, none⟩), .pointer (some ⟨w.heap.size + 1, 0, none⟩)]) ∧
    Below w.heap.size w w' ∧ Blk w' w.heap.size #[.slice A N ca] ∧ Blk w' (w.heap.size + 1) #[.slice B M cb] ∧ w'.heap.size = w.heap.size + 2 := by
  go_enter Tryz.func80, Tryz.ntmps80
  go_wp2
  go_ret
  exact ⟨by first | rfl | (simp; done), by (repeat (first | (with_reducible exact Below.refl _ _) | ((with_reducible refine Below.setCell ?_ ?_ _); rotate_left 1; focus (first | (simp; done) | (simp; omega) | (simp at *; omega))) | ((with_reducible refine Below.alloc ?_ ?_ _); rotate_left 1; focus (first | (simp; done) | (simp; omega) | (simp at *; omega))) | (with_reducible refine Below.drew ?_) | ((with_reducible refine Calm.step (by assumption) ?_ ?_); rotate_left 1; focus (first | (simp; done) | (simp; omega) | (simp at *; omega))))), by (repeat (first | ((with_reducible refine Blk.at_ ?_); focus (first | rfl | (simp; done) | (simp; omega))) | (with_reducible refine Blk.alloc ?_ _) | (with_reducible refine Blk.below ?_ (by with_reducible assumption)) | (with_reducible refine Blk.drew ?_))), by (repeat (first | ((with_reducible refine Blk.at_ ?_); focus (first | rfl | (simp; done) | (simp; omega))) | (with_reducible refine Blk.alloc ?_ _) | (with_reducible refine Blk.below ?_ (by with_reducible assumption)) | (with_reducible refine Blk.drew ?_))), by simp⟩
set_option maxRecDepth 100000 in
set_option maxHeartbeats 4000000 in
theorem products1_iter (a b : List Int) (A B : Option Addr) (N M ca cb Pa Pb sb : Nat) (w : World) (n : Nat) (hN : N = a.length) (hM : M = b.length) (hN5 : N ≤ 5000) (hM5 : M ≤ 5000) (ha : lvls a) (hb : lvls b)
    (hA : Cells w A a) (hB : Cells w B b) (kA : Blk w Pa #[.slice A N ca]) (kB : Blk w Pb #[.slice B M cb]) (oA : 0 < a.length → Off sb A) (oB : 0 < b.length → Off sb B) (oPa : Pa ≠ sb) (oPb : Pb ≠ sb) (h1n : 1 ≤ n) :
    IterR Fence.wide n Tryz.prog 98 #[.pointer (some ⟨Pa, 0, none⟩), .pointer (some ⟨Pb, 0, none⟩)] 2 (ProdR a b M) (List.range (N * M)) (Rest sb w.heap.size) w := by
  intro l J W hCW hCl hle hJb hY h00
  have hfn : ∀ f, Fence.wide.fn f = True := fun _ => rfl
  have HE : Hid (∀ W' : World, (∀ k, Rest sb w.heap.size k → W'.heap[k]? = w.heap[k]?) → Blk W' Pa #[.slice A N ca] ∧ Blk W' Pb #[.slice B M cb] ∧ Cells W' A a ∧ Cells W' B b) := Lib.hid (fun W' hW =>
    ⟨kA.of_block (hW _ ⟨kA.lt, oPa⟩), kB.of_block (hW _ ⟨kB.lt, oPb⟩), hA.rest' oA hW, hB.rest' oB hW⟩)
  have HLA := Lib.hid (fun k => lvl_get ha k)
  have HLB := Lib.hid (fun k => lvl_get hb k)
  have HCW := Lib.hid hCW
  have HY := Lib.hid hY
  have HN := Lib.hid hN
  have HM := Lib.hid hM
  obtain ⟨k0, k1, -, -⟩ := HE.out W HCW.out
  obtain ⟨l0, ll, lf⟩ := k0.o1
  obtain ⟨g0, gl, gf⟩ := k1.o1
  clear hCW hCl hJb hY hA hB kA kB oA oB oPa oPb hN hM ha hb k0 k1
  refine callsIn_of_wp Tryz.func98 rfl trivial ?_ rfl
  simp only [Tryz.ntmps98, List.size_toArray, List.length_cons, List.length_nil, Nat.reduceAdd, Nat.reduceSub, Array.replicate_succ, Array.replicate_zero, List.push_toArray, List.append_toArray, List.nil_append, List.cons_append]
  gi_wp2
  gi_loopw [10] (fun i wr => ∃ k : Nat, k ≤ N ∧ i = (.int .i64 ((k : Int))) ∧ J (List.range (k * M)) wr ∧ (∀ j, Rest sb w.heap.size j → wr.heap[j]? = w.heap[j]?)) (fun i _ => N - (intOf i).toNat)
  case atStart => exact ⟨0, Nat.zero_le _, rfl, by simpa using h00, HCW.out⟩
  case round =>
    obtain ⟨i, hi, rfl, hJ1, hC1⟩ := hrel
    have HJ1 := Lib.hid hJ1
    have HC1 := Lib.hid hC1
    clear l0 ll lf g0 gl gf
    by_cases hlt : i < N
    · obtain ⟨k0, k1, qA, -⟩ := HE.out wr hC1
      obtain ⟨g0, gl, gf⟩ := k1.o1
      obtain ⟨b1, o1, rfl, lb1, hc1⟩ := qA (by rw [← HN.out]; omega)
      have x1 := hc1 i (by rw [← HN.out]; exact hlt)
      obtain ⟨x, hx⟩ : ∃ x, x = a.getD i 0 := ⟨_, rfl⟩
      have hxb := HLA.out i
      rw [← hx] at x1 hxb
      have HX := Lib.hid hx
      clear hc1 hx hJ1 hC1 k0 k1 qA
      gi_wp2
      clear g0 gl gf x1 lb1
      gi_loopw [17] (fun z wq => ∃ k : Nat, k ≤ M ∧ z = (.int .i64 ((k : Int))) ∧ J (List.range (i * M + k)) wq ∧ (∀ j, Rest sb w.heap.size j → wq.heap[j]? = w.heap[j]?)) (fun z _ => M - (intOf z).toNat)
      case atStart => exact ⟨0, Nat.zero_le _, rfl, HJ1.out, HC1.out⟩
      case round =>
        rename World => wq
        obtain ⟨k, hk, rfl, hJ2, hC2⟩ := hrel
        have HJ2 := Lib.hid hJ2
        have HC2 := Lib.hid hC2
        by_cases hltk : k < M
        · obtain ⟨-, -, -, qB⟩ := HE.out wq hC2
          obtain ⟨b2, o2, rfl, lb2, hc2⟩ := qB (by rw [← HM.out]; omega)
          have y1 := hc2 k (by rw [← HM.out]; exact hltk)
          obtain ⟨y, hy⟩ : ∃ y, y = b.getD k 0 := ⟨_, rfl⟩
          have hyb := HLB.out k
          rw [← hy] at y1 hyb
          have hpb := prod_bd hxb hyb
          have htt : i * M + k < N * M := by
            have h1 := Nat.mul_le_mul_right M (show i + 1 ≤ N by omega)
            rw [Nat.add_mul, Nat.one_mul] at h1
            omega
          have hR := HY.out (List.range (i * M + k)) (i * M + k) #[(.int .i64 ((i : Int) + (k : Int))), (.int .i64 (x * y))] wq hJ2 hC2 ⟨(List.range (N * M)).drop (i * M + k + 1), range_split htt⟩ rfl (by unfold ProdR; rw [(dm hltk).1, (dm hltk).2, HX.out, hy])
          obtain ⟨fn, tmps, assign, body, hy', hRR⟩ := hR
          have HR := Lib.hid hRR
          clear hc2 hJ2 hC2 hRR hy qB htt
          gi_wp2
          refine HR.out.mono ?_
          rintro e W5 ⟨rfl, hJ5, hC5⟩
          have HC6 : Hid (∀ j, Rest sb w.heap.size j → W5.heap[j]? = w.heap[j]?) := Lib.hid (fun j hj => (hC5 j hj).trans (HC2.out j hj))
          have HJ5 := Lib.hid hJ5
          clear hJ5 hC5 hy' HR y1 lb2
          gi_wp2
          go_roundw
          case rel => exact ⟨k + 1, by omega, by go_num, by rw [← Nat.add_assoc, List.range_succ]; exact HJ5.out, HC6.out⟩
          case measure => simp [intOf] <;> omega
        · obtain rfl : k = M := by omega
          clear hJ2 hC2
          gi_wp2
          go_roundw
          case rel => exact ⟨i + 1, by omega, by go_num, by rw [Nat.add_mul, Nat.one_mul]; exact HJ2.out, HC2.out⟩
          case measure => simp [intOf] <;> omega
    · obtain rfl : i = N := by omega
      clear hJ1 hC1
      gi_wp2
      go_end0
      exact ⟨⟨_, rfl⟩, HJ1.out⟩
end Go.Proofs.YtamldoidalnloaaGreatDoor
