/- Part 10 of the texts of the claim: Th1, Tk2, Flat. -/
import Derived.Test.YtamldoidalnloaaGreatDoorMx9
import Derived.Test.YtamldoidalnloaaGreatDoorMx2
import Derived.Test.YtamldoidalnloaaGreatDoorMx7
import Derived.Test.YtamldoidalnloaaGreatDoorMx3
import Derived.Laws.Rows
import Derived.WalkKit
import Derived.ProofKit
import Derived.OpenShut
import Derived.Lib.LaidTab
import Derived.Below
import Derived.Carry
import Derived.ChangeSame

/- signal: Decode of a stream that Encode made. -/
namespace Go.Proofs.YtamldoidalnloaaGreatDoor
open Go.RowKit
open Calm (bcell Blk)
theorem Tryz.elemB : Tryz.prog.elem 36 = 5 := by kernel_rfl
theorem sizeOfB (W : World) : (Go.sizeOf (Tryz.prog.elem 36)).run Tryz.prog W = .ok 1 W := by
  obtain ⟨i0, hi, hz0, hz1, hz2⟩ := info_parts eB.i
  rw [Tryz.elemB]
  simp [Go.sizeOf, typeInfo, hi, hz1]
/-- a part of a slice of bytes from an index on. -/
theorem sliceB_lo (b o n c k : Nat) (x : Int) (hx : x = (k : Int)) (hk : k ≤ n) (hc : k < c) (W : World) : (Instr.slice 36 (.slice (some ⟨b, o, none⟩) n c) (some (.int .i64 x)) none none).run Tryz.prog W = .ok (.slice (some ⟨b, o + k, none⟩) (n - k) (c - k)) W := by
  subst hx
  rw [run_slice_l W 36 _ n c (by rw [Tryz.elemB]; exact eB.u) .i64 (k : Int) (by omega) (by omega), sizeOfB]
  simp only [Result.andThen, sliced, Int.toNat_natCast]
  rw [if_neg (show ¬ c = k by omega)]
  simp [Addr.add]
/-- the same, the address whatever. -/
theorem sliceB_any (b o n c k : Nat) (x : Int) (hx : x = (k : Int)) (hk : k ≤ n) (hn : n ≤ c) (W0 : World) (zs : List Int) (hz : n = zs.length) (hC : EC encB W0 (some ⟨b, o, none⟩) zs) : ∃ P2, (∀ W, (Instr.slice 36 (.slice (some ⟨b, o, none⟩) n c) (some (.int .i64 x)) none none).run Tryz.prog W = .ok (.slice P2 (n - k) (c - k)) W) ∧ EC encB W0 P2 (zs.drop k) := by
  by_cases h : c = k
  · refine ⟨some ⟨b, o, none⟩, fun W => ?_, ?_⟩
    · subst hx
      rw [run_slice_l W 36 _ n c (by rw [Tryz.elemB]; exact eB.u) .i64 (k : Int) (by omega) (by omega), sizeOfB]
      simp only [Result.andThen, sliced, Int.toNat_natCast]
      rw [if_pos h]
    · intro h0
      rw [List.length_drop] at h0
      omega
  · exact ⟨_, fun W => sliceB_lo b o n c k x hx hk (by omega) W, hC.drop k⟩
/-- a part of a slice of bytes up to an index. -/
theorem sliceB_hi (b o n c k : Nat) (x : Int) (hx : x = (k : Int)) (hk : k ≤ c) (hc : 0 < c) (W : World) : (Instr.slice 36 (.slice (some ⟨b, o, none⟩) n c) none (some (.int .i64 x)) none).run Tryz.prog W = .ok (.slice (some ⟨b, o, none⟩) k c) W := by
  subst hx
  rw [run_slice_h W 36 _ n c (by rw [Tryz.elemB]; exact eB.u) .i64 (k : Int) (by omega) (by omega), sizeOfB]
  simp only [Result.andThen, sliced, Int.toNat_natCast]
  rw [if_neg (by omega)]
  simp [Addr.add]
theorem bytes_string {w : World} {b o k c : Nat} {zs ys : List Int} (hC : EC encB w (some ⟨b, o, none⟩) (zs ++ ys)) (hk : k = zs.length) (h0 : 0 < k) : (convert 36 9 (.slice (some ⟨b, o, none⟩) k c)).run Tryz.prog w = .ok (.string (strOfNums zs)) w := by
  obtain ⟨b', o', e, hl, hc⟩ := hC (by rw [List.length_append]; omega)
  cases e
  refine run_convert_bytes_arg w 36 5 eB.u Tryz.underlying5 b o k c zs hk.symm (fun i hi => ?_) _ Tryz.underlying9
  rw [hc i (by rw [List.length_append]; omega)]
  unfold encB
  rw [List.getD_eq_getElem?_getD, List.getElem?_append_left (by omega), ← List.getD_eq_getElem?_getD]
theorem strmT_drop {l : List Int} {k : Nat} (hk : k < l.length) : strmT (l.drop k) = be4 ((fl (l.getD k 0) : Nat) : Int) ++ strmT (l.drop (k + 1)) := by
  rw [List.drop_eq_getElem_cons hk, List.getD_eq_getElem?_getD, List.getElem?_eq_getElem hk]
  rfl
def lenV : Value → Nat
  | .slice _ n _ => n
  | _ => 0
set_option maxRecDepth 100000 in
set_option maxHeartbeats 8000000 in
theorem decode_ok (nm : ByteArray) (rate : Int) (l : List Int) (A : Option Addr) (c N S : Nat) (w : World) (hnm : NmOk nm) (hn1 : 1 ≤ nm.size) (hr : 1 ≤ rate ∧ rate ≤ 192000) (hN : N = l.length) (hN5 : N ≤ 4096) (hl : flL l) (hS : S = (strm nm rate l).length) (hSc : S ≤ c) (hC : EC encB w A (strm nm rate l)) :
    Calls Tryz.prog 12 #[.slice A S c] w fun r w' => (∃ B d, r = .returned (.tuple #[.agg #[.string nm, (.int .i64 rate), .slice B N d], (.int .i64 0)]) ∧ EC encF w' B l ∧ ∀ p, B = some p → w.heap.size ≤ p.block) ∧ Below w.heap.size w w' := by
  have hSl : S = nm.size + 13 + 4 * N := by rw [hS]; unfold strm; rw [List.length_append, strmH_len, strmT_len, hN]
  have hsz := hnm.len
  obtain ⟨b, o, rfl, hbl, -⟩ := hC (by omega)
  obtain ⟨z, hz⟩ : ∃ z, z = nm.size := ⟨_, rfl⟩
  obtain ⟨T, hT⟩ : ∃ T, T = 4 * N := ⟨_, rfl⟩
  obtain ⟨M, hM⟩ : ∃ M, M = z + 8 + T := ⟨_, rfl⟩
  obtain ⟨C, hCc⟩ : ∃ C, c = C + 5 := ⟨c - 5, by omega⟩
  obtain rfl : S = M + 5 := by omega
  subst hCc
  have HCR : Hid (∀ W B d, EC encF W B l → Calls Tryz.prog 25 #[.agg #[.string nm, (.int .i64 rate), .slice B N d]] W fun r w' => r = .returned (.int .i64 0) ∧ Below W.heap.size W w') := Lib.hid (fun W B d q => checkRecord_ok nm rate l B d N W hnm hr hN hN5 hl q)
  have hF2 : ∀ (W : World), Calls Tryz.prog 24 #[.slice (some ⟨W.heap.size, 0, none⟩) 2 2] (W.alloc (.cells #[(.int .i64 0), (.int .i64 0)] 31)) fun r w' => r = .returned (.int .i64 0) ∧ (W.alloc (.cells #[(.int .i64 0), (.int .i64 0)] 31)) = w' := fun W => gFirst_cells [0, 0] W (by simp)
  have HF2 := Lib.hid hF2
  have HF2a : Hid (Calls Tryz.prog 24 #[.slice (some ⟨w.heap.size + 1, 0, none⟩) 2 2] ((w.alloc (.cells #[.string ⟨#[]⟩, (.int .i64 0), .slice none 0 0] 30)).alloc (.cells #[(.int .i64 0), (.int .i64 0)] 31)) fun r w' => r = .returned (.int .i64 0) ∧ ((w.alloc (.cells #[.string ⟨#[]⟩, (.int .i64 0), .slice none 0 0] 30)).alloc (.cells #[(.int .i64 0), (.int .i64 0)] 31)) = w') := Lib.hid (by
    have := hF2 (w.alloc (.cells #[.string ⟨#[]⟩, (.int .i64 0), .slice none 0 0] 30))
    rwa [World.size_alloc] at this)
  -- the stream from byte 5 on
  have hX5 : EC encB w (some ⟨b, o + 5, none⟩) (nmB nm ++ (be4 rate ++ (be4 (N : Int) ++ strmT l))) := by
    have := hC.drop 5
    have e : (strm nm rate l).drop 5 = nmB nm ++ (be4 rate ++ (be4 (N : Int) ++ strmT l)) := by rw [hN]; simp [strm, strmH]
    rwa [e] at this
  have HX5 := Lib.hid hX5
  have hX0 : EC encB w (some ⟨b, o, none⟩) ([83, 78, 68, 82] ++ ((z : Int) :: (nmB nm ++ (be4 rate ++ (be4 (N : Int) ++ strmT l))))) := by
    have e : strm nm rate l = [83, 78, 68, 82] ++ ((z : Int) :: (nmB nm ++ (be4 rate ++ (be4 (N : Int) ++ strmT l)))) := by rw [hN, hz]; simp [strm, strmH]
    rwa [e] at hC
  obtain ⟨W1, hW1⟩ : ∃ W1, W1 = (w.alloc (.cells #[.string ⟨#[]⟩, (.int .i64 0), .slice none 0 0] 30)).alloc (.cells #[(.int .i64 0), (.int .i64 0)] 31) := ⟨_, rfl⟩
  have hB1 : Below w.heap.size w W1 := by rw [hW1]; exact bel
  have hX1 := hX0.below hB1
  have sl1 : ∀ W, (Instr.slice 36 (.slice (some ⟨b, o, none⟩) (M + 5) (C + 5)) none (some (.int .i64 4)) none).run Tryz.prog W = .ok (.slice (some ⟨b, o, none⟩) 4 (C + 5)) W := fun W => sliceB_hi b o (M + 5) (C + 5) 4 4 rfl (by omega) (by omega) W
  have cv1 : (convert 36 9 (.slice (some ⟨b, o, none⟩) 4 (C + 5))).run Tryz.prog W1 = .ok (.string ⟨#[83, 78, 68, 82]⟩) W1 := bytes_string hX1 rfl (by decide)
  have sl2 : ∀ W, (Instr.slice 36 (.slice (some ⟨b, o, none⟩) (M + 5) (C + 5)) (some (.int .i64 5)) none none).run Tryz.prog W = .ok (.slice (some ⟨b, o + 5, none⟩) M C) W := fun W => by
    have := sliceB_lo b o (M + 5) (C + 5) 5 5 rfl (by omega) (by omega) W
    simpa using this
  have x4 : W1.cell? ⟨b, o + 4, none⟩ = some (.int .u8 (z : Int)) := by
    obtain ⟨b', o', e, _, hc⟩ := hX1 (by simp)
    cases e
    exact hc 4 (by simp)
  rw [hW1] at cv1 x4
  have c1 : decide ((4000000 : Int) < (M : Int) + 5) = false := decide_eq_false (by omega)
  have c2 : decide ((M : Int) + 5 < 5) = false := decide_eq_false (by omega)
  have c2b : decide ((M : Int) < 0) = false := decide_eq_false (by omega)
  have c2c : ¬ (M : Int) < 0 := by omega
  have c3 : ¬ (M : Int) < (z : Int) + 8 := by omega
  have c4 : (4 : Int) < (M : Int) + 5 := by omega
  have c5 : (5 : Int) ≤ (M : Int) + 5 := by omega
  have hzi : (z : Int) ≤ 24 := by omega
  have HS1 := Lib.hid hz
  have HTT := Lib.hid hT
  have HMM := Lib.hid hM
  have HN := Lib.hid hN
  have HL := Lib.hid hl
  have HB1' := Lib.hid hB1
  have hMC : M ≤ C := by omega
  clear hX0 hX1 hX5 hC hS hSl hz hT hM hN hl hnm hB1 hF2 hW1
  go_enter Tryz.func12, Tryz.ntmps12
  go_wp2_with (first
    | (go_at_call 27; refine (gWhen_any _ _ _).mono ?_; rintro r wx ⟨rfl, rfl⟩)
    | (go_at_call 24; refine HF2a.out.mono ?_; rintro r wx ⟨rfl, rfl⟩))
  refine name_world ?_
  intro w1 e1
  have K0 : Blk w1 w.heap.size #[.string ⟨#[]⟩, (.int .i64 0), .slice none 0 0] := by rw [e1]; (repeat (first | ((with_reducible refine Blk.at_ ?_); focus (first | rfl | (simp; done) | (simp; omega))) | (with_reducible refine Blk.alloc ?_ _) | (with_reducible refine Blk.below ?_ (by with_reducible assumption)) | (with_reducible refine Blk.drew ?_)))
  have HB1 := Lib.hid (show Below w.heap.size w w1 by rw [e1]; exact bel)
  have HK0 := Lib.hid K0
  clear e1 K0 sl1 sl2 cv1 x4 c1 c2 c2b c2c c3 c4 c5 HF2a
  obtain ⟨M1, hM1⟩ : ∃ M1, M1 = M - z := ⟨_, rfl⟩
  obtain ⟨C1, hC1⟩ : ∃ C1, C1 = C - z := ⟨_, rfl⟩
  have hMv := HMM.out
  have hTv := HTT.out
  have hzv := HS1.out
  have sl3 : ∀ W, (Instr.slice 36 (.slice (some ⟨b, o + 5, none⟩) M C) none (some (.int .i64 ((z : Int)))) none).run Tryz.prog W = .ok (.slice (some ⟨b, o + 5, none⟩) z C) W := fun W => sliceB_hi b (o + 5) M C z _ rfl (by omega) (by omega) W
  have sl4 : ∀ W, (Instr.slice 36 (.slice (some ⟨b, o + 5, none⟩) M C) (some (.int .i64 ((z : Int)))) none none).run Tryz.prog W = .ok (.slice (some ⟨b, o + 5 + z, none⟩) M1 C1) W := fun W => by
    have := sliceB_lo b (o + 5) M C z _ rfl (by omega) (by omega) W
    rwa [← hM1, ← hC1] at this
  have HX7 : Hid (EC encB w (some ⟨b, o + 5 + z, none⟩) (be4 rate ++ (be4 (N : Int) ++ strmT l))) := Lib.hid (by
    have := HX5.out.drop z
    rwa [List.drop_left' (by rw [nmB_len, hzv])] at this)
  have HLEN : Hid ((be4 rate ++ (be4 (N : Int) ++ strmT l)).length = M1) := Lib.hid (by simp only [List.length_append, be4_len, strmT_len, ← HN.out]; omega)
  have HCV : Hid (∀ W, Below w1.heap.size w1 W → (convert 36 9 (.slice (some ⟨b, o + 5, none⟩) z C)).run Tryz.prog W = .ok (.string nm) W) := Lib.hid (fun W q => by
    have := bytes_string (k := z) (c := C) ((HX5.out.below HB1.out).below q) (by rw [nmB_len, hzv]) (by omega)
    rwa [nmB_str] at this)
  have HF4 : Hid (∀ W, Below w1.heap.size w1 W → Calls Tryz.prog 33 #[.slice (some ⟨b, o + 5 + z, none⟩) M1 C1] W fun r w' => r = .returned (.int .u32 rate) ∧ Below W.heap.size W w') := Lib.hid (fun W q => four_any rate (by omega) _ b (o + 5 + z) M1 C1 W HLEN.out.symm ((HX7.out.below HB1.out).below q))
  have HMV := Lib.hid (And.intro hMv (And.intro hTv (And.intro hM1 hC1)))
  clear hMv hTv hzv hM1 hC1
  refine Rel.region3 11 (by kernel_rfl) (by kernel_rfl) (by kernel_rfl) ?_
  simp only [List.take_succ_cons, List.take_zero, List.drop_succ_cons, List.drop_zero, List.filterMap_cons, List.filterMap_nil]
  iterate 3 (apply Rel.op3; (focus (first | exact Rel.gno rfl | exact Rel.gyes _ true _ rfl rfl rfl | exact Rel.gyes _ false _ rfl rfl rfl)); (focus (intro a W hb hd hbase; obtain ⟨hc, hf⟩ := bcell hb; clear hb hf; simp [Rel.deps, Rel.dep1, Rel.ons, Region.binds, Act.eval] at hd; simp only [Act.eval, List.mem_cons, List.not_mem_nil, not_or, and_imp, or_false, Array.getD_eq_getD_getElem?] at hbase; go_simp; (try go_bits); (try rfl); done)); (try simp only [List.nil_append, List.cons_append]))
  (apply Rel.op3 (.string nm); (focus (first | exact Rel.gno rfl | exact Rel.gyes _ true _ rfl rfl rfl | exact Rel.gyes _ false _ rfl rfl rfl)); (focus (intro a W hb hd hbase; have hop := HCV.out W hb; obtain ⟨hc, hf⟩ := bcell hb; clear hb hf; simp [Rel.deps, Rel.dep1, Rel.ons, Region.binds, Act.eval] at hd; simp only [Act.eval, List.mem_cons, List.not_mem_nil, not_or, and_imp, or_false, Array.getD_eq_getD_getElem?] at hbase; go_simp; (try go_bits); (try rfl); done)); (try simp only [List.nil_append, List.cons_append]))
  iterate 3 (apply Rel.op3; (focus (first | exact Rel.gno rfl | exact Rel.gyes _ true _ rfl rfl rfl | exact Rel.gyes _ false _ rfl rfl rfl)); (focus (intro a W hb hd hbase; obtain ⟨hc, hf⟩ := bcell hb; clear hb hf; simp [Rel.deps, Rel.dep1, Rel.ons, Region.binds, Act.eval] at hd; simp only [Act.eval, List.mem_cons, List.not_mem_nil, not_or, and_imp, or_false, Array.getD_eq_getD_getElem?] at hbase; go_simp; (try go_bits); (try rfl); done)); (try simp only [List.nil_append, List.cons_append]))
  (apply Rel.call3; (focus (first | exact Rel.gno rfl | exact Rel.gyes _ true _ rfl rfl rfl | exact Rel.gyes _ false _ rfl rfl rfl)); (focus (intro a W hb hd hbase; obtain ⟨hc, hf⟩ := bcell hb; clear hb hf; simp [Rel.deps, Rel.dep1, Rel.ons, Region.binds, Act.eval] at hd; simp only [Act.eval, List.mem_cons, List.not_mem_nil, not_or, and_imp, or_false, Array.getD_eq_getD_getElem?] at hbase; go_simp; refine ⟨?_, ?_⟩; rfl; rfl)); (focus (intro W hb; go_at_call 33; exact HF4.out W hb)); (try simp only [List.nil_append, List.cons_append]))
  iterate 2 (apply Rel.op3; (focus (first | exact Rel.gno rfl | exact Rel.gyes _ true _ rfl rfl rfl | exact Rel.gyes _ false _ rfl rfl rfl)); (focus (intro a W hb hd hbase; obtain ⟨hc, hf⟩ := bcell hb; clear hb hf; simp [Rel.deps, Rel.dep1, Rel.ons, Region.binds, Act.eval] at hd; simp only [Act.eval, List.mem_cons, List.not_mem_nil, not_or, and_imp, or_false, Array.getD_eq_getD_getElem?] at hbase; go_simp; (try go_bits); (try rfl); done)); (try simp only [List.nil_append, List.cons_append]))
  (apply Rel.alloc3 30 #[.string ⟨#[]⟩, (.int .i64 0), .slice none 0 0]; (focus (exact Rel.gno rfl)); (focus (intro a W; go_simp)); (try simp only [List.nil_append, List.cons_append]))
  refine Rel.done3 ?_
  intro x w2 hb2 hx
  simp only [Rel.facts, Nat.zero_add, Nat.reduceAdd] at hx
  obtain ⟨e0, e1, e2, e3, e4, e5, e6, e7, e8, e9, ⟨g, e10, hg, hKg⟩, _⟩ := hx
  simp only [Rel.fill, Nat.zero_add, Nat.reduceAdd, e0, e1, e2, e3, e4, e5, e6, e7, e8, e9, e10]
  simp only [Act.put, List.setIfInBounds_toArray, List.set_cons_zero, List.set_cons_succ]
  clear e0 e1 e2 e3 e4 e5 e6 e7 e8 e9 e10
  have HB2 := Lib.hid (HB1.out.trans (hb2.mono HB1.out.size))
  have HK02 := Lib.hid (HK0.out.below hb2)
  have HKG := Lib.hid hKg
  have hz1 : w.heap.size < w1.heap.size := HK0.out.lt
  obtain ⟨g0, g1, g2, gl, gf⟩ := hKg.o3
  obtain ⟨hMv, hTv, hM1, hC1⟩ := HMV.out
  have hzv := HS1.out
  have sl5 : ∀ W, (Instr.slice 36 (.slice (some ⟨b, o + 5, none⟩) M C) (some (.int .i64 ((z : Int) + 4))) none none).run Tryz.prog W = .ok (.slice (some ⟨b, o + 5 + (z + 4), none⟩) (M - (z + 4)) (C - (z + 4))) W := fun W => sliceB_lo b (o + 5) M C (z + 4) _ (by omega) (by omega) (by omega) W
  have HX8 : Hid (EC encB w (some ⟨b, o + 5 + (z + 4), none⟩) (be4 (N : Int) ++ strmT l)) := Lib.hid (by
    have := HX5.out.drop (z + 4)
    rwa [← List.append_assoc, List.drop_left' (by rw [List.length_append, nmB_len, be4_len, hzv])] at this)
  have HLN8 : Hid ((be4 (N : Int) ++ strmT l).length = M - (z + 4)) := Lib.hid (by simp only [List.length_append, be4_len, strmT_len, ← HN.out]; omega)
  obtain ⟨P6, sl6, hX9⟩ := sliceB_any b (o + 5) M C (z + 8) ((z : Int) + 8) (by omega) (by omega) hMC w _ (by simp only [List.length_append, be4_len, nmB_len, strmT_len, ← HN.out]; omega) HX5.out
  have HX9 : Hid (EC encB w P6 (strmT l)) := Lib.hid (by
    rwa [← List.append_assoc, ← List.append_assoc, List.drop_left' (by rw [List.length_append, List.length_append, nmB_len, be4_len, be4_len, hzv])] at hX9)
  have hTM : M - (z + 8) = T := by omega
  have hTC : T ≤ C - (z + 8) := by omega
  rw [hTM] at sl6
  obtain ⟨C6, hC6⟩ : ∃ C6, C6 = C - (z + 8) := ⟨_, rfl⟩
  rw [← hC6] at sl6 hTC
  obtain ⟨M2, hM2⟩ : ∃ M2, M2 = M - (z + 4) := ⟨_, rfl⟩
  obtain ⟨C2, hC2⟩ : ∃ C2, C2 = C - (z + 4) := ⟨_, rfl⟩
  simp only [← hM2, ← hC2] at sl5
  rw [← hM2] at HLN8
  have hTI : (4 : Int) * (N : Int) = (T : Int) := by omega
  have hNi : (0 : Int) ≤ (N : Int) ∧ (N : Int) < 4294967296 := by omega
  have hNj : (N : Int) ≤ 4096 := by omega
  clear hMv hTv hM1 hC1 hzv hX9 hTM hC6 hM2 hC2 sl3 sl4 hb2 hKg HX7 HLEN HCV HF4 HX5
  go_wp2_with (go_at_call 33; refine name_calls ?_; intro w3 e3; refine Hid.out ?_)
  unfold Hid
  have K3 : Blk w3 g #[.string nm, (.int .i64 rate), .slice none 0 0] := by
    rw [e3]
    exact ((HKG.out.set (i := 0) (by simp) _).set (i := 1) (by simp) _).set (i := 2) (by simp) _
  have h3 : Below g w2 w3 := by
    rw [e3]
    exact (((Below.refl _ _).setCell (p := ⟨g, 0, none⟩) (Nat.le_refl _) _).setCell (p := ⟨g, 1, none⟩) (Nat.le_refl _) _).setCell (p := ⟨g, 2, none⟩) (Nat.le_refl _) _
  have HB3 := Lib.hid (HB2.out.trans (h3.mono (by omega)))
  have HK03 := Lib.hid (HK02.out.of_block (h3.block _ (by omega)))
  have HK3 := Lib.hid K3
  clear e3 h3 K3 g0 g1 g2 gl gf
  refine (four_any (N : Int) hNi _ b (o + 5 + (z + 4)) M2 C2 w3 HLN8.out.symm (HX8.out.below HB3.out)).mono ?_
  rintro r w4 ⟨rfl, h4⟩
  have HB4 := Lib.hid (HB3.out.trans (h4.mono HB3.out.size))
  have HK04 := Lib.hid (HK03.out.below h4)
  have HK4 := Lib.hid (HK3.out.below h4)
  clear h4
  go_wp2_with (first
    | (go_at_call 27; refine (gWhen_any _ _ _).mono ?_; rintro r wx ⟨rfl, rfl⟩)
    | (go_at_call 24; refine (HF2.out _).mono ?_; rintro r wx ⟨rfl, rfl⟩))
  refine name_world ?_
  intro w5 e5
  have h5 : Below w4.heap.size w4 w5 := by rw [e5]; exact bel
  have HB5 := Lib.hid (HB4.out.trans (h5.mono HB4.out.size))
  have HK05 := Lib.hid (HK04.out.below h5)
  have HK5 := Lib.hid (HK4.out.below h5)
  clear e5 h5 sl5 sl6 hTI
  have hgw : w.heap.size + 1 ≤ g := by omega
  have hHT : T = 4 * N := HTT.out
  go_loopw [0] (fun s wr => ∃ k n : Nat, ∃ P c, k ≤ N ∧ n = 4 * (N - k) ∧ s = .slice P n c ∧ n ≤ c ∧ EC encB w P (strmT (l.drop k)) ∧ (∃ v, Blk wr g #[.string nm, (.int .i64 rate), v] ∧ wr.ownsRow (g + 1) 29 1 v (l.take k).length ((l.take k).map encF)) ∧ Below g w5 wr) (fun s _ => lenV s)
  case atStart => exact ⟨0, T, P6, C6, Nat.zero_le _, by omega, rfl, hTC, HX9.out, ⟨_, HK5.out, World.ownsRow_nil _ _ _ _⟩, Below.refl _ _⟩
  case round =>
    obtain ⟨k, n, P, cc, hk, hn, rfl, hnc, hP, ⟨v, kv, ho⟩, hb⟩ := hrel
    have HP := Lib.hid hP
    have HKV := Lib.hid kv
    have HO := Lib.hid ho
    have HBR := Lib.hid hb
    have HBW := Lib.hid (HB5.out.trans (hb.mono (by omega)))
    have HNK := Lib.hid hn
    have hz5 : g < w5.heap.size := HK5.out.lt
    have hzr : w5.heap.size ≤ wr.heap.size := hb.size
    clear hP ho hb hHT
    by_cases hlt : k < N
    · have hn4 : 4 ≤ n := by omega
      have hni : (0 : Int) < (n : Int) := by omega
      have hdr := strmT_drop (l := l) (k := k) (by rw [← HN.out]; exact hlt)
      have hfl := HL.out.get (k := k) (by rw [← HN.out]; exact hlt)
      have HS : Hid (l.take (k + 1) = l.take k ++ [l.getD k 0]) := Lib.hid (by
        have hkl : k < l.length := by rw [← HN.out]; exact hlt
        rw [List.take_succ_eq_append_getElem hkl, List.getD_eq_getElem?_getD, List.getElem?_eq_getElem hkl]; rfl)
      have HTL : Hid ((l.take k).length ≤ 4096) := Lib.hid (by rw [List.length_take]; omega)
      have HDL : Hid ((strmT (l.drop k)).length = n) := Lib.hid (by rw [strmT_len, List.length_drop, ← HN.out]; exact HNK.out.symm)
      obtain ⟨z0, hz0⟩ : ∃ z0, z0 = l.getD k 0 := ⟨_, rfl⟩
      rw [← hz0] at hdr hfl HS
      obtain ⟨F, hF⟩ : ∃ F, F = fl z0 := ⟨_, rfl⟩
      have HFF := Lib.hid hF
      have hlF := hfl.lt
      have hnF := hfl.ne
      rw [← hF] at hdr hlF hnF
      obtain ⟨b6, o6, rfl, hl6, -⟩ := HP.out (by rw [HDL.out]; omega)
      have HP4 : Hid (EC encB w (some ⟨b6, o6, none⟩) (be4 (F : Int) ++ strmT (l.drop (k + 1)))) := Lib.hid (by rw [← hdr]; exact HP.out)
      have HLD : Hid (n = (be4 (F : Int) ++ strmT (l.drop (k + 1))).length) := Lib.hid (by rw [← hdr, HDL.out])
      obtain ⟨P7, sl7, hP7⟩ := sliceB_any b6 o6 n cc 4 4 rfl hn4 hnc w _ HLD.out HP4.out
      have HP7 : Hid (EC encB w P7 (strmT (l.drop (k + 1)))) := Lib.hid (by rwa [List.drop_left' (be4_len _)] at hP7)
      have hFi : (0 : Int) ≤ (F : Int) ∧ (F : Int) < 4294967296 := by omega
      have hFe : ((F : Int) == 2147483648) = false := beq_eq_false_iff_ne.2 (by omega)
      have q3 := fun W => from32 F W
      clear hz0 hF hdr hfl hP7 hlF hnF hn kv
      go_wp2_with (go_at_call 33; refine (four_any (F : Int) hFi _ b6 o6 n cc wr HLD.out (HP4.out.below HBW.out)).mono ?_; rintro r w6 ⟨rfl, h6⟩; refine Hid.out ?_)
      unfold Hid
      have HB6 := Lib.hid (HBR.out.trans (h6.mono (by omega)))
      have HK6 := Lib.hid (HKV.out.below h6)
      have HO6 := Lib.hid (ownsRow_below HO.out h6)
      have hz6 : g < w6.heap.size := HK6.out.lt
      obtain ⟨g0, g1, g2, gl, gf⟩ := HK6.out.o3
      clear h6
      go_wp2
      refine Rel.region3 5 (by kernel_rfl) (by kernel_rfl) (by kernel_rfl) ?_
      simp only [List.take_succ_cons, List.take_zero, List.drop_succ_cons, List.drop_zero, List.filterMap_cons, List.filterMap_nil]
      iterate 4 (apply Rel.op3; (focus (first | exact Rel.gno rfl | exact Rel.gyes _ true _ rfl rfl rfl | exact Rel.gyes _ false _ rfl rfl rfl)); (focus (intro a W hb hd hbase; obtain ⟨hc, hf⟩ := bcell hb; clear hb hf; simp [Rel.deps, Rel.dep1, Rel.ons, Region.binds, Act.eval] at hd; simp only [Act.eval, List.mem_cons, List.not_mem_nil, not_or, and_imp, or_false, Array.getD_eq_getD_getElem?] at hbase; go_simp; (try go_bits); (try rfl); done)); (try simp only [List.nil_append, List.cons_append]))
      (apply Rel.build3; (focus (first | exact Rel.gno rfl | exact Rel.gyes _ true _ rfl rfl rfl)); (focus (intro a W hb hd hbase; obtain ⟨hc, hf⟩ := bcell hb; clear hb hf; simp [Rel.deps, Rel.dep1, Rel.ons, Region.binds, Act.eval] at hd; simp only [Act.eval, List.mem_cons, List.not_mem_nil, not_or, and_imp, or_false, Array.getD_eq_getD_getElem?] at hbase; go_simp; (first | rfl | (refine ⟨⟨?_, ?_⟩, ?_⟩; rfl; rfl; rfl) | (refine ⟨?_, ?_⟩; rfl; rfl)))); (try simp only [List.nil_append, List.cons_append]))
      refine Rel.done3 ?_
      intro x w7 hb7 hx
      simp only [Rel.facts, Nat.zero_add, Nat.reduceAdd] at hx
      obtain ⟨e0, e1, e2, e3, ⟨gs, e4, hgs, hKs⟩, _⟩ := hx
      simp only [Rel.fill, Nat.zero_add, Nat.reduceAdd, e0, e1, e2, e3, e4]
      simp only [Act.put, List.setIfInBounds_toArray, List.set_cons_zero, List.set_cons_succ]
      clear e0 e1 e2 e3 e4 g0 g1 g2 gl gf
      have HB7 := Lib.hid (HB6.out.trans (hb7.mono (by omega)))
      have HK7 := Lib.hid (HK6.out.below hb7)
      have HO7 := Lib.hid (ownsRow_below HO6.out hb7)
      have hz7 : g + 1 ≤ w7.heap.size := HK7.out.lt
      have hEC : EC encF w7 (some ⟨gs, 0, none⟩) [z0] := by rw [HFF.out] at hKs; exact EC.blk hKs rfl
      have htl := HTL.out
      clear hb7 hKs hgs
      refine wpList_appE eF encF_one rfl _ _ rfl (g + 1) v (l.take k) rfl HO7.out _ 1 1 [z0] rfl rfl hEC (by omega) hz7 ?_
      intro v8 w8 ho8 hg8
      have HB8 : Hid (Below (g + 1) w7 w8) := Lib.hid ((Below.refl _ _).grown hg8 hz7 (fun j hj => (HO7.out.lt j hj).1))
      have HK8 := Lib.hid (HK7.out.of_block (HB8.out.block _ (Nat.lt_succ_self _)))
      obtain ⟨m8, hm8⟩ : ∃ m8, m8 = (l.take k ++ [z0]).length := ⟨_, rfl⟩
      rw [← hm8] at ho8
      have HM8 := Lib.hid hm8
      have HO8 := Lib.hid ho8
      obtain ⟨S8, d8, rfl⟩ := own_slice ho8
      obtain ⟨g0, g1, g2, gl, gf⟩ := HK8.out.o3
      clear ho8 hg8 hEC htl hm8
      go_wp2
      go_roundw
      case rel => exact ⟨k + 1, n - 4, P7, cc - 4, by omega, by have := HNK.out; omega, by first | rfl | (simp; done), by omega, HP7.out, ⟨_, HK8.out.set (i := 2) (by simp) _, by rw [HS.out, ← HM8.out]; exact ownsRow_setCell_below HO8.out (a := ⟨g, 2, none⟩) (Nat.lt_succ_self g) _⟩, (HB7.out.trans (HB8.out.mono (Nat.le_succ _))).setCell (p := ⟨g, 2, none⟩) (Nat.le_refl _) _⟩
      case measure => simp [lenV]; omega
    · obtain rfl : k = N := by omega
      obtain rfl : n = 0 := by omega
      have hown := HO.out
      have e : l.take k = l := by rw [HN.out]; exact List.take_length
      rw [e] at hown
      obtain ⟨B, d, rfl, hge, hr⟩ := own_ec (enc := encF) hown rfl
      rw [← HN.out] at HKV kv
      have HR := Lib.hid hr
      have HG := Lib.hid hge
      have HK0r := Lib.hid (HK05.out.of_block (HBR.out.block _ (by omega)))
      obtain ⟨g0, g1, g2, gl, gf⟩ := HKV.out.o3
      clear hown e hr hge kv hnc hn
      go_wp2_with (go_at_call 25; refine (HCR.out wr B d HR.out).mono ?_; rintro r w6 ⟨rfl, h6⟩; refine Hid.out ?_)
      unfold Hid
      have HB6 := Lib.hid (HBW.out.trans (h6.mono HBW.out.size))
      have HK6 := Lib.hid (HKV.out.below h6)
      have HK06 := Lib.hid (HK0r.out.below h6)
      have HR6 := Lib.hid (HR.out.below h6)
      clear h6 g0 g1 g2 gl gf
      obtain ⟨g0, g1, g2, gl, gf⟩ := HK6.out.o3
      obtain ⟨b0, b1, b2, bl, bf⟩ := HK06.out.o3
      go_wp2
      refine name_post ?_
      intro wz ez
      have KZ : Blk wz w.heap.size #[.string nm, (.int .i64 rate), .slice B k d] := by
        rw [ez]
        exact ((HK06.out.set (i := 0) (by simp) _).set (i := 1) (by simp) _).set (i := 2) (by simp) _
      have HCZ : EC encF wz B l := by
        rw [ez]
        exact ((HR6.out.far (p := ⟨w.heap.size, 0, none⟩) (fun q hq => by have := HG.out q hq; simp only; omega) _).far (p := ⟨w.heap.size, 1, none⟩) (fun q hq => by have := HG.out q hq; simp only; omega) _).far (p := ⟨w.heap.size, 2, none⟩) (fun q hq => by have := HG.out q hq; simp only; omega) _
      have HBZ : Below w.heap.size w wz := by
        rw [ez]
        exact ((HB6.out.setCell (p := ⟨w.heap.size, 0, none⟩) (by simp) _).setCell (p := ⟨w.heap.size, 1, none⟩) (by simp) _).setCell (p := ⟨w.heap.size, 2, none⟩) (by simp) _
      obtain ⟨k0, k1, k2, -, -⟩ := KZ.o3
      clear ez
      refine bodyPost_ret (v := .tuple #[.agg #[.string nm, (.int .i64 rate), .slice B k d], (.int .i64 0)]) (by simp [results, Tryz.results12, go_sem, k0, k1, k2]) rfl ⟨⟨B, d, rfl, HCZ, fun p hp => by have := HG.out p hp; omega⟩, HBZ⟩
end Go.Proofs.YtamldoidalnloaaGreatDoor

/- A drawn region in whose head a record is stored into a block of the region's own: worlds in which floats stay, and blocks of one type that hold no float turn to what they will be. -/
namespace Go.Proofs.YtamldoidalnloaaGreatDoor
open Go.RowKit
open Calm (bcell Blk)
open Rel (Know)
def NoF (cs : Array Value) : Prop := ∀ (i : Nat) (v : Value), cs[i]? = some v → ∀ (k : FloatKind) (x : Nat), v ≠ .float k x
theorem NoF.rec (a : ByteArray) (b : Int) (A : Option Addr) (n c : Nat) : NoF #[.string a, (.int .i64 b), .slice A n c] := fun i v hi k x => by
  match i, hi with
  | 0, hi => cases hi; exact fun h => by cases h
  | 1, hi => cases hi; exact fun h => by cases h
  | 2, hi => cases hi; exact fun h => by cases h
  | (_ + 3), hi => cases hi
/-- floats stay. -/
def FKeep (W W' : World) : Prop := ∀ (b i : Nat) (k : FloatKind) (x : Nat), W.cell? ⟨b, i, none⟩ = some (.float k x) → W'.cell? ⟨b, i, none⟩ = some (.float k x)
theorem cellF_lt {w : World} {b o : Nat} {v : Value} (h : w.cell? ⟨b, o, none⟩ = some v) : b < w.heap.size := by
  rcases Nat.lt_or_ge b w.heap.size with h' | h'
  · exact h'
  · unfold World.cell? at h
    rw [show w.heap[(⟨b, o, none⟩ : Addr).block]? = none from Array.getElem?_eq_none h'] at h
    cases h
theorem FKeep.of_ne {W W' : World} {g : Nat} {cs : Array Value} {t : TypeId} (h : ∀ k, k ≠ g → W'.heap[k]? = W.heap[k]?) (hg : W.heap[g]? = some (.cells cs t (0, 0))) (hn : NoF cs) : FKeep W W' := fun b i k x hk => by
  by_cases e : b = g
  · subst e
    rw [cell_of_row W b i cs t _ hg] at hk
    exact absurd rfl (hn i _ hk k x)
  · exact (World.cell?_of_block (w := W) (a := ⟨b, i, none⟩) (h b e)).trans hk
/-- an encoding by floats. -/
def FEnc (enc : Int → Value) : Prop := ∀ z, ∃ k x, enc z = .float k x
theorem fencF : FEnc encF := fun _ => ⟨_, _, rfl⟩
theorem fencR : FEnc encR := fun _ => ⟨_, _, rfl⟩
theorem EC.keep {enc : Int → Value} (he : FEnc enc) {W W' : World} {A : Option Addr} {l : List Int} (h : EC enc W A l) (hk : FKeep W W') : EC enc W' A l := fun h0 => by
  obtain ⟨b, o, rfl, hl, hc⟩ := h h0
  have key : ∀ j, j < l.length → W'.cell? ⟨b, o + j, none⟩ = some (enc (l.getD j 0)) := fun j hj => by
    obtain ⟨k, x, e⟩ := he (l.getD j 0)
    rw [e]
    exact hk _ _ _ _ ((hc j hj).trans (by rw [e]))
  exact ⟨b, o, rfl, cellF_lt (key 0 h0), key⟩
def FStable (K : Know) : Prop := ∀ u W W', K u W → FKeep W W' → K u W'
/-- a record of this name and rate. -/
def RecK (nm : ByteArray) (rate : Int) (n : Nat) (enc : Int → Value) (l : List Int) : Know := fun u W => ∃ A d, u = .agg #[.string nm, (.int .i64 rate), .slice A n d] ∧ EC enc W A l
/-- .. and no error. -/
def RecT (nm : ByteArray) (rate : Int) (n : Nat) (enc : Int → Value) (l : List Int) : Know := fun u W => ∃ A d, u = .tuple #[.agg #[.string nm, (.int .i64 rate), .slice A n d], (.int .i64 0)] ∧ EC enc W A l
def SlK (n : Nat) (enc : Int → Value) (l : List Int) : Know := fun u W => ∃ A d, u = .slice A n d ∧ EC enc W A l
section
variable {nm : ByteArray} {rate : Int} {n : Nat} {enc : Int → Value} {l : List Int}
theorem RecK.f (he : FEnc enc) : FStable (RecK nm rate n enc l) := fun _ _ _ ⟨A, d, h1, h2⟩ hk => ⟨A, d, h1, h2.keep he hk⟩
theorem RecT.f (he : FEnc enc) : FStable (RecT nm rate n enc l) := fun _ _ _ ⟨A, d, h1, h2⟩ hk => ⟨A, d, h1, h2.keep he hk⟩
theorem SlK.f (he : FEnc enc) : FStable (SlK n enc l) := fun _ _ _ ⟨A, d, h1, h2⟩ hk => ⟨A, d, h1, h2.keep he hk⟩
theorem RecK.sz (cs : Array Value) (W : World) (h : RecK nm rate n enc l (.agg cs) W) : cs.size = 3 ∧ NoF cs := by
  obtain ⟨A, d, h1, _⟩ := h
  cases h1
  exact ⟨rfl, NoF.rec _ _ _ _ _⟩
end
/-- below B nothing turns; of the newer blocks only those of the type T without floats turn, to what is known. -/
structure FT (T : TypeId) (K : Know) (B : Nat) (W W' : World) : Prop where
  os : W'.os = W.os
  tape : W'.tape = W.tape
  output : W'.output = W.output
  size : W.heap.size ≤ W'.heap.size
  block : ∀ k, k < W.heap.size → W'.heap[k]? = W.heap[k]? ∨ (B ≤ k ∧ (∃ cs, W.heap[k]? = some (.cells cs T (0, 0)) ∧ NoF cs) ∧ ∃ cs, W'.heap[k]? = some (.cells cs T (0, 0)) ∧ NoF cs ∧ K (.agg cs) W')
section
variable {T : TypeId} {K : Know} {B : Nat} {W W' : World}
theorem FT.refl (W : World) : FT T K B W W := ⟨rfl, rfl, rfl, Nat.le_refl _, fun _ _ => .inl rfl⟩
theorem FT.drawn (W : World) : FT T K B W { W with drawn := W.drawn + 1 } := ⟨rfl, rfl, rfl, Nat.le_refl _, fun _ _ => .inl rfl⟩
theorem FT.of (h : Below W.heap.size W W') : FT T K B W W' := ⟨h.os, h.tape, h.output, h.size, fun k hk => .inl (h.block k hk)⟩
theorem FT.below (h : FT T K B W W') (hB : B ≤ W.heap.size) : Below B W W' :=
  ⟨h.os, h.tape, h.output, h.size, fun k hk => (h.block k (by omega)).elim id (fun h2 => by omega)⟩
theorem FT.keep (h : FT T K B W W') : FKeep W W' := fun b i k x hk => by
  rcases h.block b (cellF_lt hk) with e | ⟨_, ⟨cs, e, hn⟩, _⟩
  · exact (World.cell?_of_block (w := W) (a := ⟨b, i, none⟩) e).trans hk
  · rw [cell_of_row W b i cs T _ e] at hk
    exact absurd rfl (hn i _ hk k x)
theorem FT.trans (hK : FStable K) (a b c : World) (h : FT T K B a b) (k : FT T K B b c) : FT T K B a c := by
  refine ⟨k.os.trans h.os, k.tape.trans h.tape, k.output.trans h.output, Nat.le_trans h.size k.size, fun i hi => ?_⟩
  rcases k.block i (Nat.lt_of_lt_of_le hi h.size) with e | ⟨hB, ⟨cs, e, hn⟩, cs', e', hn', hk'⟩
  · rcases h.block i hi with e2 | ⟨hB, h1, cs, e2, hn, hk⟩
    · exact .inl (e.trans e2)
    · exact .inr ⟨hB, h1, cs, e.trans e2, hn, hK _ _ _ hk k.keep⟩
  · rcases h.block i hi with e2 | ⟨hB, h1, _⟩
    · exact .inr ⟨hB, ⟨cs, e2.symm.trans e, hn⟩, cs', e', hn', hk'⟩
    · exact .inr ⟨hB, h1, cs', e', hn', hk'⟩
end
set_option maxRecDepth 100000 in
/-- a record stored. -/
theorem run_storeRec {W : World} {g : Nat} {u0 u1 u2 : Value} {nm : ByteArray} {rate : Int} {A : Option Addr} {n d : Nat} (hg : W.heap[g]? = some (.cells #[u0, u1, u2] 30 (0, 0))) {o : Oper} {ρ : Operand → Value} {p v : Tmp} (hop : o.op = .store 30 (.tmp p) (.tmp v))
    (hp : ρ (.tmp p) = .pointer (some ⟨g, 0, none⟩)) (hv : ρ (.tmp v) = .agg #[.string nm, (.int .i64 rate), .slice A n d]) : (execOp ρ o).run Tryz.prog W = .ok .skip (((W.setCell ⟨g, 0, none⟩ (.string nm)).setCell ⟨g, 1, none⟩ (.int .i64 rate)).setCell ⟨g, 2, none⟩ (.slice A n d)) := by
  have K := Calm.Blk.row hg
  obtain ⟨c0, c1, c2, l, f⟩ := K.o3
  have f0 := K.f 0
  have f1 := K.f 1
  have f2 := K.f 2
  clear K
  obtain ⟨dst, op, type, pos, after, guard⟩ := o
  simp only at hop
  subst hop
  go_simp
theorem set3_rec {W : World} {g : Nat} {u0 u1 u2 : Value} {t : TypeId} (a b c : Value) (hg : W.heap[g]? = some (.cells #[u0, u1, u2] t (0, 0))) : (((W.setCell ⟨g, 0, none⟩ a).setCell ⟨g, 1, none⟩ b).setCell ⟨g, 2, none⟩ c).heap[g]? = some (.cells #[a, b, c] t (0, 0)) := by
  exact heap_setCell_same _ g 2 _ t c (heap_setCell_same _ g 1 _ t b (heap_setCell_same W g 0 _ t a hg))
namespace RelH
open Rel (ons)
section
variable {S : World → World → Prop} {P : Program} {DS : List Tmp} {w0 : World} {a0 : Act} {T : Ctx → Prop} {Γ : Ctx} {o : Oper} {rest : List Oper}
theorem depF {x : Nat → Value} {Γ : Ctx} {a : Act} {W : World} : ∀ {js : List Nat}, deps x Γ a W js → ∀ (j : Nat) {t : Tmp} {R : DK}, js.contains j = true → Γ[j]? = some (some t, R) → x j = a.eval (.tmp t) ∧ R x (a.eval (.tmp t)) W
  | [], _, _, _, _, hj, _ => by simp at hj
  | i :: js, h, j, t, R, hj, hΓ => by
    rcases Bool.eq_false_or_eq_true (i == j) with e | e
    · rw [beq_iff_eq] at e
      subst e
      have h1 := h.1
      rw [hΓ] at h1
      exact h1
    · refine depF h.2 j ?_ hΓ
      rw [List.contains_cons] at hj
      have : (j == i) = false := by rw [beq_eq_false_iff_ne] at e ⊢; exact fun e2 => e e2.symm
      rwa [this, Bool.false_or] at hj
theorem depG {x : Nat → Value} {Γ : Ctx} {a : Act} {W : World} {js : List Nat} (h : deps x Γ a W js) (j : Nat) {t : Tmp} {K : Know} (hj : js.contains j = true) (hΓ : Γ[j]? = some (some t, fun _ => K)) : K (a.eval (.tmp t)) W := (depF h j hj hΓ).2
theorem skF {Ty : TypeId} {K0 : Know} {B : Nat} {K : Know} (h : FStable K) : Stable (FT Ty K0 B) (fun _ => K) := fun _ _ W W' h1 hS => h _ W W' h1 hS.keep
end
/-- a new block of the type that may turn. -/
def NewF (T : TypeId) (B : Nat) : DK := fun _ u W => ∃ g, u = .pointer (some ⟨g, 0, none⟩) ∧ B ≤ g ∧ ∃ cs, W.heap[g]? = some (.cells cs T (0, 0)) ∧ cs.size = 3 ∧ NoF cs
/-- the block is what it will be. -/
def DoneF (T : TypeId) (K : Know) (j B : Nat) : DK := fun x _ W => ∃ g, x j = .pointer (some ⟨g, 0, none⟩) ∧ B ≤ g ∧ ∃ cs, W.heap[g]? = some (.cells cs T (0, 0)) ∧ K (.agg cs) W
section
variable {Ty : TypeId} {K : Know} {P : Program} {DS : List Tmp} {w0 : World} {a0 : Act} {T : Ctx → Prop} {Γ : Ctx} {o : Oper} {rest : List Oper}
theorem NewF.st {B : Nat} (hn : ∀ cs W, K (.agg cs) W → cs.size = 3 ∧ NoF cs) : Stable (FT Ty K B) (NewF Ty B) := by
  rintro _ u W W' ⟨g, h1, h2, cs, h3, h4⟩ hS
  refine ⟨g, h1, h2, ?_⟩
  rcases hS.block g (Array.getElem?_eq_some_iff.1 h3).1 with e | ⟨_, _, cs', e, _, hk⟩
  · exact ⟨cs, e.trans h3, h4⟩
  · exact ⟨cs', e, hn _ _ hk⟩
theorem DoneF.st {j B : Nat} (hK : FStable K) : Stable (FT Ty K B) (DoneF Ty K j B) := by
  rintro x u W W' ⟨g, h1, h2, cs, h3, h4⟩ hS
  refine ⟨g, h1, h2, ?_⟩
  rcases hS.block g (Array.getElem?_eq_some_iff.1 h3).1 with e | ⟨_, _, cs', e, _, hk⟩
  · exact ⟨cs, e.trans h3, hK _ _ _ h4 hS.keep⟩
  · exact ⟨cs', e, hk⟩
theorem allocF (hn : ∀ cs W, K (.agg cs) W → cs.size = 3 ∧ NoF cs) (cs : Array Value) (hcs : cs.size = 3 ∧ NoF cs) (hg : GOK3 Γ o)
    (h : ∀ (a : Act) (W : World), (execOp a.eval o).run P W = .ok (.value (.pointer (some ⟨W.heap.size, 0, none⟩))) (W.alloc (.cells cs Ty)))
    (hr : walk3 (FT Ty K w0.heap.size) P DS w0 a0 T (Γ ++ [(o.dst, NewF Ty w0.heap.size)]) rest) : walk3 (FT Ty K w0.heap.size) P DS w0 a0 T Γ (o :: rest) :=
  opW3 _ (NewF.st hn) loc_const hg (fun a W x hb hd hbase => ⟨_, _, h a W, ⟨_, rfl, hb.size, cs, heap_alloc_new W _, hcs⟩, FT.of ((Below.refl _ _).alloc (Nat.le_refl _) _)⟩) hr
end
section
variable {P : Program} {DS : List Tmp} {w0 : World} {a0 : Act} {T : Ctx → Prop} {Γ : Ctx} {o : Oper} {rest : List Oper}
/-- a record stored into the new block. -/
theorem storeF {nm : ByteArray} {rate : Int} {n : Nat} {enc : Int → Value} {l : List Int} (he : FEnc enc) (p v : Tmp) (jp jv : Nat) (hop : o.op = .store 30 (.tmp p) (.tmp v)) (hp : (ons o).contains jp = true) (hv : (ons o).contains jv = true)
    (hΓp : Γ[jp]? = some (some p, NewF 30 w0.heap.size)) (hΓv : Γ[jv]? = some (some v, fun _ => RecK nm rate n enc l)) (hg : GOK3 Γ o)
    (hn : walk3 (FT 30 (RecK nm rate n enc l) w0.heap.size) Tryz.prog DS w0 a0 T (Γ ++ [(o.dst, DoneF 30 (RecK nm rate n enc l) jp w0.heap.size)]) rest) : walk3 (FT 30 (RecK nm rate n enc l) w0.heap.size) Tryz.prog DS w0 a0 T Γ (o :: rest) :=
  ⟨_, DoneF.st (RecK.f he), fun x y hxy v W ⟨g, h1, h2⟩ => ⟨g, by
      obtain ⟨e, he1, rfl⟩ := List.mem_map.1 (show jp ∈ ons o by simpa using hp)
      obtain ⟨he2, he3⟩ := List.mem_filter.1 he1
      rw [← hxy e (by simpa using he2) he3]
      exact h1, h2⟩, hg, fun a W x hb hd hbase K Q hK => by
    obtain ⟨e1, g, h1, h2, cs, h3, h4, hnf⟩ := depF hd jp hp hΓp
    obtain ⟨A, d, h5, h6⟩ := depG hd jv hv hΓv
    obtain ⟨cl⟩ := cs
    match cl, h4 with
    | [u0, u1, u2], _ =>
    have hrun := run_storeRec h3 hop h1 h5
    have hg' := set3_rec (.string nm) (.int .i64 rate) (.slice A n d) h3
    have hne : ∀ k, k ≠ g → (((W.setCell ⟨g, 0, none⟩ (.string nm)).setCell ⟨g, 1, none⟩ (.int .i64 rate)).setCell ⟨g, 2, none⟩ (.slice A n d)).heap[k]? = W.heap[k]? := fun k hk => by
      rw [Below.heap_setCell _ _ _ _ hk, Below.heap_setCell _ _ _ _ hk, Below.heap_setCell _ _ _ _ hk]
    have hkt : RecK nm rate n enc l (.agg #[.string nm, (.int .i64 rate), .slice A n d]) (((W.setCell ⟨g, 0, none⟩ (.string nm)).setCell ⟨g, 1, none⟩ (.int .i64 rate)).setCell ⟨g, 2, none⟩ (.slice A n d)) :=
      ⟨A, d, rfl, h6.keep he (FKeep.of_ne hne h3 hnf)⟩
    unfold Oper.wp
    rw [hrun]
    refine hK undef _ ⟨g, e1.trans h1, h2, _, hg', hkt⟩ ⟨rfl, rfl, rfl, by simp [World.setCell], fun k hk => ?_⟩
    rcases Nat.decEq k g with hkg | rfl
    · exact .inl (hne k hkg)
    · exact .inr ⟨h2, ⟨_, h3, hnf⟩, _, hg', NoF.rec _ _ _ _ _, hkt⟩, hn⟩
end
end RelH
end Go.Proofs.YtamldoidalnloaaGreatDoor

/- A value of integers alone (structs and arrays of integers, nested): its cells are its integers, one behind another. And the row's last step under 'Below'. Of no program. -/
namespace Go.Flat
open Go.ChangeShapes Go.WideShapes Go.RowKit

section
variable {H : Type} {enc : TypeId × Value → H} {P : Program}
theorem post_of_below {f : Func} {s : ChangeSpec} {apart fresh handsOn again : Bool} {W W' : World} {args : Array Value} {v : Value} {ds gs : List (DataW H)} {before pa pv : List MemPlace}
    (hW : DataW.Whole enc P f.params.toList s.vars apart W args.toList ds gs before)
    (hres : ∀ (b : Nat) (sp : Nat → Bool) (hd : Bool), DataW.TrodAll enc P W' b sp hd f.resultTypes.toList (v.resultList f.resultTypes.size) (s.fn H (ds ++ gs)).results [])
    (hargs : ∀ sp : Nat → Bool, (∀ p ∈ before, sp p.block = true) → DataW.TrodAll enc P W' 0 sp true f.params.toList args.toList (s.fn H (ds ++ gs)).args pa)
    (hvars : ∀ sp : Nat → Bool, (∀ p ∈ before, sp p.block = true) → DataW.TrodVars enc P W' sp s.vars (s.fn H (ds ++ gs)).vars pv)
    (hps : before = pa ++ pv) (hb : Below W.heap.size W W')
    (hok : ∀ (j : Nat) (t : TypeId) (r : Value), f.resultTypes[j]? = some t → (v.resultList f.resultTypes.size)[j]? = some r → Value.okWide P W' .any 0 t r) :
    s.post enc P f apart fresh handsOn again W args v W' := by
  have hlt : ∀ p ∈ before, p.block < W.heap.size := fun p hp => hW.lt p hp
  have hold : ∀ p ∈ before, (fun b => decide (b < W.heap.size)) p.block = true := fun p hp => by simpa using hlt p hp
  refine ⟨ds, gs, before, [], pa, pv, hW, hres _ _ _, hargs _ hold, hvars _ hold, World.keptBut_mono (fun p hp => ⟨hp, ?_⟩) (hb.frame (· ∈ before)), fun _ => ?_⟩
  · rw [hps, List.mem_append] at hp
    exact Or.inr hp
  · obtain ⟨_, _, _, _, _, hz, hn⟩ := hW
    refine ⟨hok, _, _, ([] ++ pa) ++ pv, ⟨[] ++ pa, pv, trodAll_append (hargs _ (fun _ _ => rfl)) (hres _ _ _), hvars _ (fun _ _ => rfl), rfl, ?_, ?_⟩, ?_⟩
    · intro b off hp
      have hin : MemPlace.cell b off ∈ before := by rw [hps]; simpa using hp
      rw [hb.frozen (hlt _ hin)]
      exact hz b off hin
    · intro ha
      have := hn ha
      rw [hps] at this
      simpa using this
    · intro p hp _
      rw [hps]
      simpa using hp
end

/-- every argument reads behind the call as before it, if below the heap's old size nothing has turned. -/
theorem trodAll_below {H : Type} {enc : TypeId × Value → H} {P : Program} (hl : laidOutB P = true) {W W' : World} (hb : Below W.heap.size W W') {sp : Nat → Bool} :
    ∀ {ts : List TypeId} {vs : List Value} {ds : List (DataW H)} {ps : List MemPlace}, (∀ t ∈ ts, P.readableRec t = true ∧ t < P.types.size) → DataW.TrodAll enc P W 0 (fun _ => true) true ts vs ds ps → (∀ p ∈ ps, p.block < W.heap.size) → (∀ p ∈ ps, sp p.block = true) →
    DataW.TrodAll enc P W' 0 sp true ts vs ds ps
  | [], [], [], _, _, h, _, _ => h
  | t :: ts, v :: vs, d :: ds, _, ht, ⟨p, q, h, hr, rfl⟩, hlt, hs => by
    have h1 := ht t (by simp)
    exact ⟨p, q, WideElems.Trod_stays hl h1.1 h1.2 h (fun x hx => hb.same (hlt x (by simp [hx]))) (fun x hx => hs x (by simp [hx])), trodAll_below hl hb (fun t' h' => ht t' (by simp [h'])) hr (fun x hx => hlt x (by simp [hx])) (fun x hx => hs x (by simp [hx])), rfl⟩
end Go.Flat
