/- Part 13 of the texts of the claim: Th0, Th1, Th2. -/
import Derived.Test.YtamldoidalnloaaMm12
import Derived.Lib.SlBytesConst
import Derived.ArgAppend
import Derived.Test.YtamldoidalnloaaMm4
import Derived.Test.YtamldoidalnloaaMm10

/- signal: Encode. -/
namespace Go.Proofs.Ytamldoidalnloaa
open Go.RowKit
open Calm (bcell Blk)
/-- the bytes of a string. -/
def nmB (s : ByteArray) : List Int := s.data.toList.map fun b => ((b.toNat : Nat) : Int)
theorem nmB_len (s : ByteArray) : (nmB s).length = s.size := by unfold nmB; rw [List.length_map, Array.length_toList]; rfl
theorem nmB_cells (s : ByteArray) : Lib.strCells s = (nmB s).map encB := by
  unfold Lib.strCells nmB
  rw [List.map_map]
  rfl
theorem nmB_str (s : ByteArray) : strOfNums (nmB s) = s := by
  cases s with
  | mk d =>
    unfold strOfNums nmB
    rw [List.map_map]
    congr 1
    apply Array.ext_getElem?
    intro i
    cases h : d[i]? <;> simp [h]
/-- the stream of a record. -/
def strmH (nm : ByteArray) (rate : Int) (N : Nat) : List Int := [83, 78, 68, 82] ++ [(nm.size : Int)] ++ nmB nm ++ be4 rate ++ be4 (N : Int)
def strmT (l : List Int) : List Int := l.flatMap fun z => be4 ((fl z : Nat) : Int)
def strm (nm : ByteArray) (rate : Int) (l : List Int) : List Int := strmH nm rate l.length ++ strmT l
theorem be4_len (u : Int) : (be4 u).length = 4 := rfl
theorem strmT_len (l : List Int) : (strmT l).length = 4 * l.length := by
  unfold strmT
  induction l with
  | nil => rfl
  | cons a t ih => rw [List.flatMap_cons, List.length_append, ih, be4_len, List.length_cons]; omega
theorem strmH_len (nm : ByteArray) (rate : Int) (N : Nat) : (strmH nm rate N).length = nm.size + 13 := by
  unfold strmH
  simp only [List.length_append, nmB_len, be4_len, List.length_cons, List.length_nil]
  omega
theorem strmT_succ {l : List Int} {k : Nat} (hk : k < l.length) : strmT (l.take (k + 1)) = strmT (l.take k) ++ be4 ((fl (l.getD k 0) : Nat) : Int) := by
  unfold strmT
  rw [List.take_succ_eq_append_getElem hk, List.flatMap_append, List.getD_eq_getElem?_getD, List.getElem?_eq_getElem hk]
  simp
theorem bits32 (F : Nat) (W : World) : (callFunc 60 #[.float .f32 F]).run Try.prog W = .ok (.value (.int .u32 (F : Int))) W := by
  rw [run_callFunc_extern (e := Extern.MathFloatBits.float32bits) Try.func60 (by kernel_rfl) (by kernel_rfl) (by kernel_rfl) (by kernel_rfl)]
  rfl
theorem from32 (F : Nat) (W : World) : (callFunc 63 #[.int .u32 (F : Int)]).run Try.prog W = .ok (.value (.float .f32 F)) W := by
  rw [run_callFunc_extern (e := Extern.MathFloatBits.float32frombits) Try.func63 (by kernel_rfl) (by kernel_rfl) (by kernel_rfl) (by kernel_rfl)]
  rfl
set_option maxRecDepth 100000 in
set_option maxHeartbeats 8000000 in
theorem encode_ok (nm : ByteArray) (rate : Int) (l : List Int) (A : Option Addr) (c N : Nat) (w : World) (hnm : NmOk nm) (hr : 1 ≤ rate ∧ rate ≤ 192000) (hN : N = l.length) (hN5 : N ≤ 4096) (hl : flL l) (hC : EC encF w A l) :
    Calls Try.prog 18 #[.agg #[.string nm, (.int .i64 rate), .slice A N c]] w fun r w' => (∃ B d S, r = .returned (.tuple #[.slice B S d, (.int .i64 0)]) ∧ S = (strm nm rate l).length ∧ S ≤ d ∧ EC encB w' B (strm nm rate l) ∧ ∀ p, B = some p → w.heap.size ≤ p.block) ∧ Below w.heap.size w w' := by
  have HCR : Hid (∀ W, EC encF W A l → Calls Try.prog 58 #[.agg #[.string nm, (.int .i64 rate), .slice A N c]] W fun r w' => r = .returned (.int .i64 0) ∧ Below W.heap.size W w') := Lib.hid (fun W q => checkRecord_ok nm rate l A c N W hnm hr hN hN5 hl q)
  have hsz := hnm.len
  have kc := fun (w : World) (C : Array Value) (n c : Nat) => Lib.run_convert_bytes_const (P := Try.prog) w 52 5 C n c eB.u Try.underlying5
  have HC := Lib.hid hC
  have HN := Lib.hid hN
  have HL := Lib.hid hl
  clear hC hnm hN hl
  go_enter Try.func18, Try.ntmps18
  go_wp2_with (go_at_call 58; refine name_calls ?_; intro w1 e1; refine Hid.out ?_)
  unfold Hid
  have K0 : Blk w1 w.heap.size #[.string nm, (.int .i64 rate), .slice A N c] := by rw [e1]; (repeat (first | ((with_reducible refine Blk.at_ ?_); focus (first | rfl | (simp; done) | (simp; omega))) | (with_reducible refine Blk.alloc ?_ _) | (with_reducible refine Blk.below ?_ (by with_reducible assumption)) | (with_reducible refine Blk.drew ?_)))
  have HB1 := Lib.hid (show Below w.heap.size w w1 by rw [e1]; exact bel)
  clear e1
  refine (HCR.out w1 (HC.out.below HB1.out)).mono ?_
  rintro r w2 ⟨rfl, h2⟩
  have HB2 := Lib.hid (HB1.out.trans (h2.mono HB1.out.size))
  have HK2 := Lib.hid (K0.below h2)
  obtain ⟨a0, a1, a2, al, af⟩ := HK2.out.o3
  clear h2 K0
  go_wp2_with (at_builtin; refine name_list ?_; intro w3 e3; refine Hid.out ?_)
  unfold Hid
  have hg3 : w3.heap[w2.heap.size]? = some (.cells #[.int .u8 83, .int .u8 78, .int .u8 68, .int .u8 82] 5 (4, 5)) := by rw [e3]; exact (Below.heap_alloc _ _ _ (by simp)).trans (World.alloc_heap_new _ _)
  have hn3 : w3.heap[w2.heap.size + 1]? = some (.cells #[.int .u8 (nm.size : Int)] 5) := by
    rw [e3]
    have := World.alloc_heap_new (w2.alloc (.cells #[.int .u8 83, .int .u8 78, .int .u8 68, .int .u8 82] 5 (4, 5))) (.cells #[.int .u8 (nm.size : Int)] 5)
    rwa [World.size_alloc] at this
  have h3 : Below w2.heap.size w2 w3 := by rw [e3]; exact bel
  have HB3 := Lib.hid (HB2.out.trans (h3.mono HB2.out.size))
  have HK3 := Lib.hid (HK2.out.below h3)
  obtain ⟨i0, hi, hz0, hz1, hz2⟩ := info_parts eB.i
  clear e3 h3 a0 a1 a2 al af kc
  refine wpList_append_grows w3 rfl _ _ 52 rfl 5 i0 (.int .u8 0) 1 1 eB.u hi hz0 hz1 hz2 rfl (by decide) (some ⟨w2.heap.size, 0, none⟩) 4 4 ([83, 78, 68, 82].map encB) rfl (by simp) (by simp)
    (fun b hb j u hj => by cases hb; rw [Addr.add_lit, Nat.zero_add, cell_of_row _ _ _ _ _ _ hg3]; simpa [encB] using hj) ⟨w2.heap.size + 1, 0, none⟩ 1 1 [encB (nm.size : Int)] rfl rfl
    (fun j u hj => by rw [Addr.add_lit, Nat.zero_add, cell_of_row _ _ _ _ _ _ hn3]; simpa [encB] using hj) (fun u hu => by simp at hu; subst hu; rfl) (by decide) (by unfold maxLen; omega) (by omega) ?_
  intro v4 w4 ho4 hg4
  have h4 : Below w3.heap.size w3 w4 := ⟨hg4.os, hg4.tape, hg4.output, hg4.size, fun k hk => hg4.block k hk (by simp)⟩
  have HB4 := Lib.hid (HB3.out.trans (h4.mono HB3.out.size))
  have HK4 := Lib.hid (HK3.out.below h4)
  have hBz : w.heap.size + 1 ≤ w4.heap.size := HK4.out.lt
  have HO4 : Hid (w4.ownsRow (w.heap.size + 1) 5 1 v4 5 (([83, 78, 68, 82] ++ [(nm.size : Int)]).map encB)) := Lib.hid (ownsRow_base ho4 HK3.out.lt)
  obtain ⟨a0, a1, a2, al, af⟩ := HK4.out.o3
  have hs4 := HB4.out.size
  clear hg3 hn3 ho4 hg4 h4
  go_wp2_with (at_builtin; refine Hid.out ?_)
  unfold Hid
  refine Lib.wpList_append_own_string _ rfl _ _ 52 9 rfl (w.heap.size + 1) 5 i0 eB.u Try.underlying9 hi hz0 hz1 hz2 v4 5 _ rfl HO4.out nm rfl (by unfold maxLen; omega) (by omega) hBz ?_
  intro v5 w5 ho5 hg5 _
  have HB5 := Lib.hid (HB4.out.grown hg5 hs4 (fun j hj => Nat.le_of_succ_le (HO4.out.lt j hj).1))
  have hl5 : ([83, 78, 68, 82] ++ [(nm.size : Int)] ++ nmB nm).length = 5 + nm.size := by simp [nmB_len]; omega
  have HO5 : Hid (w5.ownsRow (w.heap.size + 1) 5 1 v5 ([83, 78, 68, 82] ++ [(nm.size : Int)] ++ nmB nm).length (([83, 78, 68, 82] ++ [(nm.size : Int)] ++ nmB nm).map encB)) := Lib.hid (by rw [hl5, List.map_append, ← nmB_cells]; exact ho5)
  obtain ⟨L5, hL5⟩ : ∃ L, L = [83, 78, 68, 82] ++ [(nm.size : Int)] ++ nmB nm := ⟨_, rfl⟩
  rw [← hL5] at hl5 HO5
  have HK5 := Lib.hid (grown_blk HK4.out hg5 (fun k hk => by have := (HO4.out.lt k hk).1; omega))
  have HL5 := Lib.hid hL5
  have hz5 : w.heap.size + 1 ≤ w5.heap.size := HK5.out.lt
  have hN0 : (0 : Int) ≤ (N : Int) ∧ (N : Int) < 4294967296 := by omega
  have hl5b : L5.length ≤ 29 := by omega
  clear ho5 hg5 a0 a1 a2 al af hi hz0 hz1 hz2 hL5 hl5
  obtain ⟨a0, a1, a2, al, af⟩ := HK5.out.o3
  go_wp2_with (go_at_call 59; refine (put_any rate (by omega) v5 L5 (w.heap.size + 1) w5 HO5.out hz5 (by omega)).mono ?_; rintro r w6 ⟨v6, rfl, ho6, h6⟩; refine Hid.out ?_)
  unfold Hid
  have HB6 := Lib.hid (HB5.out.trans (h6.mono (Nat.le_succ _)))
  have HK6 := Lib.hid (HK5.out.of_block (h6.block _ (Nat.lt_succ_self _)))
  have HO6 := Lib.hid ho6
  have hz6 : w.heap.size + 1 ≤ w6.heap.size := HK6.out.lt
  clear ho6 h6 a0 a1 a2 al af
  obtain ⟨a0, a1, a2, al, af⟩ := HK6.out.o3
  go_wp2_with (go_at_call 59; refine (put_any (N : Int) hN0 v6 (L5 ++ be4 rate) (w.heap.size + 1) w6 HO6.out hz6 (by rw [List.length_append, be4_len]; omega)).mono ?_; rintro r w7 ⟨v7, rfl, ho7, h7⟩; refine Hid.out ?_)
  unfold Hid
  have HB7 := Lib.hid (HB6.out.trans (h7.mono (Nat.le_succ _)))
  have HK7 := Lib.hid (HK6.out.of_block (h7.block _ (Nat.lt_succ_self _)))
  have hz7 : w.heap.size + 1 ≤ w7.heap.size := HK7.out.lt
  have HO7 : Hid (w7.ownsRow (w.heap.size + 1) 5 1 v7 (strmH nm rate N ++ strmT (l.take 0)).length ((strmH nm rate N ++ strmT (l.take 0)).map encB)) := Lib.hid (by
    have e : strmH nm rate N ++ strmT (l.take 0) = L5 ++ be4 rate ++ be4 (N : Int) := by rw [HL5.out]; simp [strmH, strmT]
    rw [e]; exact ho7)
  clear ho7 h7 a0 a1 a2 al af
  obtain ⟨a0, a1, a2, al, af⟩ := HK7.out.o3
  have HSL : Hid (∀ k, k ≤ N → (strmH nm rate N ++ strmT (l.take k)).length = nm.size + 13 + 4 * k) := Lib.hid (fun k hk => by rw [List.length_append, strmH_len, strmT_len, List.length_take, ← HN.out, Nat.min_eq_left hk])
  go_wp2
  go_loopw [5, 39] (fun s i wr => ∃ k : Nat, k ≤ N ∧ i = (.int .i64 ((k : Int))) ∧ wr.ownsRow (w.heap.size + 1) 5 1 s (strmH nm rate N ++ strmT (l.take k)).length ((strmH nm rate N ++ strmT (l.take k)).map encB) ∧ Below (w.heap.size + 1) w7 wr) (fun _ i _ => N - (intOf i).toNat)
  case atStart => exact ⟨0, Nat.zero_le _, rfl, HO7.out, Below.refl _ _⟩
  case round =>
    obtain ⟨k, hk, rfl, ho, hb⟩ := hrel
    have HO := Lib.hid ho
    have HBR := Lib.hid hb
    have HBW := Lib.hid (HB7.out.trans (hb.mono (Nat.le_succ _)))
    have hzr : w.heap.size + 1 ≤ wr.heap.size := Nat.le_trans hz7 hb.size
    clear ho hb a0 a1 a2 al af
    by_cases hlt : k < N
    · obtain ⟨b, o, rfl, l1, k1⟩ := HC.out (by rw [← HN.out]; omega)
      have x1 := (HBW.out.cell (p := ⟨b, o + k, none⟩) l1).trans (k1 k (by rw [← HN.out]; exact hlt))
      have hfl := HL.out.get (k := k) (by rw [← HN.out]; exact hlt)
      have q1 := fun W => hfl.radd W
      have q2 := fun W => bits32 (fl (l.getD k 0)) W
      have hF := hfl.lt
      have HS : Hid (strmH nm rate N ++ strmT (l.take (k + 1)) = strmH nm rate N ++ strmT (l.take k) ++ be4 ((fl (l.getD k 0) : Nat) : Int)) := Lib.hid (by rw [strmT_succ (by rw [← HN.out]; exact hlt), List.append_assoc])
      replace x1 : wr.cell? ⟨b, o + k, none⟩ = some (.float .f32 (fl (l.getD k 0))) := x1
      obtain ⟨F, hFF⟩ : ∃ F, F = fl (l.getD k 0) := ⟨_, rfl⟩
      rw [← hFF] at x1 hF HS
      simp only [← hFF] at q1 q2
      clear k1 hfl hFF
      have hSL := HSL.out k hk
      have hFi : (0 : Int) ≤ (F : Int) ∧ (F : Int) < 4294967296 := by omega
      have hSL2 : (strmH nm rate N ++ strmT (l.take k)).length ≤ 90000 := by omega
      obtain ⟨S, hS⟩ : ∃ S, S = strmH nm rate N ++ strmT (l.take k) := ⟨_, rfl⟩
      rw [← hS] at HS HO hSL2
      clear hS hSL
      go_wp2_with (go_at_call 59; refine (put_any (F : Int) hFi _ S (w.heap.size + 1) wr HO.out hzr hSL2).mono ?_; rintro r w8 ⟨v8, rfl, ho8, h8⟩; refine Hid.out ?_)
      unfold Hid
      have HB8 := Lib.hid (HBR.out.trans (h8.mono (Nat.le_refl _)))
      have HO8 := Lib.hid ho8
      clear ho8 h8
      go_wp2
      go_roundw
      case rel => exact ⟨k + 1, by omega, by go_num, by rw [HS.out]; exact HO8.out, HB8.out⟩
      case measure => simp [intOf]; omega
    · obtain rfl : k = N := by omega
      have hown := HO.out
      have e : strmH nm rate k ++ strmT (l.take k) = strm nm rate l := by rw [HN.out, List.take_length]; rfl
      rw [e] at hown
      obtain ⟨B, d, rfl, hge, hr⟩ := own_ec (enc := encB) hown rfl
      have HR := Lib.hid hr
      have HG := Lib.hid hge
      obtain ⟨S, hS⟩ : ∃ S, S = (strm nm rate l).length := ⟨_, rfl⟩
      rw [← hS]
      have HRM := Lib.hid (own_room (by rw [← hS] at hown; exact hown)).1
      have HS := Lib.hid hS
      clear hown hr hge e hS
      go_wp2
      refine bodyPost_ret (v := .tuple #[.slice B S d, (.int .i64 0)]) (by simp [results, Try.results18, go_sem]) rfl ⟨⟨B, d, S, rfl, HS.out, HRM.out, HR.out, fun p hp => Nat.le_of_succ_le (HG.out p hp)⟩, HBW.out⟩
end Go.Proofs.Ytamldoidalnloaa

/- signal: Decode of a stream that Encode made. -/
namespace Go.Proofs.Ytamldoidalnloaa
open Go.RowKit
open Calm (bcell Blk)
theorem Try.elemB : Try.prog.elem 52 = 5 := by kernel_rfl
theorem sizeOfB (W : World) : (Go.sizeOf (Try.prog.elem 52)).run Try.prog W = .ok 1 W := by
  obtain ⟨i0, hi, hz0, hz1, hz2⟩ := info_parts eB.i
  rw [Try.elemB]
  simp [Go.sizeOf, typeInfo, hi, hz1]
/-- a part of a slice of bytes from an index on. -/
theorem sliceB_lo (b o n c k : Nat) (x : Int) (hx : x = (k : Int)) (hk : k ≤ n) (hc : k < c) (W : World) : (Instr.slice 52 (.slice (some ⟨b, o, none⟩) n c) (some (.int .i64 x)) none none).run Try.prog W = .ok (.slice (some ⟨b, o + k, none⟩) (n - k) (c - k)) W := by
  subst hx
  rw [run_slice_l W 52 _ n c (by rw [Try.elemB]; exact eB.u) .i64 (k : Int) (by omega) (by omega), sizeOfB]
  simp only [Result.andThen, sliced, Int.toNat_natCast]
  rw [if_neg (show ¬ c = k by omega)]
  simp [Addr.add]
/-- the same, the address whatever. -/
theorem sliceB_any (b o n c k : Nat) (x : Int) (hx : x = (k : Int)) (hk : k ≤ n) (hn : n ≤ c) (W0 : World) (zs : List Int) (hz : n = zs.length) (hC : EC encB W0 (some ⟨b, o, none⟩) zs) : ∃ P2, (∀ W, (Instr.slice 52 (.slice (some ⟨b, o, none⟩) n c) (some (.int .i64 x)) none none).run Try.prog W = .ok (.slice P2 (n - k) (c - k)) W) ∧ EC encB W0 P2 (zs.drop k) := by
  by_cases h : c = k
  · refine ⟨some ⟨b, o, none⟩, fun W => ?_, ?_⟩
    · subst hx
      rw [run_slice_l W 52 _ n c (by rw [Try.elemB]; exact eB.u) .i64 (k : Int) (by omega) (by omega), sizeOfB]
      simp only [Result.andThen, sliced, Int.toNat_natCast]
      rw [if_pos h]
    · intro h0
      rw [List.length_drop] at h0
      omega
  · exact ⟨_, fun W => sliceB_lo b o n c k x hx hk (by omega) W, hC.drop k⟩
/-- a part of a slice of bytes up to an index. -/
theorem sliceB_hi (b o n c k : Nat) (x : Int) (hx : x = (k : Int)) (hk : k ≤ c) (hc : 0 < c) (W : World) : (Instr.slice 52 (.slice (some ⟨b, o, none⟩) n c) none (some (.int .i64 x)) none).run Try.prog W = .ok (.slice (some ⟨b, o, none⟩) k c) W := by
  subst hx
  rw [run_slice_h W 52 _ n c (by rw [Try.elemB]; exact eB.u) .i64 (k : Int) (by omega) (by omega), sizeOfB]
  simp only [Result.andThen, sliced, Int.toNat_natCast]
  rw [if_neg (by omega)]
  simp [Addr.add]
theorem bytes_string {w : World} {b o k c : Nat} {zs ys : List Int} (hC : EC encB w (some ⟨b, o, none⟩) (zs ++ ys)) (hk : k = zs.length) (h0 : 0 < k) : (convert 52 9 (.slice (some ⟨b, o, none⟩) k c)).run Try.prog w = .ok (.string (strOfNums zs)) w := by
  obtain ⟨b', o', e, hl, hc⟩ := hC (by rw [List.length_append]; omega)
  cases e
  refine run_convert_bytes_arg w 52 5 eB.u Try.underlying5 b o k c zs hk.symm (fun i hi => ?_) _ Try.underlying9
  rw [hc i (by rw [List.length_append]; omega)]
  unfold encB
  rw [List.getD_eq_getElem?_getD, List.getElem?_append_left (by omega), ← List.getD_eq_getElem?_getD]
theorem strmT_drop {l : List Int} {k : Nat} (hk : k < l.length) : strmT (l.drop k) = be4 ((fl (l.getD k 0) : Nat) : Int) ++ strmT (l.drop (k + 1)) := by
  rw [List.drop_eq_getElem_cons hk, List.getD_eq_getElem?_getD, List.getElem?_eq_getElem hk]
  rfl
def lenV : Value → Nat
  | .slice _ n _ => n
  | _ => 0
set_option maxRecDepth 100000 in
set_option maxHeartbeats 8000000 in
theorem decode_ok (nm : ByteArray) (rate : Int) (l : List Int) (A : Option Addr) (c N S : Nat) (w : World) (hnm : NmOk nm) (hn1 : 1 ≤ nm.size) (hr : 1 ≤ rate ∧ rate ≤ 192000) (hN : N = l.length) (hN5 : N ≤ 4096) (hl : flL l) (hS : S = (strm nm rate l).length) (hSc : S ≤ c) (hC : EC encB w A (strm nm rate l)) :
    Calls Try.prog 19 #[.slice A S c] w fun r w' => (∃ B d, r = .returned (.tuple #[.agg #[.string nm, (.int .i64 rate), .slice B N d], (.int .i64 0)]) ∧ EC encF w' B l ∧ ∀ p, B = some p → w.heap.size ≤ p.block) ∧ Below w.heap.size w w' := by
  have hSl : S = nm.size + 13 + 4 * N := by rw [hS]; unfold strm; rw [List.length_append, strmH_len, strmT_len, hN]
  have hsz := hnm.len
  obtain ⟨b, o, rfl, hbl, -⟩ := hC (by omega)
  obtain ⟨z, hz⟩ : ∃ z, z = nm.size := ⟨_, rfl⟩
  obtain ⟨T, hT⟩ : ∃ T, T = 4 * N := ⟨_, rfl⟩
  obtain ⟨M, hM⟩ : ∃ M, M = z + 8 + T := ⟨_, rfl⟩
  obtain ⟨C, hCc⟩ : ∃ C, c = C + 5 := ⟨c - 5, by omega⟩
  obtain rfl : S = M + 5 := by omega
  subst hCc
  have HCR : Hid (∀ W B d, EC encF W B l → Calls Try.prog 58 #[.agg #[.string nm, (.int .i64 rate), .slice B N d]] W fun r w' => r = .returned (.int .i64 0) ∧ Below W.heap.size W w') := Lib.hid (fun W B d q => checkRecord_ok nm rate l B d N W hnm hr hN hN5 hl q)
  have hF2 : ∀ (W : World), Calls Try.prog 51 #[.slice (some ⟨W.heap.size, 0, none⟩) 2 2] (W.alloc (.cells #[(.int .i64 0), (.int .i64 0)] 24)) fun r w' => r = .returned (.int .i64 0) ∧ (W.alloc (.cells #[(.int .i64 0), (.int .i64 0)] 24)) = w' := fun W => gFirst_cells [0, 0] W (by simp)
  have HF2 := Lib.hid hF2
  have HF2a : Hid (Calls Try.prog 51 #[.slice (some ⟨w.heap.size + 1, 0, none⟩) 2 2] ((w.alloc (.cells #[.string ⟨#[]⟩, (.int .i64 0), .slice none 0 0] 49)).alloc (.cells #[(.int .i64 0), (.int .i64 0)] 24)) fun r w' => r = .returned (.int .i64 0) ∧ ((w.alloc (.cells #[.string ⟨#[]⟩, (.int .i64 0), .slice none 0 0] 49)).alloc (.cells #[(.int .i64 0), (.int .i64 0)] 24)) = w') := Lib.hid (by
    have := hF2 (w.alloc (.cells #[.string ⟨#[]⟩, (.int .i64 0), .slice none 0 0] 49))
    rwa [World.size_alloc] at this)
  -- the stream from byte 5 on
  have hX5 : EC encB w (some ⟨b, o + 5, none⟩) (nmB nm ++ (be4 rate ++ (be4 (N : Int) ++ strmT l))) := by
    have := hC.drop 5
    have e : (strm nm rate l).drop 5 = nmB nm ++ (be4 rate ++ (be4 (N : Int) ++ strmT l)) := by rw [hN]; simp [strm, strmH]
    rwa [e] at this
  have HX5 := Lib.hid hX5
  have hX0 : EC encB w (some ⟨b, o, none⟩) ([83, 78, 68, 82] ++ ((z : Int) :: (nmB nm ++ (be4 rate ++ (be4 (N : Int) ++ strmT l))))) := by
    have e : strm nm rate l = [83, 78, 68, 82] ++ ((z : Int) :: (nmB nm ++ (be4 rate ++ (be4 (N : Int) ++ strmT l)))) := by rw [hN, hz]; simp [strm, strmH]
    rwa [e] at hC
  obtain ⟨W1, hW1⟩ : ∃ W1, W1 = (w.alloc (.cells #[.string ⟨#[]⟩, (.int .i64 0), .slice none 0 0] 49)).alloc (.cells #[(.int .i64 0), (.int .i64 0)] 24) := ⟨_, rfl⟩
  have hB1 : Below w.heap.size w W1 := by rw [hW1]; exact bel
  have hX1 := hX0.below hB1
  have sl1 : ∀ W, (Instr.slice 52 (.slice (some ⟨b, o, none⟩) (M + 5) (C + 5)) none (some (.int .i64 4)) none).run Try.prog W = .ok (.slice (some ⟨b, o, none⟩) 4 (C + 5)) W := fun W => sliceB_hi b o (M + 5) (C + 5) 4 4 rfl (by omega) (by omega) W
  have cv1 : (convert 52 9 (.slice (some ⟨b, o, none⟩) 4 (C + 5))).run Try.prog W1 = .ok (.string ⟨#[83, 78, 68, 82]⟩) W1 := bytes_string hX1 rfl (by decide)
  have sl2 : ∀ W, (Instr.slice 52 (.slice (some ⟨b, o, none⟩) (M + 5) (C + 5)) (some (.int .i64 5)) none none).run Try.prog W = .ok (.slice (some ⟨b, o + 5, none⟩) M C) W := fun W => by
    have := sliceB_lo b o (M + 5) (C + 5) 5 5 rfl (by omega) (by omega) W
    simpa using this
  have x4 : W1.cell? ⟨b, o + 4, none⟩ = some (.int .u8 (z : Int)) := by
    obtain ⟨b', o', e, _, hc⟩ := hX1 (by simp)
    cases e
    exact hc 4 (by simp)
  rw [hW1] at cv1 x4
  have c1 : decide ((4000000 : Int) < (M : Int) + 5) = false := decide_eq_false (by omega)
  have c2 : decide ((M : Int) + 5 < 5) = false := decide_eq_false (by omega)
  have c2b : decide ((M : Int) < 0) = false := decide_eq_false (by omega)
  have c2c : ¬ (M : Int) < 0 := by omega
  have c3 : ¬ (M : Int) < (z : Int) + 8 := by omega
  have c4 : (4 : Int) < (M : Int) + 5 := by omega
  have c5 : (5 : Int) ≤ (M : Int) + 5 := by omega
  have hzi : (z : Int) ≤ 24 := by omega
  have HS1 := Lib.hid hz
  have HTT := Lib.hid hT
  have HMM := Lib.hid hM
  have HN := Lib.hid hN
  have HL := Lib.hid hl
  have HB1' := Lib.hid hB1
  have hMC : M ≤ C := by omega
  clear hX0 hX1 hX5 hC hS hSl hz hT hM hN hl hnm hB1 hF2 hW1
  go_enter Try.func19, Try.ntmps19
  go_wp2_with (first
    | (go_at_call 61; refine (gWhen_any _ _ _).mono ?_; rintro r wx ⟨rfl, rfl⟩)
    | (go_at_call 51; refine HF2a.out.mono ?_; rintro r wx ⟨rfl, rfl⟩))
  refine name_world ?_
  intro w1 e1
  have K0 : Blk w1 w.heap.size #[.string ⟨#[]⟩, (.int .i64 0), .slice none 0 0] := by rw [e1]; (repeat (first | ((with_reducible refine Blk.at_ ?_); focus (first | rfl | (simp; done) | (simp; omega))) | (with_reducible refine Blk.alloc ?_ _) | (with_reducible refine Blk.below ?_ (by with_reducible assumption)) | (with_reducible refine Blk.drew ?_)))
  have HB1 := Lib.hid (show Below w.heap.size w w1 by rw [e1]; exact bel)
  have HK0 := Lib.hid K0
  clear e1 K0 sl1 sl2 cv1 x4 c1 c2 c2b c2c c3 c4 c5 HF2a
  obtain ⟨M1, hM1⟩ : ∃ M1, M1 = M - z := ⟨_, rfl⟩
  obtain ⟨C1, hC1⟩ : ∃ C1, C1 = C - z := ⟨_, rfl⟩
  have hMv := HMM.out
  have hTv := HTT.out
  have hzv := HS1.out
  have sl3 : ∀ W, (Instr.slice 52 (.slice (some ⟨b, o + 5, none⟩) M C) none (some (.int .i64 ((z : Int)))) none).run Try.prog W = .ok (.slice (some ⟨b, o + 5, none⟩) z C) W := fun W => sliceB_hi b (o + 5) M C z _ rfl (by omega) (by omega) W
  have sl4 : ∀ W, (Instr.slice 52 (.slice (some ⟨b, o + 5, none⟩) M C) (some (.int .i64 ((z : Int)))) none none).run Try.prog W = .ok (.slice (some ⟨b, o + 5 + z, none⟩) M1 C1) W := fun W => by
    have := sliceB_lo b (o + 5) M C z _ rfl (by omega) (by omega) W
    rwa [← hM1, ← hC1] at this
  have HX7 : Hid (EC encB w (some ⟨b, o + 5 + z, none⟩) (be4 rate ++ (be4 (N : Int) ++ strmT l))) := Lib.hid (by
    have := HX5.out.drop z
    rwa [List.drop_left' (by rw [nmB_len, hzv])] at this)
  have HLEN : Hid ((be4 rate ++ (be4 (N : Int) ++ strmT l)).length = M1) := Lib.hid (by simp only [List.length_append, be4_len, strmT_len, ← HN.out]; omega)
  have HCV : Hid (∀ W, Below w1.heap.size w1 W → (convert 52 9 (.slice (some ⟨b, o + 5, none⟩) z C)).run Try.prog W = .ok (.string nm) W) := Lib.hid (fun W q => by
    have := bytes_string (k := z) (c := C) ((HX5.out.below HB1.out).below q) (by rw [nmB_len, hzv]) (by omega)
    rwa [nmB_str] at this)
  have HF4 : Hid (∀ W, Below w1.heap.size w1 W → Calls Try.prog 62 #[.slice (some ⟨b, o + 5 + z, none⟩) M1 C1] W fun r w' => r = .returned (.int .u32 rate) ∧ Below W.heap.size W w') := Lib.hid (fun W q => four_any rate (by omega) _ b (o + 5 + z) M1 C1 W HLEN.out.symm ((HX7.out.below HB1.out).below q))
  have HMV := Lib.hid (And.intro hMv (And.intro hTv (And.intro hM1 hC1)))
  clear hMv hTv hzv hM1 hC1
  refine Rel.region3 11 (by kernel_rfl) (by kernel_rfl) (by kernel_rfl) ?_
  simp only [List.take_succ_cons, List.take_zero, List.drop_succ_cons, List.drop_zero, List.filterMap_cons, List.filterMap_nil]
  iterate 3 (apply Rel.op3; (focus (first | exact Rel.gno rfl | exact Rel.gyes _ true _ rfl rfl rfl | exact Rel.gyes _ false _ rfl rfl rfl)); (focus (intro a W hb hd hbase; obtain ⟨hc, hf⟩ := bcell hb; clear hb hf; simp [Rel.deps, Rel.dep1, Rel.ons, Region.binds, Act.eval] at hd; simp only [Act.eval, List.mem_cons, List.not_mem_nil, not_or, and_imp, or_false, Array.getD_eq_getD_getElem?] at hbase; go_simp; (try go_bits); (try rfl); done)); (try simp only [List.nil_append, List.cons_append]))
  (apply Rel.op3 (.string nm); (focus (first | exact Rel.gno rfl | exact Rel.gyes _ true _ rfl rfl rfl | exact Rel.gyes _ false _ rfl rfl rfl)); (focus (intro a W hb hd hbase; have hop := HCV.out W hb; obtain ⟨hc, hf⟩ := bcell hb; clear hb hf; simp [Rel.deps, Rel.dep1, Rel.ons, Region.binds, Act.eval] at hd; simp only [Act.eval, List.mem_cons, List.not_mem_nil, not_or, and_imp, or_false, Array.getD_eq_getD_getElem?] at hbase; go_simp; (try go_bits); (try rfl); done)); (try simp only [List.nil_append, List.cons_append]))
  iterate 3 (apply Rel.op3; (focus (first | exact Rel.gno rfl | exact Rel.gyes _ true _ rfl rfl rfl | exact Rel.gyes _ false _ rfl rfl rfl)); (focus (intro a W hb hd hbase; obtain ⟨hc, hf⟩ := bcell hb; clear hb hf; simp [Rel.deps, Rel.dep1, Rel.ons, Region.binds, Act.eval] at hd; simp only [Act.eval, List.mem_cons, List.not_mem_nil, not_or, and_imp, or_false, Array.getD_eq_getD_getElem?] at hbase; go_simp; (try go_bits); (try rfl); done)); (try simp only [List.nil_append, List.cons_append]))
  (apply Rel.call3; (focus (first | exact Rel.gno rfl | exact Rel.gyes _ true _ rfl rfl rfl | exact Rel.gyes _ false _ rfl rfl rfl)); (focus (intro a W hb hd hbase; obtain ⟨hc, hf⟩ := bcell hb; clear hb hf; simp [Rel.deps, Rel.dep1, Rel.ons, Region.binds, Act.eval] at hd; simp only [Act.eval, List.mem_cons, List.not_mem_nil, not_or, and_imp, or_false, Array.getD_eq_getD_getElem?] at hbase; go_simp; refine ⟨?_, ?_⟩; rfl; rfl)); (focus (intro W hb; go_at_call 62; exact HF4.out W hb)); (try simp only [List.nil_append, List.cons_append]))
  iterate 2 (apply Rel.op3; (focus (first | exact Rel.gno rfl | exact Rel.gyes _ true _ rfl rfl rfl | exact Rel.gyes _ false _ rfl rfl rfl)); (focus (intro a W hb hd hbase; obtain ⟨hc, hf⟩ := bcell hb; clear hb hf; simp [Rel.deps, Rel.dep1, Rel.ons, Region.binds, Act.eval] at hd; simp only [Act.eval, List.mem_cons, List.not_mem_nil, not_or, and_imp, or_false, Array.getD_eq_getD_getElem?] at hbase; go_simp; (try go_bits); (try rfl); done)); (try simp only [List.nil_append, List.cons_append]))
  (apply Rel.alloc3 49 #[.string ⟨#[]⟩, (.int .i64 0), .slice none 0 0]; (focus (exact Rel.gno rfl)); (focus (intro a W; go_simp)); (try simp only [List.nil_append, List.cons_append]))
  refine Rel.done3 ?_
  intro x w2 hb2 hx
  simp only [Rel.facts, Nat.zero_add, Nat.reduceAdd] at hx
  obtain ⟨e0, e1, e2, e3, e4, e5, e6, e7, e8, e9, ⟨g, e10, hg, hKg⟩, _⟩ := hx
  simp only [Rel.fill, Nat.zero_add, Nat.reduceAdd, e0, e1, e2, e3, e4, e5, e6, e7, e8, e9, e10]
  simp only [Act.put, List.setIfInBounds_toArray, List.set_cons_zero, List.set_cons_succ]
  clear e0 e1 e2 e3 e4 e5 e6 e7 e8 e9 e10
  have HB2 := Lib.hid (HB1.out.trans (hb2.mono HB1.out.size))
  have HK02 := Lib.hid (HK0.out.below hb2)
  have HKG := Lib.hid hKg
  have hz1 : w.heap.size < w1.heap.size := HK0.out.lt
  obtain ⟨g0, g1, g2, gl, gf⟩ := hKg.o3
  obtain ⟨hMv, hTv, hM1, hC1⟩ := HMV.out
  have hzv := HS1.out
  have sl5 : ∀ W, (Instr.slice 52 (.slice (some ⟨b, o + 5, none⟩) M C) (some (.int .i64 ((z : Int) + 4))) none none).run Try.prog W = .ok (.slice (some ⟨b, o + 5 + (z + 4), none⟩) (M - (z + 4)) (C - (z + 4))) W := fun W => sliceB_lo b (o + 5) M C (z + 4) _ (by omega) (by omega) (by omega) W
  have HX8 : Hid (EC encB w (some ⟨b, o + 5 + (z + 4), none⟩) (be4 (N : Int) ++ strmT l)) := Lib.hid (by
    have := HX5.out.drop (z + 4)
    rwa [← List.append_assoc, List.drop_left' (by rw [List.length_append, nmB_len, be4_len, hzv])] at this)
  have HLN8 : Hid ((be4 (N : Int) ++ strmT l).length = M - (z + 4)) := Lib.hid (by simp only [List.length_append, be4_len, strmT_len, ← HN.out]; omega)
  obtain ⟨P6, sl6, hX9⟩ := sliceB_any b (o + 5) M C (z + 8) ((z : Int) + 8) (by omega) (by omega) hMC w _ (by simp only [List.length_append, be4_len, nmB_len, strmT_len, ← HN.out]; omega) HX5.out
  have HX9 : Hid (EC encB w P6 (strmT l)) := Lib.hid (by
    rwa [← List.append_assoc, ← List.append_assoc, List.drop_left' (by rw [List.length_append, List.length_append, nmB_len, be4_len, be4_len, hzv])] at hX9)
  have hTM : M - (z + 8) = T := by omega
  have hTC : T ≤ C - (z + 8) := by omega
  rw [hTM] at sl6
  obtain ⟨C6, hC6⟩ : ∃ C6, C6 = C - (z + 8) := ⟨_, rfl⟩
  rw [← hC6] at sl6 hTC
  obtain ⟨M2, hM2⟩ : ∃ M2, M2 = M - (z + 4) := ⟨_, rfl⟩
  obtain ⟨C2, hC2⟩ : ∃ C2, C2 = C - (z + 4) := ⟨_, rfl⟩
  simp only [← hM2, ← hC2] at sl5
  rw [← hM2] at HLN8
  have hTI : (4 : Int) * (N : Int) = (T : Int) := by omega
  have hNi : (0 : Int) ≤ (N : Int) ∧ (N : Int) < 4294967296 := by omega
  have hNj : (N : Int) ≤ 4096 := by omega
  clear hMv hTv hM1 hC1 hzv hX9 hTM hC6 hM2 hC2 sl3 sl4 hb2 hKg HX7 HLEN HCV HF4 HX5
  go_wp2_with (go_at_call 62; refine name_calls ?_; intro w3 e3; refine Hid.out ?_)
  unfold Hid
  have K3 : Blk w3 g #[.string nm, (.int .i64 rate), .slice none 0 0] := by
    rw [e3]
    exact ((HKG.out.set (i := 0) (by simp) _).set (i := 1) (by simp) _).set (i := 2) (by simp) _
  have h3 : Below g w2 w3 := by
    rw [e3]
    exact (((Below.refl _ _).setCell (p := ⟨g, 0, none⟩) (Nat.le_refl _) _).setCell (p := ⟨g, 1, none⟩) (Nat.le_refl _) _).setCell (p := ⟨g, 2, none⟩) (Nat.le_refl _) _
  have HB3 := Lib.hid (HB2.out.trans (h3.mono (by omega)))
  have HK03 := Lib.hid (HK02.out.of_block (h3.block _ (by omega)))
  have HK3 := Lib.hid K3
  clear e3 h3 K3 g0 g1 g2 gl gf
  refine (four_any (N : Int) hNi _ b (o + 5 + (z + 4)) M2 C2 w3 HLN8.out.symm (HX8.out.below HB3.out)).mono ?_
  rintro r w4 ⟨rfl, h4⟩
  have HB4 := Lib.hid (HB3.out.trans (h4.mono HB3.out.size))
  have HK04 := Lib.hid (HK03.out.below h4)
  have HK4 := Lib.hid (HK3.out.below h4)
  clear h4
  go_wp2_with (first
    | (go_at_call 61; refine (gWhen_any _ _ _).mono ?_; rintro r wx ⟨rfl, rfl⟩)
    | (go_at_call 51; refine (HF2.out _).mono ?_; rintro r wx ⟨rfl, rfl⟩))
  refine name_world ?_
  intro w5 e5
  have h5 : Below w4.heap.size w4 w5 := by rw [e5]; exact bel
  have HB5 := Lib.hid (HB4.out.trans (h5.mono HB4.out.size))
  have HK05 := Lib.hid (HK04.out.below h5)
  have HK5 := Lib.hid (HK4.out.below h5)
  clear e5 h5 sl5 sl6 hTI
  have hgw : w.heap.size + 1 ≤ g := by omega
  have hHT : T = 4 * N := HTT.out
  go_loopw [0] (fun s wr => ∃ k n : Nat, ∃ P c, k ≤ N ∧ n = 4 * (N - k) ∧ s = .slice P n c ∧ n ≤ c ∧ EC encB w P (strmT (l.drop k)) ∧ (∃ v, Blk wr g #[.string nm, (.int .i64 rate), v] ∧ wr.ownsRow (g + 1) 98 1 v (l.take k).length ((l.take k).map encF)) ∧ Below g w5 wr) (fun s _ => lenV s)
  case atStart => exact ⟨0, T, P6, C6, Nat.zero_le _, by omega, rfl, hTC, HX9.out, ⟨_, HK5.out, World.ownsRow_nil _ _ _ _⟩, Below.refl _ _⟩
  case round =>
    obtain ⟨k, n, P, cc, hk, hn, rfl, hnc, hP, ⟨v, kv, ho⟩, hb⟩ := hrel
    have HP := Lib.hid hP
    have HKV := Lib.hid kv
    have HO := Lib.hid ho
    have HBR := Lib.hid hb
    have HBW := Lib.hid (HB5.out.trans (hb.mono (by omega)))
    have HNK := Lib.hid hn
    have hz5 : g < w5.heap.size := HK5.out.lt
    have hzr : w5.heap.size ≤ wr.heap.size := hb.size
    clear hP ho hb hHT
    by_cases hlt : k < N
    · have hn4 : 4 ≤ n := by omega
      have hni : (0 : Int) < (n : Int) := by omega
      have hdr := strmT_drop (l := l) (k := k) (by rw [← HN.out]; exact hlt)
      have hfl := HL.out.get (k := k) (by rw [← HN.out]; exact hlt)
      have HS : Hid (l.take (k + 1) = l.take k ++ [l.getD k 0]) := Lib.hid (by
        have hkl : k < l.length := by rw [← HN.out]; exact hlt
        rw [List.take_succ_eq_append_getElem hkl, List.getD_eq_getElem?_getD, List.getElem?_eq_getElem hkl]; rfl)
      have HTL : Hid ((l.take k).length ≤ 4096) := Lib.hid (by rw [List.length_take]; omega)
      have HDL : Hid ((strmT (l.drop k)).length = n) := Lib.hid (by rw [strmT_len, List.length_drop, ← HN.out]; exact HNK.out.symm)
      obtain ⟨z0, hz0⟩ : ∃ z0, z0 = l.getD k 0 := ⟨_, rfl⟩
      rw [← hz0] at hdr hfl HS
      obtain ⟨F, hF⟩ : ∃ F, F = fl z0 := ⟨_, rfl⟩
      have HFF := Lib.hid hF
      have hlF := hfl.lt
      have hnF := hfl.ne
      rw [← hF] at hdr hlF hnF
      obtain ⟨b6, o6, rfl, hl6, -⟩ := HP.out (by rw [HDL.out]; omega)
      have HP4 : Hid (EC encB w (some ⟨b6, o6, none⟩) (be4 (F : Int) ++ strmT (l.drop (k + 1)))) := Lib.hid (by rw [← hdr]; exact HP.out)
      have HLD : Hid (n = (be4 (F : Int) ++ strmT (l.drop (k + 1))).length) := Lib.hid (by rw [← hdr, HDL.out])
      obtain ⟨P7, sl7, hP7⟩ := sliceB_any b6 o6 n cc 4 4 rfl hn4 hnc w _ HLD.out HP4.out
      have HP7 : Hid (EC encB w P7 (strmT (l.drop (k + 1)))) := Lib.hid (by rwa [List.drop_left' (be4_len _)] at hP7)
      have hFi : (0 : Int) ≤ (F : Int) ∧ (F : Int) < 4294967296 := by omega
      have hFe : ((F : Int) == 2147483648) = false := beq_eq_false_iff_ne.2 (by omega)
      have q3 := fun W => from32 F W
      clear hz0 hF hdr hfl hP7 hlF hnF hn kv
      go_wp2_with (go_at_call 62; refine (four_any (F : Int) hFi _ b6 o6 n cc wr HLD.out (HP4.out.below HBW.out)).mono ?_; rintro r w6 ⟨rfl, h6⟩; refine Hid.out ?_)
      unfold Hid
      have HB6 := Lib.hid (HBR.out.trans (h6.mono (by omega)))
      have HK6 := Lib.hid (HKV.out.below h6)
      have HO6 := Lib.hid (ownsRow_below HO.out h6)
      have hz6 : g < w6.heap.size := HK6.out.lt
      obtain ⟨g0, g1, g2, gl, gf⟩ := HK6.out.o3
      clear h6
      go_wp2
      refine Rel.region3 5 (by kernel_rfl) (by kernel_rfl) (by kernel_rfl) ?_
      simp only [List.take_succ_cons, List.take_zero, List.drop_succ_cons, List.drop_zero, List.filterMap_cons, List.filterMap_nil]
      iterate 4 (apply Rel.op3; (focus (first | exact Rel.gno rfl | exact Rel.gyes _ true _ rfl rfl rfl | exact Rel.gyes _ false _ rfl rfl rfl)); (focus (intro a W hb hd hbase; obtain ⟨hc, hf⟩ := bcell hb; clear hb hf; simp [Rel.deps, Rel.dep1, Rel.ons, Region.binds, Act.eval] at hd; simp only [Act.eval, List.mem_cons, List.not_mem_nil, not_or, and_imp, or_false, Array.getD_eq_getD_getElem?] at hbase; go_simp; (try go_bits); (try rfl); done)); (try simp only [List.nil_append, List.cons_append]))
      (apply Rel.build3; (focus (first | exact Rel.gno rfl | exact Rel.gyes _ true _ rfl rfl rfl)); (focus (intro a W hb hd hbase; obtain ⟨hc, hf⟩ := bcell hb; clear hb hf; simp [Rel.deps, Rel.dep1, Rel.ons, Region.binds, Act.eval] at hd; simp only [Act.eval, List.mem_cons, List.not_mem_nil, not_or, and_imp, or_false, Array.getD_eq_getD_getElem?] at hbase; go_simp; (first | rfl | (refine ⟨⟨?_, ?_⟩, ?_⟩; rfl; rfl; rfl) | (refine ⟨?_, ?_⟩; rfl; rfl)))); (try simp only [List.nil_append, List.cons_append]))
      refine Rel.done3 ?_
      intro x w7 hb7 hx
      simp only [Rel.facts, Nat.zero_add, Nat.reduceAdd] at hx
      obtain ⟨e0, e1, e2, e3, ⟨gs, e4, hgs, hKs⟩, _⟩ := hx
      simp only [Rel.fill, Nat.zero_add, Nat.reduceAdd, e0, e1, e2, e3, e4]
      simp only [Act.put, List.setIfInBounds_toArray, List.set_cons_zero, List.set_cons_succ]
      clear e0 e1 e2 e3 e4 g0 g1 g2 gl gf
      have HB7 := Lib.hid (HB6.out.trans (hb7.mono (by omega)))
      have HK7 := Lib.hid (HK6.out.below hb7)
      have HO7 := Lib.hid (ownsRow_below HO6.out hb7)
      have hz7 : g + 1 ≤ w7.heap.size := HK7.out.lt
      have hEC : EC encF w7 (some ⟨gs, 0, none⟩) [z0] := by rw [HFF.out] at hKs; exact EC.blk hKs rfl
      have htl := HTL.out
      clear hb7 hKs hgs
      refine wpList_appE eF encF_one rfl _ _ rfl (g + 1) v (l.take k) rfl HO7.out _ 1 1 [z0] rfl rfl hEC (by omega) hz7 ?_
      intro v8 w8 ho8 hg8
      have HB8 : Hid (Below (g + 1) w7 w8) := Lib.hid ((Below.refl _ _).grown hg8 hz7 (fun j hj => (HO7.out.lt j hj).1))
      have HK8 := Lib.hid (HK7.out.of_block (HB8.out.block _ (Nat.lt_succ_self _)))
      obtain ⟨m8, hm8⟩ : ∃ m8, m8 = (l.take k ++ [z0]).length := ⟨_, rfl⟩
      rw [← hm8] at ho8
      have HM8 := Lib.hid hm8
      have HO8 := Lib.hid ho8
      obtain ⟨S8, d8, rfl⟩ := own_slice ho8
      obtain ⟨g0, g1, g2, gl, gf⟩ := HK8.out.o3
      clear ho8 hg8 hEC htl hm8
      go_wp2
      go_roundw
      case rel => exact ⟨k + 1, n - 4, P7, cc - 4, by omega, by have := HNK.out; omega, by first | rfl | (simp; done), by omega, HP7.out, ⟨_, HK8.out.set (i := 2) (by simp) _, by rw [HS.out, ← HM8.out]; exact ownsRow_setCell_below HO8.out (a := ⟨g, 2, none⟩) (Nat.lt_succ_self g) _⟩, (HB7.out.trans (HB8.out.mono (Nat.le_succ _))).setCell (p := ⟨g, 2, none⟩) (Nat.le_refl _) _⟩
      case measure => simp [lenV]; omega
    · obtain rfl : k = N := by omega
      obtain rfl : n = 0 := by omega
      have hown := HO.out
      have e : l.take k = l := by rw [HN.out]; exact List.take_length
      rw [e] at hown
      obtain ⟨B, d, rfl, hge, hr⟩ := own_ec (enc := encF) hown rfl
      rw [← HN.out] at HKV kv
      have HR := Lib.hid hr
      have HG := Lib.hid hge
      have HK0r := Lib.hid (HK05.out.of_block (HBR.out.block _ (by omega)))
      obtain ⟨g0, g1, g2, gl, gf⟩ := HKV.out.o3
      clear hown e hr hge kv hnc hn
      go_wp2_with (go_at_call 58; refine (HCR.out wr B d HR.out).mono ?_; rintro r w6 ⟨rfl, h6⟩; refine Hid.out ?_)
      unfold Hid
      have HB6 := Lib.hid (HBW.out.trans (h6.mono HBW.out.size))
      have HK6 := Lib.hid (HKV.out.below h6)
      have HK06 := Lib.hid (HK0r.out.below h6)
      have HR6 := Lib.hid (HR.out.below h6)
      clear h6 g0 g1 g2 gl gf
      obtain ⟨g0, g1, g2, gl, gf⟩ := HK6.out.o3
      obtain ⟨b0, b1, b2, bl, bf⟩ := HK06.out.o3
      go_wp2
      refine name_post ?_
      intro wz ez
      have KZ : Blk wz w.heap.size #[.string nm, (.int .i64 rate), .slice B k d] := by
        rw [ez]
        exact ((HK06.out.set (i := 0) (by simp) _).set (i := 1) (by simp) _).set (i := 2) (by simp) _
      have HCZ : EC encF wz B l := by
        rw [ez]
        exact ((HR6.out.far (p := ⟨w.heap.size, 0, none⟩) (fun q hq => by have := HG.out q hq; simp only; omega) _).far (p := ⟨w.heap.size, 1, none⟩) (fun q hq => by have := HG.out q hq; simp only; omega) _).far (p := ⟨w.heap.size, 2, none⟩) (fun q hq => by have := HG.out q hq; simp only; omega) _
      have HBZ : Below w.heap.size w wz := by
        rw [ez]
        exact ((HB6.out.setCell (p := ⟨w.heap.size, 0, none⟩) (by simp) _).setCell (p := ⟨w.heap.size, 1, none⟩) (by simp) _).setCell (p := ⟨w.heap.size, 2, none⟩) (by simp) _
      obtain ⟨k0, k1, k2, -, -⟩ := KZ.o3
      clear ez
      refine bodyPost_ret (v := .tuple #[.agg #[.string nm, (.int .i64 rate), .slice B k d], (.int .i64 0)]) (by simp [results, Try.results19, go_sem, k0, k1, k2]) rfl ⟨⟨B, d, rfl, HCZ, fun p hp => by have := HG.out p hp; omega⟩, HBZ⟩
end Go.Proofs.Ytamldoidalnloaa

/- chamber: Estimate of the answers of a response. -/
namespace Go.Proofs.Ytamldoidalnloaa
open Go.RowKit
open Calm (bcell Blk)
set_option maxRecDepth 100000 in
set_option maxHeartbeats 8000000 in
theorem Estimate_ok (h a b : List Int) (e : Nat) (he : e ≤ 6) (A B : Option Addr) (ca cb N L : Nat) (w : World) (hN : N = h.length) (hN1 : 1 ≤ N) (hN5 : N ≤ 256) (hL : L = N + 2 ^ e - 1) (ea : a = conv h (gol e).1) (eb : b = conv h (gol e).2) (hh : lvls h) (ha : lvls a) (hb : lvls b) (hA : Cells w A a) (hB : Cells w B b)
    (HSM : Hid (smL (gol e).1 (gol e).2 a b (2 ^ e) N = h.map fun x => x * (2 * ((2 ^ e : Nat) : Int)))) :
    Calls Try.prog 21 #[.slice A L ca, .slice B L cb, (.int .i64 (((2 ^ e : Nat) : Int)))] w fun r w' => ∃ u, r = .returned (.tuple #[u, (.int .i64 0)]) ∧ FS w.heap.size h u w' ∧ Below w.heap.size w w' := by
  obtain ⟨g1, g2⟩ := gol_len e
  have hp64 := pow_le_64 he
  have hla : L = a.length := by rw [ea, conv_len, if_neg (by omega), hL, g1, hN]
  have hlb : L = b.length := by rw [eb, conv_len, if_neg (by omega), hL, g2, hN]
  have HSU := Lib.hid (fun W (q1 : Cells W A a) (q2 : Cells W B b) => sums_ok a b e he A B ca cb L W hla hlb (by omega) (by omega) ha hb q1 q2)
  obtain ⟨M, hM⟩ : ∃ M, M = 2 ^ e := ⟨_, rfl⟩
  rw [← hM] at hL hp64
  rw [← hM] at HSU HSM
  rw [← hM]
  rw [show L - M + 1 = N by omega] at HSU
  obtain ⟨SM, hSM⟩ : ∃ SM, SM = smL (gol e).1 (gol e).2 a b M N := ⟨_, rfl⟩
  rw [← hSM] at HSU HSM
  have hsl : N = SM.length := by rw [hSM, smL_len]
  have hMi : 1 ≤ (M : Int) ∧ (M : Int) ≤ 4096 := by omega
  have hmap : SM.map (fun x => (x + (M : Int)) / (2 * (M : Int))) = h := by
    rw [HSM.out, List.map_map]
    conv => rhs; rw [← List.map_id h]
    refine List.map_congr_left fun x _ => ?_
    show (x * (2 * (M : Int)) + (M : Int)) / (2 * (M : Int)) = x
    rw [Int.add_comm, Int.add_mul_ediv_right _ _ (by omega), Int.ediv_eq_zero_of_lt (by omega) (by omega), Int.zero_add]
  have hsb : ∀ x ∈ SM, -2147483648 ≤ x ∧ x ≤ 2147483648 := fun x hx => by
    rw [HSM.out] at hx
    obtain ⟨y, hy, rfl⟩ := List.mem_map.1 hx
    have := hh y hy
    have h1 : y.natAbs ≤ 1048576 := by omega
    have h3 : (y * (2 * (M : Int))).natAbs ≤ 1048576 * 128 := by rw [Int.natAbs_mul]; exact Nat.mul_le_mul h1 (by omega)
    omega
  have HMD : Hid (∀ (W : World) (S : Option Addr) (d b1 : Nat), Cells W S SM → b1 < W.heap.size → W.cell? ⟨b1, 0, none⟩ = some (.int .i64 ((M : Int))) → Calls Try.prog 33 #[.slice S N d, .func (.func 66) #[] #[.pointer (some ⟨b1, 0, none⟩)]] W fun r w' => (∃ B d, r = .returned (.slice B N d) ∧ Cells w' B h ∧ ∀ p, B = some p → W.heap.size ≤ p.block) ∧ Below W.heap.size W w') := Lib.hid (fun W S d b1 q0 q1 q2 => by
    have := mapEst_any S SM d N (M : Int) b1 W hsl q0 (by omega) q1 q2 hMi hsb
    rwa [hmap] at this)
  have HSL := Lib.hid hsl
  have HN := Lib.hid hN
  have HA := Lib.hid hA
  have HB := Lib.hid hB
  clear hN hh ha hb hA hB hM g1 g2 he ea eb hla hlb HSM hSM hsl hmap hsb hL hp64
  go_enter Try.func21, Try.ntmps21
  go_wp2_with (go_at_call 32; refine name_calls ?_; intro w1 e1; refine Hid.out ?_)
  unfold Hid
  have h1 : Below w.heap.size w w1 := by rw [e1]; exact bel
  have R5 : Blk w1 w.heap.size #[(.int .i64 ((M : Int)))] := by rw [e1]; (repeat (first | ((with_reducible refine Blk.at_ ?_); focus (first | rfl | (simp; done) | (simp; omega))) | (with_reducible refine Blk.alloc ?_ _) | (with_reducible refine Blk.below ?_ (by with_reducible assumption)) | (with_reducible refine Blk.drew ?_)))
  have HB1 := Lib.hid h1
  have hz1 : w.heap.size < w1.heap.size := R5.lt
  clear e1 h1
  refine (HSU.out w1 (HA.out.below HB1.out) (HB.out.below HB1.out)).mono ?_
  rintro r w2 ⟨s, u, v, rfl, ⟨S, d, rfl, hS, fS⟩, ⟨A1, a1, rfl, hA1, f1⟩, ⟨A2, a2, rfl, hA2, f2⟩, h2⟩
  have HB2 := Lib.hid (HB1.out.trans (h2.mono HB1.out.size))
  have HR2 := Lib.hid (R5.below h2)
  have HS := Lib.hid hS
  rw [← HSL.out]
  clear h2 hS hA1 hA2 fS f1 f2 HSU R5
  go_wp2_with (go_at_call 33; refine name_calls ?_; intro w3 e3; refine Hid.out ?_)
  unfold Hid
  have h3 : Below w2.heap.size w2 w3 := by rw [e3]; exact bel
  have HB3 := Lib.hid (HB2.out.trans (h3.mono HB2.out.size))
  have HR3 := Lib.hid (HR2.out.below h3)
  have HS3 := Lib.hid (HS.out.below h3)
  clear e3 h3
  refine (HMD.out w3 S d w.heap.size HS3.out HR3.out.lt (by rw [HR3.out.c]; rfl)).mono ?_
  rintro r w4 ⟨⟨H, hd, rfl, hH, fH⟩, h4⟩
  have HB4 := Lib.hid (HB3.out.trans (h4.mono HB3.out.size))
  have HH := Lib.hid hH
  have HF : Hid (∀ p, H = some p → w.heap.size ≤ p.block) := Lib.hid (fun p hp => Nat.le_trans HB3.out.size (fH p hp))
  clear h4 hH fH
  go_wp2
  refine bodyPost_ret (v := .tuple #[.slice H N hd, (.int .i64 0)]) (by simp [results, Try.results21, go_sem]) rfl ⟨_, rfl, ⟨H, hd, by rw [← HN.out], HH.out, HF.out⟩, HB4.out⟩
end Go.Proofs.Ytamldoidalnloaa
