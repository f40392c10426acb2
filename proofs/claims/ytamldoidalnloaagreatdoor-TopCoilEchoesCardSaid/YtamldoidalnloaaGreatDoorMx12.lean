/- Part 12 of the texts of the claim: Tj7, Tj8, Tj9. -/
import Derived.Test.YtamldoidalnloaaGreatDoorMx11

/- signal: the reader's word, integer, head. -/
namespace Go.Proofs.YtamldoidalnloaaGreatDoor
open Go.RowKit
open Go.Lib (itoa)
open Calm (bcell Blk)
theorem eS : ETy Tryz.prog 80 9 16 (.string ⟨#[]⟩) := ⟨by kernel_rfl, by kernel_rfl, rfl, by decide, by decide⟩
theorem Tryz.elemS : Tryz.prog.elem 80 = 9 := by kernel_rfl
theorem sizeOfS (W : World) : (Go.sizeOf (Tryz.prog.elem 80)).run Tryz.prog W = .ok 1 W := by
  obtain ⟨i0, hi, hz0, hz1, hz2⟩ := info_parts eS.i
  rw [Tryz.elemS]
  simp [Go.sizeOf, typeInfo, hi, hz1]
/-- a list of words without its first. -/
theorem sliceS_one (b o n c : Nat) (hn : 1 ≤ n) (hc : n ≤ c) (W : World) : (Instr.slice 80 (.slice (some ⟨b, o, none⟩) n c) (some (.int .i64 1)) none none).run Tryz.prog W = .ok (.slice (some ⟨b, if c = 1 then o else o + 1, none⟩) (n - 1) (c - 1)) W := by
  rw [run_slice_l W 80 _ n c (by rw [Tryz.elemS]; exact eS.u) .i64 (1 : Int) (by omega) (by omega), sizeOfS]
  simp only [Result.andThen, sliced]
  by_cases h : c = 1
  · simp [h]
  · simp [h, Addr.add]
set_option maxHeartbeats 4000000 in
set_option maxRecDepth 100000 in
theorem word_any (S : ByteArray) (rB g o n c : Nat) (w : World) (hn : 1 ≤ n) (hc : n ≤ c) (hn5 : n ≤ 1000) (hS : (S.toList == []) = false) (hx : w.cell? ⟨g, o, none⟩ = some (.string S)) (hg : g < rB) (hK : Blk w rB #[.slice (some ⟨g, o, none⟩) n c, .bool false]) :
    Calls Tryz.prog 58 #[.pointer (some ⟨rB, 0, none⟩)] w fun r w' => r = .returned (.string S) ∧ Blk w' rB #[.slice (some ⟨g, if c = 1 then o else o + 1, none⟩) (n - 1) (c - 1), .bool false] ∧ Below rB w w' := by
  obtain ⟨o2, ho2⟩ : ∃ o2, o2 = if c = 1 then o else o + 1 := ⟨_, rfl⟩
  obtain ⟨n2, hn2⟩ : ∃ n2, n2 = n - 1 := ⟨_, rfl⟩
  obtain ⟨c2, hc2⟩ : ∃ c2, c2 = c - 1 := ⟨_, rfl⟩
  have hsl : ∀ W, (Instr.slice 80 (.slice (some ⟨g, o, none⟩) n c) (some (.int .i64 1)) none none).run Tryz.prog W = .ok (.slice (some ⟨g, o2, none⟩) n2 c2) W := fun W => by rw [ho2, hn2, hc2]; exact sliceS_one g o n c hn hc W
  rw [← ho2, ← hn2, ← hc2]
  have HK := Lib.hid hK
  obtain ⟨a0, a1, al, af⟩ := hK.o2
  have hne : ((n : Int) == 0) = false := beq_eq_false_iff_ne.2 (by omega)
  have h0n : (0 : Int) < (n : Int) := by omega
  have hgl : g < w.heap.size := by omega
  have HX := Lib.hid hx
  clear ho2 hn2 hc2 hK
  go_enter Tryz.func58, Tryz.ntmps58
  go_wp2
  refine name_post ?_
  intro wz ez
  have KZ : Blk wz rB #[.slice (some ⟨g, o2, none⟩) n2 c2, .bool false] := by
    rw [ez]
    exact (HK.out.set (i := 0) (by simp) _).set (i := 1) (by simp) _
  have HBZ : Below rB w wz := by
    rw [ez]
    exact ((Below.refl _ _).setCell (p := ⟨rB, 0, none⟩) (Nat.le_refl _) _).setCell (p := ⟨rB, 1, none⟩) (Nat.le_refl _) _
  clear ez
  refine bodyPost_ret (v := .string S) (by simp [results, Tryz.results58, go_sem]) rfl ⟨rfl, KZ, HBZ⟩
set_option maxHeartbeats 4000000 in
set_option maxRecDepth 100000 in
theorem rinteger_any (S : ByteArray) (z : Int) (hS : S = ⟨(itoa z).toArray⟩) (hz : -999999 ≤ z ∧ z ≤ 999999) (rB n c : Nat) (A : Option Addr) (w : World) (hT : ETab w) (hK : Blk w rB #[.slice A n c, .bool false]) :
    Calls Tryz.prog 41 #[.pointer (some ⟨rB, 0, none⟩), .string S] w fun r w' => r = .returned (.int .i64 z) ∧ Blk w' rB #[.slice A n c, .bool false] ∧ Below rB w w' := by
  have HAT : Hid (Calls Tryz.prog 59 #[.string S] w fun r w' => r = .returned (.tuple #[(.int .i64 z), .nilIface]) ∧ Below w.heap.size w w') := Lib.hid (by rw [hS]; exact atoi_any z hz w)
  have HIT : Hid (∀ W, Below w.heap.size w W → Calls Tryz.prog 36 #[(.int .i64 z)] W fun r w' => r = .returned (.string S) ∧ Below W.heap.size W w') := Lib.hid (fun W hb => by rw [hS]; exact itoa_any z W (hT.below hb) (by omega) (by omega))
  obtain ⟨TR, hTR⟩ : ∃ TR : ByteArray, TR = ⟨(Lib.trimPrefix (itoa z) [45]).toArray⟩ := ⟨_, rfl⟩
  have HTP : Hid (∀ W, Calls Tryz.prog 60 #[.string S, .string ⟨#[45]⟩] W fun r w' => r = .returned (.string TR) ∧ Below W.heap.size W w') := Lib.hid (fun W => by rw [hS, hTR]; exact trim_any (itoa z) W)
  have htr : ¬ (9 : Int) < (TR.size : Int) := by
    have := trim_len hz
    have e : TR.size = (Lib.trimPrefix (itoa z) [45]).length := by rw [hTR]; show (List.toArray _).size = _; simp
    omega
  have HK := Lib.hid hK
  have hlt := hK.lt
  clear hS hz hTR hT hK
  go_enter Tryz.func41, Tryz.ntmps41
  go_wp2_with (go_at_call 59; refine HAT.out.mono ?_; rintro r w1 ⟨rfl, h1⟩; refine Hid.out ?_)
  unfold Hid
  have HB1 := Lib.hid h1
  have HK1 := Lib.hid (HK.out.below h1)
  obtain ⟨a0, a1, al, af⟩ := HK1.out.o2
  clear h1
  go_wp2_with (go_at_call 60; refine (HTP.out w1).mono ?_; rintro r w2 ⟨rfl, h2⟩; refine Hid.out ?_)
  unfold Hid
  have HB2 := Lib.hid (HB1.out.trans (h2.mono HB1.out.size))
  have HK2 := Lib.hid (HK1.out.below h2)
  clear h2 a0 a1 al af
  go_wp2_with (go_at_call 36; refine (HIT.out w2 HB2.out).mono ?_; rintro r w3 ⟨rfl, h3⟩; refine Hid.out ?_)
  unfold Hid
  have HB3 := Lib.hid (HB2.out.trans (h3.mono HB2.out.size))
  have HK3 := Lib.hid (HK2.out.below h3)
  obtain ⟨a0, a1, al, af⟩ := HK3.out.o2
  clear h3
  go_wp2
  refine name_post ?_
  intro wz ez
  have KZ : Blk wz rB #[.slice A n c, .bool false] := by
    rw [ez, decide_eq_false (by omega)]
    exact HK3.out.set (i := 1) (by simp) _
  have HBZ : Below rB w wz := by
    rw [ez]
    exact (HB3.out.mono (Nat.le_of_lt hlt)).setCell (p := ⟨rB, 1, none⟩) (Nat.le_refl _) _
  clear ez
  refine bodyPost_ret (v := (.int .i64 z)) (by simp [results, Tryz.results41, go_sem]) rfl ⟨rfl, KZ, HBZ⟩
set_option maxHeartbeats 8000000 in
set_option maxRecDepth 100000 in
theorem rhead_any (nm S : ByteArray) (z : Int) (hS : S = ⟨(itoa z).toArray⟩) (hz : 0 ≤ z ∧ z ≤ 999999) (hnm : (nm.toList == []) = false) (rB g : Nat) (w : World) (hT : ∀ W, Below rB w W → ETab W) (hg : g < rB) (x0 : w.cell? ⟨g, 0, none⟩ = some (.string ⟨#[114, 101, 99, 111, 114, 100]⟩)) (x1 : w.cell? ⟨g, 1, none⟩ = some (.string nm)) (x2 : w.cell? ⟨g, 2, none⟩ = some (.string S)) (hK : Blk w rB #[.slice (some ⟨g, 0, none⟩) 3 3, .bool false]) :
    Calls Tryz.prog 40 #[.pointer (some ⟨rB, 0, none⟩)] w fun r w' => r = .returned (.tuple #[.string nm, (.int .i64 z)]) ∧ (∃ A n c, Blk w' rB #[.slice A n c, .bool false]) ∧ Below rB w w' := by
  have HSN : Hid ((S.toList == []) = false) := Lib.hid (beq_eq_false_iff_ne.2 (by rw [Go.ByteArray.toList_eq, hS]; simpa using itoa_ne z))
  have HR0 : Hid (((⟨#[114, 101, 99, 111, 114, 100]⟩ : ByteArray).toList == []) = false) := Lib.hid (beq_eq_false_iff_ne.2 (by rw [Go.ByteArray.toList_eq]; simp))
  have HW1 : Hid (Calls Tryz.prog 58 #[.pointer (some ⟨rB, 0, none⟩)] w fun r w' => r = .returned (.string ⟨#[114, 101, 99, 111, 114, 100]⟩) ∧ Blk w' rB #[.slice (some ⟨g, 1, none⟩) 2 2, .bool false] ∧ Below rB w w') := Lib.hid (word_any _ rB g 0 3 3 w (by decide) (by decide) (by decide) HR0.out x0 hg hK)
  have HW2 : Hid (∀ W, Below rB w W → Blk W rB #[.slice (some ⟨g, 1, none⟩) 2 2, .bool false] → Calls Tryz.prog 58 #[.pointer (some ⟨rB, 0, none⟩)] W fun r w' => r = .returned (.string nm) ∧ Blk w' rB #[.slice (some ⟨g, 2, none⟩) 1 1, .bool false] ∧ Below rB W w') := Lib.hid (fun W q1 q2 => word_any _ rB g 1 2 2 W (by decide) (by decide) (by decide) hnm ((q1.cell (p := ⟨g, 1, none⟩) hg).trans x1) hg q2)
  have HW3 : Hid (∀ W, Below rB w W → Blk W rB #[.slice (some ⟨g, 2, none⟩) 1 1, .bool false] → Calls Tryz.prog 58 #[.pointer (some ⟨rB, 0, none⟩)] W fun r w' => r = .returned (.string S) ∧ Blk w' rB #[.slice (some ⟨g, 2, none⟩) 0 0, .bool false] ∧ Below rB W w') := Lib.hid (fun W q1 q2 => word_any _ rB g 2 1 1 W (by decide) (by decide) (by decide) HSN.out ((q1.cell (p := ⟨g, 2, none⟩) hg).trans x2) hg q2)
  have HRI : Hid (∀ W, Below rB w W → Blk W rB #[.slice (some ⟨g, 2, none⟩) 0 0, .bool false] → Calls Tryz.prog 41 #[.pointer (some ⟨rB, 0, none⟩), .string S] W fun r w' => r = .returned (.int .i64 z) ∧ Blk w' rB #[.slice (some ⟨g, 2, none⟩) 0 0, .bool false] ∧ Below rB W w') := Lib.hid (fun W q1 q2 => rinteger_any S z hS (by omega) rB 0 0 _ W (hT W q1) q2)
  have hzn : ¬ z < 0 := by omega
  have hlt := hK.lt
  clear hS hnm x0 x1 x2 hK hT hz
  go_enter Tryz.func40, Tryz.ntmps40
  go_wp2_with (go_at_call 58; refine HW1.out.mono ?_; rintro r w1 ⟨rfl, k1, h1⟩; refine Hid.out ?_)
  unfold Hid
  have HB1 := Lib.hid h1
  have HK1 := Lib.hid k1
  clear h1 k1
  go_wp2_with (go_at_call 58; refine (HW2.out w1 HB1.out HK1.out).mono ?_; rintro r w2 ⟨rfl, k2, h2⟩; refine Hid.out ?_)
  unfold Hid
  have HB2 := Lib.hid (HB1.out.trans h2)
  have HK2 := Lib.hid k2
  clear h2 k2
  go_wp2_with (go_at_call 58; refine (HW3.out w2 HB2.out HK2.out).mono ?_; rintro r w3 ⟨rfl, k3, h3⟩; refine Hid.out ?_)
  unfold Hid
  have HB3 := Lib.hid (HB2.out.trans h3)
  have HK3 := Lib.hid k3
  clear h3 k3
  go_wp2_with (go_at_call 41; refine (HRI.out w3 HB3.out HK3.out).mono ?_; rintro r w4 ⟨rfl, k4, h4⟩; refine Hid.out ?_)
  unfold Hid
  have HB4 := Lib.hid (HB3.out.trans h4)
  have HK4 := Lib.hid k4
  obtain ⟨a0, a1, al, af⟩ := k4.o2
  clear h4 k4
  go_wp2
  refine name_post ?_
  intro wz ez
  have KZ : Blk wz rB #[.slice (some ⟨g, 2, none⟩) 0 0, .bool false] := by
    rw [ez, decide_eq_false (by omega)]
    exact HK4.out.set (i := 1) (by simp) _
  have HBZ : Below rB w wz := by
    rw [ez]
    exact HB4.out.setCell (p := ⟨rB, 1, none⟩) (Nat.le_refl _) _
  clear ez
  refine bodyPost_ret (v := .tuple #[.string nm, (.int .i64 z)]) (by simp [results, Tryz.results40, go_sem]) rfl ⟨rfl, ⟨_, _, _, KZ⟩, HBZ⟩
end Go.Proofs.YtamldoidalnloaaGreatDoor

/- signal: Parse of what Print writes: its first loop. -/
namespace Go.Proofs.YtamldoidalnloaaGreatDoor
open Go.RowKit
open Go.Lib (itoa)
open Calm (bcell Blk)
theorem cut_nl {a : List UInt8} (r : List UInt8) (h : ∀ b ∈ a, b ≠ 10) (w : World) (hT : ETab w) (hs : (a ++ 10 :: r).length ≤ 1000000) :
    Calls Tryz.prog 38 #[sv (a ++ 10 :: r), .string ⟨#[10]⟩] w fun e w' => e = .returned (.tuple #[sv a, sv r, .bool true]) ∧ Below w.heap.size w w' := by
  obtain ⟨_, m, hm⟩ := hT.mx
  refine (Tryz.strings_Cut ⟨(a ++ 10 :: r).toArray⟩ ⟨#[10]⟩ m w (by show (a ++ 10 :: r).toArray.size < _; rw [List.size_toArray]; omega) hm).mono ?_
  rintro e w' ⟨rfl, k, rfl⟩
  refine ⟨?_, below_drewN (Below.refl _ _) k⟩
  have hc : Lib.cut (a ++ 10 :: r) [10] = (a, r, true) := by
    unfold Lib.cut
    rw [index_line 10 a r h, if_pos (by omega), Int.toNat_natCast, List.take_left' rfl]
    have : a.length + ([10] : List UInt8).length = (a ++ [10]).length := by simp
    rw [this, show a ++ 10 :: r = (a ++ [10]) ++ r by simp, List.drop_left' rfl]
  have e : Lib.cut (⟨(a ++ 10 :: r).toArray⟩ : ByteArray).data.toList (⟨#[10]⟩ : ByteArray).data.toList = (a, r, true) := hc
  rw [e]
  rfl
/-- what is left of the text behind k lines. -/
def restT (nm : ByteArray) (rate : Int) (l : List Int) : Nat → List UInt8
  | 0 => recT nm rate l
  | k + 1 => bodyT (l.drop k)
theorem rest_zero (nm : ByteArray) (rate : Int) (l : List Int) : restT nm rate l 0 = headT nm rate ++ 10 :: restT nm rate l 1 := by
  show recT nm rate l = headT nm rate ++ 10 :: bodyT (l.drop 0)
  simp [recT]
theorem rest_succ (nm : ByteArray) (rate : Int) {l : List Int} {k : Nat} (hk : k < l.length) : restT nm rate l (k + 1) = itoa (l.getD k 0) ++ 10 :: restT nm rate l (k + 2) := by
  show bodyT (l.drop k) = itoa (l.getD k 0) ++ 10 :: bodyT (l.drop (k + 1))
  rw [List.drop_eq_getElem_cons hk, bodyT_cons, List.getD_eq_getElem?_getD, List.getElem?_eq_getElem hk]
  simp
theorem rest_end (nm : ByteArray) (rate : Int) (l : List Int) : restT nm rate l (l.length + 1) = [] := by
  show bodyT (l.drop l.length) = []
  rw [List.drop_length]
  rfl
theorem rest_len {nm : ByteArray} {rate : Int} {l : List Int} (hh : (headT nm rate).length ≤ 50) (h : numR l) : ∀ k, (restT nm rate l k).length ≤ 51 + 11 * l.length
  | 0 => by
    have := bodyT_len l h
    show (recT nm rate l).length ≤ _
    unfold recT
    simp only [List.length_append, List.length_cons, List.length_nil]
    omega
  | k + 1 => by
    have := bodyT_len (l.drop k) (fun x hx => h x (List.mem_of_mem_drop hx))
    rw [List.length_drop] at this
    show (bodyT (l.drop k)).length ≤ _
    omega
theorem head_nl {nm : ByteArray} (h : NmGood nm) (rate : Int) : ∀ b ∈ headT nm rate, b ≠ 10 := fun b hb => by
  unfold headT at hb
  simp only [List.mem_append] at hb
  rcases hb with ((hb | hb) | hb) | hb
  · simp at hb
    rcases hb with rfl | rfl | rfl | rfl | rfl | rfl | rfl <;> decide
  · exact (plain_name h b hb).1
  · simp at hb; subst hb; decide
  · exact (plain_itoa rate b hb).1
theorem head_cut {nm : ByteArray} (h : NmGood nm) (rate : Int) : cutL 32 (headT nm rate) = [[114, 101, 99, 111, 114, 100], nm.data.toList, itoa rate] := by
  have e : headT nm rate = [114, 101, 99, 111, 114, 100] ++ 32 :: (nm.data.toList ++ 32 :: itoa rate) := by simp [headT]
  rw [e, cutL_app _ _ (by decide), cutL_app _ _ (fun b hb => (plain_name h b hb).2), cutL_plain _ (fun b hb => (plain_itoa rate b hb).2)]
theorem line_ne {S : ByteArray} {a r : List UInt8} (h : S = ⟨(a ++ 10 :: r).toArray⟩) : (S.toList == []) = false := beq_eq_false_iff_ne.2 (by rw [Go.ByteArray.toList_eq, h]; simp)
end Go.Proofs.YtamldoidalnloaaGreatDoor

/- signal: Parse of what Print writes. -/
namespace Go.Proofs.YtamldoidalnloaaGreatDoor
open Go.RowKit
open Go.Lib (itoa)
open Calm (bcell Blk)
theorem own_old {w : World} {base : Nat} {e : TypeId} {u : Value} {n : Nat} {xs : List Value} (h : w.ownsRow base e 1 u n xs) {j : Nat} (hj : u.ownBlock = some j) : j < w.heap.size := by
  rcases h.2 with ⟨h1, _⟩ | ⟨g, cap, cur, h1, h2, h3, _⟩
  · rw [h1] at hj; cases hj
  · rw [h1] at hj
    obtain rfl : g = j := by simpa [Value.ownBlock] using hj
    exact (Array.getElem?_eq_some_iff.1 h3).1
set_option maxRecDepth 100000 in
set_option maxHeartbeats 8000000 in
theorem parse_ok (nm : ByteArray) (rate : Int) (l : List Int) (N : Nat) (w : World) (hT : ETab w) (hg : NmGood nm) (hr : 1 ≤ rate ∧ rate ≤ 192000) (hN : N = l.length) (hN5 : N ≤ 4096) (hl : flL l) (hq : ∀ x ∈ l, -32768 ≤ x ∧ x ≤ 32768) :
    Calls Tryz.prog 14 #[sv (recT nm rate l)] w fun r w' => (∃ B d, r = .returned (.tuple #[.agg #[.string nm, (.int .i64 rate), .slice B N d], (.int .i64 0), (.int .i64 0)]) ∧ EC encF w' B l ∧ ∀ p, B = some p → w.heap.size ≤ p.block) ∧ Below w.heap.size w w' := by
  have hnq : numR l := fun x hx => by have := hq x hx; omega
  have hrl := itoa_len (n := rate) (by omega)
  have hhl : (headT nm rate).length ≤ 50 := by
    have := hg.len
    have e : nm.data.toList.length = nm.size := by simp
    unfold headT; simp only [List.length_append, List.length_cons, List.length_nil]; omega
  have HRL : Hid (∀ k, (restT nm rate l k).length ≤ 51 + 11 * N) := Lib.hid (by rw [hN]; exact rest_len hhl hnq)
  have HTB : Hid (∀ W, Below w.heap.size w W → ETab W) := Lib.hid (fun W hb => hT.below hb)
  have HG := Lib.hid hg
  have HN := Lib.hid hN
  have HQ := Lib.hid hq
  have HL := Lib.hid hl
  have HR := Lib.hid hr
  obtain ⟨TX, hTX⟩ : ∃ TX : ByteArray, TX = ⟨(restT nm rate l 0).toArray⟩ := ⟨_, rfl⟩
  have hts : ¬ (1000000 : Int) < (TX.size : Int) := by
    have h1 := HRL.out 0
    have e : TX.size = (restT nm rate l 0).length := by rw [hTX]; show (List.toArray _).size = _; simp
    omega
  have htn : (TX.toList == []) = false := line_ne (by rw [hTX, rest_zero])
  have HTX := Lib.hid hTX
  have hs0 : sv (recT nm rate l) = .string TX := by rw [hTX]; rfl
  rw [hs0]
  clear hT hg hr hN hl hq hnq hrl hhl hTX hs0
  go_enter Tryz.func14, Tryz.ntmps14
  go_wp2
  refine name_world ?_
  intro w1 e1
  obtain ⟨e, he⟩ : ∃ e, e = w.heap.size + 1 := ⟨_, rfl⟩
  have K0 : Blk w1 w.heap.size #[.string ⟨#[]⟩, (.int .i64 0), .slice none 0 0] := by rw [e1]; (repeat (first | ((with_reducible refine Blk.at_ ?_); focus (first | rfl | (simp; done) | (simp; omega))) | (with_reducible refine Blk.alloc ?_ _) | (with_reducible refine Blk.below ?_ (by with_reducible assumption)) | (with_reducible refine Blk.drew ?_)))
  have KE : Blk w1 e #[.string ⟨#[]⟩, (.int .i64 0), .slice none 0 0] := by rw [he, e1]; (repeat (first | ((with_reducible refine Blk.at_ ?_); focus (first | rfl | (simp; done) | (simp; omega))) | (with_reducible refine Blk.alloc ?_ _) | (with_reducible refine Blk.below ?_ (by with_reducible assumption)) | (with_reducible refine Blk.drew ?_)))
  have HB1 := Lib.hid (show Below w.heap.size w w1 by rw [e1]; exact bel)
  have HK0 := Lib.hid K0
  have HKE := Lib.hid KE
  have he1 : e < w1.heap.size := KE.lt
  rw [← he]
  have HE := Lib.hid he
  have hwe : w.heap.size < e := by omega
  clear e1 K0 KE he
  go_loopw [0, 6, 7] (fun t v i wr => ∃ k : Nat, k ≤ N + 1 ∧ i = (.int .i64 ((k : Int))) ∧ t = sv (restT nm rate l k) ∧ wr.ownsRow (e + 1) 3 1 v (l.take (k - 1)).length ((l.take (k - 1)).map (Value.int .i64)) ∧ Blk wr e (if k = 0 then #[.string ⟨#[]⟩, (.int .i64 0), .slice none 0 0] else #[.string nm, (.int .i64 rate), .slice none 0 0]) ∧ Below e w1 wr) (fun _ _ i _ => N + 1 - (intOf i).toNat)
  case atStart => exact ⟨0, Nat.zero_le _, rfl, by rw [HTX.out]; rfl, World.ownsRow_nil _ _ _ _, by rw [if_pos rfl]; exact HKE.out, Below.refl _ _⟩
  case round =>
    obtain ⟨k, hk, rfl, rfl, ho, hbk, hb⟩ := hrel
    have HO := Lib.hid ho
    have HBK := Lib.hid hbk
    have HBR := Lib.hid hb
    have hzr := hb.size
    have HBW : Hid (Below w.heap.size w wr) := Lib.hid (HB1.out.trans (hb.mono (by omega)))
    clear ho hbk hb
    by_cases hlt : k ≤ N
    · have hTW := HTB.out wr HBW.out
      by_cases h0 : k = 0
      · subst h0
        have HKW := Lib.hid (show Blk wr e #[.string ⟨#[]⟩, (.int .i64 0), .slice none 0 0] from HBK.out)
        obtain ⟨S, hS⟩ : ∃ S : ByteArray, S = ⟨(restT nm rate l 0).toArray⟩ := ⟨_, rfl⟩
        have hsn : (S.toList == []) = false := line_ne (by rw [hS, rest_zero])
        have hsn2 : (S.toList != []) = true := by rw [bne, hsn]; rfl
        obtain ⟨LN, hLN⟩ : ∃ LN : ByteArray, LN = ⟨(headT nm rate).toArray⟩ := ⟨_, rfl⟩
        obtain ⟨RS, hRS⟩ : ∃ RS : ByteArray, RS = ⟨(restT nm rate l 1).toArray⟩ := ⟨_, rfl⟩
        have HCT : Hid (Calls Tryz.prog 38 #[.string S, .string ⟨#[10]⟩] wr fun e w' => e = .returned (.tuple #[.string LN, .string RS, .bool true]) ∧ Below wr.heap.size wr w') := Lib.hid (by
          have := cut_nl (a := headT nm rate) (restT nm rate l 1) (head_nl HG.out rate) wr hTW (by rw [← rest_zero]; have := HRL.out 0; omega)
          rw [← rest_zero] at this
          rw [hS, hLN, hRS]
          exact this)
        have HSP : Hid (∀ W, Below wr.heap.size wr W → Calls Tryz.prog 39 #[.string LN, .string ⟨#[32]⟩] W fun r w' => r = .returned (.slice (some ⟨W.heap.size, 0, none⟩) 3 3) ∧ W.alloc (.cells #[.string ⟨#[114, 101, 99, 111, 114, 100]⟩, .string nm, sv (itoa rate)] 9) = w') := Lib.hid (fun W hb => by
          have h1 := split_any (headT nm rate) W (hTW.below hb) (by have := HRL.out 0; rw [rest_zero] at this; simp only [List.length_append, List.length_cons] at this; omega) (head_cut HG.out rate)
          refine (by rw [hLN]; exact h1 : Calls Tryz.prog 39 #[.string LN, .string ⟨#[32]⟩] W _).mono ?_
          rintro r w' ⟨rfl, rfl⟩
          have en : sv nm.data.toList = .string nm := by simp [sv]
          exact ⟨rfl, by simp [wordsE, en, sv]⟩)
        have HSS := Lib.hid hS
        have HRS := Lib.hid hRS
        rw [show sv (restT nm rate l 0) = .string S by rw [hS]; rfl]
        clear hS hLN hRS hTW hts htn
        go_wp2_with (go_at_call 38; refine HCT.out.mono ?_; rintro r w2 ⟨rfl, h2⟩; refine Hid.out ?_)
        unfold Hid
        have HB2 := Lib.hid (HBR.out.trans (h2.mono (by omega)))
        have HKW2 := Lib.hid (HKW.out.below h2)
        have HSP2 := Lib.hid (HSP.out w2 h2)
        have hz2 := h2.size
        have HWR2 := Lib.hid h2
        clear h2
        go_wp2_with (go_at_call 39; refine HSP2.out.mono ?_; rintro r w3 ⟨rfl, rfl⟩; refine Hid.out ?_)
        unfold Hid
        go_wp2_with (go_at_call 40; refine name_calls ?_; intro w4 e4; refine Hid.out ?_)
        unfold Hid
        have KWD : Blk w4 w2.heap.size #[.string ⟨#[114, 101, 99, 111, 114, 100]⟩, .string nm, sv (itoa rate)] := by rw [e4]; (repeat (first | ((with_reducible refine Blk.at_ ?_); focus (first | rfl | (simp; done) | (simp; omega))) | (with_reducible refine Blk.alloc ?_ _) | (with_reducible refine Blk.below ?_ (by with_reducible assumption)) | (with_reducible refine Blk.drew ?_)))
        have KRD : Blk w4 (w2.heap.size + 1) #[.slice (some ⟨w2.heap.size, 0, none⟩) 3 3, .bool false] := by rw [e4]; (repeat (first | ((with_reducible refine Blk.at_ ?_); focus (first | rfl | (simp; done) | (simp; omega))) | (with_reducible refine Blk.alloc ?_ _) | (with_reducible refine Blk.below ?_ (by with_reducible assumption)) | (with_reducible refine Blk.drew ?_)))
        have h4 : Below w2.heap.size w2 w4 := by rw [e4]; exact bel
        have HB4 := Lib.hid (HB2.out.trans (h4.mono (by omega)))
        have HKW4 := Lib.hid (HKW2.out.below h4)
        have HWR4 : Hid (Below wr.heap.size wr w4) := Lib.hid (HWR2.out.trans (h4.mono hz2))
        clear e4 h4
        obtain ⟨x0, x1, x2, -, -⟩ := KWD.o3
        have hnn : (nm.toList == []) = false := beq_eq_false_iff_ne.2 (by
          rw [Go.ByteArray.toList_eq]
          intro q
          have e2 : nm.data.toList.length = nm.size := by simp
          rw [q] at e2
          have := HG.out.pos
          simp at e2
          omega)
        refine (rhead_any nm ⟨(itoa rate).toArray⟩ rate rfl (by have := HR.out; omega) hnn (w2.heap.size + 1) w2.heap.size w4 (fun W hb => HTB.out W (HBW.out.trans ((HWR4.out.trans (hb.mono (by omega))).mono HBW.out.size))) (by omega) x0 x1 x2 KRD).mono ?_
        rintro r w5 ⟨rfl, ⟨A5, n5, c5, hK5⟩, h5⟩
        have HWR5 : Hid (Below wr.heap.size wr w5) := Lib.hid (HWR4.out.trans (h5.mono (by omega)))
        have HB5 := Lib.hid (HB4.out.trans (h5.mono (by omega)))
        have HKW5 := Lib.hid (HKW4.out.of_block (h5.block e (by omega)))
        have HK5 := Lib.hid hK5
        have HO5 := Lib.hid (ownsRow_below HO.out HWR5.out)
        have hne5 : w2.heap.size + 1 ≠ e := by omega
        have hne6 : e ≠ w2.heap.size + 1 := by omega
        obtain ⟨a0, a1, a2, al, af⟩ := HKW5.out.o3
        obtain ⟨b0, b1, bl, bf⟩ := hK5.o2
        clear h5 hK5 x0 x1 x2 hnn KWD KRD
        go_wp2
        go_roundw
        case rel => exact ⟨1, by omega, by go_num, by rw [HRS.out]; rfl, ownsRow_setCell_below (ownsRow_setCell_below HO5.out (a := ⟨e, 0, none⟩) (Nat.lt_succ_self e) _) (a := ⟨e, 1, none⟩) (Nat.lt_succ_self e) _, (HKW5.out.set (i := 0) (by simp) _).set (i := 1) (by simp) _, (HB5.out.setCell (p := ⟨e, 0, none⟩) (Nat.le_refl _) _).setCell (p := ⟨e, 1, none⟩) (Nat.le_refl _) _⟩
        case measure => (simp [intOf]; try omega)
      · obtain ⟨q, rfl⟩ : ∃ q, k = q + 1 := ⟨k - 1, by omega⟩
        have hqN : q < l.length := by rw [← HN.out]; omega
        have HKW := Lib.hid (show Blk wr e #[.string nm, (.int .i64 rate), .slice none 0 0] by have := HBK.out; rwa [if_neg h0] at this)
        have HO1 := Lib.hid (show wr.ownsRow (e + 1) 3 1 u6 (l.take q).length ((l.take q).map (Value.int .i64)) from HO.out)
        obtain ⟨z, hz⟩ : ∃ z, z = l.getD q 0 := ⟨_, rfl⟩
        have hzr : -32768 ≤ z ∧ z ≤ 32768 := by
          rw [hz, List.getD_eq_getElem?_getD, List.getElem?_eq_getElem hqN]
          exact HQ.out _ (List.getElem_mem hqN)
        have HRS0 := Lib.hid (rest_succ nm rate hqN)
        have HTS : Hid (l.take (q + 1) = l.take q ++ [z]) := Lib.hid (by
          rw [List.take_succ_eq_append_getElem hqN, hz, List.getD_eq_getElem?_getD, List.getElem?_eq_getElem hqN]; rfl)
        have HTL : Hid ((l.take q).length ≤ 4096) := Lib.hid (by rw [List.length_take]; omega)
        rw [← hz] at HRS0
        obtain ⟨S, hS⟩ : ∃ S : ByteArray, S = ⟨(restT nm rate l (q + 1)).toArray⟩ := ⟨_, rfl⟩
        have hsn : (S.toList == []) = false := line_ne (by rw [hS, HRS0.out])
        have hsn2 : (S.toList != []) = true := by rw [bne, hsn]; rfl
        obtain ⟨LN, hLN⟩ : ∃ LN : ByteArray, LN = ⟨(itoa z).toArray⟩ := ⟨_, rfl⟩
        obtain ⟨RS, hRS⟩ : ∃ RS : ByteArray, RS = ⟨(restT nm rate l (q + 2)).toArray⟩ := ⟨_, rfl⟩
        have HCT : Hid (Calls Tryz.prog 38 #[.string S, .string ⟨#[10]⟩] wr fun e w' => e = .returned (.tuple #[.string LN, .string RS, .bool true]) ∧ Below wr.heap.size wr w') := Lib.hid (by
          have := cut_nl (a := itoa z) (restT nm rate l (q + 2)) (fun b hb => (plain_itoa z b hb).1) wr hTW (by rw [← HRS0.out]; have := HRL.out (q + 1); omega)
          rw [← HRS0.out] at this
          rw [hS, hLN, hRS]
          exact this)
        have HSP : Hid (∀ W, Below wr.heap.size wr W → Calls Tryz.prog 39 #[.string LN, .string ⟨#[32]⟩] W fun r w' => r = .returned (.slice (some ⟨W.heap.size, 0, none⟩) 1 1) ∧ W.alloc (.cells #[.string LN] 9) = w') := Lib.hid (fun W hb => by
          have h1 := split_any (itoa z) W (hTW.below hb) (by have := itoa_len (n := z) (by omega); omega) (cutL_plain _ (fun b hb => (plain_itoa z b hb).2))
          refine (by rw [hLN]; exact h1 : Calls Tryz.prog 39 #[.string LN, .string ⟨#[32]⟩] W _).mono ?_
          rintro r w' ⟨rfl, rfl⟩
          exact ⟨rfl, by rw [hLN]; rfl⟩)
        have HRI : Hid (∀ rB W, wr.heap.size ≤ rB → Below wr.heap.size wr W → Blk W rB #[.slice (some ⟨rB - 1, 0, none⟩) 1 1, .bool false] → Calls Tryz.prog 41 #[.pointer (some ⟨rB, 0, none⟩), .string LN] W fun r w' => r = .returned (.int .i64 z) ∧ Blk w' rB #[.slice (some ⟨rB - 1, 0, none⟩) 1 1, .bool false] ∧ Below rB W w') := Lib.hid (fun rB W h1 h2 h3 => rinteger_any LN z hLN (by omega) rB 1 1 _ W (hTW.below h2) h3)
        have HRS := Lib.hid hRS
        rw [show sv (restT nm rate l (q + 1)) = .string S by rw [hS]; rfl]
        have hk0 : (((q + 1 : Nat) : Int) == 0) = false := beq_eq_false_iff_ne.2 (by omega)
        have hkv : ((q + 1 : Nat) : Int) = (q : Int) + 1 := by omega
        clear hS hLN hRS hTW hts htn hz
        go_wp2_with (go_at_call 38; refine HCT.out.mono ?_; rintro r w2 ⟨rfl, h2⟩; refine Hid.out ?_)
        unfold Hid
        have HB2 := Lib.hid (HBR.out.trans (h2.mono (by omega)))
        have HKW2 := Lib.hid (HKW.out.below h2)
        have HSP2 := Lib.hid (HSP.out w2 h2)
        have hz2 := h2.size
        have HWR2 := Lib.hid h2
        clear h2
        go_wp2_with (go_at_call 39; refine HSP2.out.mono ?_; rintro r w3 ⟨rfl, rfl⟩; refine Hid.out ?_)
        unfold Hid
        go_wp2_with (go_at_call 41; refine name_calls ?_; intro w4 e4; refine Hid.out ?_)
        unfold Hid
        have KRD : Blk w4 (w2.heap.size + 1) #[.slice (some ⟨w2.heap.size, 0, none⟩) 1 1, .bool false] := by rw [e4]; (repeat (first | ((with_reducible refine Blk.at_ ?_); focus (first | rfl | (simp; done) | (simp; omega))) | (with_reducible refine Blk.alloc ?_ _) | (with_reducible refine Blk.below ?_ (by with_reducible assumption)) | (with_reducible refine Blk.drew ?_)))
        have h4 : Below w2.heap.size w2 w4 := by rw [e4]; exact bel
        have HB4 := Lib.hid (HB2.out.trans (h4.mono (by omega)))
        have HKW4 := Lib.hid (HKW2.out.below h4)
        have HWR4 : Hid (Below wr.heap.size wr w4) := Lib.hid (HWR2.out.trans (h4.mono hz2))
        clear e4 h4
        refine (HRI.out (w2.heap.size + 1) w4 (by omega) HWR4.out KRD).mono ?_
        rintro r w5 ⟨rfl, hK5, h5⟩
        have HWR5 : Hid (Below wr.heap.size wr w5) := Lib.hid (HWR4.out.trans (h5.mono (by omega)))
        have HB5 := Lib.hid (HB4.out.trans (h5.mono (by omega)))
        have HKW5 := Lib.hid (HKW4.out.of_block (h5.block e (by omega)))
        have HK5 := Lib.hid hK5
        have HO5 := Lib.hid (ownsRow_below HO1.out HWR5.out)
        have hz5 : w2.heap.size + 1 < w5.heap.size := hK5.lt
        clear h5 hK5 KRD
        have htl := HTL.out
        go_wp2_with (at_builtin; refine Hid.out ?_)
        unfold Hid
        refine (wpList_appE eI (enc := Value.int .i64) (fun _ => rfl) rfl _ _ rfl (e + 1) u6 (l.take q) rfl (ownsRow_below HO5.out ((Below.refl _ _).alloc (Nat.le_refl _) _)) (some ⟨w5.heap.size, 0, none⟩) 1 1 [z] rfl rfl (EC.blk (Blk.new _ _ _) rfl) (by omega) (by simp; omega) ?_)
        intro v8 w8 ho8 hg8
        have HB8 : Hid (Below (e + 1) w5 w8) := Lib.hid (((Below.refl _ _).alloc (by omega) _).grown hg8 (by simp; omega) (fun j hj => (HO5.out.lt j hj).1))
        have HKW8 := Lib.hid (HKW5.out.of_block (HB8.out.block e (by omega)))
        have HK8 : Hid (Blk w8 (w2.heap.size + 1) #[.slice (some ⟨w2.heap.size + 1 - 1, 0, none⟩) 1 1, .bool false]) := Lib.hid (by
          refine (HK5.out.alloc (.cells #[(.int .i64 z)] 3)).of_block (hg8.block _ (by simp; omega) (fun q => ?_))
          have := own_old HO1.out q.symm
          omega)
        obtain ⟨m8, hm8⟩ : ∃ m8, m8 = (l.take q ++ [z]).length := ⟨_, rfl⟩
        rw [← hm8] at ho8
        have HM8 := Lib.hid hm8
        have HO8 := Lib.hid ho8
        obtain ⟨S8, d8, rfl⟩ := own_slice ho8
        obtain ⟨b0, b1, bl, bf⟩ := HK8.out.o2
        clear ho8 hg8 hm8 htl
        go_wp2
        go_roundw
        case rel => exact ⟨q + 2, by omega, by go_num, by rw [HRS.out]; rfl, by show World.ownsRow _ _ _ _ _ (l.take (q + 1)).length ((l.take (q + 1)).map _); rw [HTS.out, ← HM8.out]; exact HO8.out, by rw [if_neg (by omega)]; exact HKW8.out, HB5.out.trans (HB8.out.mono (Nat.le_succ _))⟩
        case measure => (simp [intOf]; try omega)
    · obtain rfl : k = N + 1 := by omega
      have HKW := Lib.hid (show Blk wr e #[.string nm, (.int .i64 rate), .slice none 0 0] by have := HBK.out; rwa [if_neg (by omega)] at this)
      have HTK : Hid (l.take N = l) := Lib.hid (by rw [HN.out]; exact List.take_length)
      have ho1 : wr.ownsRow (e + 1) 3 1 u6 N (l.map (Value.int .i64)) := by
        have := HO.out
        rw [show N + 1 - 1 = N from rfl, HTK.out, ← HN.out] at this
        exact this
      obtain ⟨D, dd, rfl, hDb, hDc⟩ := own_ec (enc := Value.int .i64) ho1 HN.out
      have HD := Lib.hid hDc
      have HDB := Lib.hid hDb
      rw [show sv (restT nm rate l (N + 1)) = .string ⟨#[]⟩ by rw [HN.out, rest_end]; rfl]
      have HNM := Lib.hid HG.out.ok.call
      have HWI := Lib.hid (gRange_ok rate 1 192000 HR.out)
      have HWH := Lib.hid gWhen_no
      have HF3 : Hid (∀ (W : World), Calls Tryz.prog 24 #[.slice (some ⟨W.heap.size, 0, none⟩) 3 3] (W.alloc (.cells #[(.int .i64 0), (.int .i64 0), (.int .i64 0)] 31)) fun r w' => r = .returned (.int .i64 0) ∧ (W.alloc (.cells #[(.int .i64 0), (.int .i64 0), (.int .i64 0)] 31)) = w') := Lib.hid (fun W => gFirst_cells [0, 0, 0] W (by simp))
      have hgt : decide ((4096 : Int) < (N : Int)) = false := decide_eq_false (by omega)
      obtain ⟨a0, a1, a2, al, af⟩ := HKW.out.o3
      clear ho1 hDc hDb hts htn hk hlt
      go_wp2
      refine Rel.region3 10 (by kernel_rfl) (by kernel_rfl) (by kernel_rfl) ?_
      simp only [List.take_succ_cons, List.take_zero, List.drop_succ_cons, List.drop_zero, List.filterMap_cons, List.filterMap_nil]
      iterate 2 (apply Rel.op3; (focus (first | exact Rel.gno rfl | exact Rel.gyes _ true _ rfl rfl rfl | exact Rel.gyes _ false _ rfl rfl rfl)); (focus (intro a W hb hd hbase; obtain ⟨hc, hf⟩ := bcell hb; clear hb hf; simp [Rel.deps, Rel.dep1, Rel.ons, Region.binds, Act.eval] at hd; simp only [Act.eval, List.mem_cons, List.not_mem_nil, not_or, and_imp, or_false, Array.getD_eq_getD_getElem?] at hbase; go_simp; (try go_bits); (try rfl); done)); (try simp only [List.nil_append, List.cons_append]))
      (apply Rel.call3; (focus (first | exact Rel.gno rfl | exact Rel.gyes _ true _ rfl rfl rfl | exact Rel.gyes _ false _ rfl rfl rfl)); (focus (intro a W hb hd hbase; obtain ⟨hc, hf⟩ := bcell hb; clear hb hf; simp [Rel.deps, Rel.dep1, Rel.ons, Region.binds, Act.eval] at hd; simp only [Act.eval, List.mem_cons, List.not_mem_nil, not_or, and_imp, or_false, Array.getD_eq_getD_getElem?] at hbase; go_simp; refine ⟨?_, ?_⟩; rfl; rfl)); (focus (intro W hb; go_at_call 42; exact HNM.out W)); (try simp only [List.nil_append, List.cons_append]))
      iterate 2 (apply Rel.op3; (focus (first | exact Rel.gno rfl | exact Rel.gyes _ true _ rfl rfl rfl | exact Rel.gyes _ false _ rfl rfl rfl)); (focus (intro a W hb hd hbase; obtain ⟨hc, hf⟩ := bcell hb; clear hb hf; simp [Rel.deps, Rel.dep1, Rel.ons, Region.binds, Act.eval] at hd; simp only [Act.eval, List.mem_cons, List.not_mem_nil, not_or, and_imp, or_false, Array.getD_eq_getD_getElem?] at hbase; go_simp; (try go_bits); (try rfl); done)); (try simp only [List.nil_append, List.cons_append]))
      (apply Rel.call3; (focus (first | exact Rel.gno rfl | exact Rel.gyes _ true _ rfl rfl rfl | exact Rel.gyes _ false _ rfl rfl rfl)); (focus (intro a W hb hd hbase; obtain ⟨hc, hf⟩ := bcell hb; clear hb hf; simp [Rel.deps, Rel.dep1, Rel.ons, Region.binds, Act.eval] at hd; simp only [Act.eval, List.mem_cons, List.not_mem_nil, not_or, and_imp, or_false, Array.getD_eq_getD_getElem?] at hbase; go_simp; refine ⟨?_, ?_⟩; rfl; rfl)); (focus (intro W hb; go_at_call 26; exact HWI.out W)); (try simp only [List.nil_append, List.cons_append]))
      iterate 2 (apply Rel.op3; (focus (first | exact Rel.gno rfl | exact Rel.gyes _ true _ rfl rfl rfl | exact Rel.gyes _ false _ rfl rfl rfl)); (focus (intro a W hb hd hbase; obtain ⟨hc, hf⟩ := bcell hb; clear hb hf; simp [Rel.deps, Rel.dep1, Rel.ons, Region.binds, Act.eval] at hd; simp only [Act.eval, List.mem_cons, List.not_mem_nil, not_or, and_imp, or_false, Array.getD_eq_getD_getElem?] at hbase; go_simp; (try go_bits); (try rfl); done)); (try simp only [List.nil_append, List.cons_append]))
      (apply Rel.op3 (.bool false); (focus (first | exact Rel.gno rfl | exact Rel.gyes _ true _ rfl rfl rfl | exact Rel.gyes _ false _ rfl rfl rfl)); (focus (intro a W hb hd hbase; obtain ⟨hc, hf⟩ := bcell hb; clear hb hf; simp [Rel.deps, Rel.dep1, Rel.ons, Region.binds, Act.eval] at hd; simp only [Act.eval, List.mem_cons, List.not_mem_nil, not_or, and_imp, or_false, Array.getD_eq_getD_getElem?] at hbase; go_simp; (try go_bits); (try rfl); done)); (try simp only [List.nil_append, List.cons_append]))
      (apply Rel.call3; (focus (first | exact Rel.gno rfl | exact Rel.gyes _ true _ rfl rfl rfl | exact Rel.gyes _ false _ rfl rfl rfl)); (focus (intro a W hb hd hbase; obtain ⟨hc, hf⟩ := bcell hb; clear hb hf; simp [Rel.deps, Rel.dep1, Rel.ons, Region.binds, Act.eval] at hd; simp only [Act.eval, List.mem_cons, List.not_mem_nil, not_or, and_imp, or_false, Array.getD_eq_getD_getElem?] at hbase; go_simp; refine ⟨?_, ?_⟩; rfl; rfl)); (focus (intro W hb; go_at_call 27; exact HWH.out 5 W)); (try simp only [List.nil_append, List.cons_append]))
      refine Rel.done3 ?_
      intro x w2 hb2 hx
      simp only [Rel.facts, Nat.zero_add, Nat.reduceAdd] at hx
      obtain ⟨e0, e1, e2, e3, e4, e5, e6, e7, e8, e9, _⟩ := hx
      simp only [Rel.fill, Nat.zero_add, Nat.reduceAdd, e0, e1, e2, e3, e4, e5, e6, e7, e8, e9]
      simp only [Act.put, List.setIfInBounds_toArray, List.set_cons_zero, List.set_cons_succ]
      clear e0 e1 e2 e3 e4 e5 e6 e7 e8 e9
      have HB2 := Lib.hid (HBR.out.trans (hb2.mono (by omega)))
      have HKW2 := Lib.hid (HKW.out.below hb2)
      have HD2 := Lib.hid (HD.out.below hb2)
      have hz2 := hb2.size
      clear hb2 a0 a1 a2 al af
      go_wp2_with (go_at_call 24; refine (HF3.out _).mono ?_; rintro r wx ⟨rfl, rfl⟩)
      refine name_world ?_
      intro w3 e3
      have h3 : Below w2.heap.size w2 w3 := by rw [e3]; exact bel
      have HB3 := Lib.hid (HB2.out.trans (h3.mono (by omega)))
      have HKW3 := Lib.hid (HKW2.out.below h3)
      have HD3 := Lib.hid (HD2.out.below h3)
      have hz3 := h3.size
      clear e3 h3
      have hDl : ∀ p, D = some p → 0 < N → p.block < w3.heap.size := fun p hp hN0 => by
        obtain ⟨b6, o6, e6, hl6, _⟩ := HD3.out (by rw [← HN.out]; exact hN0)
        rw [e6] at hp
        cases hp
        exact hl6
      have HDL := Lib.hid hDl
      have hez : e < w3.heap.size := by omega
      have HWIN : Hid (∀ z, -32768 ≤ z ∧ z ≤ 32768 → ∀ W, Calls Tryz.prog 26 #[(.int .i64 z), (.int .i64 (-32768)), (.int .i64 32768)] W fun r w' => r = .returned (.int .i64 0) ∧ Below W.heap.size W w') := Lib.hid (fun z hz W => gRange_ok z (-32768) 32768 hz W)
      rename World => wA
      clear hDl
      go_loopw [82] (fun i wq => ∃ k : Nat, k ≤ N ∧ i = (.int .i64 ((k : Int))) ∧ (∃ v, Blk wq e #[.string nm, (.int .i64 rate), v] ∧ wq.ownsRow wA.heap.size 29 1 v (l.take k).length ((l.take k).map encF)) ∧ (∀ j, j < wA.heap.size → j ≠ e → wq.heap[j]? = wA.heap[j]?) ∧ Below e w1 wq ∧ wA.heap.size ≤ wq.heap.size) (fun i _ => N - (intOf i).toNat)
      case atStart => exact ⟨0, Nat.zero_le _, rfl, ⟨_, HKW3.out, World.ownsRow_nil _ _ _ _⟩, fun _ _ _ => rfl, HB3.out, Nat.le_refl _⟩
      case round =>
        obtain ⟨k, hk, rfl, ⟨v, kv, ho⟩, hkeep, hb, hsz⟩ := hrel
        have HKV := Lib.hid kv
        have HO2 := Lib.hid ho
        have HKP := Lib.hid hkeep
        have HBQ := Lib.hid hb
        clear kv ho hkeep hb
        by_cases hlt : k < N
        · obtain ⟨bD, oD, eD, hlD, hcD⟩ := HD3.out (by rw [← HN.out]; omega)
          have hbe : e + 1 ≤ bD := by have := HDB.out _ eD; exact this
          subst eD
          have x1 : wr.cell? ⟨bD, oD + k, none⟩ = some (.int .i64 (l.getD k 0)) := (World.cell?_of_block (w := wA) (a := ⟨bD, oD + k, none⟩) (HKP.out bD hlD (by omega))).trans (hcD k (by rw [← HN.out]; exact hlt))
          have hkl : k < l.length := by rw [← HN.out]; exact hlt
          have hzr := HQ.out _ (show l.getD k 0 ∈ l by rw [List.getD_eq_getElem?_getD, List.getElem?_eq_getElem hkl]; exact List.getElem_mem hkl)
          have hfl := HL.out.get hkl
          have HS : Hid (l.take (k + 1) = l.take k ++ [l.getD k 0]) := Lib.hid (by
            rw [List.take_succ_eq_append_getElem hkl, List.getD_eq_getElem?_getD, List.getElem?_eq_getElem hkl]; rfl)
          obtain ⟨z, hz⟩ : ∃ z, z = l.getD k 0 := ⟨_, rfl⟩
          rw [← hz] at x1 hzr hfl HS
          have q1 := fun W => FlOk.rflt (z := z) W
          have q2 := fun W => hfl.rquo W
          obtain ⟨F, hF⟩ : ∃ F, F = fl z := ⟨_, rfl⟩
          obtain ⟨G, hG⟩ : ∃ G, G = floatOfInt .f32 z := ⟨_, rfl⟩
          simp only [← hF, ← hG] at q2
          simp only [← hG] at q1
          have HFF := Lib.hid hF
          have HW6 := Lib.hid (HWIN.out z hzr wr)
          have HTL : Hid ((l.take k).length ≤ 4096) := Lib.hid (by rw [List.length_take]; omega)
          clear hcD hfl hz hF hG hzr
          go_wp2_with (go_at_call 26; refine HW6.out.mono ?_; rintro r w6 ⟨rfl, h6⟩; refine Hid.out ?_)
          unfold Hid
          have HB6 := Lib.hid h6
          have hz6 := h6.size
          have HK6 := Lib.hid (HKV.out.below h6)
          have HO6 := Lib.hid (ownsRow_below HO2.out h6)
          obtain ⟨a0, a1, a2, al, af⟩ := HK6.out.o3
          clear h6 x1
          go_wp2_with (at_builtin; refine Hid.out ?_)
          unfold Hid
          refine (wpList_appE eF encF_one rfl _ _ rfl wA.heap.size v (l.take k) rfl (ownsRow_below HO6.out ((Below.refl _ _).alloc (Nat.le_refl _) _)) (some ⟨w6.heap.size, 0, none⟩) 1 1 [z] rfl rfl (EC.blk (Blk.new _ _ _) (by rw [HFF.out]; rfl)) (by have := HTL.out; omega) (by simp; omega) ?_)
          intro v8 w8 ho8 hg8
          have HB8 : Hid (Below wA.heap.size w6 w8) := Lib.hid (((Below.refl _ _).alloc (by omega) _).grown hg8 (by simp; omega) (fun j hj => (HO6.out.lt j hj).1))
          have HK8 := Lib.hid (HK6.out.of_block (HB8.out.block _ hez))
          obtain ⟨m8, hm8⟩ : ∃ m8, m8 = (l.take k ++ [z]).length := ⟨_, rfl⟩
          rw [← hm8] at ho8
          have HM8 := Lib.hid hm8
          have HO8 := Lib.hid ho8
          obtain ⟨S8, d8, rfl⟩ := own_slice ho8
          have hz8 : wA.heap.size ≤ w8.heap.size := by have := HB8.out.size; omega
          have HKK : Hid (∀ (x : Value) j, j < wA.heap.size → j ≠ e → (w8.setCell ⟨e, 2, none⟩ x).heap[j]? = wA.heap[j]?) := Lib.hid (fun x j hj hne => by
            rw [Below.heap_setCell _ _ _ _ (fun q => hne q), HB8.out.block j hj, HB6.out.block j (by omega)]
            exact HKP.out j hj hne)
          have HBZ : Hid (∀ x : Value, Below e w1 (w8.setCell ⟨e, 2, none⟩ x)) := Lib.hid (fun x => ((HBQ.out.trans (HB6.out.mono (by omega))).trans (HB8.out.mono (by omega))).setCell (p := ⟨e, 2, none⟩) (Nat.le_refl _) _)
          obtain ⟨a0, a1, a2, al, af⟩ := HK8.out.o3
          clear ho8 hg8 hm8
          go_wp2
          go_roundw
          case rel => exact ⟨k + 1, by omega, by go_num, ⟨_, HK8.out.set (i := 2) (by simp) _, by rw [HS.out, ← HM8.out]; exact ownsRow_setCell_below HO8.out (a := ⟨e, 2, none⟩) hez _⟩, HKK.out _, HBZ.out _, by simpa using hz8⟩
          case measure => simp [intOf]; omega
        · obtain rfl : k = N := by omega
          have hown := HO2.out
          rw [HTK.out] at hown
          obtain ⟨B, d, rfl, hge, hrr⟩ := own_ec (enc := encF) hown rfl
          rw [← HN.out] at HKV
          have HRR := Lib.hid hrr
          have HGE := Lib.hid hge
          have HK0r := Lib.hid (HK0.out.of_block (HBQ.out.block _ hwe))
          have HBWQ : Hid (Below w.heap.size w wr) := Lib.hid (HB1.out.trans (HBQ.out.mono (by omega)))
          obtain ⟨a0, a1, a2, al, af⟩ := HKV.out.o3
          obtain ⟨b0, b1, b2, bl, bf⟩ := HK0r.out.o3
          clear hown hrr hge
          go_wp2
          refine name_post ?_
          intro wz ez
          have KZ : Blk wz w.heap.size #[.string nm, (.int .i64 rate), .slice B k d] := by
            rw [ez]
            exact ((HK0r.out.set (i := 0) (by simp) _).set (i := 1) (by simp) _).set (i := 2) (by simp) _
          have HCZ : EC encF wz B l := by
            rw [ez]
            exact ((HRR.out.far (p := ⟨w.heap.size, 0, none⟩) (fun q hq => by have := HGE.out q hq; simp only; omega) _).far (p := ⟨w.heap.size, 1, none⟩) (fun q hq => by have := HGE.out q hq; simp only; omega) _).far (p := ⟨w.heap.size, 2, none⟩) (fun q hq => by have := HGE.out q hq; simp only; omega) _
          have HBZ : Below w.heap.size w wz := by
            rw [ez]
            exact ((HBWQ.out.setCell (p := ⟨w.heap.size, 0, none⟩) (by simp) _).setCell (p := ⟨w.heap.size, 1, none⟩) (by simp) _).setCell (p := ⟨w.heap.size, 2, none⟩) (by simp) _
          obtain ⟨k0, k1, k2, -, -⟩ := KZ.o3
          clear ez
          refine bodyPost_ret (v := .tuple #[.agg #[.string nm, (.int .i64 rate), .slice B k d], (.int .i64 0), (.int .i64 0)]) (by simp [results, Tryz.results14, go_sem, k0, k1, k2]) rfl ⟨⟨B, d, rfl, HCZ, fun p hp => by have := HGE.out p hp; omega⟩, HBZ⟩
end Go.Proofs.YtamldoidalnloaaGreatDoor
