/- Part 16 of the texts of the claim: RT2, RT3, Y12, Y13, Kn. -/
import Derived.Test.YtdeapbihbhoefaaGreatDoorMr1
import Derived.Test.YtdeapbihbhoefaaGreatDoorMr2
import Derived.Test.YtdeapbihbhoefaaGreatDoorMr15
import Derived.Laws.RangeAny
import Derived.Test.YtdeapbihbhoefaaGreatDoorMr9
import Derived.Test.YtdeapbihbhoefaaGreatDoorMr3
import Derived.BigRegion
import Derived.Test.YtdeapbihbhoefaaGreatDoorMr14
import Derived.Lib.LaidTab
import Derived.Lib.ItoaLen
import Derived.Laws.OwnMore
import Derived.Test.YtdeapbihbhoefaaGreatDoorMr5

/- The program's integer. -/
namespace Go.Proofs.YtdeapbihbhoefaaGreatDoor
open Go.RowKit
open Go.Lib
open Calm (bcell Blk)
theorem iter_below (w : World) (s : ByteArray) (p : Nat) : Below w.heap.size w (w.iter s p) := (Below.refl _ _).alloc (Nat.le_refl _) _
theorem sgnL_pre (l : List UInt8) : sgnL l = (match numL (trimPrefix l [45]) with | some k => if hasPrefix l [45] then (if 0 < k then some (-(k : Int)) else none) else some (k : Int) | none => none) := by
  have e : hasPrefix l [45] = decide (l.head? = some 45) := by
    unfold hasPrefix
    cases l with
    | nil => rfl
    | cons x r =>
      simp only [List.isPrefixOf, List.head?_cons, Option.some.injEq, Bool.and_true]
      rw [Bool.eq_iff_iff, beq_iff_eq, decide_eq_true_iff]
      exact eq_comm
  unfold sgnL trimPrefix
  rw [e]
  by_cases h : l.head? = some 45
  · rw [if_pos h, decide_eq_true h, if_pos rfl]
    cases l with
    | nil => cases h
    | cons x r => rfl
  · rw [if_neg h, decide_eq_false h]
    simp only [Bool.false_eq_true, if_false]
    cases numL l <;> rfl
set_option maxHeartbeats 8000000 in
set_option maxRecDepth 100000 in
theorem integer_walk (s d : ByteArray) (m : Bool) (R : Option Nat) (V : Int) (S : Bool) (w : World) (hs : d.size ≤ 4096) (hd : d = ⟨(trimPrefix s.data.toList [45]).toArray⟩) (hm : m = hasPrefix s.data.toList [45]) (hR : R = numL d.data.toList)
    (hN : R = none → V = 0 ∧ S = false) (hK : ∀ k, R = some k → (m = true → (k = 0 → V = 0 ∧ S = false) ∧ (0 < k → V = -(k : Int) ∧ S = true)) ∧ (m = false → V = k ∧ S = true)) :
    Calls Tryz.prog 77 #[.string s] w fun r w' => r = .returned (.tuple #[(.int .i64 V), .bool S]) ∧ Below w.heap.size w w' := by
  have HCP : Hid (∀ W : World, Calls Tryz.prog 91 #[.string s, .string ⟨#[45]⟩] W fun e w' => e = .returned (.tuple #[.string d, .bool m]) ∧ W = w') := Lib.hid (fun W => (Tryz.strings_CutPrefix s ⟨#[45]⟩ W).mono fun e w' ⟨h1, h2⟩ => ⟨by rw [h1, hd, hm], h2.symm⟩)
  have HR := Lib.hid hR
  have HN := Lib.hid hN
  have HK := Lib.hid hK
  have HLEN := Lib.hid (size_list d)
  clear hd hm hR hN hK
  go_enter Tryz.func77, Tryz.ntmps77
  go_wp2_with (go_at_call 91; refine (HCP.out _).mono ?_; rintro r w1 ⟨rfl, rfl⟩)
  clear HCP
  go_loopw [6] (fun n w' => ∃ k : Nat, k ≤ d.size ∧ w' = w.iter d k ∧ n = (.int .i64 (((valL (d.data.toList.take k) : Nat) : Int))) ∧ (d.data.toList.take k).all digB = true ∧ (0 < k → d.size ≤ 9)) (fun _ w' => d.size - w'.iterPos w.heap.size)
  case atStart => exact ⟨0, by omega, rfl, rfl, rfl, fun h => absurd h (by omega)⟩
  case round =>
    obtain ⟨k, hk, rfl, rfl, hdg, h9⟩ := hrel
    have hv := valL_lt _ _ rfl hdg
    have hkl : (d.data.toList.take k).length = k := by rw [List.length_take, size_list]; omega
    rw [hkl] at hv
    have hv3 : valL (d.data.toList.take k) ≤ 1000000000 := by
      rcases Nat.eq_zero_or_pos k with h0 | h0
      · subst h0; simp [valL]
      · have hv2 : 10 ^ k ≤ 10 ^ 9 := Nat.pow_le_pow_right (by decide) (by have := h9 h0; omega)
        omega
    have HD := Lib.hid hdg
    have H9 := Lib.hid h9
    clear hdg hv hkl h9
    by_cases hlt : k < d.size
    · by_cases hasc : (d[k]'hlt).toNat < 128
      · have hnx : ∀ ty, (Instr.next (.pointer (some ⟨w.heap.size, 0, none⟩)) true ty).run Tryz.prog (w.iter d k) = _ := fun ty => run_next_ascii w d k ty hlt hasc
        have HT := Lib.hid (take_snoc d k hlt)
        by_cases hdig : 48 ≤ d[k].toNat ∧ d[k].toNat ≤ 57
        · obtain ⟨d1, d2⟩ := hdig
          by_cases hl9 : d.size ≤ 9
          · have HX := Lib.hid (show valL (d.data.toList.take (k + 1)) = 10 * valL (d.data.toList.take k) + (d[k].toNat - 48) by rw [HT.out, valL_snoc])
            have HY := Lib.hid (show (d.data.toList.take (k + 1)).all digB = true by rw [HT.out, List.all_append, HD.out]; simp [digB_iff]; exact ⟨d1, d2⟩)
            clear HT
            generalize hg : valL (d.data.toList.take k) = v at *
            have HG := Lib.hid hg
            clear hg
            generalize hc : d[k].toNat = c at *
            have HC := Lib.hid hc
            clear hc
            have e1 : ¬ (c : Int) < 48 := by omega
            have e2 : ¬ 57 < (c : Int) := by omega
            have e3 : ¬ 9 < (d.size : Int) := by omega
            go_wp2
            go_roundw
            case rel => exact ⟨k + 1, by omega, rfl, by rw [HX.out]; congr 1; omega, HY.out, fun _ => hl9⟩
            case measure => simp; omega
          · have hn : R = none := by rw [HR.out]; exact numL_none_len (.inr (by rw [size_list]; omega))
            obtain ⟨rfl, rfl⟩ := HN.out hn
            generalize hc : d[k].toNat = c at *
            have HC := Lib.hid hc
            clear hc HT HN HK HR hn
            have e1 : ¬ (c : Int) < 48 := by omega
            have e2 : ¬ 57 < (c : Int) := by omega
            have e3 : 9 < (d.size : Int) := by omega
            go_wp2
            go_ret2
            exact ⟨rfl, iter_below _ _ _⟩
        · have hn : R = none := by rw [HR.out]; exact numL_none_dig hlt hdig
          obtain ⟨rfl, rfl⟩ := HN.out hn
          generalize hc : d[k].toNat = c at *
          have HC := Lib.hid hc
          clear hc HT HN HK HR hn
          by_cases d1 : c < 48
          · have e1 : (c : Int) < 48 := by omega
            go_wp2
            go_ret2
            exact ⟨rfl, iter_below _ _ _⟩
          · have e1 : ¬ (c : Int) < 48 := by omega
            have e2 : 57 < (c : Int) := by omega
            clear d1 hdig
            go_wp2
            go_ret2
            exact ⟨rfl, iter_below _ _ _⟩
      · have hnx : ∀ ty, (Instr.next (.pointer (some ⟨w.heap.size, 0, none⟩)) true ty).run Tryz.prog (w.iter d k) = _ := fun ty => run_next_any w d k ty hlt
        have hhi := (decode_high d k hlt (by omega)).1
        have hn : R = none := by rw [HR.out]; exact numL_none_dig hlt (by omega)
        obtain ⟨rfl, rfl⟩ := HN.out hn
        generalize hc : Utf8.decode d k = cc at *
        obtain ⟨c, wd⟩ := cc
        simp only at hhi hnx
        clear hc HN HK HR hn
        have e1 : ¬ (c : Int) < 48 := by omega
        have e2 : 57 < (c : Int) := by omega
        go_wp2
        go_ret2
        exact ⟨rfl, iter_below _ _ _⟩
    · obtain rfl : k = d.size := by omega
      have hnx : ∀ ty, (Instr.next (.pointer (some ⟨w.heap.size, 0, none⟩)) true ty).run Tryz.prog (w.iter d d.size) = _ := fun ty => run_next_end w d d.size ty (by omega)
      have hall : d.data.toList.take d.size = d.data.toList := List.take_of_length_le (by rw [size_list]; exact Nat.le_refl _)
      have hdd := HD.out
      rw [hall] at hdd hv3 ⊢
      by_cases h0 : d.size = 0
      · have hn : R = none := by rw [HR.out]; exact numL_none_len (.inl (by rw [size_list]; exact h0))
        obtain ⟨rfl, rfl⟩ := HN.out hn
        have hnil : d.toList = [] := by rw [Go.ByteArray.toList_eq]; exact List.eq_nil_of_length_eq_zero (by rw [size_list]; exact h0)
        have hnil2 : (d.toList == []) = true := by rw [hnil]; rfl
        have hl1 : ¬ (1 : Int) < (d.size : Int) := by omega
        clear hnil h0
        generalize valL d.data.toList = v at *
        clear HN HK HR hn HD hdd hall H9 HLEN
        go_wp2
        go_ret2
        exact ⟨rfl, iter_below _ _ _⟩
      have hnil : ¬ d.toList = [] := by rw [Go.ByteArray.toList_eq]; intro e; have e2 := size_list d; rw [e] at e2; exact h0 e2.symm
      have hnil2 : (d.toList == []) = false := beq_eq_false_iff_ne.2 hnil
      have hnil3 : d.toList.isEmpty = false := by rw [← Bool.not_eq_true, List.isEmpty_iff]; exact hnil
      have hpos : 0 < d.size := by omega
      have h9' := H9.out hpos
      by_cases h1 : 1 < d.size
      · have hl1 : (1 : Int) < (d.size : Int) := by omega
        by_cases hz : d[0].toNat = 48
        · have hn : R = none := by rw [HR.out]; exact numL_none_zero h1 hz
          obtain ⟨rfl, rfl⟩ := HN.out hn
          have hz3 : ((d[0].toNat : Int) == 48) = true := by rw [hz]; rfl
          generalize valL d.data.toList = v at *
          clear HN HK HR hn HD hdd hall H9 HLEN hz
          go_wp2
          go_ret2
          exact ⟨rfl, iter_below _ _ _⟩
        · have hz3 : ((d[0].toNat : Int) == 48) = false := beq_eq_false_iff_ne.2 (by omega)
          have hn : R = some (valL d.data.toList) := by rw [HR.out]; exact numL_some_of hpos h9' (fun _ => hz) hdd
          obtain ⟨hK1, hK2⟩ := HK.out _ hn
          generalize valL d.data.toList = v at *
          clear HN HK HR hn HD hdd hall H9 HLEN
          cases m
          · obtain ⟨rfl, rfl⟩ := hK2 rfl
            clear hK1 hK2
            go_wp2
            go_ret2
            exact ⟨rfl, iter_below _ _ _⟩
          · obtain ⟨hK3, hK4⟩ := hK1 rfl
            by_cases hv0 : v = 0
            · obtain ⟨rfl, rfl⟩ := hK3 hv0
              have hq : ((v : Int) == 0) = true := by simpa using hv0
              clear hK1 hK2 hK3 hK4 hv0
              go_wp2
              go_ret2
              exact ⟨rfl, iter_below _ _ _⟩
            · obtain ⟨rfl, rfl⟩ := hK4 (by omega)
              have hq : ((v : Int) == 0) = false := by simpa using hv0
              clear hK1 hK2 hK3 hK4 hv0
              go_wp2
              go_ret2
              exact ⟨rfl, iter_below _ _ _⟩
      · have hl1 : ¬ (1 : Int) < (d.size : Int) := by omega
        have hn : R = some (valL d.data.toList) := by rw [HR.out]; exact numL_some_of hpos h9' (fun h => absurd h h1) hdd
        obtain ⟨hK1, hK2⟩ := HK.out _ hn
        generalize valL d.data.toList = v at *
        clear HN HK HR hn HD hdd hall H9 HLEN
        cases m
        · obtain ⟨rfl, rfl⟩ := hK2 rfl
          clear hK1 hK2
          go_wp2
          go_ret2
          exact ⟨rfl, iter_below _ _ _⟩
        · obtain ⟨hK3, hK4⟩ := hK1 rfl
          by_cases hv0 : v = 0
          · obtain ⟨rfl, rfl⟩ := hK3 hv0
            have hq : ((v : Int) == 0) = true := by simpa using hv0
            clear hK1 hK2 hK3 hK4 hv0
            go_wp2
            go_ret2
            exact ⟨rfl, iter_below _ _ _⟩
          · obtain ⟨rfl, rfl⟩ := hK4 (by omega)
            have hq : ((v : Int) == 0) = false := by simpa using hv0
            clear hK1 hK2 hK3 hK4 hv0
            go_wp2
            go_ret2
            exact ⟨rfl, iter_below _ _ _⟩
theorem integer_P (s : ByteArray) (w : World) (hs : s.size ≤ 4096) : Calls Tryz.prog 77 #[.string s] w fun r w' => r = .returned (.tuple #[(.int .i64 (valS s.data.toList)), .bool (isS s.data.toList)]) ∧ Below w.heap.size w w' := by
  have e := sgnL_pre s.data.toList
  have hl : (trimPrefix s.data.toList [45]).length ≤ s.size := by
    unfold trimPrefix
    split
    · rw [List.length_drop, size_list]; omega
    · rw [size_list]; exact Nat.le_refl _
  refine integer_walk s ⟨(trimPrefix s.data.toList [45]).toArray⟩ (hasPrefix s.data.toList [45]) (numL (trimPrefix s.data.toList [45])) _ _ w (by rw [← size_list]; simpa using Nat.le_trans hl hs) rfl rfl rfl (fun h => ?_) (fun k h => ⟨fun hm => ⟨fun h0 => ?_, fun h0 => ?_⟩, fun hm => ?_⟩)
  · rw [h] at e
    unfold valS isS
    rw [e]
    exact ⟨rfl, rfl⟩
  · rw [h, hm] at e
    simp only [if_true] at e
    rw [if_neg (by omega)] at e
    unfold valS isS
    rw [e]
    exact ⟨rfl, rfl⟩
  · rw [h, hm] at e
    simp only [if_true] at e
    rw [if_pos h0] at e
    unfold valS isS
    rw [e]
    exact ⟨rfl, rfl⟩
  · rw [h, hm] at e
    simp only [Bool.false_eq_true, if_false] at e
    unfold valS isS
    rw [e]
    exact ⟨rfl, rfl⟩
end Go.Proofs.YtdeapbihbhoefaaGreatDoor

/- The program's reader: word and integers. -/
namespace Go.Proofs.YtdeapbihbhoefaaGreatDoor
open Go.RowKit
open Go.Lib
open Calm (bcell Blk)
/-- words, in a slice outside a block. -/
def WC (w : World) (g : Nat) (A : Option Addr) (W : List (List UInt8)) : Prop :=
  0 < W.length → ∃ b off, A = some ⟨b, off, none⟩ ∧ b ≠ g ∧ b < w.heap.size ∧ ∀ k x, W[k]? = some x → w.cell? ⟨b, off + k, none⟩ = some (.string ⟨x.toArray⟩)
theorem WC.but {w w' : World} {g : Nat} {A : Option Addr} {W : List (List UInt8)} (h : WC w g A W) (hb : But g w w') : WC w' g A W := by
  intro h0
  obtain ⟨b, off, h1, h2, h3, h4⟩ := h h0
  exact ⟨b, off, h1, h2, Nat.lt_of_lt_of_le h3 hb.size, fun k x hk => (World.cell?_of_block (w := w) (a := ⟨b, off + k, none⟩) (hb.block b ⟨h3, h2⟩)).trans (h4 k x hk)⟩
theorem WC.tail {w : World} {g b off : Nat} {x : List UInt8} {W : List (List UInt8)} (h : WC w g (some ⟨b, off, none⟩) (x :: W)) : WC w g (some ⟨b, off + 1, none⟩) W := by
  intro _
  obtain ⟨b', off', h1, h2, h3, h4⟩ := h (by simp)
  cases h1
  exact ⟨b, off + 1, rfl, h2, h3, fun k y hk => by rw [Nat.add_assoc, Nat.add_comm 1 k]; exact h4 (k + 1) y (by simpa using hk)⟩
theorem WC.nil {w : World} {g : Nat} (A : Option Addr) : WC w g A [] := fun h => absurd h (by simp)
/-- a reader in its block: the words that are left, and whether one was wrong. -/
def RdS (g : Nat) (W : List (List UInt8)) (wr : Bool) (w : World) : Prop := ∃ A, Blk w g #[.slice A W.length W.length, .bool wr] ∧ WC w g A W
def WB (W : List (List UInt8)) : Prop := W.length ≤ 5000 ∧ ∀ x ∈ W, x.length ≤ 4096
theorem WB.tail {x : List UInt8} {W : List (List UInt8)} (h : WB (x :: W)) : WB W := ⟨by have := h.1; simp at this; omega, fun y hy => h.2 y (List.mem_cons_of_mem _ hy)⟩
theorem rd_put1 {g : Nat} {W : List (List UInt8)} {wr : Bool} {w : World} (h : RdS g W wr w) (v : Bool) : RdS g W v (w.setCell ⟨g, 1, none⟩ (.bool v)) := by
  obtain ⟨A, h1, h2⟩ := h
  exact ⟨A, by simpa using h1.set (i := 1) (by simp) (.bool v), h2.but (But.put w 1 _)⟩
set_option maxHeartbeats 4000000 in
set_option maxRecDepth 100000 in
theorem word_nil (g : Nat) (A : Option Addr) (wr : Bool) (m : List UInt8) (w : World) (hB : Blk w g #[.slice A 0 0, .bool wr]) :
    Calls Tryz.prog 41 #[.pointer (some ⟨g, 0, none⟩), .string ⟨m.toArray⟩] w fun r w' => r = .returned (.tuple #[]) ∧ w' = w.setCell ⟨g, 1, none⟩ (.bool true) := by
  obtain ⟨f0, f1, fl, ff⟩ := hB.o2
  clear hB
  go_enter Tryz.func41, Tryz.ntmps41
  go_wp2
  exact bodyPost_ret (v := .tuple #[]) (by simp [results, Tryz.results41, go_sem]) rfl ⟨rfl, rfl⟩
set_option maxHeartbeats 4000000 in
set_option maxRecDepth 100000 in
theorem word_no (g b off n : Nat) (wr : Bool) (m x : List UInt8) (w : World) (hB : Blk w g #[.slice (some ⟨b, off, none⟩) (n + 1) (n + 1), .bool wr]) (hc : w.cell? ⟨b, off, none⟩ = some (.string ⟨x.toArray⟩)) (hn : n ≤ 5000) (hx : ¬ x = m) :
    Calls Tryz.prog 41 #[.pointer (some ⟨g, 0, none⟩), .string ⟨m.toArray⟩] w fun r w' => r = .returned (.tuple #[]) ∧ w' = w.setCell ⟨g, 1, none⟩ (.bool true) := by
  obtain ⟨f0, f1, fl, ff⟩ := hB.o2
  have e1 : (x == m) = false := beq_eq_false_iff_ne.2 hx
  have e2 : ((n : Int) + 1 == 0) = false := beq_eq_false_iff_ne.2 (by omega)
  clear hB hx
  go_enter Tryz.func41, Tryz.ntmps41
  go_wp2
  exact bodyPost_ret (v := .tuple #[]) (by simp [results, Tryz.results41, go_sem]) rfl ⟨rfl, rfl⟩
set_option maxHeartbeats 4000000 in
set_option maxRecDepth 100000 in
theorem word_yes_0 (g b off : Nat) (wr : Bool) (m x : List UInt8) (w : World) (hB : Blk w g #[.slice (some ⟨b, off, none⟩) (0 + 1) (0 + 1), .bool wr]) (hc : w.cell? ⟨b, off, none⟩ = some (.string ⟨x.toArray⟩)) (hx : x = m) :
    Calls Tryz.prog 41 #[.pointer (some ⟨g, 0, none⟩), .string ⟨m.toArray⟩] w fun r w' => r = .returned (.tuple #[]) ∧ w' = w.setCell ⟨g, 0, none⟩ (.slice (some ⟨b, off, none⟩) 0 0) := by
  obtain ⟨f0, f1, fl, ff⟩ := hB.o2
  subst hx
  clear hB
  go_enter Tryz.func41, Tryz.ntmps41
  go_wp2
  exact bodyPost_end (v := .tuple #[]) (by simp [results, Tryz.results41, go_sem]) rfl ⟨rfl, rfl⟩
set_option maxHeartbeats 4000000 in
set_option maxRecDepth 100000 in
theorem word_yes_1 (g b off n : Nat) (wr : Bool) (m x : List UInt8) (w : World) (hB : Blk w g #[.slice (some ⟨b, off, none⟩) (n + 1 + 1) (n + 1 + 1), .bool wr]) (hc : w.cell? ⟨b, off, none⟩ = some (.string ⟨x.toArray⟩)) (hn : n ≤ 5000) (hx : x = m) :
    Calls Tryz.prog 41 #[.pointer (some ⟨g, 0, none⟩), .string ⟨m.toArray⟩] w fun r w' => r = .returned (.tuple #[]) ∧ w' = w.setCell ⟨g, 0, none⟩ (.slice (some ⟨b, off + 1, none⟩) (n + 1) (n + 1)) := by
  obtain ⟨f0, f1, fl, ff⟩ := hB.o2
  subst hx
  have e2 : ((n : Int) + 1 + 1 == 0) = false := beq_eq_false_iff_ne.2 (by omega)
  clear hB
  go_enter Tryz.func41, Tryz.ntmps41
  go_wp2
  exact bodyPost_end (v := .tuple #[]) (by simp [results, Tryz.results41, go_sem]) rfl ⟨rfl, rfl⟩
theorem word_any (g : Nat) (W : List (List UInt8)) (wr : Bool) (m : List UInt8) (w : World) (hB : WB W) (h : RdS g W wr w) :
    Calls Tryz.prog 41 #[.pointer (some ⟨g, 0, none⟩), .string ⟨m.toArray⟩] w fun r w' => r = .returned (.tuple #[]) ∧ RdS g (wordR m (W, wr)).1 (wordR m (W, wr)).2 w' ∧ But g w w' := by
  have h' := h
  obtain ⟨A, h1, h2⟩ := h
  cases W with
  | nil => exact (word_nil g A wr m w h1).mono fun r w' ⟨e1, e2⟩ => ⟨e1, by rw [e2]; exact rd_put1 h' true, by rw [e2]; exact But.put w 1 _⟩
  | cons x R =>
    obtain ⟨b, off, rfl, hne, hl, hc⟩ := h2 (by simp)
    have hc0 := hc 0 x rfl
    by_cases hx : x = m
    · have e : wordR m (x :: R, wr) = (R, wr) := by simp [wordR, hx]
      rw [e]
      cases R with
      | nil => exact (word_yes_0 g b off wr m x w h1 hc0 hx).mono fun r w' ⟨e1, e2⟩ => ⟨e1, by rw [e2]; exact ⟨_, by simpa using h1.set (i := 0) (by simp) (.slice (some ⟨b, off, none⟩) 0 0), WC.nil _⟩, by rw [e2]; exact But.put w 0 _⟩
      | cons y R => exact (word_yes_1 g b off R.length wr m x w h1 hc0 (by have := hB.1; simp at this; omega) hx).mono fun r w' ⟨e1, e2⟩ => ⟨e1, by rw [e2]; exact ⟨_, by simpa using h1.set (i := 0) (by simp) (.slice (some ⟨b, off + 1, none⟩) (R.length + 1) (R.length + 1)), h2.tail.but (But.put w 0 _)⟩, by rw [e2]; exact But.put w 0 _⟩
    · have e : wordR m (x :: R, wr) = (x :: R, true) := by simp [wordR, hx]
      rw [e]
      exact (word_no g b off R.length wr m x w h1 hc0 (by have := hB.1; simp at this; omega) hx).mono fun r w' ⟨e1, e2⟩ => ⟨e1, by rw [e2]; exact rd_put1 h' true, by rw [e2]; exact But.put w 1 _⟩
end Go.Proofs.YtdeapbihbhoefaaGreatDoor

/- Contract of Print: a guard's words, joined. -/
namespace Go.Proofs.YtdeapbihbhoefaaGreatDoor
open Calm (bcell Blk)
open Go.RowKit

/-- what the library's and the program's variables hold. -/
structure PTab (w : World) : Prop where
  lim : Lim w
  pow : Lib.TabIs Tryz.prog w "internal/strconv.uint64pow10" .u64 Lib.pow10Tab
theorem gPow : Tryz.prog.globalNamed "internal/strconv.uint64pow10" = some 1 := by kernel_rfl
theorem var_lt {P : Program} {w : World} {n : String} {g : Nat} {cs : Array Value} (hg : P.globalNamed n = some g) (h : w.var? P n = some cs) : g < w.heap.size := by
  unfold World.var? at h
  rw [hg] at h
  simp only [Option.bind_some] at h
  rcases Nat.lt_or_ge g w.heap.size with h1 | h1
  · exact h1
  · rw [Array.getElem?_eq_none h1] at h
    simp at h
theorem PTab.below {w w' : World} (h : PTab w) (hb : Below w.heap.size w w') : PTab w' := ⟨h.lim.below hb, var?_below hb gPow (var_lt gPow h.pow) h.pow⟩
theorem below_grow (w : World) (n : Nat) (os : Array Obj) : Below w.heap.size w (Go.Sort.grow (w.drewN n) os) := by
  have h := below_drewN (Below.refl w.heap.size w) n
  refine ⟨h.os, h.tape, h.output, ?_, fun k hk => ?_⟩
  · show _ ≤ ((w.drewN n).heap ++ os).size
    have := h.size
    rw [Array.size_append]; omega
  · have e : (Go.Sort.grow (w.drewN n) os).heap[k]? = ((w.drewN n).heap ++ os)[k]? := rfl
    rw [e, Array.getElem?_append_left (Nat.lt_of_lt_of_le hk h.size)]
    exact h.block k hk
/-- a text as a value. -/
def sv (l : List UInt8) : Value := .string ⟨l.toArray⟩
theorem itoa_any (n : Int) (w : World) (hT : PTab w) (h0 : -9223372036854775808 ≤ n) (h1 : n ≤ 9223372036854775807) :
    Calls Tryz.prog 36 #[(.int .i64 n)] w fun r w' => r = .returned (sv (Lib.itoa n)) ∧ Below w.heap.size w w' :=
  (Tryz.strconv_Itoa n h0 h1 w hT.pow).mono fun _ _ ⟨h, k, os, e⟩ => ⟨h, e ▸ below_grow w k os⟩
theorem Tryz.infoS : (Tryz.prog.info? 9).map (fun i => (i.zero, i.size, i.bytes)) = some (some (.string ⟨#[]⟩), 1, 16) := by kernel_rfl
/-- an integer that a register holds. -/
def inW (l : List Int) : Prop := ∀ k : Nat, -9223372036854775808 ≤ l.getD k 0 ∧ l.getD k 0 ≤ 9223372036854775807
def strK (l : List Int) (k : Nat) : List Value := (l.take k).map fun n => sv (Lib.itoa n)
theorem strK_len {l : List Int} {k : Nat} (hk : k ≤ l.length) : (strK l k).length = k := by simp [strK]; omega
theorem strK_succ {l : List Int} {k : Nat} (hk : k < l.length) : strK l (k + 1) = strK l k ++ [sv (Lib.itoa (l.getD k 0))] := by
  unfold strK
  rw [List.take_succ_eq_append_getElem hk, List.map_append, List.getD_eq_getElem?_getD, List.getElem?_eq_getElem hk]
  rfl

set_option maxRecDepth 100000 in
set_option maxHeartbeats 2000000 in
theorem mappedS_any (A : Option Addr) (l : List Int) (N c : Nat) (w : World) (hN : N = l.length) (hT : PTab w) (hC : Cells w A l) (hn : N ≤ 5000) (hb : inW l) :
    Calls Tryz.prog 37 #[.slice A N c, .func (.func 36) #[] #[]] w fun r w' =>
      (∃ v, r = .returned v ∧ w'.ownsRow w.heap.size 9 1 v N (l.map fun n => sv (Lib.itoa n))) ∧ Below w.heap.size w w' := by
  obtain ⟨i0, hii, hz0, hz1, hz2⟩ := info_parts Tryz.infoS
  have HC := Lib.hid hC
  have HT := Lib.hid hT
  have HN := Lib.hid hN
  have HW := Lib.hid hb
  have HL : Hid (∀ k, k ≤ N → (strK l k).length = k) := Lib.hid (fun k hk => strK_len (by rw [← hN]; exact hk))
  clear hN hC hT hb
  go_enter Tryz.func37, Tryz.ntmps37
  go_wp2
  go_loopw [5, 10] (fun v i wr => ∃ k : Nat, k ≤ N ∧ i = (.int .i64 ((k : Int))) ∧ wr.ownsRow w.heap.size 9 1 v (strK l k).length (strK l k) ∧ Below w.heap.size w wr) (fun _ i _ => N - (RowKit.intOf i).toNat)
  case atStart => exact ⟨0, Nat.zero_le _, rfl, World.ownsRow_nil _ _ _ _, Below.refl _ _⟩
  case round =>
    obtain ⟨k, hk, rfl, hown, hB⟩ := hrel
    have HO := Lib.hid hown
    have hle := Lib.hid (HL.out k hk)
    have hsz := hB.size
    have HB := Lib.hid hB
    clear hown
    by_cases hlt : k < N
    · obtain ⟨b, o, rfl, l1, k1⟩ := HC.out (by rw [← HN.out]; omega)
      have x1 := (hB.cell (p := ⟨b, o + k, none⟩) l1).trans (k1 k (by rw [← HN.out]; exact hlt))
      have HS := Lib.hid (strK_succ (l := l) (k := k) (by rw [← HN.out]; exact hlt))
      obtain ⟨w1, w2⟩ := HW.out k
      obtain ⟨x, hx⟩ : ∃ x, x = l.getD k 0 := ⟨_, rfl⟩
      rw [← hx] at x1 HS w1 w2
      unfold sv at HS
      obtain ⟨S, hS⟩ : ∃ S : ByteArray, S = ⟨(Lib.itoa x).toArray⟩ := ⟨_, rfl⟩
      have HIT : Hid (∀ W, PTab W → Calls Tryz.prog 36 #[(.int .i64 x)] W fun r w' => r = .returned (.string S) ∧ Below W.heap.size W w') := Lib.hid (fun W h => by rw [hS]; exact itoa_any x W h w1 w2)
      rw [← hS] at HS
      clear k1 hx hS hB
      go_wp2_with (first
        | (go_at_call 36; refine (HIT.out _ (HT.out.below HB.out)).mono ?_; rintro r w3 ⟨rfl, hb3⟩; have HB3 := Lib.hid (HB.out.trans (hb3.mono hsz)); have HO3 := Lib.hid (ownsRow_below HO.out hb3); have hs3 := hb3.size; clear hb3)
        | (at_builtin; refine wpList_append_own _ rfl _ _ 74 rfl w.heap.size 9 i0 (.string ⟨#[]⟩) 1 16 Tryz.underlying74 hii hz0 hz1 hz2 rfl (by decide) _ _ _ rfl (HO3.out.alloc _) ⟨w3.heap.size, 0, none⟩ 1 1 [.string S] rfl rfl ?c1 ?c2 ?c3 ?c4 ?c5 ?_))
      case c1 =>
        intro j u hj
        match j, hj with
        | 0, hj => simp at hj; subst hj; simp [Addr.add]
      case c2 => intro u hu; simp at hu; subst hu; rfl
      case c3 => have := hle.out; unfold maxLen; omega
      case c4 => have := hle.out; omega
      case c5 => simp; omega
      intro v' w4 hown' hgrow _
      have hB' : Below w.heap.size w w4 := (HB3.out.alloc HB3.out.size _).grown hgrow (by simp; omega) (fun j hj => (HO.out.lt j hj).1)
      have HO' := Lib.hid hown'
      have HB' := Lib.hid hB'
      clear hgrow hown' hB'
      go_wp2
      go_roundw
      case rel => exact ⟨k + 1, by omega, by go_num, by rw [HS.out]; simpa using HO'.out, HB'.out⟩
      case measure => simp [RowKit.intOf]; omega
    · obtain rfl : k = N := by omega
      have hown := HO.out
      have e : strK l k = l.map fun n => sv (Lib.itoa n) := by unfold strK; rw [HN.out, List.take_length]
      rw [hle.out, e] at hown
      have HR := Lib.hid hown
      clear hown e hB
      go_wp2
      go_ret
      exact ⟨⟨_, rfl, HR.out⟩, HB.out⟩
end Go.Proofs.YtdeapbihbhoefaaGreatDoor

/- Contract of Print: a guard's words, joined. -/
namespace Go.Proofs.YtdeapbihbhoefaaGreatDoor
open Go.RowKit
open Calm (bcell Blk)

theorem row_some {w : World} {base : Nat} {e : TypeId} {size : Nat} {v : Value} {n : Nat} {xs : List Value} (h : w.ownsRow base e size v n xs) (hn : 0 < n) : ∃ g c, v = .slice (some ⟨g, 0, none⟩) n c ∧ base ≤ g ∧ g < w.heap.size ∧ n ≤ c := by
  rcases h.2 with ⟨_, h1⟩ | ⟨g, cap, cur, rfl, h2, h3, h4, _⟩
  · omega
  · exact ⟨g, cap, rfl, h2, (Array.getElem?_eq_some_iff.1 h3).1, h4⟩
theorem name_list {P : Program} {ops : Array Oper} {Q : Exit → Act → World → Prop} {rest : List Oper} {a : Act} {W : World} (h : ∀ w2, w2 = W → wpList P ops Q rest a w2) : wpList P ops Q rest a W := h _ rfl
theorem name_calls {P : Program} {f : FuncId} {args : Array Value} {W : World} {R : Ending → World → Prop} (h : ∀ w2, w2 = W → Calls P f args w2 R) : Calls P f args W R := h _ rfl
def guardW : List UInt8 := [103, 117, 97, 114, 100]
def tapsW : List UInt8 := [116, 97, 112, 115]
def gainsW : List UInt8 := [103, 97, 105, 110, 115]
/-- the words of a guard's text. -/
def wordsG (lk ht rc : Int) (ts gs : List Int) : List (List UInt8) := [guardW, Lib.itoa lk, Lib.itoa ht, Lib.itoa rc, tapsW] ++ ts.map Lib.itoa ++ [gainsW] ++ gs.map Lib.itoa
def textG (lk ht rc : Int) (ts gs : List Int) : List UInt8 := Lib.join (wordsG lk ht rc ts gs) [32]
theorem inW_of {b : Int} {l : List Int} (h : inB b l) (h0 : 0 ≤ b) (hb : b ≤ 1000000000) : inW l := fun k => by have := inB_get h h0 k; omega
theorem lens_le {xs : List (List UInt8)} {n : Nat} (h : ∀ x ∈ xs, x.length ≤ n) : Lib.lens xs ≤ n * xs.length := by
  induction xs with
  | nil => simp [Lib.lens]
  | cons x xs ih =>
    have h1 := ih (fun y hy => h y (by simp [hy]))
    have h2 := h x (by simp)
    have e : Lib.lens (x :: xs) = x.length + Lib.lens xs := by simp [Lib.lens]
    rw [e, List.length_cons, Nat.mul_add]
    omega
theorem textG_len {lk ht rc : Int} {ts gs : List Int} (h1 : inW ts) (h2 : inW gs) (h3 : inW [lk, ht, rc]) (h4 : ts.length ≤ 1000) (h5 : gs.length ≤ 1000) : (textG lk ht rc ts gs).length ≤ 1000000 := by
  have e : textG lk ht rc ts gs = Lib.join (guardW :: ([Lib.itoa lk, Lib.itoa ht, Lib.itoa rc, tapsW] ++ ts.map Lib.itoa ++ [gainsW] ++ gs.map Lib.itoa)) [32] := rfl
  rw [e, Lib.join_length]
  have hw : ∀ x ∈ wordsG lk ht rc ts gs, x.length ≤ 21 := by
    have hi : ∀ (l : List Int), inW l → ∀ x ∈ l.map Lib.itoa, x.length ≤ 21 := by
      intro l hl x hx
      obtain ⟨n, hn, rfl⟩ := List.mem_map.1 hx
      obtain ⟨k, hk, rfl⟩ := List.mem_iff_getElem.1 hn
      have := hl k
      rw [List.getD_eq_getElem?_getD, List.getElem?_eq_getElem hk] at this
      exact Lib.itoa_length_le _ this.1 this.2
    have h3' := hi _ h3
    intro x hx
    unfold wordsG at hx
    simp only [List.mem_append, List.mem_cons, List.not_mem_nil, or_false] at hx
    rcases hx with (((rfl | rfl | rfl | rfl | rfl) | hx) | rfl) | hx
    · decide
    · exact h3' _ (by simp)
    · exact h3' _ (by simp)
    · exact h3' _ (by simp)
    · decide
    · exact hi _ h1 x hx
    · decide
    · exact hi _ h2 x hx
  have := lens_le hw
  have e2 : (wordsG lk ht rc ts gs).length = 6 + ts.length + gs.length := by unfold wordsG; simp; omega
  rw [e2] at this
  have e3 : wordsG lk ht rc ts gs = guardW :: ([Lib.itoa lk, Lib.itoa ht, Lib.itoa rc, tapsW] ++ ts.map Lib.itoa ++ [gainsW] ++ gs.map Lib.itoa) := rfl
  rw [e3] at this
  simp at this ⊢
  omega
theorem Print_bad (lk ht rc : Int) (ts gs : List Int) (A1 A2 : Option Addr) (M L c1 c2 : Nat) (w : World) (hM : M = ts.length) (hL : L = gs.length) (hT : Cells w A1 ts) (hG : Cells w A2 gs) (h1 : M ≤ 1000) (h2 : L ≤ 1000) (he : guardErr lk ht rc ts gs ≠ 0) :
    Calls Tryz.prog 7 #[.agg #[(.int .i64 lk), (.int .i64 ht), .slice A1 M c1, (.int .i64 rc), .slice A2 L c2]] w fun r w' => r = .returned (.tuple #[.string ⟨#[]⟩, (.int .i64 (guardErr lk ht rc ts gs))]) ∧ Below w.heap.size w w' := by
  have HCG : Hid (∀ W, Cells W A1 ts → Cells W A2 gs → Calls Tryz.prog 35 #[.agg #[(.int .i64 lk), (.int .i64 ht), .slice A1 M c1, (.int .i64 rc), .slice A2 L c2]] W fun r w' => r = .returned (.int .i64 (guardErr lk ht rc ts gs)) ∧ Below W.heap.size W w') := Lib.hid (fun W q1 q2 => by rw [hM, hL]; exact checkGuard_any lk ht rc ts gs A1 A2 c1 c2 W q1 q2 (by omega) (by omega))
  have HT := Lib.hid hT
  have HG := Lib.hid hG
  obtain ⟨E, hE⟩ : ∃ E, E = guardErr lk ht rc ts gs := ⟨_, rfl⟩
  rw [← hE] at HCG he ⊢
  clear hM hL hT hG hE
  go_enter Tryz.func7, Tryz.ntmps7
  go_wp2_with (go_at_call 35; refine (HCG.out _ (HT.out.below (by (repeat (first | (with_reducible exact Below.refl _ _) | ((with_reducible refine Below.setCell ?_ ?_ _); rotate_left 1; focus (first | (simp; done) | (simp; omega) | (simp at *; omega))) | ((with_reducible refine Below.alloc ?_ ?_ _); rotate_left 1; focus (first | (simp; done) | (simp; omega) | (simp at *; omega))) | (with_reducible refine Below.drew ?_) | ((with_reducible refine Calm.step (by assumption) ?_ ?_); rotate_left 1; focus (first | (simp; done) | (simp; omega) | (simp at *; omega))))))) (HG.out.below (by (repeat (first | (with_reducible exact Below.refl _ _) | ((with_reducible refine Below.setCell ?_ ?_ _); rotate_left 1; focus (first | (simp; done) | (simp; omega) | (simp at *; omega))) | ((with_reducible refine Below.alloc ?_ ?_ _); rotate_left 1; focus (first | (simp; done) | (simp; omega) | (simp at *; omega))) | (with_reducible refine Below.drew ?_) | ((with_reducible refine Calm.step (by assumption) ?_ ?_); rotate_left 1; focus (first | (simp; done) | (simp; omega) | (simp at *; omega)))))))).mono ?_; rintro r w1 ⟨rfl, hb1⟩; have HB1 := Lib.hid (show Below w.heap.size w w1 from Below.trans (by (repeat (first | (with_reducible exact Below.refl _ _) | ((with_reducible refine Below.setCell ?_ ?_ _); rotate_left 1; focus (first | (simp; done) | (simp; omega) | (simp at *; omega))) | ((with_reducible refine Below.alloc ?_ ?_ _); rotate_left 1; focus (first | (simp; done) | (simp; omega) | (simp at *; omega))) | (with_reducible refine Below.drew ?_) | ((with_reducible refine Calm.step (by assumption) ?_ ?_); rotate_left 1; focus (first | (simp; done) | (simp; omega) | (simp at *; omega)))))) (hb1.mono (by simp; try omega))); clear hb1)
  go_ret2
  exact ⟨rfl, HB1.out⟩

set_option maxRecDepth 100000 in
set_option maxHeartbeats 2000000 in
theorem Print_ok (lk ht rc : Int) (ts gs : List Int) (A1 A2 : Option Addr) (M L c1 c2 : Nat) (w : World) (hM : M = ts.length) (hL : L = gs.length) (hTab : PTab w) (hT : Cells w A1 ts) (hG : Cells w A2 gs) (h1 : M ≤ 1000) (h2 : L ≤ 1000) (he : guardErr lk ht rc ts gs = 0) :
    Calls Tryz.prog 7 #[.agg #[(.int .i64 lk), (.int .i64 ht), .slice A1 M c1, (.int .i64 rc), .slice A2 L c2]] w fun r w' => r = .returned (.tuple #[.string ⟨(textG lk ht rc ts gs).toArray⟩, (.int .i64 0)]) ∧ Below w.heap.size w w' := by
  obtain ⟨i0, hii, hz0, hz1, hz2⟩ := info_parts Tryz.infoS
  have hV := guard_valid he
  have vlk := hV.lk
  have vht := hV.ht
  have vrc := hV.rc
  have vts := hV.tl
  have vgs := hV.gl
  have hWT := inW_of hV.tb (by omega) (by omega)
  have hWG : inW gs := fun k => by have := hV.gb k; omega
  have hW3 : inW [lk, ht, rc] := fun k => by
    match k with
    | 0 => simp; omega
    | 1 => simp; omega
    | 2 => simp; omega
    | k + 3 => simp
  have HLEN := Lib.hid (textG_len hWT hWG hW3 (by omega) (by omega))
  have HCG : Hid (∀ W, Cells W A1 ts → Cells W A2 gs → Calls Tryz.prog 35 #[.agg #[(.int .i64 lk), (.int .i64 ht), .slice A1 M c1, (.int .i64 rc), .slice A2 L c2]] W fun r w' => r = .returned (.int .i64 0) ∧ Below W.heap.size W w') := Lib.hid (fun W q1 q2 => by
    have := checkGuard_any lk ht rc ts gs A1 A2 c1 c2 W q1 q2 (by omega) (by omega)
    rwa [← hM, ← hL, he] at this)
  have HM1 : Hid (∀ W, PTab W → Cells W A1 ts → Calls Tryz.prog 37 #[.slice A1 M c1, .func (.func 36) #[] #[]] W fun r w' => (∃ v, r = .returned v ∧ w'.ownsRow W.heap.size 9 1 v M (ts.map fun n => sv (Lib.itoa n))) ∧ Below W.heap.size W w') := Lib.hid (fun W q1 q2 => mappedS_any A1 ts M c1 W hM q1 q2 (by omega) hWT)
  have HM2 : Hid (∀ W, PTab W → Cells W A2 gs → Calls Tryz.prog 37 #[.slice A2 L c2, .func (.func 36) #[] #[]] W fun r w' => (∃ v, r = .returned v ∧ w'.ownsRow W.heap.size 9 1 v L (gs.map fun n => sv (Lib.itoa n))) ∧ Below W.heap.size W w') := Lib.hid (fun W q1 q2 => mappedS_any A2 gs L c2 W hL q1 q2 (by omega) hWG)
  obtain ⟨S1, hS1⟩ : ∃ S : ByteArray, S = ⟨(Lib.itoa lk).toArray⟩ := ⟨_, rfl⟩
  obtain ⟨S2, hS2⟩ : ∃ S : ByteArray, S = ⟨(Lib.itoa ht).toArray⟩ := ⟨_, rfl⟩
  obtain ⟨S3, hS3⟩ : ∃ S : ByteArray, S = ⟨(Lib.itoa rc).toArray⟩ := ⟨_, rfl⟩
  have HI1 : Hid (∀ W, PTab W → Calls Tryz.prog 36 #[(.int .i64 lk)] W fun r w' => r = .returned (.string S1) ∧ Below W.heap.size W w') := Lib.hid (fun W q => by rw [hS1]; exact itoa_any lk W q (by omega) (by omega))
  have HI2 : Hid (∀ W, PTab W → Calls Tryz.prog 36 #[(.int .i64 ht)] W fun r w' => r = .returned (.string S2) ∧ Below W.heap.size W w') := Lib.hid (fun W q => by rw [hS2]; exact itoa_any ht W q (by omega) (by omega))
  have HI3 : Hid (∀ W, PTab W → Calls Tryz.prog 36 #[(.int .i64 rc)] W fun r w' => r = .returned (.string S3) ∧ Below W.heap.size W w') := Lib.hid (fun W q => by rw [hS3]; exact itoa_any rc W q (by omega) (by omega))
  have HE1 := Lib.hid hS1
  have HE2 := Lib.hid hS2
  have HE3 := Lib.hid hS3
  have HM := Lib.hid hM
  have HL := Lib.hid hL
  have HT := Lib.hid hT
  have HG := Lib.hid hG
  have HTab := Lib.hid hTab
  have hM1 : 1 ≤ M := by omega
  have hL1 : 1 ≤ L := by omega
  clear hS1 hS2 hS3 hM hL hT hG hTab he hV vlk vht vrc vts vgs hWT hWG hW3
  go_enter Tryz.func7, Tryz.ntmps7
  go_wp2_with (go_at_call 35; refine (HCG.out _ (HT.out.below (by (repeat (first | (with_reducible exact Below.refl _ _) | ((with_reducible refine Below.setCell ?_ ?_ _); rotate_left 1; focus (first | (simp; done) | (simp; omega) | (simp at *; omega))) | ((with_reducible refine Below.alloc ?_ ?_ _); rotate_left 1; focus (first | (simp; done) | (simp; omega) | (simp at *; omega))) | (with_reducible refine Below.drew ?_) | ((with_reducible refine Calm.step (by assumption) ?_ ?_); rotate_left 1; focus (first | (simp; done) | (simp; omega) | (simp at *; omega))))))) (HG.out.below (by (repeat (first | (with_reducible exact Below.refl _ _) | ((with_reducible refine Below.setCell ?_ ?_ _); rotate_left 1; focus (first | (simp; done) | (simp; omega) | (simp at *; omega))) | ((with_reducible refine Below.alloc ?_ ?_ _); rotate_left 1; focus (first | (simp; done) | (simp; omega) | (simp at *; omega))) | (with_reducible refine Below.drew ?_) | ((with_reducible refine Calm.step (by assumption) ?_ ?_); rotate_left 1; focus (first | (simp; done) | (simp; omega) | (simp at *; omega)))))))).mono ?_; rintro r w1 ⟨rfl, hb1⟩; have HB1 := Lib.hid (show Below w.heap.size w w1 from Below.trans (by (repeat (first | (with_reducible exact Below.refl _ _) | ((with_reducible refine Below.setCell ?_ ?_ _); rotate_left 1; focus (first | (simp; done) | (simp; omega) | (simp at *; omega))) | ((with_reducible refine Below.alloc ?_ ?_ _); rotate_left 1; focus (first | (simp; done) | (simp; omega) | (simp at *; omega))) | (with_reducible refine Below.drew ?_) | ((with_reducible refine Calm.step (by assumption) ?_ ?_); rotate_left 1; focus (first | (simp; done) | (simp; omega) | (simp at *; omega)))))) (hb1.mono (by simp; try omega))); have G1 := Lib.hid (show Blk w1 w.heap.size #[(.int .i64 lk), (.int .i64 ht), .slice A1 M c1, (.int .i64 rc), .slice A2 L c2] from Blk.below (by (repeat (first | ((with_reducible refine Blk.at_ ?_); focus (first | rfl | (simp; done) | (simp; omega))) | (with_reducible refine Blk.alloc ?_ _) | (with_reducible refine Blk.below ?_ (by with_reducible assumption)) | (with_reducible refine Blk.drew ?_)))) hb1); obtain ⟨g0, g1, g2, g3, g4, gl, gf⟩ := G1.out.o5; clear hb1)
  refine Rel.region3 9 (by kernel_rfl) (by kernel_rfl) (by kernel_rfl) ?_
  simp only [List.take_succ_cons, List.take_zero, List.drop_succ_cons, List.drop_zero, List.filterMap_cons, List.filterMap_nil]
  iterate 2 (apply Rel.op3; (focus (first | exact Rel.gno rfl | exact Rel.gyes _ true _ rfl rfl rfl | exact Rel.gyes _ false _ rfl rfl rfl)); (focus (intro a W hb hd hbase; obtain ⟨hc, hf⟩ := bcell hb; clear hb hf; simp [Rel.deps, Rel.dep1, Rel.ons, Region.binds, Act.eval] at hd; simp only [Act.eval, List.mem_cons, List.not_mem_nil, not_or, and_imp, or_false, Array.getD_eq_getD_getElem?] at hbase; go_simp; (try go_bits); (try rfl); done)); (try simp only [List.nil_append, List.cons_append]))
  (apply Rel.call3; (focus (first | exact Rel.gno rfl | exact Rel.gyes _ true _ rfl rfl rfl | exact Rel.gyes _ false _ rfl rfl rfl)); (focus (intro a W hb hd hbase; obtain ⟨hc, hf⟩ := bcell hb; clear hb hf; simp [Rel.deps, Rel.dep1, Rel.ons, Region.binds, Act.eval] at hd; simp only [Act.eval, List.mem_cons, List.not_mem_nil, not_or, and_imp, or_false, Array.getD_eq_getD_getElem?] at hbase; go_simp; refine ⟨?_, ?_⟩; rfl; rfl)); (focus (intro W hb; go_at_call 36; exact HI1.out _ (HTab.out.below (HB1.out.trans (hb.mono HB1.out.size))))); (try simp only [List.nil_append, List.cons_append]))
  iterate 2 (apply Rel.op3; (focus (first | exact Rel.gno rfl | exact Rel.gyes _ true _ rfl rfl rfl | exact Rel.gyes _ false _ rfl rfl rfl)); (focus (intro a W hb hd hbase; obtain ⟨hc, hf⟩ := bcell hb; clear hb hf; simp [Rel.deps, Rel.dep1, Rel.ons, Region.binds, Act.eval] at hd; simp only [Act.eval, List.mem_cons, List.not_mem_nil, not_or, and_imp, or_false, Array.getD_eq_getD_getElem?] at hbase; go_simp; (try go_bits); (try rfl); done)); (try simp only [List.nil_append, List.cons_append]))
  (apply Rel.call3; (focus (first | exact Rel.gno rfl | exact Rel.gyes _ true _ rfl rfl rfl | exact Rel.gyes _ false _ rfl rfl rfl)); (focus (intro a W hb hd hbase; obtain ⟨hc, hf⟩ := bcell hb; clear hb hf; simp [Rel.deps, Rel.dep1, Rel.ons, Region.binds, Act.eval] at hd; simp only [Act.eval, List.mem_cons, List.not_mem_nil, not_or, and_imp, or_false, Array.getD_eq_getD_getElem?] at hbase; go_simp; refine ⟨?_, ?_⟩; rfl; rfl)); (focus (intro W hb; go_at_call 36; exact HI2.out _ (HTab.out.below (HB1.out.trans (hb.mono HB1.out.size))))); (try simp only [List.nil_append, List.cons_append]))
  iterate 2 (apply Rel.op3; (focus (first | exact Rel.gno rfl | exact Rel.gyes _ true _ rfl rfl rfl | exact Rel.gyes _ false _ rfl rfl rfl)); (focus (intro a W hb hd hbase; obtain ⟨hc, hf⟩ := bcell hb; clear hb hf; simp [Rel.deps, Rel.dep1, Rel.ons, Region.binds, Act.eval] at hd; simp only [Act.eval, List.mem_cons, List.not_mem_nil, not_or, and_imp, or_false, Array.getD_eq_getD_getElem?] at hbase; go_simp; (try go_bits); (try rfl); done)); (try simp only [List.nil_append, List.cons_append]))
  (apply Rel.call3; (focus (first | exact Rel.gno rfl | exact Rel.gyes _ true _ rfl rfl rfl | exact Rel.gyes _ false _ rfl rfl rfl)); (focus (intro a W hb hd hbase; obtain ⟨hc, hf⟩ := bcell hb; clear hb hf; simp [Rel.deps, Rel.dep1, Rel.ons, Region.binds, Act.eval] at hd; simp only [Act.eval, List.mem_cons, List.not_mem_nil, not_or, and_imp, or_false, Array.getD_eq_getD_getElem?] at hbase; go_simp; refine ⟨?_, ?_⟩; rfl; rfl)); (focus (intro W hb; go_at_call 36; exact HI3.out _ (HTab.out.below (HB1.out.trans (hb.mono HB1.out.size))))); (try simp only [List.nil_append, List.cons_append]))
  refine Rel.done3 ?_
  intro x w2 hb2 hx
  simp only [Rel.facts, Nat.zero_add, Nat.reduceAdd] at hx
  obtain ⟨e0, e1, e2, e3, e4, e5, e6, e7, e8, _⟩ := hx
  simp only [Rel.fill, Nat.zero_add, Nat.reduceAdd, e0, e1, e2, e3, e4, e5, e6, e7, e8]
  simp only [Act.put, List.setIfInBounds_toArray, List.set_cons_zero, List.set_cons_succ]
  clear e0 e1 e2 e3 e4 e5 e6 e7 e8
  have HB2 := Lib.hid (HB1.out.trans (hb2.mono HB1.out.size))
  have G2 := Lib.hid (G1.out.below hb2)
  clear hb2 g0 g1 g2 g3 g4 gl gf
  obtain ⟨g0, g1, g2, g3, g4, gl, gf⟩ := G2.out.o5
  have hg2 := G2.out.lt
  go_wp2_with (go_at_call 37; refine name_calls ?_; intro w3 e3; refine Hid.out ?_)
  unfold Hid
  have hO3 : w3.ownsRow (w.heap.size + 1) 9 1 (.slice (some ⟨w2.heap.size, 0, none⟩) 5 5) 5 (#[.string ⟨#[103, 117, 97, 114, 100]⟩, .string S1, .string S2, .string S3, .string ⟨#[116, 97, 112, 115]⟩] : Array Value).toList := by rw [e3]; exact World.ownsRow_lit w2 _ 5 (by omega) (by decide) rfl
  have HO3 := Lib.hid hO3
  have HB3 := Lib.hid (show Below w.heap.size w w3 by rw [e3]; exact HB2.out.alloc HB2.out.size _)
  have G3 := Lib.hid (show Blk w3 w.heap.size #[(.int .i64 lk), (.int .i64 ht), .slice A1 M c1, (.int .i64 rc), .slice A2 L c2] by rw [e3]; exact G2.out.alloc _)
  clear e3 hO3 g0 g1 g2 g3 g4 gl gf
  refine (HM1.out _ (HTab.out.below HB3.out) (HT.out.below HB3.out)).mono ?_
  rintro r w4 ⟨⟨v1, rfl, ho1⟩, hb4⟩
  obtain ⟨r1, d1, rfl, hr1, hr1l, hd1⟩ := row_some ho1 hM1
  have HO1 := Lib.hid ho1
  have HO4 := Lib.hid (ownsRow_below HO3.out hb4)
  have HB4 := Lib.hid (HB3.out.trans (hb4.mono HB3.out.size))
  have G4 := Lib.hid (G3.out.below hb4)
  have hs4 := HB4.out.size
  have hs3 := G4.out.lt
  clear ho1 hb4
  go_wp2_with (at_builtin; refine wpList_append_own _ rfl _ _ 74 rfl (w.heap.size + 1) 9 i0 (.string ⟨#[]⟩) 1 16 Tryz.underlying74 hii hz0 hz1 hz2 rfl (by decide) _ _ _ rfl HO4.out ⟨r1, 0, none⟩ M d1 (ts.map fun n => sv (Lib.itoa n)) rfl ?c0 ?c1 ?c2 ?c3 ?c4 ?c5 ?_)
  case c0 => simp [HM.out]
  case c1 => exact fun j u hj => HO1.out.cells rfl j u hj
  case c2 => intro u hu; obtain ⟨_, _, rfl⟩ := List.mem_map.1 hu; rfl
  case c3 => unfold maxLen; omega
  case c4 => omega
  case c5 => omega
  intro v5 w5 hO5 hg5 _
  have hrow5 : ∀ j, Value.ownBlock _ = some j → w.heap.size + 1 ≤ j ∧ j < w4.heap.size := HO4.out.lt
  have HO5 := Lib.hid hO5
  have G5 := Lib.hid (grown_blk G4.out hg5 (fun j hj => by have := hrow5 j hj; omega))
  have HB5 := Lib.hid (HB4.out.grown hg5 hs4 (fun j hj => by have := hrow5 j hj; omega))
  have hs5 := G5.out.lt
  clear hO5 hg5 hrow5
  obtain ⟨g0, g1, g2, g3, g4, gl, gf⟩ := G5.out.o5
  go_wp2_with (at_builtin; refine name_list ?_; intro w6 e6; refine Hid.out ?_)
  unfold Hid
  have HB6 := Lib.hid (show Below w.heap.size w w6 by rw [e6]; exact HB5.out.alloc HB5.out.size _)
  have HO6 := Lib.hid (show w6.ownsRow (w.heap.size + 1) 9 1 v5 (5 + M) ((#[.string ⟨#[103, 117, 97, 114, 100]⟩, .string S1, .string S2, .string S3, .string ⟨#[116, 97, 112, 115]⟩] : Array Value).toList ++ ts.map fun n => sv (Lib.itoa n)) by rw [e6]; exact HO5.out.alloc _)
  have G6 := Lib.hid (show Blk w6 w.heap.size #[(.int .i64 lk), (.int .i64 ht), .slice A1 M c1, (.int .i64 rc), .slice A2 L c2] by rw [e6]; exact G5.out.alloc _)
  have HN6 := Lib.hid (show Blk w6 w5.heap.size #[.string ⟨#[103, 97, 105, 110, 115]⟩] by rw [e6]; exact Calm.Blk.new _ _ _)
  clear e6 g0 g1 g2 g3 g4 gl gf
  have hs6 := HB6.out.size
  have hs6g := G6.out.lt
  refine wpList_append_own _ rfl _ _ 74 rfl (w.heap.size + 1) 9 i0 (.string ⟨#[]⟩) 1 16 Tryz.underlying74 hii hz0 hz1 hz2 rfl (by decide) _ _ _ rfl HO6.out ⟨w5.heap.size, 0, none⟩ 1 1 [.string ⟨#[103, 97, 105, 110, 115]⟩] rfl rfl ?d1 ?d2 ?d3 ?d4 ?d5 ?_
  case d1 =>
    intro j u hj
    match j, hj with
    | 0, hj => simp at hj; subst hj; simpa [Addr.add] using HN6.out.c 0
  case d2 => intro u hu; simp at hu; subst hu; rfl
  case d3 => unfold maxLen; omega
  case d4 => omega
  case d5 => omega
  intro v7 w7 hO7 hg7 _
  have hrow7 : ∀ j, Value.ownBlock _ = some j → w.heap.size + 1 ≤ j ∧ j < w6.heap.size := HO6.out.lt
  have HO7 := Lib.hid hO7
  have G7 := Lib.hid (grown_blk G6.out hg7 (fun j hj => by have := hrow7 j hj; omega))
  have HB7 := Lib.hid (HB6.out.grown hg7 hs6 (fun j hj => by have := hrow7 j hj; omega))
  have hs7 := G7.out.lt
  clear hO7 hg7 hrow7 HN6
  obtain ⟨g0, g1, g2, g3, g4, gl, gf⟩ := G7.out.o5
  go_wp2_with (go_at_call 37; refine (HM2.out _ (HTab.out.below HB7.out) (HG.out.below HB7.out)).mono ?_; rintro r w8 ⟨⟨v8, rfl, ho8⟩, hb8⟩; refine Hid.out ?_)
  unfold Hid
  obtain ⟨r8, d8, rfl, hr8, hr8l, hd8⟩ := row_some ho8 hL1
  have HO8 := Lib.hid ho8
  have HP8 := Lib.hid (ownsRow_below HO7.out hb8)
  have HB8 := Lib.hid (HB7.out.trans (hb8.mono HB7.out.size))
  have hs8 := HB8.out.size
  have hs8g := (G7.out.below hb8).lt
  clear ho8 hb8 g0 g1 g2 g3 g4 gl gf
  go_wp2_with (at_builtin; refine wpList_append_own _ rfl _ _ 74 rfl (w.heap.size + 1) 9 i0 (.string ⟨#[]⟩) 1 16 Tryz.underlying74 hii hz0 hz1 hz2 rfl (by decide) _ _ _ rfl HP8.out ⟨r8, 0, none⟩ L d8 (gs.map fun n => sv (Lib.itoa n)) rfl ?e0 ?e1 ?e2 ?e3 ?e4 ?e5 ?_)
  case e0 => simp [HL.out]
  case e1 => exact fun j u hj => HO8.out.cells rfl j u hj
  case e2 => intro u hu; obtain ⟨_, _, rfl⟩ := List.mem_map.1 hu; rfl
  case e3 => unfold maxLen; omega
  case e4 => omega
  case e5 => omega
  intro v9 w9 hO9 hg9 _
  have hrow9 : ∀ j, Value.ownBlock _ = some j → w.heap.size + 1 ≤ j ∧ j < w8.heap.size := HP8.out.lt
  have HB9 := Lib.hid (HB8.out.grown hg9 hs8 (fun j hj => by have := hrow9 j hj; omega))
  have hall : (#[.string ⟨#[103, 117, 97, 114, 100]⟩, .string S1, .string S2, .string S3, .string ⟨#[116, 97, 112, 115]⟩] : Array Value).toList ++ (ts.map fun n => sv (Lib.itoa n)) ++ [.string ⟨#[103, 97, 105, 110, 115]⟩] ++ (gs.map fun n => sv (Lib.itoa n)) = ((wordsG lk ht rc ts gs).map fun l => (⟨l.toArray⟩ : ByteArray)).map Value.string := by
    rw [HE1.out, HE2.out, HE3.out]
    unfold wordsG guardW tapsW gainsW sv
    simp [Function.comp_def]
  have hO9 : w9.ownsRow (w.heap.size + 1) 9 1 v9 (5 + M + 1 + L) (((wordsG lk ht rc ts gs).map fun l => (⟨l.toArray⟩ : ByteArray)).map Value.string) := by rw [← hall]; simpa using hO9
  obtain ⟨r9, d9, rfl, hr9, hr9l, hd9⟩ := row_some hO9 (by omega)
  have hwl : ((wordsG lk ht rc ts gs).map fun l => (⟨l.toArray⟩ : ByteArray)).length = 5 + M + 1 + L := by
    unfold wordsG
    have h1 := HM.out
    have h2 := HL.out
    simp
    omega
  have hmm : (((wordsG lk ht rc ts gs).map fun l => (⟨l.toArray⟩ : ByteArray)).map (·.data.toList)) = wordsG lk ht rc ts gs := by
    rw [List.map_map]
    conv => rhs; rw [← List.map_id (wordsG lk ht rc ts gs)]
    exact List.map_congr_left (fun l _ => by simp)
  have HJ : Hid (Calls Tryz.prog 38 #[.slice (some ⟨r9, 0, none⟩) (5 + M + 1 + L) d9, .string ⟨#[32]⟩] w9 fun e w' => e = .returned (.string ⟨(textG lk ht rc ts gs).toArray⟩) ∧ Below w9.heap.size w9 w') := Lib.hid (by
    have := Tryz.strings_Join r9 0 d9 ((wordsG lk ht rc ts gs).map fun l => (⟨l.toArray⟩ : ByteArray)) ⟨#[32]⟩ w9 (fun j x hj => by
      have := hO9.cells rfl j (.string x) (by rw [List.getElem?_map, hj]; rfl)
      rw [Nat.zero_add]
      have e : (⟨r9, 0, none⟩ : Addr).add j = ⟨r9, j, none⟩ := by unfold Addr.add; split <;> simp_all
      rwa [e] at this) hr9l (by omega) (by omega) (by rw [hmm]; show (textG lk ht rc ts gs).length ≤ _; have := HLEN.out; omega)
    rw [hwl, hmm] at this
    exact this)
  have hs9 := HB9.out.size
  clear hO9 hg9 hrow9 hall hwl hmm
  go_wp2_with (go_at_call 38; refine HJ.out.mono ?_; rintro r w10 ⟨rfl, hb10⟩; refine Hid.out ?_)
  unfold Hid
  have HB10 := Lib.hid (HB9.out.trans (hb10.mono hs9))
  clear hb10
  obtain ⟨T, hT⟩ : ∃ T, T = textG lk ht rc ts gs := ⟨_, rfl⟩
  rw [← hT]
  have HTT := Lib.hid hT
  clear hT HJ HLEN
  go_wp2
  go_ret2
  have e := HTT.out
  subst e
  exact ⟨rfl, HB10.out⟩
end Go.Proofs.YtdeapbihbhoefaaGreatDoor

/- What is known of a value: guards, states, slices of integers, tuples; stable where nothing old turns. Steps of a region by it. -/
namespace Go.Proofs.YtdeapbihbhoefaaGreatDoor
open Go.RowKit
open Calm (bcell Blk)
open Rel (Know Stable)

/-- this value. -/
def KV (v : Value) : Know := fun u _ => u = v
theorem KV.st (v : Value) : Stable (KV v) := fun _ _ _ h _ => h
/-- a slice of n integers. -/
def KS (n : Nat) (l : List Int) : Know := fun u W => ∃ B c, u = .slice B n c ∧ Cells W B l
theorem KS.st (n : Nat) (l : List Int) : Stable (KS n l) := fun _ _ _ ⟨B, c, h1, h2⟩ hb => ⟨B, c, h1, h2.below hb⟩
/-- a guard. -/
def KG (lk ht rc : Int) (M : Nat) (ts : List Int) (L : Nat) (gs : List Int) : Know := fun u W => ∃ A1 c1 A2 c2, u = .agg #[(.int .i64 lk), (.int .i64 ht), .slice A1 M c1, (.int .i64 rc), .slice A2 L c2] ∧ Cells W A1 ts ∧ Cells W A2 gs
theorem KG.st (lk ht rc : Int) (M : Nat) (ts : List Int) (L : Nat) (gs : List Int) : Stable (KG lk ht rc M ts L gs) := fun _ _ _ ⟨A1, c1, A2, c2, h1, h2, h3⟩ hb => ⟨A1, c1, A2, c2, h1, h2.below hb, h3.below hb⟩
/-- a state. -/
def KT (h lv : Int) (n : Nat) (l : List Int) : Know := fun u W => ∃ B c, u = .agg #[(.int .i64 h), (.int .i64 lv), .slice B n c] ∧ Cells W B l
theorem KT.st (h lv : Int) (n : Nat) (l : List Int) : Stable (KT h lv n l) := fun _ _ _ ⟨B, c, h1, h2⟩ hb => ⟨B, c, h1, h2.below hb⟩
/-- a state whose last outputs lie in a row of integers. -/
def KTI (h lv : Int) (n : Nat) (l : List Int) : Know := fun u W => ∃ B c, u = .agg #[(.int .i64 h), (.int .i64 lv), .slice B n c] ∧ Cells W B l ∧ ∀ p, B = some p → IntRow W p
theorem KTI.st (h lv : Int) (n : Nat) (l : List Int) : Stable (KTI h lv n l) := fun _ _ _ ⟨B, c, h1, h2, h3⟩ hb => ⟨B, c, h1, h2.below hb, fun p hp => (h3 p hp).below hb⟩
theorem KTI.kt {h lv : Int} {n : Nat} {l : List Int} {u : Value} {W : World} (h1 : KTI h lv n l u W) : KT h lv n l u W := by
  obtain ⟨B, c, h1, h2, _⟩ := h1
  exact ⟨B, c, h1, h2⟩
theorem KTI.zero (W : World) : KTI 0 0 0 [] (.agg #[(.int .i64 0), (.int .i64 0), .slice none 0 0]) W := ⟨none, 0, rfl, fun h => by simp at h, fun p hp => by cases hp⟩
theorem KS.nil (W : World) : KS 0 [] (.slice none 0 0) W := ⟨none, 0, rfl, fun h => by simp at h⟩
theorem blkc {w : World} {g : Nat} {zs : List Int} (h : Blk w g (zs.map (Value.int .i64)).toArray) : Cells w (some ⟨g, 0, none⟩) zs := fun _ =>
  ⟨g, 0, rfl, h.lt, fun k hk => by rw [Nat.zero_add, h.c k]; simp [hk, List.getD_eq_getElem?_getD]⟩
/-- tuples. -/
def K2 (R1 R2 : Know) : Know := fun u W => ∃ u1 u2, u = .tuple #[u1, u2] ∧ R1 u1 W ∧ R2 u2 W
theorem K2.st {R1 R2 : Know} (h1 : Stable R1) (h2 : Stable R2) : Stable (K2 R1 R2) := fun _ W W' ⟨u1, u2, e, k1, k2⟩ hb => ⟨u1, u2, e, h1 _ W W' k1 hb, h2 _ W W' k2 hb⟩
def K3 (R1 R2 R3 : Know) : Know := fun u W => ∃ u1 u2 u3, u = .tuple #[u1, u2, u3] ∧ R1 u1 W ∧ R2 u2 W ∧ R3 u3 W
/-- a call hands back what is known, and nothing old turns. -/
def KP (R : Know) (W : World) (e : Ending) (W' : World) : Prop := ∃ v, e = .returned v ∧ R v W' ∧ Below W.heap.size W W'

namespace Rel
section
variable {P : Program} {DS : List Tmp} {w0 : World} {a0 : Act} {T : Ctx → Prop} {Γ : Ctx} {o : Oper} {rest : List Oper}
theorem dep_at {Γ : Ctx} {a : Act} {W : World} : ∀ {js : List Nat}, deps Γ a W js → ∀ (j : Nat) {t : Tmp} {K : Know}, js.contains j = true → Γ[j]? = some (some t, K) → K (a.eval (.tmp t)) W
  | [], _, _, _, _, hj, _ => by simp at hj
  | i :: js, h, j, t, K, hj, hΓ => by
    rcases Bool.eq_false_or_eq_true (i == j) with e | e
    · rw [beq_iff_eq] at e
      subst e
      have h1 := h.1
      rw [hΓ] at h1
      exact h1
    · refine dep_at h.2 j (K := K) ?_ hΓ
      rw [List.contains_cons] at hj
      have : (j == i) = false := by rw [beq_eq_false_iff_ne] at e ⊢; exact fun e2 => e e2.symm
      rwa [this, Bool.false_or] at hj
theorem mvK (t : Tmp) (j : Nat) {K : Know} (hop : o.op = .move (.tmp t)) (hj : (ons o).contains j = true) (hΓ : Γ[j]? = some (some t, K)) (hs : Stable K) (hg : GOK3 Γ o)
    (hn : walk3 P DS w0 a0 T (Γ ++ [(o.dst, K)]) rest) : walk3 P DS w0 a0 T Γ (o :: rest) :=
  opR3 K hs hg (fun a W hb hd _ => ⟨a.eval (.tmp t), by simp [execOp, hop], dep_at hd j hj hΓ⟩) hn
theorem asgK (t : Tmp) (j : Nat) {K : Know} (hop : o.op = .assign (.tmp t)) (hj : (ons o).contains j = true) (hΓ : Γ[j]? = some (some t, K)) (hs : Stable K) (hg : GOK3 Γ o)
    (hn : walk3 P DS w0 a0 T (Γ ++ [(o.dst, K)]) rest) : walk3 P DS w0 a0 T Γ (o :: rest) :=
  opR3 K hs hg (fun a W hb hd _ => ⟨a.eval (.tmp t), by simp [execOp, hop], dep_at hd j hj hΓ⟩) hn
theorem ext20 (t : Tmp) (j : Nat) {R1 R2 : Know} (hop : o.op = .extract (.tmp t) 0) (hj : (ons o).contains j = true) (hΓ : Γ[j]? = some (some t, K2 R1 R2)) (hs : Stable R1) (hg : GOK3 Γ o)
    (hn : walk3 P DS w0 a0 T (Γ ++ [(o.dst, R1)]) rest) : walk3 P DS w0 a0 T Γ (o :: rest) :=
  opR3 R1 hs hg (fun a W hb hd _ => by
    obtain ⟨u1, u2, e, h1, h2⟩ := dep_at hd j hj hΓ
    exact ⟨u1, by simp [execOp, hop, e, Instr.extract, Result.andThen], h1⟩) hn
theorem ext21 (t : Tmp) (j : Nat) {R1 R2 : Know} (hop : o.op = .extract (.tmp t) 1) (hj : (ons o).contains j = true) (hΓ : Γ[j]? = some (some t, K2 R1 R2)) (hs : Stable R2) (hg : GOK3 Γ o)
    (hn : walk3 P DS w0 a0 T (Γ ++ [(o.dst, R2)]) rest) : walk3 P DS w0 a0 T Γ (o :: rest) :=
  opR3 R2 hs hg (fun a W hb hd _ => by
    obtain ⟨u1, u2, e, h1, h2⟩ := dep_at hd j hj hΓ
    exact ⟨u2, by simp [execOp, hop, e, Instr.extract, Result.andThen], h2⟩) hn
theorem callK (f : FuncId) (K : Know) (hs : Stable K) (hg : GOK3 Γ o)
    (h : ∀ (a : Act) (W : World), Below w0.heap.size w0 W → deps Γ a W (ons o) → (∀ t, t ∉ DS → a.eval (.tmp t) = a0.eval (.tmp t)) → ∃ args, (execOp a.eval o).run P W = .ok (.enter f args) W ∧ Calls P f args W (KP K W))
    (hn : walk3 P DS w0 a0 T (Γ ++ [(o.dst, K)]) rest) : walk3 P DS w0 a0 T Γ (o :: rest) :=
  callR3 K hs hg (fun a W hb hd hbase => by
    obtain ⟨args, h1, h2⟩ := h a W hb hd hbase
    exact ⟨f, args, h1, h2⟩) hn
end
end Rel
end Go.Proofs.YtdeapbihbhoefaaGreatDoor
