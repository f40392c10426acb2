/- Part 1 of the texts of the claim: T1, RT1, Calm, Rel, Rel2. -/
import Derived.Lib.Split
import Derived.Lib.SplitLaws
import Derived.Lib.ItoaNum
import Derived.Lib.AtoiAll
import Derived.Lib.IndexBytes
import Derived.StillTail
import Derived.Deep.Quiet
import Derived.Below
import Derived.OneCell
import Derived.WalkKit

/- Texts, plain: words between blanks; numerals. No program. -/
namespace Go.Proofs.YtdeapbihbhoefaaGreatDoor
open Go.Lib

/-- the words between bytes c. -/
def cutL (c : UInt8) : List UInt8 → List (List UInt8)
  | [] => [[]]
  | x :: r => if x = c then [] :: cutL c r else match cutL c r with
    | [] => [[x]]
    | h :: t => (x :: h) :: t
theorem cutL_ne (c : UInt8) : ∀ l, cutL c l ≠ []
  | [] => by simp [cutL]
  | x :: r => by
    unfold cutL
    split
    · simp
    · split <;> simp
theorem index_cons_ne {x c : UInt8} (h : x ≠ c) (r : List UInt8) : index (x :: r) [c] = if index r [c] == -1 then -1 else index r [c] + 1 := by
  rw [index_one, index_one, indexByte, if_neg (by simpa using h)]
theorem index_cons_eq (c : UInt8) (r : List UInt8) : index (c :: r) [c] = 0 := by
  rw [index_one, indexByte, if_pos (by simp)]
theorem splitK_cons {x c : UInt8} (h : x ≠ c) (k : Nat) (r : List UInt8) : splitK [c] 0 k (x :: r) = match splitK [c] 0 k r with | [] => [[x]] | a :: t => (x :: a) :: t := by
  cases k with
  | zero => rfl
  | succ k =>
    unfold splitK
    rw [index_cons_ne h]
    by_cases hm : index r [c] = -1
    · rw [hm]; rfl
    · have hge := index_ge r [c]
      obtain ⟨i, hi⟩ : ∃ i : Nat, index r [c] = i := ⟨(index r [c]).toNat, by omega⟩
      rw [hi]
      have e1 : ((i : Int) == -1) = false := beq_eq_false_iff_ne.2 (by omega)
      have e2 : ((i : Int) + 1 == -1) = false := beq_eq_false_iff_ne.2 (by omega)
      rw [e1]
      simp only [Bool.false_eq_true, if_false]
      rw [e2]
      simp only [Bool.false_eq_true, if_false]
      rw [show ((i : Int) + 1).toNat = i + 1 by omega, Int.toNat_natCast]
      rfl
theorem split_cut (c : UInt8) : ∀ s, split s [c] = cutL c s
  | [] => rfl
  | x :: r => by
    have ih := split_cut c r
    unfold split at ih ⊢
    unfold cutL
    by_cases h : x = c
    · subst h
      rw [if_pos rfl, count_cons_eq, Nat.add_comm, splitK, index_cons_eq]
      simp [ih]
    · rw [if_neg h, count_cons_ne x c r h, splitK_cons h, ih]

/-- a numeral of digits alone. -/
def digB (c : UInt8) : Bool := decide (48 ≤ c.toNat) && decide (c.toNat ≤ 57)
def stepL (n : Nat) (c : UInt8) : Nat := 10 * n + (c.toNat - 48)
def valL (l : List UInt8) : Nat := l.foldl stepL 0
def Canon (l : List UInt8) : Prop := l ≠ [] ∧ l.all digB = true ∧ (1 < l.length → l.head? ≠ some 48)
instance (l : List UInt8) : Decidable (Canon l) := by unfold Canon; exact inferInstance
def numL (l : List UInt8) : Option Nat := if l.length ≤ 9 ∧ Canon l then some (valL l) else none
theorem valL_snoc (l : List UInt8) (c : UInt8) : valL (l ++ [c]) = 10 * valL l + (c.toNat - 48) := by
  unfold valL; rw [List.foldl_append]; rfl
theorem digB_iff {c : UInt8} : digB c = true ↔ 48 ≤ c.toNat ∧ c.toNat ≤ 57 := by simp [digB]
theorem dig_ofNat {d : Nat} (h : d < 10) : (UInt8.ofNat (48 + d)).toNat = 48 + d := by
  rw [UInt8.toNat_ofNat']; omega
theorem ofNat_dig {c : UInt8} (h : digB c = true) : UInt8.ofNat (48 + (c.toNat - 48)) = c := by
  have := digB_iff.1 h
  rw [show 48 + (c.toNat - 48) = c.toNat by omega]
  exact UInt8.ofNat_toNat
theorem snoc_cases {α : Type} (l : List α) : l = [] ∨ ∃ i c, l = i ++ [c] := by
  rcases List.eq_nil_or_concat l with h | ⟨i, c, h⟩
  · exact .inl h
  · exact .inr ⟨i, c, by simpa using h⟩
theorem head_app {i : List UInt8} (hi : i ≠ []) (t : List UInt8) : (i ++ t).head? = i.head? := by
  cases i with
  | nil => exact absurd rfl hi
  | cons a r => rfl
theorem valL_pos : ∀ (n : Nat) (l : List UInt8), l.length = n → l ≠ [] → l.all digB = true → l.head? ≠ some 48 → 1 ≤ valL l
  | 0, l, hn, h, _, _ => absurd (List.eq_nil_of_length_eq_zero hn) h
  | n + 1, l, hn, h, hd, hh => by
    rcases snoc_cases l with rfl | ⟨i, c, rfl⟩
    · exact absurd rfl h
    · rw [valL_snoc]
      by_cases hi : i = []
      · subst hi
        simp at hh hd
        have := digB_iff.1 hd
        have : c.toNat ≠ 48 := fun e => hh (UInt8.toNat_inj.1 (by rw [e]; rfl))
        omega
      · have ih := valL_pos n i (by simpa using hn) hi (by simp at hd ⊢; exact hd.1) (by
          intro e; apply hh
          rw [head_app hi]; exact e)
        omega
theorem dec_of_canon : ∀ (n : Nat) (l : List UInt8), l.length = n → Canon l → decDigits (valL l) = l
  | 0, l, hn, h => absurd (List.eq_nil_of_length_eq_zero hn) h.1
  | n + 1, l, hn, h => by
    obtain ⟨h1, h2, h3⟩ := h
    rcases snoc_cases l with rfl | ⟨i, c, rfl⟩
    · exact absurd rfl h1
    · have hc : digB c = true := by simp at h2; exact h2.2
      have hcd := digB_iff.1 hc
      rw [valL_snoc]
      by_cases hi : i = []
      · subst hi
        have e : valL [] = 0 := rfl
        rw [e, decDigits, dif_pos (by omega), show 10 * 0 + (c.toNat - 48) = c.toNat - 48 by omega, ofNat_dig hc]; rfl
      · have hlen : 1 < (i ++ [c]).length := by
          have := List.length_pos_iff.2 hi
          simp; omega
        have hh : i.head? ≠ some 48 := by
          intro e; apply h3 hlen
          rw [head_app hi]; exact e
        have hd : i.all digB = true := by simp at h2 ⊢; exact h2.1
        have hp := valL_pos i.length i rfl hi hd hh
        have ih := dec_of_canon n i (by simpa using hn) ⟨hi, hd, fun _ => hh⟩
        rw [decDigits, dif_neg (by omega), show (10 * valL i + (c.toNat - 48)) / 10 = valL i by omega, show (10 * valL i + (c.toNat - 48)) % 10 = c.toNat - 48 by omega, ih, ofNat_dig hc]
theorem canon_dec (u : Nat) : Canon (decDigits u) ∧ valL (decDigits u) = u ∧ (10 ≤ u → (decDigits u).head? ≠ some 48) := by
  induction u using Nat.strongRecOn with
  | _ u ih =>
    by_cases h : u < 10
    · rw [decDigits_one h]
      refine ⟨⟨by simp, by simp [digB_iff, dig_ofNat h]; omega, by simp⟩, ?_, by omega⟩
      unfold valL
      simp only [List.foldl_cons, List.foldl_nil, stepL]
      rw [dig_ofNat h]; omega
    · obtain ⟨⟨i1, i2, i3⟩, i4, i5⟩ := ih (u / 10) (by omega)
      have hd : u % 10 < 10 := Nat.mod_lt _ (by decide)
      have e : decDigits u = decDigits (u / 10) ++ [UInt8.ofNat (48 + u % 10)] := by rw [decDigits, dif_neg h]
      have hh : (decDigits u).head? ≠ some 48 := by
        rw [e, head_app i1]
        by_cases h2 : u / 10 < 10
        · rw [decDigits_one h2]
          intro e2
          simp only [List.head?_cons, Option.some.injEq] at e2
          have := congrArg UInt8.toNat e2
          rw [dig_ofNat h2] at this
          have : u / 10 = 0 := by simp at this; omega
          omega
        · exact i5 (by omega)
      refine ⟨⟨by rw [e]; simp, ?_, fun _ => hh⟩, ?_, fun _ => hh⟩
      · rw [e, List.all_append, i2]
        simp [digB_iff, dig_ofNat hd]; omega
      · rw [e, valL_snoc, i4, dig_ofNat hd]; omega
theorem valL_lt : ∀ (n : Nat) (l : List UInt8), l.length = n → l.all digB = true → valL l < 10 ^ l.length
  | 0, l, hn, _ => by rw [List.eq_nil_of_length_eq_zero hn]; decide
  | n + 1, l, hn, hd => by
    rcases snoc_cases l with rfl | ⟨i, c, rfl⟩
    · simp at hn
    · have ih := valL_lt n i (by simpa using hn) (by simp at hd ⊢; exact hd.1)
      have hc := digB_iff.1 (show digB c = true by simp at hd; exact hd.2)
      rw [valL_snoc, List.length_append, List.length_singleton, Nat.pow_succ]
      omega
theorem numL_some {l : List UInt8} {k : Nat} (h : numL l = some k) : k = valL l ∧ l.length ≤ 9 ∧ Canon l ∧ decDigits k = l ∧ k < 1000000000 := by
  unfold numL at h
  split at h
  · rename_i hc
    cases h
    refine ⟨rfl, hc.1, hc.2, dec_of_canon _ l rfl hc.2, ?_⟩
    have h1 := valL_lt _ l rfl hc.2.2.1
    have h2 : 10 ^ l.length ≤ 10 ^ 9 := Nat.pow_le_pow_right (by decide) hc.1
    omega
  · cases h
theorem numL_dec {u : Nat} (h : (decDigits u).length ≤ 9) : numL (decDigits u) = some u := by
  obtain ⟨h1, h2, _⟩ := canon_dec u
  unfold numL
  rw [if_pos ⟨h, h1⟩, h2]
theorem dec_len {u : Nat} (h : u < 1000000000) : (decDigits u).length ≤ 9 := by
  rw [decDigits_length]
  rcases Nat.lt_or_ge (nDigits u) 10 with h1 | h1
  · omega
  · exfalso
    have key : ∀ (n u : Nat), nDigits u = n + 1 → 10 ^ n ≤ u ∨ n = 0 := by
      intro n
      induction n with
      | zero => intro u _; exact .inr rfl
      | succ n ih =>
        intro u hu
        by_cases hs : u < 10
        · rw [nDigits_small hs] at hu; omega
        · rw [nDigits_big hs] at hu
          rcases ih (u / 10) (by omega) with h2 | h2
          · refine .inl ?_
            rw [Nat.pow_succ]; omega
          · subst h2; exact .inl (by simp; omega)
    obtain ⟨n, hn⟩ : ∃ n, nDigits u = n + 1 := ⟨nDigits u - 1, by omega⟩
    rcases key n u hn with h2 | h2
    · have : 10 ^ 9 ≤ 10 ^ n := Nat.pow_le_pow_right (by decide) (by omega)
      omega
    · omega
theorem itoa_nat (k : Nat) : itoa (k : Int) = decDigits k := by
  unfold itoa
  rw [if_neg (by omega), Int.toNat_natCast]
end Go.Proofs.YtdeapbihbhoefaaGreatDoor

/- Texts of guards, plain: signed numerals, words, the parts of a text. No program. -/
namespace Go.Proofs.YtdeapbihbhoefaaGreatDoor
open Go.Lib

/-- the integer of a numeral with or without a sign; not of -0. -/
def sgnL (l : List UInt8) : Option Int := if l.head? = some 45 then (match numL l.tail with | some k => if 0 < k then some (-(k : Int)) else none | none => none) else (match numL l with | some k => some (k : Int) | none => none)
def isS (l : List UInt8) : Bool := (sgnL l).isSome
def valS (l : List UInt8) : Int := (sgnL l).getD 0
theorem sgnL_some {l : List UInt8} {n : Int} (h : sgnL l = some n) : itoa n = l ∧ -1000000000 < n ∧ n < 1000000000 := by
  unfold sgnL at h
  split at h
  · rename_i h0
    cases l with
    | nil => cases h0
    | cons x r =>
      simp at h0
      subst h0
      simp only [List.tail_cons] at h
      cases hn : numL r with
      | none => rw [hn] at h; cases h
      | some k =>
        rw [hn] at h
        simp only at h
        split at h
        · rename_i hk
          cases h
          obtain ⟨_, _, _, h4, h5⟩ := numL_some hn
          refine ⟨?_, by omega, by omega⟩
          unfold itoa
          rw [if_pos (by omega), show (-(k : Int)).natAbs = k by omega, h4]
        · cases h
  · cases hn : numL l with
    | none => rw [hn] at h; cases h
    | some k =>
      rw [hn] at h
      cases h
      obtain ⟨_, _, _, h4, h5⟩ := numL_some hn
      refine ⟨?_, by omega, by omega⟩
      rw [itoa_nat, h4]
theorem sgn_itoa {n : Int} (h1 : -1000000000 < n) (h2 : n < 1000000000) : sgnL (itoa n) = some n := by
  unfold sgnL itoa
  by_cases h : n < 0
  · rw [if_pos h]
    simp only [List.head?_cons, List.tail_cons, if_true]
    rw [numL_dec (dec_len (by omega))]
    simp only
    rw [if_pos (by omega)]
    congr 1
    omega
  · rw [if_neg h]
    obtain ⟨k, rfl⟩ : ∃ k : Nat, n = k := ⟨n.toNat, by omega⟩
    rw [Int.toNat_natCast]
    have hc := (canon_dec k).1
    have hh : ¬ (decDigits k).head? = some 45 := by
      intro e
      obtain ⟨_, h3, _⟩ := hc
      cases hd : decDigits k with
      | nil => rw [hd] at e; cases e
      | cons x r =>
        rw [hd] at e h3
        simp at e
        subst e
        simp [digB] at h3
    rw [if_neg hh, numL_dec (dec_len (by omega))]
/-- the state of the program's reader: words, and whether one was wrong. -/
def wordR (m : List UInt8) (s : List (List UInt8) × Bool) : List (List UInt8) × Bool := match s.1 with
  | [] => (s.1, true)
  | x :: r => if x = m then (r, s.2) else (s.1, true)
/-- the words up to one, and from it on. -/
def preW (m : List UInt8) (W : List (List UInt8)) : List (List UInt8) := W.takeWhile fun x => decide (x ≠ m)
def postW (m : List UInt8) (W : List (List UInt8)) : List (List UInt8) := W.dropWhile fun x => decide (x ≠ m)
def intsR (m : List UInt8) (s : List (List UInt8) × Bool) : List (List UInt8) × Bool := (postW m s.1, s.2 || !(preW m s.1).all isS)
def gW : List UInt8 := [103, 117, 97, 114, 100]
def tW : List UInt8 := [116, 97, 112, 115]
def nW : List UInt8 := [103, 97, 105, 110, 115]
def st1 (W : List (List UInt8)) := wordR gW (W, false)
def st2 (W : List (List UInt8)) := intsR tW (st1 W)
def st3 (W : List (List UInt8)) := wordR tW (st2 W)
def st4 (W : List (List UInt8)) := intsR nW (st3 W)
def st5 (W : List (List UInt8)) := wordR nW (st4 W)
def st6 (W : List (List UInt8)) := intsR [] (st5 W)
def hdW (W : List (List UInt8)) := preW tW (st1 W).1
def tpW (W : List (List UInt8)) := preW nW (st3 W).1
def gnW (W : List (List UInt8)) := preW [] (st5 W).1
/-- whether words are those of a guard. -/
def okW (W : List (List UInt8)) : Bool := !(st6 W).2 && ((st6 W).1.isEmpty && decide ((hdW W).length = 3))
theorem pre_post (m : List UInt8) (W : List (List UInt8)) : preW m W ++ postW m W = W := List.takeWhile_append_dropWhile
theorem wordR_ok {m : List UInt8} {s : List (List UInt8) × Bool} (h : (wordR m s).2 = false) : s.2 = false ∧ s.1 = m :: (wordR m s).1 := by
  unfold wordR at h ⊢
  cases hs : s.1 with
  | nil => rw [hs] at h; cases h
  | cons x r =>
    rw [hs] at h
    simp only at h ⊢
    by_cases hx : x = m
    · rw [if_pos hx] at h ⊢; exact ⟨h, by rw [hx]⟩
    · rw [if_neg hx] at h; cases h
theorem intsR_ok {m : List UInt8} {s : List (List UInt8) × Bool} (h : (intsR m s).2 = false) : s.2 = false ∧ (preW m s.1).all isS = true := by
  unfold intsR at h
  simp only [Bool.or_eq_false_iff, Bool.not_eq_false'] at h
  exact h
/-- the words of a guard. -/
theorem okW_words {W : List (List UInt8)} (h : okW W = true) : W = gW :: hdW W ++ tW :: tpW W ++ nW :: gnW W ∧ (hdW W).all isS = true ∧ (tpW W).all isS = true ∧ (gnW W).all isS = true ∧ (hdW W).length = 3 := by
  unfold okW at h
  simp only [Bool.and_eq_true, Bool.not_eq_true', List.isEmpty_iff, decide_eq_true_eq] at h
  obtain ⟨h6, h7, h8⟩ := h
  obtain ⟨h5, g3⟩ := intsR_ok h6
  obtain ⟨h4, e5⟩ := wordR_ok h5
  obtain ⟨h3, g2⟩ := intsR_ok h4
  obtain ⟨h2, e3⟩ := wordR_ok h3
  obtain ⟨h1, g1⟩ := intsR_ok h2
  obtain ⟨_, e1⟩ := wordR_ok h1
  refine ⟨?_, g1, g2, g3, h8⟩
  have p1 := pre_post tW (st1 W).1
  have p2 := pre_post nW (st3 W).1
  have p3 := pre_post [] (st5 W).1
  have q3 : postW [] (st5 W).1 = [] := h7
  rw [q3, List.append_nil] at p3
  have q2 : postW nW (st3 W).1 = nW :: (st5 W).1 := e5
  have q1 : postW tW (st1 W).1 = tW :: (st3 W).1 := e3
  have q0 : W = gW :: (st1 W).1 := e1
  conv => lhs; rw [q0, ← p1, q1, ← p2, q2, ← p3]
  simp [hdW, tpW, gnW]
theorem preW_app {m : List UInt8} {A B : List (List UInt8)} (h : ∀ x ∈ A, x ≠ m) : preW m (A ++ m :: B) = A ∧ postW m (A ++ m :: B) = m :: B := by
  unfold preW postW
  constructor
  · rw [List.takeWhile_append_of_pos (fun x hx => by simpa using h x hx)]
    simp
  · rw [List.dropWhile_append_of_pos (fun x hx => by simpa using h x hx)]
    simp
theorem preW_all {m : List UInt8} : ∀ {A : List (List UInt8)}, (∀ x ∈ A, x ≠ m) → preW m A = A ∧ postW m A = []
  | [], _ => ⟨rfl, rfl⟩
  | a :: A, h => by
    have ih := preW_all (A := A) (fun x hx => h x (List.mem_cons_of_mem _ hx))
    have ha : decide (a ≠ m) = true := decide_eq_true (h a (List.mem_cons_self ..))
    unfold preW postW at *
    rw [List.takeWhile_cons, List.dropWhile_cons, ha]
    simp only [if_true]
    exact ⟨by rw [ih.1], ih.2⟩
theorem isS_ne {x m : List UInt8} (h : isS x = true) (hm : isS m = false) : x ≠ m := fun e => by rw [e, hm] at h; cases h
theorem isS_marks : isS gW = false ∧ isS tW = false ∧ isS nW = false ∧ isS [] = false := by
  refine ⟨?_, ?_, ?_, ?_⟩ <;> decide
/-- words that are those of a guard. -/
theorem okW_of {A B C : List (List UInt8)} (ha : A.all isS = true) (hb : B.all isS = true) (hc : C.all isS = true) (h3 : A.length = 3) : okW (gW :: A ++ tW :: B ++ nW :: C) = true ∧ hdW (gW :: A ++ tW :: B ++ nW :: C) = A ∧ tpW (gW :: A ++ tW :: B ++ nW :: C) = B ∧ gnW (gW :: A ++ tW :: B ++ nW :: C) = C := by
  obtain ⟨m1, m2, m3, m4⟩ := isS_marks
  have ea : ∀ x ∈ A, x ≠ tW := fun x hx => isS_ne (List.all_eq_true.1 ha x hx) m2
  have eb : ∀ x ∈ B, x ≠ nW := fun x hx => isS_ne (List.all_eq_true.1 hb x hx) m3
  have ec : ∀ x ∈ C, x ≠ [] := fun x hx => isS_ne (List.all_eq_true.1 hc x hx) m4
  obtain ⟨W, hW⟩ : ∃ W, W = gW :: A ++ tW :: B ++ nW :: C := ⟨_, rfl⟩
  rw [← hW]
  have s1 : st1 W = (A ++ tW :: (B ++ nW :: C), false) := by rw [hW]; simp [st1, wordR]
  have s2 : st2 W = (tW :: (B ++ nW :: C), false) := by
    unfold st2 intsR
    rw [s1]
    simp only
    rw [(preW_app ea).1, (preW_app ea).2, ha]
    rfl
  have s3 : st3 W = (B ++ nW :: C, false) := by unfold st3 wordR; rw [s2]; simp
  have s4 : st4 W = (nW :: C, false) := by
    unfold st4 intsR
    rw [s3]
    simp only
    rw [(preW_app eb).1, (preW_app eb).2, hb]
    rfl
  have s5 : st5 W = (C, false) := by unfold st5 wordR; rw [s4]; simp
  have s6 : st6 W = ([], false) := by
    unfold st6 intsR
    rw [s5]
    simp only
    rw [(preW_all ec).1, (preW_all ec).2, hc]
    rfl
  have e1 : hdW W = A := by unfold hdW; rw [s1]; exact (preW_app ea).1
  have e2 : tpW W = B := by unfold tpW; rw [s3]; exact (preW_app eb).1
  have e3 : gnW W = C := by unfold gnW; rw [s5]; exact (preW_all ec).1
  refine ⟨?_, e1, e2, e3⟩
  unfold okW
  rw [s6, e1, h3]
  rfl
theorem all_itoa {l : List Int} (h : ∀ x ∈ l, -1000000000 < x ∧ x < 1000000000) : (l.map itoa).all isS = true ∧ (l.map itoa).map valS = l := by
  constructor
  · rw [List.all_eq_true]
    intro x hx
    obtain ⟨n, hn, rfl⟩ := List.mem_map.1 hx
    unfold isS
    rw [sgn_itoa (h n hn).1 (h n hn).2]
    rfl
  · rw [List.map_map]
    conv => rhs; rw [← List.map_id l]
    refine List.map_congr_left (fun n hn => ?_)
    show valS (itoa n) = n
    unfold valS
    rw [sgn_itoa (h n hn).1 (h n hn).2]
    rfl
theorem itoa_all {A : List (List UInt8)} (h : A.all isS = true) : (A.map valS).map itoa = A := by
  rw [List.map_map]
  conv => rhs; rw [← List.map_id A]
  refine List.map_congr_left (fun x hx => ?_)
  have h1 := List.all_eq_true.1 h x hx
  unfold isS at h1
  obtain ⟨n, hn⟩ := Option.isSome_iff_exists.1 h1
  show itoa (valS x) = x
  unfold valS
  rw [hn]
  exact (sgnL_some hn).1
end Go.Proofs.YtdeapbihbhoefaaGreatDoor

/- Regions whose order is open, and whose operations, but for a forced tail, each have one value in every world of a class: one walk in the order of the text serves. No program. -/
namespace Go.Proofs.YtdeapbihbhoefaaGreatDoor.Calm
open Go.RowKit

section
variable {P : Program} {ops : Array Oper} {md : Region.Mode} {C : World → Prop}

/-- The head of a region in any order, then L. -/
def head (P : Program) (md : Region.Mode) (ops : Array Oper) (C : World → Prop) (n : Nat) (L : Array Bool → Act → Prop) : Nat → Array Bool → Act → Prop
  | 0, listed, a => L listed a
  | f + 1, listed, a => Region.ready md ops listed ≠ [] ∧ ∀ i ∈ Region.ready md ops listed, i < n ∧ qOp P ops C i (head P md ops C n L f (listed.setIfInBounds i true)) a

theorem any_of_head {n g : Nat} {L : Array Bool → Act → Prop} {Q' : Exit → Act → World → Prop} (hL : ∀ listed a w, C w → L listed a → wpAny P md ops Q' g listed a w) :
    ∀ (f : Nat) (listed : Array Bool) (a : Act) (w : World), C w → head P md ops C n L f listed a → wpAny P md ops Q' (f + g) listed a w
  | 0, listed, a, w, hw, h => by rw [Nat.zero_add]; exact hL _ _ _ hw h
  | f + 1, listed, a, w, hw, h => by
    rw [show f + 1 + g = (f + g) + 1 by omega]
    exact ⟨fun h0 => absurd h0 h.1, fun i hi => wpOp_of_qOp hw (fun a' w' hw' h' => any_of_head hL f _ a' w' hw' h') (h.2 i hi).2⟩

theorem head_first {n i : Nat} {oi : Oper} {v : Value} {L : Array Bool → Act → Prop} (hi : ops[i]? = some oi) (hsel : ∀ (j : Nat) (o : Oper) cs b, ops[j]? = some o → o.op ≠ .select cs b)
    (hs : Region.sinkB md ops n = true) (hc : Region.chainB md ops n = true) (hn : n < ops.size) (hin : i < n)
    (hdone : ∀ listed a, L listed a → ∀ j ∈ Region.ready md ops listed, n ≤ j) :
    ∀ (f : Nat) (listed : Array Bool) (a : Act), HeadInv md ops n listed →
      (∀ j oj, ops[j]? = some oj → j ≠ i → listed.getD j true = false → (∀ e ∈ oj.after, Region.binds md e = true → e.on ≠ i) → oi.apart ops oj = true) →
      i ∈ Region.ready md ops listed → YieldsIn P ops C oi v a →
      head P md ops C n L f (listed.setIfInBounds i true) (a.put oi.dst v) → head P md ops C n L (f + 1) listed a := by
  have below : ∀ (listed : Array Bool), HeadInv md ops n listed → listed.getD i true = false → ∀ j ∈ Region.ready md ops listed, j < n := by
    intro listed inv hun j hj
    rcases Nat.lt_or_ge j n with h | h
    · exact h
    · exact absurd hj (tail_waits hs hc hn inv _ i rfl hin hun j h)
  intro f
  induction f with
  | zero =>
    intro listed a inv _ hr hy H
    have hun := (mem_ready.1 hr).1
    refine ⟨fun h => (by rw [h] at hr; cases hr), fun j hj => ⟨below listed inv hun j hj, ?_⟩⟩
    by_cases hji : j = i
    · subst hji; exact hy.qOp hi H
    · have h1 := hdone _ _ H j (ready_mono hj hji)
      have h2 := below listed inv hun j hj
      omega
  | succ f ih =>
    intro listed a inv hfree hr hy H
    have hun := (mem_ready.1 hr).1
    refine ⟨fun h => (by rw [h] at hr; cases hr), fun j hj => ⟨below listed inv hun j hj, ?_⟩⟩
    have hjn := below listed inv hun j hj
    by_cases hji : j = i
    · subst hji; exact hy.qOp hi H
    · have h1 := (H.2 j (ready_mono hj hji)).2
      obtain ⟨hjun, oj, hoj, hall⟩ := mem_ready.1 hj
      have hnot : ∀ e ∈ oj.after, Region.binds md e = true → e.on ≠ i := fun e he hb heq => by
        have h3 := hall e he hb
        rw [heq, getD_both hun] at h3
        cases h3
      have h2 := qOp_put hoj (hfree j oj hoj hji hjun hnot) (fun cs b => hsel i oi cs b hi) (fun cs b => hsel j oj cs b hoj) hy h1
      refine qOp_mono (fun a' h3 => ih (listed.setIfInBounds j true) a' (inv.set hj hjn) ?_ (ready_mono hr (Ne.symm hji)) h3.1 ?_) h2
      · intro k ok hk hki hun' hno
        refine hfree k ok hk hki ?_ hno
        by_cases hjk : j = k
        · subst hjk; exact hjun
        · rw [getD_set_ne true hjk] at hun'; exact hun'
      · rw [Array.setIfInBounds_comm _ _ hji]
        exact h3.2

theorem head_lex {n g : Nat} {Lq : Act → Prop} (hsel : Region.noSelect ops = true) (hs : Region.sinkB md ops n = true) (hc : Region.chainB md ops n = true) (hn : n < ops.size) :
    ∀ (l : List Oper) (k : Nat) (listed : Array Bool) (a : Act), (∀ j, j < l.length → l[j]? = ops[k + j]?) → k + l.length = n → HeadInv md ops n listed →
    Region.lexHead md ops g l.length k listed = true → wpQuiet P ops C Lq l a →
    head P md ops C n (fun listed' a' => Region.seqB md ops g n listed' = true ∧ Lq a') l.length listed a
  | [], k, listed, a, _, hk, _, hB, h => by
    have : k = n := by simpa using hk
    subst this
    exact ⟨by simpa [Region.lexHead] using hB, h⟩
  | o :: l, k, listed, a, hl, hk, inv, hB, h => by
    have h0 : ops[k]? = some o := by simpa using (hl 0 (by simp)).symm
    simp only [List.length_cons, Region.lexHead, Bool.and_eq_true] at hB
    obtain ⟨⟨hr, hf⟩, hB'⟩ := hB
    have hkn : k < n := by simp only [List.length_cons] at hk; omega
    have hr' : k ∈ Region.ready md ops listed := by simpa using hr
    have hst : qOp P ops C k (wpQuiet P ops C Lq l) a := by unfold qOp; simp only [h0]; exact h
    obtain ⟨v, hy, hK⟩ := yieldsIn_of_qOp h0 hst
    exact head_first h0 (Region.noSelect_spec hsel) hs hc hn hkn (fun listed' a' hL => seqB_ready hL.1) l.length listed a inv (Region.free_spec h0 hf) hr' hy
      (head_lex hsel hs hc hn l (k + 1) _ _ (fun j hj => by have := hl (j + 1) (by simp; omega); simpa [Nat.add_assoc, Nat.add_comm 1 j] using this) (by simp only [List.length_cons] at hk; omega) (inv.set hr' hkn) hB' hK)

/-- A REGION THAT DRAWS ITS ORDER: n operations that each have one value in every world of the class, then a tail whose order is forced. -/
theorem region_tail_w {Q : Exit → Act → World → Prop} {a : Act} {w : World} {l : List Oper} (n : Nat) (hB : Region.lexTailB .any l.toArray n = true)
    (C : World → Prop) (hC : C { w with drawn := w.drawn + 1 })
    (h : wpQuiet P l.toArray C (fun a' => ∀ w', C w' → wpList P l.toArray Q (l.drop n) a' w') (l.take n) a) : wpAny P .any l.toArray Q l.toArray.size (Array.replicate l.toArray.size false) a { w with drawn := w.drawn + 1 } := by
  simp only [Region.lexTailB, Bool.and_eq_true, decide_eq_true_eq] at hB
  obtain ⟨⟨⟨⟨hsel, hn⟩, hs⟩, hc⟩, hlex⟩ := hB
  have hn' : n < l.length := by simpa using hn
  have htl : (l.take n).length = n := by simp; omega
  have hdl : (l.drop n).length = l.toArray.size - n := by simp
  have inv0 : HeadInv .any l.toArray n (Array.replicate l.toArray.size false) :=
    ⟨by simp, fun j oj _ hl => (by rw [getD_replicate_false] at hl; cases hl), fun t _ ht => getD_in (by simpa using ht) (getD_replicate_false _ _)⟩
  have H := head_lex (md := .any) (g := l.toArray.size - n) hsel hs hc hn (l.take n) 0 _ a (fun j hj => by
    have hj' : j < n := by rw [htl] at hj; exact hj
    simp [hj']) (by simpa using htl) inv0 (by rw [htl]; exact hlex) h
  have := any_of_head (Q' := Q) (g := l.toArray.size - n) (fun listed a' w' hw' hL => by
    have := wpAny_of_seq (md := .any) (Q' := Q) (l.drop n) n listed a' w' (fun j => by simp [List.getElem?_drop]) (by rw [hdl]; exact hL.1) (hL.2 w' hw')
    rwa [hdl] at this) _ _ _ _ hC H
  rw [htl, show n + (l.toArray.size - n) = l.toArray.size by omega] at this
  exact this
theorem region_tail {id : Nat} {Q : Exit → Act → World → Prop} {a : Act} {w : World} {l : List Oper} (n : Nat) (hm : P.follows .mixedOrders = true) (hB : Region.lexTailB .any l.toArray n = true)
    (C : World → Prop) (hC : C { w with drawn := w.drawn + 1 })
    (h : wpQuiet P l.toArray C (fun a' => ∀ w', C w' → wpList P l.toArray Q (l.drop n) a' w') (l.take n) a) : (Code.region id l.toArray true).wp P Q a w := wp_region_any hm (region_tail_w n hB C hC h)
/-- One operation that is carried out, and yields v in every world of the class. -/
theorem op {Q : Act → Prop} {a : Act} {o : Oper} {rest : List Oper} (v : Value) (hw : Region.wanted o (yielded ops a.tmps) = true) (h : ∀ w, C w → (execOp a.eval o).run P w = .ok (.value v) w)
    (hn : wpQuiet P ops C Q rest (a.put o.dst v)) : wpQuiet P ops C Q (o :: rest) a := by
  unfold wpQuiet
  rw [if_pos hw]
  exact ⟨v, fun w hc => by unfold Oper.quietAt; rw [h w hc]; exact ⟨rfl, rfl⟩, hn⟩
/-- A copy. -/
theorem op_move {Q : Act → Prop} {a : Act} {o : Oper} {rest : List Oper} (v : Value) (x : Operand) (hw : Region.wanted o (yielded ops a.tmps) = true) (ho : o.op = .move x ∨ o.op = .assign x) (hv : a.eval x = v)
    (hn : wpQuiet P ops C Q rest (a.put o.dst v)) : wpQuiet P ops C Q (o :: rest) a := by
  refine op v hw (fun w _ => ?_) hn
  unfold execOp
  rcases ho with ho | ho <;> simp [ho, hv]
/-- One that is passed over. -/
theorem op_not {Q : Act → Prop} {a : Act} {o : Oper} {rest : List Oper} (hw : Region.wanted o (yielded ops a.tmps) = false) (hn : wpQuiet P ops C Q rest (a.put o.dst undef)) : wpQuiet P ops C Q (o :: rest) a := by
  unfold wpQuiet
  rw [if_neg (by rw [hw]; exact Bool.false_ne_true)]
  exact hn
/-- A call, by a contract. -/
theorem op_call {Q : Act → Prop} {a : Act} {o : Oper} {rest : List Oper} (v : Value) (f : FuncId) (args : Array Value) (hw : Region.wanted o (yielded ops a.tmps) = true) (h : ∀ w, C w → (execOp a.eval o).run P w = .ok (.enter f args) w)
    (hc : ∀ w, C w → Calls P f args w fun e w' => e = .returned v ∧ C w') (hn : wpQuiet P ops C Q rest (a.put o.dst v)) : wpQuiet P ops C Q (o :: rest) a := by
  unfold wpQuiet
  rw [if_pos hw]
  exact ⟨v, fun w hw' => by unfold Oper.quietAt; rw [h w hw']; exact ⟨rfl, hc w hw'⟩, hn⟩
theorem below_drawn (w : World) : Below w.heap.size w { w with drawn := w.drawn + 1 } := (Below.refl w.heap.size w).drew
/-- The class 'all that lay when the region began is as it was'. -/
theorem tail_below {id : Nat} {Q : Exit → Act → World → Prop} {a : Act} {w : World} {l : List Oper} (n : Nat) (hm : P.follows .mixedOrders = true) (hB : Region.lexTailB .any l.toArray n = true)
    (h : wpQuiet P l.toArray (fun W => Below w.heap.size w W) (fun a' => ∀ w', Below w.heap.size w w' → wpList P l.toArray Q (l.drop n) a' w') (l.take n) a) : (Code.region id l.toArray true).wp P Q a w :=
  region_tail n hm hB _ (below_drawn w) h
/-- A contract that keeps what lay, met in the class. -/
theorem call_below {f : FuncId} {args : Array Value} {v : Value} {w W : World} (hb : Below w.heap.size w W) (h : Calls P f args W fun e W' => e = .returned v ∧ Below W.heap.size W W') :
    Calls P f args W fun e W' => e = .returned v ∧ Below w.heap.size w W' :=
  h.mono fun _ _ ⟨he, h2⟩ => ⟨he, hb.trans (h2.mono hb.size)⟩
theorem call_same {f : FuncId} {args : Array Value} {v : Value} {w W : World} (hb : Below w.heap.size w W) (h : Calls P f args W fun e W' => e = .returned v ∧ W = W') :
    Calls P f args W fun e W' => e = .returned v ∧ Below w.heap.size w W' :=
  h.mono fun _ _ ⟨he, h2⟩ => ⟨he, h2 ▸ hb⟩
end
theorem bcell {W w1 : World} (hb : Below W.heap.size W w1) : (∀ b o, b < W.heap.size → w1.cell? ⟨b, o, none⟩ = W.cell? ⟨b, o, none⟩) ∧ (∀ b o, b < W.heap.size → w1.frozen? ⟨b, o, none⟩ = W.frozen? ⟨b, o, none⟩) :=
  ⟨fun b o h => hb.cell (p := ⟨b, o, none⟩) h, fun b o h => hb.frozen (p := ⟨b, o, none⟩) h⟩
theorem step {B B' : Nat} {a b c : World} (hc : Below B' b c) (h : Below B a b) (hB : B ≤ B') : Below B a c := h.trans (hc.mono hB)
/-- Block g holds just these cells, none of them frozen. -/
structure Blk (w : World) (g : Nat) (cs : Array Value) : Prop where
  lt : g < w.heap.size
  c : ∀ i, w.cell? ⟨g, i, none⟩ = cs[i]?
  f : ∀ i, w.frozen? ⟨g, i, none⟩ = false
theorem Blk.new (w : World) (t : TypeId) (cs : Array Value) : Blk (w.alloc (.cells cs t)) w.heap.size cs :=
  ⟨by simp, fun i => cell_of_row _ _ i cs t (0, 0) (heap_alloc_new w _), fun i => by unfold World.frozen?; rw [heap_alloc_new]; simp⟩
theorem Blk.at_ {w : World} {t : TypeId} {cs : Array Value} {g : Nat} (h : g = w.heap.size) : Blk (w.alloc (.cells cs t)) g cs := h ▸ Blk.new w t cs
theorem Blk.below {w w' : World} {g : Nat} {cs : Array Value} (h : Blk w g cs) (hb : Below w.heap.size w w') : Blk w' g cs :=
  ⟨Nat.lt_of_lt_of_le h.lt hb.size, fun i => (hb.cell (p := ⟨g, i, none⟩) h.lt).trans (h.c i), fun i => (hb.frozen (p := ⟨g, i, none⟩) h.lt).trans (h.f i)⟩
theorem Blk.alloc {w : World} {g : Nat} {cs : Array Value} (h : Blk w g cs) (o : Obj) : Blk (w.alloc o) g cs :=
  h.below ((Below.refl _ _).alloc (Nat.le_refl _) o)
theorem Blk.drew {w : World} {g : Nat} {cs : Array Value} (h : Blk w g cs) : Blk w.drew g cs := ⟨h.1, h.2, h.3⟩
theorem Blk.far {w : World} {g : Nat} {cs : Array Value} (h : Blk w g cs) {p : Addr} (hp : p.block ≠ g) (v : Value) : Blk (w.setCell p v) g cs := by
  have hne : ∀ i, p ≠ ⟨g, i, none⟩ := fun i e => hp (by rw [e])
  exact ⟨by simpa using h.lt, fun i => (World.cell?_setCell_other w p ⟨g, i, none⟩ v (hne i)).trans (h.c i), fun i => by rw [World.frozen?_setCell]; exact h.f i⟩
theorem Blk.cell {w : World} {g : Nat} {cs : Array Value} (h : Blk w g cs) (i : Nat) (v : Value) (hv : cs[i]? = some v) : w.cell? ⟨g, i, none⟩ = some v := (h.c i).trans hv
end Go.Proofs.YtdeapbihbhoefaaGreatDoor.Calm

/- Regions whose order is open, and whose head makes memory: each operation leaves a value of which something is known, whatever else has come up; then a forced tail. No program. -/
namespace Go.Proofs.YtdeapbihbhoefaaGreatDoor.Rel
open Go.RowKit

/-- What is known of a value in a world. -/
abbrev Know := Value → World → Prop
/-- .. and stays known when only new memory turns. -/
def Stable (R : Know) : Prop := ∀ v W W', R v W → Below W.heap.size W W' → R v W'

section
variable {P : Program} {ops : Array Oper}

def dst (ops : Array Oper) (j : Nat) : Option Tmp := (ops[j]?).bind (·.dst)

/-- The values of the operations that have come up, in their slots. -/
def puts (ops : Array Oper) (x : Nat → Value) (p : Nat → Bool) : List Nat → Act → Act
  | [], a => a
  | j :: L, a => puts ops x p L (if p j then a.put (dst ops j) (x j) else a)

def upd {α : Type} (x : Nat → α) (i : Nat) (v : α) : Nat → α := fun j => if j = i then v else x j

theorem puts_agree {x x' : Nat → Value} {p p' : Nat → Bool} : ∀ (L : List Nat) (a : Act), (∀ j ∈ L, p j = p' j ∧ (p j = true → x j = x' j)) → puts ops x p L a = puts ops x' p' L a
  | [], _, _ => rfl
  | j :: L, a, h => by
    obtain ⟨h1, h2⟩ := h j (by simp)
    have h3 : ∀ k ∈ L, p k = p' k ∧ (p k = true → x k = x' k) := fun k hk => h k (by simp [hk])
    unfold puts
    by_cases hp : p j = true
    · rw [if_pos hp, if_pos (h1 ▸ hp), h2 hp]
      exact puts_agree L _ h3
    · rw [if_neg hp, if_neg (by rw [← h1]; exact hp)]
      exact puts_agree L _ h3

theorem puts_put {x : Nat → Value} {p : Nat → Bool} {d : Option Tmp} {v : Value} : ∀ (L : List Nat) (a : Act), (∀ j ∈ L, p j = true → ∀ t, d = some t → dst ops j ≠ some t) → puts ops x p L (a.put d v) = (puts ops x p L a).put d v
  | [], _, _ => rfl
  | j :: L, a, h => by
    have h3 : ∀ k ∈ L, p k = true → ∀ t, d = some t → dst ops k ≠ some t := fun k hk => h k (by simp [hk])
    unfold puts
    by_cases hp : p j = true
    · rw [if_pos hp, if_pos hp, Act.put_comm a v (x j) (h j (by simp) hp)]
      exact puts_put L _ h3
    · rw [if_neg hp, if_neg hp]
      exact puts_put L _ h3

/-- distinct slots. -/
def Apart (ops : Array Oper) (n : Nat) : Prop := ∀ i j, i < n → j < n → i ≠ j → ∀ t, dst ops i = some t → dst ops j ≠ some t
def apartB (ops : Array Oper) (n : Nat) : Bool := (List.range n).all fun i => (List.range n).all fun j => i == j || (match dst ops i, dst ops j with | some a, some b => a != b | _, _ => true)
theorem apart_of {n : Nat} (h : apartB ops n = true) : Apart ops n := by
  intro i j hi hj hij t ht hj'
  have h1 := List.all_eq_true.1 (List.all_eq_true.1 h i (List.mem_range.2 hi)) j (List.mem_range.2 hj)
  simp [hij, ht, hj'] at h1

theorem puts_new {x : Nat → Value} {p : Nat → Bool} {i : Nat} {v : Value} {n : Nat} (hap : Apart ops n) (hi : i < n) (hpi : p i = false) :
    ∀ (L : List Nat) (a : Act), L.Nodup → i ∈ L → (∀ j ∈ L, j < n) → (puts ops x p L a).put (dst ops i) v = puts ops (upd x i v) (upd p i true) L a
  | [], _, _, h, _ => by simp at h
  | j :: L, a, hn, hm, hl => by
    rw [List.nodup_cons] at hn
    unfold puts
    by_cases hji : j = i
    · subst hji
      rw [if_neg (by rw [hpi]; exact Bool.false_ne_true), if_pos (by simp [upd])]
      have e1 : upd x j v j = v := by simp [upd]
      rw [e1, ← puts_put L a (fun k hk hpk t ht => hap j k hi (hl k (by simp [hk])) (fun e => hn.1 (e ▸ hk)) t ht)]
      refine puts_agree L _ (fun k hk => ?_)
      have hkj : k ≠ j := fun e => hn.1 (e ▸ hk)
      exact ⟨by simp [upd, hkj], fun _ => by simp [upd, hkj]⟩
    · have e1 : upd x i v j = x j := by simp [upd, hji]
      have e2 : upd p i true j = p j := by simp [upd, hji]
      rw [e1, e2]
      exact puts_new hap hi hpi L _ hn.2 ((List.mem_cons.1 hm).resolve_left (Ne.symm hji)) (fun k hk => hl k (by simp [hk]))

theorem put_size (a : Act) (d : Option Tmp) (v : Value) : (a.put d v).tmps.size = a.tmps.size := by
  cases d <;> simp [Act.put]
theorem puts_size {x : Nat → Value} {p : Nat → Bool} : ∀ (L : List Nat) (a : Act), (puts ops x p L a).tmps.size = a.tmps.size
  | [], _ => rfl
  | j :: L, a => by
    unfold puts
    rw [puts_size L]
    split
    · exact put_size _ _ _
    · rfl
theorem puts_other {x : Nat → Value} {p : Nat → Bool} {t : Tmp} : ∀ (L : List Nat) (a : Act), (∀ j ∈ L, dst ops j ≠ some t) → (puts ops x p L a).eval (.tmp t) = a.eval (.tmp t)
  | [], _, _ => rfl
  | j :: L, a, h => by
    unfold puts
    rw [puts_other L _ (fun k hk => h k (by simp [hk]))]
    split
    · exact Act.eval_put (fun d hd e => h j (by simp) (by injection e with e; rw [hd, e]))
    · rfl
theorem eval_put_same {a : Act} {t : Tmp} {v : Value} (h : t < a.tmps.size) : (a.put (some t) v).eval (.tmp t) = v := by
  simp [Act.put, Act.eval, h]
theorem puts_here {x : Nat → Value} {p : Nat → Bool} {i n : Nat} {t : Tmp} (hap : Apart ops n) (hi : i < n) (hp : p i = true) (hd : dst ops i = some t) :
    ∀ (L : List Nat) (a : Act), L.Nodup → i ∈ L → (∀ j ∈ L, j < n) → t < a.tmps.size → (puts ops x p L a).eval (.tmp t) = x i
  | [], _, _, h, _, _ => by simp at h
  | j :: L, a, hn, hm, hl, hs => by
    rw [List.nodup_cons] at hn
    unfold puts
    by_cases hji : j = i
    · subst hji
      rw [if_pos hp, puts_other L _ (fun k hk => hap j k hi (hl k (by simp [hk])) (fun e => hn.1 (e ▸ hk)) t hd), hd]
      exact eval_put_same hs
    · refine puts_here hap hi hp hd L _ hn.2 ((List.mem_cons.1 hm).resolve_left (Ne.symm hji)) (fun k hk => hl k (by simp [hk])) ?_
      split
      · rw [put_size]; exact hs
      · exact hs

/-- What an operation of the head must show: wherever it comes up. -/
def Ob (P : Program) (ops : Array Oper) (n : Nat) (w0 : World) (a0 : Act) (Γ : List Know) (o : Oper) (R : Know) : Prop :=
  ∀ (a : Act) (W : World), Below w0.heap.size w0 W → a.tmps.size = a0.tmps.size →
    (∀ e ∈ o.after, Region.binds .any e = true → ∀ t, dst ops e.on = some t → ∀ K, Γ[e.on]? = some K → K (a.eval (.tmp t)) W) →
    (∀ t, (∀ j, j < n → dst ops j ≠ some t) → a.eval (.tmp t) = a0.eval (.tmp t)) →
    ∀ (K : Act → World → Prop) (Q : Exit → Act → World → Prop), (∀ v W', R v W' → Below W.heap.size W W' → K (a.put o.dst v) W') → o.wp P a W K Q

theorem wanted_of {o : Oper} {a : Act} {g : Nat} {b : Bool} {t : Tmp} (hg : o.guard = some (g, b)) (hd : dst ops g = some t) (h1 : a.eval (.tmp t) = .bool b) (h3 : t < a.tmps.size) : Region.wanted o (yielded ops a.tmps) = true := by
  have h4 : a.tmps[t]? = some (.bool b) := by
    rw [Array.getElem?_eq_getElem h3]
    simpa [Act.eval, Array.getD, h3] using h1
  have hd' : (ops[g]?).bind (·.dst) = some t := hd
  unfold Region.wanted yielded
  rw [hg]
  simp only [hd', Option.bind_some, h4]
  simp
/-- The operation is carried out: it has no guard, or the guard is known. -/
def GOK (ops : Array Oper) (Γ : List Know) (o : Oper) : Prop :=
  o.guard = none ∨ ∃ g b t, o.guard = some (g, b) ∧ (∃ e ∈ o.after, Region.binds .any e = true ∧ e.on = g) ∧ dst ops g = some t ∧ Γ[g]? = some (fun u _ => u = .bool b)
theorem GOK.mono {Γ Δ : List Know} {o : Oper} (h : GOK ops Γ o) (hsub : ∀ (g : Nat) (K : Know), Γ[g]? = some K → Δ[g]? = some K) : GOK ops Δ o := by
  rcases h with h | ⟨g, b, t, h1, h2, h3, h4⟩
  · exact .inl h
  · exact .inr ⟨g, b, t, h1, h2, h3, hsub _ _ h4⟩
/-- The walk in the order of the text: at each operation something that stays known is chosen. -/
def walk (P : Program) (ops : Array Oper) (n : Nat) (w0 : World) (a0 : Act) (T : List Know → Prop) : List Know → List Oper → Prop
  | Γ, [] => T Γ
  | Γ, o :: l => ∃ R, Stable R ∧ GOK ops Γ o ∧ (dst ops Γ.length = o.dst → Ob P ops n w0 a0 Γ o R) ∧ walk P ops n w0 a0 T (Γ ++ [R]) l

/-- all edges go back. -/
def backB (ops : Array Oper) : Bool := (List.range ops.size).all fun i => match ops[i]? with | some o => o.after.all fun e => decide (e.on < i) || !Region.binds .any e | none => true

theorem walk_all {n : Nat} {w0 : World} {a0 : Act} {T : List Know → Prop} : ∀ (l : List Oper) (Γ : List Know), walk P ops n w0 a0 T Γ l →
    ∃ Δ : List Know, Δ.length = l.length ∧ T (Γ ++ Δ) ∧ ∀ k o, l[k]? = some o → ∃ R, Δ[k]? = some R ∧ Stable R ∧ GOK ops (Γ ++ Δ.take k) o ∧ (dst ops (Γ.length + k) = o.dst → Ob P ops n w0 a0 (Γ ++ Δ.take k) o R)
  | [], Γ, h => ⟨[], rfl, by simpa [walk] using h, fun k o hk => by simp at hk⟩
  | o :: l, Γ, h => by
    obtain ⟨R, hs, hg, hob, hw⟩ := h
    obtain ⟨Δ, hl, hT, hall⟩ := walk_all l _ hw
    refine ⟨R :: Δ, by simp [hl], by simpa using hT, fun k o' hk => ?_⟩
    cases k with
    | zero =>
      obtain rfl : o = o' := by simpa using hk
      exact ⟨R, rfl, hs, by simpa using hg, by simpa using hob⟩
    | succ k =>
      obtain ⟨R', h1, h2, h3, h4⟩ := hall k o' (by simpa using hk)
      refine ⟨R', by simpa using h1, h2, by simpa using h3, fun hd => ?_⟩
      have := h4 (by rw [← hd]; congr 1; simp; omega)
      simpa using this

theorem Ob.mono {n : Nat} {w0 : World} {a0 : Act} {Γ Δ : List Know} {o : Oper} {R : Know} (h : Ob P ops n w0 a0 Γ o R) (hsub : ∀ e ∈ o.after, ∀ K, Γ[e.on]? = some K → Δ[e.on]? = some K) : Ob P ops n w0 a0 Δ o R :=
  fun a W hb hz hd hbase K Q hK => h a W hb hz (fun e he hbd t ht K' hK' => hd e he hbd t ht K' (hsub e he K' hK')) hbase K Q hK

/-- What holds while the head is on its way. -/
structure Inv (ops : Array Oper) (n : Nat) (w0 : World) (a0 : Act) (Γ : List Know) (listed : Array Bool) (a : Act) (W : World) : Prop where
  below : Below w0.heap.size w0 W
  vals : ∃ x : Nat → Value, a = puts ops x (fun j => listed.getD j false) (List.range n) a0 ∧ ∀ j, j < n → listed.getD j false = true → ∀ K, Γ[j]? = some K → K (x j) W

theorem countP_upd {i : Nat} {p : Nat → Bool} (hp : p i = true) : ∀ (L : List Nat), L.Nodup → i ∈ L → L.countP p = L.countP (upd p i false) + 1
  | [], _, h => by simp at h
  | j :: L, hn, hm => by
    rw [List.nodup_cons] at hn
    by_cases hji : j = i
    · subst hji
      have e : ∀ M : List Nat, j ∉ M → M.countP (upd p j false) = M.countP p := by
        intro M hM
        induction M with
        | nil => rfl
        | cons k M ih =>
          have hk : k ≠ j := fun e => hM (by simp [e])
          simp [List.countP_cons, ih (fun h => hM (by simp [h])), upd, hk]
      simp [List.countP_cons, hp, upd, e L hn.1]
    · have := countP_upd hp L hn.2 ((List.mem_cons.1 hm).resolve_left (Ne.symm hji))
      have e : upd p i false j = p j := by simp [upd, hji]
      simp only [List.countP_cons, this, e]
      omega

def left (n : Nat) (listed : Array Bool) : Nat := (List.range n).countP fun j => !listed.getD j false

def Ln (n size : Nat) : Array Bool := ((List.range size).map fun j => decide (j < n)).toArray
def okB (ops : Array Oper) (n : Nat) : Bool :=
  decide (n < ops.size) && Region.sinkB .any ops n && Region.chainB .any ops n && Region.seqB .any ops (ops.size - n) n (Ln n ops.size) && apartB ops n && backB ops
def sizeB (ops : Array Oper) (n N : Nat) : Bool := (List.range n).all fun i => match dst ops i with | some t => decide (t < N) | none => true

theorem all_listed {n : Nat} {listed : Array Bool} (h : left n listed = 0) : ∀ j, j < n → listed.getD j false = true := by
  intro j hj
  have := List.countP_eq_zero.1 h j (List.mem_range.2 hj)
  simpa using this
theorem listed_Ln {n : Nat} {listed : Array Bool} (inv : HeadInv .any ops n listed) (h : left n listed = 0) (hn : n ≤ ops.size) : listed = Ln n ops.size := by
  apply Array.ext
  · simp [Ln, inv.size]
  · intro j h1 h2
    have hj : j < ops.size := by rw [← inv.size]; exact h1
    by_cases hjn : j < n
    · have := all_listed h j hjn
      simp [h1] at this
      simp [Ln, this, hjn]
    · have := inv.tail j (by omega) hj
      simp [h1] at this
      simp [Ln, this, hjn]
theorem some_ready {n : Nat} {listed : Array Bool} (inv : HeadInv .any ops n listed) (hback : backB ops = true) (hn : n < ops.size) :
    ∀ (m k : Nat), k < m → k < n → listed.getD k true = false → ∃ i, i ∈ Region.ready .any ops listed
  | 0, _, h, _, _ => by omega
  | m + 1, k, hk, hkn, hun => by
    obtain ⟨o, ho⟩ : ∃ o, ops[k]? = some o := ⟨_, Array.getElem?_eq_getElem (by omega)⟩
    by_cases hall : ∀ e ∈ o.after, Region.binds .any e = true → listed.getD e.on false = true
    · exact ⟨k, mem_ready.2 ⟨hun, o, ho, hall⟩⟩
    · have : ∃ e, e ∈ o.after ∧ Region.binds .any e = true ∧ ¬ listed.getD e.on false = true := by
        apply Classical.byContradiction
        intro hno
        exact hall (fun e he hb => Classical.byContradiction fun h => hno ⟨e, he, hb, h⟩)
      obtain ⟨e, he, hb, hne⟩ := this
      have h1 := List.all_eq_true.1 hback k (List.mem_range.2 (by omega))
      simp only [ho] at h1
      have h2 := Array.all_eq_true'.1 h1 e he
      have hlt : e.on < k := by simpa [hb] using h2
      have hs : e.on < listed.size := by rw [inv.size]; omega
      exact some_ready inv hback hn m e.on (by omega) (by omega) (getD_in hs (by simpa using hne))

theorem go {n : Nat} {Q : Exit → Act → World → Prop} {w0 : World} {a0 : Act} {Γ : List Know} (hok : okB ops n = true) (hsz : sizeB ops n a0.tmps.size = true)
    (hΓ : ∀ k, k < n → ∃ o R, ops[k]? = some o ∧ Γ[k]? = some R ∧ Stable R ∧ GOK ops Γ o ∧ Ob P ops n w0 a0 Γ o R)
    (hend : ∀ (x : Nat → Value) (W : World), Below w0.heap.size w0 W → (∀ j, j < n → ∀ K, Γ[j]? = some K → K (x j) W) → wpAny P .any ops Q (ops.size - n) (Ln n ops.size) (puts ops x (fun _ => true) (List.range n) a0) W) :
    ∀ (f : Nat) (listed : Array Bool) (a : Act) (W : World), HeadInv .any ops n listed → left n listed = f → Inv ops n w0 a0 Γ listed a W → wpAny P .any ops Q (f + (ops.size - n)) listed a W := by
  simp only [okB, Bool.and_eq_true, decide_eq_true_eq] at hok
  obtain ⟨⟨⟨⟨⟨hn, hs⟩, hc⟩, _⟩, hap⟩, hback⟩ := hok
  have hap := apart_of hap
  intro f
  induction f with
  | zero =>
    intro listed a W inv hl hI
    obtain ⟨hb, x, rfl, hx⟩ := hI
    have hall := all_listed hl
    rw [Nat.zero_add]
    rw [puts_agree (p' := fun _ => true) (x' := x) (List.range n) a0 (fun j hj => ⟨hall j (List.mem_range.1 hj), fun _ => rfl⟩), listed_Ln inv hl (by omega)]
    exact hend x W hb (fun j hj K hK => hx j hj (hall j hj) K hK)
  | succ f ih =>
    intro listed a W inv hl hI
    have hex : ∃ k, k < n ∧ listed.getD k true = false := by
      apply Classical.byContradiction
      intro hno
      have : left n listed = 0 := List.countP_eq_zero.2 (fun j hj => by
        have hj := List.mem_range.1 hj
        have hjs : j < listed.size := by rw [inv.size]; omega
        cases h : listed.getD j false with
        | true => simp
        | false => exact absurd ⟨j, hj, getD_in hjs h⟩ hno)
      omega
    obtain ⟨k, hk, hun⟩ := hex
    rw [show f + 1 + (ops.size - n) = (f + (ops.size - n)) + 1 by omega]
    refine ⟨fun h0 => ?_, fun i hi => ?_⟩
    · obtain ⟨i, hi⟩ := some_ready inv hback hn (k + 1) k (by omega) hk hun
      rw [h0] at hi
      cases hi
    have hin : i < n := by
      rcases Nat.lt_or_ge i n with h | h
      · exact h
      · exact absurd hi (tail_waits hs hc hn inv _ k rfl hk hun i h)
    obtain ⟨hiun, oi, hoi, hdeps⟩ := mem_ready.1 hi
    obtain ⟨o, R, ho, hR, hst, hg, hob⟩ := hΓ i hin
    obtain rfl : oi = o := Option.some.inj (hoi.symm.trans ho)
    obtain ⟨hb, x, rfl, hx⟩ := hI
    have hdi : dst ops i = oi.dst := by simp [dst, ho]
    have his : i < listed.size := by rw [inv.size]; omega
    have hif : listed.getD i false = false := getD_both hiun
    have hszt : ∀ j t, j < n → dst ops j = some t → t < a0.tmps.size := fun j t hj hd => by
      have := List.all_eq_true.1 hsz j (List.mem_range.2 hj)
      simpa [hd] using this
    have back : ∀ e ∈ oi.after, Region.binds .any e = true → e.on < i := fun e he hbd => by
      have h1 := List.all_eq_true.1 hback i (List.mem_range.2 (by omega))
      simp only [ho] at h1
      simpa [hbd] using Array.all_eq_true'.1 h1 e he
    unfold wpOp
    simp only [ho]
    have hwant : Region.wanted oi (yielded ops (puts ops x (fun j => listed.getD j false) (List.range n) a0).tmps) = true := by
      rcases hg with hg | ⟨g, b, t, hg, ⟨e, he, hbd, rfl⟩, hd, hK⟩
      · simp [Region.wanted, hg]
      · have hel := hdeps e he hbd
        have hen : e.on < n := by have := back e he hbd; omega
        have h1 := puts_here (x := x) (p := fun j => listed.getD j false) hap hen hel hd (List.range n) a0 (List.nodup_range) (List.mem_range.2 hen) (fun j hj => List.mem_range.1 hj) (hszt _ _ hen hd)
        have h2 : x e.on = .bool b := hx e.on hen hel _ hK
        have h3 : t < (puts ops x (fun j => listed.getD j false) (List.range n) a0).tmps.size := by rw [puts_size]; exact hszt _ _ hen hd
        rw [h2] at h1
        exact wanted_of hg hd h1 h3
    rw [if_pos hwant]
    refine .inl (hob _ W hb (puts_size _ _) ?_ ?_ _ _ ?_)
    · intro e he hbd t ht K hK
      have hel := hdeps e he hbd
      have hen : e.on < n := by have := back e he hbd; omega
      rw [puts_here hap hen hel ht (List.range n) a0 (List.nodup_range) (List.mem_range.2 hen) (fun j hj => List.mem_range.1 hj) (hszt _ _ hen ht)]
      exact hx e.on hen hel K hK
    · intro t ht
      exact puts_other _ _ (fun j hj => ht j (List.mem_range.1 hj))
    · intro v W' hv hb'
      have hget : ∀ j, (listed.setIfInBounds i true).getD j false = upd (fun j => listed.getD j false) i true j := by
        intro j
        by_cases hji : j = i
        · subst hji
          simp [upd, his]
        · rw [getD_set_ne false (Ne.symm hji)]
          simp [upd, hji]
      refine ih _ _ W' (inv.set hi hin) ?_ ⟨hb.trans (hb'.mono hb.size), upd x i v, ?_, ?_⟩
      · have h1 := countP_upd (i := i) (p := fun j => !listed.getD j false) (by simp [hif]) (List.range n) List.nodup_range (List.mem_range.2 hin)
        have h2 : left n (listed.setIfInBounds i true) = (List.range n).countP (upd (fun j => !listed.getD j false) i false) := by
          unfold left
          congr 1
          funext j
          rw [hget j]
          by_cases hji : j = i <;> simp [upd, hji]
        unfold left at hl
        omega
      · rw [← hdi, puts_new hap hin hif (List.range n) a0 List.nodup_range (List.mem_range.2 hin) (fun j hj => List.mem_range.1 hj)]
        exact puts_agree _ _ (fun j _ => ⟨(hget j).symm, fun _ => rfl⟩)
      · intro j hj hlj K hK
        rw [hget j] at hlj
        by_cases hji : j = i
        · subst hji
          obtain rfl : R = K := Option.some.inj (hR.symm.trans hK)
          simpa [upd] using hv
        · have e1 : upd x i v j = x j := by simp [upd, hji]
          have e2 : listed.getD j false = true := by simpa [upd, hji] using hlj
          rw [e1]
          obtain ⟨_, R', _, hR', hst', _⟩ := hΓ j hj
          obtain rfl : R' = K := Option.some.inj (hR'.symm.trans hK)
          exact hst' _ _ _ (hx j hj e2 _ hK) hb'

/-- The frame with all values of the head. -/
def fill : List Oper → Nat → (Nat → Value) → Act → Act
  | [], _, _, a => a
  | o :: l, k, x, a => fill l (k + 1) x (a.put o.dst (x k))
theorem fill_puts {x : Nat → Value} : ∀ (l : List Oper) (k : Nat) (a : Act), (∀ j, j < l.length → l[j]? = ops[k + j]?) → fill l k x a = puts ops x (fun _ => true) (List.range' k l.length) a
  | [], _, _, _ => rfl
  | o :: l, k, a, h => by
    have h0 : ops[k]? = some o := by simpa using (h 0 (by simp)).symm
    have hd : dst ops k = o.dst := by simp [dst, h0]
    simp only [fill, List.length_cons, List.range'_succ, puts, if_true, hd]
    exact fill_puts l (k + 1) _ (fun j hj => by have := h (j + 1) (by simp; omega); simpa [Nat.add_assoc, Nat.add_comm 1 j] using this)

/-- ████ The region. -/
theorem region_w {Q : Exit → Act → World → Prop} {a : Act} {w : World} {l : List Oper} (n : Nat) (hok : okB l.toArray n = true) (hsz : sizeB l.toArray n a.tmps.size = true)
    (h : walk P l.toArray n w a (fun (Γ : List Know) => ∀ (x : Nat → Value) (W : World), Below w.heap.size w W → (∀ (j : Nat) (K : Know), Γ[j]? = some K → K (x j) W) → wpList P l.toArray Q (l.drop n) (fill (l.take n) 0 x a) W) [] (l.take n)) :
    wpAny P .any l.toArray Q l.toArray.size (Array.replicate l.toArray.size false) a { w with drawn := w.drawn + 1 } := by
  have hok' := hok
  simp only [okB, Bool.and_eq_true, decide_eq_true_eq] at hok'
  obtain ⟨⟨⟨⟨⟨hn, _⟩, _⟩, hseq⟩, _⟩, hback⟩ := hok'
  have hn' : n < l.length := by simpa using hn
  have htl : (l.take n).length = n := by simp; omega
  obtain ⟨Δ, hlen, hT, hall⟩ := walk_all _ _ h
  rw [List.nil_append] at hT
  rw [htl] at hlen
  have hget : ∀ k, k < n → (l.take n)[k]? = l.toArray[k]? := fun k hk => by simp [List.getElem?_take, hk]
  have hΓ : ∀ k, k < n → ∃ o R, l.toArray[k]? = some o ∧ Δ[k]? = some R ∧ Stable R ∧ GOK l.toArray Δ o ∧ Ob P l.toArray n w a Δ o R := by
    intro k hk
    obtain ⟨o, ho⟩ : ∃ o, l.toArray[k]? = some o := ⟨_, Array.getElem?_eq_getElem (by simp; omega)⟩
    obtain ⟨R, h1, h2, h3, h4⟩ := hall k o (by rw [hget k hk, ho])
    rw [List.nil_append] at h3
    refine ⟨o, R, ho, h1, h2, h3.mono (fun g K hK => by
      rw [List.getElem?_take] at hK
      split at hK
      · exact hK
      · cases hK), (h4 (by simp only [List.length_nil, Nat.zero_add]; simp [dst, ho])).mono fun e he K hK => ?_⟩
    rw [List.nil_append] at hK
    rw [List.getElem?_take] at hK
    split at hK
    · exact hK
    · cases hK
  have inv0 : HeadInv .any l.toArray n (Array.replicate l.toArray.size false) :=
    ⟨by simp, fun j oj _ hl => (by rw [getD_replicate_false] at hl; cases hl), fun t _ ht => getD_in (by simpa using ht) (getD_replicate_false _ _)⟩
  have hleft : left n (Array.replicate l.toArray.size false) = n := by
    unfold left
    rw [List.countP_eq_length.2 (fun j _ => by rw [getD_replicate_false]; rfl), List.length_range]
  have hputs : ∀ x, puts l.toArray x (fun _ => true) (List.range n) a = fill (l.take n) 0 x a := fun x => by
    rw [fill_puts (ops := l.toArray) (l.take n) 0 a (fun j hj => by rw [htl] at hj; rw [hget j hj, Nat.zero_add]), htl, List.range_eq_range']
  have H := go (P := P) (Q := Q) (w0 := w) (a0 := a) hok hsz hΓ (fun x W hb hx => by
    have hdl : (l.drop n).length = l.toArray.size - n := by simp
    have := wpAny_of_seq (md := .any) (Q' := Q) (ops := l.toArray) (P := P) (l.drop n) n (Ln n l.toArray.size) (fill (l.take n) 0 x a) W (fun j => by simp [List.getElem?_drop]) (by rw [hdl]; exact hseq)
      (hT x W hb (fun j K hK => hx j (by
        have := (List.getElem?_eq_some_iff.1 hK).1
        omega) K hK))
    rw [hputs x, ← hdl]
    exact this) n _ a { w with drawn := w.drawn + 1 } inv0 hleft ⟨Calm.below_drawn w, fun _ => undef, by
      rw [puts_agree (p' := fun _ => false) (x' := fun _ => undef) (List.range n) a (fun j _ => ⟨getD_replicate_false _ _, fun _ => rfl⟩)]
      exact (show ∀ (L : List Nat) (b : Act), b = puts l.toArray (fun _ => undef) (fun _ => false) L b from fun L => by
        induction L with
        | nil => intro b; rfl
        | cons j L ih => intro b; unfold puts; simpa using ih b) _ _, fun j _ hl => by rw [getD_replicate_false] at hl; cases hl⟩
  have e : n + (l.toArray.size - n) = l.toArray.size := by omega
  rw [e] at H
  exact H
/-! ### As a prover walks it -/
abbrev Ctx := List (Option Tmp × Know)
def dep1 : Option (Option Tmp × Know) → Act → World → Prop
  | some (some t, K), a, W => K (a.eval (.tmp t)) W
  | _, _, _ => True
def deps (Γ : Ctx) (a : Act) (W : World) : List Nat → Prop
  | [] => True
  | j :: js => dep1 Γ[j]? a W ∧ deps Γ a W js
theorem deps_of {Γ : Ctx} {a : Act} {W : World} : ∀ (js : List Nat), (∀ j ∈ js, dep1 Γ[j]? a W) → deps Γ a W js
  | [], _ => trivial
  | j :: js, h => ⟨h j (by simp), deps_of js (fun k hk => h k (by simp [hk]))⟩
def facts (x : Nat → Value) (W : World) : Nat → Ctx → Prop
  | _, [] => True
  | k, (_, K) :: l => K (x k) W ∧ facts x W (k + 1) l
theorem facts_of {x : Nat → Value} {W : World} : ∀ (l : Ctx) (k : Nat), (∀ (j : Nat) (K : Know), (l.map (·.2))[j]? = some K → K (x (k + j)) W) → facts x W k l
  | [], _, _ => trivial
  | (d, K) :: l, k, h => ⟨h 0 K rfl, facts_of l (k + 1) (fun j K' hj => by have := h (j + 1) K' (by simpa using hj); rw [show k + 1 + j = k + (j + 1) by omega]; exact this)⟩
section
variable {DS : List Tmp} {w0 : World} {a0 : Act} {T : Ctx → Prop} {Γ : Ctx} {o : Oper} {rest : List Oper}
theorem stable_eq (v : Value) : Stable (fun u _ => u = v) := fun _ _ _ h _ => h
/-- A new block that holds just these cells. -/
def New (B : Nat) (cs : Array Value) : Know := fun u W => ∃ g, u = .pointer (some ⟨g, 0, none⟩) ∧ B ≤ g ∧ Calm.Blk W g cs
theorem stable_new (B : Nat) (cs : Array Value) : Stable (New B cs) := fun _ _ _ ⟨g, h1, h2, h3⟩ hb => ⟨g, h1, h2, h3.below hb⟩
end
end
end Go.Proofs.YtdeapbihbhoefaaGreatDoor.Rel

/- More for regions whose head makes memory: a slice of its own. -/
namespace Go.Proofs.YtdeapbihbhoefaaGreatDoor.Rel
open Go.RowKit
variable {P : Program} {DS : List Tmp} {w0 : World} {a0 : Act} {T : Ctx → Prop} {Γ : Ctx} {o : Oper} {rest : List Oper}
/-- A new slice that holds just these cells. -/
def NewS (B n c : Nat) (cs : Array Value) : Know := fun u W => ∃ g, u = .slice (some ⟨g, 0, none⟩) n c ∧ B ≤ g ∧ Calm.Blk W g cs
end Go.Proofs.YtdeapbihbhoefaaGreatDoor.Rel
namespace Go.Proofs.YtdeapbihbhoefaaGreatDoor.Calm
open Go.RowKit
end Go.Proofs.YtdeapbihbhoefaaGreatDoor.Calm
