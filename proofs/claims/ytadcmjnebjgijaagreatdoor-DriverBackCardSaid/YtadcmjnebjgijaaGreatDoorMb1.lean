/- Part 1 of the texts of the claim: T1, Calm, A1, T2. -/
import Derived.Lib.Split
import Derived.Lib.SplitLaws
import Derived.Lib.ItoaNum
import Derived.Lib.AtoiAll
import Derived.Lib.IndexBytes
import Derived.StillTail
import Derived.Deep.Quiet
import Derived.Below
import Derived.OneCell
import Derived.WalkKit
import Derived.Test.YtadcmjnebjgijaaGreatDoorRows
import Derived.WalkSpells
import Derived.WalkLawsBesides
import Derived.Lib.Hide

/- Texts, plain: words between blanks; numerals. No program. -/
namespace Go.Proofs.YtadcmjnebjgijaaGreatDoor
open Go.Lib

/-- the words between bytes c. -/
def cutL (c : UInt8) : List UInt8 → List (List UInt8)
  | [] => [[]]
  | x :: r => if x = c then [] :: cutL c r else match cutL c r with
    | [] => [[x]]
    | h :: t => (x :: h) :: t
theorem cutL_ne (c : UInt8) : ∀ l, cutL c l ≠ []
  | [] => by simp [cutL]
  | x :: r => by
    unfold cutL
    split
    · simp
    · split <;> simp
theorem splitK_ne (sep : List UInt8) (k : Nat) (s : List UInt8) : splitK sep 0 k s ≠ [] := by
  cases k with
  | zero => simp [splitK]
  | succ k => unfold splitK; split <;> simp
theorem index_cons_ne {x c : UInt8} (h : x ≠ c) (r : List UInt8) : index (x :: r) [c] = if index r [c] == -1 then -1 else index r [c] + 1 := by
  rw [index_one, index_one, indexByte, if_neg (by simpa using h)]
theorem index_cons_eq (c : UInt8) (r : List UInt8) : index (c :: r) [c] = 0 := by
  rw [index_one, indexByte, if_pos (by simp)]
theorem splitK_cons {x c : UInt8} (h : x ≠ c) (k : Nat) (r : List UInt8) : splitK [c] 0 k (x :: r) = match splitK [c] 0 k r with | [] => [[x]] | a :: t => (x :: a) :: t := by
  cases k with
  | zero => rfl
  | succ k =>
    unfold splitK
    rw [index_cons_ne h]
    by_cases hm : index r [c] = -1
    · rw [hm]; rfl
    · have hge := index_ge r [c]
      obtain ⟨i, hi⟩ : ∃ i : Nat, index r [c] = i := ⟨(index r [c]).toNat, by omega⟩
      rw [hi]
      have e1 : ((i : Int) == -1) = false := beq_eq_false_iff_ne.2 (by omega)
      have e2 : ((i : Int) + 1 == -1) = false := beq_eq_false_iff_ne.2 (by omega)
      rw [e1]
      simp only [Bool.false_eq_true, if_false]
      rw [e2]
      simp only [Bool.false_eq_true, if_false]
      rw [show ((i : Int) + 1).toNat = i + 1 by omega, Int.toNat_natCast]
      rfl
theorem split_cut (c : UInt8) : ∀ s, split s [c] = cutL c s
  | [] => rfl
  | x :: r => by
    have ih := split_cut c r
    unfold split at ih ⊢
    unfold cutL
    by_cases h : x = c
    · subst h
      rw [if_pos rfl, count_cons_eq, Nat.add_comm, splitK, index_cons_eq]
      simp [ih]
    · rw [if_neg h, count_cons_ne x c r h, splitK_cons h, ih]

/-- a numeral of digits alone. -/
def digB (c : UInt8) : Bool := decide (48 ≤ c.toNat) && decide (c.toNat ≤ 57)
def stepL (n : Nat) (c : UInt8) : Nat := 10 * n + (c.toNat - 48)
def valL (l : List UInt8) : Nat := l.foldl stepL 0
def Canon (l : List UInt8) : Prop := l ≠ [] ∧ l.all digB = true ∧ (1 < l.length → l.head? ≠ some 48)
instance (l : List UInt8) : Decidable (Canon l) := by unfold Canon; exact inferInstance
def numL (l : List UInt8) : Option Nat := if l.length ≤ 9 ∧ Canon l then some (valL l) else none
theorem valL_snoc (l : List UInt8) (c : UInt8) : valL (l ++ [c]) = 10 * valL l + (c.toNat - 48) := by
  unfold valL; rw [List.foldl_append]; rfl
theorem digB_iff {c : UInt8} : digB c = true ↔ 48 ≤ c.toNat ∧ c.toNat ≤ 57 := by simp [digB]
theorem dig_ofNat {d : Nat} (h : d < 10) : (UInt8.ofNat (48 + d)).toNat = 48 + d := by
  rw [UInt8.toNat_ofNat']; omega
theorem ofNat_dig {c : UInt8} (h : digB c = true) : UInt8.ofNat (48 + (c.toNat - 48)) = c := by
  have := digB_iff.1 h
  rw [show 48 + (c.toNat - 48) = c.toNat by omega]
  exact UInt8.ofNat_toNat
theorem snoc_cases {α : Type} (l : List α) : l = [] ∨ ∃ i c, l = i ++ [c] := by
  rcases List.eq_nil_or_concat l with h | ⟨i, c, h⟩
  · exact .inl h
  · exact .inr ⟨i, c, by simpa using h⟩
theorem head_app {i : List UInt8} (hi : i ≠ []) (t : List UInt8) : (i ++ t).head? = i.head? := by
  cases i with
  | nil => exact absurd rfl hi
  | cons a r => rfl
theorem valL_pos : ∀ (n : Nat) (l : List UInt8), l.length = n → l ≠ [] → l.all digB = true → l.head? ≠ some 48 → 1 ≤ valL l
  | 0, l, hn, h, _, _ => absurd (List.eq_nil_of_length_eq_zero hn) h
  | n + 1, l, hn, h, hd, hh => by
    rcases snoc_cases l with rfl | ⟨i, c, rfl⟩
    · exact absurd rfl h
    · rw [valL_snoc]
      by_cases hi : i = []
      · subst hi
        simp at hh hd
        have := digB_iff.1 hd
        have : c.toNat ≠ 48 := fun e => hh (UInt8.toNat_inj.1 (by rw [e]; rfl))
        omega
      · have ih := valL_pos n i (by simpa using hn) hi (by simp at hd ⊢; exact hd.1) (by
          intro e; apply hh
          rw [head_app hi]; exact e)
        omega
theorem dec_of_canon : ∀ (n : Nat) (l : List UInt8), l.length = n → Canon l → decDigits (valL l) = l
  | 0, l, hn, h => absurd (List.eq_nil_of_length_eq_zero hn) h.1
  | n + 1, l, hn, h => by
    obtain ⟨h1, h2, h3⟩ := h
    rcases snoc_cases l with rfl | ⟨i, c, rfl⟩
    · exact absurd rfl h1
    · have hc : digB c = true := by simp at h2; exact h2.2
      have hcd := digB_iff.1 hc
      rw [valL_snoc]
      by_cases hi : i = []
      · subst hi
        have e : valL [] = 0 := rfl
        rw [e, decDigits, dif_pos (by omega), show 10 * 0 + (c.toNat - 48) = c.toNat - 48 by omega, ofNat_dig hc]; rfl
      · have hlen : 1 < (i ++ [c]).length := by
          have := List.length_pos_iff.2 hi
          simp; omega
        have hh : i.head? ≠ some 48 := by
          intro e; apply h3 hlen
          rw [head_app hi]; exact e
        have hd : i.all digB = true := by simp at h2 ⊢; exact h2.1
        have hp := valL_pos i.length i rfl hi hd hh
        have ih := dec_of_canon n i (by simpa using hn) ⟨hi, hd, fun _ => hh⟩
        rw [decDigits, dif_neg (by omega), show (10 * valL i + (c.toNat - 48)) / 10 = valL i by omega, show (10 * valL i + (c.toNat - 48)) % 10 = c.toNat - 48 by omega, ih, ofNat_dig hc]
theorem canon_dec (u : Nat) : Canon (decDigits u) ∧ valL (decDigits u) = u ∧ (10 ≤ u → (decDigits u).head? ≠ some 48) := by
  induction u using Nat.strongRecOn with
  | _ u ih =>
    by_cases h : u < 10
    · rw [decDigits_one h]
      refine ⟨⟨by simp, by simp [digB_iff, dig_ofNat h]; omega, by simp⟩, ?_, by omega⟩
      unfold valL
      simp only [List.foldl_cons, List.foldl_nil, stepL]
      rw [dig_ofNat h]; omega
    · obtain ⟨⟨i1, i2, i3⟩, i4, i5⟩ := ih (u / 10) (by omega)
      have hd : u % 10 < 10 := Nat.mod_lt _ (by decide)
      have e : decDigits u = decDigits (u / 10) ++ [UInt8.ofNat (48 + u % 10)] := by rw [decDigits, dif_neg h]
      have hh : (decDigits u).head? ≠ some 48 := by
        rw [e, head_app i1]
        by_cases h2 : u / 10 < 10
        · rw [decDigits_one h2]
          intro e2
          simp only [List.head?_cons, Option.some.injEq] at e2
          have := congrArg UInt8.toNat e2
          rw [dig_ofNat h2] at this
          have : u / 10 = 0 := by simp at this; omega
          omega
        · exact i5 (by omega)
      refine ⟨⟨by rw [e]; simp, ?_, fun _ => hh⟩, ?_, fun _ => hh⟩
      · rw [e, List.all_append, i2]
        simp [digB_iff, dig_ofNat hd]; omega
      · rw [e, valL_snoc, i4, dig_ofNat hd]; omega
theorem valL_lt : ∀ (n : Nat) (l : List UInt8), l.length = n → l.all digB = true → valL l < 10 ^ l.length
  | 0, l, hn, _ => by rw [List.eq_nil_of_length_eq_zero hn]; decide
  | n + 1, l, hn, hd => by
    rcases snoc_cases l with rfl | ⟨i, c, rfl⟩
    · simp at hn
    · have ih := valL_lt n i (by simpa using hn) (by simp at hd ⊢; exact hd.1)
      have hc := digB_iff.1 (show digB c = true by simp at hd; exact hd.2)
      rw [valL_snoc, List.length_append, List.length_singleton, Nat.pow_succ]
      omega
theorem numL_some {l : List UInt8} {k : Nat} (h : numL l = some k) : k = valL l ∧ l.length ≤ 9 ∧ Canon l ∧ decDigits k = l ∧ k < 1000000000 := by
  unfold numL at h
  split at h
  · rename_i hc
    cases h
    refine ⟨rfl, hc.1, hc.2, dec_of_canon _ l rfl hc.2, ?_⟩
    have h1 := valL_lt _ l rfl hc.2.2.1
    have h2 : 10 ^ l.length ≤ 10 ^ 9 := Nat.pow_le_pow_right (by decide) hc.1
    omega
  · cases h
theorem numL_dec {u : Nat} (h : (decDigits u).length ≤ 9) : numL (decDigits u) = some u := by
  obtain ⟨h1, h2, _⟩ := canon_dec u
  unfold numL
  rw [if_pos ⟨h, h1⟩, h2]
theorem dec_len {u : Nat} (h : u < 1000000000) : (decDigits u).length ≤ 9 := by
  rw [decDigits_length]
  rcases Nat.lt_or_ge (nDigits u) 10 with h1 | h1
  · omega
  · exfalso
    have key : ∀ (n u : Nat), nDigits u = n + 1 → 10 ^ n ≤ u ∨ n = 0 := by
      intro n
      induction n with
      | zero => intro u _; exact .inr rfl
      | succ n ih =>
        intro u hu
        by_cases hs : u < 10
        · rw [nDigits_small hs] at hu; omega
        · rw [nDigits_big hs] at hu
          rcases ih (u / 10) (by omega) with h2 | h2
          · refine .inl ?_
            rw [Nat.pow_succ]; omega
          · subst h2; exact .inl (by simp; omega)
    obtain ⟨n, hn⟩ : ∃ n, nDigits u = n + 1 := ⟨nDigits u - 1, by omega⟩
    rcases key n u hn with h2 | h2
    · have : 10 ^ 9 ≤ 10 ^ n := Nat.pow_le_pow_right (by decide) (by omega)
      omega
    · omega
theorem foldl_ge : ∀ (l : List UInt8) (a : Nat), a ≤ l.foldl stepL a
  | [], _ => Nat.le_refl _
  | c :: r, a => Nat.le_trans (by unfold stepL; omega) (foldl_ge r (stepL a c))
theorem parse_val : ∀ (l : List UInt8) (a : Nat), l.all digB = true → l.foldl stepL a < 1844674407370955162 → parseUint10 a l = .ok (l.foldl stepL a)
  | [], a, _, _ => rfl
  | c :: r, a, hd, hv => by
    have hc := digB_iff.1 (show digB c = true by simp at hd; exact hd.1)
    have h1 := foldl_ge (c :: r) a
    have h2 := foldl_ge r (stepL a c)
    have e : (c :: r).foldl stepL a = r.foldl stepL (stepL a c) := rfl
    rw [e] at hv h1 ⊢
    have h3 : stepL a c = a * 10 + (c.toNat - 48) := by unfold stepL; omega
    rw [parseUint10, if_pos hc, if_neg (by omega), if_neg (by omega), ← h3]
    exact parse_val r _ (by simp at hd ⊢; exact hd.2) hv
/-- the program's test of a numeral and its number: the reference's. -/
theorem atoi_num {l : List UInt8} {k : Nat} (h : numL l = some k) : atoiAll l = .ok (k : Int) := by
  obtain ⟨rfl, h1, ⟨h2, h3, _⟩, _, h5⟩ := numL_some h
  match l, h2 with
  | c :: r, _ =>
    have hc := digB_iff.1 (show digB c = true by simp at h3; exact h3.1)
    have hp : parseMag (c :: r) = .ok (valL (c :: r)) := by
      unfold parseMag
      rw [if_neg (by simp)]
      exact parse_val _ 0 h3 (by show valL (c :: r) < _; omega)
    unfold atoiAll
    simp only []
    rw [if_neg (by omega), hp]
    simp only []
    rw [if_neg (by omega), if_neg (by omega), if_neg (by omega)]
theorem itoa_nat (k : Nat) : itoa (k : Int) = decDigits k := by
  unfold itoa
  rw [if_neg (by omega), Int.toNat_natCast]
theorem num_itoa {l : List UInt8} {v : Int} (h0 : 0 ≤ v) (h9 : l.length ≤ 9) (h : itoa v = l) : numL l = some v.toNat := by
  obtain ⟨k, rfl⟩ : ∃ k : Nat, v = k := ⟨v.toNat, by omega⟩
  rw [itoa_nat] at h
  subst h
  rw [numL_dec h9, Int.toNat_natCast]
end Go.Proofs.YtadcmjnebjgijaaGreatDoor

/- Regions whose order is open, and whose operations, but for a forced tail, each have one value in every world of a class: one walk in the order of the text serves. No program. -/
namespace Go.Proofs.YtadcmjnebjgijaaGreatDoor.Calm
open Go.RowKit

section
variable {P : Program} {ops : Array Oper} {md : Region.Mode} {C : World → Prop}

/-- The head of a region in any order, then L. -/
def head (P : Program) (md : Region.Mode) (ops : Array Oper) (C : World → Prop) (n : Nat) (L : Array Bool → Act → Prop) : Nat → Array Bool → Act → Prop
  | 0, listed, a => L listed a
  | f + 1, listed, a => Region.ready md ops listed ≠ [] ∧ ∀ i ∈ Region.ready md ops listed, i < n ∧ qOp P ops C i (head P md ops C n L f (listed.setIfInBounds i true)) a

theorem any_of_head {n g : Nat} {L : Array Bool → Act → Prop} {Q' : Exit → Act → World → Prop} (hL : ∀ listed a w, C w → L listed a → wpAny P md ops Q' g listed a w) :
    ∀ (f : Nat) (listed : Array Bool) (a : Act) (w : World), C w → head P md ops C n L f listed a → wpAny P md ops Q' (f + g) listed a w
  | 0, listed, a, w, hw, h => by rw [Nat.zero_add]; exact hL _ _ _ hw h
  | f + 1, listed, a, w, hw, h => by
    rw [show f + 1 + g = (f + g) + 1 by omega]
    exact ⟨fun h0 => absurd h0 h.1, fun i hi => wpOp_of_qOp hw (fun a' w' hw' h' => any_of_head hL f _ a' w' hw' h') (h.2 i hi).2⟩

theorem head_first {n i : Nat} {oi : Oper} {v : Value} {L : Array Bool → Act → Prop} (hi : ops[i]? = some oi) (hsel : ∀ (j : Nat) (o : Oper) cs b, ops[j]? = some o → o.op ≠ .select cs b)
    (hs : Region.sinkB md ops n = true) (hc : Region.chainB md ops n = true) (hn : n < ops.size) (hin : i < n)
    (hdone : ∀ listed a, L listed a → ∀ j ∈ Region.ready md ops listed, n ≤ j) :
    ∀ (f : Nat) (listed : Array Bool) (a : Act), HeadInv md ops n listed →
      (∀ j oj, ops[j]? = some oj → j ≠ i → listed.getD j true = false → (∀ e ∈ oj.after, Region.binds md e = true → e.on ≠ i) → oi.apart ops oj = true) →
      i ∈ Region.ready md ops listed → YieldsIn P ops C oi v a →
      head P md ops C n L f (listed.setIfInBounds i true) (a.put oi.dst v) → head P md ops C n L (f + 1) listed a := by
  have below : ∀ (listed : Array Bool), HeadInv md ops n listed → listed.getD i true = false → ∀ j ∈ Region.ready md ops listed, j < n := by
    intro listed inv hun j hj
    rcases Nat.lt_or_ge j n with h | h
    · exact h
    · exact absurd hj (tail_waits hs hc hn inv _ i rfl hin hun j h)
  intro f
  induction f with
  | zero =>
    intro listed a inv _ hr hy H
    have hun := (mem_ready.1 hr).1
    refine ⟨fun h => (by rw [h] at hr; cases hr), fun j hj => ⟨below listed inv hun j hj, ?_⟩⟩
    by_cases hji : j = i
    · subst hji; exact hy.qOp hi H
    · have h1 := hdone _ _ H j (ready_mono hj hji)
      have h2 := below listed inv hun j hj
      omega
  | succ f ih =>
    intro listed a inv hfree hr hy H
    have hun := (mem_ready.1 hr).1
    refine ⟨fun h => (by rw [h] at hr; cases hr), fun j hj => ⟨below listed inv hun j hj, ?_⟩⟩
    have hjn := below listed inv hun j hj
    by_cases hji : j = i
    · subst hji; exact hy.qOp hi H
    · have h1 := (H.2 j (ready_mono hj hji)).2
      obtain ⟨hjun, oj, hoj, hall⟩ := mem_ready.1 hj
      have hnot : ∀ e ∈ oj.after, Region.binds md e = true → e.on ≠ i := fun e he hb heq => by
        have h3 := hall e he hb
        rw [heq, getD_both hun] at h3
        cases h3
      have h2 := qOp_put hoj (hfree j oj hoj hji hjun hnot) (fun cs b => hsel i oi cs b hi) (fun cs b => hsel j oj cs b hoj) hy h1
      refine qOp_mono (fun a' h3 => ih (listed.setIfInBounds j true) a' (inv.set hj hjn) ?_ (ready_mono hr (Ne.symm hji)) h3.1 ?_) h2
      · intro k ok hk hki hun' hno
        refine hfree k ok hk hki ?_ hno
        by_cases hjk : j = k
        · subst hjk; exact hjun
        · rw [getD_set_ne true hjk] at hun'; exact hun'
      · rw [Array.setIfInBounds_comm _ _ hji]
        exact h3.2

theorem head_lex {n g : Nat} {Lq : Act → Prop} (hsel : Region.noSelect ops = true) (hs : Region.sinkB md ops n = true) (hc : Region.chainB md ops n = true) (hn : n < ops.size) :
    ∀ (l : List Oper) (k : Nat) (listed : Array Bool) (a : Act), (∀ j, j < l.length → l[j]? = ops[k + j]?) → k + l.length = n → HeadInv md ops n listed →
    Region.lexHead md ops g l.length k listed = true → wpQuiet P ops C Lq l a →
    head P md ops C n (fun listed' a' => Region.seqB md ops g n listed' = true ∧ Lq a') l.length listed a
  | [], k, listed, a, _, hk, _, hB, h => by
    have : k = n := by simpa using hk
    subst this
    exact ⟨by simpa [Region.lexHead] using hB, h⟩
  | o :: l, k, listed, a, hl, hk, inv, hB, h => by
    have h0 : ops[k]? = some o := by simpa using (hl 0 (by simp)).symm
    simp only [List.length_cons, Region.lexHead, Bool.and_eq_true] at hB
    obtain ⟨⟨hr, hf⟩, hB'⟩ := hB
    have hkn : k < n := by simp only [List.length_cons] at hk; omega
    have hr' : k ∈ Region.ready md ops listed := by simpa using hr
    have hst : qOp P ops C k (wpQuiet P ops C Lq l) a := by unfold qOp; simp only [h0]; exact h
    obtain ⟨v, hy, hK⟩ := yieldsIn_of_qOp h0 hst
    exact head_first h0 (Region.noSelect_spec hsel) hs hc hn hkn (fun listed' a' hL => seqB_ready hL.1) l.length listed a inv (Region.free_spec h0 hf) hr' hy
      (head_lex hsel hs hc hn l (k + 1) _ _ (fun j hj => by have := hl (j + 1) (by simp; omega); simpa [Nat.add_assoc, Nat.add_comm 1 j] using this) (by simp only [List.length_cons] at hk; omega) (inv.set hr' hkn) hB' hK)

/-- A REGION THAT DRAWS ITS ORDER: n operations that each have one value in every world of the class, then a tail whose order is forced. -/
theorem region_tail {id : Nat} {Q : Exit → Act → World → Prop} {a : Act} {w : World} {l : List Oper} (n : Nat) (hm : P.follows .mixedOrders = true) (hB : Region.lexTailB .any l.toArray n = true)
    (C : World → Prop) (hC : C { w with drawn := w.drawn + 1 })
    (h : wpQuiet P l.toArray C (fun a' => ∀ w', C w' → wpList P l.toArray Q (l.drop n) a' w') (l.take n) a) : (Code.region id l.toArray true).wp P Q a w := by
  simp only [Region.lexTailB, Bool.and_eq_true, decide_eq_true_eq] at hB
  obtain ⟨⟨⟨⟨hsel, hn⟩, hs⟩, hc⟩, hlex⟩ := hB
  have hn' : n < l.length := by simpa using hn
  have htl : (l.take n).length = n := by simp; omega
  have hdl : (l.drop n).length = l.toArray.size - n := by simp
  have inv0 : HeadInv .any l.toArray n (Array.replicate l.toArray.size false) :=
    ⟨by simp, fun j oj _ hl => (by rw [getD_replicate_false] at hl; cases hl), fun t _ ht => getD_in (by simpa using ht) (getD_replicate_false _ _)⟩
  have H := head_lex (md := .any) (g := l.toArray.size - n) hsel hs hc hn (l.take n) 0 _ a (fun j hj => by
    have hj' : j < n := by rw [htl] at hj; exact hj
    simp [hj']) (by simpa using htl) inv0 (by rw [htl]; exact hlex) h
  refine wp_region_any hm ?_
  have := any_of_head (Q' := Q) (g := l.toArray.size - n) (fun listed a' w' hw' hL => by
    have := wpAny_of_seq (md := .any) (Q' := Q) (l.drop n) n listed a' w' (fun j => by simp [List.getElem?_drop]) (by rw [hdl]; exact hL.1) (hL.2 w' hw')
    rwa [hdl] at this) _ _ _ _ hC H
  rw [htl, show n + (l.toArray.size - n) = l.toArray.size by omega] at this
  exact this
/-- The same where every operation has one value. -/
theorem region_all {id : Nat} {Q : Exit → Act → World → Prop} {a : Act} {w : World} {l : List Oper} (hm : P.follows .mixedOrders = true) (hB : Region.lexB .any l.toArray = true)
    (C : World → Prop) (hC : C { w with drawn := w.drawn + 1 })
    (h : wpQuiet P l.toArray C (fun a' => ∀ w', C w' → Q .normal a' w') l a) : (Code.region id l.toArray true).wp P Q a w :=
  wp_region_quiet (C := C) hm hB hC (by simpa using h)

/-- One operation that is carried out, and yields v in every world of the class. -/
theorem op {Q : Act → Prop} {a : Act} {o : Oper} {rest : List Oper} (v : Value) (hw : Region.wanted o (yielded ops a.tmps) = true) (h : ∀ w, C w → (execOp a.eval o).run P w = .ok (.value v) w)
    (hn : wpQuiet P ops C Q rest (a.put o.dst v)) : wpQuiet P ops C Q (o :: rest) a := by
  unfold wpQuiet
  rw [if_pos hw]
  exact ⟨v, fun w hc => by unfold Oper.quietAt; rw [h w hc]; exact ⟨rfl, rfl⟩, hn⟩
/-- A copy. -/
theorem op_move {Q : Act → Prop} {a : Act} {o : Oper} {rest : List Oper} (v : Value) (x : Operand) (hw : Region.wanted o (yielded ops a.tmps) = true) (ho : o.op = .move x ∨ o.op = .assign x) (hv : a.eval x = v)
    (hn : wpQuiet P ops C Q rest (a.put o.dst v)) : wpQuiet P ops C Q (o :: rest) a := by
  refine op v hw (fun w _ => ?_) hn
  unfold execOp
  rcases ho with ho | ho <;> simp [ho, hv]
/-- One that yields nothing (a nil check). -/
theorem op_skip {Q : Act → Prop} {a : Act} {o : Oper} {rest : List Oper} (hw : Region.wanted o (yielded ops a.tmps) = true) (h : ∀ w, C w → (execOp a.eval o).run P w = .ok .skip w)
    (hn : wpQuiet P ops C Q rest (a.put o.dst undef)) : wpQuiet P ops C Q (o :: rest) a := by
  unfold wpQuiet
  rw [if_pos hw]
  exact ⟨undef, fun w hc => by unfold Oper.quietAt; rw [h w hc]; exact ⟨rfl, rfl⟩, hn⟩
/-- One that is passed over. -/
theorem op_not {Q : Act → Prop} {a : Act} {o : Oper} {rest : List Oper} (hw : Region.wanted o (yielded ops a.tmps) = false) (hn : wpQuiet P ops C Q rest (a.put o.dst undef)) : wpQuiet P ops C Q (o :: rest) a := by
  unfold wpQuiet
  rw [if_neg (by rw [hw]; exact Bool.false_ne_true)]
  exact hn
/-- A call, by a contract. -/
theorem op_call {Q : Act → Prop} {a : Act} {o : Oper} {rest : List Oper} (v : Value) (f : FuncId) (args : Array Value) (hw : Region.wanted o (yielded ops a.tmps) = true) (h : ∀ w, C w → (execOp a.eval o).run P w = .ok (.enter f args) w)
    (hc : ∀ w, C w → Calls P f args w fun e w' => e = .returned v ∧ C w') (hn : wpQuiet P ops C Q rest (a.put o.dst v)) : wpQuiet P ops C Q (o :: rest) a := by
  unfold wpQuiet
  rw [if_pos hw]
  exact ⟨v, fun w hw' => by unfold Oper.quietAt; rw [h w hw']; exact ⟨rfl, hc w hw'⟩, hn⟩
theorem below_drawn (w : World) : Below w.heap.size w { w with drawn := w.drawn + 1 } := (Below.refl w.heap.size w).drew
/-- The class 'all that lay when the region began is as it was'. -/
theorem tail_below {id : Nat} {Q : Exit → Act → World → Prop} {a : Act} {w : World} {l : List Oper} (n : Nat) (hm : P.follows .mixedOrders = true) (hB : Region.lexTailB .any l.toArray n = true)
    (h : wpQuiet P l.toArray (fun W => Below w.heap.size w W) (fun a' => ∀ w', Below w.heap.size w w' → wpList P l.toArray Q (l.drop n) a' w') (l.take n) a) : (Code.region id l.toArray true).wp P Q a w :=
  region_tail n hm hB _ (below_drawn w) h
theorem all_below {id : Nat} {Q : Exit → Act → World → Prop} {a : Act} {w : World} {l : List Oper} (hm : P.follows .mixedOrders = true) (hB : Region.lexB .any l.toArray = true)
    (h : wpQuiet P l.toArray (fun W => Below w.heap.size w W) (fun a' => ∀ w', Below w.heap.size w w' → Q .normal a' w') l a) : (Code.region id l.toArray true).wp P Q a w :=
  region_all hm hB _ (below_drawn w) h
/-- A contract that keeps what lay, met in the class. -/
theorem call_below {f : FuncId} {args : Array Value} {v : Value} {w W : World} (hb : Below w.heap.size w W) (h : Calls P f args W fun e W' => e = .returned v ∧ Below W.heap.size W W') :
    Calls P f args W fun e W' => e = .returned v ∧ Below w.heap.size w W' :=
  h.mono fun _ _ ⟨he, h2⟩ => ⟨he, hb.trans (h2.mono hb.size)⟩
theorem call_same {f : FuncId} {args : Array Value} {v : Value} {w W : World} (hb : Below w.heap.size w W) (h : Calls P f args W fun e W' => e = .returned v ∧ W = W') :
    Calls P f args W fun e W' => e = .returned v ∧ Below w.heap.size w W' :=
  h.mono fun _ _ ⟨he, h2⟩ => ⟨he, h2 ▸ hb⟩
end
theorem bcell {W w1 : World} (hb : Below W.heap.size W w1) : (∀ b o, b < W.heap.size → w1.cell? ⟨b, o, none⟩ = W.cell? ⟨b, o, none⟩) ∧ (∀ b o, b < W.heap.size → w1.frozen? ⟨b, o, none⟩ = W.frozen? ⟨b, o, none⟩) :=
  ⟨fun b o h => hb.cell (p := ⟨b, o, none⟩) h, fun b o h => hb.frozen (p := ⟨b, o, none⟩) h⟩
theorem step {B B' : Nat} {a b c : World} (hc : Below B' b c) (h : Below B a b) (hB : B ≤ B') : Below B a c := h.trans (hc.mono hB)
/-- Block g holds just these cells, none of them frozen. -/
structure Blk (w : World) (g : Nat) (cs : Array Value) : Prop where
  lt : g < w.heap.size
  c : ∀ i, w.cell? ⟨g, i, none⟩ = cs[i]?
  f : ∀ i, w.frozen? ⟨g, i, none⟩ = false
theorem Blk.new (w : World) (t : TypeId) (cs : Array Value) : Blk (w.alloc (.cells cs t)) w.heap.size cs :=
  ⟨by simp, fun i => cell_of_row _ _ i cs t (0, 0) (heap_alloc_new w _), fun i => by unfold World.frozen?; rw [heap_alloc_new]; simp⟩
theorem Blk.at_ {w : World} {t : TypeId} {cs : Array Value} {g : Nat} (h : g = w.heap.size) : Blk (w.alloc (.cells cs t)) g cs := h ▸ Blk.new w t cs
theorem Blk.below {w w' : World} {g : Nat} {cs : Array Value} (h : Blk w g cs) (hb : Below w.heap.size w w') : Blk w' g cs :=
  ⟨Nat.lt_of_lt_of_le h.lt hb.size, fun i => (hb.cell (p := ⟨g, i, none⟩) h.lt).trans (h.c i), fun i => (hb.frozen (p := ⟨g, i, none⟩) h.lt).trans (h.f i)⟩
theorem Blk.alloc {w : World} {g : Nat} {cs : Array Value} (h : Blk w g cs) (o : Obj) : Blk (w.alloc o) g cs :=
  h.below ((Below.refl _ _).alloc (Nat.le_refl _) o)
theorem Blk.drew {w : World} {g : Nat} {cs : Array Value} (h : Blk w g cs) : Blk w.drew g cs := ⟨h.1, h.2, h.3⟩
theorem Blk.far {w : World} {g : Nat} {cs : Array Value} (h : Blk w g cs) {p : Addr} (hp : p.block ≠ g) (v : Value) : Blk (w.setCell p v) g cs := by
  have hne : ∀ i, p ≠ ⟨g, i, none⟩ := fun i e => hp (by rw [e])
  exact ⟨by simpa using h.lt, fun i => (World.cell?_setCell_other w p ⟨g, i, none⟩ v (hne i)).trans (h.c i), fun i => by rw [World.frozen?_setCell]; exact h.f i⟩
theorem Blk.cell {w : World} {g : Nat} {cs : Array Value} (h : Blk w g cs) (i : Nat) (v : Value) (hv : cs[i]? = some v) : w.cell? ⟨g, i, none⟩ = some v := (h.c i).trans hv
end Go.Proofs.YtadcmjnebjgijaaGreatDoor.Calm

/- Contracts of the small functions of package driver: each returns what its text computes; no old memory changes. -/
namespace Go.Proofs.YtadcmjnebjgijaaGreatDoor
open Go.RowKit
open Calm (bcell)

theorem when_yes (e : Int) (w : World) : Calls Tryz.prog 55 #[.bool true, (.int .i64 (e))] w fun r w' => r = .returned (.int .i64 (e)) ∧ w = w' := by
  go_enter Tryz.func55, Tryz.ntmps55
  go_wp2
  go_ret
  exact ⟨rfl, rfl⟩
theorem when_no (e : Int) (w : World) : Calls Tryz.prog 55 #[.bool false, (.int .i64 (e))] w fun r w' => r = .returned (.int .i64 (0)) ∧ w = w' := by
  go_enter Tryz.func55, Tryz.ntmps55
  go_wp2
  go_ret
  exact ⟨rfl, rfl⟩
/-- 'when' at any condition. -/
theorem when_any (b : Bool) (e : Int) (w : World) : Calls Tryz.prog 55 #[.bool b, (.int .i64 (e))] w fun r w' => r = .returned (.int .i64 (if b then e else 0)) ∧ w = w' := by
  cases b
  · exact when_no e w
  · exact when_yes e w

/-- the error of a range, as a number. -/
def rangeErr (n lo hi : Int) : Int := if n < lo ∨ hi < n then 3 else 0
theorem rangeErr_lo {n lo hi : Int} (h : n < lo) : rangeErr n lo hi = 3 := if_pos (.inl h)
theorem rangeErr_hi {n lo hi : Int} (h : hi < n) : rangeErr n lo hi = 3 := if_pos (.inr h)
theorem rangeErr_in {n lo hi : Int} (h : lo ≤ n) (h' : n ≤ hi) : rangeErr n lo hi = 0 := if_neg (by omega)
theorem rangeErr_zero {n lo hi : Int} : rangeErr n lo hi = 0 ↔ lo ≤ n ∧ n ≤ hi := by
  unfold rangeErr; split <;> omega
theorem rangeErr_cases (n lo hi : Int) : rangeErr n lo hi = 0 ∧ lo ≤ n ∧ n ≤ hi ∨ rangeErr n lo hi = 3 ∧ (n < lo ∨ hi < n) := by
  unfold rangeErr; split <;> omega
theorem ret_i {a b : Int} (h : a = b) : Ending.returned (.int .i64 a) = .returned (.int .i64 b) := by rw [h]

theorem within_any (n lo hi : Int) (w : World) : Calls Tryz.prog 56 #[(.int .i64 (n)), (.int .i64 (lo)), (.int .i64 (hi))] w fun r w' => r = .returned (.int .i64 (rangeErr n lo hi)) ∧ w = w' := by
  rcases Int.lt_or_le n lo with h | h
  · go_enter Tryz.func56, Tryz.ntmps56
    go_wp2_with (go_at_call 55; refine (when_any _ _ _).mono ?_; rintro r w' ⟨rfl, rfl⟩)
    go_ret
    exact ⟨ret_i (rangeErr_lo h).symm, rfl⟩
  · rcases Int.lt_or_le hi n with h' | h'
    · go_enter Tryz.func56, Tryz.ntmps56
      go_wp2_with (go_at_call 55; refine (when_any _ _ _).mono ?_; rintro r w' ⟨rfl, rfl⟩)
      go_ret
      exact ⟨ret_i (rangeErr_hi h').symm, rfl⟩
    · go_enter Tryz.func56, Tryz.ntmps56
      go_wp2_with (go_at_call 55; refine (when_any _ _ _).mono ?_; rintro r w' ⟨rfl, rfl⟩)
      go_ret
      exact ⟨ret_i (rangeErr_in (by omega) (by omega)).symm, rfl⟩
theorem checkW_any (n : Int) (w : World) : Calls Tryz.prog 60 #[(.int .i64 (n))] w fun r w' => r = .returned (.int .i64 (rangeErr n 1 8)) ∧ w = w' := by
  go_enter Tryz.func60, Tryz.ntmps60
  go_wp2_with (go_at_call 56; refine (within_any _ _ _ _).mono ?_; rintro r w' ⟨rfl, rfl⟩)
  go_ret
  exact ⟨rfl, rfl⟩

theorem number_any (a b : Int) (w : World) : Calls Tryz.prog 51 #[(.int .i64 (a)), (.int .i64 (b))] w fun r w' => r = .returned (.agg #[(.int .i64 (a)), (.int .i64 (b))]) ∧ Below w.heap.size w w' := by
  go_enter Tryz.func51, Tryz.ntmps51
  go_wp2
  exact bodyPost_ret (v := .agg #[(.int .i64 (a)), (.int .i64 (b))]) (by simp [results, Tryz.results51, go_sem]) rfl ⟨rfl, ((Below.refl _ _).alloc (Nat.le_refl _) _)⟩

/-- the first of some numbers that is not 0. -/
def firstOf (l : List Int) : Int := (l.find? (· != 0)).getD 0
theorem firstOf_take {l : List Int} {k : Nat} (h : ∀ j, j < k → l.getD j 0 = 0) (hk : k < l.length) (hn : l.getD k 0 ≠ 0) : firstOf l = l.getD k 0 := by
  induction l generalizing k with
  | nil => simp at hk
  | cons x l ih =>
    cases k with
    | zero => simp at hn; simp [firstOf, hn]
    | succ k =>
      have h0 : x = 0 := by simpa using h 0 (by omega)
      have := ih (k := k) (fun j hj => by simpa using h (j + 1) (by omega)) (by simpa using hk) (by simpa using hn)
      subst h0
      simpa [firstOf] using this
theorem firstOf_zero {l : List Int} (h : ∀ j, j < l.length → l.getD j 0 = 0) : firstOf l = 0 := by
  induction l with
  | nil => rfl
  | cons x l ih =>
    have h0 : x = 0 := by simpa using h 0 (by simp)
    have := ih (fun j hj => by simpa using h (j + 1) (by simpa using hj))
    subst h0
    simpa [firstOf] using this
theorem first_any (l : List Int) (b off c : Nat) (w : World) (hl : l.length ≤ 64) (hc : ∀ k, k < l.length → w.cell? ⟨b, off + k, none⟩ = some (.int .i64 (l.getD k 0))) :
    Calls Tryz.prog 53 #[.slice (some ⟨b, off, none⟩) l.length c] w fun r w' => r = .returned (.int .i64 (firstOf l)) ∧ w = w' := by
  go_enter Tryz.func53, Tryz.ntmps53
  go_wp2
  go_loop [4, 7] (fun _ i => ∃ k : Nat, k ≤ l.length ∧ i = (.int .i64 (k)) ∧ ∀ j, j < k → l.getD j 0 = 0) (fun _ i => l.length - (intOf i).toNat)
  case atStart => exact ⟨0, Nat.zero_le _, rfl, fun j hj => by omega⟩
  case round =>
    obtain ⟨k, hk, rfl, hz⟩ := hrel
    have HZ := Lib.hid hz
    clear hz
    by_cases hlt : k < l.length
    · have hck := hc k hlt
      clear hc
      by_cases h0 : l.getD k 0 = 0
      · rw [h0] at hck
        have H0 := Lib.hid h0
        clear h0
        go_wp2
        go_round
        case rel => exact ⟨k + 1, by omega, by go_num, fun j hj => by
          rcases Nat.lt_or_ge j k with hjk | hjk
          · exact HZ.out j hjk
          · obtain rfl : j = k := by omega
            exact H0.out⟩
        case measure => simp [intOf]; omega
      · obtain ⟨x, hx⟩ : ∃ x, x = l.getD k 0 := ⟨_, rfl⟩
        rw [← hx] at hck h0
        have H0 := Lib.hid hx
        clear hx
        go_wp2
        go_ret
        exact ⟨ret_i (by rw [firstOf_take HZ.out hlt (by rw [← H0.out]; exact h0)]; exact H0.out), rfl⟩
    · clear hc
      go_wp2
      go_ret
      exact ⟨ret_i (by rw [firstOf_zero (fun j hj => HZ.out j (by omega))]), rfl⟩
end Go.Proofs.YtadcmjnebjgijaaGreatDoor

/- Contracts of the reference's Text (at no negative number) and Number. -/
namespace Go.Proofs.YtadcmjnebjgijaaGreatDoor
open Go.RowKit
open Go.Lib
open Calm (bcell Blk)

def TextRel (k : Nat) (m : Nat) (suf : List UInt8) : Prop := (m = 0 ∧ suf = decDigits k) ∨ (0 < m ∧ decDigits k = decDigits m ++ suf)
theorem TextRel.start (k : Nat) : TextRel k (k / 10) [UInt8.ofNat (48 + k % 10)] := by
  by_cases h : k < 10
  · exact .inl ⟨by omega, by rw [decDigits_one h, Nat.mod_eq_of_lt h]⟩
  · exact .inr ⟨by omega, by rw [decDigits, dif_neg h]⟩
theorem TextRel.step {k m : Nat} {suf : List UInt8} (h : TextRel k m suf) (hm : 0 < m) : TextRel k (m / 10) (UInt8.ofNat (48 + m % 10) :: suf) := by
  rcases h with ⟨h1, _⟩ | ⟨_, h2⟩
  · omega
  · by_cases h : m < 10
    · refine .inl ⟨by omega, ?_⟩
      rw [h2, decDigits_one h, Nat.mod_eq_of_lt h]; rfl
    · refine .inr ⟨by omega, ?_⟩
      rw [h2]
      conv => lhs; rw [decDigits, dif_neg h]
      simp
theorem nDigits_le (u : Nat) : nDigits u ≤ u + 1 := by
  induction u using Nat.strongRecOn with
  | _ u ih =>
    by_cases h : u < 10
    · rw [nDigits_small h]; omega
    · rw [nDigits_big h]
      have := ih (u / 10) (by omega)
      omega
theorem TextRel.len {k m : Nat} {suf : List UInt8} (h : TextRel k m suf) : suf.length ≤ k + 1 := by
  have h1 : (decDigits k).length ≤ k + 1 := by rw [decDigits_length]; exact nDigits_le k
  rcases h with ⟨_, rfl⟩ | ⟨_, h2⟩
  · exact h1
  · rw [h2, List.length_append] at h1; omega
theorem encode_dig {d : Nat} (h : d < 10) : Utf8.encode (48 + (d : Int)) = ⟨#[UInt8.ofNat (48 + d)]⟩ := by
  have : d = 0 ∨ d = 1 ∨ d = 2 ∨ d = 3 ∨ d = 4 ∨ d = 5 ∨ d = 6 ∨ d = 7 ∨ d = 8 ∨ d = 9 := by omega
  rcases this with rfl | rfl | rfl | rfl | rfl | rfl | rfl | rfl | rfl | rfl <;> rfl
theorem ba_append (a b : List UInt8) : (⟨a.toArray⟩ : ByteArray) ++ ⟨b.toArray⟩ = ⟨(a ++ b).toArray⟩ := by
  apply ByteArray.ext
  simp
set_option maxHeartbeats 1000000 in
theorem text_nat (k : Nat) (w : World) (hk : k ≤ 4611686018427387904) : Calls Tryz.prog 38 #[(.int .i64 ((k : Int)))] w fun r w' => r = .returned (.string ⟨(decDigits k).toArray⟩) ∧ w = w' := by
  go_enter Tryz.func38, Tryz.ntmps38
  go_wp2
  go_loop [0, 3] (fun n s => ∃ (m : Nat) (suf : List UInt8), m ≤ k ∧ n = (.int .i64 ((m : Int))) ∧ s = .string ⟨suf.toArray⟩ ∧ TextRel k m suf) (fun n _ => (RowKit.intOf n).toNat)
  case atStart => exact ⟨k / 10, [UInt8.ofNat (48 + k % 10)], by omega, by rw [Int.natCast_ediv]; rfl, by rw [show (k : Int) % 10 = ((k % 10 : Nat) : Int) by omega, encode_dig (by omega)], TextRel.start k⟩
  case round =>
    obtain ⟨m, suf, hm, rfl, rfl, hr⟩ := hrel
    have HR := Lib.hid hr
    clear hr
    by_cases h0 : 0 < m
    · have hlen := HR.out.len
      have hes : ¬ 9223372036854775807 < (Utf8.encode (48 + (m : Int) % 10)).size + suf.length := by
        rw [show (m : Int) % 10 = ((m % 10 : Nat) : Int) by omega, encode_dig (by omega)]
        show ¬ _ < 1 + suf.length
        omega
      go_wp2
      go_round
      case rel => exact ⟨m / 10, UInt8.ofNat (48 + m % 10) :: suf, by omega, by rw [Int.natCast_ediv]; rfl, by rw [show (m : Int) % 10 = ((m % 10 : Nat) : Int) by omega, encode_dig (by omega)]; rw [show (⟨#[UInt8.ofNat (48 + m % 10)]⟩ : ByteArray) = ⟨[UInt8.ofNat (48 + m % 10)].toArray⟩ from rfl, ba_append]; rfl, HR.out.step h0⟩
      case measure => simp [RowKit.intOf]; omega
    · obtain rfl : m = 0 := by omega
      have hs : suf = decDigits k := HR.out.elim (fun h => h.2) (fun h => absurd h.1 (by omega))
      have HS := Lib.hid hs
      clear hs
      have e0 : ((0 : Nat) : Int) = 0 := rfl
      rw [e0]
      go_wp2
      go_ret
      exact ⟨by rw [HS.out]; rfl, rfl⟩
theorem take_snoc (s : ByteArray) (k : Nat) (h : k < s.size) : s.data.toList.take (k + 1) = s.data.toList.take k ++ [s[k]] := by
  rw [List.take_succ_eq_append_getElem (by simpa using h)]; rfl
theorem size_list (s : ByteArray) : s.data.toList.length = s.size := by simp
theorem numL_none_len {l : List UInt8} (h : l.length = 0 ∨ 9 < l.length) : numL l = none := by
  unfold numL Canon
  rw [if_neg]
  rintro ⟨h1, h2, _⟩
  rcases h with h | h
  · exact h2 (List.eq_nil_of_length_eq_zero h)
  · omega
theorem numL_none_zero {s : ByteArray} (h : 1 < s.size) (h0 : s[0].toNat = 48) : numL s.data.toList = none := by
  unfold numL Canon
  rw [if_neg]
  rintro ⟨_, _, _, h2⟩
  refine h2 (by rw [size_list]; exact h) ?_
  rw [List.head?_eq_getElem?, List.getElem?_eq_getElem (by rw [size_list]; omega)]
  exact congrArg some (UInt8.toNat_inj.1 h0)
theorem numL_none_dig {s : ByteArray} {k : Nat} (h : k < s.size) (hb : ¬ (48 ≤ s[k].toNat ∧ s[k].toNat ≤ 57)) : numL s.data.toList = none := by
  unfold numL Canon
  rw [if_neg]
  rintro ⟨_, _, h2, _⟩
  rw [List.all_eq_true] at h2
  exact hb (digB_iff.1 (h2 s[k] (by exact List.getElem_mem (by rw [size_list]; exact h))))
theorem numL_some_of {s : ByteArray} (h1 : 0 < s.size) (h9 : s.size ≤ 9) (h0 : 1 < s.size → ¬ s[0].toNat = 48) (hd : s.data.toList.all digB = true) : numL s.data.toList = some (valL s.data.toList) := by
  unfold numL Canon
  rw [if_pos]
  refine ⟨by rw [size_list]; exact h9, ?_, hd, fun h2 e => ?_⟩
  · intro e
    have := size_list s
    rw [e] at this
    simp at this
    omega
  · rw [size_list] at h2
    rw [List.head?_eq_getElem?, List.getElem?_eq_getElem (by rw [size_list]; omega)] at e
    exact h0 h2 (by rw [show s[0] = 48 from Option.some.inj e]; rfl)
set_option maxHeartbeats 4000000 in
theorem refNumber_any (s : ByteArray) (w : World) (hl : s.size ≤ 1000000) :
    Calls Tryz.prog 40 #[.string s] w fun r w' => r = .returned (.tuple #[(.int .i64 ((((numL s.data.toList).getD 0 : Nat) : Int))), .bool (numL s.data.toList).isSome]) ∧ w = w' := by
  obtain ⟨R, hR⟩ : ∃ R, R = numL s.data.toList := ⟨_, rfl⟩
  rw [← hR]
  have HR := Lib.hid hR
  clear hR
  by_cases h0 : s.size = 0
  · have hn : R = none := by rw [HR.out]; exact numL_none_len (.inl (by rw [size_list]; exact h0))
    have hc : ((s.size : Int) == 0) = true := by simpa using h0
    subst hn
    clear HR
    go_enter Tryz.func40, Tryz.ntmps40
    go_wp2
    go_ret2
    exact ⟨rfl, rfl⟩
  have hc : ((s.size : Int) == 0) = false := by simpa using h0
  have hpos : 0 < s.size := by omega
  clear h0
  by_cases h9 : 9 < s.size
  · have hn : R = none := by rw [HR.out]; exact numL_none_len (.inr (by rw [size_list]; exact h9))
    subst hn
    clear HR
    go_enter Tryz.func40, Tryz.ntmps40
    go_wp2
    go_ret2
    exact ⟨rfl, rfl⟩
  by_cases h1 : 1 < s.size
  · by_cases hz : s[0].toNat = 48
    · have hn : R = none := by rw [HR.out]; exact numL_none_zero h1 hz
      subst hn
      have hz3 : ((s[0].toNat : Int) == 48) = true := by rw [hz]; rfl
      clear hz HR
      go_enter Tryz.func40, Tryz.ntmps40
      go_wp2
      go_ret2
      exact ⟨rfl, rfl⟩
    have hz3 : ((s[0].toNat : Int) == 48) = false := beq_eq_false_iff_ne.2 (by omega)
    have HZ := Lib.hid (fun _ : 1 < s.size => hz)
    clear hz
    go_enter Tryz.func40, Tryz.ntmps40
    go_wp2
    go_loop [4, 5] (fun n i => ∃ k : Nat, k ≤ s.size ∧ i = (.int .i64 ((k : Int))) ∧ n = (.int .i64 (((valL (s.data.toList.take k) : Nat) : Int))) ∧ (s.data.toList.take k).all digB = true) (fun _ i => s.size - (RowKit.intOf i).toNat)
    case atStart => exact ⟨0, by omega, rfl, rfl, rfl⟩
    case round =>
      obtain ⟨k, hk, rfl, rfl, hd⟩ := hrel
      have hv := valL_lt _ _ rfl hd
      have hkl : (s.data.toList.take k).length = k := by rw [List.length_take, size_list]; omega
      rw [hkl] at hv
      have hv2 : 10 ^ k ≤ 10 ^ 9 := Nat.pow_le_pow_right (by decide) (by omega)
      have hv3 : valL (s.data.toList.take k) ≤ 1000000000 := by omega
      have HD := Lib.hid hd
      clear hd hv hv2 hkl
      by_cases hlt : k < s.size
      · have HT := Lib.hid (take_snoc s k hlt)
        have hbd := UInt8.toNat_lt s[k]
        by_cases hdig : 48 ≤ s[k].toNat ∧ s[k].toNat ≤ 57
        · obtain ⟨d1, d2⟩ := hdig
          have HX := Lib.hid (show valL (s.data.toList.take (k + 1)) = 10 * valL (s.data.toList.take k) + (s[k].toNat - 48) by rw [HT.out, valL_snoc])
          have HY := Lib.hid (show (s.data.toList.take (k + 1)).all digB = true by rw [HT.out, List.all_append, HD.out]; simp [digB_iff]; exact ⟨d1, d2⟩)
          clear HT
          generalize hg : valL (s.data.toList.take k) = v at *
          have HG := Lib.hid hg
          clear hg
          have e1 : ¬ (s[k].toNat : Int) < 48 := by omega
          have e2 : ¬ 57 < (s[k].toNat : Int) := by omega
          go_wp2
          go_round
          case rel => exact ⟨k + 1, by omega, by go_num, by rw [HX.out]; congr 1; omega, HY.out⟩
          case measure => simp [RowKit.intOf]; omega
        · have hn : R = none := by rw [HR.out]; exact numL_none_dig hlt hdig
          subst hn
          clear HT HD
          by_cases d1 : s[k].toNat < 48
          · have e1 : (s[k].toNat : Int) < 48 := by omega
            go_wp2
            go_ret2
            exact ⟨rfl, rfl⟩
          · have e1 : ¬ (s[k].toNat : Int) < 48 := by omega
            have e2 : 57 < (s[k].toNat : Int) := by omega
            clear d1 hdig
            go_wp2
            go_ret2
            exact ⟨rfl, rfl⟩
      · obtain rfl : k = s.size := by omega
        have hall : s.data.toList.take s.size = s.data.toList := List.take_of_length_le (by rw [size_list]; exact Nat.le_refl _)
        have hd := HD.out
        rw [hall] at hd hv3 ⊢
        have hn : R = some (valL s.data.toList) := by rw [HR.out]; exact numL_some_of hpos (by omega) HZ.out hd
        subst hn
        clear hall hd HD
        go_wp2
        go_ret2
        exact ⟨rfl, rfl⟩
  · have HZ := Lib.hid (fun h : 1 < s.size => (fun _ => h1 h : ¬ s[0].toNat = 48))
    have h1' : s.size ≤ 1 := by omega
    go_enter Tryz.func40, Tryz.ntmps40
    go_wp2
    go_loop [4, 5] (fun n i => ∃ k : Nat, k ≤ s.size ∧ i = (.int .i64 ((k : Int))) ∧ n = (.int .i64 (((valL (s.data.toList.take k) : Nat) : Int))) ∧ (s.data.toList.take k).all digB = true) (fun _ i => s.size - (RowKit.intOf i).toNat)
    case atStart => exact ⟨0, by omega, rfl, rfl, rfl⟩
    case round =>
      obtain ⟨k, hk, rfl, rfl, hd⟩ := hrel
      have hv := valL_lt _ _ rfl hd
      have hkl : (s.data.toList.take k).length = k := by rw [List.length_take, size_list]; omega
      rw [hkl] at hv
      have hv2 : 10 ^ k ≤ 10 ^ 9 := Nat.pow_le_pow_right (by decide) (by omega)
      have hv3 : valL (s.data.toList.take k) ≤ 1000000000 := by omega
      have HD := Lib.hid hd
      clear hd hv hv2 hkl
      by_cases hlt : k < s.size
      · have HT := Lib.hid (take_snoc s k hlt)
        have hbd := UInt8.toNat_lt s[k]
        by_cases hdig : 48 ≤ s[k].toNat ∧ s[k].toNat ≤ 57
        · obtain ⟨d1, d2⟩ := hdig
          have HX := Lib.hid (show valL (s.data.toList.take (k + 1)) = 10 * valL (s.data.toList.take k) + (s[k].toNat - 48) by rw [HT.out, valL_snoc])
          have HY := Lib.hid (show (s.data.toList.take (k + 1)).all digB = true by rw [HT.out, List.all_append, HD.out]; simp [digB_iff]; exact ⟨d1, d2⟩)
          clear HT
          generalize hg : valL (s.data.toList.take k) = v at *
          have HG := Lib.hid hg
          clear hg
          have e1 : ¬ (s[k].toNat : Int) < 48 := by omega
          have e2 : ¬ 57 < (s[k].toNat : Int) := by omega
          go_wp2
          go_round
          case rel => exact ⟨k + 1, by omega, by go_num, by rw [HX.out]; congr 1; omega, HY.out⟩
          case measure => simp [RowKit.intOf]; omega
        · have hn : R = none := by rw [HR.out]; exact numL_none_dig hlt hdig
          subst hn
          clear HT HD
          by_cases d1 : s[k].toNat < 48
          · have e1 : (s[k].toNat : Int) < 48 := by omega
            go_wp2
            go_ret2
            exact ⟨rfl, rfl⟩
          · have e1 : ¬ (s[k].toNat : Int) < 48 := by omega
            have e2 : 57 < (s[k].toNat : Int) := by omega
            clear d1 hdig
            go_wp2
            go_ret2
            exact ⟨rfl, rfl⟩
      · obtain rfl : k = s.size := by omega
        have hall : s.data.toList.take s.size = s.data.toList := List.take_of_length_le (by rw [size_list]; exact Nat.le_refl _)
        have hd := HD.out
        rw [hall] at hd hv3 ⊢
        have hn : R = some (valL s.data.toList) := by rw [HR.out]; exact numL_some_of hpos (by omega) HZ.out hd
        subst hn
        clear hall hd HD
        go_wp2
        go_ret2
        exact ⟨rfl, rfl⟩
end Go.Proofs.YtadcmjnebjgijaaGreatDoor
