/- Part 4 of the texts of the claim: Tf1, Tg0, Tg1. -/
import Derived.Test.YtamldoidalnloaaGreatDoorMx3
import Derived.WalkLawsBesides

/- Convolutions as products of sequences of numbers, plain: the order does not matter, nor the brackets. -/
namespace Go.Proofs.YtamldoidalnloaaGreatDoor
def gd (l : List Int) (k : Nat) : Int := l.getD k 0
theorem gd_out {l : List Int} {k : Nat} (h : l.length ≤ k) : gd l k = 0 := by
  unfold gd
  rw [List.getD_eq_getElem?_getD, List.getElem?_eq_none h]
  rfl
theorem gd_ext {a b : List Int} (hl : a.length = b.length) (h : ∀ k, k < a.length → gd a k = gd b k) : a = b := by
  apply List.ext_getElem? 
  intro k
  rcases Nat.lt_or_ge k a.length with hk | hk
  · have := h k hk
    unfold gd at this
    rw [List.getD_eq_getElem?_getD, List.getD_eq_getElem?_getD, List.getElem?_eq_getElem hk, List.getElem?_eq_getElem (by omega)] at this
    rw [List.getElem?_eq_getElem hk, List.getElem?_eq_getElem (by omega)]
    exact congrArg some this
  · rw [List.getElem?_eq_none hk, List.getElem?_eq_none (by omega)]
theorem gd_append {a b : List Int} (k : Nat) : gd (a ++ b) k = if k < a.length then gd a k else gd b (k - a.length) := by
  unfold gd
  rw [List.getD_eq_getElem?_getD, List.getD_eq_getElem?_getD, List.getD_eq_getElem?_getD, List.getElem?_append]
  split <;> rfl
theorem gd_zeros (n k : Nat) : gd (List.replicate n 0) k = 0 := by
  unfold gd
  rw [List.getD_eq_getElem?_getD, List.getElem?_replicate]
  split <;> rfl
theorem gd_pad (a : List Int) (n k : Nat) : gd (a ++ List.replicate n 0) k = gd a k := by
  rw [gd_append, gd_zeros]
  split
  · rfl
  · exact (gd_out (by omega)).symm
theorem sig_more {f : Nat → Int} {n : Nat} : ∀ {d : Nat}, (∀ i, n ≤ i → i < n + d → f i = 0) → sig (n + d) f = sig n f
  | 0, _ => rfl
  | d + 1, h => by
    rw [← Nat.add_assoc]
    simp only [sig]
    rw [sig_more (d := d) (fun i q1 q2 => h i q1 (by omega)), h (n + d) (by omega) (by omega)]
    simp
theorem sig_head (f : Nat → Int) : ∀ n : Nat, sig (n + 1) f = f 0 + sig n (fun i => f (i + 1))
  | 0 => by simp [sig]
  | n + 1 => by
    have := sig_head f n
    rw [sig, this, sig]
    omega
theorem sig_rev (f : Nat → Int) : ∀ n : Nat, sig (n + 1) (fun m => f (n - m)) = sig (n + 1) f
  | 0 => rfl
  | n + 1 => by
    have h := sig_rev (fun i => f (i + 1)) n
    rw [sig, sig_head f (n + 1), ← h, Nat.sub_self, Int.add_comm]
    congr 1
    exact sig_congr (fun i hi => by rw [show n + 1 - i = n - i + 1 by omega])
theorem sig_shift (g : Nat → Int) (m : Nat) : ∀ n : Nat, sig (m + n) (fun k => if m ≤ k then g (k - m) else 0) = sig n g
  | 0 => by
    refine (sig_congr (g := fun _ => 0) (fun i hi => ?_)).trans (sig_zero _)
    rw [if_neg (by omega)]
  | n + 1 => by
    rw [← Nat.add_assoc, sig, sig, sig_shift g m n, if_pos (by omega), Nat.add_sub_cancel_left]
/-- the product of two sequences. -/
def cp (F G : Nat → Int) (t : Nat) : Int := sig (t + 1) (fun m => F m * G (t - m))
theorem cp_comm (F G : Nat → Int) (t : Nat) : cp F G t = cp G F t := by
  unfold cp
  rw [← sig_rev]
  exact sig_congr (fun m hm => by rw [show t - (t - m) = m by omega, Int.mul_comm])
theorem cp_assoc (F G H : Nat → Int) (t : Nat) : cp (cp F G) H t = cp F (cp G H) t := by
  have e1 : cp (cp F G) H t = sig (t + 1) (fun k => sig (t + 1) (fun m => if m ≤ k then F m * (G (k - m) * H (t - k)) else 0)) := by
    refine sig_congr (fun k hk => ?_)
    have e : sig (t + 1) (fun m => if m ≤ k then F m * (G (k - m) * H (t - k)) else 0) = sig (k + 1) (fun m => if m ≤ k then F m * (G (k - m) * H (t - k)) else 0) := by
      have := sig_more (f := fun m => if m ≤ k then F m * (G (k - m) * H (t - k)) else 0) (n := k + 1) (d := t - k) (fun i q1 q2 => if_neg (by omega))
      rwa [show k + 1 + (t - k) = t + 1 by omega] at this
    rw [e, Int.mul_comm, cp, sig_mul]
    refine sig_congr (fun m hm => ?_)
    rw [if_pos (by omega), Int.mul_comm, Int.mul_assoc]
  rw [e1, sig_comm]
  refine sig_congr (fun m hm => ?_)
  have e2 : sig (t + 1) (fun k => if m ≤ k then F m * (G (k - m) * H (t - k)) else 0) = sig (m + (t - m + 1)) (fun k => if m ≤ k then (fun j => F m * (G j * H (t - m - j))) (k - m) else 0) := by
    rw [show m + (t - m + 1) = t + 1 by omega]
    refine sig_congr (fun k hk => ?_)
    by_cases h : m ≤ k
    · rw [if_pos h, if_pos h]
      simp only
      rw [show t - m - (k - m) = t - k by omega]
    · rw [if_neg h, if_neg h]
  rw [e2, sig_shift (fun j => F m * (G j * H (t - m - j))) m (t - m + 1), cp, sig_mul]
theorem cvAt_cp (h p : List Int) (t : Nat) : cvAt h p t h.length = cp (gd h) (gd p) t := by
  rw [cvAt_sig]
  have a1 : sig (h.length + (t + 1)) (fun m => h.getD m 0 * pz p t m) = sig h.length (fun m => h.getD m 0 * pz p t m) := sig_more (fun i q1 q2 => by
    have := gd_out (l := h) q1
    unfold gd at this
    rw [this, Int.zero_mul])
  have a2 : sig (t + 1 + h.length) (fun m => h.getD m 0 * pz p t m) = sig (t + 1) (fun m => h.getD m 0 * pz p t m) := sig_more (fun i q1 q2 => by
    unfold pz
    rw [if_neg (by omega), Int.mul_zero])
  rw [← a1, Nat.add_comm, a2]
  refine sig_congr (fun m hm => ?_)
  unfold pz gd
  rw [if_pos (by omega)]
theorem convL {h p : List Int} (h0 : 0 < h.length) (p0 : 0 < p.length) : (conv h p).length = h.length + p.length - 1 := by
  unfold conv
  rw [if_neg (by omega)]
  simp
theorem conv_nil {h p : List Int} (h0 : h.length = 0 ∨ p.length = 0) : conv h p = [] := by
  unfold conv
  rw [if_pos h0]
theorem conv_gd (h p : List Int) (t : Nat) : gd (conv h p) t = cp (gd h) (gd p) t := by
  by_cases h0 : h.length = 0 ∨ p.length = 0
  · rw [conv_nil h0]
    refine Eq.symm (Eq.trans (sig_congr (g := fun _ => 0) (fun m _ => ?_)) (sig_zero _))
    rcases h0 with h0 | h0
    · rw [gd_out (l := h) (by omega), Int.zero_mul]
    · rw [gd_out (l := p) (by omega), Int.mul_zero]
  · rcases Nat.lt_or_ge t (h.length + p.length - 1) with ht | ht
    · rw [← cvAt_cp]
      exact conv_get ht (by omega) (by omega)
    · rw [gd_out (by rw [convL (by omega) (by omega)]; exact ht)]
      refine Eq.symm (Eq.trans (sig_congr (g := fun _ => 0) (fun m _ => ?_)) (sig_zero _))
      rcases Nat.lt_or_ge m h.length with hm | hm
      · rw [gd_out (l := p) (by omega), Int.mul_zero]
      · rw [gd_out (l := h) hm, Int.zero_mul]
theorem conv_gd' (h p : List Int) : gd (conv h p) = cp (gd h) (gd p) := funext (conv_gd h p)
theorem conv_comm (h p : List Int) : conv h p = conv p h := by
  by_cases h0 : h.length = 0 ∨ p.length = 0
  · rw [conv_nil h0, conv_nil h0.symm]
  · refine gd_ext (by rw [convL (by omega) (by omega), convL (by omega) (by omega)]; omega) (fun k _ => ?_)
    rw [conv_gd, conv_gd, cp_comm]
theorem conv_assoc {a b c : List Int} (a0 : 0 < a.length) (b0 : 0 < b.length) (c0 : 0 < c.length) : conv (conv a b) c = conv a (conv b c) := by
  have l1 := convL a0 b0
  have l2 := convL b0 c0
  have l3 : 0 < (conv a b).length := by omega
  have l4 : 0 < (conv b c).length := by omega
  refine gd_ext (by rw [convL l3 c0, convL a0 l4]; omega) (fun k _ => ?_)
  rw [conv_gd, conv_gd, conv_gd', conv_gd', cp_assoc]
end Go.Proofs.YtamldoidalnloaaGreatDoor

/- Floats (IEEE 754), plain: a word and what it stands for; the operations on words that stand for sixteenths; what CheckSample computes of any float. -/
namespace Go.Proofs.YtamldoidalnloaaGreatDoor
section
open Ieee
/-- a number and a place that stand for the same as another number at another place. -/
def VE (m : Nat) (p : Int) (v : Nat) (e : Int) : Prop := ∃ (b : Int) (i j : Nat), p = b + i ∧ e = b + j ∧ m * 2 ^ i = v * 2 ^ j
theorem VE.refl (m : Nat) (p : Int) : VE m p m p := ⟨p, 0, 0, by simp, by simp, rfl⟩
theorem VE.symm {m v : Nat} {p e : Int} (h : VE m p v e) : VE v e m p := by
  obtain ⟨b, i, j, h1, h2, h3⟩ := h
  exact ⟨b, j, i, h2, h1, h3.symm⟩
theorem VE.zero {m v : Nat} {p e : Int} (h : VE m p v e) : m = 0 ↔ v = 0 := by
  obtain ⟨b, i, j, -, -, h3⟩ := h
  have h1 : 0 < 2 ^ i := Nat.two_pow_pos i
  have h2 : 0 < 2 ^ j := Nat.two_pow_pos j
  constructor
  · intro h; subst h; rw [Nat.zero_mul] at h3; exact (Nat.mul_eq_zero.1 h3.symm).resolve_right (by omega)
  · intro h; subst h; rw [Nat.zero_mul] at h3; exact (Nat.mul_eq_zero.1 h3).resolve_right (by omega)
theorem log2_mul {m : Nat} (hm : m ≠ 0) (i : Nat) : (m * 2 ^ i).log2 = m.log2 + i := by
  have h2 : 0 < 2 ^ i := Nat.two_pow_pos i
  have hn : m * 2 ^ i ≠ 0 := by rw [Ne, Nat.mul_eq_zero]; omega
  rw [Nat.log2_eq_iff hn]
  have h1 := Nat.log2_self_le hm
  have h3 := Nat.lt_log2_self (n := m)
  constructor
  · rw [Nat.pow_add]; exact Nat.mul_le_mul_right _ h1
  · rw [show m.log2 + i + 1 = (m.log2 + 1) + i by omega, Nat.pow_add]; exact Nat.mul_lt_mul_of_pos_right h3 h2
theorem VE.log2 {m v : Nat} {p e : Int} (h : VE m p v e) (hm : m ≠ 0) : p + m.log2 = e + v.log2 := by
  have hv : v ≠ 0 := fun q => hm (h.zero.2 q)
  obtain ⟨b, i, j, h1, h2, h3⟩ := h
  have a1 := log2_mul hm i
  have a2 := log2_mul hv j
  rw [h3] at a1
  omega
/-- the same number at a place that lies below. -/
theorem VE.down {m v : Nat} {p e : Int} (h : VE m p v e) (d : Nat) (hd : e = p + d) : m = v * 2 ^ d := by
  obtain ⟨b, i, j, h1, h2, h3⟩ := h
  have : j = i + d := by omega
  subst this
  rw [Nat.pow_add, Nat.mul_comm (2 ^ i), ← Nat.mul_assoc] at h3
  exact Nat.eq_of_mul_eq_mul_right (Nat.two_pow_pos i) h3
theorem VE.of_down {m v : Nat} {p e : Int} (d : Nat) (hd : e = p + d) (h : m = v * 2 ^ d) : VE m p v e := ⟨p, 0, d, by simp, hd, by simpa using h⟩
theorem VE.trans {a b c : Nat} {p q r : Int} (h : VE a p b q) (k : VE b q c r) : VE a p c r := by
  obtain ⟨x, i, j, h1, h2, h3⟩ := h
  obtain ⟨y, i', j', k1, k2, k3⟩ := k
  refine ⟨min x y, i + (x - min x y).toNat, j' + (y - min x y).toNat, by omega, by omega, ?_⟩
  have e1 : j + (x - min x y).toNat = i' + (y - min x y).toNat := by omega
  rw [Nat.pow_add, ← Nat.mul_assoc, h3, Nat.mul_assoc, ← Nat.pow_add, e1, Nat.pow_add, ← Nat.mul_assoc, k3, Nat.mul_assoc, ← Nat.pow_add]
theorem cut_exact (way : Toward) (neg : Bool) (m d : Nat) : way.cut neg (m * 2 ^ d) d = m := by
  unfold Toward.cut
  by_cases hm : m = 0
  · subst hm
    rw [Nat.zero_mul]
    have hg : (1 <<< min d (Nat.log2 0 + 2)) ≠ 0 := by rw [Nat.shiftLeft_eq, Nat.one_mul]; exact Nat.ne_of_gt (Nat.two_pow_pos _)
    cases way <;> simp [hg]
  · have hl := log2_mul hm d
    have hmin : min d ((m * 2 ^ d).log2 + 2) = d := by omega
    have hp := Nat.two_pow_pos d
    have hg : (1 <<< d) = 2 ^ d := by rw [Nat.shiftLeft_eq, Nat.one_mul]
    have hp2 : (2 ^ d : Nat) ≠ 0 := by omega
    simp only [hmin, hg, Nat.mul_div_cancel _ hp, Nat.mul_mod_left]
    cases way <;> simp [hp2]
section
variable (f : Format)
/-- the place of the last digit of a number. -/
def lastP (v : Nat) (e : Int) : Int := max (e + v.log2 - f.fractionBits) f.leastPlace
/-- its significand there. -/
def sigP (v : Nat) (e : Int) : Nat := v * 2 ^ (e - lastP f v e).toNat
def rungP (v : Nat) (e : Int) : Nat := (lastP f v e - f.leastPlace).toNat * f.binade + sigP f v e
/-- a number that the format has. -/
structure Rep (v : Nat) (e : Int) : Prop where
  v0 : v ≠ 0
  vl : v.log2 ≤ f.fractionBits
  el : f.leastPlace ≤ e
  hi : rungP f v e < f.infRung
variable {f}
theorem Rep.last_le {v : Nat} {e : Int} (h : Rep f v e) : lastP f v e ≤ e := by
  have := h.vl
  have := h.el
  unfold lastP
  omega
theorem Rep.sig {v : Nat} {e : Int} (h : Rep f v e) : VE (sigP f v e) (lastP f v e) v e := by
  have := h.last_le
  exact VE.of_down (e - lastP f v e).toNat (by omega) rfl
theorem lastP_of {m v : Nat} {p e : Int} (h : VE m p v e) (hm : m ≠ 0) : lastP f m p = lastP f v e := by
  have := h.log2 hm
  unfold lastP
  omega
theorem nearest_rep {m v : Nat} {p e : Int} (h : VE m p v e) (r : Rep f v e) (neg : Bool) : f.nearest neg m p = f.word neg (rungP f v e) := by
  have hm : m ≠ 0 := fun q => r.v0 (h.zero.1 q)
  have hl := lastP_of (f := f) h hm
  have hle := r.last_le
  unfold Format.nearest
  rw [if_neg hm]
  have hd : max (p + (m.log2 : Int) - f.fractionBits) f.leastPlace = lastP f v e := hl
  simp only [hd]
  obtain ⟨L, hL⟩ : ∃ L, L = lastP f v e := ⟨_, rfl⟩
  have hk : Toward.even.cut neg (m <<< (p - L).toNat) (L - p).toNat = sigP f v e := by
    rw [Nat.shiftLeft_eq]
    have hs := h.trans r.sig.symm
    rw [← hL] at hs
    rcases Int.le_total L p with q | q
    · have e1 : (L - p).toNat = 0 := by omega
      have e2 := hs.symm.down (p - L).toNat (by omega)
      rw [e1, ← e2]
      have := cut_exact Toward.even neg (sigP f v e) 0
      simpa using this
    · have e1 : (p - L).toNat = 0 := by omega
      have e2 := hs.down (L - p).toNat (by omega)
      rw [e1, e2]
      have := cut_exact Toward.even neg (sigP f v e) (L - p).toNat
      simpa using this
  rw [← hL, hk]
  have hh := r.hi
  unfold rungP at hh ⊢
  rw [← hL] at hh ⊢
  rw [Nat.min_eq_left (Nat.le_of_lt hh)]
theorem binade_pos : 0 < f.binade := Nat.two_pow_pos _
theorem word_neg (neg : Bool) {rung : Nat} (h : rung < f.signWeight) : (f.word neg rung / f.signWeight % 2 == 1) = neg ∧ f.word neg rung % f.signWeight = rung := by
  have hs : 0 < f.signWeight := Nat.two_pow_pos _
  cases neg
  · unfold Format.word
    simp only [if_neg (show ¬ (false = true) by decide)]
    exact ⟨by rw [Nat.div_eq_of_lt h]; rfl, Nat.mod_eq_of_lt h⟩
  · unfold Format.word
    simp only [if_true]
    refine ⟨?_, by rw [Nat.add_mod_left, Nat.mod_eq_of_lt h]⟩
    rw [Nat.add_div_left _ hs, Nat.div_eq_of_lt h]
    rfl
theorem Rep.sig_lt {v : Nat} {e : Int} (r : Rep f v e) : sigP f v e < 2 * f.binade ∧ (sigP f v e < f.binade → lastP f v e = f.leastPlace) := by
  have hs := r.sig
  have hm : sigP f v e ≠ 0 := fun q => r.v0 (hs.zero.1 q)
  have hl := hs.log2 hm
  have h1 := Nat.lt_log2_self (n := sigP f v e)
  have h2 := Nat.log2_self_le hm
  have hle := r.vl
  have hel := r.el
  unfold Format.binade
  constructor
  · refine Nat.lt_of_lt_of_le h1 ?_
    rw [← Nat.pow_succ']
    refine Nat.pow_le_pow_right (by decide) ?_
    have : lastP f v e ≥ e + v.log2 - f.fractionBits := by unfold lastP; omega
    omega
  · intro hlt
    have h3 : (sigP f v e).log2 < f.fractionBits := (Nat.log2_lt hm).2 hlt
    unfold lastP at hl ⊢
    omega
theorem read_word {v : Nat} {e : Int} (r : Rep f v e) (neg : Bool) : f.read (f.word neg (rungP f v e)) = .number neg (sigP f v e) (lastP f v e) := by
  have hi := r.hi
  have hb := f.infRung_add_binade
  have hbp := binade_pos (f := f)
  obtain ⟨w1, w2⟩ := word_neg (f := f) neg (rung := rungP f v e) (by omega)
  obtain ⟨s1, s2⟩ := r.sig_lt
  have hlp : f.leastPlace ≤ lastP f v e := by unfold lastP; omega
  unfold Format.read
  simp only [w1, w2]
  obtain ⟨D, hD⟩ : ∃ D : Nat, lastP f v e - f.leastPlace = D := ⟨(lastP f v e - f.leastPlace).toNat, by omega⟩
  have hr : rungP f v e = D * f.binade + sigP f v e := by unfold rungP; rw [hD]; rfl
  by_cases hc : sigP f v e < f.binade
  · have h0 := s2 hc
    have hD0 : D = 0 := by omega
    rw [hr, hD0, Nat.zero_mul, Nat.zero_add, if_pos hc, h0]
  · have hge : f.binade ≤ sigP f v e := Nat.le_of_not_lt hc
    have hrb : ¬ rungP f v e < f.binade := by rw [hr]; have := Nat.zero_le (D * f.binade); omega
    rw [if_neg hrb, if_pos hi]
    obtain ⟨t, ht⟩ : ∃ t, sigP f v e = f.binade + t := ⟨sigP f v e - f.binade, by omega⟩
    have htl : t < f.binade := by omega
    have e1 : rungP f v e = t + (D + 1) * f.binade := by rw [hr, ht, Nat.add_mul]; omega
    have e2 : rungP f v e % f.binade = t := by rw [e1, Nat.add_mul_mod_self_right, Nat.mod_eq_of_lt htl]
    have e3 : rungP f v e / f.binade = D + 1 := by rw [e1, Nat.add_mul_div_right _ _ hbp, Nat.div_eq_of_lt htl, Nat.zero_add]
    rw [e2, e3, ← ht]
    congr 1
    omega
theorem nearest_zero (neg : Bool) (p : Int) : f.nearest neg 0 p = f.word neg 0 := by unfold Format.nearest; rw [if_pos rfl]
theorem read_zero (neg : Bool) : f.read (f.word neg 0) = .number neg 0 f.leastPlace := by
  have hs : 0 < f.signWeight := Nat.two_pow_pos _
  obtain ⟨w1, w2⟩ := word_neg (f := f) neg (rung := 0) hs
  unfold Format.read
  simp only [w1, w2]
  rw [if_pos binade_pos]
/-- a word that is no infinity and no NaN, is the word of what it stands for. -/
theorem write_read (hfb : f.binade ≤ f.infRung) {b : Nat} (hb : b < 2 * f.signWeight) {s : Bool} {m : Nat} {p : Int} (h : f.read b = .number s m p) : (m = 0 ∧ b = f.word s 0) ∨ (Rep f m p ∧ b = f.word s (rungP f m p)) := by
  have hs : 0 < f.signWeight := Nat.two_pow_pos _
  have hbp := binade_pos (f := f)
  have hw : b = f.word (b / f.signWeight % 2 == 1) (b % f.signWeight) := by
    have h1 := Nat.div_add_mod b f.signWeight
    have h2 : b / f.signWeight < 2 := (Nat.div_lt_iff_lt_mul hs).2 hb
    unfold Format.word
    have h3 : b / f.signWeight = 0 ∨ b / f.signWeight = 1 := by generalize b / f.signWeight = q at h2; omega
    rcases h3 with q | q
    · rw [q, Nat.mul_zero, Nat.zero_add] at h1
      rw [q, if_neg (by decide)]
      exact h1.symm
    · rw [q, Nat.mul_one] at h1
      rw [q, if_pos (by decide)]
      exact h1.symm
  obtain ⟨rung, hr⟩ : ∃ rung, rung = b % f.signWeight := ⟨_, rfl⟩
  unfold Format.read at h
  simp only [← hr] at h hw
  split at h
  · rename_i q
    cases h
    by_cases h0 : m = 0
    · left; exact ⟨h0, by rw [← h0]; exact hw⟩
    · right
      have hl : m.log2 < f.fractionBits := (Nat.log2_lt h0).2 q
      have hla : lastP f m f.leastPlace = f.leastPlace := by unfold lastP; omega
      have hsg : sigP f m f.leastPlace = m := by unfold sigP; rw [hla, Int.sub_self]; simp
      have hrg : rungP f m f.leastPlace = m := by unfold rungP; rw [hla, hsg, Int.sub_self]; simp
      refine ⟨⟨h0, Nat.le_of_lt hl, Int.le_refl _, ?_⟩, by rw [hrg]; exact hw⟩
      rw [hrg]
      exact Nat.lt_of_lt_of_le q hfb
  · split at h
    · rename_i q1 q2
      cases h
      right
      have hge : f.binade ≤ rung := Nat.le_of_not_lt q1
      have hml : rung % f.binade < f.binade := Nat.mod_lt _ hbp
      have hdm := Nat.div_add_mod rung f.binade
      have hq : 1 ≤ rung / f.binade := (Nat.le_div_iff_mul_le hbp).2 (by omega)
      obtain ⟨t, ht⟩ : ∃ t, t = rung % f.binade := ⟨_, rfl⟩
      obtain ⟨u, hu⟩ : ∃ u, rung / f.binade = u + 1 := ⟨rung / f.binade - 1, by omega⟩
      rw [← ht, hu] at hdm
      rw [← ht] at hml
      rw [← ht, hu, Nat.add_sub_cancel]
      have h0 : f.binade + t ≠ 0 := by omega
      have hlog : (f.binade + t).log2 = f.fractionBits := by
        rw [Nat.log2_eq_iff h0]
        unfold Format.binade at hml ⊢
        rw [Nat.pow_succ]
        omega
      have hla : lastP f (f.binade + t) (f.leastPlace + (u : Int)) = f.leastPlace + u := by unfold lastP; rw [hlog]; omega
      have hsg : sigP f (f.binade + t) (f.leastPlace + (u : Int)) = f.binade + t := by unfold sigP; rw [hla, Int.sub_self]; simp
      have hrg : rungP f (f.binade + t) (f.leastPlace + (u : Int)) = rung := by
        unfold rungP
        rw [hla, hsg, show f.leastPlace + (u : Int) - f.leastPlace = u by omega, Int.toNat_natCast]
        rw [Nat.mul_comm, Nat.add_mul] at hdm
        omega
      refine ⟨⟨h0, by rw [hlog]; exact Nat.le_refl _, by omega, by rw [hrg]; exact q2⟩, ?_⟩
      rw [hrg]
      exact hw
    · split at h <;> cases h
end
theorem nearest_eq {f : Format} {m v : Nat} {p e : Int} (h : VE m p v e) (hr : v = 0 ∨ Rep f v e) (neg : Bool) : f.nearest neg m p = f.nearest neg v e := by
  rcases hr with h0 | hr
  · rw [h.zero.2 h0, h0, nearest_zero, nearest_zero]
  · rw [nearest_rep h hr, nearest_rep (VE.refl v e) hr]
/-- the word of z at the place e. -/
def flE (f : Format) (z e : Int) : Nat := f.nearest (decide (z < 0)) z.natAbs e
/-- what a word is read as that stands for z at the place e. -/
structure RD (f : Format) (x : Nat) (z e : Int) (m : Nat) (p : Int) : Prop where
  rd : f.read x = .number (decide (z < 0)) m p
  pe : p ≤ e
  mz : m = z.natAbs * 2 ^ (e - p).toNat
  ml : m < 2 * f.binade
  pl : f.leastPlace ≤ p
theorem rep_single {v : Nat} {e : Int} (h0 : v ≠ 0) (hv : v < 16777216) (h1 : -100 ≤ e) (h2 : e ≤ 50) : Rep single v e := by
  have hl : v.log2 < 24 := (Nat.log2_lt h0).2 hv
  have hlp : single.leastPlace = -149 := by decide
  have hfb : single.fractionBits = 23 := rfl
  have hbn : single.binade = 8388608 := by decide
  have hir : single.infRung = 2139095040 := by decide
  refine ⟨h0, by omega, by omega, ?_⟩
  have hs : sigP single v e < 16777216 := by
    unfold sigP
    have hlast : (e - lastP single v e).toNat ≤ 23 - v.log2 := by unfold lastP; omega
    have h3 := Nat.lt_log2_self (n := v)
    have h4 : v * 2 ^ (e - lastP single v e).toNat ≤ v * 2 ^ (23 - v.log2) := Nat.mul_le_mul_left _ (Nat.pow_le_pow_right (by decide) hlast)
    have h5 : v * 2 ^ (23 - v.log2) < 2 ^ (v.log2 + 1) * 2 ^ (23 - v.log2) := Nat.mul_lt_mul_of_pos_right h3 (Nat.two_pow_pos _)
    rw [← Nat.pow_add, show v.log2 + 1 + (23 - v.log2) = 24 by omega] at h5
    omega
  unfold rungP
  rw [hbn, hir]
  have : (lastP single v e - single.leastPlace).toNat ≤ 199 := by unfold lastP; omega
  omega
theorem rep_double {v : Nat} {e : Int} (h0 : v ≠ 0) (hv : v < 9007199254740992) (h1 : -900 ≤ e) (h2 : e ≤ 900) : Rep double v e := by
  have hl : v.log2 < 53 := (Nat.log2_lt h0).2 hv
  have hlp : double.leastPlace = -1074 := by decide
  have hfb : double.fractionBits = 52 := rfl
  have hbn : double.binade = 4503599627370496 := by decide
  have hir : double.infRung = 9218868437227405312 := by decide
  refine ⟨h0, by omega, by omega, ?_⟩
  have hs : sigP double v e < 9007199254740992 := by
    unfold sigP
    have hlast : (e - lastP double v e).toNat ≤ 52 - v.log2 := by unfold lastP; omega
    have h3 := Nat.lt_log2_self (n := v)
    have h4 : v * 2 ^ (e - lastP double v e).toNat ≤ v * 2 ^ (52 - v.log2) := Nat.mul_le_mul_left _ (Nat.pow_le_pow_right (by decide) hlast)
    have h5 : v * 2 ^ (52 - v.log2) < 2 ^ (v.log2 + 1) * 2 ^ (52 - v.log2) := Nat.mul_lt_mul_of_pos_right h3 (Nat.two_pow_pos _)
    rw [← Nat.pow_add, show v.log2 + 1 + (52 - v.log2) = 53 by omega] at h5
    omega
  unfold rungP
  rw [hbn, hir]
  have : (lastP double v e - double.leastPlace).toNat ≤ 1974 := by unfold lastP; omega
  omega
theorem rd_flE {f : Format} {z e : Int} (hr : z = 0 ∨ Rep f z.natAbs e) (he : f.leastPlace ≤ e) : ∃ m p, RD f (flE f z e) z e m p := by
  by_cases h0 : z = 0
  · subst h0
    refine ⟨0, f.leastPlace, ?_, he, by simp, by have := binade_pos (f := f); omega, Int.le_refl _⟩
    unfold flE
    rw [show (0 : Int).natAbs = 0 from rfl, nearest_zero]
    exact read_zero _
  · have r := hr.resolve_left h0
    refine ⟨sigP f z.natAbs e, lastP f z.natAbs e, ?_, r.last_le, rfl, r.sig_lt.1, by unfold lastP; omega⟩
    unfold flE
    rw [nearest_rep (VE.refl _ _) r]
    exact read_word r _
theorem signed_z (z : Int) (k u : Nat) : signed (decide (z < 0)) (z.natAbs * 2 ^ k) u = z * 2 ^ (k + u) := by
  unfold signed
  rw [Nat.shiftLeft_eq, Nat.mul_assoc, ← Nat.pow_add]
  by_cases h : z < 0
  · rw [if_pos (by simpa using h)]
    have : (z.natAbs : Int) = -z := by omega
    rw [Int.natCast_mul, this, Int.neg_mul, Int.neg_neg]
    simp
  · rw [if_neg (by simpa using h)]
    have : (z.natAbs : Int) = z := by omega
    rw [Int.natCast_mul, this]
    simp
theorem pow_pos_int (k : Nat) : (0 : Int) < 2 ^ k := Int.pow_pos (by decide)
theorem RD.sgn {f : Format} {x : Nat} {z e : Int} {m : Nat} {p : Int} (h : RD f x z e m p) (base : Int) (hb : base ≤ p) : signed (decide (z < 0)) m (p - base).toNat = z * 2 ^ (e - base).toNat := by
  rw [h.mz, signed_z]
  congr 2
  have := h.pe
  omega
theorem compare_mul (a b : Int) (k : Nat) : compare (a * 2 ^ k) (b * 2 ^ k) = compare a b := by
  have hk := pow_pos_int k
  show compareOfLessAndEq (a * 2 ^ k) (b * 2 ^ k) = compareOfLessAndEq a b
  unfold compareOfLessAndEq
  have h1 : (a * 2 ^ k < b * 2 ^ k) ↔ a < b := ⟨fun h => by
    rcases Int.lt_or_le a b with q | q
    · exact q
    · have := Int.mul_le_mul_of_nonneg_right q (Int.le_of_lt hk); omega, fun h => Int.mul_lt_mul_of_pos_right h hk⟩
  have h2 : (a * 2 ^ k = b * 2 ^ k) ↔ a = b := ⟨fun h => Int.eq_of_mul_eq_mul_right (by omega) h, fun h => by rw [h]⟩
  by_cases c1 : a < b
  · rw [if_pos (h1.2 c1), if_pos c1]
  · rw [if_neg (fun h => c1 (h1.1 h)), if_neg c1]
    by_cases c2 : a = b
    · rw [if_pos (h2.2 c2), if_pos c2]
    · rw [if_neg (fun h => c2 (h2.1 h)), if_neg c2]
/-- two words compare as what they stand for. -/
theorem order_rd {f : Format} {x y : Nat} {a b e : Int} {m n : Nat} {p q : Int} (hx : RD f x a e m p) (hy : RD f y b e n q) : f.order x y = some (compare a b) := by
  unfold Format.order
  rw [hx.rd, hy.rd]
  simp only [Datum.order]
  rw [hx.sgn (min p q) (Int.min_le_left _ _), hy.sgn (min p q) (Int.min_le_right _ _), compare_mul]
theorem natAbs_mul_pow (a : Int) (k : Nat) : (a * 2 ^ k).natAbs = a.natAbs * 2 ^ k := by
  rw [Int.natAbs_mul, Int.natAbs_pow]
  rfl
/-- a sum. -/
theorem add_rd {f : Format} {x y : Nat} {a b e : Int} {m n : Nat} {p q : Int} (hx : RD f x a e m p) (hy : RD f y b e n q) (hr : a + b = 0 ∨ Rep f (a + b).natAbs e) : f.add x y = some (flE f (a + b) e) := by
  unfold Format.add
  rw [hx.rd, hy.rd]
  simp only [Datum.sum, Option.map_some]
  have hp := hx.pe
  obtain ⟨B, hB⟩ : ∃ B, B = min p q := ⟨_, rfl⟩
  have hBp : B ≤ p := by omega
  have hBq : B ≤ q := by omega
  rw [← hB, hx.sgn B hBp, hy.sgn B hBq, ← Int.add_mul]
  have hk := pow_pos_int (e - B).toNat
  congr 1
  unfold Format.write flE
  by_cases h0 : a + b = 0
  · rw [h0, Int.zero_mul, if_pos rfl]
    have hs : (decide (a < 0) && decide (b < 0)) = false := by
      by_cases h1 : a < 0
      · have : ¬ b < 0 := by omega
        simp [this]
      · simp [h1]
    simp only [hs]
    rw [show (0 : Int).natAbs = 0 from rfl, nearest_zero, nearest_zero]
    rfl
  · have hne : (a + b) * 2 ^ (e - B).toNat ≠ 0 := Int.mul_ne_zero h0 (by omega)
    rw [if_neg hne]
    have hsg : ((a + b) * 2 ^ (e - B).toNat < 0) ↔ a + b < 0 := by
      constructor
      · intro q1
        rcases Int.lt_or_le (a + b) 0 with q2 | q2
        · exact q2
        · have := Int.mul_nonneg q2 (Int.le_of_lt hk); omega
      · intro q1
        exact Int.mul_neg_of_neg_of_pos q1 hk
    simp only [natAbs_mul_pow]
    rw [show decide ((a + b) * 2 ^ (e - B).toNat < 0) = decide (a + b < 0) from decide_eq_decide.2 hsg]
    exact nearest_eq (VE.of_down (e - B).toNat (by omega) rfl) (Or.inr (hr.resolve_left h0)) _
/-- an integer is what is left of a word that stands for it. -/
theorem toInt_rd {f : Format} {x : Nat} {z : Int} {m : Nat} {p : Int} (hx : RD f x z 0 m p) : (f.read x).toInt .zero = some z := by
  rw [hx.rd]
  unfold Datum.toInt Datum.integral
  have hp := hx.pe
  have e1 : p.toNat = 0 := by omega
  have hm := hx.mz
  have hc : Toward.zero.cut (decide (z < 0)) (m <<< p.toNat) (-p).toNat = z.natAbs := by
    rw [e1, Nat.shiftLeft_eq, Nat.pow_zero, Nat.mul_one, hm, show (0 - p).toNat = (-p).toNat by omega]
    exact cut_exact _ _ _ _
  simp only [hc]
  have := signed_z z 0 0
  simpa using this
/-- a product with a power of two. -/
theorem mul_pow_rd {f : Format} {x y : Nat} {z e : Int} {m n : Nat} {p q : Int} {k : Int} (hx : RD f x z e m p) (hy : f.read y = .number false n q) (hn : ∃ i : Nat, n = 2 ^ i ∧ q + i = k) (hr : z = 0 ∨ Rep f z.natAbs (e + k)) : f.mul x y = some (flE f z (e + k)) := by
  obtain ⟨i, hn, hq⟩ := hn
  unfold Format.mul
  rw [hx.rd, hy]
  simp only [Datum.product, Option.map_some, Bool.xor_false]
  congr 1
  show f.nearest (decide (z < 0)) (m * n) (p + q) = f.nearest (decide (z < 0)) z.natAbs (e + k)
  have hp := hx.pe
  by_cases h0 : z = 0
  · subst h0
    rw [show m = 0 by rw [hx.mz]; simp, Nat.zero_mul, show (0 : Int).natAbs = 0 from rfl, nearest_zero, nearest_zero]
  · refine nearest_eq ?_ (Or.inr (hr.resolve_left h0)) _
    refine ⟨p + q, 0, i + (e - p).toNat, by simp, by omega, ?_⟩
    rw [hx.mz, hn, Nat.pow_zero, Nat.mul_one, Nat.mul_assoc, Nat.pow_add, Nat.mul_comm (2 ^ i)]
/-- a quotient by a power of two. -/
theorem div_pow_rd {f : Format} {x y : Nat} {z e : Int} {m n : Nat} {p q : Int} {k : Int} (hx : RD f x z e m p) (hy : f.read y = .number false n q) (hn : n = 2 ^ f.fractionBits ∧ q + f.fractionBits = k) (hr : z = 0 ∨ Rep f z.natAbs (e - k)) : f.div x y = some (flE f z (e - k)) := by
  obtain ⟨hn, hq⟩ := hn
  unfold Format.div
  rw [hx.rd, hy]
  have hn0 : n ≠ 0 := by rw [hn]; exact Nat.ne_of_gt (Nat.two_pow_pos _)
  have hnl : n.log2 = f.fractionBits := by rw [hn]; exact Nat.log2_two_pow
  simp only [Datum.quotient, if_neg hn0, Option.map_some, Bool.xor_false, hnl]
  have hml : m.log2 ≤ f.fractionBits := by
    have h1 := hx.ml
    by_cases h0 : m = 0
    · rw [h0]; simp
    · have : m.log2 < f.fractionBits + 1 := (Nat.log2_lt h0).2 (by unfold Format.binade at h1; rw [Nat.pow_succ]; omega)
      omega
  obtain ⟨r, hr2⟩ : ∃ r, f.fractionBits + 2 + f.fractionBits - m.log2 = f.fractionBits + r := ⟨f.fractionBits + 2 - m.log2, by omega⟩
  rw [hr2]
  have hd : m <<< (f.fractionBits + r) = m * 2 ^ r * n := by rw [Nat.shiftLeft_eq, hn, Nat.mul_assoc, ← Nat.pow_add, Nat.add_comm r]
  rw [hd, Nat.mul_div_cancel _ (Nat.pos_of_ne_zero hn0), Nat.mul_mod_left]
  congr 1
  show f.nearest (decide (z < 0)) (2 * (m * 2 ^ r) + (0 != 0).toNat) _ = f.nearest (decide (z < 0)) z.natAbs (e - k)
  have hp := hx.pe
  rw [show (0 != 0).toNat = 0 from rfl, Nat.add_zero]
  by_cases h0 : z = 0
  · subst h0
    rw [show m = 0 by rw [hx.mz]; simp, Nat.zero_mul, Nat.mul_zero, show (0 : Int).natAbs = 0 from rfl, nearest_zero, nearest_zero]
  · refine nearest_eq ?_ (Or.inr (hr.resolve_left h0)) _
    refine ⟨p - q - ((f.fractionBits + r : Nat) : Int) - 1, 0, r + 1 + (e - p).toNat, by simp, by omega, ?_⟩
    rw [hx.mz, Nat.pow_zero, Nat.mul_one, Nat.pow_add, Nat.pow_succ]
    generalize 2 ^ (e - p).toNat = u
    generalize 2 ^ r = v
    rw [Nat.mul_comm 2, Nat.mul_assoc, Nat.mul_assoc, Nat.mul_comm u]
/-- the float of so many sixteenths. -/
def fl (z : Int) : Nat := FloatKind.f32.encode (.number (z < 0) z.natAbs (-4))
/-- the float of an integer. -/
def fi (z : Int) : Nat := floatOfInt .f32 z
theorem fl_eq (z : Int) : fl z = flE single z (-4) := rfl
theorem fi_eq (z : Int) : fi z = flE single z 0 := rfl
theorem fl_rd {z : Int} (h : -16777216 < z ∧ z < 16777216) : ∃ m p, RD single (fl z) z (-4) m p := by
  rw [fl_eq]
  refine rd_flE ?_ (by decide)
  by_cases h0 : z = 0
  · exact .inl h0
  · exact .inr (rep_single (by omega) (by omega) (by decide) (by decide))
theorem fi_rd {z : Int} (h : -16777216 < z ∧ z < 16777216) : ∃ m p, RD single (fi z) z 0 m p := by
  rw [fi_eq]
  refine rd_flE ?_ (by decide)
  by_cases h0 : z = 0
  · exact .inl h0
  · exact .inr (rep_single (by omega) (by omega) (by decide) (by decide))
theorem rep_fl {z : Int} (h : -16777216 < z ∧ z < 16777216) (e : Int) (h1 : -100 ≤ e) (h2 : e ≤ 50) : z = 0 ∨ Rep single z.natAbs e := by
  by_cases h0 : z = 0
  · exact .inl h0
  · exact .inr (rep_single (by omega) (by omega) h1 h2)
theorem read16 : single.read 1098907648 = .number false 8388608 (-19) := by decide
/-- the sum of two floats that stand for sixteenths. -/
theorem fl_add {a b : Int} (ha : -8388608 < a ∧ a < 8388608) (hb : -8388608 < b ∧ b < 8388608) : floatBits .add .f32 (fl a) (fl b) = some (fl (a + b)) := by
  obtain ⟨m, p, hx⟩ := fl_rd (z := a) (by omega)
  obtain ⟨n, q, hy⟩ := fl_rd (z := b) (by omega)
  exact add_rd hx hy (rep_fl (by omega) (-4) (by decide) (by decide))
theorem fl_order {a b : Int} (ha : -16777216 < a ∧ a < 16777216) (hb : -16777216 < b ∧ b < 16777216) : single.order (fl a) (fl b) = some (compare a b) := by
  obtain ⟨m, p, hx⟩ := fl_rd ha
  obtain ⟨n, q, hy⟩ := fl_rd hb
  exact order_rd hx hy
theorem fl_mul {z : Int} (h : -16777216 < z ∧ z < 16777216) : floatBits .mul .f32 (fl z) 1098907648 = some (fi z) := by
  obtain ⟨m, p, hx⟩ := fl_rd h
  have := mul_pow_rd (k := 4) hx read16 ⟨23, by decide, by decide⟩ (rep_fl h _ (by decide) (by decide))
  exact this
theorem fi_div {z : Int} (h : -16777216 < z ∧ z < 16777216) : floatBits .quo .f32 (fi z) 1098907648 = some (fl z) := by
  obtain ⟨m, p, hx⟩ := fi_rd h
  have := div_pow_rd (k := 4) hx read16 ⟨by decide, by decide⟩ (rep_fl h _ (by decide) (by decide))
  exact this
theorem fl_zero : fl 0 = 0 := by decide
theorem fl_sub {x : Nat} {s : Bool} {m : Nat} {p : Int} (h : single.read x = .number s m p) : floatBits .sub .f32 x x = some 0 := by
  show single.sub x x = some 0
  unfold Format.sub
  rw [h]
  simp only [Datum.opposite, Datum.sum, Option.map_some, Int.min_self, Int.sub_self]
  have hs : signed s m (0 : Int).toNat + signed (!s) m (0 : Int).toNat = 0 := by
    cases s <;> simp [signed, Int.add_left_neg, Int.add_right_neg]
  rw [hs, if_pos rfl]
  have : (s && !s) = false := by cases s <;> rfl
  rw [this]
  exact congrArg some (nearest_zero (f := single) false p)
theorem fi_int {z : Int} (h : -16777216 < z ∧ z < 16777216) : floatToIntVal .f32 (fi z) .i64 = some z := by
  obtain ⟨m, p, hx⟩ := fi_rd h
  have := toInt_rd hx
  unfold floatToIntVal
  show (match (single.read (fi z)).toInt .zero with | some n => _ | none => _) = _
  rw [this]
  have h1 : IntKind.i64.min = -9223372036854775808 := by decide
  have h2 : IntKind.i64.max = 9223372036854775807 := by decide
  simp only [h1, h2]
  rw [if_pos (by omega)]
theorem fl_lt (z : Int) : fl z < 4294967296 := by
  have := Format.write_lt single (.number (z < 0) z.natAbs (-4))
  have e : 2 ^ single.width = 4294967296 := by decide
  rw [e] at this
  exact this
structure FlOk (z : Int) : Prop where
  quo : floatBits .quo .f32 (fi z) 1098907648 = some (fl z)
  mul : floatBits .mul .f32 (fl z) 1098907648 = some (fi z)
  sub : floatBits .sub .f32 (fl z) (fl z) = some 0
  add0 : floatBits .add .f32 (fl z) 0 = some (fl z)
  toI : floatToIntVal .f32 (fi z) .i64 = some z
  lo : (FloatKind.f32.format.order (fl z) 3305111552 == some .lt) = false
  hi : (FloatKind.f32.format.order (fl z) 1157627904 == some .gt) = false
  eq : FloatKind.f32.format.order (fi z) (fi z) = some .eq
  ne : fl z ≠ 2147483648
  lt : fl z < 4294967296
theorem flOk {z : Int} (h : -32768 ≤ z ∧ z ≤ 32768) : FlOk z := by
  obtain ⟨m, p, hx⟩ := fl_rd (z := z) (by omega)
  obtain ⟨n, q, hy⟩ := fi_rd (z := z) (by omega)
  have c1 : fl (-32768) = 3305111552 := by decide
  have c2 : fl 32768 = 1157627904 := by decide
  refine ⟨fi_div (by omega), fl_mul (by omega), fl_sub hx.rd, ?_, fi_int (by omega), ?_, ?_, ?_, ?_, fl_lt z⟩
  · have := fl_add (a := z) (b := 0) (by omega) (by omega)
    rwa [fl_zero, Int.add_zero] at this
  · have := fl_order (a := z) (b := -32768) (by omega) (by omega)
    rw [c1] at this
    show (single.order (fl z) 3305111552 == some .lt) = false
    rw [this, beq_eq_false_iff_ne]
    intro hc
    have hc := Option.some.inj hc
    have : compareOfLessAndEq z (-32768) = .lt := hc
    unfold compareOfLessAndEq at this
    rw [if_neg (by omega)] at this
    split at this <;> cases this
  · have := fl_order (a := z) (b := 32768) (by omega) (by omega)
    rw [c2] at this
    show (single.order (fl z) 1157627904 == some .gt) = false
    rw [this, beq_eq_false_iff_ne]
    intro hc
    have hc := Option.some.inj hc
    have : compareOfLessAndEq z 32768 = .gt := hc
    unfold compareOfLessAndEq at this
    split at this
    · cases this
    · rw [if_pos (by omega)] at this; cases this
  · show single.order (fi z) (fi z) = some .eq
    rw [order_rd hy hy]
    congr 1
    show compareOfLessAndEq z z = .eq
    unfold compareOfLessAndEq
    rw [if_neg (by omega), if_pos rfl]
  · intro hc
    have h1 := hx.rd
    rw [hc, show single.read 2147483648 = .number true 0 (-149) by decide] at h1
    have h2 := Datum.number.inj h1
    have h3 := hx.mz
    have h4 : z < 0 := by simpa using h2.1.symm
    rw [← h2.2.1] at h3
    have h5 : 0 < z.natAbs * 2 ^ ((-4 : Int) - p).toNat := Nat.mul_pos (by omega) (Nat.two_pow_pos _)
    omega
theorem sub_self_gen {f : Format} {x : Nat} {s : Bool} {m : Nat} {p : Int} (h : f.read x = .number s m p) : f.sub x x = some (f.word false 0) := by
  unfold Format.sub
  rw [h]
  simp only [Datum.opposite, Datum.sum, Option.map_some, Int.min_self, Int.sub_self]
  have hs : signed s m (0 : Int).toNat + signed (!s) m (0 : Int).toNat = 0 := by
    cases s <;> simp [signed, Int.add_left_neg, Int.add_right_neg]
  rw [hs, if_pos rfl]
  have : (s && !s) = false := by cases s <;> rfl
  rw [this]
  exact congrArg some (nearest_zero (f := f) false p)
theorem finite_cases {b : Nat} (hb : b < 4294967296) {s : Bool} {m : Nat} {p : Int} (h : single.read b = .number s m p) :
    (b = 0 ∨ b = 2147483648) ∨ ∃ z : Int, z ≠ 0 ∧ -16777216 < z ∧ z < 16777216 ∧ -149 ≤ p ∧ p ≤ 200 ∧ b = flE single z p ∧ s = decide (z < 0) ∧ m = z.natAbs := by
  have hb2 : b < 2 * single.signWeight := by
    have e : 2 * single.signWeight = 4294967296 := by decide
    rw [e]
    exact hb
  have hfb0 : single.binade ≤ single.infRung := by decide
  rcases write_read hfb0 hb2 h with ⟨_, h2⟩ | ⟨r, h2⟩
  · left
    cases s
    · left; rw [h2]; decide
    · right; rw [h2]; decide
  · right
    have hm0 := r.v0
    have hl := r.vl
    have hlp : single.leastPlace = -149 := by decide
    have hfb : single.fractionBits = 23 := rfl
    have hbn : single.binade = 8388608 := by decide
    have hir : single.infRung = 2139095040 := by decide
    have hm : m < 16777216 := by
      have := Nat.lt_log2_self (n := m)
      have h3 : 2 ^ (m.log2 + 1) ≤ 2 ^ 24 := Nat.pow_le_pow_right (by decide) (by omega)
      omega
    have hp1 := r.el
    have hp2 : p ≤ 200 := by
      have := r.hi
      unfold rungP at this
      rw [hbn, hir] at this
      have h4 : lastP single m p ≥ p + m.log2 - 23 := by unfold lastP; rw [hfb]; omega
      rw [hlp] at this
      generalize lastP single m p = X at this h4
      generalize sigP single m p = S at this
      have h5 : (X - -149).toNat * 8388608 < 2139095040 := Nat.lt_of_le_of_lt (Nat.le_add_right _ _) this
      have h6 : (X - -149).toNat < 255 := by
        rcases Nat.lt_or_ge (X - -149).toNat 255 with q | q
        · exact q
        · have := Nat.mul_le_mul_right 8388608 q
          omega
      omega
    refine ⟨if s then -(m : Int) else m, ?_, ?_, ?_, by omega, hp2, ?_, ?_, ?_⟩
    · cases s <;> simp <;> omega
    · cases s <;> simp <;> omega
    · cases s <;> simp <;> omega
    · have hd : decide ((if s then -(m : Int) else m) < 0) = s := by cases s <;> simp <;> omega
      have hn : (if s then -(m : Int) else (m : Int)).natAbs = m := by cases s <;> simp
      unfold flE
      rw [hd, hn, nearest_rep (VE.refl m p) r]
      exact h2
    · cases s <;> simp <;> omega
    · cases s <;> simp
theorem compare_eq {a b : Int} (h : compare a b = .eq) : a = b := by
  have h : compareOfLessAndEq a b = .eq := h
  unfold compareOfLessAndEq at h
  split at h
  · cases h
  · split at h
    · assumption
    · cases h
theorem order_gen {f : Format} {x y : Nat} {a b e e' : Int} {m n : Nat} {p q : Int} (hx : RD f x a e m p) (hy : RD f y b e' n q) : f.order x y = some (compare (a * 2 ^ (e - min p q).toNat) (b * 2 ^ (e' - min p q).toNat)) := by
  unfold Format.order
  rw [hx.rd, hy.rd]
  simp only [Datum.order]
  rw [hx.sgn (min p q) (Int.min_le_left _ _), hy.sgn (min p q) (Int.min_le_right _ _)]
/-- a float that stands for sixteenths, out of any float of which its sixteenths are whole. -/
theorem fl_of {z p n : Int} (h0 : z ≠ 0) {B : Int} (h1 : B ≤ p + 4) (h2 : B ≤ 0) (h : n * 2 ^ (0 - B).toNat = z * 2 ^ (p + 4 - B).toNat) (hn : -16777216 < n ∧ n < 16777216) : flE single z p = fl n := by
  have k1 := pow_pos_int (0 - B).toNat
  have k2 := pow_pos_int (p + 4 - B).toNat
  have hn0 : n ≠ 0 := fun q => by
    rw [q, Int.zero_mul] at h
    exact (Int.mul_ne_zero h0 (by omega)) h.symm
  have hs : decide (z < 0) = decide (n < 0) := by
    refine decide_eq_decide.2 ⟨fun q => ?_, fun q => ?_⟩
    · rcases Int.lt_or_le n 0 with r | r
      · exact r
      · have := Int.mul_nonneg r (Int.le_of_lt k1)
        have := Int.mul_neg_of_neg_of_pos q k2
        omega
    · rcases Int.lt_or_le z 0 with r | r
      · exact r
      · have := Int.mul_nonneg r (Int.le_of_lt k2)
        have := Int.mul_neg_of_neg_of_pos q k1
        omega
  have hv : VE z.natAbs p n.natAbs (-4) := by
    refine ⟨B - 4, (p + 4 - B).toNat, (0 - B).toNat, by omega, by omega, ?_⟩
    have := congrArg Int.natAbs h
    rw [natAbs_mul_pow, natAbs_mul_pow] at this
    exact this.symm
  rw [fl_eq]
  unfold flE
  rw [hs]
  exact nearest_eq hv (.inr (rep_single (by omega) (by omega) (by decide) (by decide))) _
theorem toInt_bound {f : Format} {x : Nat} {z e : Int} {m : Nat} {p : Int} (hx : RD f x z e m p) : ∃ n : Int, (f.read x).toInt .zero = some n ∧ ∀ B : Int, B ≤ p → B ≤ 0 → n.natAbs * 2 ^ (0 - B).toNat ≤ z.natAbs * 2 ^ (e - B).toNat := by
  obtain ⟨c, hc⟩ : ∃ c, c = Toward.zero.cut (decide (z < 0)) (m <<< p.toNat) (-p).toNat := ⟨_, rfl⟩
  refine ⟨signed (decide (z < 0)) c 0, ?_, fun B h1 h2 => ?_⟩
  · rw [hx.rd]
    rw [hc]
    rfl
  · have hn : (signed (decide (z < 0)) c 0).natAbs = c := by
      unfold signed
      rw [Nat.shiftLeft_eq, Nat.pow_zero, Nat.mul_one]
      split <;> simp
    rw [hn]
    have hpe := hx.pe
    have hv : m * 2 ^ (p - B).toNat = z.natAbs * 2 ^ (e - B).toNat := by
      rw [hx.mz, Nat.mul_assoc, ← Nat.pow_add]
      congr 2
      omega
    rw [← hv]
    have hcut : c ≤ m * 2 ^ p.toNat ∧ c * 2 ^ (-p).toNat ≤ m * 2 ^ p.toNat := by
      rw [hc]
      unfold Toward.cut
      obtain ⟨N, hN⟩ : ∃ N, N = m <<< p.toNat := ⟨_, rfl⟩
      have hN2 : N = m * 2 ^ p.toNat := by rw [hN, Nat.shiftLeft_eq]
      rw [← hN, ← hN2]
      simp only [Bool.toNat_false, Nat.add_zero]
      have hg : (1 <<< min (-p).toNat (N.log2 + 2)) = 2 ^ min (-p).toNat (N.log2 + 2) := by rw [Nat.shiftLeft_eq, Nat.one_mul]
      rw [hg]
      refine ⟨Nat.div_le_self _ _, ?_⟩
      rcases Nat.le_total (-p).toNat (N.log2 + 2) with q | q
      · rw [Nat.min_eq_left q]
        exact Nat.div_mul_le_self _ _
      · rw [Nat.min_eq_right q]
        have hlt : N < 2 ^ (N.log2 + 2) := by
          have := Nat.lt_log2_self (n := N)
          have h3 : 2 ^ (N.log2 + 1) ≤ 2 ^ (N.log2 + 2) := Nat.pow_le_pow_right (by decide) (by omega)
          omega
        rw [Nat.div_eq_of_lt hlt, Nat.zero_mul]
        exact Nat.zero_le _
    rcases Int.le_total 0 p with q | q
    · have e1 : (p - B).toNat = p.toNat + (0 - B).toNat := by omega
      rw [e1, Nat.pow_add, ← Nat.mul_assoc]
      exact Nat.mul_le_mul_right _ hcut.1
    · have e1 : (0 - B).toNat = (-p).toNat + (p - B).toNat := by omega
      have e2 : p.toNat = 0 := by omega
      rw [e1, Nat.pow_add, ← Nat.mul_assoc]
      have := hcut.2
      rw [e2, Nat.pow_zero, Nat.mul_one] at this
      exact Nat.mul_le_mul_right _ this
theorem not_lt_of {a b : Int} (h : (some (compare a b) == some Ordering.lt) = false) : b ≤ a := by
  rcases Int.lt_or_le a b with q | q
  · have : compare a b = .lt := by show compareOfLessAndEq a b = .lt; unfold compareOfLessAndEq; rw [if_pos q]
    rw [this] at h
    cases h
  · exact q
theorem not_gt_of {a b : Int} (h : (some (compare a b) == some Ordering.gt) = false) : a ≤ b := by
  rcases Int.lt_or_le b a with q | q
  · have : compare a b = .gt := by show compareOfLessAndEq a b = .gt; unfold compareOfLessAndEq; rw [if_neg (by omega), if_neg (by omega)]
    rw [this] at h
    cases h
  · exact q
theorem mul_comm_f (f : Format) (x y : Nat) : f.mul x y = f.mul y x := by
  unfold Format.mul
  congr 1
  cases f.read x <;> cases f.read y <;> simp only [Datum.product]
  all_goals (try simp only [Bool.xor_comm, Nat.mul_comm, Int.add_comm])
/-- what the reference's CheckSample computes of a float that is a number but 0. -/
theorem sample_number {z p : Int} (h0 : z ≠ 0) (hz : -16777216 < z ∧ z < 16777216) (hp : -149 ≤ p ∧ p ≤ 200) :
    floatBits .sub .f64 (flE double z p) (flE double z p) = some 0 ∧ floatBits .mul .f64 4625196817309499392 (flE double z p) = some (flE double z (p + 4)) ∧
    ((double.order (flE double z p) 13880094051555868672 == some .lt) = false → (double.order (flE double z p) 4656722014701092864 == some .gt) = false →
      ∃ n : Int, -32768 ≤ n ∧ n ≤ 32768 ∧ floatToIntVal .f64 (flE double z (p + 4)) .i64 = some n ∧
        (double.order (floatOfInt .f64 n) (flE double z (p + 4)) = some .eq → flE single z p = fl n)) := by
  have hlp : double.leastPlace = -1074 := by decide
  obtain ⟨m, q, hx⟩ := rd_flE (f := double) (z := z) (e := p) (.inr (rep_double (by omega) (by omega) (by omega) (by omega))) (by rw [hlp]; omega)
  obtain ⟨m2, q2, hx2⟩ := rd_flE (f := double) (z := z) (e := p + 4) (.inr (rep_double (by omega) (by omega) (by omega) (by omega))) (by rw [hlp]; omega)
  have r16 : double.read 4625196817309499392 = .number false 4503599627370496 (-48) := by decide
  refine ⟨?_, ?_, fun c1 c2 => ?_⟩
  · have := sub_self_gen hx.rd
    rwa [show double.word false 0 = 0 by decide] at this
  · show double.mul _ _ = _
    rw [mul_comm_f]
    exact mul_pow_rd (k := 4) hx r16 ⟨52, by decide, by decide⟩ (.inr (rep_double (by omega) (by omega) (by omega) (by omega)))
  · have k1 : flE double (-2048) 0 = 13880094051555868672 := by decide
    have k2 : flE double 2048 0 = 4656722014701092864 := by decide
    obtain ⟨m3, q3, hx3⟩ := rd_flE (f := double) (z := -2048) (e := 0) (.inr (rep_double (by decide) (by decide) (by decide) (by decide))) (by decide)
    obtain ⟨m4, q4, hx4⟩ := rd_flE (f := double) (z := 2048) (e := 0) (.inr (rep_double (by decide) (by decide) (by decide) (by decide))) (by decide)
    rw [k1] at hx3
    rw [k2] at hx4
    rw [order_gen hx hx3] at c1
    rw [order_gen hx hx4] at c2
    have d1 := not_lt_of c1
    have d2 := not_gt_of c2
    obtain ⟨B1, hB1⟩ : ∃ B, B = min q q3 := ⟨_, rfl⟩
    obtain ⟨B2, hB2⟩ : ∃ B, B = min q q4 := ⟨_, rfl⟩
    rw [← hB1] at d1
    rw [← hB2] at d2
    have g1 := hx.pe
    have g2 := hx3.pe
    have g3 := hx4.pe
    have g4 := hx2.pe
    obtain ⟨B, hB⟩ : ∃ B, B = min (min B1 B2) q2 := ⟨_, rfl⟩
    have scale : ∀ (a b : Int) (u v B' : Int), B ≤ B' → B' ≤ u → B' ≤ v → a * 2 ^ (u - B').toNat ≤ b * 2 ^ (v - B').toNat → a * 2 ^ (u - B).toNat ≤ b * 2 ^ (v - B).toNat := fun a b u v B' w1 w2 w3 w4 => by
      have := Int.mul_le_mul_of_nonneg_right w4 (Int.le_of_lt (pow_pos_int (B' - B).toNat))
      rw [Int.mul_assoc, Int.mul_assoc, ← Int.pow_add, ← Int.pow_add] at this
      rwa [show (u - B').toNat + (B' - B).toNat = (u - B).toNat by omega, show (v - B').toNat + (B' - B).toNat = (v - B).toNat by omega] at this
    have f1 := scale _ _ _ _ B1 (by omega) (by omega) (by omega) d1
    have f2 := scale _ _ _ _ B2 (by omega) (by omega) (by omega) d2
    obtain ⟨n, hn1, hn2⟩ := toInt_bound hx2
    have hn3 := hn2 B (by omega) (by omega)
    have hK := pow_pos_int (0 - B).toNat
    have hbound : n.natAbs ≤ 32768 := by
      have e1 : (p + 4 - B).toNat = (p - B).toNat + 4 := by omega
      rw [e1, Nat.pow_add, ← Nat.mul_assoc] at hn3
      have h5 : z.natAbs * 2 ^ (p - B).toNat ≤ 2048 * 2 ^ (0 - B).toNat := by
        have t1 : ((z.natAbs * 2 ^ (p - B).toNat : Nat) : Int) ≤ ((2048 * 2 ^ (0 - B).toNat : Nat) : Int) := by
          rw [Int.natCast_mul, Int.natCast_mul, Int.natCast_pow, Int.natCast_pow]
          rcases Int.lt_or_le z 0 with r | r
          · have : (z.natAbs : Int) = -z := by omega
            rw [this, Int.neg_mul]
            simp only [Int.reduceNeg, Int.neg_mul] at f1
            simpa using (by omega : -(z * 2 ^ (p - B).toNat) ≤ 2048 * 2 ^ (0 - B).toNat)
          · have : (z.natAbs : Int) = z := by omega
            rw [this]
            simpa using f2
        exact Int.ofNat_le.1 t1
      have h6 : n.natAbs * 2 ^ (0 - B).toNat ≤ 32768 * 2 ^ (0 - B).toNat := by
        refine Nat.le_trans hn3 ?_
        have := Nat.mul_le_mul_right (2 ^ 4) h5
        rw [Nat.mul_assoc 2048, Nat.mul_comm (2 ^ (0 - B).toNat), ← Nat.mul_assoc] at this
        exact this
      exact Nat.le_of_mul_le_mul_right h6 (Nat.two_pow_pos _)
    have hnb : -32768 ≤ n ∧ n ≤ 32768 := by omega
    refine ⟨n, hnb.1, hnb.2, ?_, fun he => ?_⟩
    · unfold floatToIntVal
      show (match (double.read (flE double z (p + 4))).toInt .zero with | some n => _ | none => _) = _
      rw [hn1]
      have h1 : IntKind.i64.min = -9223372036854775808 := by decide
      have h2 : IntKind.i64.max = 9223372036854775807 := by decide
      simp only [h1, h2]
      rw [if_pos (by omega)]
    · have hfn : floatOfInt .f64 n = flE double n 0 := rfl
      obtain ⟨m5, q5, hx5⟩ := rd_flE (f := double) (z := n) (e := 0) (by
        by_cases w : n = 0
        · exact .inl w
        · exact .inr (rep_double (by omega) (by omega) (by decide) (by decide))) (by decide)
      rw [hfn, order_gen hx5 hx2] at he
      have h7 := compare_eq (Option.some.inj he)
      have g5 := hx5.pe
      exact fl_of h0 (B := min q5 q2) (by omega) (by omega) h7 (by omega)
end
end Go.Proofs.YtamldoidalnloaaGreatDoor

/- Rows of elements of one cell each, whatever they stand for (floats, bytes): what is known of their cells; how they grow. -/
namespace Go.Proofs.YtamldoidalnloaaGreatDoor
open Go.RowKit
open Calm (bcell Blk)
def EC (enc : Int → Value) (w : World) (A : Option Addr) (zs : List Int) : Prop :=
  0 < zs.length → ∃ b off, A = some ⟨b, off, none⟩ ∧ b < w.heap.size ∧ ∀ k, k < zs.length → w.cell? ⟨b, off + k, none⟩ = some (enc (zs.getD k 0))
theorem EC.below {enc : Int → Value} {w w' : World} {A : Option Addr} {zs : List Int} (h : EC enc w A zs) (hb : Below w.heap.size w w') : EC enc w' A zs := by
  intro h0
  obtain ⟨b, off, hA, hl, hc⟩ := h h0
  exact ⟨b, off, hA, Nat.lt_of_lt_of_le hl hb.size, fun k hk => (hb.cell (p := ⟨b, off + k, none⟩) hl).trans (hc k hk)⟩
theorem EC.nil (enc : Int → Value) (w : World) (A : Option Addr) : EC enc w A [] := fun h => absurd h (by simp)
theorem EC.blk {enc : Int → Value} {W : World} {g : Nat} {cs : Array Value} {zs : List Int} (h : Blk W g cs) (e : cs = (zs.map enc).toArray) : EC enc W (some ⟨g, 0, none⟩) zs := fun h0 =>
  ⟨g, 0, rfl, h.lt, fun k hk => by
    have := h.c k
    rw [Nat.zero_add, this, e]
    simp [hk, List.getD_eq_getElem?_getD]⟩
theorem EC.drop {enc : Int → Value} {w : World} {b o : Nat} {zs : List Int} (h : EC enc w (some ⟨b, o, none⟩) zs) (n : Nat) : EC enc w (some ⟨b, o + n, none⟩) (zs.drop n) := fun h0 => by
  rw [List.length_drop] at h0
  obtain ⟨b', o', e, hl, hc⟩ := h (by omega)
  cases e
  refine ⟨b, o + n, rfl, hl, fun k hk => ?_⟩
  rw [List.length_drop] at hk
  have := hc (n + k) (by omega)
  rw [← Nat.add_assoc] at this
  rw [this]
  simp [List.getD_eq_getElem?_getD]
theorem own_ec {enc : Int → Value} {W : World} {base n : Nat} {e : TypeId} {v : Value} {zs : List Int} (h : W.ownsRow base e 1 v n (zs.map enc)) (hn : n = zs.length) : ∃ A c, v = .slice A n c ∧ (∀ p, A = some p → base ≤ p.block) ∧ EC enc W A zs := by
  rcases h.2 with ⟨h1, h2⟩ | ⟨g, cap, cur, h1, h2, h3, h4, h5, h6, h7⟩
  · exact ⟨none, 0, by rw [h1, h2], by simp, fun h0 => by omega⟩
  · refine ⟨some ⟨g, 0, none⟩, cap, h1, by rintro p ⟨⟩; exact h2, fun h0 => ⟨g, 0, rfl, (Array.getElem?_eq_some_iff.1 h3).1, fun k hk => ?_⟩⟩
    have hj : (zs.map enc)[k]? = some (enc (zs.getD k 0)) := by simp [hk, List.getD_eq_getElem?_getD]
    rw [Nat.zero_add, cell_of_row W g k cur _ _ h3]
    rw [← h7, List.getElem?_take] at hj
    split at hj
    · rw [← hj]; simp
    · cases hj
theorem EC.src {enc : Int → Value} {W : World} {b off : Nat} {zs : List Int} (hc : ∀ k, k < zs.length → W.cell? ⟨b, off + k, none⟩ = some (enc (zs.getD k 0))) : ∀ j v, (zs.map enc)[j]? = some v → W.cell? ((⟨b, off, none⟩ : Addr).add j) = some v := fun j v hj => by
  rcases Nat.lt_or_ge j zs.length with hlt | hge
  · rw [Addr.add_lit]
    rw [hc j hlt]
    simp [hlt, List.getD_eq_getElem?_getD] at hj ⊢
    exact hj
  · rw [List.getElem?_eq_none (by simpa using hge)] at hj
    cases hj
/-- a type of elements of one cell. -/
structure ETy (P : Program) (t e : TypeId) (bytes : Nat) (z : Value) : Prop where
  u : P.underlying t = some (.slice e)
  i : (P.info? e).map (fun i => (i.zero, i.size, i.bytes)) = some (some z, 1, bytes)
  zc : z.cells.size = 1
  b0 : 0 < bytes
  b8 : bytes ≤ 16
/-- an append of elements onto a row of one's own. -/
theorem wpList_appE {P : Program} {t e : TypeId} {bytes : Nat} {z : Value} (T : ETy P t e bytes z) {enc : Int → Value} (h1 : ∀ z, (enc z).oneCell' = true) {w : World} {ops : Array Oper} {rest : List Oper} {o : Oper} {a : Act} {Q : Exit → Act → World → Prop} (hgd : o.guard = none) (s x : Operand)
    (ho : o.op = .call { callee := .builtin .append, args := #[s, x], argTypes := #[t, t] }) (base : Nat) (u : Value) (xs : List Int) (hs : a.eval s = u) (hown : w.ownsRow base e 1 u xs.length (xs.map enc)) (A : Option Addr) (m c : Nat) (ys : List Int) (hm : m = ys.length)
    (hx : a.eval x = .slice A m c) (hc : EC enc w A ys) (h5 : xs.length + m ≤ 100000) (hb : base ≤ w.heap.size)
    (h : ∀ v' w', w'.ownsRow base e 1 v' (xs ++ ys).length ((xs ++ ys).map enc) → w.grownBy w' u.ownBlock → wpList P ops Q rest (a.put o.dst v') w') : wpList P ops Q (o :: rest) a w := by
  obtain ⟨i0, hi, hz0, hz1, hz2⟩ := info_parts T.i
  have hz3 := T.zc
  have hb8 := T.b8
  rcases Nat.eq_zero_or_pos m with h0 | h0
  · subst h0
    obtain rfl : ys = [] := List.eq_nil_of_length_eq_zero hm.symm
    refine wpList_plain hgd fun K hK => ?_
    have hu : ∃ B d, u = .slice B xs.length d ∧ xs.length ≤ d ∧ d ≤ 9223372036854775807 ∧ (B = none → d = 0) := by
      rcases hown.2 with ⟨h1, h2⟩ | ⟨g, cap, cur, h1, _, _, h4, h5', _⟩
      · exact ⟨none, 0, by rw [h1, h2], by omega, by omega, fun _ => rfl⟩
      · exact ⟨_, cap, h1, h4, by simp only [maxLen] at h5'; omega, fun h => by cases h⟩
    obtain ⟨B, d, rfl, h1, h2, h3⟩ := hu
    have hrun := run_append_none (P := P) w t o.type e i0 _ T.u hi hz0 B A xs.length d c h1 h2 h3
    unfold Oper.wp
    simp [execOp, ho, resolve, invoke, builtin, hs, hx, hrun, Result.andThen]
    exact hK _ _ (h _ w (by simpa using hown) (World.grownBy.refl _ _))
  · obtain ⟨b, off, rfl, hbl, hcc⟩ := hc (by omega)
    refine wpList_append_own w hgd s x t ho base e i0 _ 1 bytes T.u hi hz0 hz1 hz2 hz3 (by decide) u xs.length _ hs hown ⟨b, off, none⟩ m c (ys.map enc) hx (by simp; omega) (fun j v hj => EC.src hcc j v hj) (fun u hu => by obtain ⟨z, _, rfl⟩ := List.mem_map.1 hu; exact h1 z) (by unfold maxLen; omega) (by have := Nat.mul_le_mul (show xs.length + m ≤ 100000 by omega) hb8; omega) hb ?_
    intro v' w' k1 k2 _
    exact h v' w' (by rw [List.length_append, List.map_append, ← hm]; exact k1) k2
def encF (z : Int) : Value := .float .f32 (fl z)
def encB (z : Int) : Value := .int .u8 z
theorem encF_one (z : Int) : (encF z).oneCell' = true := rfl
theorem encB_one (z : Int) : (encB z).oneCell' = true := rfl
theorem eF : ETy Tryz.prog 22 29 4 (.float .f32 0) := ⟨by kernel_rfl, by kernel_rfl, rfl, by decide, by decide⟩
theorem eB : ETy Tryz.prog 36 5 1 (.int .u8 0) := ⟨by kernel_rfl, by kernel_rfl, rfl, by decide, by decide⟩
theorem eI : ETy Tryz.prog 44 3 8 (.int .i64 0) := ⟨by kernel_rfl, by kernel_rfl, rfl, by decide, by decide⟩
end Go.Proofs.YtamldoidalnloaaGreatDoor
