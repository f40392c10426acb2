/- Part 20 of the texts of the claim: QL, QR, N7, N8, N9, N10, N11, QM, Opz, N15, LStP, N16, RunC, LOpP. -/
import Derived.Test.YtdeapbihbhoefaaDoorLz16
import Derived.Test.YtdeapbihbhoefaaDoorLz19
import Derived.Test.YtdeapbihbhoefaaDoorLz13
import Derived.Test.YtdeapbihbhoefaaDoorLz17
import Derived.Test.YtdeapbihbhoefaaDoorLz7

/- Plain laws of ProtectLoudest: the search goes through all lists in their order. -/
namespace Go.Proofs.YtdeapbihbhoefaaDoor
open Go.RowKit

/-- whether outputs from a state on keep all conditions. -/
def pathB (lk ht rc : Int) (ts : List Int) : Int → List Int → List Int → Bool
  | _, _, [] => true
  | h, ps, y :: ys => fineF ht rc (coolF lk h + y * y) (exF ts ps y) ts (pushL ps y) && pathB lk ht rc ts (coolF lk h + y * y) (pushL ps y) ys
/-- all lists of so many levels, in their order. -/
def allL (ls : List Int) : Nat → List (List Int)
  | 0 => [[]]
  | n + 1 => ls.flatMap fun y => (allL ls n).map (y :: ·)
theorem keptK_filter (lk ht rc : Int) (ts : List Int) (s : St) (ls : List Int) : ∀ k, k ≤ ls.length → keptK lk ht rc ts s ls k = ((ls.take k).filter (keepB lk ht rc ts s)).map fun y => (y, nextF lk s y)
  | 0, _ => by simp [keptK]
  | k + 1, h => by
    have e : ls.getD k 0 = ls[k] := by rw [List.getD_eq_getElem?_getD, List.getElem?_eq_getElem (by omega)]; rfl
    rw [List.take_succ_eq_append_getElem (by omega), List.filter_append, List.map_append, ← keptK_filter lk ht rc ts s ls k (by omega)]
    simp only [keptK]
    rw [e]
    congr 1
    by_cases hk : keepB lk ht rc ts s ls[k] = true
    · rw [if_pos hk]; simp [hk]
    · rw [if_neg hk]; simp [hk]
theorem foldl_if {α β : Type} (p : α → Bool) (f : β → α → β) : ∀ (l : List α) (b : β), (l.filter p).foldl f b = l.foldl (fun b x => if p x then f b x else b) b
  | [], _ => rfl
  | x :: l, b => by
    rw [List.filter_cons, List.foldl_cons]
    by_cases h : p x = true
    · rw [if_pos h, if_pos h, List.foldl_cons, foldl_if p f l]
    · rw [if_neg h, if_neg h, foldl_if p f l]
theorem foldl_flat {α β γ : Type} (g : α → List β) (f : γ → β → γ) : ∀ (l : List α) (b : γ), (l.flatMap g).foldl f b = l.foldl (fun b x => (g x).foldl f b) b
  | [], _ => rfl
  | x :: l, b => by rw [List.flatMap_cons, List.foldl_append, List.foldl_cons, foldl_flat g f l]
theorem vis_all (lk ht rc : Int) (ts ls : List Int) : ∀ (n : Nat) (l : List Int) (s : St) (b : Option (List Int)), visF lk ht rc ts ls n l s b = (allL ls n).foldl (fun b x => if pathB lk ht rc ts s.h s.ps x then updB b (l ++ x) else b) b
  | 0, l, s, b => by simp [visF, allL, pathB]
  | n + 1, l, s, b => by
    show (keptK lk ht rc ts s ls ls.length).foldl (fun b x => visF lk ht rc ts ls n (l ++ [x.1]) x.2 b) b = _
    rw [keptK_filter _ _ _ _ _ _ _ (Nat.le_refl _), List.take_length, List.foldl_map, foldl_if]
    show _ = (ls.flatMap fun y => (allL ls n).map (y :: ·)).foldl _ b
    rw [foldl_flat]
    congr 1
    funext b y
    rw [List.foldl_map]
    by_cases hk : keepB lk ht rc ts s y = true
    · rw [if_pos hk, vis_all lk ht rc ts ls n]
      congr 1
      funext b x
      have e : pathB lk ht rc ts s.h s.ps (y :: x) = pathB lk ht rc ts (nextF lk s y).h (nextF lk s y).ps x := by
        show (keepB lk ht rc ts s y && _) = _
        rw [hk]; rfl
      rw [e, List.append_assoc]
      rfl
    · rw [if_neg hk]
      have e : ∀ x, pathB lk ht rc ts s.h s.ps (y :: x) = false := by
        intro x
        show (keepB lk ht rc ts s y && _) = _
        rw [Bool.not_eq_true] at hk
        rw [hk]; rfl
      simp only [e, Bool.false_eq_true, if_false]
      have : ∀ (L : List (List Int)) (b : Option (List Int)), L.foldl (fun b _ => b) b = b := by
        intro L
        induction L with
        | nil => intro b; rfl
        | cons a L ih => intro b; rw [List.foldl_cons, ih]
      rw [this]
theorem upd_some {p : List Int → Bool} : ∀ (L : List (List Int)) (r0 r : List Int), L.foldl (fun b x => if p x then updB b x else b) (some r0) = some r → (r = r0 ∧ ∀ x ∈ L, p x = true → enF x ≤ enF r0) ∨ (∃ c : Nat, L[c]? = some r ∧ p r = true ∧ enF r0 < enF r ∧ (∀ j x, j < c → L[j]? = some x → p x = true → enF x < enF r) ∧ ∀ x ∈ L, p x = true → enF x ≤ enF r)
  | [], r0, r, e => by
    simp at e
    exact .inl ⟨e.symm, by simp⟩
  | a :: L, r0, r, e => by
    rw [List.foldl_cons] at e
    by_cases hp : p a = true
    · rw [if_pos hp] at e
      by_cases hlt : enF r0 < enF a
      · have e2 : updB (some r0) a = some a := by simp [updB, hlt]
        rw [e2] at e
        rcases upd_some L a r e with ⟨rfl, h⟩ | ⟨c, h1, h2, h3, h4, h5⟩
        · refine .inr ⟨0, rfl, hp, hlt, fun j x hj => by omega, fun x hx hpx => ?_⟩
          rcases List.mem_cons.1 hx with rfl | hx
          · exact Int.le_refl _
          · exact h x hx hpx
        · refine .inr ⟨c + 1, by simpa using h1, h2, by omega, fun j x hj hx hpx => ?_, fun x hx hpx => ?_⟩
          · cases j with
            | zero => simp at hx; subst hx; exact h3
            | succ j => exact h4 j x (by omega) (by simpa using hx) hpx
          · rcases List.mem_cons.1 hx with rfl | hx
            · omega
            · exact h5 x hx hpx
      · have e2 : updB (some r0) a = some r0 := by simp [updB, hlt]
        rw [e2] at e
        rcases upd_some L r0 r e with ⟨rfl, h⟩ | ⟨c, h1, h2, h3, h4, h5⟩
        · refine .inl ⟨rfl, fun x hx hpx => ?_⟩
          rcases List.mem_cons.1 hx with rfl | hx
          · omega
          · exact h x hx hpx
        · refine .inr ⟨c + 1, by simpa using h1, h2, h3, fun j x hj hx hpx => ?_, fun x hx hpx => ?_⟩
          · cases j with
            | zero => simp at hx; subst hx; omega
            | succ j => exact h4 j x (by omega) (by simpa using hx) hpx
          · rcases List.mem_cons.1 hx with rfl | hx
            · omega
            · exact h5 x hx hpx
    · rw [if_neg hp] at e
      rcases upd_some L r0 r e with ⟨rfl, h⟩ | ⟨c, h1, h2, h3, h4, h5⟩
      · refine .inl ⟨rfl, fun x hx hpx => ?_⟩
        rcases List.mem_cons.1 hx with rfl | hx
        · exact absurd hpx hp
        · exact h x hx hpx
      · refine .inr ⟨c + 1, by simpa using h1, h2, h3, fun j x hj hx hpx => ?_, fun x hx hpx => ?_⟩
        · cases j with
          | zero => simp at hx; subst hx; exact absurd hpx hp
          | succ j => exact h4 j x (by omega) (by simpa using hx) hpx
        · rcases List.mem_cons.1 hx with rfl | hx
          · exact absurd hpx hp
          · exact h5 x hx hpx
theorem upd_isSome {p : List Int → Bool} : ∀ (L : List (List Int)) (r0 : List Int), ∃ r, L.foldl (fun b x => if p x then updB b x else b) (some r0) = some r
  | [], r0 => ⟨r0, rfl⟩
  | a :: L, r0 => by
    rw [List.foldl_cons]
    by_cases hp : p a = true
    · rw [if_pos hp]
      simp only [updB]
      split <;> exact upd_isSome L _
    · rw [if_neg hp]
      exact upd_isSome L r0
theorem upd_none {p : List Int → Bool} : ∀ (L : List (List Int)), (L.foldl (fun b x => if p x then updB b x else b) none = none ∧ ∀ x ∈ L, p x = false) ∨ (∃ r, L.foldl (fun b x => if p x then updB b x else b) none = some r ∧ ∃ c : Nat, L[c]? = some r ∧ p r = true ∧ (∀ j x, j < c → L[j]? = some x → p x = true → enF x < enF r) ∧ ∀ x ∈ L, p x = true → enF x ≤ enF r)
  | [] => .inl ⟨rfl, by simp⟩
  | a :: L => by
    rw [List.foldl_cons]
    by_cases hp : p a = true
    · rw [if_pos hp]
      show _ ∨ (∃ r, L.foldl _ (some a) = some r ∧ _)
      obtain ⟨r, hr⟩ := upd_isSome (p := p) L a
      refine .inr ⟨r, hr, ?_⟩
      rcases upd_some L a r hr with ⟨rfl, h⟩ | ⟨c, h1, h2, h3, h4, h5⟩
      · refine ⟨0, rfl, hp, fun j x hj => by omega, fun x hx hpx => ?_⟩
        rcases List.mem_cons.1 hx with rfl | hx
        · exact Int.le_refl _
        · exact h x hx hpx
      · refine ⟨c + 1, by simpa using h1, h2, fun j x hj hx hpx => ?_, fun x hx hpx => ?_⟩
        · cases j with
          | zero => simp at hx; subst hx; exact h3
          | succ j => exact h4 j x (by omega) (by simpa using hx) hpx
        · rcases List.mem_cons.1 hx with rfl | hx
          · omega
          · exact h5 x hx hpx
    · rw [if_neg hp]
      rcases upd_none L with ⟨h1, h2⟩ | ⟨r, h1, c, h2, h3, h4, h5⟩
      · refine .inl ⟨h1, fun x hx => ?_⟩
        rcases List.mem_cons.1 hx with rfl | hx
        · simpa using hp
        · exact h2 x hx
      · refine .inr ⟨r, h1, c + 1, by simpa using h2, h3, fun j x hj hx hpx => ?_, fun x hx hpx => ?_⟩
        · cases j with
          | zero => simp at hx; subst hx; exact absurd hpx hp
          | succ j => exact h4 j x (by omega) (by simpa using hx) hpx
        · rcases List.mem_cons.1 hx with rfl | hx
          · exact absurd hpx hp
          · exact h5 x hx hpx
/-- the list with a number: its digits, the first one the greatest. -/
def codeL (ls : List Int) (n c : Nat) : List Int := (List.range n).map fun i => ls.getD (c / ls.length ^ (n - 1 - i) % ls.length) 0
theorem codeL_len (ls : List Int) (n c : Nat) : (codeL ls n c).length = n := by simp [codeL]
theorem codeL_getD (ls : List Int) {n i : Nat} (c : Nat) (h : i < n) : (codeL ls n c).getD i 0 = ls.getD (c / ls.length ^ (n - 1 - i) % ls.length) 0 := by
  unfold codeL
  rw [List.getD_eq_getElem?_getD, List.getElem?_map, List.getElem?_range h]
  rfl
theorem flat_get {α β : Type} (f : α → List β) (m : Nat) (hm : ∀ a, (f a).length = m) : ∀ (l : List α) (q r : Nat), r < m → (l.flatMap f)[q * m + r]? = (l[q]?).bind fun a => (f a)[r]?
  | [], q, r, _ => by simp
  | a :: l, q, r, hr => by
    rw [List.flatMap_cons]
    cases q with
    | zero => rw [Nat.zero_mul, Nat.zero_add, List.getElem?_append_left (by rw [hm]; exact hr)]; rfl
    | succ q =>
      rw [List.getElem?_append_right (by rw [hm, Nat.succ_mul]; omega), hm, show (q + 1) * m + r - m = q * m + r by rw [Nat.succ_mul]; omega, flat_get f m hm l q r hr]
      simp
theorem allL_len (ls : List Int) : ∀ n, (allL ls n).length = ls.length ^ n
  | 0 => rfl
  | n + 1 => by
    rw [allL, List.length_flatMap]
    simp only [List.length_map, allL_len ls n]
    rw [List.map_const', List.sum_replicate_nat, Nat.pow_succ, Nat.mul_comm]
theorem allL_get (ls : List Int) : ∀ (n c : Nat), c < ls.length ^ n → (allL ls n)[c]? = some (codeL ls n c)
  | 0, c, h => by
    have : c = 0 := by simpa using h
    subst this
    rfl
  | n + 1, c, h => by
    have hN : 0 < ls.length := by
      rcases Nat.eq_zero_or_pos ls.length with h0 | h0
      · rw [h0] at h; simp at h
      · exact h0
    have hp : 0 < ls.length ^ n := Nat.pow_pos hN
    have hq : c / ls.length ^ n < ls.length := by
      rw [Nat.div_lt_iff_lt_mul hp]
      rw [Nat.pow_succ, Nat.mul_comm] at h
      exact h
    have hr : c % ls.length ^ n < ls.length ^ n := Nat.mod_lt _ hp
    have hc : c / ls.length ^ n * ls.length ^ n + c % ls.length ^ n = c := by rw [Nat.mul_comm]; exact Nat.div_add_mod c _
    have := flat_get (fun y => (allL ls n).map (y :: ·)) (ls.length ^ n) (fun y => by rw [List.length_map, allL_len]) ls (c / ls.length ^ n) (c % ls.length ^ n) hr
    rw [hc] at this
    rw [allL, this, List.getElem?_eq_getElem hq, Option.bind_some, List.getElem?_map, allL_get ls n _ hr, Option.map_some]
    congr 1
    apply List.ext_getElem
    · simp [codeL_len]
    · intro i h1 h2
      have e1 : (codeL ls (n + 1) c)[i] = (codeL ls (n + 1) c).getD i 0 := by rw [List.getD_eq_getElem?_getD, List.getElem?_eq_getElem h2]; rfl
      rw [codeL_len] at h2
      rw [e1, codeL_getD ls c h2]
      cases i with
      | zero =>
        rw [List.getElem_cons_zero, show n + 1 - 1 - 0 = n by omega, Nat.mod_eq_of_lt hq, List.getD_eq_getElem?_getD, List.getElem?_eq_getElem hq]
        rfl
      | succ i =>
        rw [List.getElem_cons_succ]
        have e2 : (codeL ls n (c % ls.length ^ n))[i]'(by rw [codeL_len]; omega) = (codeL ls n (c % ls.length ^ n)).getD i 0 := by rw [List.getD_eq_getElem?_getD, List.getElem?_eq_getElem (by rw [codeL_len]; omega)]; rfl
        rw [e2, codeL_getD ls _ (by omega)]
        congr 1
        rw [show n + 1 - 1 - (i + 1) = n - 1 - i by omega]
        obtain ⟨j, hj⟩ : ∃ j, j = n - 1 - i := ⟨_, rfl⟩
        have hn : n = j + (i + 1) := by omega
        rw [← hj]
        have e3 : c / ls.length ^ j = (c / ls.length ^ n) * ls.length ^ (i + 1) + (c % ls.length ^ n) / ls.length ^ j := by
          have hpj : 0 < ls.length ^ j := Nat.pow_pos hN
          have e4 : c = ls.length ^ j * ((c / ls.length ^ n) * ls.length ^ (i + 1)) + c % ls.length ^ n := by
            have e5 : ls.length ^ j * ((c / ls.length ^ n) * ls.length ^ (i + 1)) = c / ls.length ^ n * ls.length ^ n := by
              rw [show ls.length ^ n = ls.length ^ j * ls.length ^ (i + 1) by rw [← Nat.pow_add, ← hn]]
              rw [Nat.mul_left_comm]
            rw [e5]
            exact hc.symm
          conv => lhs; rw [e4]
          rw [Nat.mul_add_div hpj]
        rw [e3, Nat.pow_succ, ← Nat.mul_assoc, Nat.mul_comm _ ls.length, Nat.mul_add_mod]
/-- the outputs keep the limits, one by one. -/
theorem path_keeps {lk ht rc : Int} {ts ys : List Int} (h1 : 1 ≤ ts.length) : ∀ m k, k + m = ys.length → (pathB lk ht rc ts (bhAt lk ys k) (bpAt (ts.length - 1) ys k) (ys.drop k) = true ↔ ∀ j, k ≤ j → j < ys.length → keepsF lk ht rc (bhAt lk ys j) ts (ys.take (j + 1)) = true)
  | 0, k, hk => by
    rw [List.drop_of_length_le (by omega)]
    exact ⟨fun _ j h2 h3 => by omega, fun _ => rfl⟩
  | m + 1, k, hk => by
    have hlt : k < ys.length := by omega
    have e : ys.getD k 0 = ys[k] := by rw [List.getD_eq_getElem?_getD, List.getElem?_eq_getElem hlt]; rfl
    have hp : ∀ k, k ≤ ys.length → bpAt (ts.length - 1) ys k = pastL (ts.length - 1) (ys.take k) := by
      intro k
      induction k with
      | zero => intro _; rw [List.take_zero, pastL_nil]; rfl
      | succ k ih =>
        intro hk
        rw [List.take_succ_eq_append_getElem (by omega), pastL_snoc, ← ih (by omega), bpAt, List.getD_eq_getElem?_getD, List.getElem?_eq_getElem (by omega)]
        rfl
    have hkeep : keepsF lk ht rc (bhAt lk ys k) ts (ys.take (k + 1)) = fineF ht rc (coolF lk (bhAt lk ys k) + ys.getD k 0 * ys.getD k 0) (exF ts (bpAt (ts.length - 1) ys k) (ys.getD k 0)) ts (pushL (bpAt (ts.length - 1) ys k) (ys.getD k 0)) := by
      rw [List.take_succ_eq_append_getElem hlt, keeps_fine h1, hp k (by omega), e]
    rw [List.drop_eq_getElem_cons hlt, ← e]
    show (fineF _ _ _ _ _ _ && pathB lk ht rc ts (bhAt lk ys (k + 1)) (bpAt (ts.length - 1) ys (k + 1)) (ys.drop (k + 1))) = true ↔ _
    rw [← hkeep, Bool.and_eq_true, path_keeps h1 m (k + 1) (by omega)]
    constructor
    · rintro ⟨h2, h3⟩ j h4 h5
      rcases Nat.lt_or_ge k j with h6 | h6
      · exact h3 j h6 h5
      · obtain rfl : j = k := by omega
        exact h2
    · intro h
      exact ⟨h k (Nat.le_refl _) hlt, fun j h2 h3 => h j (by omega) h3⟩
/-- all limits are kept from the state at rest on. -/
def allowF (lk ht rc : Int) (ts ys : List Int) : Bool := (List.range ys.length).all fun j => keepsF lk ht rc (bhAt lk ys j) ts (ys.take (j + 1))
theorem allow_path {lk ht rc : Int} {ts ys : List Int} (h1 : 1 ≤ ts.length) : allowF lk ht rc ts ys = pathB lk ht rc ts 0 (List.replicate (ts.length - 1) 0) ys := by
  rw [Bool.eq_iff_iff]
  have := path_keeps (lk := lk) (ht := ht) (rc := rc) h1 (ys := ys) ys.length 0 (by omega)
  rw [List.drop_zero] at this
  show _ ↔ pathB lk ht rc ts (bhAt lk ys 0) (bpAt (ts.length - 1) ys 0) ys = true
  rw [this]
  unfold allowF
  rw [List.all_eq_true]
  exact ⟨fun h j _ h2 => h j (List.mem_range.2 h2), fun h j h2 => h j (Nat.zero_le _) (List.mem_range.1 h2)⟩
theorem loud_code {lk ht rc : Int} {ts gs ls : List Int} (h1 : 1 ≤ ts.length) (n : Nat) :
    (loudF lk ht rc ts gs ls n = none ∧ ∀ c, c < ls.length ^ n → allowF lk ht rc ts (codeL ls n c) = false) ∨
    (∃ r, loudF lk ht rc ts gs ls n = some r ∧ allowF lk ht rc ts r = true ∧ ∃ c0, c0 < ls.length ^ n ∧ codeL ls n c0 = r ∧ ∀ c, c < c0 → allowF lk ht rc ts (codeL ls n c) = true → enF (codeL ls n c) < enF r) := by
  have e : loudF lk ht rc ts gs ls n = (allL ls n).foldl (fun b x => if allowF lk ht rc ts x then updB b x else b) none := by
    unfold loudF
    rw [vis_all]
    congr 1
    funext b x
    rw [allow_path h1, List.nil_append]
    rfl
  rw [e]
  rcases upd_none (p := allowF lk ht rc ts) (allL ls n) with ⟨h2, h3⟩ | ⟨r, h2, c, h3, h4, h5, _⟩
  · exact .inl ⟨h2, fun c hc => h3 _ (List.mem_of_getElem? (allL_get ls n c hc))⟩
  · have hc : c < ls.length ^ n := by
      rw [← allL_len]
      exact (List.getElem?_eq_some_iff.1 h3).1
    have h6 := allL_get ls n c hc
    rw [h3] at h6
    injection h6 with h6
    exact .inr ⟨r, h2, h4, c, hc, h6.symm, fun j hj hp => h5 j _ hj (allL_get ls n j (by omega)) hp⟩
end Go.Proofs.YtdeapbihbhoefaaDoor

/- Plain laws: what the reference computes is what the program computes. -/
namespace Go.Proofs.YtdeapbihbhoefaaDoor
open Go.RowKit

end Go.Proofs.YtdeapbihbhoefaaDoor

/- The reference's Permitted. -/
namespace Go.Proofs.YtdeapbihbhoefaaDoor
open Go.RowKit
open Calm (bcell Blk)
namespace RelH
open Rel (ons Know)
variable {P : Program} {DS : List Tmp} {w0 : World} {a0 : Act} {T : Ctx → Prop} {Γ : Ctx} {o : Oper} {rest : List Oper}
end RelH
end Go.Proofs.YtdeapbihbhoefaaDoor

/- The reference's Step. -/
namespace Go.Proofs.YtdeapbihbhoefaaDoor
open Go.RowKit
open Calm (bcell Blk)
end Go.Proofs.YtdeapbihbhoefaaDoor

/- The reference's Release. -/
namespace Go.Proofs.YtdeapbihbhoefaaDoor
open Go.RowKit
open Calm (bcell Blk)

end Go.Proofs.YtdeapbihbhoefaaDoor

/- The reference's Energy. -/
namespace Go.Proofs.YtdeapbihbhoefaaDoor
open Go.RowKit
open Calm (bcell Blk)
set_option maxRecDepth 100000 in
set_option maxHeartbeats 4000000 in
theorem rEnergy_K {n : Nat} {l : List Int} {u : Value} {w : World} (hn : n = l.length) (h5 : n ≤ 5000) (hb : inB 2048 l) (hu : KS n l u w) : Calls Tryd.prog 60 #[u] w (KP (KV (.int .i64 (enF l))) w) := by
  obtain ⟨A, c, rfl, hC⟩ := hu
  have HC := Lib.hid hC
  have HN := Lib.hid hn
  have HEB := Lib.hid (enK_bd hb)
  have HXB : Hid (∀ k : Nat, -2048 ≤ l.getD k 0 ∧ l.getD k 0 ≤ 2048) := Lib.hid (fun k => inB_get hb (by omega) k)
  obtain ⟨R, hR⟩ : ∃ R, R = enF l := ⟨_, rfl⟩
  have HR : Hid (R = enK l n) := Lib.hid (by rw [hR, hn]; rfl)
  rw [← hR]
  clear hC hn hb hR
  go_enter Tryd.func60, Tryd.ntmps60
  go_wp2
  go_loopw [3, 4] (fun s i wr => ∃ k : Nat, k ≤ n ∧ i = (.int .i64 ((k : Int))) ∧ s = (.int .i64 (enK l k)) ∧ Below w.heap.size w wr) (fun _ i _ => n - (intOf i).toNat)
  case atStart => exact ⟨0, Nat.zero_le _, rfl, rfl, Below.refl _ _⟩
  case round =>
    obtain ⟨k, hk, rfl, rfl, hbr⟩ := hrel
    have HBr := Lib.hid hbr
    obtain ⟨e1, e2⟩ := HEB.out k
    have HS2 := Lib.hid (show enK l (k + 1) = enK l k + l.getD k 0 * l.getD k 0 from rfl)
    obtain ⟨s, hs⟩ : ∃ s, s = enK l k := ⟨_, rfl⟩
    rw [← hs] at e1 e2 HS2 ⊢
    have HSK := Lib.hid hs
    clear hs hbr
    by_cases hlt : k < n
    · obtain ⟨b1, o1, hA, hbl, hcell⟩ := (HC.out.below HBr.out) (by rw [← HN.out]; omega)
      subst hA
      have hck := hcell k (by rw [← HN.out]; exact hlt)
      obtain ⟨t1, t2⟩ := HXB.out k
      obtain ⟨x, hx⟩ : ∃ x, x = l.getD k 0 := ⟨_, rfl⟩
      rw [← hx] at hck t1 t2 HS2
      obtain ⟨m1, m2⟩ := sq_bd ⟨t1, t2⟩
      obtain ⟨p, hp⟩ : ∃ p, p = x * x := ⟨_, rfl⟩
      have hp' := hp.symm
      rw [← hp] at m1 m2 HS2
      clear hcell hx hp
      go_wp2
      refine Rel.region3 11 (by kernel_rfl) (by kernel_rfl) (by kernel_rfl) ?_
      simp only [List.take_succ_cons, List.take_zero, List.drop_succ_cons, List.drop_zero, List.filterMap_cons, List.filterMap_nil]
      iterate 11 (apply Rel.op3; (focus (first | exact Rel.gno rfl | exact Rel.gyes _ true _ rfl rfl rfl | exact Rel.gyes _ false _ rfl rfl rfl)); (focus (intro a W hb hd hbase; obtain ⟨hc, hf⟩ := bcell hb; clear hb hf; simp [Rel.deps, Rel.dep1, Rel.ons, Region.binds, Act.eval, KV] at hd; simp only [Act.eval, List.mem_cons, List.not_mem_nil, not_or, and_imp, or_false, Array.getD_eq_getD_getElem?] at hbase; go_simp; (try go_bits); (try rfl); done)); (try simp only [List.nil_append, List.cons_append]))
      refine Rel.done3 ?_
      intro x w21 h21 hx
      simp only [Rel.facts, Nat.zero_add, Nat.reduceAdd] at hx
      obtain ⟨e0, e1, e2, e3, e4, e5, e6, e7, e8, e9, e10, _⟩ := hx
      simp only [Rel.fill, Nat.zero_add, Nat.reduceAdd, e0, e1, e2, e3, e4, e5, e6, e7, e8, e9, e10]
      simp only [Act.put, List.setIfInBounds_toArray, List.set_cons_zero, List.set_cons_succ]
      clear e0 e1 e2 e3 e4 e5 e6 e7 e8 e9 e10
      have HB21 := Lib.hid (HBr.out.trans (h21.mono HBr.out.size))
      go_wp2
      go_roundw
      case rel => exact ⟨k + 1, by omega, by go_num, by rw [HS2.out], HB21.out⟩
      case measure => simp [intOf]; omega
    · obtain rfl : k = n := by omega
      go_wp2
      go_ret
      exact ⟨(.int .i64 s), by first | rfl | (simp; done), by show ((.int .i64 s) : Value) = (.int .i64 R); rw [HSK.out, HR.out], HBr.out⟩
end Go.Proofs.YtdeapbihbhoefaaDoor

/- The reference's CheckLevels. -/
namespace Go.Proofs.YtdeapbihbhoefaaDoor
open Go.RowKit
open Calm (bcell Blk)
theorem asc_first {l : List Int} {k : Nat} (hk : k < l.length) (h : ∀ j, j < k → ascAt l (-2048) 2048 j = 0) (hn : ascAt l (-2048) 2048 k ≠ 0) : ascErr l (-2048) 2048 = ascAt l (-2048) 2048 k := by
  have h1 := firstOf_take (l := (List.range l.length).map (ascAt l (-2048) 2048)) (k := k) (fun j hj => by rw [asc_get l _ _ (by omega)]; exact h j hj) (by simpa using hk) (by rw [asc_get l _ _ hk]; exact hn)
  rw [asc_get l _ _ hk] at h1
  exact h1
theorem asc_zero {l : List Int} (h : ∀ j, j < l.length → ascAt l (-2048) 2048 j = 0) : ascErr l (-2048) 2048 = 0 :=
  firstOf_zero (fun j hj => by rw [asc_get l _ _ (by simpa using hj)]; exact h j (by simpa using hj))

set_option maxRecDepth 100000 in
set_option maxHeartbeats 4000000 in
theorem rCheckLevels_K {n : Nat} {l : List Int} {u : Value} {w : World} (hn : n = l.length) (h5 : n ≤ 5000) (hu : KS n l u w) : Calls Tryd.prog 57 #[u] w (KP (KV (.int .i64 (firstOf [someErr (l.length : Int) 6, ascErr l (-2048) 2048]))) w) := by
  obtain ⟨A, c, rfl, hC⟩ := hu
  have HC := Lib.hid hC
  have HN := Lib.hid hn
  obtain ⟨R, hR⟩ : ∃ R, R = firstOf [someErr (l.length : Int) 6, ascErr l (-2048) 2048] := ⟨_, rfl⟩
  have HR0 : Hid (n = 0 → R = 12) := Lib.hid (fun h0 => by rw [hR, ← hn, h0, show someErr ((0 : Nat) : Int) 6 = 12 by decide]; rfl)
  have HR5 : Hid (6 < n → R = 5) := Lib.hid (fun h0 => by
    have e : someErr (l.length : Int) 6 = 5 := by
      unfold someErr
      rw [if_neg (by omega), if_pos (by omega)]
      rfl
    rw [hR, e]
    rfl)
  have hs : 1 ≤ n → n ≤ 6 → R = firstOf [ascErr l (-2048) 2048] := fun h1 h2 => by
    have e : someErr (l.length : Int) 6 = 0 := by
      unfold someErr
      rw [if_neg (by omega), if_neg (by omega)]
      rfl
    rw [hR, e, fo_cons0]
  have HRk : Hid (∀ k, 1 ≤ n → n ≤ 6 → k < n → (∀ j, j < k → ascAt l (-2048) 2048 j = 0) → ascAt l (-2048) 2048 k ≠ 0 → R = ascAt l (-2048) 2048 k) := Lib.hid (fun k h1 h2 hk q1 q2 => by
    have e := asc_first (by rw [← hn]; exact hk) q1 q2
    rw [hs h1 h2, e, fo_consN q2])
  have HRz : Hid (1 ≤ n → n ≤ 6 → (∀ j, j < n → ascAt l (-2048) 2048 j = 0) → R = 0) := Lib.hid (fun h1 h2 q => by
    rw [hs h1 h2, asc_zero (fun j hj => q j (by rw [hn]; exact hj))]
    rfl)
  rw [← hR]
  clear hC hn hR hs
  go_enter Tryd.func57, Tryd.ntmps57
  by_cases h0 : n = 0
  · have hRr := HR0.out h0
    subst hRr
    subst h0
    go_wp2
    go_ret
    exact ⟨_, by first | rfl | (simp; done), rfl, Below.refl _ _⟩
  by_cases h6 : 6 < n
  · have hRr := HR5.out h6
    subst hRr
    have z1 : (6 : Int) < (n : Int) := by omega
    have z2 : ¬ (n : Int) = 0 := by omega
    go_wp2
    go_ret
    exact ⟨_, by first | rfl | (simp; done), rfl, Below.refl _ _⟩
  have z1 : ¬ (6 : Int) < (n : Int) := by omega
  have z2 : ¬ (n : Int) = 0 := by omega
  have z3 : 1 ≤ n := by omega
  have z4 : n ≤ 6 := by omega
  clear HR0 HR5 h0 h6
  go_wp2
  go_loopw [3] (fun i wr => ∃ k : Nat, k ≤ n ∧ i = (.int .i64 ((k : Int))) ∧ (∀ j, j < k → ascAt l (-2048) 2048 j = 0) ∧ Below w.heap.size w wr) (fun i _ => n - (intOf i).toNat)
  case atStart => exact ⟨0, Nat.zero_le _, rfl, fun j hj => by omega, Below.refl _ _⟩
  case round =>
    obtain ⟨k, hk, rfl, hz, hbr⟩ := hrel
    have HBr := Lib.hid hbr
    have HZ := Lib.hid hz
    clear hz hbr
    by_cases hlt : k < n
    · have hak : ascAt l (-2048) 2048 k = firstOf [rangeErr (l.getD k 0) (-2048) 2048, if 0 < k ∧ l.getD k 0 ≤ l.getD (k - 1) 0 then 11 else 0] := rfl
      have HRK := Lib.hid (HRk.out k z3 z4 hlt HZ.out)
      obtain ⟨b1, o1, hA, hbl, hcell⟩ := (HC.out.below HBr.out) (by rw [← HN.out]; omega)
      subst hA
      have hck := hcell k (by rw [← HN.out]; exact hlt)
      obtain ⟨ak, hA2⟩ : ∃ ak, ak = ascAt l (-2048) 2048 k := ⟨_, rfl⟩
      rw [← hA2] at hak HRK
      have HAK := Lib.hid hA2.symm
      clear hA2
      by_cases hre : rangeErr (l.getD k 0) (-2048) 2048 = 0
      · have hxb := rangeErr_zero.1 hre
        rw [hre, fo_cons0] at hak
        have HPV : Hid (∀ W, Calls Tryd.prog 32 #[(.int .i64 (l.getD k 0))] W fun r w' => r = .returned (.int .i64 0) ∧ W = w') := Lib.hid (fun W => by have := pValue_any (l.getD k 0) W; rwa [hre] at this)
        obtain ⟨x, hx⟩ : ∃ x, x = l.getD k 0 := ⟨_, rfl⟩
        rw [← hx] at hck hak HPV hxb
        obtain ⟨x1, x2⟩ := hxb
        rcases Nat.eq_zero_or_pos k with hk0 | hk0
        · have hd : decide ((0 : Int) < (k : Int)) = false := decide_eq_false (by omega)
          have hd2 : decide (0 < k) = false := decide_eq_false (by omega)
          have hak0 : ak = 0 := by rw [hak, if_neg (by omega)]; rfl
          have HZ2 := Lib.hid (HAK.out.trans hak0)
          clear hcell hx hak hre hk0
          go_wp2_with (go_at_call 32; refine (HPV.out _).mono ?_; rintro r w' ⟨rfl, rfl⟩)
          refine Calm.all_below (by kernel_rfl) (by kernel_rfl) ?_
          (first | (apply Calm.op_move; (focus rfl); (focus (first | exact .inl rfl | exact .inr rfl)); (focus ((try simp only [Act.eval, Array.getD_eq_getD_getElem?, List.getElem?_toArray, List.getElem?_cons_succ, List.getElem?_cons_zero, Option.getD_some]); rfl)); (try simp only [Act.put, List.setIfInBounds_toArray, List.set_cons_zero, List.set_cons_succ])) | (apply Calm.op_not; (focus rfl); (try simp only [Act.put, List.setIfInBounds_toArray, List.set_cons_zero, List.set_cons_succ])) | (apply Calm.op; (focus rfl); (focus (intro W hb; obtain ⟨hc, hf⟩ := bcell hb; clear hb hf; go_simp; (try go_bits); (try rfl); done)); (try simp only [Act.put, List.setIfInBounds_toArray, List.set_cons_zero, List.set_cons_succ])))
          (first | (apply Calm.op_move; (focus rfl); (focus (first | exact .inl rfl | exact .inr rfl)); (focus ((try simp only [Act.eval, Array.getD_eq_getD_getElem?, List.getElem?_toArray, List.getElem?_cons_succ, List.getElem?_cons_zero, Option.getD_some]); rfl)); (try simp only [Act.put, List.setIfInBounds_toArray, List.set_cons_zero, List.set_cons_succ])) | (apply Calm.op_not; (focus rfl); (try simp only [Act.put, List.setIfInBounds_toArray, List.set_cons_zero, List.set_cons_succ])) | (apply Calm.op; (focus rfl); (focus (intro W hb; obtain ⟨hc, hf⟩ := bcell hb; clear hb hf; go_simp; (try go_bits); (try rfl); done)); (try simp only [Act.put, List.setIfInBounds_toArray, List.set_cons_zero, List.set_cons_succ])))
          (try simp only [hd, hd2])
          (first | (apply Calm.op_move; (focus rfl); (focus (first | exact .inl rfl | exact .inr rfl)); (focus ((try simp only [Act.eval, Array.getD_eq_getD_getElem?, List.getElem?_toArray, List.getElem?_cons_succ, List.getElem?_cons_zero, Option.getD_some]); rfl)); (try simp only [Act.put, List.setIfInBounds_toArray, List.set_cons_zero, List.set_cons_succ])) | (apply Calm.op_not; (focus rfl); (try simp only [Act.put, List.setIfInBounds_toArray, List.set_cons_zero, List.set_cons_succ])) | (apply Calm.op; (focus rfl); (focus (intro W hb; obtain ⟨hc, hf⟩ := bcell hb; clear hb hf; go_simp; (try go_bits); (try rfl); done)); (try simp only [Act.put, List.setIfInBounds_toArray, List.set_cons_zero, List.set_cons_succ])))
          iterate 10 ((with_reducible refine Calm.op_not ?_ ?_); (focus rfl); (try simp only [Act.put, List.setIfInBounds_toArray, List.set_cons_zero, List.set_cons_succ]))
          (first | (apply Calm.op_move; (focus rfl); (focus (first | exact .inl rfl | exact .inr rfl)); (focus ((try simp only [Act.eval, Array.getD_eq_getD_getElem?, List.getElem?_toArray, List.getElem?_cons_succ, List.getElem?_cons_zero, Option.getD_some]); rfl)); (try simp only [Act.put, List.setIfInBounds_toArray, List.set_cons_zero, List.set_cons_succ])) | (apply Calm.op_not; (focus rfl); (try simp only [Act.put, List.setIfInBounds_toArray, List.set_cons_zero, List.set_cons_succ])) | (apply Calm.op; (focus rfl); (focus (intro W hb; obtain ⟨hc, hf⟩ := bcell hb; clear hb hf; go_simp; (try go_bits); (try rfl); done)); (try simp only [Act.put, List.setIfInBounds_toArray, List.set_cons_zero, List.set_cons_succ])))
          refine wpQuiet_nil ?_
          intro w2 hb2
          obtain ⟨hb2c, hb2f⟩ := bcell hb2
          have hb2z := hb2.size
          (try simp at hb2z)
          (try have hb2z0 : w.heap.size < w2.heap.size := by omega)
          (try have hb2z1 : w.heap.size + 1 < w2.heap.size := by omega)
          (try have hb2z2 : w.heap.size + 1 + 1 < w2.heap.size := by omega)
          (try have hb2z3 : w.heap.size + 1 + 1 + 1 < w2.heap.size := by omega)
          (try have hb2z4 : w.heap.size + 1 + 1 + 1 + 1 < w2.heap.size := by omega)
          (try have hb2z5 : w.heap.size + 1 + 1 + 1 + 1 + 1 < w2.heap.size := by omega)
          have HB2 := Lib.hid (HBr.out.trans (hb2.mono HBr.out.size))
          go_wp2
          go_roundw
          case rel => exact ⟨k + 1, by omega, by go_num, fun j hj => by
            rcases Nat.lt_or_ge j k with q | q
            · exact HZ.out j q
            · obtain rfl : j = k := by omega
              exact HZ2.out, HB2.out⟩
          case measure => simp [intOf]; omega
        · obtain ⟨m, rfl⟩ : ∃ m, k = m + 1 := ⟨k - 1, by omega⟩
          have hcm := hcell m (by rw [← HN.out]; omega)
          have hd : decide ((0 : Int) < (m : Int) + 1) = true := decide_eq_true (by omega)
          have hm2 : (m : Int) + 1 - 1 = (m : Int) := by omega
          have hm3 : m < n := by omega
          have hm4 : (m : Int) < (n : Int) := by omega
          rw [show m + 1 - 1 = m from rfl] at hak
          obtain ⟨y, hy⟩ : ∃ y, y = l.getD m 0 := ⟨_, rfl⟩
          rw [← hy] at hcm hak
          push_cast at hck
          by_cases hle : x ≤ y
          · have hak0 : ak = 11 := by rw [hak, if_pos ⟨by omega, hle⟩]; rfl
            have hRr := HRK.out (by rw [hak0]; decide)
            have hR11 : R = 11 := hRr.trans hak0
            subst hR11
            clear hcell hx hak hre hy hRr
            go_wp2_with (go_at_call 32; refine (HPV.out _).mono ?_; rintro r w' ⟨rfl, rfl⟩)
            refine Calm.all_below (by kernel_rfl) (by kernel_rfl) ?_
            (first | (apply Calm.op_move; (focus rfl); (focus (first | exact .inl rfl | exact .inr rfl)); (focus ((try simp only [Act.eval, Array.getD_eq_getD_getElem?, List.getElem?_toArray, List.getElem?_cons_succ, List.getElem?_cons_zero, Option.getD_some]); rfl)); (try simp only [Act.put, List.setIfInBounds_toArray, List.set_cons_zero, List.set_cons_succ])) | (apply Calm.op_not; (focus rfl); (try simp only [Act.put, List.setIfInBounds_toArray, List.set_cons_zero, List.set_cons_succ])) | (apply Calm.op; (focus rfl); (focus (intro W hb; obtain ⟨hc, hf⟩ := bcell hb; clear hb hf; go_simp; (try go_bits); (try rfl); done)); (try simp only [Act.put, List.setIfInBounds_toArray, List.set_cons_zero, List.set_cons_succ])))
            (first | (apply Calm.op_move; (focus rfl); (focus (first | exact .inl rfl | exact .inr rfl)); (focus ((try simp only [Act.eval, Array.getD_eq_getD_getElem?, List.getElem?_toArray, List.getElem?_cons_succ, List.getElem?_cons_zero, Option.getD_some]); rfl)); (try simp only [Act.put, List.setIfInBounds_toArray, List.set_cons_zero, List.set_cons_succ])) | (apply Calm.op_not; (focus rfl); (try simp only [Act.put, List.setIfInBounds_toArray, List.set_cons_zero, List.set_cons_succ])) | (apply Calm.op; (focus rfl); (focus (intro W hb; obtain ⟨hc, hf⟩ := bcell hb; clear hb hf; go_simp; (try go_bits); (try rfl); done)); (try simp only [Act.put, List.setIfInBounds_toArray, List.set_cons_zero, List.set_cons_succ])))
            (try simp only [hd])
            repeat (first | (apply Calm.op_move; (focus rfl); (focus (first | exact .inl rfl | exact .inr rfl)); (focus ((try simp only [Act.eval, Array.getD_eq_getD_getElem?, List.getElem?_toArray, List.getElem?_cons_succ, List.getElem?_cons_zero, Option.getD_some]); rfl)); (try simp only [Act.put, List.setIfInBounds_toArray, List.set_cons_zero, List.set_cons_succ])) | (apply Calm.op_not; (focus rfl); (try simp only [Act.put, List.setIfInBounds_toArray, List.set_cons_zero, List.set_cons_succ])) | (apply Calm.op; (focus rfl); (focus (intro W hb; obtain ⟨hc, hf⟩ := bcell hb; clear hb hf; go_simp; (try go_bits); (try rfl); done)); (try simp only [Act.put, List.setIfInBounds_toArray, List.set_cons_zero, List.set_cons_succ])))
            refine wpQuiet_nil ?_
            intro w2 hb2
            obtain ⟨hb2c, hb2f⟩ := bcell hb2
            have hb2z := hb2.size
            (try simp at hb2z)
            (try have hb2z0 : w.heap.size < w2.heap.size := by omega)
            (try have hb2z1 : w.heap.size + 1 < w2.heap.size := by omega)
            (try have hb2z2 : w.heap.size + 1 + 1 < w2.heap.size := by omega)
            (try have hb2z3 : w.heap.size + 1 + 1 + 1 < w2.heap.size := by omega)
            (try have hb2z4 : w.heap.size + 1 + 1 + 1 + 1 < w2.heap.size := by omega)
            (try have hb2z5 : w.heap.size + 1 + 1 + 1 + 1 + 1 < w2.heap.size := by omega)
            have HB2 := Lib.hid (HBr.out.trans (hb2.mono HBr.out.size))
            go_wp2
            go_ret
            exact ⟨_, by first | rfl | (simp; done), rfl, HB2.out⟩
          · have hak0 : ak = 0 := by rw [hak, if_neg (by omega)]; rfl
            have HZ2 := Lib.hid (HAK.out.trans hak0)
            clear hcell hx hak hre hy
            go_wp2_with (go_at_call 32; refine (HPV.out _).mono ?_; rintro r w' ⟨rfl, rfl⟩)
            refine Calm.all_below (by kernel_rfl) (by kernel_rfl) ?_
            (first | (apply Calm.op_move; (focus rfl); (focus (first | exact .inl rfl | exact .inr rfl)); (focus ((try simp only [Act.eval, Array.getD_eq_getD_getElem?, List.getElem?_toArray, List.getElem?_cons_succ, List.getElem?_cons_zero, Option.getD_some]); rfl)); (try simp only [Act.put, List.setIfInBounds_toArray, List.set_cons_zero, List.set_cons_succ])) | (apply Calm.op_not; (focus rfl); (try simp only [Act.put, List.setIfInBounds_toArray, List.set_cons_zero, List.set_cons_succ])) | (apply Calm.op; (focus rfl); (focus (intro W hb; obtain ⟨hc, hf⟩ := bcell hb; clear hb hf; go_simp; (try go_bits); (try rfl); done)); (try simp only [Act.put, List.setIfInBounds_toArray, List.set_cons_zero, List.set_cons_succ])))
            (first | (apply Calm.op_move; (focus rfl); (focus (first | exact .inl rfl | exact .inr rfl)); (focus ((try simp only [Act.eval, Array.getD_eq_getD_getElem?, List.getElem?_toArray, List.getElem?_cons_succ, List.getElem?_cons_zero, Option.getD_some]); rfl)); (try simp only [Act.put, List.setIfInBounds_toArray, List.set_cons_zero, List.set_cons_succ])) | (apply Calm.op_not; (focus rfl); (try simp only [Act.put, List.setIfInBounds_toArray, List.set_cons_zero, List.set_cons_succ])) | (apply Calm.op; (focus rfl); (focus (intro W hb; obtain ⟨hc, hf⟩ := bcell hb; clear hb hf; go_simp; (try go_bits); (try rfl); done)); (try simp only [Act.put, List.setIfInBounds_toArray, List.set_cons_zero, List.set_cons_succ])))
            (try simp only [hd])
            repeat (first | (apply Calm.op_move; (focus rfl); (focus (first | exact .inl rfl | exact .inr rfl)); (focus ((try simp only [Act.eval, Array.getD_eq_getD_getElem?, List.getElem?_toArray, List.getElem?_cons_succ, List.getElem?_cons_zero, Option.getD_some]); rfl)); (try simp only [Act.put, List.setIfInBounds_toArray, List.set_cons_zero, List.set_cons_succ])) | (apply Calm.op_not; (focus rfl); (try simp only [Act.put, List.setIfInBounds_toArray, List.set_cons_zero, List.set_cons_succ])) | (apply Calm.op; (focus rfl); (focus (intro W hb; obtain ⟨hc, hf⟩ := bcell hb; clear hb hf; go_simp; (try go_bits); (try rfl); done)); (try simp only [Act.put, List.setIfInBounds_toArray, List.set_cons_zero, List.set_cons_succ])))
            refine wpQuiet_nil ?_
            intro w2 hb2
            obtain ⟨hb2c, hb2f⟩ := bcell hb2
            have hb2z := hb2.size
            (try simp at hb2z)
            (try have hb2z0 : w.heap.size < w2.heap.size := by omega)
            (try have hb2z1 : w.heap.size + 1 < w2.heap.size := by omega)
            (try have hb2z2 : w.heap.size + 1 + 1 < w2.heap.size := by omega)
            (try have hb2z3 : w.heap.size + 1 + 1 + 1 < w2.heap.size := by omega)
            (try have hb2z4 : w.heap.size + 1 + 1 + 1 + 1 < w2.heap.size := by omega)
            (try have hb2z5 : w.heap.size + 1 + 1 + 1 + 1 + 1 < w2.heap.size := by omega)
            have HB2 := Lib.hid (HBr.out.trans (hb2.mono HBr.out.size))
            go_wp2
            go_roundw
            case rel => exact ⟨m + 1 + 1, by omega, by go_num, fun j hj => by
              rcases Nat.lt_or_ge j (m + 1) with q | q
              · exact HZ.out j q
              · obtain rfl : j = m + 1 := by omega
                exact HZ2.out, HB2.out⟩
            case measure => simp [intOf]; omega
      · rw [fo_consN hre] at hak
        have hRr := HRK.out (by rw [hak]; exact hre)
        rw [hak] at hRr
        have HPV : Hid (∀ W, Calls Tryd.prog 32 #[(.int .i64 (l.getD k 0))] W fun r w' => r = .returned (.int .i64 R) ∧ W = w') := Lib.hid (fun W => by have := pValue_any (l.getD k 0) W; rwa [← hRr] at this)
        have hRne : ¬ R = 0 := by rw [hRr]; exact hre
        obtain ⟨x, hx⟩ : ∃ x, x = l.getD k 0 := ⟨_, rfl⟩
        rw [← hx] at hck HPV
        clear hcell hx hak hre hRr
        go_wp2_with (go_at_call 32; refine (HPV.out _).mono ?_; rintro r w' ⟨rfl, rfl⟩)
        go_ret
        exact ⟨_, by first | rfl | (simp; done), rfl, HBr.out⟩
    · obtain rfl : k = n := by omega
      have hRz := HRz.out z3 z4 HZ.out
      subst hRz
      go_wp2
      go_ret
      exact ⟨_, by first | rfl | (simp; done), rfl, HBr.out⟩
end Go.Proofs.YtdeapbihbhoefaaDoor

/- Plain laws of ProtectLoudest: one more output, and the lists by their codes. -/
namespace Go.Proofs.YtdeapbihbhoefaaDoor
open Go.RowKit

theorem path_snoc0 {lk ht rc : Int} {ts gs ls : List Int} (hV : Valid lk ht rc ts gs) (hls : inB 2048 ls) (h0 : (0 : Int) ∈ ls) : ∀ (ys : List Int) (s : St), Good ht rc ts gs s → PathF lk ht rc ts ls s.h s.ps ys → PathF lk ht rc ts ls s.h s.ps (ys ++ [0])
  | [], s, hS, _ => ⟨h0, fine_zero hV hS, trivial⟩
  | y :: ys, s, hS, ⟨h1, h2, h3⟩ => by
    refine ⟨h1, h2, ?_⟩
    obtain ⟨f1, f2, f3⟩ := fineF_true h2
    have hb := hls y h1
    have hc := coolF_bd lk hS.h.1
    have hm : 0 ≤ y * y := by
      rcases Int.le_total 0 y with h | h
      · exact Int.mul_nonneg h h
      · exact Int.mul_nonneg_of_nonpos_of_nonpos h h
    exact path_snoc0 hV hls h0 ys ⟨coolF lk s.h + y * y, s.lv, pushL s.ps y⟩ ⟨⟨by show 0 ≤ coolF lk s.h + y * y; omega, f1⟩, hS.lv, by show _ = (pushL s.ps y).length + 1; rw [pushL_len]; exact hS.pl, inB_push hS.pb hb, f3⟩ h3
theorem enK_app (l m : List Int) : ∀ k, k ≤ l.length → enK (l ++ m) k = enK l k
  | 0, _ => rfl
  | k + 1, h => by
    simp only [enK]
    rw [enK_app l m k (by omega)]
    have e : (l ++ m).getD k 0 = l.getD k 0 := by rw [List.getD_eq_getElem?_getD, List.getD_eq_getElem?_getD, List.getElem?_append_left (by omega)]
    rw [e]
theorem enF_snoc0 (l : List Int) : enF (l ++ [0]) = enF l := by
  unfold enF
  rw [List.length_append]
  show enK (l ++ [0]) l.length + _ * _ = _
  rw [enK_app l [0] l.length (Nat.le_refl _)]
  have e : (l ++ [0]).getD l.length 0 = 0 := by simp [List.getD_eq_getElem?_getD]
  rw [e]
  omega
theorem loud_more {lk ht rc : Int} {ts gs ls r : List Int} {n : Nat} (hV : Valid lk ht rc ts gs) (hls : inB 2048 ls) (h0 : (0 : Int) ∈ ls) (h : loudF lk ht rc ts gs ls n = some r) : ∃ r2, loudF lk ht rc ts gs ls (n + 1) = some r2 ∧ r2.length = n + 1 ∧ enF r ≤ enF r2 ∧ inB 2048 r2 := by
  obtain ⟨h1, h2⟩ := loud_sound h
  have h3 := path_snoc0 hV hls h0 r (restS ts gs) (rest_good hV) h1
  obtain ⟨r2, h4, h5⟩ := loud_ge (gs := gs) h3
  rw [List.length_append, List.length_singleton, h2] at h4
  rw [enF_snoc0] at h5
  obtain ⟨h6, h7⟩ := loud_sound h4
  exact ⟨r2, h4, h7, h5, fun y hy => hls y (path_in h6 y hy)⟩
/-- the list of a code, its last k elements; zeros ahead. -/
def codeM (ls : List Int) (n c k : Nat) : List Int := (List.range n).map fun i => if n - k ≤ i then ls.getD (c / ls.length ^ (n - 1 - i) % ls.length) 0 else 0
theorem codeM_len (ls : List Int) (n c k : Nat) : (codeM ls n c k).length = n := by simp [codeM]
theorem codeM_zero (ls : List Int) (n c : Nat) : codeM ls n c 0 = List.replicate n 0 := by
  apply List.ext_getElem
  · simp [codeM]
  · intro i h1 h2
    simp [codeM] at h1 ⊢
    omega
theorem codeM_all (ls : List Int) (n c : Nat) : codeM ls n c n = codeL ls n c := by simp [codeM, codeL]
theorem codeM_succ (ls : List Int) {n c k : Nat} (h : k < n) : (codeM ls n c k).set (n - 1 - k) (ls.getD (c / ls.length ^ k % ls.length) 0) = codeM ls n c (k + 1) := by
  apply List.ext_getElem
  · simp [codeM]
  · intro i h1 h2
    simp [codeM] at h1 h2
    rw [List.getElem_set]
    simp only [codeM, List.getElem_map, List.getElem_range]
    by_cases e : n - 1 - k = i
    · rw [if_pos e, if_pos (by omega), show n - 1 - i = k by omega]
    · rw [if_neg e]
      by_cases e2 : n - k ≤ i
      · rw [if_pos e2, if_pos (by omega)]
      · rw [if_neg e2, if_neg (by omega)]
theorem codeL_in {ls : List Int} (h : inB 2048 ls) (n c : Nat) : inB 2048 (codeL ls n c) := by
  intro x hx
  obtain ⟨i, _, rfl⟩ := List.mem_map.1 hx
  exact inB_get h (by omega) _
/-- what the levels must keep, as the program and the reference say it. -/
theorem lev_zero {ls : List Int} (h : firstOf [someErr (ls.length : Int) 6, ascErr ls (-2048) 2048] = 0) : 1 ≤ ls.length ∧ ls.length ≤ 6 ∧ ascErr ls (-2048) 2048 = 0 ∧ inB 2048 ls := by
  have h1 := firstOf_eq_zero.1 h
  have h2 := h1 (someErr (ls.length : Int) 6) (by simp)
  have h3 := h1 (ascErr ls (-2048) 2048) (by simp)
  have h4 : 1 ≤ ls.length ∧ ls.length ≤ 6 := by
    unfold someErr at h2
    have h5 := firstOf_eq_zero.1 h2
    have h6 := h5 _ (List.mem_cons_self ..)
    have h7 := h5 _ (List.mem_cons_of_mem _ (List.mem_cons_self ..))
    constructor
    · split at h6
      · omega
      · omega
    · split at h7
      · omega
      · omega
  refine ⟨h4.1, h4.2, h3, ?_⟩
  intro x hx
  obtain ⟨k, hk, e⟩ := List.mem_iff_getElem.1 hx
  have h8 := firstOf_eq_zero.1 h3 (ascAt ls (-2048) 2048 k) (List.mem_map.2 ⟨k, List.mem_range.2 hk, rfl⟩)
  unfold ascAt at h8
  have h9 := firstOf_eq_zero.1 h8 _ (List.mem_cons_self ..)
  have h10 := rangeErr_zero.1 h9
  rw [List.getD_eq_getElem?_getD, List.getElem?_eq_getElem hk] at h10
  rw [← e]
  exact h10
end Go.Proofs.YtdeapbihbhoefaaDoor

/- Steps of drawn regions whose side conditions are found by themselves. -/
namespace Go.Proofs.YtdeapbihbhoefaaDoor
open Go.RowKit
open Calm (bcell Blk)
namespace Rel
section
variable {P : Program} {DS : List Tmp} {w0 : World} {a0 : Act} {T : Ctx → Prop} {Γ : Ctx} {o : Oper} {rest : List Oper}
theorem opz {v : Value} (hg : GOK3 Γ o := by (first | exact Rel.gno rfl | exact Rel.gyes _ true _ rfl rfl rfl | exact Rel.gyes _ false _ rfl rfl rfl)) (h : (∀ (a : Act) (W : World), Below w0.heap.size w0 W → deps Γ a W (ons o) → (∀ t, t ∉ DS → a.eval (.tmp t) = a0.eval (.tmp t)) → (execOp a.eval o).run P W = .ok (.value v) W) := by intro a W hb hd hbase; obtain ⟨hc, hf⟩ := bcell hb; clear hb hf; simp [Rel.deps, Rel.dep1, Rel.ons, Region.binds, Act.eval, KV] at hd; simp only [Act.eval, List.mem_cons, List.not_mem_nil, not_or, and_imp, or_false, Array.getD_eq_getD_getElem?] at hbase; go_simp; (try go_bits); (try rfl); done)
    (hn : walk3 P DS w0 a0 T (Γ ++ [(o.dst, fun u _ => u = v)]) rest) : walk3 P DS w0 a0 T Γ (o :: rest) := op3 v hg h hn
end
end Rel
namespace RelH
open Rel (ons)
section
variable {S : World → World → Prop} {P : Program} {DS : List Tmp} {w0 : World} {a0 : Act} {T : Ctx → Prop} {Γ : Ctx} {o : Oper} {rest : List Oper}
end
end RelH
/-- nothing old turns, as can be seen. -/
theorem bel {b : Nat} {W W' : World} (h : Below b W W' := by (repeat (first | (with_reducible exact Below.refl _ _) | ((with_reducible refine Below.setCell ?_ ?_ _); rotate_left 1; (focus (first | (simp; done) | (simp; omega) | (simp at *; omega)))) | ((with_reducible refine Below.alloc ?_ ?_ _); rotate_left 1; (focus (first | (simp; done) | (simp; omega) | (simp at *; omega))))))) : Below b W W' := h
end Go.Proofs.YtdeapbihbhoefaaDoor

/- The reference's search for the loudest signal. -/
namespace Go.Proofs.YtdeapbihbhoefaaDoor
open Go.RowKit
open Calm (bcell Blk)
end Go.Proofs.YtdeapbihbhoefaaDoor

/- Contracts of the program and of the reference as the cases of ProtectStates want them. -/
namespace Go.Proofs.YtdeapbihbhoefaaDoor
open Go.RowKit
open Calm (bcell Blk)
section
variable {lk ht rc h lv x : Int} {ts gs l : List Int} {M L n : Nat} {a y : Value} {W : World} (hM : M = ts.length) (hL : L = gs.length) (hn : n = l.length) (h1 : M ≤ 1000) (h2 : L ≤ 1000) (h3 : n ≤ 1000) (hLim : Lim W) (hu : KG lk ht rc M ts L gs a W) (hv : KT h lv n l y W)
include hM hL hn h1 h2 h3 hLim hu hv
end
end Go.Proofs.YtdeapbihbhoefaaDoor

/- The reference's Loudest; the errors of a search. -/
namespace Go.Proofs.YtdeapbihbhoefaaDoor
open Go.RowKit
open Calm (bcell Blk)
theorem loudErr_three (lk ht rc : Int) (ts gs xs : List Int) (n : Int) : loudErr lk ht rc ts gs xs n = firstOf [guardErr lk ht rc ts gs, firstOf [someErr (xs.length : Int) 6, ascErr xs (-2048) 2048], rangeErr n 0 6] := by
  unfold loudErr
  generalize guardErr lk ht rc ts gs = a
  generalize someErr (xs.length : Int) 6 = b
  generalize ascErr xs (-2048) 2048 = c
  generalize rangeErr n 0 6 = d
  by_cases ha : a = 0
  · subst ha
    rw [fo_cons0, fo_cons0]
    by_cases hb : b = 0
    · subst hb
      rw [fo_cons0, fo_cons0]
      by_cases hc : c = 0
      · subst hc
        rw [fo_cons0, show firstOf [(0 : Int)] = 0 from rfl, fo_cons0]
      · rw [fo_consN hc, fo_consN hc, fo_consN hc]
    · rw [fo_consN hb, fo_consN hb, fo_consN hb]
  · rw [fo_consN ha, fo_consN ha]
end Go.Proofs.YtdeapbihbhoefaaDoor

/- Run, once more: the slice of its outputs has room for them. -/
namespace Go.Proofs.YtdeapbihbhoefaaDoor
open Go.RowKit
open Calm (bcell Blk)
end Go.Proofs.YtdeapbihbhoefaaDoor

/- Contracts of the program as ProtectOpposite wants them. -/
namespace Go.Proofs.YtdeapbihbhoefaaDoor
open Go.RowKit
open Calm (bcell Blk)
theorem Cells.setAt {w : World} {b o : Nat} {zs : List Int} (h : Cells w (some ⟨b, o, none⟩) zs) {k : Nat} (hk : k < zs.length) (v : Int) : Cells (w.setCell ⟨b, o + k, none⟩ (.int .i64 v)) (some ⟨b, o, none⟩) (zs.set k v) := by
  intro h0
  obtain ⟨b', o', hA, hl, hc⟩ := h (by omega)
  cases hA
  refine ⟨b, o, rfl, by simpa using hl, fun j hj => ?_⟩
  have hj' : j < zs.length := by simpa using hj
  by_cases hjk : j = k
  · subst hjk
    rw [World.cell?_setCell_same' _ _ _ (by rw [hc j hj']; rfl)]
    simp [List.getD_eq_getElem?_getD, hk]
  · rw [World.cell?_setCell_other _ _ _ _ (by intro e; have e2 := congrArg Addr.off e; simp at e2; omega), hc j hj']
    simp [List.getD_eq_getElem?_getD, List.getElem?_set, hj', show ¬ k = j by omega]
section
variable {lk ht rc : Int} {ts gs xs : List Int} {M L N : Nat} {a y : Value} {W : World} (hM : M = ts.length) (hL : L = gs.length) (hN : N = xs.length) (h1 : M ≤ 1000) (h2 : L ≤ 1000) (h3 : N ≤ 5000) (hLim : Lim W) (hu : KG lk ht rc M ts L gs a W) (hv : KS N xs y W) (g1 : guardErr lk ht rc ts gs = 0) (g2 : sigErr xs = 0)
include hM hL hN h1 h2 h3 hLim hu hv g1 g2
end
/-- a slice with room for what it holds. -/
def KSC (n : Nat) (l : List Int) : Rel.Know := fun u W => ∃ B c, u = .slice B n c ∧ Cells W B l ∧ n ≤ c ∧ c ≤ maxLen
section
variable {lk ht rc : Int} {ts gs xs os : List Int} {M L N : Nat} {a y z : Value} {W : World} (hM : M = ts.length) (hL : L = gs.length) (hN : N = xs.length) (hN2 : N = os.length) (h1 : M ≤ 1000) (h2 : L ≤ 1000) (h3 : N ≤ 5000) (hLim : Lim W) (hu : KG lk ht rc M ts L gs a W) (hv : KS N xs y W) (hz : KS N os z W) (g1 : guardErr lk ht rc ts gs = 0) (g2 : sigErr xs = 0) (g3 : sigErr os = 0)
include hM hL hN hN2 h1 h2 h3 hLim hu hv hz g1 g2 g3
end
end Go.Proofs.YtdeapbihbhoefaaDoor
