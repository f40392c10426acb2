/- Part 25 of the texts of the claim: QR. -/
import Derived.Test.YtdeapbihbhoefaaDoorPr24

/- Plain laws: what the reference computes is what the program computes. -/
namespace Go.Proofs.YtdeapbihbhoefaaDoor
open Go.RowKit

theorem enK_cons (y : Int) (l : List Int) : ∀ k, enK (y :: l) (k + 1) = y * y + enK l k
  | 0 => by simp [enK]
  | k + 1 => by
    show enK (y :: l) (k + 1) + (y :: l).getD (k + 1) 0 * (y :: l).getD (k + 1) 0 = _
    rw [enK_cons y l k, List.getD_cons_succ]
    simp only [enK]
    omega
theorem enF_cons (y : Int) (l : List Int) : enF (y :: l) = y * y + enF l := enK_cons y l l.length
/-- the better one of two lists, the first one where both are as good. -/
def updO (b o : Option (List Int)) : Option (List Int) := match o with
  | none => b
  | some x => updB b x
theorem updO_none (o : Option (List Int)) : updO none o = o := by cases o <;> rfl
theorem updB_if (a b : List Int) : updB (some a) b = if enF a < enF b then some b else some a := rfl
theorem updO_assoc (a b c : Option (List Int)) : updO (updO a b) c = updO a (updO b c) := by
  cases c with
  | none => rfl
  | some z =>
    cases b with
    | none => rfl
    | some y =>
      cases a with
      | none => rw [updO_none, updO_none]
      | some x =>
        show updB (updB (some x) y) z = updO (some x) (updB (some y) z)
        rw [updB_if, updB_if]
        by_cases h1 : enF x < enF y
        · rw [if_pos h1, updB_if]
          by_cases h2 : enF y < enF z
          · rw [if_pos h2]; show _ = updB (some x) z; rw [updB_if, if_pos (by omega)]
          · rw [if_neg h2]; show _ = updB (some x) y; rw [updB_if, if_pos h1]
        · rw [if_neg h1, updB_if]
          by_cases h2 : enF y < enF z
          · rw [if_pos h2]; rfl
          · rw [if_neg h2]
            show _ = updB (some x) y
            rw [updB_if, if_neg h1, if_neg (by omega)]
/-- the best of some lists. -/
def bestL (p : List Int → Bool) (L : List (List Int)) (b : Option (List Int)) : Option (List Int) := L.foldl (fun b x => if p x then updB b x else b) b
theorem best_from (p : List Int → Bool) : ∀ (L : List (List Int)) (b : Option (List Int)), bestL p L b = updO b (bestL p L none)
  | [], _ => rfl
  | a :: L, b => by
    show bestL p L (if p a then updB b a else b) = updO b (bestL p L (if p a then updB none a else none))
    by_cases h : p a = true
    · rw [if_pos h, if_pos h, best_from p L (updB b a), best_from p L (updB none a)]
      exact updO_assoc b (some a) _
    · rw [if_neg h, if_neg h, best_from p L b]
theorem updB_cons (y : Int) (b : Option (List Int)) (x : List Int) : updB (b.map (y :: ·)) (y :: x) = (updB b x).map (y :: ·) := by
  cases b with
  | none => rfl
  | some b =>
    show updB (some (y :: b)) (y :: x) = (updB (some b) x).map _
    rw [updB_if, updB_if, enF_cons, enF_cons]
    by_cases h : enF b < enF x
    · rw [if_pos h, if_pos (by omega)]; rfl
    · rw [if_neg h, if_neg (by omega)]; rfl
theorem best_cons (p q : List Int → Bool) (y : Int) (h : ∀ x, p (y :: x) = q x) : ∀ (L : List (List Int)) (b : Option (List Int)), bestL p (L.map (y :: ·)) (b.map (y :: ·)) = (bestL q L b).map (y :: ·)
  | [], _ => rfl
  | a :: L, b => by
    show bestL p (L.map (y :: ·)) (if p (y :: a) then updB (b.map (y :: ·)) (y :: a) else b.map (y :: ·)) = (bestL q L (if q a then updB b a else b)).map (y :: ·)
    rw [h, ← best_cons p q y h L]
    congr 1
    by_cases hq : q a = true
    · rw [if_pos hq, if_pos hq, updB_cons]
    · rw [if_neg hq, if_neg hq]
/-- the search of the reference: n further outputs from a heat and last outputs on. -/
def refK (lk ht rc : Int) (ts ls : List Int) (rec : Int → List Int → Option (List Int)) (h : Int) (ps : List Int) : Nat → Option (List Int)
  | 0 => none
  | k + 1 => if fineF ht rc (coolF lk h + ls.getD k 0 * ls.getD k 0) (exF ts ps (ls.getD k 0)) ts (pushL ps (ls.getD k 0))
      then updO (refK lk ht rc ts ls rec h ps k) ((rec (coolF lk h + ls.getD k 0 * ls.getD k 0) (pushL ps (ls.getD k 0))).map (ls.getD k 0 :: ·)) else refK lk ht rc ts ls rec h ps k
def refL (lk ht rc : Int) (ts ls : List Int) : Nat → Int → List Int → Option (List Int)
  | 0, _, _ => some []
  | n + 1, h, ps => refK lk ht rc ts ls (refL lk ht rc ts ls n) h ps ls.length
theorem refL_best (lk ht rc : Int) (ts ls : List Int) : ∀ (n : Nat) (h : Int) (ps : List Int), refL lk ht rc ts ls n h ps = bestL (pathB lk ht rc ts h ps) (allL ls n) none
  | 0, h, ps => rfl
  | n + 1, h, ps => by
    have key : ∀ k, k ≤ ls.length → refK lk ht rc ts ls (refL lk ht rc ts ls n) h ps k = bestL (pathB lk ht rc ts h ps) ((ls.take k).flatMap fun y => (allL ls n).map (y :: ·)) none := by
      intro k
      induction k with
      | zero => intro _; rfl
      | succ k ih =>
        intro hk
        have e : ls.getD k 0 = ls[k] := by rw [List.getD_eq_getElem?_getD, List.getElem?_eq_getElem (by omega)]; rfl
        obtain ⟨y, hy⟩ : ∃ y, y = ls.getD k 0 := ⟨_, rfl⟩
        rw [List.take_succ_eq_append_getElem (by omega), List.flatMap_append, ← e]
        simp only [refK]
        rw [ih (by omega), ← hy]
        show _ = bestL _ (_ ++ List.flatMap _ [y]) none
        rw [List.flatMap_cons, List.flatMap_nil, List.append_nil]
        unfold bestL
        rw [List.foldl_append]
        show _ = bestL (pathB lk ht rc ts h ps) ((allL ls n).map (y :: ·)) _
        by_cases hf : fineF ht rc (coolF lk h + y * y) (exF ts ps y) ts (pushL ps y) = true
        · rw [if_pos hf, refL_best lk ht rc ts ls n, best_from (pathB lk ht rc ts h ps) ((allL ls n).map (y :: ·))]
          congr 1
          have := best_cons (pathB lk ht rc ts h ps) (pathB lk ht rc ts (coolF lk h + y * y) (pushL ps y)) y (fun x => by show (_ && _) = _; rw [hf]; rfl) (allL ls n) none
          exact this.symm
        · rw [if_neg hf]
          have e2 : ∀ x, pathB lk ht rc ts h ps (y :: x) = false := fun x => by
            show (_ && _) = _
            rw [Bool.not_eq_true] at hf
            rw [hf]; rfl
          have : ∀ (L : List (List Int)) (b : Option (List Int)), bestL (pathB lk ht rc ts h ps) (L.map (y :: ·)) b = b := by
            intro L
            induction L with
            | nil => intro b; rfl
            | cons a L ih2 =>
              intro b
              show bestL _ (L.map (y :: ·)) (if pathB lk ht rc ts h ps (y :: a) then _ else b) = b
              rw [e2]
              exact ih2 b
          rw [this]
    show refK lk ht rc ts ls (refL lk ht rc ts ls n) h ps ls.length = _
    rw [key _ (Nat.le_refl _), List.take_length]
    rfl
theorem refL_loud (lk ht rc : Int) (ts gs ls : List Int) (n : Nat) : refL lk ht rc ts ls n 0 (List.replicate (ts.length - 1) 0) = loudF lk ht rc ts gs ls n := by
  rw [refL_best]
  unfold loudF
  rw [vis_all]
  rfl
/-- the greatest permitted gain among the first ones, 0 where none is. -/
def permB (lk ht rc : Int) (ts gs : List Int) (s : St) (x : Int) (i : Nat) : Bool := decide (i ≤ s.lv + 1) && okAt lk ht rc s.h x ts s.ps gs i
def bestK (lk ht rc : Int) (ts gs : List Int) (s : St) (x : Int) : Nat → Nat
  | 0 => 0
  | i + 1 => if permB lk ht rc ts gs s x i then i else bestK lk ht rc ts gs s x i
theorem bestK_low (lk ht rc : Int) (ts gs : List Int) (s : St) (x : Int) : ∀ n, n ≤ s.lv + 2 → bestK lk ht rc ts gs s x n = (stepK lk ht rc s.h x ts s.ps gs n).getD 0
  | 0, _ => rfl
  | n + 1, h => by
    have e : permB lk ht rc ts gs s x n = okAt lk ht rc s.h x ts s.ps gs n := by unfold permB; rw [decide_eq_true (by omega), Bool.true_and]
    simp only [bestK, stepK]
    rw [e]
    split
    · rfl
    · exact bestK_low lk ht rc ts gs s x n (by omega)
theorem bestK_high (lk ht rc : Int) (ts gs : List Int) (s : St) (x : Int) : ∀ m, bestK lk ht rc ts gs s x (s.lv + 2 + m) = bestK lk ht rc ts gs s x (s.lv + 2)
  | 0 => rfl
  | m + 1 => by
    show (if permB lk ht rc ts gs s x (s.lv + 2 + m) then s.lv + 2 + m else bestK lk ht rc ts gs s x (s.lv + 2 + m)) = _
    have : permB lk ht rc ts gs s x (s.lv + 2 + m) = false := by unfold permB; rw [decide_eq_false (by omega)]; rfl
    rw [this]
    exact bestK_high lk ht rc ts gs s x m
theorem bestK_lv (lk ht rc : Int) (ts gs : List Int) (s : St) (x : Int) (h : 1 ≤ gs.length) : bestK lk ht rc ts gs s x gs.length = lvF lk ht rc ts gs s x := by
  unfold lvF
  rcases Nat.lt_or_ge (s.lv + 2) gs.length with h1 | h1
  · have e := bestK_high lk ht rc ts gs s x (gs.length - (s.lv + 2))
    rw [show s.lv + 2 + (gs.length - (s.lv + 2)) = gs.length by omega] at e
    rw [e, bestK_low _ _ _ _ _ _ _ _ (Nat.le_refl _), show min (s.lv + 1) (gs.length - 1) + 1 = s.lv + 2 by omega]
  · rw [bestK_low _ _ _ _ _ _ _ _ h1, show min (s.lv + 1) (gs.length - 1) + 1 = gs.length by omega]
end Go.Proofs.YtdeapbihbhoefaaDoor
