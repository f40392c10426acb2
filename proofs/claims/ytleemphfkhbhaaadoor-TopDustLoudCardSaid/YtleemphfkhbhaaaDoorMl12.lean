/- Part 12 of the texts of the claim: V1, S4, S5. -/
import Derived.Test.YtleemphfkhbhaaaDoorMl11
import Derived.Test.YtleemphfkhbhaaaDoorMl5
import Derived.Test.YtleemphfkhbhaaaDoorMl8
import Derived.Test.YtleemphfkhbhaaaDoorMl6
import Derived.Shelf.Abstract
import Derived.OwnWalkIn
import Derived.TacticsInMore
import Derived.LoopNIn
import Derived.LoopIn

/- What a search for the loudest signal finds: plain laws. No walk. -/
namespace Go.Proofs.YtleemphfkhbhaaaDoor
open Go.RowKit

/-- outputs out of some levels that keep all limits, from a heat and some last outputs on. -/
def PathF (lk ht rc : Int) (ts ls : List Int) : Int → List Int → List Int → Prop
  | _, _, [] => True
  | h, ps, y :: ys => y ∈ ls ∧ fineF ht rc (coolF lk h + y * y) (exF ts ps y) ts (pushL ps y) = true ∧ PathF lk ht rc ts ls (coolF lk h + y * y) (pushL ps y) ys
/-- a list is found, of an energy that is at least this one. -/
def GeE (o : Option (List Int)) (e : Int) : Prop := ∃ r, o = some r ∧ e ≤ enF r
theorem GeE.mono {o : Option (List Int)} {e e' : Int} (h : GeE o e) (he : e' ≤ e) : GeE o e' := by
  obtain ⟨r, h1, h2⟩ := h
  exact ⟨r, h1, by omega⟩
theorem updB_ge (b : Option (List Int)) (l : List Int) : GeE (updB b l) (enF l) ∧ ∀ e, GeE b e → GeE (updB b l) e := by
  unfold updB
  cases b with
  | none => exact ⟨⟨l, rfl, Int.le_refl _⟩, fun e ⟨r, h, _⟩ => by cases h⟩
  | some b' =>
    dsimp only
    split
    · rename_i h
      refine ⟨⟨l, rfl, Int.le_refl _⟩, fun e ⟨r, h1, h2⟩ => ⟨l, rfl, ?_⟩⟩
      cases h1
      omega
    · rename_i h
      exact ⟨⟨b', rfl, by omega⟩, fun e h1 => h1⟩
theorem keptK_mem {lk ht rc : Int} {ts : List Int} {s : St} {ls : List Int} : ∀ (k j : Nat), j < k → keepB lk ht rc ts s (ls.getD j 0) = true → (ls.getD j 0, nextF lk s (ls.getD j 0)) ∈ keptK lk ht rc ts s ls k
  | 0, j, h, _ => by omega
  | k + 1, j, h, hk => by
    rcases Nat.lt_or_ge j k with h1 | h1
    · simp only [keptK, List.mem_append]
      exact .inl (keptK_mem k j h1 hk)
    · obtain rfl : j = k := by omega
      rw [keptK_true hk]
      simp
theorem keptK_all {lk ht rc : Int} {ts : List Int} {s : St} {ls : List Int} {y : Int} (h : y ∈ ls) (hk : keepB lk ht rc ts s y = true) : (y, nextF lk s y) ∈ keptK lk ht rc ts s ls ls.length := by
  obtain ⟨j, hj, rfl⟩ := List.mem_iff_getElem.1 h
  have e : ls.getD j 0 = ls[j] := by rw [List.getD_eq_getElem?_getD, List.getElem?_eq_getElem hj]; rfl
  rw [← e] at hk ⊢
  exact keptK_mem _ j hj hk
theorem keptK_in {lk ht rc : Int} {ts : List Int} {s : St} {ls : List Int} : ∀ (k : Nat), k ≤ ls.length → ∀ x ∈ keptK lk ht rc ts s ls k, x.1 ∈ ls ∧ x.2 = nextF lk s x.1 ∧ keepB lk ht rc ts s x.1 = true
  | 0, _, x, hx => by simp [keptK] at hx
  | k + 1, hk, x, hx => by
    simp only [keptK, List.mem_append] at hx
    rcases hx with hx | hx
    · exact keptK_in k (by omega) x hx
    · split at hx
      · rename_i h0
        obtain rfl : x = _ := by simpa using hx
        refine ⟨?_, rfl, h0⟩
        show ls.getD k 0 ∈ ls
        rw [List.getD_eq_getElem?_getD, List.getElem?_eq_getElem (by omega)]
        exact List.getElem_mem _
      · cases hx
theorem fold_ge {α : Type} (f : Option (List Int) → α → Option (List Int)) (h : ∀ b x e, GeE b e → GeE (f b x) e) : ∀ (L : List α) (b : Option (List Int)) (e : Int), GeE b e → GeE (L.foldl f b) e
  | [], _, _, hb => hb
  | x :: L, b, e, hb => fold_ge f h L (f b x) e (h b x e hb)
theorem fold_in {α : Type} (f : Option (List Int) → α → Option (List Int)) (h : ∀ b x e, GeE b e → GeE (f b x) e) {x : α} {e : Int} (hx : ∀ b, GeE (f b x) e) : ∀ (L : List α) (b : Option (List Int)), x ∈ L → GeE (L.foldl f b) e
  | [], _, hm => by cases hm
  | a :: L, b, hm => by
    rcases List.mem_cons.1 hm with rfl | hm
    · exact fold_ge f h L _ e (hx b)
    · exact fold_in f h hx L (f b a) hm
theorem vis_ge (lk ht rc : Int) (ts ls : List Int) : ∀ (n : Nat) (l : List Int) (s : St) (b : Option (List Int)) (e : Int), GeE b e → GeE (visF lk ht rc ts ls n l s b) e
  | 0, l, s, b, e, h => (updB_ge b l).2 e h
  | n + 1, l, s, b, e, h => fold_ge _ (fun b x e hb => vis_ge lk ht rc ts ls n _ _ b e hb) _ b e h
theorem vis_path (lk ht rc : Int) (ts ls : List Int) : ∀ (ys : List Int) (l : List Int) (s : St) (b : Option (List Int)), PathF lk ht rc ts ls s.h s.ps ys → GeE (visF lk ht rc ts ls ys.length l s b) (enF (l ++ ys))
  | [], l, s, b, _ => by rw [List.append_nil]; exact (updB_ge b l).1
  | y :: ys, l, s, b, h => by
    obtain ⟨h1, h2, h3⟩ := h
    refine fold_in _ (fun b x e hb => vis_ge lk ht rc ts ls ys.length _ _ b e hb) (x := (y, nextF lk s y)) (fun b => ?_) _ b (keptK_all h1 h2)
    have := vis_path lk ht rc ts ls ys (l ++ [y]) (nextF lk s y) b h3
    rw [List.append_assoc] at this
    exact this
/-- what is found is what was best, or a list of levels that keeps all limits. -/
theorem vis_sound (lk ht rc : Int) (ts ls : List Int) (P : List Int → Prop) : ∀ (n : Nat) (l : List Int) (s : St) (b : Option (List Int)), (∀ ys, PathF lk ht rc ts ls s.h s.ps ys → ys.length = n → P (l ++ ys)) → (∀ r, b = some r → P r) → ∀ r, visF lk ht rc ts ls n l s b = some r → P r
  | 0, l, s, b, hp, hb, r, hr => by
    have h0 := hp [] trivial rfl
    rw [List.append_nil] at h0
    simp only [visF, updB] at hr
    cases b with
    | none => cases hr; exact h0
    | some b' =>
      dsimp only at hr
      split at hr
      · cases hr; exact h0
      · exact hb _ hr
  | n + 1, l, s, b, hp, hb, r, hr => by
    have key : ∀ (L : List (Int × St)), (∀ x ∈ L, x.1 ∈ ls ∧ x.2 = nextF lk s x.1 ∧ keepB lk ht rc ts s x.1 = true) → ∀ b, (∀ r, b = some r → P r) → ∀ r, L.foldl (fun b x => visF lk ht rc ts ls n (l ++ [x.1]) x.2 b) b = some r → P r := by
      intro L
      induction L with
      | nil => exact fun _ b hb r hr => hb r hr
      | cons a L ih =>
        intro hL b hb r hr
        obtain ⟨a1, a2, a3⟩ := hL a (by simp)
        refine ih (fun x hx => hL x (by simp [hx])) _ (fun r' hr' => ?_) r hr
        refine vis_sound lk ht rc ts ls P n (l ++ [a.1]) a.2 b (fun ys hys hn => ?_) hb r' hr'
        rw [List.append_assoc]
        refine hp (a.1 :: ys) ⟨a1, a3, ?_⟩ (by simp [hn])
        rw [a2] at hys
        exact hys
    exact key _ (keptK_in _ (Nat.le_refl _)) b hb r hr
theorem loud_sound {lk ht rc : Int} {ts gs ls : List Int} {n : Nat} {r : List Int} (h : loudF lk ht rc ts gs ls n = some r) : PathF lk ht rc ts ls 0 (List.replicate (ts.length - 1) 0) r ∧ r.length = n :=
  vis_sound lk ht rc ts ls (fun r => PathF lk ht rc ts ls 0 (List.replicate (ts.length - 1) 0) r ∧ r.length = n) n [] (restS ts gs) none (fun ys h1 h2 => ⟨h1, h2⟩) (fun r h => by cases h) r h
theorem loud_ge {lk ht rc : Int} {ts gs ls ys : List Int} (h : PathF lk ht rc ts ls 0 (List.replicate (ts.length - 1) 0) ys) : ∃ r, loudF lk ht rc ts gs ls ys.length = some r ∧ enF ys ≤ enF r := by
  have := vis_path lk ht rc ts ls ys [] (restS ts gs) none h
  rw [List.nil_append] at this
  exact this
theorem path_in {lk ht rc : Int} {ts ls : List Int} : ∀ {ys : List Int} {h : Int} {ps : List Int}, PathF lk ht rc ts ls h ps ys → ∀ y ∈ ys, y ∈ ls
  | [], _, _, _, y, hy => by cases hy
  | a :: ys, h, ps, ⟨h1, _, h3⟩, y, hy => by
    rcases List.mem_cons.1 hy with rfl | hy
    · exact h1
    · exact path_in h3 y hy
/-- a path, behind its first outputs. -/
theorem path_drop {lk ht rc : Int} {ts ls ys : List Int} (h : PathF lk ht rc ts ls 0 (List.replicate (ts.length - 1) 0) ys) : ∀ k, k ≤ ys.length → PathF lk ht rc ts ls (bhAt lk ys k) (bpAt (ts.length - 1) ys k) (ys.drop k)
  | 0, _ => h
  | k + 1, hk => by
    have ih := path_drop h k (by omega)
    rw [List.drop_eq_getElem_cons (by omega)] at ih
    have e : ys.getD k 0 = ys[k] := by rw [List.getD_eq_getElem?_getD, List.getElem?_eq_getElem (by omega)]; rfl
    simp only [bhAt, bpAt]
    rw [e]
    exact ih.2.2
theorem path_safe {lk ht rc : Int} {ts ls ys : List Int} (h : PathF lk ht rc ts ls 0 (List.replicate (ts.length - 1) 0) ys) {k : Nat} (hk : k < ys.length) : bhAt lk ys (k + 1) ≤ ht ∧ absI (exAt ts ys k) ≤ rc := by
  have ih := path_drop h k (by omega)
  rw [List.drop_eq_getElem_cons hk] at ih
  have e : ys.getD k 0 = ys[k] := by rw [List.getD_eq_getElem?_getD, List.getElem?_eq_getElem hk]; rfl
  obtain ⟨h1, h2, _⟩ := fineF_true ih.2.1
  unfold exAt
  simp only [bhAt]
  rw [e]
  exact ⟨h1, h2⟩
/-- the outputs of a run are a path, if they are levels. -/
theorem outs_path {lk ht rc : Int} {ts gs xs ls : List Int} (hV : Valid lk ht rc ts gs) (hx : inB 2048 xs) {n : Nat} (hl : ∀ k, k < n → outAt lk ht rc ts gs xs k ∈ ls) : ∀ m k, k + m = n → PathF lk ht rc ts ls (stAt lk ht rc ts gs xs k).h (stAt lk ht rc ts gs xs k).ps ((List.range' k m).map (outAt lk ht rc ts gs xs))
  | 0, _, _ => trivial
  | m + 1, k, hk => by
    rw [List.range'_succ, List.map_cons]
    have h1 := stepK_lt (lvF_some hV (good_at hV hx k) (xs.getD k 0))
    exact ⟨hl k (by omega), h1.2, outs_path hV hx hl m (k + 1) (by omega)⟩
theorem outs_path0 {lk ht rc : Int} {ts gs xs ls : List Int} (hV : Valid lk ht rc ts gs) (hx : inB 2048 xs) {n : Nat} (hl : ∀ k, k < n → outAt lk ht rc ts gs xs k ∈ ls) : PathF lk ht rc ts ls 0 (List.replicate (ts.length - 1) 0) (outsK lk ht rc ts gs xs n) := by
  have := outs_path hV hx hl n 0 (by omega)
  rw [← List.range_eq_range'] at this
  exact this

/-! ### Levels -/

/-- how many of the first numbers are less. -/
def lessK (l : List Int) (x : Int) : Nat := (l.takeWhile fun y => decide (y < x)).length
/-- a number, laid into its place among rising numbers, if it is not there. -/
def insF (l : List Int) (x : Int) : List Int := if l[lessK l x]? = some x then l else l.take (lessK l x) ++ x :: l.drop (lessK l x)
def lvlK (xs : List Int) : Nat → List Int
  | 0 => [0]
  | k + 1 => insF (lvlK xs k) (xs.getD k 0)
def Rising (l : List Int) : Prop := l.Pairwise (· < ·)
theorem lessK_le (l : List Int) (x : Int) : lessK l x ≤ l.length := by
  unfold lessK
  exact (List.takeWhile_sublist _).length_le
theorem less_lt {x : Int} : ∀ {l : List Int} {j : Nat}, j < lessK l x → l.getD j 0 < x
  | [], j, h => by simp [lessK] at h
  | a :: l, j, h => by
    unfold lessK at h
    rw [List.takeWhile_cons] at h
    split at h
    · rename_i ha
      cases j with
      | zero => simpa using ha
      | succ j => exact less_lt (l := l) (j := j) (by unfold lessK; simpa using h)
    · simp at h
theorem less_ge {x : Int} : ∀ {l : List Int}, lessK l x < l.length → ¬ l.getD (lessK l x) 0 < x
  | [], h => by simp at h
  | a :: l, h => by
    by_cases ha : a < x
    · have e : lessK (a :: l) x = lessK l x + 1 := by unfold lessK; rw [List.takeWhile_cons, if_pos (by simpa using ha)]; rfl
      rw [e] at h ⊢
      exact less_ge (l := l) (by simpa using h)
    · have e : lessK (a :: l) x = 0 := by unfold lessK; rw [List.takeWhile_cons, if_neg (by simpa using ha)]; rfl
      rw [e]
      simpa using ha
theorem lessK_eq {l : List Int} {x : Int} {k : Nat} (h1 : ∀ j, j < k → l.getD j 0 < x) (hk : k ≤ l.length) (h2 : k < l.length → ¬ l.getD k 0 < x) : lessK l x = k := by
  rcases Nat.lt_trichotomy (lessK l x) k with h | h | h
  · exact absurd (h1 _ h) (less_ge (by omega))
  · exact h
  · exact absurd (less_lt h) (h2 (by have := lessK_le l x; omega))
theorem insF_mem {l : List Int} {x y : Int} : y ∈ insF l x ↔ y = x ∨ y ∈ l := by
  unfold insF
  split
  · rename_i h
    refine ⟨.inr, fun h' => ?_⟩
    rcases h' with rfl | h'
    · exact List.mem_of_getElem? h
    · exact h'
  · have e : y ∈ l ↔ y ∈ l.take (lessK l x) ∨ y ∈ l.drop (lessK l x) := by
      rw [← List.mem_append, List.take_append_drop]
    rw [List.mem_append, List.mem_cons, e]
    constructor
    · rintro (h | h | h)
      · exact .inr (.inl h)
      · exact .inl h
      · exact .inr (.inr h)
    · rintro (h | h | h)
      · exact .inr (.inl h)
      · exact .inl h
      · exact .inr (.inr h)
theorem insF_len (l : List Int) (x : Int) : (insF l x).length ≤ l.length + 1 ∧ l.length ≤ (insF l x).length := by
  unfold insF
  split
  · omega
  · have := lessK_le l x
    simp
    omega
theorem insF_rising {l : List Int} {x : Int} (h : Rising l) : Rising (insF l x) := by
  unfold insF
  split
  · exact h
  · rename_i hne
    unfold Rising at h ⊢
    have hs := h
    rw [← List.take_append_drop (lessK l x) l, List.pairwise_append] at hs
    obtain ⟨p1, p2, p3⟩ := hs
    rw [List.pairwise_append, List.pairwise_cons]
    have hlow : ∀ a ∈ l.take (lessK l x), a < x := fun a ha => by
      obtain ⟨j, hj, rfl⟩ := List.mem_iff_getElem.1 ha
      rw [List.length_take] at hj
      have := less_lt (l := l) (x := x) (j := j) (by omega)
      rw [List.getD_eq_getElem?_getD, List.getElem?_eq_getElem (by omega)] at this
      simpa using this
    have hhigh : ∀ a ∈ l.drop (lessK l x), x < a := fun a ha => by
      have hlt : lessK l x < l.length := by
        rcases Nat.lt_or_ge (lessK l x) l.length with h | h
        · exact h
        · rw [List.drop_eq_nil_of_le h] at ha; cases ha
      have h0 := less_ge hlt
      rw [List.getD_eq_getElem?_getD, List.getElem?_eq_getElem hlt] at h0
      rw [List.getElem?_eq_getElem hlt] at hne
      have h1 : x < l[lessK l x] := by
        have : l[lessK l x] ≠ x := fun e => hne (by rw [e])
        simp at h0
        omega
      rw [List.drop_eq_getElem_cons hlt] at ha p2
      rcases List.mem_cons.1 ha with rfl | ha
      · exact h1
      · have := (List.pairwise_cons.1 p2).1 a ha
        omega
    refine ⟨p1, ⟨hhigh, p2⟩, fun a ha b hb => ?_⟩
    rcases List.mem_cons.1 hb with rfl | hb
    · exact hlow a ha
    · exact p3 a ha b hb
theorem lvlK_rising (xs : List Int) : ∀ k, Rising (lvlK xs k)
  | 0 => by simp [lvlK, Rising]
  | k + 1 => insF_rising (lvlK_rising xs k)
theorem lvlK_mem (xs : List Int) : ∀ k y, y ∈ lvlK xs k ↔ y = 0 ∨ ∃ j, j < k ∧ y = xs.getD j 0
  | 0, y => by simp [lvlK]
  | k + 1, y => by
    simp only [lvlK]
    rw [insF_mem, lvlK_mem xs k y]
    constructor
    · rintro (h | h | ⟨j, hj, h⟩)
      · exact .inr ⟨k, by omega, h⟩
      · exact .inl h
      · exact .inr ⟨j, by omega, h⟩
    · rintro (h | ⟨j, hj, h⟩)
      · exact .inr (.inl h)
      · rcases Nat.lt_or_ge j k with h1 | h1
        · exact .inr (.inr ⟨j, h1, h⟩)
        · obtain rfl : j = k := by omega
          exact .inl h
theorem lvlK_len (xs : List Int) : ∀ k, 1 ≤ (lvlK xs k).length ∧ (lvlK xs k).length ≤ k + 1
  | 0 => by simp [lvlK]
  | k + 1 => by
    have h1 := lvlK_len xs k
    have h2 := insF_len (lvlK xs k) (xs.getD k 0)
    simp only [lvlK]
    omega
theorem lvlK_in {xs : List Int} (h : inB 2048 xs) (k : Nat) : inB 2048 (lvlK xs k) := by
  intro y hy
  rcases (lvlK_mem xs k y).1 hy with rfl | ⟨j, _, rfl⟩
  · omega
  · exact inB_get h (by omega) j
theorem rising_get {l : List Int} (h : Rising l) {i : Nat} (h0 : 0 < i) (hi : i < l.length) : l.getD (i - 1) 0 < l.getD i 0 := by
  have := List.pairwise_iff_getElem.1 h (i - 1) i (by omega) hi (by omega)
  rw [List.getD_eq_getElem?_getD, List.getD_eq_getElem?_getD, List.getElem?_eq_getElem (by omega), List.getElem?_eq_getElem hi]
  exact this
theorem asc_ok {l : List Int} (h : Rising l) (hb : inB 2048 l) : ascErr l (-2048) 2048 = 0 := by
  unfold ascErr
  refine firstOf_eq_zero.2 fun x hx => ?_
  obtain ⟨i, hi, rfl⟩ := List.mem_map.1 hx
  have hi' := List.mem_range.1 hi
  unfold ascAt
  have hr := inB_get hb (by omega) i
  refine firstOf_eq_zero.2 fun x hx => ?_
  rcases List.mem_cons.1 hx with rfl | hx
  · exact rangeErr_in hr.1 hr.2
  · obtain rfl := List.mem_singleton.1 hx
    refine if_neg fun ⟨h0, h1⟩ => ?_
    have := rising_get h h0 hi'
    omega
theorem some6 {n : Nat} (h : 1 ≤ n) (h2 : n ≤ 6) : someErr (n : Int) 6 = 0 := by
  have h1 : ¬ n = 0 := by omega
  have h3 : ¬ (6 : Int) < (n : Int) := by omega
  simp [someErr, firstOf, h1, h3]
theorem loud_noErr {lk ht rc : Int} {ts gs ls : List Int} {n : Nat} (hg : guardErr lk ht rc ts gs = 0) (h1 : 1 ≤ ls.length) (h2 : ls.length ≤ 6) (h3 : Rising ls) (h4 : inB 2048 ls) (hn : n ≤ 6) : loudErr lk ht rc ts gs ls n = 0 := by
  unfold loudErr
  rw [hg, some6 h1 h2, asc_ok h3 h4, rangeErr_in (by omega) (by omega)]
  rfl
/-- by the gains 0 and 16 an output is its input, or 0. -/
theorem mute_out {lk ht rc : Int} {ts xs : List Int} (hV : Valid lk ht rc ts [0, 16]) (hx : inB 2048 xs) (k : Nat) : outAt lk ht rc ts [0, 16] xs k = xs.getD k 0 ∨ outAt lk ht rc ts [0, 16] xs k = 0 := by
  have hk := (step_good hV (good_at hV hx k) (inB_get hx (by omega) k)).1.lv
  have e : outAt lk ht rc ts [0, 16] xs k = byF (xs.getD k 0) (([0, 16] : List Int).getD (lvAt lk ht rc ts [0, 16] xs k) 0) := rfl
  have hlt : lvAt lk ht rc ts [0, 16] xs k < 2 := hk
  rw [e]
  rcases (show lvAt lk ht rc ts [0, 16] xs k = 0 ∨ lvAt lk ht rc ts [0, 16] xs k = 1 by omega) with h | h
  · rw [h]
    refine .inr ?_
    show byF _ 0 = 0
    exact byF_zero _
  · rw [h]
    refine .inl ?_
    show byF _ 16 = _
    unfold byF
    rw [Int.mul_comm]
    exact Int.mul_tdiv_cancel_left _ (by decide)
end Go.Proofs.YtleemphfkhbhaaaDoor

/- Contracts of raw, limited and step of sections. -/
namespace Go.Proofs.YtleemphfkhbhaaaDoor
open Go.RowKit
open Calm (bcell Blk)

def bd15 (x : Int) : Prop := -32767 ≤ x ∧ x ≤ 32767
/-- the raw output, and the output. -/
def rawF (b0 b1 b2 a1 a2 sh x1 x2 y1 y2 i : Int) : Int := (b0 * i + b1 * x1 + b2 * x2 - a1 * y1 - a2 * y2) / 2 ^ sh.toNat
def mn (x y : Int) : Int := if y < x then y else x
def limF (n : Int) : Int := mx (-32767) (mn 32767 n)
theorem limF_bd (n : Int) : bd15 (limF n) := by unfold limF mx mn bd15; split <;> split <;> omega
theorem limF_in {n : Int} (h : bd15 n) : limF n = n := by unfold bd15 at h; unfold limF mx mn; split <;> split <;> omega
theorem raw_any (b0 b1 b2 a1 a2 sh x1 x2 y1 y2 i : Int) (w : World) (h0 : bd15 b0) (h1 : bd15 b1) (h2 : bd15 b2) (h3 : bd15 a1) (h4 : bd15 a2) (h5 : 0 ≤ sh ∧ sh ≤ 15) (k1 : bd15 x1) (k2 : bd15 x2) (k3 : bd15 y1) (k4 : bd15 y2) (k5 : bd15 i) :
    Calls Tryd.prog 66 #[.agg #[(.int .i64 (b0)), (.int .i64 (b1)), (.int .i64 (b2)), (.int .i64 (a1)), (.int .i64 (a2)), (.int .i64 (sh))], .agg #[(.int .i64 (x1)), (.int .i64 (x2)), (.int .i64 (y1)), (.int .i64 (y2))], (.int .i64 (i))] w fun r w' => r = .returned (.int .i64 (rawF b0 b1 b2 a1 a2 sh x1 x2 y1 y2 i)) ∧ Below w.heap.size w w' := by
  have m0 := mul_bd h0 k5
  have m1 := mul_bd h1 k1
  have m2 := mul_bd h2 k2
  have m3 := mul_bd h3 k3
  have m4 := mul_bd h4 k4
  obtain ⟨p1, p2⟩ := m0
  obtain ⟨p3, p4⟩ := m1
  obtain ⟨p5, p6⟩ := m2
  obtain ⟨p7, p8⟩ := m3
  obtain ⟨p9, p10⟩ := m4
  obtain ⟨q1, q2⟩ := h5
  clear h0 h1 h2 h3 h4 k1 k2 k3 k4 k5
  go_enter Tryd.func66, Tryd.ntmps66
  go_wp2
  go_ret
  exact ⟨rfl, by (repeat (first | (with_reducible exact Below.refl _ _) | ((with_reducible refine Below.setCell ?_ ?_ _); rotate_left 1; focus (first | (simp; done) | (simp; omega) | (simp at *; omega))) | ((with_reducible refine Below.alloc ?_ ?_ _); rotate_left 1; focus (first | (simp; done) | (simp; omega) | (simp at *; omega))) | (with_reducible refine Below.drew ?_) | ((with_reducible refine Calm.step (by assumption) ?_ ?_); rotate_left 1; focus (first | (simp; done) | (simp; omega) | (simp at *; omega)))))⟩
theorem limited_any (n : Int) (w : World) : Calls Tryd.prog 65 #[(.int .i64 (n))] w fun r w' => r = .returned (.int .i64 (limF n)) ∧ w = w' := by
  have hmax := max2_any
  have hmin : ∀ W : World, (Builtin.min_ #[3, 3] 3 #[(.int .i64 (32767)), (.int .i64 (n))]).run Tryd.prog W = .ok (.int .i64 (mn 32767 n)) W := fun W => by simp [Builtin.min_, Builtin.min2, mn]
  go_enter Tryd.func65, Tryd.ntmps65
  go_wp2
  go_ret
  exact ⟨rfl, rfl⟩
def outS (b0 b1 b2 a1 a2 sh x1 x2 y1 y2 i : Int) : Int := limF (rawF b0 b1 b2 a1 a2 sh x1 x2 y1 y2 i)
set_option maxHeartbeats 1000000 in
theorem sStep_any (b0 b1 b2 a1 a2 sh x1 x2 y1 y2 i : Int) (w : World) (h0 : bd15 b0) (h1 : bd15 b1) (h2 : bd15 b2) (h3 : bd15 a1) (h4 : bd15 a2) (h5 : 0 ≤ sh ∧ sh ≤ 15) (k1 : bd15 x1) (k2 : bd15 x2) (k3 : bd15 y1) (k4 : bd15 y2) (k5 : bd15 i) :
    Calls Tryd.prog 60 #[.agg #[(.int .i64 (b0)), (.int .i64 (b1)), (.int .i64 (b2)), (.int .i64 (a1)), (.int .i64 (a2)), (.int .i64 (sh))], .agg #[(.int .i64 (x1)), (.int .i64 (x2)), (.int .i64 (y1)), (.int .i64 (y2))], (.int .i64 (i))] w fun r w' => r = .returned (.tuple #[(.int .i64 (outS b0 b1 b2 a1 a2 sh x1 x2 y1 y2 i)), .agg #[(.int .i64 (i)), (.int .i64 (x1)), (.int .i64 (outS b0 b1 b2 a1 a2 sh x1 x2 y1 y2 i)), (.int .i64 (y1))]]) ∧ Below w.heap.size w w' := by
  have HR : Hid (∀ W, Calls Tryd.prog 66 #[.agg #[(.int .i64 (b0)), (.int .i64 (b1)), (.int .i64 (b2)), (.int .i64 (a1)), (.int .i64 (a2)), (.int .i64 (sh))], .agg #[(.int .i64 (x1)), (.int .i64 (x2)), (.int .i64 (y1)), (.int .i64 (y2))], (.int .i64 (i))] W fun r w' => r = .returned (.int .i64 (rawF b0 b1 b2 a1 a2 sh x1 x2 y1 y2 i)) ∧ Below W.heap.size W w') := Lib.hid (fun W => raw_any b0 b1 b2 a1 a2 sh x1 x2 y1 y2 i W h0 h1 h2 h3 h4 h5 k1 k2 k3 k4 k5)
  have HL : Hid (∀ W, Calls Tryd.prog 65 #[(.int .i64 (rawF b0 b1 b2 a1 a2 sh x1 x2 y1 y2 i))] W fun r w' => r = .returned (.int .i64 (outS b0 b1 b2 a1 a2 sh x1 x2 y1 y2 i)) ∧ W = w') := Lib.hid (fun W => limited_any _ W)
  obtain ⟨R, hR⟩ : ∃ R, R = rawF b0 b1 b2 a1 a2 sh x1 x2 y1 y2 i := ⟨_, rfl⟩
  obtain ⟨O, hO⟩ : ∃ O, O = outS b0 b1 b2 a1 a2 sh x1 x2 y1 y2 i := ⟨_, rfl⟩
  rw [← hR] at HR HL
  rw [← hO] at HL ⊢
  clear h0 h1 h2 h3 h4 h5 k1 k2 k3 k4 k5 hR hO
  go_enter Tryd.func60, Tryd.ntmps60
  go_wp2_with (first
    | (go_at_call 66; refine (HR.out _).mono ?_; rintro r w1 ⟨rfl, hb1⟩; have HB1 := Lib.hid (show Below w.heap.size w w1 from Below.trans (by (repeat (first | (with_reducible exact Below.refl _ _) | ((with_reducible refine Below.setCell ?_ ?_ _); rotate_left 1; focus (first | (simp; done) | (simp; omega) | (simp at *; omega))) | ((with_reducible refine Below.alloc ?_ ?_ _); rotate_left 1; focus (first | (simp; done) | (simp; omega) | (simp at *; omega))) | (with_reducible refine Below.drew ?_) | ((with_reducible refine Calm.step (by assumption) ?_ ?_); rotate_left 1; focus (first | (simp; done) | (simp; omega) | (simp at *; omega)))))) (hb1.mono (by simp; omega))); have K1 := Lib.hid (show Blk w1 (w.heap.size + 1) #[(.int .i64 (x1)), (.int .i64 (x2)), (.int .i64 (y1)), (.int .i64 (y2))] from Blk.below (by (repeat (first | ((with_reducible refine Blk.at_ ?_); focus (first | rfl | (simp; done) | (simp; omega))) | (with_reducible refine Blk.alloc ?_ _) | (with_reducible refine Blk.below ?_ (by with_reducible assumption)) | (with_reducible refine Blk.drew ?_)))) hb1); have K2 := Lib.hid (show Blk w1 (w.heap.size + 1 + 1) #[(.int .i64 (0)), (.int .i64 (0)), (.int .i64 (0)), (.int .i64 (0))] from Blk.below (by (repeat (first | ((with_reducible refine Blk.at_ ?_); focus (first | rfl | (simp; done) | (simp; omega))) | (with_reducible refine Blk.alloc ?_ _) | (with_reducible refine Blk.below ?_ (by with_reducible assumption)) | (with_reducible refine Blk.drew ?_)))) hb1); clear hb1)
    | (go_at_call 65; refine (HL.out _).mono ?_; rintro r w2 ⟨rfl, rfl⟩))
  obtain ⟨c0, c1, c2, c3, cl, cf⟩ := K1.out.o4
  have hK2 := K2.out.lt
  refine Calm.tail_below 9 (by kernel_rfl) (by kernel_rfl) ?_
  simp only [List.take_succ_cons, List.take_zero, List.drop_succ_cons, List.drop_zero]
  repeat (first | (apply Calm.op_move; (focus rfl); (focus (first | exact .inl rfl | exact .inr rfl)); (focus ((try simp only [Act.eval, Array.getD_eq_getD_getElem?, List.getElem?_toArray, List.getElem?_cons_succ, List.getElem?_cons_zero, Option.getD_some]); rfl)); (try simp only [Act.put, List.setIfInBounds_toArray, List.set_cons_zero, List.set_cons_succ])) | (apply Calm.op_not; (focus rfl); (try simp only [Act.put, List.setIfInBounds_toArray, List.set_cons_zero, List.set_cons_succ])) | (apply Calm.op; (focus rfl); (focus (intro W hb; obtain ⟨hc, hf⟩ := bcell hb; clear hb hf; go_simp; (try go_bits); (try rfl); done)); (try simp only [Act.put, List.setIfInBounds_toArray, List.set_cons_zero, List.set_cons_succ])))
  refine wpQuiet_nil ?_
  intro w5 hb5
  obtain ⟨hb5c, hb5f⟩ := bcell hb5
  have hb5z := hb5.size
  (try simp at hb5z)
  (try have hb5z0 : w.heap.size < w5.heap.size := by omega)
  (try have hb5z1 : w.heap.size + 1 < w5.heap.size := by omega)
  (try have hb5z2 : w.heap.size + 1 + 1 < w5.heap.size := by omega)
  (try have hb5z3 : w.heap.size + 1 + 1 + 1 < w5.heap.size := by omega)
  (try have hb5z4 : w.heap.size + 1 + 1 + 1 + 1 < w5.heap.size := by omega)
  (try have hb5z5 : w.heap.size + 1 + 1 + 1 + 1 + 1 < w5.heap.size := by omega)
  have HB5 := Lib.hid (HB1.out.trans (hb5.mono HB1.out.size))
  have K25 := K2.out.below hb5
  obtain ⟨d0, d1, d2, d3, dl, df⟩ := K25.o4
  clear hb5 hb5c hb5f c0 c1 c2 c3 cl cf
  go_wp2
  exact bodyPost_ret (v := .tuple #[(.int .i64 (O)), .agg #[(.int .i64 (i)), (.int .i64 (x1)), (.int .i64 (O)), (.int .i64 (y1))]]) (by simp [results, Tryd.results60, go_sem, *]) rfl ⟨rfl, (((HB5.out.setCell (by simp; omega) _).setCell (by simp; omega) _).setCell (by simp; omega) _).setCell (by simp; omega) _⟩
end Go.Proofs.YtleemphfkhbhaaaDoor

/- Contracts of (Section).outputs and of the iterator that it hands out. -/
namespace Go.Proofs.YtleemphfkhbhaaaDoor
open Go.RowKit
open Calm (bcell Blk)

abbrev XS := Int × Int × Int × Int
/-- the states of a section's run, and its outputs. -/
def ssAt (b0 b1 b2 a1 a2 sh : Int) (st : XS) (xs : List Int) : Nat → XS
  | 0 => st
  | k + 1 => let s := ssAt b0 b1 b2 a1 a2 sh st xs k; (xs.getD k 0, s.1, outS b0 b1 b2 a1 a2 sh s.1 s.2.1 s.2.2.1 s.2.2.2 (xs.getD k 0), s.2.2.1)
def soAt (b0 b1 b2 a1 a2 sh : Int) (st : XS) (xs : List Int) (k : Nat) : Int := let s := ssAt b0 b1 b2 a1 a2 sh st xs k; outS b0 b1 b2 a1 a2 sh s.1 s.2.1 s.2.2.1 s.2.2.2 (xs.getD k 0)
def allS (b0 b1 b2 a1 a2 sh : Int) (st : XS) (xs : List Int) (n : Nat) : List (Int × XS) := (List.range n).map fun k => (soAt b0 b1 b2 a1 a2 sh st xs k, ssAt b0 b1 b2 a1 a2 sh st xs (k + 1))
theorem allS_succ (b0 b1 b2 a1 a2 sh : Int) (st : XS) (xs : List Int) (k : Nat) : allS b0 b1 b2 a1 a2 sh st xs (k + 1) = allS b0 b1 b2 a1 a2 sh st xs k ++ [(soAt b0 b1 b2 a1 a2 sh st xs k, ssAt b0 b1 b2 a1 a2 sh st xs (k + 1))] := by simp [allS, List.range_succ]
theorem allS_post (b0 b1 b2 a1 a2 sh : Int) (st : XS) (xs : List Int) {k n : Nat} (h : k < n) : ∃ post, allS b0 b1 b2 a1 a2 sh st xs n = allS b0 b1 b2 a1 a2 sh st xs k ++ (soAt b0 b1 b2 a1 a2 sh st xs k, ssAt b0 b1 b2 a1 a2 sh st xs (k + 1)) :: post := by
  obtain ⟨m, rfl⟩ : ∃ m, n = k + 1 + m := ⟨n - (k + 1), by omega⟩
  refine ⟨(List.range m).map fun j => (soAt b0 b1 b2 a1 a2 sh st xs (k + 1 + j), ssAt b0 b1 b2 a1 a2 sh st xs (k + 1 + j + 1)), ?_⟩
  have : allS b0 b1 b2 a1 a2 sh st xs (k + 1 + m) = allS b0 b1 b2 a1 a2 sh st xs (k + 1) ++ (List.range m).map fun j => (soAt b0 b1 b2 a1 a2 sh st xs (k + 1 + j), ssAt b0 b1 b2 a1 a2 sh st xs (k + 1 + j + 1)) := by
    simp [allS, List.range_add]
  rw [this, allS_succ]
  simp
def okX (s : XS) : Prop := bd15 s.1 ∧ bd15 s.2.1 ∧ bd15 s.2.2.1 ∧ bd15 s.2.2.2
theorem ssAt_ok {b0 b1 b2 a1 a2 sh : Int} {st : XS} {xs : List Int} (hs : okX st) (hx : inB 32767 xs) : ∀ k, okX (ssAt b0 b1 b2 a1 a2 sh st xs k)
  | 0 => hs
  | k + 1 => by
    have h := ssAt_ok (b0 := b0) (b1 := b1) (b2 := b2) (a1 := a1) (a2 := a2) (sh := sh) hs hx k
    exact ⟨inB_get hx (by omega) k, h.1, limF_bd _, h.2.2.1⟩
/-- what the iterator hands to the loop. -/
def encO (x : Int × XS) : Array Value := #[(.int .i64 (x.1)), .agg #[(.int .i64 (x.2.1)), (.int .i64 (x.2.2.1)), (.int .i64 (x.2.2.2.1)), (.int .i64 (x.2.2.2.2))]]
theorem outputs_any (b0 b1 b2 a1 a2 sh x1 x2 y1 y2 : Int) (A : Option Addr) (n c : Nat) (w : World) :
    Calls Tryd.prog 49 #[.agg #[(.int .i64 (b0)), (.int .i64 (b1)), (.int .i64 (b2)), (.int .i64 (a1)), (.int .i64 (a2)), (.int .i64 (sh))], .agg #[(.int .i64 (x1)), (.int .i64 (x2)), (.int .i64 (y1)), (.int .i64 (y2))], .slice A n c] w fun e w' => e = .returned (.func (.func 59) #[] #[.pointer (some ⟨w.heap.size + 1, 0, none⟩), .pointer (some ⟨w.heap.size + 1 + 1, 0, none⟩), .pointer (some ⟨w.heap.size, 0, none⟩)]) ∧
      Below w.heap.size w w' ∧ Blk w' w.heap.size #[(.int .i64 (b0)), (.int .i64 (b1)), (.int .i64 (b2)), (.int .i64 (a1)), (.int .i64 (a2)), (.int .i64 (sh))] ∧ Blk w' (w.heap.size + 1) #[(.int .i64 (x1)), (.int .i64 (x2)), (.int .i64 (y1)), (.int .i64 (y2))] ∧ Blk w' (w.heap.size + 1 + 1) #[.slice A n c] := by
  go_enter Tryd.func49, Tryd.ntmps49
  go_wp2
  go_ret
  exact ⟨by first | rfl | (simp; done), by (repeat (first | (with_reducible exact Below.refl _ _) | ((with_reducible refine Below.setCell ?_ ?_ _); rotate_left 1; focus (first | (simp; done) | (simp; omega) | (simp at *; omega))) | ((with_reducible refine Below.alloc ?_ ?_ _); rotate_left 1; focus (first | (simp; done) | (simp; omega) | (simp at *; omega))) | (with_reducible refine Below.drew ?_) | ((with_reducible refine Calm.step (by assumption) ?_ ?_); rotate_left 1; focus (first | (simp; done) | (simp; omega) | (simp at *; omega))))), by (repeat (first | ((with_reducible refine Blk.at_ ?_); focus (first | rfl | (simp; done) | (simp; omega))) | (with_reducible refine Blk.alloc ?_ _) | (with_reducible refine Blk.below ?_ (by with_reducible assumption)) | (with_reducible refine Blk.drew ?_))), by (repeat (first | ((with_reducible refine Blk.at_ ?_); focus (first | rfl | (simp; done) | (simp; omega))) | (with_reducible refine Blk.alloc ?_ _) | (with_reducible refine Blk.below ?_ (by with_reducible assumption)) | (with_reducible refine Blk.drew ?_))), by (repeat (first | ((with_reducible refine Blk.at_ ?_); focus (first | rfl | (simp; done) | (simp; omega))) | (with_reducible refine Blk.alloc ?_ _) | (with_reducible refine Blk.below ?_ (by with_reducible assumption)) | (with_reducible refine Blk.drew ?_)))⟩
def blks (a b c d : Nat) (k : Nat) : Prop := k = a ∨ k = b ∨ k = c ∨ k = d

set_option maxRecDepth 100000 in
set_option maxHeartbeats 4000000 in
theorem outputs1_iter (b0 b1 b2 a1 a2 sh x1 x2 y1 y2 : Int) (xs : List Int) (Sb Xb Lb Db : Nat) (A : Option Addr) (c : Nat) (w : World) (n : Nat) (h0 : bd15 b0) (h1 : bd15 b1) (h2 : bd15 b2) (h3 : bd15 a1) (h4 : bd15 a2) (h5 : 0 ≤ sh ∧ sh ≤ 15)
    (hst : okX (x1, x2, y1, y2)) (hx : inB 32767 xs) (hn : xs.length ≤ 5000) (hS : Blk w Sb #[(.int .i64 (b0)), (.int .i64 (b1)), (.int .i64 (b2)), (.int .i64 (a1)), (.int .i64 (a2)), (.int .i64 (sh))]) (hX : Blk w Xb #[(.int .i64 (x1)), (.int .i64 (x2)), (.int .i64 (y1)), (.int .i64 (y2))]) (hL : Blk w Lb #[.slice A xs.length c]) (hC : Cells w A xs) (hD : 0 < xs.length → ∃ o, A = some ⟨Db, o, none⟩) :
    IterM Fence.wide n Tryd.prog 59 #[.pointer (some ⟨Xb, 0, none⟩), .pointer (some ⟨Lb, 0, none⟩), .pointer (some ⟨Sb, 0, none⟩)] encO (allS b0 b1 b2 a1 a2 sh (x1, x2, y1, y2) xs xs.length) (blks Sb Xb Lb Db) w := by
  intro l J W hCW hCl hle hJb hJs hY h00
  have KS := Calm.Blk.of_block hS (hCW _ (.inl rfl))
  have KX := Calm.Blk.of_block hX (hCW _ (.inr (.inl rfl)))
  have KL := Calm.Blk.of_block hL (hCW _ (.inr (.inr (.inl rfl))))
  have lS : Sb < W.heap.size := Nat.lt_of_lt_of_le hS.lt hle
  have lX : Xb < W.heap.size := Nat.lt_of_lt_of_le hX.lt hle
  have lL : Lb < W.heap.size := Nat.lt_of_lt_of_le hL.lt hle
  have lD : Db < W.heap.size := Nat.lt_of_lt_of_le (hCl Db (.inr (.inr (.inr rfl)))) hle
  have HCD : Hid (∀ (W' : World) (k : Nat), (∀ j, blks Sb Xb Lb Db j → W'.heap[j]? = w.heap[j]?) → k < xs.length → ∃ o, A = some ⟨Db, o, none⟩ ∧ W'.cell? ⟨Db, o + k, none⟩ = some (.int .i64 (xs.getD k 0))) := Lib.hid (fun W' k hW hk => by
    obtain ⟨o, hA⟩ := hD (by omega)
    obtain ⟨b, off, hA2, hl, hc⟩ := hC (by omega)
    rw [hA] at hA2
    cases hA2
    exact ⟨o, hA, (World.cell?_of_block (w := w) (a := ⟨Db, o + k, none⟩) (hW Db (.inr (.inr (.inr rfl))))).trans (hc k hk)⟩)
  have HCW := Lib.hid hCW
  have HJB := Lib.hid hJb
  have HJS := Lib.hid hJs
  have HSS := Lib.hid hS
  have HOK := Lib.hid (ssAt_ok (b0 := b0) (b1 := b1) (b2 := b2) (a1 := a1) (a2 := a2) (sh := sh) hst hx)
  have HXI := Lib.hid (fun k => inB_get hx (by omega) k)
  have HST : Hid (∀ (k : Nat) (W' : World), Calls Tryd.prog 60 #[.agg #[(.int .i64 (b0)), (.int .i64 (b1)), (.int .i64 (b2)), (.int .i64 (a1)), (.int .i64 (a2)), (.int .i64 (sh))], .agg #[(.int .i64 ((ssAt b0 b1 b2 a1 a2 sh (x1, x2, y1, y2) xs k).1)), (.int .i64 ((ssAt b0 b1 b2 a1 a2 sh (x1, x2, y1, y2) xs k).2.1)), (.int .i64 ((ssAt b0 b1 b2 a1 a2 sh (x1, x2, y1, y2) xs k).2.2.1)), (.int .i64 ((ssAt b0 b1 b2 a1 a2 sh (x1, x2, y1, y2) xs k).2.2.2))], (.int .i64 (xs.getD k 0))] W' fun r w' =>
      r = .returned (.tuple #[(.int .i64 (soAt b0 b1 b2 a1 a2 sh (x1, x2, y1, y2) xs k)), .agg #[(.int .i64 ((ssAt b0 b1 b2 a1 a2 sh (x1, x2, y1, y2) xs (k + 1)).1)), (.int .i64 ((ssAt b0 b1 b2 a1 a2 sh (x1, x2, y1, y2) xs (k + 1)).2.1)), (.int .i64 ((ssAt b0 b1 b2 a1 a2 sh (x1, x2, y1, y2) xs (k + 1)).2.2.1)), (.int .i64 ((ssAt b0 b1 b2 a1 a2 sh (x1, x2, y1, y2) xs (k + 1)).2.2.2))]]) ∧ Below W'.heap.size W' w') :=
    Lib.hid (fun k W' => by
      obtain ⟨q1, q2, q3, q4⟩ := HOK.out k
      exact sStep_any b0 b1 b2 a1 a2 sh _ _ _ _ _ W' h0 h1 h2 h3 h4 h5 q1 q2 q3 q4 (HXI.out k))
  have HAS := Lib.hid (fun k => allS_succ b0 b1 b2 a1 a2 sh (x1, x2, y1, y2) xs k)
  have HAP := Lib.hid (fun k (hk : k < xs.length) => allS_post b0 b1 b2 a1 a2 sh (x1, x2, y1, y2) xs hk)
  obtain ⟨N, hN⟩ : ∃ N, N = xs.length := ⟨_, rfl⟩
  rw [← hN] at KL hY HCD HAP hn ⊢
  have HY := Lib.hid hY
  obtain ⟨Z, hZ⟩ : ∃ Z : Nat → XS, Z = ssAt b0 b1 b2 a1 a2 sh (x1, x2, y1, y2) xs := ⟨_, rfl⟩
  have HZ0 : Hid (Z 0 = (x1, x2, y1, y2)) := Lib.hid (by rw [hZ]; rfl)
  rw [← hZ] at HST HAS HAP
  obtain ⟨x00, x01, x02, xl, xf, xff⟩ := KX.o4
  obtain ⟨l00, ll, lf⟩ := KL.o1
  have HKS := Lib.hid KS
  clear hCW hJb hJs hS hX hL hC hD hst hx hN hY hZ h0 h1 h2 h3 h4 h5 KS KX KL
  refine callsIn_of_wp Tryd.func59 rfl trivial ?_ rfl
  simp only [Tryd.ntmps59, List.size_toArray, List.length_cons, List.length_nil, Nat.reduceAdd, Nat.reduceSub, Array.replicate_succ, Array.replicate_zero, List.push_toArray, List.append_toArray, List.nil_append, List.cons_append]
  gi_wp2
  gi_loopw [13] (fun i wr => ∃ k : Nat, k ≤ N ∧ i = (.int .i64 ((k : Int))) ∧ Blk wr W.heap.size #[(.int .i64 ((Z k).1)), (.int .i64 ((Z k).2.1)), (.int .i64 ((Z k).2.2.1)), (.int .i64 ((Z k).2.2.2))] ∧ J (allS b0 b1 b2 a1 a2 sh (x1, x2, y1, y2) xs k) wr ∧ ∀ j, blks Sb Xb Lb Db j → wr.heap[j]? = w.heap[j]?) (fun i _ => N - (intOf i).toNat)
  case atStart =>
    exact ⟨0, Nat.zero_le _, rfl, by rw [HZ0.out]; exact Blk.new _ _ _, HJB.out _ _ _ h00 ((Below.refl _ _).alloc (Nat.le_refl _) _), fun j hj => (Below.heap_alloc _ _ _ (by rcases hj with rfl | rfl | rfl | rfl <;> assumption)).trans (HCW.out j hj)⟩
  case round =>
    obtain ⟨k, hk, rfl, K1, hJ1, hC1⟩ := hrel
    have KSr := Calm.Blk.of_block HSS.out (hC1 _ (.inl rfl))
    have hlw : W.heap.size < wr.heap.size := K1.lt
    clear x00 x01 x02 xl xf xff l00 ll lf
    by_cases hk2 : k < N
    · obtain ⟨o, rfl, hin⟩ := HCD.out wr k hC1 hk2
      obtain ⟨s0, s1, s2, s3, s4, s5, sl, sf⟩ := KSr.o6
      obtain ⟨d0, d1, d2, d3, dl, df⟩ := K1.o4
      have HS1 := HST.out k
      obtain ⟨X, hX⟩ : ∃ X, X = xs.getD k 0 := ⟨_, rfl⟩
      obtain ⟨O, hO⟩ : ∃ O, O = soAt b0 b1 b2 a1 a2 sh (x1, x2, y1, y2) xs k := ⟨_, rfl⟩
      have HA1 := Lib.hid (HAS.out k)
      have HP1 := HAP.out k hk2
      rw [← hX] at hin HS1
      rw [← hO] at HS1 HA1 HP1
      have HSS1 := Lib.hid HS1
      have HK1 := Lib.hid K1
      have HJ1 := Lib.hid hJ1
      have HC1 := Lib.hid hC1
      have HPP := Lib.hid HP1
      clear KSr hX hO HS1 K1 hJ1 hC1 HP1
      gi_wp2_with fail
      refine ⟨trivial, fun h => by simp [Fence.wide] at h, ?_⟩
      refine (callsIn_wide.2 (HSS1.out _)).mono ?_
      rintro r w2 ⟨rfl, hb2⟩
      refine Hid.out ?_
      have hs2 := hb2.size
      have K2 := HK1.out.below hb2
      have hC2 : ∀ j, blks Sb Xb Lb Db j → w2.heap[j]? = w.heap[j]? := fun j hj => (hb2.block j (by have : j < W.heap.size := (by rcases hj with rfl | rfl | rfl | rfl <;> assumption); omega)).trans (HC1.out j hj)
      have hJ2 := HJB.out _ _ _ HJ1.out hb2
      obtain ⟨W4, hW4⟩ : ∃ W4, W4 = (((((w2.setCell ⟨W.heap.size, 0, none⟩ (.int .i64 ((Z (k + 1)).1))).setCell ⟨W.heap.size, 1, none⟩ (.int .i64 ((Z (k + 1)).2.1))).setCell ⟨W.heap.size, 2, none⟩ (.int .i64 ((Z (k + 1)).2.2.1))).setCell ⟨W.heap.size, 3, none⟩ (.int .i64 ((Z (k + 1)).2.2.2))).alloc (.cells #[(.int .i64 ((Z (k + 1)).1)), (.int .i64 ((Z (k + 1)).2.1)), (.int .i64 ((Z (k + 1)).2.2.1)), (.int .i64 ((Z (k + 1)).2.2.2))] 61)) := ⟨_, rfl⟩
      have hC4 : ∀ j, blks Sb Xb Lb Db j → W4.heap[j]? = w.heap[j]? := fun j hj => by
        have hjl : j < W.heap.size := (by rcases hj with rfl | rfl | rfl | rfl <;> assumption)
        rw [hW4, Below.heap_alloc _ _ _ (by simp; omega), Below.heap_setCell _ _ _ _ (by simp; omega), Below.heap_setCell _ _ _ _ (by simp; omega), Below.heap_setCell _ _ _ _ (by simp; omega), Below.heap_setCell _ _ _ _ (by simp; omega)]
        exact hC2 j hj
      have hJ4 : J (allS b0 b1 b2 a1 a2 sh (x1, x2, y1, y2) xs k) W4 := by
        rw [hW4]
        exact HJB.out _ _ _ (HJS.out _ _ _ _ (HJS.out _ _ _ _ (HJS.out _ _ _ _ (HJS.out _ _ _ _ hJ2)))) ((Below.refl _ _).alloc (Nat.le_refl _) _)
      have hl4 : W.heap.size < W4.heap.size := by rw [hW4]; simp; omega
      have K4 : Blk W4 W.heap.size #[(.int .i64 ((Z (k + 1)).1)), (.int .i64 ((Z (k + 1)).2.1)), (.int .i64 ((Z (k + 1)).2.2.1)), (.int .i64 ((Z (k + 1)).2.2.2))] := by
        rw [hW4]
        exact ((((K2.set (i := 0) (by simp) _).set (i := 1) (by simp) _).set (i := 2) (by simp) _).set (i := 3) (by simp) _).alloc _
      obtain ⟨fn, tmps, assign, body, hy, hR⟩ := HY.out _ (O, Z (k + 1)) W4 hJ4 hl4 hC4 HPP.out
      dsimp only [encO] at hy
      rw [hW4] at hy
      obtain ⟨e0, e1, e2, e3, el, ef⟩ := K2.o4
      have HK4 := Lib.hid K4
      have HW4 := Lib.hid hW4
      have HR := Lib.hid hR
      have HC4 := Lib.hid hC4
      have ne1 : ¬ w2.heap.size = W.heap.size := by omega
      have ne2 : ¬ W.heap.size = w2.heap.size := by omega
      clear hb2 K2 hC2 hJ2 hC4 hJ4 K4 hW4 hR d0 d1 d2 d3 dl df s0 s1 s2 s3 s4 s5 sl sf hin
      unfold Hid
      gi_wp2
      rw [← HW4.out]
      refine ⟨fun h => by simp [Fence.wide] at h, HR.out.mono ?_⟩
      rintro e W5 ⟨rfl, hJ5, hD5, hC5⟩
      have K5 := Calm.Blk.of_block HK4.out hD5
      have hC6 : ∀ j, blks Sb Xb Lb Db j → W5.heap[j]? = w.heap[j]? := fun j hj => (hC5 j hj).trans (HC4.out j hj)
      have HK5 := Lib.hid K5
      have HC6 := Lib.hid hC6
      have HJ5 := Lib.hid hJ5
      clear hJ5 hD5 hC5 K5 hC6 HW4 hy HR e0 e1 e2 e3 el ef
      gi_wp2
      go_roundw
      case rel => exact ⟨k + 1, by omega, by go_num, HK5.out, by rw [HA1.out]; exact HJ5.out, HC6.out⟩
      case measure => simp [intOf]; omega
    · obtain rfl : k = N := by omega
      clear KSr
      gi_wp2
      go_end0
      exact ⟨⟨_, rfl⟩, hJ1⟩
end Go.Proofs.YtleemphfkhbhaaaDoor
