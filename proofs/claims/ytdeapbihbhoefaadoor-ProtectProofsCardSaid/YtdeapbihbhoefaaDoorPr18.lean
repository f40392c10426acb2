/- Part 18 of the texts of the claim: V1, Kc, StR. -/
import Derived.Test.YtdeapbihbhoefaaDoorPr11
import Derived.Test.YtdeapbihbhoefaaDoorPr17
import Derived.Test.YtdeapbihbhoefaaDoorPr8
import Derived.Test.YtdeapbihbhoefaaDoorPr9
import Derived.Test.YtdeapbihbhoefaaDoorPr10
import Derived.Laws.Rows

/- What a search for the loudest signal finds: plain laws. No walk. -/
namespace Go.Proofs.YtdeapbihbhoefaaDoor
open Go.RowKit

/-- outputs out of some levels that keep all limits, from a heat and some last outputs on. -/
def PathF (lk ht rc : Int) (ts ls : List Int) : Int → List Int → List Int → Prop
  | _, _, [] => True
  | h, ps, y :: ys => y ∈ ls ∧ fineF ht rc (coolF lk h + y * y) (exF ts ps y) ts (pushL ps y) = true ∧ PathF lk ht rc ts ls (coolF lk h + y * y) (pushL ps y) ys
/-- a list is found, of an energy that is at least this one. -/
def GeE (o : Option (List Int)) (e : Int) : Prop := ∃ r, o = some r ∧ e ≤ enF r
theorem GeE.mono {o : Option (List Int)} {e e' : Int} (h : GeE o e) (he : e' ≤ e) : GeE o e' := by
  obtain ⟨r, h1, h2⟩ := h
  exact ⟨r, h1, by omega⟩
theorem updB_ge (b : Option (List Int)) (l : List Int) : GeE (updB b l) (enF l) ∧ ∀ e, GeE b e → GeE (updB b l) e := by
  unfold updB
  cases b with
  | none => exact ⟨⟨l, rfl, Int.le_refl _⟩, fun e ⟨r, h, _⟩ => by cases h⟩
  | some b' =>
    dsimp only
    split
    · rename_i h
      refine ⟨⟨l, rfl, Int.le_refl _⟩, fun e ⟨r, h1, h2⟩ => ⟨l, rfl, ?_⟩⟩
      cases h1
      omega
    · rename_i h
      exact ⟨⟨b', rfl, by omega⟩, fun e h1 => h1⟩
theorem keptK_mem {lk ht rc : Int} {ts : List Int} {s : St} {ls : List Int} : ∀ (k j : Nat), j < k → keepB lk ht rc ts s (ls.getD j 0) = true → (ls.getD j 0, nextF lk s (ls.getD j 0)) ∈ keptK lk ht rc ts s ls k
  | 0, j, h, _ => by omega
  | k + 1, j, h, hk => by
    rcases Nat.lt_or_ge j k with h1 | h1
    · simp only [keptK, List.mem_append]
      exact .inl (keptK_mem k j h1 hk)
    · obtain rfl : j = k := by omega
      rw [keptK_true hk]
      simp
theorem keptK_all {lk ht rc : Int} {ts : List Int} {s : St} {ls : List Int} {y : Int} (h : y ∈ ls) (hk : keepB lk ht rc ts s y = true) : (y, nextF lk s y) ∈ keptK lk ht rc ts s ls ls.length := by
  obtain ⟨j, hj, rfl⟩ := List.mem_iff_getElem.1 h
  have e : ls.getD j 0 = ls[j] := by rw [List.getD_eq_getElem?_getD, List.getElem?_eq_getElem hj]; rfl
  rw [← e] at hk ⊢
  exact keptK_mem _ j hj hk
theorem keptK_in {lk ht rc : Int} {ts : List Int} {s : St} {ls : List Int} : ∀ (k : Nat), k ≤ ls.length → ∀ x ∈ keptK lk ht rc ts s ls k, x.1 ∈ ls ∧ x.2 = nextF lk s x.1 ∧ keepB lk ht rc ts s x.1 = true
  | 0, _, x, hx => by simp [keptK] at hx
  | k + 1, hk, x, hx => by
    simp only [keptK, List.mem_append] at hx
    rcases hx with hx | hx
    · exact keptK_in k (by omega) x hx
    · split at hx
      · rename_i h0
        obtain rfl : x = _ := by simpa using hx
        refine ⟨?_, rfl, h0⟩
        show ls.getD k 0 ∈ ls
        rw [List.getD_eq_getElem?_getD, List.getElem?_eq_getElem (by omega)]
        exact List.getElem_mem _
      · cases hx
theorem fold_ge {α : Type} (f : Option (List Int) → α → Option (List Int)) (h : ∀ b x e, GeE b e → GeE (f b x) e) : ∀ (L : List α) (b : Option (List Int)) (e : Int), GeE b e → GeE (L.foldl f b) e
  | [], _, _, hb => hb
  | x :: L, b, e, hb => fold_ge f h L (f b x) e (h b x e hb)
theorem fold_in {α : Type} (f : Option (List Int) → α → Option (List Int)) (h : ∀ b x e, GeE b e → GeE (f b x) e) {x : α} {e : Int} (hx : ∀ b, GeE (f b x) e) : ∀ (L : List α) (b : Option (List Int)), x ∈ L → GeE (L.foldl f b) e
  | [], _, hm => by cases hm
  | a :: L, b, hm => by
    rcases List.mem_cons.1 hm with rfl | hm
    · exact fold_ge f h L _ e (hx b)
    · exact fold_in f h hx L (f b a) hm
theorem vis_ge (lk ht rc : Int) (ts ls : List Int) : ∀ (n : Nat) (l : List Int) (s : St) (b : Option (List Int)) (e : Int), GeE b e → GeE (visF lk ht rc ts ls n l s b) e
  | 0, l, s, b, e, h => (updB_ge b l).2 e h
  | n + 1, l, s, b, e, h => fold_ge _ (fun b x e hb => vis_ge lk ht rc ts ls n _ _ b e hb) _ b e h
theorem vis_path (lk ht rc : Int) (ts ls : List Int) : ∀ (ys : List Int) (l : List Int) (s : St) (b : Option (List Int)), PathF lk ht rc ts ls s.h s.ps ys → GeE (visF lk ht rc ts ls ys.length l s b) (enF (l ++ ys))
  | [], l, s, b, _ => by rw [List.append_nil]; exact (updB_ge b l).1
  | y :: ys, l, s, b, h => by
    obtain ⟨h1, h2, h3⟩ := h
    refine fold_in _ (fun b x e hb => vis_ge lk ht rc ts ls ys.length _ _ b e hb) (x := (y, nextF lk s y)) (fun b => ?_) _ b (keptK_all h1 h2)
    have := vis_path lk ht rc ts ls ys (l ++ [y]) (nextF lk s y) b h3
    rw [List.append_assoc] at this
    exact this
/-- what is found is what was best, or a list of levels that keeps all limits. -/
theorem vis_sound (lk ht rc : Int) (ts ls : List Int) (P : List Int → Prop) : ∀ (n : Nat) (l : List Int) (s : St) (b : Option (List Int)), (∀ ys, PathF lk ht rc ts ls s.h s.ps ys → ys.length = n → P (l ++ ys)) → (∀ r, b = some r → P r) → ∀ r, visF lk ht rc ts ls n l s b = some r → P r
  | 0, l, s, b, hp, hb, r, hr => by
    have h0 := hp [] trivial rfl
    rw [List.append_nil] at h0
    simp only [visF, updB] at hr
    cases b with
    | none => cases hr; exact h0
    | some b' =>
      dsimp only at hr
      split at hr
      · cases hr; exact h0
      · exact hb _ hr
  | n + 1, l, s, b, hp, hb, r, hr => by
    have key : ∀ (L : List (Int × St)), (∀ x ∈ L, x.1 ∈ ls ∧ x.2 = nextF lk s x.1 ∧ keepB lk ht rc ts s x.1 = true) → ∀ b, (∀ r, b = some r → P r) → ∀ r, L.foldl (fun b x => visF lk ht rc ts ls n (l ++ [x.1]) x.2 b) b = some r → P r := by
      intro L
      induction L with
      | nil => exact fun _ b hb r hr => hb r hr
      | cons a L ih =>
        intro hL b hb r hr
        obtain ⟨a1, a2, a3⟩ := hL a (by simp)
        refine ih (fun x hx => hL x (by simp [hx])) _ (fun r' hr' => ?_) r hr
        refine vis_sound lk ht rc ts ls P n (l ++ [a.1]) a.2 b (fun ys hys hn => ?_) hb r' hr'
        rw [List.append_assoc]
        refine hp (a.1 :: ys) ⟨a1, a3, ?_⟩ (by simp [hn])
        rw [a2] at hys
        exact hys
    exact key _ (keptK_in _ (Nat.le_refl _)) b hb r hr
theorem loud_sound {lk ht rc : Int} {ts gs ls : List Int} {n : Nat} {r : List Int} (h : loudF lk ht rc ts gs ls n = some r) : PathF lk ht rc ts ls 0 (List.replicate (ts.length - 1) 0) r ∧ r.length = n :=
  vis_sound lk ht rc ts ls (fun r => PathF lk ht rc ts ls 0 (List.replicate (ts.length - 1) 0) r ∧ r.length = n) n [] (restS ts gs) none (fun ys h1 h2 => ⟨h1, h2⟩) (fun r h => by cases h) r h
theorem loud_ge {lk ht rc : Int} {ts gs ls ys : List Int} (h : PathF lk ht rc ts ls 0 (List.replicate (ts.length - 1) 0) ys) : ∃ r, loudF lk ht rc ts gs ls ys.length = some r ∧ enF ys ≤ enF r := by
  have := vis_path lk ht rc ts ls ys [] (restS ts gs) none h
  rw [List.nil_append] at this
  exact this
theorem path_in {lk ht rc : Int} {ts ls : List Int} : ∀ {ys : List Int} {h : Int} {ps : List Int}, PathF lk ht rc ts ls h ps ys → ∀ y ∈ ys, y ∈ ls
  | [], _, _, _, y, hy => by cases hy
  | a :: ys, h, ps, ⟨h1, _, h3⟩, y, hy => by
    rcases List.mem_cons.1 hy with rfl | hy
    · exact h1
    · exact path_in h3 y hy
/-- a path, behind its first outputs. -/
theorem path_drop {lk ht rc : Int} {ts ls ys : List Int} (h : PathF lk ht rc ts ls 0 (List.replicate (ts.length - 1) 0) ys) : ∀ k, k ≤ ys.length → PathF lk ht rc ts ls (bhAt lk ys k) (bpAt (ts.length - 1) ys k) (ys.drop k)
  | 0, _ => h
  | k + 1, hk => by
    have ih := path_drop h k (by omega)
    rw [List.drop_eq_getElem_cons (by omega)] at ih
    have e : ys.getD k 0 = ys[k] := by rw [List.getD_eq_getElem?_getD, List.getElem?_eq_getElem (by omega)]; rfl
    simp only [bhAt, bpAt]
    rw [e]
    exact ih.2.2
theorem path_safe {lk ht rc : Int} {ts ls ys : List Int} (h : PathF lk ht rc ts ls 0 (List.replicate (ts.length - 1) 0) ys) {k : Nat} (hk : k < ys.length) : bhAt lk ys (k + 1) ≤ ht ∧ absI (exAt ts ys k) ≤ rc := by
  have ih := path_drop h k (by omega)
  rw [List.drop_eq_getElem_cons hk] at ih
  have e : ys.getD k 0 = ys[k] := by rw [List.getD_eq_getElem?_getD, List.getElem?_eq_getElem hk]; rfl
  obtain ⟨h1, h2, _⟩ := fineF_true ih.2.1
  unfold exAt
  simp only [bhAt]
  rw [e]
  exact ⟨h1, h2⟩
/-- the outputs of a run are a path, if they are levels. -/
theorem outs_path {lk ht rc : Int} {ts gs xs ls : List Int} (hV : Valid lk ht rc ts gs) (hx : inB 2048 xs) {n : Nat} (hl : ∀ k, k < n → outAt lk ht rc ts gs xs k ∈ ls) : ∀ m k, k + m = n → PathF lk ht rc ts ls (stAt lk ht rc ts gs xs k).h (stAt lk ht rc ts gs xs k).ps ((List.range' k m).map (outAt lk ht rc ts gs xs))
  | 0, _, _ => trivial
  | m + 1, k, hk => by
    rw [List.range'_succ, List.map_cons]
    have h1 := stepK_lt (lvF_some hV (good_at hV hx k) (xs.getD k 0))
    exact ⟨hl k (by omega), h1.2, outs_path hV hx hl m (k + 1) (by omega)⟩
theorem outs_path0 {lk ht rc : Int} {ts gs xs ls : List Int} (hV : Valid lk ht rc ts gs) (hx : inB 2048 xs) {n : Nat} (hl : ∀ k, k < n → outAt lk ht rc ts gs xs k ∈ ls) : PathF lk ht rc ts ls 0 (List.replicate (ts.length - 1) 0) (outsK lk ht rc ts gs xs n) := by
  have := outs_path hV hx hl n 0 (by omega)
  rw [← List.range_eq_range'] at this
  exact this

/-! ### Levels -/

/-- how many of the first numbers are less. -/
def lessK (l : List Int) (x : Int) : Nat := (l.takeWhile fun y => decide (y < x)).length
/-- a number, laid into its place among rising numbers, if it is not there. -/
def insF (l : List Int) (x : Int) : List Int := if l[lessK l x]? = some x then l else l.take (lessK l x) ++ x :: l.drop (lessK l x)
def lvlK (xs : List Int) : Nat → List Int
  | 0 => [0]
  | k + 1 => insF (lvlK xs k) (xs.getD k 0)
def Rising (l : List Int) : Prop := l.Pairwise (· < ·)
theorem lessK_le (l : List Int) (x : Int) : lessK l x ≤ l.length := by
  unfold lessK
  exact (List.takeWhile_sublist _).length_le
theorem less_lt {x : Int} : ∀ {l : List Int} {j : Nat}, j < lessK l x → l.getD j 0 < x
  | [], j, h => by simp [lessK] at h
  | a :: l, j, h => by
    unfold lessK at h
    rw [List.takeWhile_cons] at h
    split at h
    · rename_i ha
      cases j with
      | zero => simpa using ha
      | succ j => exact less_lt (l := l) (j := j) (by unfold lessK; simpa using h)
    · simp at h
theorem less_ge {x : Int} : ∀ {l : List Int}, lessK l x < l.length → ¬ l.getD (lessK l x) 0 < x
  | [], h => by simp at h
  | a :: l, h => by
    by_cases ha : a < x
    · have e : lessK (a :: l) x = lessK l x + 1 := by unfold lessK; rw [List.takeWhile_cons, if_pos (by simpa using ha)]; rfl
      rw [e] at h ⊢
      exact less_ge (l := l) (by simpa using h)
    · have e : lessK (a :: l) x = 0 := by unfold lessK; rw [List.takeWhile_cons, if_neg (by simpa using ha)]; rfl
      rw [e]
      simpa using ha
theorem lessK_eq {l : List Int} {x : Int} {k : Nat} (h1 : ∀ j, j < k → l.getD j 0 < x) (hk : k ≤ l.length) (h2 : k < l.length → ¬ l.getD k 0 < x) : lessK l x = k := by
  rcases Nat.lt_trichotomy (lessK l x) k with h | h | h
  · exact absurd (h1 _ h) (less_ge (by omega))
  · exact h
  · exact absurd (less_lt h) (h2 (by have := lessK_le l x; omega))
theorem insF_mem {l : List Int} {x y : Int} : y ∈ insF l x ↔ y = x ∨ y ∈ l := by
  unfold insF
  split
  · rename_i h
    refine ⟨.inr, fun h' => ?_⟩
    rcases h' with rfl | h'
    · exact List.mem_of_getElem? h
    · exact h'
  · have e : y ∈ l ↔ y ∈ l.take (lessK l x) ∨ y ∈ l.drop (lessK l x) := by
      rw [← List.mem_append, List.take_append_drop]
    rw [List.mem_append, List.mem_cons, e]
    constructor
    · rintro (h | h | h)
      · exact .inr (.inl h)
      · exact .inl h
      · exact .inr (.inr h)
    · rintro (h | h | h)
      · exact .inr (.inl h)
      · exact .inl h
      · exact .inr (.inr h)
theorem insF_len (l : List Int) (x : Int) : (insF l x).length ≤ l.length + 1 ∧ l.length ≤ (insF l x).length := by
  unfold insF
  split
  · omega
  · have := lessK_le l x
    simp
    omega
theorem insF_rising {l : List Int} {x : Int} (h : Rising l) : Rising (insF l x) := by
  unfold insF
  split
  · exact h
  · rename_i hne
    unfold Rising at h ⊢
    have hs := h
    rw [← List.take_append_drop (lessK l x) l, List.pairwise_append] at hs
    obtain ⟨p1, p2, p3⟩ := hs
    rw [List.pairwise_append, List.pairwise_cons]
    have hlow : ∀ a ∈ l.take (lessK l x), a < x := fun a ha => by
      obtain ⟨j, hj, rfl⟩ := List.mem_iff_getElem.1 ha
      rw [List.length_take] at hj
      have := less_lt (l := l) (x := x) (j := j) (by omega)
      rw [List.getD_eq_getElem?_getD, List.getElem?_eq_getElem (by omega)] at this
      simpa using this
    have hhigh : ∀ a ∈ l.drop (lessK l x), x < a := fun a ha => by
      have hlt : lessK l x < l.length := by
        rcases Nat.lt_or_ge (lessK l x) l.length with h | h
        · exact h
        · rw [List.drop_eq_nil_of_le h] at ha; cases ha
      have h0 := less_ge hlt
      rw [List.getD_eq_getElem?_getD, List.getElem?_eq_getElem hlt] at h0
      rw [List.getElem?_eq_getElem hlt] at hne
      have h1 : x < l[lessK l x] := by
        have : l[lessK l x] ≠ x := fun e => hne (by rw [e])
        simp at h0
        omega
      rw [List.drop_eq_getElem_cons hlt] at ha p2
      rcases List.mem_cons.1 ha with rfl | ha
      · exact h1
      · have := (List.pairwise_cons.1 p2).1 a ha
        omega
    refine ⟨p1, ⟨hhigh, p2⟩, fun a ha b hb => ?_⟩
    rcases List.mem_cons.1 hb with rfl | hb
    · exact hlow a ha
    · exact p3 a ha b hb
theorem lvlK_rising (xs : List Int) : ∀ k, Rising (lvlK xs k)
  | 0 => by simp [lvlK, Rising]
  | k + 1 => insF_rising (lvlK_rising xs k)
theorem lvlK_mem (xs : List Int) : ∀ k y, y ∈ lvlK xs k ↔ y = 0 ∨ ∃ j, j < k ∧ y = xs.getD j 0
  | 0, y => by simp [lvlK]
  | k + 1, y => by
    simp only [lvlK]
    rw [insF_mem, lvlK_mem xs k y]
    constructor
    · rintro (h | h | ⟨j, hj, h⟩)
      · exact .inr ⟨k, by omega, h⟩
      · exact .inl h
      · exact .inr ⟨j, by omega, h⟩
    · rintro (h | ⟨j, hj, h⟩)
      · exact .inr (.inl h)
      · rcases Nat.lt_or_ge j k with h1 | h1
        · exact .inr (.inr ⟨j, h1, h⟩)
        · obtain rfl : j = k := by omega
          exact .inl h
theorem lvlK_len (xs : List Int) : ∀ k, 1 ≤ (lvlK xs k).length ∧ (lvlK xs k).length ≤ k + 1
  | 0 => by simp [lvlK]
  | k + 1 => by
    have h1 := lvlK_len xs k
    have h2 := insF_len (lvlK xs k) (xs.getD k 0)
    simp only [lvlK]
    omega
theorem lvlK_in {xs : List Int} (h : inB 2048 xs) (k : Nat) : inB 2048 (lvlK xs k) := by
  intro y hy
  rcases (lvlK_mem xs k y).1 hy with rfl | ⟨j, _, rfl⟩
  · omega
  · exact inB_get h (by omega) j
theorem rising_get {l : List Int} (h : Rising l) {i : Nat} (h0 : 0 < i) (hi : i < l.length) : l.getD (i - 1) 0 < l.getD i 0 := by
  have := List.pairwise_iff_getElem.1 h (i - 1) i (by omega) hi (by omega)
  rw [List.getD_eq_getElem?_getD, List.getD_eq_getElem?_getD, List.getElem?_eq_getElem (by omega), List.getElem?_eq_getElem hi]
  exact this
theorem asc_ok {l : List Int} (h : Rising l) (hb : inB 2048 l) : ascErr l (-2048) 2048 = 0 := by
  unfold ascErr
  refine firstOf_eq_zero.2 fun x hx => ?_
  obtain ⟨i, hi, rfl⟩ := List.mem_map.1 hx
  have hi' := List.mem_range.1 hi
  unfold ascAt
  have hr := inB_get hb (by omega) i
  refine firstOf_eq_zero.2 fun x hx => ?_
  rcases List.mem_cons.1 hx with rfl | hx
  · exact rangeErr_in hr.1 hr.2
  · obtain rfl := List.mem_singleton.1 hx
    refine if_neg fun ⟨h0, h1⟩ => ?_
    have := rising_get h h0 hi'
    omega
theorem some6 {n : Nat} (h : 1 ≤ n) (h2 : n ≤ 6) : someErr (n : Int) 6 = 0 := by
  have h1 : ¬ n = 0 := by omega
  have h3 : ¬ (6 : Int) < (n : Int) := by omega
  simp [someErr, firstOf, h1, h3]
theorem loud_noErr {lk ht rc : Int} {ts gs ls : List Int} {n : Nat} (hg : guardErr lk ht rc ts gs = 0) (h1 : 1 ≤ ls.length) (h2 : ls.length ≤ 6) (h3 : Rising ls) (h4 : inB 2048 ls) (hn : n ≤ 6) : loudErr lk ht rc ts gs ls n = 0 := by
  unfold loudErr
  rw [hg, some6 h1 h2, asc_ok h3 h4, rangeErr_in (by omega) (by omega)]
  rfl
/-- by the gains 0 and 16 an output is its input, or 0. -/
theorem mute_out {lk ht rc : Int} {ts xs : List Int} (hV : Valid lk ht rc ts [0, 16]) (hx : inB 2048 xs) (k : Nat) : outAt lk ht rc ts [0, 16] xs k = xs.getD k 0 ∨ outAt lk ht rc ts [0, 16] xs k = 0 := by
  have hk := (step_good hV (good_at hV hx k) (inB_get hx (by omega) k)).1.lv
  have e : outAt lk ht rc ts [0, 16] xs k = byF (xs.getD k 0) (([0, 16] : List Int).getD (lvAt lk ht rc ts [0, 16] xs k) 0) := rfl
  have hlt : lvAt lk ht rc ts [0, 16] xs k < 2 := hk
  rw [e]
  rcases (show lvAt lk ht rc ts [0, 16] xs k = 0 ∨ lvAt lk ht rc ts [0, 16] xs k = 1 by omega) with h | h
  · rw [h]
    refine .inr ?_
    show byF _ 0 = 0
    exact byF_zero _
  · rw [h]
    refine .inl ?_
    show byF _ 16 = _
    unfold byF
    rw [Int.mul_comm]
    exact Int.mul_tdiv_cancel_left _ (by decide)
end Go.Proofs.YtdeapbihbhoefaaDoor

/- The program's functions as contracts over what is known of their arguments, errors and all. -/
namespace Go.Proofs.YtdeapbihbhoefaaDoor
open Go.RowKit
open Calm (bcell Blk)

def begLv (E : Int) (L : Nat) : Int := if E = 0 then ((L - 1 : Nat) : Int) else 0
def begPs (E : Int) (M : Nat) : List Int := if E = 0 then List.replicate (M - 1) 0 else []
theorem cCheckGuard {lk ht rc : Int} {ts gs : List Int} {M L : Nat} {u : Value} {W : World} (hM : M = ts.length) (hL : L = gs.length) (h1 : M ≤ 1000) (h2 : L ≤ 1000) (hu : KG lk ht rc M ts L gs u W) :
    Calls Tryd.prog 20 #[u] W (KP (KV (.int .i64 (guardErr lk ht rc ts gs))) W) := by
  obtain ⟨A1, c1, A2, c2, rfl, hT, hG⟩ := hu
  subst hM hL
  exact (checkGuard_any lk ht rc ts gs A1 A2 c1 c2 W hT hG (by omega) (by omega)).mono fun e W' ⟨h, hb⟩ => ⟨_, h, rfl, hb⟩
theorem cCheckState {lk ht rc h lv : Int} {ts gs ps : List Int} {M L N : Nat} {u v : Value} {W : World} (hM : M = ts.length) (hL : L = gs.length) (hN : N = ps.length) (h1 : M ≤ 1000) (h2 : L ≤ 1000) (h3 : N ≤ 1000) (hu : KG lk ht rc M ts L gs u W) (hv : KT h lv N ps v W) :
    Calls Tryd.prog 21 #[u, v] W (KP (KV (.int .i64 (stErr lk ht rc ts gs h lv ps))) W) := by
  obtain ⟨A1, c1, A2, c2, rfl, hT, hG⟩ := hu
  obtain ⟨A3, c3, rfl, hP⟩ := hv
  exact (checkState_any lk ht rc h lv ts gs ps A1 A2 A3 M L N c1 c2 c3 W hM hL hN hT hG hP h1 h2 h3).mono fun e W' ⟨h, hb⟩ => ⟨_, h, rfl, hb⟩
theorem cBegin {lk ht rc : Int} {ts gs : List Int} {M L N : Nat} {u : Value} {W : World} (hM : M = ts.length) (hL : L = gs.length) (h1 : M ≤ 1000) (h2 : L ≤ 1000) (hu : KG lk ht rc M ts L gs u W) (hN : N = (begPs (guardErr lk ht rc ts gs) M).length) :
    Calls Tryd.prog 16 #[u] W (KP (K2 (KTI 0 (begLv (guardErr lk ht rc ts gs) L) N (begPs (guardErr lk ht rc ts gs) M)) (KV (.int .i64 (guardErr lk ht rc ts gs)))) W) := by
  obtain ⟨A1, c1, A2, c2, rfl, hT, hG⟩ := hu
  unfold begPs begLv at *
  by_cases he : guardErr lk ht rc ts gs = 0
  · rw [if_pos he] at hN ⊢
    rw [if_pos he, he]
    rw [List.length_replicate] at hN
    subst hN
    exact (Begin_ok lk ht rc ts gs A1 A2 M L c1 c2 W hM hL hT hG h1 h2 he).mono fun e W' ⟨⟨B, _, h, hc, hi⟩, hb⟩ => ⟨_, h, ⟨_, _, rfl, ⟨_, _, rfl, hc, fun p hp => by cases hp; exact hi⟩, rfl⟩, hb⟩
  · rw [if_neg he] at hN ⊢
    rw [if_neg he]
    subst hN
    exact (Begin_bad lk ht rc ts gs A1 A2 M L c1 c2 W hM hL hT hG h1 h2 he).mono fun e W' ⟨h, hb⟩ => ⟨_, h, ⟨_, _, rfl, KTI.zero _, rfl⟩, hb⟩
/-- what Behind hands back. -/
structure BehR where
  h : Int
  lv : Int
  ps : List Int
  ex : Int
  err : Int
def behR (lk ht rc : Int) (ts gs : List Int) (h lv : Int) (ps : List Int) (y : Int) : BehR :=
  if bothErr lk ht rc ts gs h lv ps y = 0 then (if 536870912 < coolF lk h + y * y then ⟨0, 0, [], 0, 4⟩ else ⟨coolF lk h + y * y, lv, pushL ps y, exF ts ps y, 0⟩) else ⟨0, 0, [], 0, bothErr lk ht rc ts gs h lv ps y⟩
theorem cBehind {lk ht rc h lv y : Int} {ts gs ps : List Int} {M L N N2 : Nat} {u v : Value} {W : World} (hM : M = ts.length) (hL : L = gs.length) (hN : N = ps.length) (h1 : M ≤ 1000) (h2 : L ≤ 1000) (h3 : N ≤ 1000) (hLim : Lim W) (hu : KG lk ht rc M ts L gs u W) (hv : KT h lv N ps v W)
    (hN2 : N2 = (behR lk ht rc ts gs h lv ps y).ps.length) :
    Calls Tryd.prog 28 #[u, v, (.int .i64 (y))] W (KP (K3 (KTI (behR lk ht rc ts gs h lv ps y).h (behR lk ht rc ts gs h lv ps y).lv N2 (behR lk ht rc ts gs h lv ps y).ps) (KV (.int .i64 ((behR lk ht rc ts gs h lv ps y).ex))) (KV (.int .i64 ((behR lk ht rc ts gs h lv ps y).err)))) W) := by
  obtain ⟨A1, c1, A2, c2, rfl, hT, hG⟩ := hu
  obtain ⟨A3, c3, rfl, hP⟩ := hv
  unfold behR at *
  by_cases he : bothErr lk ht rc ts gs h lv ps y = 0
  · rw [if_pos he] at hN2 ⊢
    by_cases hl : 536870912 < coolF lk h + y * y
    · rw [if_pos hl] at hN2 ⊢
      subst hN2
      exact (Behind_large lk ht rc h lv y ts gs ps A1 A2 A3 M L N c1 c2 c3 W hM hL hN hLim hT hG hP h1 h2 h3 he hl).mono fun e W' ⟨h, hb⟩ => ⟨_, h, ⟨_, _, _, rfl, KTI.zero _, rfl, rfl⟩, hb⟩
    · rw [if_neg hl] at hN2 ⊢
      have e : N2 = N := by rw [hN2, hN]; exact pushL_len ps y
      subst e
      exact (Behind_ok lk ht rc h lv y ts gs ps A1 A2 A3 M L N2 c1 c2 c3 W hM hL hN hLim hT hG hP h1 h2 h3 he hl).mono fun e W' ⟨⟨B, _, h, hc, hi⟩, hb⟩ => ⟨_, h, ⟨_, _, _, rfl, ⟨_, _, rfl, hc, fun p hp => by cases hp; exact hi⟩, rfl, rfl⟩, hb⟩
  · rw [if_neg he] at hN2 ⊢
    subst hN2
    exact (Behind_bad lk ht rc h lv y ts gs ps A1 A2 A3 M L N c1 c2 c3 W hM hL hN hLim hT hG hP h1 h2 h3 he).mono fun e W' ⟨h, hb⟩ => ⟨_, h, ⟨_, _, _, rfl, KTI.zero _, rfl, rfl⟩, hb⟩
/-- what Step hands back. -/
structure StepR where
  out : Int
  h : Int
  lv : Int
  ps : List Int
  err : Int
def stepR (lk ht rc : Int) (ts gs : List Int) (h lv : Int) (ps : List Int) (y : Int) : StepR :=
  if bothErr lk ht rc ts gs h lv ps y = 0 then (if fineF ht rc h 0 ts ps = true then ⟨outF lk ht rc ts gs ⟨h, lv.toNat, ps⟩ y, (stF lk ht rc ts gs ⟨h, lv.toNat, ps⟩ y).h, ((stF lk ht rc ts gs ⟨h, lv.toNat, ps⟩ y).lv : Int), (stF lk ht rc ts gs ⟨h, lv.toNat, ps⟩ y).ps, 0⟩ else ⟨0, 0, 0, [], 20⟩) else ⟨0, 0, 0, [], bothErr lk ht rc ts gs h lv ps y⟩
theorem cStep {lk ht rc h lv y : Int} {ts gs ps : List Int} {M L N N2 : Nat} {u v : Value} {W : World} (hM : M = ts.length) (hL : L = gs.length) (hN : N = ps.length) (h1 : M ≤ 1000) (h2 : L ≤ 1000) (h3 : N ≤ 1000) (hLim : Lim W) (hu : KG lk ht rc M ts L gs u W) (hv : KT h lv N ps v W)
    (hN2 : N2 = (stepR lk ht rc ts gs h lv ps y).ps.length) :
    Calls Tryd.prog 29 #[u, v, (.int .i64 (y))] W (KP (K3 (KV (.int .i64 ((stepR lk ht rc ts gs h lv ps y).out))) (KTI (stepR lk ht rc ts gs h lv ps y).h (stepR lk ht rc ts gs h lv ps y).lv N2 (stepR lk ht rc ts gs h lv ps y).ps) (KV (.int .i64 ((stepR lk ht rc ts gs h lv ps y).err)))) W) := by
  obtain ⟨A1, c1, A2, c2, rfl, hT, hG⟩ := hu
  obtain ⟨A3, c3, rfl, hP⟩ := hv
  unfold stepR at *
  by_cases he : bothErr lk ht rc ts gs h lv ps y = 0
  · rw [if_pos he] at hN2 ⊢
    have hS := stErr_zero (bothErr_zero he).1
    by_cases hf : fineF ht rc h 0 ts ps = true
    · rw [if_pos hf] at hN2 ⊢
      have hlv : lv = (lv.toNat : Int) := by have := hS.lv.1; omega
      obtain ⟨k, rfl⟩ : ∃ k : Nat, lv = k := ⟨lv.toNat, hlv⟩
      rw [Int.toNat_natCast] at hN2 ⊢
      have e : N2 = N := by rw [hN2, hN]; exact pushL_len ps _
      subst e
      exact (Step_ok lk ht rc h y k ts gs ps A1 A2 A3 M L N2 c1 c2 c3 W hM hL hN hLim hT hG hP h1 h2 h3 he (fine_good hS hf)).mono fun e W' ⟨⟨B, _, h, hc, hi⟩, hb⟩ => ⟨_, h, ⟨_, _, _, rfl, rfl, ⟨_, _, rfl, hc, fun p hp => by cases hp; exact hi⟩, rfl⟩, hb⟩
    · rw [if_neg hf] at hN2 ⊢
      subst hN2
      exact (Step_unsafe lk ht rc h lv y ts gs ps A1 A2 A3 M L N c1 c2 c3 W hM hL hN hLim hT hG hP h1 h2 h3 he (by simpa using hf)).mono fun e W' ⟨h, hb⟩ => ⟨_, h, ⟨_, _, _, rfl, rfl, KTI.zero _, rfl⟩, hb⟩
  · rw [if_neg he] at hN2 ⊢
    subst hN2
    exact (Step_bad lk ht rc h lv y ts gs ps A1 A2 A3 M L N c1 c2 c3 W hM hL hN hLim hT hG hP h1 h2 h3 he).mono fun e W' ⟨h, hb⟩ => ⟨_, h, ⟨_, _, _, rfl, rfl, KTI.zero _, rfl⟩, hb⟩
def tailR (lk ht rc : Int) (ts gs : List Int) (h lv : Int) (ps : List Int) : List Int := if stErr lk ht rc ts gs h lv ps = 0 then tailsF ts ps else []
theorem cTails {lk ht rc h lv : Int} {ts gs ps : List Int} {M L N N2 : Nat} {u v : Value} {W : World} (hM : M = ts.length) (hL : L = gs.length) (hN : N = ps.length) (h1 : M ≤ 1000) (h2 : L ≤ 1000) (h3 : N ≤ 1000) (hLim : Lim W) (hu : KG lk ht rc M ts L gs u W) (hv : KT h lv N ps v W)
    (hN2 : N2 = (tailR lk ht rc ts gs h lv ps).length) :
    Calls Tryd.prog 26 #[u, v] W (KP (K2 (KS N2 (tailR lk ht rc ts gs h lv ps)) (KV (.int .i64 (stErr lk ht rc ts gs h lv ps)))) W) := by
  obtain ⟨A1, c1, A2, c2, rfl, hT, hG⟩ := hu
  obtain ⟨A3, c3, rfl, hP⟩ := hv
  unfold tailR at *
  by_cases he : stErr lk ht rc ts gs h lv ps = 0
  · rw [if_pos he] at hN2 ⊢
    rw [he]
    have e : N2 = N := by rw [hN2, hN]; exact tailsL_len _ _ _
    subst e
    exact (Tails_ok lk ht rc h lv ts gs ps A1 A2 A3 M L N2 c1 c2 c3 W hM hL hN hLim hT hG hP h1 h2 h3 he).mono fun e W' ⟨⟨B, c, h, hc⟩, hb⟩ => ⟨_, h, ⟨_, _, rfl, ⟨_, _, rfl, hc⟩, rfl⟩, hb⟩
  · rw [if_neg he] at hN2 ⊢
    subst hN2
    exact (Tails_bad lk ht rc h lv ts gs ps A1 A2 A3 M L N c1 c2 c3 W hM hL hN hLim hT hG hP h1 h2 h3 he).mono fun e W' ⟨h, hb⟩ => ⟨_, h, ⟨_, _, rfl, KS.nil _, rfl⟩, hb⟩

def safeR (lk ht rc : Int) (ts gs : List Int) (h lv : Int) (ps : List Int) : Bool := if stErr lk ht rc ts gs h lv ps = 0 then fineF ht rc h 0 ts ps else false
theorem cSafe {lk ht rc h lv : Int} {ts gs ps : List Int} {M L N : Nat} {u v : Value} {W : World} (hM : M = ts.length) (hL : L = gs.length) (hN : N = ps.length) (h1 : M ≤ 1000) (h2 : L ≤ 1000) (h3 : N ≤ 1000) (hLim : Lim W) (hu : KG lk ht rc M ts L gs u W) (hv : KT h lv N ps v W) :
    Calls Tryd.prog 27 #[u, v] W (KP (K2 (KV (.bool (safeR lk ht rc ts gs h lv ps))) (KV (.int .i64 (stErr lk ht rc ts gs h lv ps)))) W) := by
  obtain ⟨A1, c1, A2, c2, rfl, hT, hG⟩ := hu
  obtain ⟨A3, c3, rfl, hP⟩ := hv
  unfold safeR
  by_cases he : stErr lk ht rc ts gs h lv ps = 0
  · rw [if_pos he, he]
    exact (Safe_ok lk ht rc h lv ts gs ps A1 A2 A3 M L N c1 c2 c3 W hM hL hN hLim hT hG hP h1 h2 h3 he).mono fun e W' ⟨h, hb⟩ => ⟨_, h, ⟨_, _, rfl, rfl, rfl⟩, hb⟩
  · rw [if_neg he]
    exact (Safe_bad lk ht rc h lv ts gs ps A1 A2 A3 M L N c1 c2 c3 W hM hL hN hLim hT hG hP h1 h2 h3 he).mono fun e W' ⟨h, hb⟩ => ⟨_, h, ⟨_, _, rfl, rfl, rfl⟩, hb⟩
def relR (lk ht rc : Int) (ts gs : List Int) (h lv : Int) (ps : List Int) : Int × Int :=
  if stErr lk ht rc ts gs h lv ps = 0 then (if fineF ht rc h 0 ts ps = true then (((gs.length - 1 - lv.toNat : Nat) : Int), 0) else (0, 20)) else (0, stErr lk ht rc ts gs h lv ps)
theorem cRelease {lk ht rc h lv : Int} {ts gs ps : List Int} {M L N : Nat} {u v : Value} {W : World} (hM : M = ts.length) (hL : L = gs.length) (hN : N = ps.length) (h1 : M ≤ 1000) (h2 : L ≤ 1000) (h3 : N ≤ 1000) (hLim : Lim W) (hu : KG lk ht rc M ts L gs u W) (hv : KT h lv N ps v W) :
    Calls Tryd.prog 30 #[u, v] W (KP (K2 (KV (.int .i64 ((relR lk ht rc ts gs h lv ps).1))) (KV (.int .i64 ((relR lk ht rc ts gs h lv ps).2)))) W) := by
  obtain ⟨A1, c1, A2, c2, rfl, hT, hG⟩ := hu
  obtain ⟨A3, c3, rfl, hP⟩ := hv
  unfold relR
  by_cases he : stErr lk ht rc ts gs h lv ps = 0
  · rw [if_pos he]
    have hS := stErr_zero he
    by_cases hf : fineF ht rc h 0 ts ps = true
    · rw [if_pos hf]
      have hlv : lv = (lv.toNat : Int) := by have := hS.lv.1; omega
      obtain ⟨k, rfl⟩ : ∃ k : Nat, lv = k := ⟨lv.toNat, hlv⟩
      rw [Int.toNat_natCast, ← hL]
      exact (Release_ok lk ht rc h k ts gs ps A1 A2 A3 M L N c1 c2 c3 W hM hL hN hLim hT hG hP h1 h2 h3 he (fine_good hS hf)).mono fun e W' ⟨h, hb⟩ => ⟨_, h, ⟨_, _, rfl, rfl, rfl⟩, hb⟩
    · rw [if_neg hf]
      exact (Release_unsafe lk ht rc h lv ts gs ps A1 A2 A3 M L N c1 c2 c3 W hM hL hN hLim hT hG hP h1 h2 h3 he (by simpa using hf)).mono fun e W' ⟨h, hb⟩ => ⟨_, h, ⟨_, _, rfl, rfl, rfl⟩, hb⟩
  · rw [if_neg he]
    exact (Release_bad lk ht rc h lv ts gs ps A1 A2 A3 M L N c1 c2 c3 W hM hL hN hLim hT hG hP h1 h2 h3 he).mono fun e W' ⟨h, hb⟩ => ⟨_, h, ⟨_, _, rfl, rfl, rfl⟩, hb⟩
def runR (lk ht rc : Int) (ts gs xs : List Int) : List Int := if runErr lk ht rc ts gs xs = 0 then outsK lk ht rc ts gs xs xs.length else []
def lvsR (lk ht rc : Int) (ts gs xs : List Int) : List Int := if runErr lk ht rc ts gs xs = 0 then lvsK lk ht rc ts gs xs xs.length else []
theorem cRun {lk ht rc : Int} {ts gs xs : List Int} {M L N N2 : Nat} {u v : Value} {W : World} (hM : M = ts.length) (hL : L = gs.length) (hN : N = xs.length) (h1 : M ≤ 1000) (h2 : L ≤ 1000) (h3 : N ≤ 5000) (hLim : Lim W) (hu : KG lk ht rc M ts L gs u W) (hv : KS N xs v W)
    (hN2 : N2 = (runR lk ht rc ts gs xs).length) :
    Calls Tryd.prog 40 #[u, v] W (KP (K2 (KS N2 (runR lk ht rc ts gs xs)) (KV (.int .i64 (runErr lk ht rc ts gs xs)))) W) := by
  obtain ⟨A1, c1, A2, c2, rfl, hT, hG⟩ := hu
  obtain ⟨A3, c3, rfl, hX⟩ := hv
  unfold runR at *
  by_cases he : runErr lk ht rc ts gs xs = 0
  · rw [if_pos he] at hN2 ⊢
    rw [he]
    have hz := runErr_zero he
    subst hM hL hN
    have e : N2 = xs.length := by rw [hN2]; exact outsK_len _ _ _ _ _ _ _
    subst e
    exact (run_ok lk ht rc ts gs xs A1 A2 A3 c1 c2 c3 W hLim (guard_valid hz.1) hT hG hX (sigErr_in hz.2) (by omega) (by omega) h3 he).mono fun e W' ⟨⟨B, d, h, hc⟩, hb⟩ => ⟨_, h, ⟨_, _, rfl, ⟨_, _, rfl, hc⟩, rfl⟩, hb⟩
  · rw [if_neg he] at hN2 ⊢
    subst hM hL hN hN2
    exact (Run_bad lk ht rc ts gs xs A1 A2 A3 c1 c2 c3 W hT hG hX (by omega) (by omega) h3 he).mono fun e W' ⟨h, hb⟩ => ⟨_, h, ⟨_, _, rfl, KS.nil _, rfl⟩, hb⟩
theorem cLevels {lk ht rc : Int} {ts gs xs : List Int} {M L N N2 : Nat} {u v : Value} {W : World} (hM : M = ts.length) (hL : L = gs.length) (hN : N = xs.length) (h1 : M ≤ 1000) (h2 : L ≤ 1000) (h3 : N ≤ 5000) (hLim : Lim W) (hu : KG lk ht rc M ts L gs u W) (hv : KS N xs v W)
    (hN2 : N2 = (lvsR lk ht rc ts gs xs).length) :
    Calls Tryd.prog 42 #[u, v] W (KP (K2 (KS N2 (lvsR lk ht rc ts gs xs)) (KV (.int .i64 (runErr lk ht rc ts gs xs)))) W) := by
  obtain ⟨A1, c1, A2, c2, rfl, hT, hG⟩ := hu
  obtain ⟨A3, c3, rfl, hX⟩ := hv
  unfold lvsR at *
  by_cases he : runErr lk ht rc ts gs xs = 0
  · rw [if_pos he] at hN2 ⊢
    rw [he]
    have hz := runErr_zero he
    subst hM hL hN
    have e : N2 = xs.length := by rw [hN2]; exact lvsK_len _ _ _ _ _ _ _
    subst e
    exact (levels_ok lk ht rc ts gs xs A1 A2 A3 c1 c2 c3 W hLim (guard_valid hz.1) hT hG hX (sigErr_in hz.2) (by omega) (by omega) h3 he).mono fun e W' ⟨⟨B, d, h, hc⟩, hb⟩ => ⟨_, h, ⟨_, _, rfl, ⟨_, _, rfl, hc⟩, rfl⟩, hb⟩
  · rw [if_neg he] at hN2 ⊢
    subst hM hL hN hN2
    exact (Levels_bad lk ht rc ts gs xs A1 A2 A3 c1 c2 c3 W hT hG hX (by omega) (by omega) h3 he).mono fun e W' ⟨h, hb⟩ => ⟨_, h, ⟨_, _, rfl, KS.nil _, rfl⟩, hb⟩
def pkHR (lk ht rc : Int) (ts gs xs : List Int) : Int := if runErr lk ht rc ts gs xs = 0 then pkH lk xs xs.length else 0
def pkXR (lk ht rc : Int) (ts gs xs : List Int) : Int := if runErr lk ht rc ts gs xs = 0 then pkX ts xs xs.length else 0
theorem cPeaks {lk ht rc : Int} {ts gs xs : List Int} {M L N : Nat} {u v : Value} {W : World} (hM : M = ts.length) (hL : L = gs.length) (hN : N = xs.length) (h1 : M ≤ 1000) (h2 : L ≤ 1000) (h3 : N ≤ 5000) (hu : KG lk ht rc M ts L gs u W) (hv : KS N xs v W) :
    Calls Tryd.prog 43 #[u, v] W (KP (K2 (KV (.agg #[(.int .i64 (pkHR lk ht rc ts gs xs)), (.int .i64 (pkXR lk ht rc ts gs xs))])) (KV (.int .i64 (runErr lk ht rc ts gs xs)))) W) := by
  obtain ⟨A1, c1, A2, c2, rfl, hT, hG⟩ := hu
  obtain ⟨A3, c3, rfl, hX⟩ := hv
  unfold pkHR pkXR
  subst hM hL hN
  by_cases he : runErr lk ht rc ts gs xs = 0
  · rw [if_pos he, if_pos he, he]
    have hz := runErr_zero he
    exact (peaks_ok lk ht rc ts gs xs A1 A2 A3 c1 c2 c3 W (guard_valid hz.1) hT hG hX (sigErr_in hz.2) (by omega) (by omega) h3 he).mono fun e W' ⟨h, hb⟩ => ⟨_, h, ⟨_, _, rfl, rfl, rfl⟩, hb⟩
  · rw [if_neg he, if_neg he]
    exact (Peaks_bad lk ht rc ts gs xs A1 A2 A3 c1 c2 c3 W hT hG hX (by omega) (by omega) h3 he).mono fun e W' ⟨h, hb⟩ => ⟨_, h, ⟨_, _, rfl, rfl, rfl⟩, hb⟩
def crR (lk ht rc : Int) (ts gs xs os : List Int) : Int := if crErr lk ht rc ts gs xs os = 0 then (if outsK lk ht rc ts gs xs xs.length = os then 0 else 22) else crErr lk ht rc ts gs xs os
theorem cCheckRun {lk ht rc : Int} {ts gs xs os : List Int} {M L N N2 : Nat} {u v x : Value} {W : World} (hM : M = ts.length) (hL : L = gs.length) (hN : N = xs.length) (hN2 : N2 = os.length) (h1 : M ≤ 1000) (h2 : L ≤ 1000) (h3 : N ≤ 5000) (h4 : N2 ≤ 5000) (hLim : Lim W) (hu : KG lk ht rc M ts L gs u W) (hv : KS N xs v W) (hx : KS N2 os x W) :
    Calls Tryd.prog 65 #[u, v, x] W (KP (KV (.int .i64 (crR lk ht rc ts gs xs os))) W) := by
  obtain ⟨A1, c1, A2, c2, rfl, hT, hG⟩ := hu
  obtain ⟨A3, c3, rfl, hX⟩ := hv
  obtain ⟨A4, c4, rfl, hO⟩ := hx
  unfold crR
  subst hM hL hN hN2
  by_cases he : crErr lk ht rc ts gs xs os = 0
  · rw [if_pos he]
    exact (CheckRun_ok lk ht rc ts gs xs os A1 A2 A3 A4 c1 c2 c3 c4 W hLim hT hG hX hO (by omega) (by omega) h3 h4 he).mono fun e W' ⟨h, hb⟩ => ⟨_, h, rfl, hb⟩
  · rw [if_neg he]
    exact (CheckRun_bad lk ht rc ts gs xs os A1 A2 A3 A4 c1 c2 c3 c4 W hT hG hX hO (by omega) (by omega) h3 h4 he).mono fun e W' ⟨h, hb⟩ => ⟨_, h, rfl, hb⟩
def stdR (lk ht rc : Int) (ts gs : List Int) : Int := if guardErr lk ht rc ts gs = 0 then (stdF lk ht : Int) else 0
def quiR (lk ht rc : Int) (ts gs : List Int) : Int := if guardErr lk ht rc ts gs = 0 then quietF lk ht rc ts else 0
theorem cSteady {lk ht rc : Int} {ts gs : List Int} {M L : Nat} {u : Value} {W : World} (hM : M = ts.length) (hL : L = gs.length) (h1 : M ≤ 1000) (h2 : L ≤ 1000) (hu : KG lk ht rc M ts L gs u W) :
    Calls Tryd.prog 48 #[u] W (KP (K2 (KV (.int .i64 (stdR lk ht rc ts gs))) (KV (.int .i64 (guardErr lk ht rc ts gs)))) W) := by
  obtain ⟨A1, c1, A2, c2, rfl, hT, hG⟩ := hu
  exact (Steady_any lk ht rc ts gs A1 A2 M L c1 c2 W hM hL hT hG h1 h2).mono fun e W' ⟨h, hb⟩ => ⟨_, h, ⟨_, _, rfl, rfl, rfl⟩, hb⟩
theorem cQuiet {lk ht rc : Int} {ts gs : List Int} {M L : Nat} {u : Value} {W : World} (hM : M = ts.length) (hL : L = gs.length) (h1 : M ≤ 1000) (h2 : L ≤ 1000) (hu : KG lk ht rc M ts L gs u W) :
    Calls Tryd.prog 49 #[u] W (KP (K2 (KV (.int .i64 (quiR lk ht rc ts gs))) (KV (.int .i64 (guardErr lk ht rc ts gs)))) W) := by
  obtain ⟨A1, c1, A2, c2, rfl, hT, hG⟩ := hu
  exact (Quiet_any lk ht rc ts gs A1 A2 M L c1 c2 W hM hL hT hG h1 h2).mono fun e W' ⟨h, hb⟩ => ⟨_, h, ⟨_, _, rfl, rfl, rfl⟩, hb⟩
theorem cCool {lk ht rc a b : Int} {ts gs : List Int} {M L : Nat} {u : Value} {W : World} (hM : M = ts.length) (hL : L = gs.length) (h1 : M ≤ 1000) (h2 : L ≤ 1000) (hu : KG lk ht rc M ts L gs u W) :
    Calls Tryd.prog 50 #[u, (.int .i64 (a)), (.int .i64 (b))] W (KP (K2 (KV (.int .i64 ((coolE lk ht rc ts gs a b).1))) (KV (.int .i64 ((coolE lk ht rc ts gs a b).2)))) W) := by
  obtain ⟨A1, c1, A2, c2, rfl, hT, hG⟩ := hu
  exact (Cool_any lk ht rc a b ts gs A1 A2 M L c1 c2 W hM hL hT hG h1 h2).mono fun e W' ⟨h, hb⟩ => ⟨_, h, ⟨_, _, rfl, rfl, rfl⟩, hb⟩
def enR (xs : List Int) : Int := if sigErr xs = 0 then enF xs else 0
theorem cEnergy {xs : List Int} {N : Nat} {v : Value} {W : World} (hN : N = xs.length) (h3 : N ≤ 5000) (hv : KS N xs v W) :
    Calls Tryd.prog 56 #[v] W (KP (K2 (KV (.int .i64 (enR xs))) (KV (.int .i64 (sigErr xs)))) W) := by
  obtain ⟨A3, c3, rfl, hX⟩ := hv
  subst hN
  exact (Energy_any xs A3 c3 W hX h3 (fun e => sigErr_in e)).mono fun e W' ⟨h, hb⟩ => ⟨_, h, ⟨_, _, rfl, rfl, rfl⟩, hb⟩
def loudR (lk ht rc : Int) (ts gs ls : List Int) (n : Int) : List Int := if loudErr lk ht rc ts gs ls n = 0 then (loudF lk ht rc ts gs ls n.toNat).getD [] else []
def loudE (lk ht rc : Int) (ts gs ls : List Int) (n : Int) : Int := if loudErr lk ht rc ts gs ls n = 0 then (if (loudF lk ht rc ts gs ls n.toNat).isSome then 0 else 24) else loudErr lk ht rc ts gs ls n
theorem loudErr_zero {lk ht rc n : Int} {ts gs ls : List Int} (e : loudErr lk ht rc ts gs ls n = 0) : guardErr lk ht rc ts gs = 0 ∧ (1 ≤ ls.length ∧ ls.length ≤ 6) ∧ ascErr ls (-2048) 2048 = 0 ∧ 0 ≤ n ∧ n ≤ 6 := by
  have h := firstOf_eq_zero.1 e
  have h1 := h (someErr ls.length 6) (by simp)
  have h2 := rangeErr_zero.1 (h (rangeErr n 0 6) (by simp))
  refine ⟨h _ (by simp), ?_, h (ascErr ls (-2048) 2048) (by simp), h2⟩
  unfold someErr at h1
  have h3 := firstOf_eq_zero.1 h1
  have h4 := h3 (if (ls.length : Int) = 0 then 12 else 0) (by simp)
  have h5 := h3 (if (6 : Int) < (ls.length : Int) then 5 else 0) (by simp)
  split at h4
  · omega
  · split at h5 <;> omega
theorem ascErr_in {l : List Int} {lo hi : Int} (e : ascErr l lo hi = 0) : ∀ x ∈ l, lo ≤ x ∧ x ≤ hi := by
  intro x hx
  obtain ⟨k, hk, rfl⟩ := List.mem_iff_getElem.1 hx
  have h1 := firstOf_eq_zero.1 e (ascAt l lo hi k) (List.mem_map.2 ⟨k, List.mem_range.2 hk, rfl⟩)
  have h2 := firstOf_eq_zero.1 h1 (rangeErr (l.getD k 0) lo hi) (by simp)
  have h3 := rangeErr_zero.1 h2
  rw [List.getD_eq_getElem?_getD, List.getElem?_eq_getElem hk] at h3
  exact h3
theorem cLoudest {lk ht rc n : Int} {ts gs ls : List Int} {M L N N2 : Nat} {u v : Value} {W : World} (hM : M = ts.length) (hL : L = gs.length) (hN : N = ls.length) (h1 : M ≤ 1000) (h2 : L ≤ 1000) (h3 : N ≤ 1000) (hLim : Lim W) (hu : KG lk ht rc M ts L gs u W) (hv : KS N ls v W)
    (hN2 : N2 = (loudR lk ht rc ts gs ls n).length) :
    Calls Tryd.prog 55 #[u, v, (.int .i64 (n))] W (KP (K2 (KS N2 (loudR lk ht rc ts gs ls n)) (KV (.int .i64 (loudE lk ht rc ts gs ls n)))) W) := by
  obtain ⟨A1, c1, A2, c2, rfl, hT, hG⟩ := hu
  obtain ⟨A3, c3, rfl, hX⟩ := hv
  unfold loudR loudE at *
  by_cases he : loudErr lk ht rc ts gs ls n = 0
  · rw [if_pos he] at hN2 ⊢
    rw [if_pos he]
    obtain ⟨g1, g2, g3, g4, g5⟩ := loudErr_zero he
    obtain ⟨k, rfl⟩ : ∃ k : Nat, n = k := ⟨n.toNat, by omega⟩
    rw [Int.toNat_natCast] at hN2 ⊢
    subst hN2
    exact (Loudest_ok lk ht rc k ts gs ls A1 A2 A3 c1 c2 c3 M L N W hM hL hN hLim (guard_valid g1) hT hG hX (by omega) (by omega) (ascErr_in g3) he).mono fun e W' ⟨⟨B, d, h, hc⟩, hb⟩ => ⟨_, h, ⟨_, _, rfl, ⟨_, _, rfl, hc⟩, rfl⟩, hb⟩
  · rw [if_neg he] at hN2 ⊢
    rw [if_neg he]
    subst hN2
    exact (Loudest_bad lk ht rc n ts gs ls A1 A2 A3 c1 c2 c3 M L N W hM hL hN hT hG hX (by omega) (by omega) (by omega) he).mono fun e W' ⟨h, hb⟩ => ⟨_, h, ⟨_, _, rfl, KS.nil _, rfl⟩, hb⟩
def textR (lk ht rc : Int) (ts gs : List Int) : List UInt8 := if guardErr lk ht rc ts gs = 0 then textG lk ht rc ts gs else []
theorem cPrint {lk ht rc : Int} {ts gs : List Int} {M L : Nat} {u : Value} {W : World} (hM : M = ts.length) (hL : L = gs.length) (h1 : M ≤ 1000) (h2 : L ≤ 1000) (hTab : PTab W) (hu : KG lk ht rc M ts L gs u W) :
    Calls Tryd.prog 68 #[u] W (KP (K2 (KV (.string ⟨(textR lk ht rc ts gs).toArray⟩)) (KV (.int .i64 (guardErr lk ht rc ts gs)))) W) := by
  obtain ⟨A1, c1, A2, c2, rfl, hT, hG⟩ := hu
  unfold textR
  by_cases he : guardErr lk ht rc ts gs = 0
  · rw [if_pos he, he]
    exact (Print_ok lk ht rc ts gs A1 A2 M L c1 c2 W hM hL hTab hT hG h1 h2 he).mono fun e W' ⟨h, hb⟩ => ⟨_, h, ⟨_, _, rfl, rfl, rfl⟩, hb⟩
  · rw [if_neg he]
    exact (Print_bad lk ht rc ts gs A1 A2 M L c1 c2 W hM hL hT hG h1 h2 he).mono fun e W' ⟨h, hb⟩ => ⟨_, h, ⟨_, _, rfl, rfl, rfl⟩, hb⟩
end Go.Proofs.YtdeapbihbhoefaaDoor

/- A drawn region in whose head a struct is stored into a block that the region itself has made: worlds in which rows of integers stay, and blocks of one type turn to what they will be. -/
namespace Go.Proofs.YtdeapbihbhoefaaDoor
open Go.RowKit
open Calm (bcell Blk)
open Rel (Know)

/-- rows of integers stay. -/
def IntKeep (W W' : World) : Prop := ∀ (k : Nat) (cur : Array Value), W.heap[k]? = some (.cells cur 3 (0, 0)) → W'.heap[k]? = some (.cells cur 3 (0, 0))
theorem IntKeep.of {W W' : World} (h : Below W.heap.size W W') : IntKeep W W' := fun _ _ hk => (h.block _ (Array.getElem?_eq_some_iff.1 hk).1).trans hk
theorem IntKeep.refl (W : World) : IntKeep W W := fun _ _ h => h
theorem IntKeep.trans {a b c : World} (h : IntKeep a b) (k : IntKeep b c) : IntKeep a c := fun i cur hi => k _ _ (h _ _ hi)
def IStable (K : Know) : Prop := ∀ u W W', K u W → IntKeep W W' → K u W'
theorem IStable.st {K : Know} (h : IStable K) : Rel.Stable K := fun u W W' hk hb => h u W W' hk (IntKeep.of hb)
theorem KV.ik (v : Value) : IStable (KV v) := fun _ _ _ h _ => h
theorem IntRow.keep {W W' : World} {B : Addr} (h : IntRow W B) (hk : IntKeep W W') : IntRow W' B := by
  obtain ⟨cur, h⟩ := h
  exact ⟨cur, hk _ _ h⟩
theorem Cells.keep {W W' : World} {B : Option Addr} {l : List Int} (h : Cells W B l) (hi : ∀ p, B = some p → IntRow W p) (hk : IntKeep W W') : Cells W' B l := by
  intro h0
  obtain ⟨b, off, rfl, hl, hc⟩ := h h0
  obtain ⟨cur, hcur⟩ := hi _ rfl
  have e := hk _ _ hcur
  refine ⟨b, off, rfl, (Array.getElem?_eq_some_iff.1 e).1, fun k hk2 => ?_⟩
  exact (World.cell?_of_block (w := W) (a := ⟨b, off + k, none⟩) (e.trans hcur.symm)).trans (hc k hk2)
theorem KTI.ik (h lv : Int) (n : Nat) (l : List Int) : IStable (KTI h lv n l) := fun _ _ _ ⟨B, c, h1, h2, h3⟩ hk => ⟨B, c, h1, h2.keep h3 hk, fun p hp => (h3 p hp).keep hk⟩
/-- a guard whose lists lie in rows of integers. -/
def KGI (lk ht rc : Int) (M : Nat) (ts : List Int) (L : Nat) (gs : List Int) : Know := fun u W => ∃ A1 c1 A2 c2, u = .agg #[(.int .i64 (lk)), (.int .i64 (ht)), .slice A1 M c1, (.int .i64 (rc)), .slice A2 L c2] ∧ Cells W A1 ts ∧ Cells W A2 gs ∧ (∀ p, A1 = some p → IntRow W p) ∧ ∀ p, A2 = some p → IntRow W p
theorem KGI.ik (lk ht rc : Int) (M : Nat) (ts : List Int) (L : Nat) (gs : List Int) : IStable (KGI lk ht rc M ts L gs) := fun _ _ _ ⟨A1, c1, A2, c2, h1, h2, h3, h4, h5⟩ hk => ⟨A1, c1, A2, c2, h1, h2.keep h4 hk, h3.keep h5 hk, fun p hp => (h4 p hp).keep hk, fun p hp => (h5 p hp).keep hk⟩
theorem KGI.kg {lk ht rc : Int} {M : Nat} {ts : List Int} {L : Nat} {gs : List Int} {u : Value} {W : World} (h : KGI lk ht rc M ts L gs u W) : KG lk ht rc M ts L gs u W := by
  obtain ⟨A1, c1, A2, c2, h1, h2, h3, _⟩ := h
  exact ⟨A1, c1, A2, c2, h1, h2, h3⟩
/-- a slice that lies in a row of integers. -/
def KSI (n : Nat) (l : List Int) : Know := fun u W => ∃ B c, u = .slice B n c ∧ Cells W B l ∧ ∀ p, B = some p → IntRow W p
theorem KSI.ik (n : Nat) (l : List Int) : IStable (KSI n l) := fun _ _ _ ⟨B, c, h1, h2, h3⟩ hk => ⟨B, c, h1, h2.keep h3 hk, fun p hp => (h3 p hp).keep hk⟩
theorem KSI.ks {n : Nat} {l : List Int} {u : Value} {W : World} (h : KSI n l u W) : KS n l u W := by
  obtain ⟨B, c, h1, h2, _⟩ := h
  exact ⟨B, c, h1, h2⟩
theorem K2.ik {R1 R2 : Know} (h1 : IStable R1) (h2 : IStable R2) : IStable (K2 R1 R2) := fun _ W W' ⟨u1, u2, e, k1, k2⟩ hb => ⟨u1, u2, e, h1 _ W W' k1 hb, h2 _ W W' k2 hb⟩
theorem K3.ik {R1 R2 R3 : Know} (h1 : IStable R1) (h2 : IStable R2) (h3 : IStable R3) : IStable (K3 R1 R2 R3) := fun _ W W' ⟨u1, u2, u3, e, k1, k2, k3⟩ hb => ⟨u1, u2, u3, e, h1 _ W W' k1 hb, h2 _ W W' k2 hb, h3 _ W W' k3 hb⟩

/-- the block is of this type. -/
def IsTy (W : World) (g : Nat) (t : TypeId) : Prop := ∃ cs, W.heap[g]? = some (.cells cs t (0, 0))
theorem IsTy.below {W W' : World} {g : Nat} {t : TypeId} (h : IsTy W g t) (hb : Below W.heap.size W W') : IsTy W' g t := by
  obtain ⟨cs, h⟩ := h
  exact ⟨cs, (hb.block _ (Array.getElem?_eq_some_iff.1 h).1).trans h⟩
theorem IsTy.put {W : World} {g : Nat} {t : TypeId} (h : IsTy W g t) (i : Nat) (v : Value) : IsTy (W.setCell ⟨g, i, none⟩ v) g t := by
  obtain ⟨cs, h⟩ := h
  exact ⟨_, heap_setCell_same W g i cs t v h⟩
theorem IntKeep.put {W0 W : World} (h : IntKeep W0 W) {g : Nat} {t : TypeId} (ht : IsTy W g t) (hne : t ≠ 3) (i : Nat) (v : Value) : IntKeep W0 (W.setCell ⟨g, i, none⟩ v) := fun k cur hk => by
  have h1 := h k cur hk
  obtain ⟨cs, hg⟩ := ht
  by_cases hkg : k = g
  · rw [hkg, hg] at h1
    cases h1
    exact absurd rfl hne
  · exact (Below.heap_setCell _ _ _ _ hkg).trans h1
theorem KSI.put {n : Nat} {l : List Int} {u : Value} {W : World} {g : Nat} {t : TypeId} (h : KSI n l u W) (ht : IsTy W g t) (hne : t ≠ 3) (i : Nat) (v : Value) : KSI n l u (W.setCell ⟨g, i, none⟩ v) := by
  obtain ⟨B, c, h1, h2, h3⟩ := h
  obtain ⟨cs, hg⟩ := ht
  exact ⟨B, c, h1, h2.sets (fun _ p hp => (h3 p hp).ne hg hne) i v, fun p hp => (h3 p hp).sets ((h3 p hp).ne hg hne) i v⟩
theorem IsTy.new {W : World} {t : TypeId} {cs : Array Value} : IsTy (W.alloc (.cells cs t)) W.heap.size t := ⟨cs, heap_new rfl⟩
theorem IsTy.old {W : World} {g : Nat} {t : TypeId} {o : Obj} (h : IsTy W g t) : IsTy (W.alloc o) g t := h.below ((Below.refl _ _).alloc (Nat.le_refl _) _)
/-- below B nothing turns; of the newer blocks only those of the type T turn, to what is known. -/
structure Sty (T : TypeId) (K : Know) (B : Nat) (W W' : World) : Prop where
  os : W'.os = W.os
  tape : W'.tape = W.tape
  output : W'.output = W.output
  size : W.heap.size ≤ W'.heap.size
  ne : T ≠ 3
  block : ∀ k, k < W.heap.size → W'.heap[k]? = W.heap[k]? ∨ (B ≤ k ∧ (∃ cs, W.heap[k]? = some (.cells cs T (0, 0))) ∧ ∃ cs, W'.heap[k]? = some (.cells cs T (0, 0)) ∧ K (.agg cs) W')
theorem Sty.refl {T : TypeId} {K : Know} {B : Nat} (hT : T ≠ 3) (W : World) : Sty T K B W W := ⟨rfl, rfl, rfl, Nat.le_refl _, hT, fun _ _ => .inl rfl⟩
theorem Sty.keep {T : TypeId} {K : Know} {B : Nat} {W W' : World} (h : Sty T K B W W') : IntKeep W W' := by
  intro k cur hk
  rcases h.block k (Array.getElem?_eq_some_iff.1 hk).1 with e | ⟨_, ⟨cs, e⟩, _⟩
  · exact e.trans hk
  · rw [hk] at e
    cases e
    exact absurd rfl h.ne
theorem Sty.trans {T : TypeId} {K : Know} (hK : IStable K) {B : Nat} (a b c : World) (h : Sty T K B a b) (k : Sty T K B b c) : Sty T K B a c := by
  refine ⟨k.os.trans h.os, k.tape.trans h.tape, k.output.trans h.output, Nat.le_trans h.size k.size, h.ne, fun i hi => ?_⟩
  rcases k.block i (Nat.lt_of_lt_of_le hi h.size) with e | ⟨hB, ⟨cs, e⟩, cs', e', hk'⟩
  · rcases h.block i hi with e2 | ⟨hB, h1, cs, e2, hk⟩
    · exact .inl (e.trans e2)
    · exact .inr ⟨hB, h1, cs, e.trans e2, hK _ _ _ hk k.keep⟩
  · rcases h.block i hi with e2 | ⟨hB, h1, _⟩
    · exact .inr ⟨hB, ⟨cs, e2.symm.trans e⟩, cs', e', hk'⟩
    · exact .inr ⟨hB, h1, cs', e', hk'⟩
theorem Sty.drawn {T : TypeId} {K : Know} {B : Nat} (hT : T ≠ 3) (W : World) : Sty T K B W { W with drawn := W.drawn + 1 } := ⟨rfl, rfl, rfl, Nat.le_refl _, hT, fun _ _ => .inl rfl⟩
theorem Sty.of {T : TypeId} {K : Know} {B : Nat} (hT : T ≠ 3) {W W' : World} (h : Below W.heap.size W W') : Sty T K B W W' := ⟨h.os, h.tape, h.output, h.size, hT, fun k hk => .inl (h.block k hk)⟩
theorem Sty.below {T : TypeId} {K : Know} {B : Nat} {W W' : World} (h : Sty T K B W W') (hB : B ≤ W.heap.size) : Below B W W' :=
  ⟨h.os, h.tape, h.output, h.size, fun k hk => (h.block k (by omega)).elim id (fun h2 => by omega)⟩

set_option maxRecDepth 100000 in
/-- a state stored. -/
theorem run_storeS {W : World} {g : Nat} {u0 u1 u2 : Value} {h lv : Int} {B : Option Addr} {n c : Nat} (hg : W.heap[g]? = some (.cells #[u0, u1, u2] 30 (0, 0))) {o : Oper} {ρ : Operand → Value} {p v : Tmp} (hop : o.op = .store 30 (.tmp p) (.tmp v))
    (hp : ρ (.tmp p) = .pointer (some ⟨g, 0, none⟩)) (hv : ρ (.tmp v) = .agg #[(.int .i64 (h)), (.int .i64 (lv)), .slice B n c]) : (execOp ρ o).run Tryd.prog W = .ok .skip (((W.setCell ⟨g, 0, none⟩ (.int .i64 (h))).setCell ⟨g, 1, none⟩ (.int .i64 (lv))).setCell ⟨g, 2, none⟩ (.slice B n c)) := by
  have K := Calm.Blk.row hg
  obtain ⟨c0, c1, c2, l, f⟩ := K.o3
  have f0 := K.f 0
  have f1 := K.f 1
  have f2 := K.f 2
  clear K
  obtain ⟨dst, op, type, pos, after, guard⟩ := o
  simp only at hop
  subst hop
  go_simp
theorem set3_heap {W : World} {g : Nat} {u0 u1 u2 : Value} {t : TypeId} (a b c : Value) (hg : W.heap[g]? = some (.cells #[u0, u1, u2] t (0, 0))) : (((W.setCell ⟨g, 0, none⟩ a).setCell ⟨g, 1, none⟩ b).setCell ⟨g, 2, none⟩ c).heap[g]? = some (.cells #[a, b, c] t (0, 0)) := by
  exact heap_setCell_same _ g 2 _ t c (heap_setCell_same _ g 1 _ t b (heap_setCell_same W g 0 _ t a hg))

namespace RelH
open Rel (ons)
section
variable {S : World → World → Prop} {P : Program} {DS : List Tmp} {w0 : World} {a0 : Act} {T : Ctx → Prop} {Γ : Ctx} {o : Oper} {rest : List Oper}
theorem dep_at {x : Nat → Value} {Γ : Ctx} {a : Act} {W : World} : ∀ {js : List Nat}, deps x Γ a W js → ∀ (j : Nat) {t : Tmp} {R : DK}, js.contains j = true → Γ[j]? = some (some t, R) → x j = a.eval (.tmp t) ∧ R x (a.eval (.tmp t)) W
  | [], _, _, _, _, hj, _ => by simp at hj
  | i :: js, h, j, t, R, hj, hΓ => by
    rcases Bool.eq_false_or_eq_true (i == j) with e | e
    · rw [beq_iff_eq] at e
      subst e
      have h1 := h.1
      rw [hΓ] at h1
      exact h1
    · refine dep_at h.2 j ?_ hΓ
      rw [List.contains_cons] at hj
      have : (j == i) = false := by rw [beq_eq_false_iff_ne] at e ⊢; exact fun e2 => e e2.symm
      rwa [this, Bool.false_or] at hj
theorem dep_k {x : Nat → Value} {Γ : Ctx} {a : Act} {W : World} {js : List Nat} (h : deps x Γ a W js) (j : Nat) {t : Tmp} {K : Know} (hj : js.contains j = true) (hΓ : Γ[j]? = some (some t, fun _ => K)) : K (a.eval (.tmp t)) W := (dep_at h j hj hΓ).2
theorem sk {K : Know} (hk : ∀ W W', S W W' → IntKeep W W') (h : IStable K) : Stable S (fun _ => K) := fun _ _ W W' h1 hS => h _ W W' h1 (hk W W' hS)
theorem mvH (hr : ∀ W, S W W) (hk : ∀ W W', S W W' → IntKeep W W') (t : Tmp) (j : Nat) {K : Know} (hop : o.op = .move (.tmp t)) (hj : (ons o).contains j = true) (hΓ : Γ[j]? = some (some t, fun _ => K)) (hs : IStable K) (hg : GOK3 Γ o)
    (hn : walk3 S P DS w0 a0 T (Γ ++ [(o.dst, fun _ => K)]) rest) : walk3 S P DS w0 a0 T Γ (o :: rest) :=
  opR3 hr _ (sk hk hs) loc_const hg (fun a W x hb hd _ => ⟨a.eval (.tmp t), by simp [execOp, hop], dep_k hd j hj hΓ⟩) hn
theorem asgH (hr : ∀ W, S W W) (hk : ∀ W W', S W W' → IntKeep W W') (t : Tmp) (j : Nat) {K : Know} (hop : o.op = .assign (.tmp t)) (hj : (ons o).contains j = true) (hΓ : Γ[j]? = some (some t, fun _ => K)) (hs : IStable K) (hg : GOK3 Γ o)
    (hn : walk3 S P DS w0 a0 T (Γ ++ [(o.dst, fun _ => K)]) rest) : walk3 S P DS w0 a0 T Γ (o :: rest) :=
  opR3 hr _ (sk hk hs) loc_const hg (fun a W x hb hd _ => ⟨a.eval (.tmp t), by simp [execOp, hop], dep_k hd j hj hΓ⟩) hn
theorem ext20H (hr : ∀ W, S W W) (hk : ∀ W W', S W W' → IntKeep W W') (t : Tmp) (j : Nat) {R1 R2 : Know} (hop : o.op = .extract (.tmp t) 0) (hj : (ons o).contains j = true) (hΓ : Γ[j]? = some (some t, fun _ => K2 R1 R2)) (hs : IStable R1) (hg : GOK3 Γ o)
    (hn : walk3 S P DS w0 a0 T (Γ ++ [(o.dst, fun _ => R1)]) rest) : walk3 S P DS w0 a0 T Γ (o :: rest) :=
  opR3 hr _ (sk hk hs) loc_const hg (fun a W x hb hd _ => by
    obtain ⟨u1, u2, e, h1, h2⟩ := dep_k hd j hj hΓ
    exact ⟨u1, by simp [execOp, hop, e, Instr.extract, Result.andThen], h1⟩) hn
theorem ext21H (hr : ∀ W, S W W) (hk : ∀ W W', S W W' → IntKeep W W') (t : Tmp) (j : Nat) {R1 R2 : Know} (hop : o.op = .extract (.tmp t) 1) (hj : (ons o).contains j = true) (hΓ : Γ[j]? = some (some t, fun _ => K2 R1 R2)) (hs : IStable R2) (hg : GOK3 Γ o)
    (hn : walk3 S P DS w0 a0 T (Γ ++ [(o.dst, fun _ => R2)]) rest) : walk3 S P DS w0 a0 T Γ (o :: rest) :=
  opR3 hr _ (sk hk hs) loc_const hg (fun a W x hb hd _ => by
    obtain ⟨u1, u2, e, h1, h2⟩ := dep_k hd j hj hΓ
    exact ⟨u2, by simp [execOp, hop, e, Instr.extract, Result.andThen], h2⟩) hn
theorem ext30H (hr : ∀ W, S W W) (hk : ∀ W W', S W W' → IntKeep W W') (t : Tmp) (j : Nat) {R1 R2 R3 : Know} (hop : o.op = .extract (.tmp t) 0) (hj : (ons o).contains j = true) (hΓ : Γ[j]? = some (some t, fun _ => K3 R1 R2 R3)) (hs : IStable R1) (hg : GOK3 Γ o)
    (hn : walk3 S P DS w0 a0 T (Γ ++ [(o.dst, fun _ => R1)]) rest) : walk3 S P DS w0 a0 T Γ (o :: rest) :=
  opR3 hr _ (sk hk hs) loc_const hg (fun a W x hb hd _ => by
    obtain ⟨u1, u2, u3, e, h1, h2, h3⟩ := dep_k hd j hj hΓ
    exact ⟨u1, by simp [execOp, hop, e, Instr.extract, Result.andThen], h1⟩) hn
theorem ext31H (hr : ∀ W, S W W) (hk : ∀ W W', S W W' → IntKeep W W') (t : Tmp) (j : Nat) {R1 R2 R3 : Know} (hop : o.op = .extract (.tmp t) 1) (hj : (ons o).contains j = true) (hΓ : Γ[j]? = some (some t, fun _ => K3 R1 R2 R3)) (hs : IStable R2) (hg : GOK3 Γ o)
    (hn : walk3 S P DS w0 a0 T (Γ ++ [(o.dst, fun _ => R2)]) rest) : walk3 S P DS w0 a0 T Γ (o :: rest) :=
  opR3 hr _ (sk hk hs) loc_const hg (fun a W x hb hd _ => by
    obtain ⟨u1, u2, u3, e, h1, h2, h3⟩ := dep_k hd j hj hΓ
    exact ⟨u2, by simp [execOp, hop, e, Instr.extract, Result.andThen], h2⟩) hn
theorem ext32H (hr : ∀ W, S W W) (hk : ∀ W W', S W W' → IntKeep W W') (t : Tmp) (j : Nat) {R1 R2 R3 : Know} (hop : o.op = .extract (.tmp t) 2) (hj : (ons o).contains j = true) (hΓ : Γ[j]? = some (some t, fun _ => K3 R1 R2 R3)) (hs : IStable R3) (hg : GOK3 Γ o)
    (hn : walk3 S P DS w0 a0 T (Γ ++ [(o.dst, fun _ => R3)]) rest) : walk3 S P DS w0 a0 T Γ (o :: rest) :=
  opR3 hr _ (sk hk hs) loc_const hg (fun a W x hb hd _ => by
    obtain ⟨u1, u2, u3, e, h1, h2, h3⟩ := dep_k hd j hj hΓ
    exact ⟨u3, by simp [execOp, hop, e, Instr.extract, Result.andThen], h3⟩) hn
theorem callH (hk : ∀ W W', S W W' → IntKeep W W') (hof : ∀ W W', Below W.heap.size W W' → S W W') (f : FuncId) (K : Know) (hs : IStable K) (hg : GOK3 Γ o)
    (h : ∀ (a : Act) (W : World) (x : Nat → Value), S w0 W → deps x Γ a W (ons o) → (∀ t, t ∉ DS → a.eval (.tmp t) = a0.eval (.tmp t)) → ∃ args, (execOp a.eval o).run P W = .ok (.enter f args) W ∧ Calls P f args W (KP K W))
    (hn : walk3 S P DS w0 a0 T (Γ ++ [(o.dst, fun _ => K)]) rest) : walk3 S P DS w0 a0 T Γ (o :: rest) :=
  callR3 _ (sk hk hs) loc_const (fun W W' _ hb => hof W W' hb) hg (fun a W x hb hd hbase => by
    obtain ⟨args, h1, h2⟩ := h a W x hb hd hbase
    exact ⟨f, args, h1, h2⟩) hn
end
/-- a new block of the type that may turn. -/
def NewY (T : TypeId) (n B : Nat) : DK := fun _ u W => ∃ g, u = .pointer (some ⟨g, 0, none⟩) ∧ B ≤ g ∧ ∃ cs, W.heap[g]? = some (.cells cs T (0, 0)) ∧ cs.size = n
/-- the block is what it will be. -/
def DoneY (T : TypeId) (K : Know) (j B : Nat) : DK := fun x _ W => ∃ g, x j = .pointer (some ⟨g, 0, none⟩) ∧ B ≤ g ∧ ∃ cs, W.heap[g]? = some (.cells cs T (0, 0)) ∧ K (.agg cs) W
section
variable {Ty : TypeId} {K : Know} {P : Program} {DS : List Tmp} {w0 : World} {a0 : Act} {T : Ctx → Prop} {Γ : Ctx} {o : Oper} {rest : List Oper}
theorem NewY.st {n B : Nat} (hn : ∀ cs W, K (.agg cs) W → cs.size = n) : Stable (Sty Ty K B) (NewY Ty n B) := by
  rintro _ u W W' ⟨g, h1, h2, cs, h3, h4⟩ hS
  refine ⟨g, h1, h2, ?_⟩
  rcases hS.block g (Array.getElem?_eq_some_iff.1 h3).1 with e | ⟨_, _, cs', e, hk⟩
  · exact ⟨cs, e.trans h3, h4⟩
  · exact ⟨cs', e, hn _ _ hk⟩
theorem DoneY.st {j B : Nat} (hK : IStable K) : Stable (Sty Ty K B) (DoneY Ty K j B) := by
  rintro x u W W' ⟨g, h1, h2, cs, h3, h4⟩ hS
  refine ⟨g, h1, h2, ?_⟩
  rcases hS.block g (Array.getElem?_eq_some_iff.1 h3).1 with e | ⟨_, _, cs', e, hk⟩
  · exact ⟨cs, e.trans h3, hK _ _ _ h4 hS.keep⟩
  · exact ⟨cs', e, hk⟩
theorem allocH (hT : Ty ≠ 3) {n : Nat} (hn : ∀ cs W, K (.agg cs) W → cs.size = n) (cs : Array Value) (hcs : cs.size = n) (hg : GOK3 Γ o)
    (h : ∀ (a : Act) (W : World), (execOp a.eval o).run P W = .ok (.value (.pointer (some ⟨W.heap.size, 0, none⟩))) (W.alloc (.cells cs Ty)))
    (hr : walk3 (Sty Ty K w0.heap.size) P DS w0 a0 T (Γ ++ [(o.dst, NewY Ty n w0.heap.size)]) rest) : walk3 (Sty Ty K w0.heap.size) P DS w0 a0 T Γ (o :: rest) :=
  opW3 _ (NewY.st hn) loc_const hg (fun a W x hb hd hbase => ⟨_, _, h a W, ⟨_, rfl, hb.size, cs, heap_alloc_new W _, hcs⟩, Sty.of hT ((Below.refl _ _).alloc (Nat.le_refl _) _)⟩) hr
end
section
variable {P : Program} {DS : List Tmp} {w0 : World} {a0 : Act} {T : Ctx → Prop} {Γ : Ctx} {o : Oper} {rest : List Oper}
/-- a state stored into the new block. -/
theorem storeH {h lv : Int} {n : Nat} {l : List Int} (p v : Tmp) (jp jv : Nat) (hop : o.op = .store 30 (.tmp p) (.tmp v)) (hp : (ons o).contains jp = true) (hv : (ons o).contains jv = true)
    (hΓp : Γ[jp]? = some (some p, NewY 30 3 w0.heap.size)) (hΓv : Γ[jv]? = some (some v, fun _ => KTI h lv n l)) (hg : GOK3 Γ o)
    (hn : walk3 (Sty 30 (KTI h lv n l) w0.heap.size) Tryd.prog DS w0 a0 T (Γ ++ [(o.dst, DoneY 30 (KTI h lv n l) jp w0.heap.size)]) rest) : walk3 (Sty 30 (KTI h lv n l) w0.heap.size) Tryd.prog DS w0 a0 T Γ (o :: rest) :=
  ⟨_, DoneY.st (KTI.ik h lv n l), fun x y he v W ⟨g, h1, h2⟩ => ⟨g, by
      obtain ⟨e, he1, rfl⟩ := List.mem_map.1 (show jp ∈ ons o by simpa using hp)
      obtain ⟨he2, he3⟩ := List.mem_filter.1 he1
      rw [← he e (by simpa using he2) he3]
      exact h1, h2⟩, hg, fun a W x hb hd hbase K Q hK => by
    obtain ⟨e1, g, h1, h2, cs, h3, h4⟩ := dep_at hd jp hp hΓp
    obtain ⟨B, c, h5, h6, h7⟩ := dep_k hd jv hv hΓv
    obtain ⟨cl⟩ := cs
    match cl, h4 with
    | [u0, u1, u2], _ =>
    have hrun := run_storeS h3 hop h1 h5
    have hne : ∀ p, B = some p → p.block ≠ g := fun p hp => (h7 p hp).ne h3 (by decide)
    have hg' := set3_heap (.int .i64 (h)) (.int .i64 (lv)) (.slice B n c) h3
    have hkt : KTI h lv n l (.agg #[(.int .i64 (h)), (.int .i64 (lv)), .slice B n c]) (((W.setCell ⟨g, 0, none⟩ (.int .i64 (h))).setCell ⟨g, 1, none⟩ (.int .i64 (lv))).setCell ⟨g, 2, none⟩ (.slice B n c)) :=
      ⟨B, c, rfl, ((h6.sets (fun _ => hne) 0 _).sets (fun _ => hne) 1 _).sets (fun _ => hne) 2 _, fun p hp => (((h7 p hp).sets (hne p hp) 0 _).sets (hne p hp) 1 _).sets (hne p hp) 2 _⟩
    unfold Oper.wp
    rw [hrun]
    refine hK undef _ ⟨g, e1.trans h1, h2, _, hg', hkt⟩ ⟨rfl, rfl, rfl, by simp [World.setCell], by decide, fun k hk => ?_⟩
    rcases Nat.decEq k g with hkg | rfl
    · exact .inl (by rw [Below.heap_setCell _ _ _ _ hkg, Below.heap_setCell _ _ _ _ hkg, Below.heap_setCell _ _ _ _ hkg])
    · exact .inr ⟨h2, ⟨_, h3⟩, _, hg', hkt⟩, hn⟩
end
end RelH
end Go.Proofs.YtdeapbihbhoefaaDoor
