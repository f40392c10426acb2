/- Part 12 of the texts of the claim: H3, R1, C1, R2, Opn. -/
import Derived.Test.YtpkldjlljoledaaDoorMh11
import Derived.Test.YtpkldjlljoledaaDoorMh9
import Derived.Test.YtpkldjlljoledaaDoorMh5
import Derived.Test.YtpkldjlljoledaaDoorMh1

/- DriverHolds, plain: readings of a sweep have no error and a region that holds their driver; wider ones lose none. -/
namespace Go.Proofs.YtpkldjlljoledaaDoor

/-- (1) a reading of a sweep has no error. -/
theorem sweep1_ok {re le bl ma st lo p x : Int} (hF : Fit re le bl ma st lo x) (hp : 0 ≤ p ∧ p ≤ 50) : readErr (sweep1 re le bl ma st lo p x).1 (sweep1 re le bl ma st lo p x).2.1 (sweep1 re le bl ma st lo p x).2.2 = 0 := by
  obtain ⟨⟨v1, _⟩, d1, _⟩ := v_bds hF
  have hl := level_le hF
  obtain ⟨s1, s2⟩ := sweep_fits v1 d1 hp
  have hw := hF.w
  unfold sweep1
  simp only []
  generalize vN re le bl ma st lo x = V at *
  generalize vD ma st lo x = D at *
  have hD : 0 < D * 100 := by omega
  have a0 : 0 ≤ V * (100 - p) / (D * 100) := Int.ediv_nonneg (Int.mul_nonneg v1 (by omega)) (by omega)
  have b1 : (V * (100 + p) + D * 100 - 1) / (D * 100) < 506702 := by
    apply Int.ediv_lt_of_lt_mul hD
    have h1 : V * p ≤ V * 50 := Int.mul_le_mul_of_nonneg_left hp.2 v1
    have h2 : V * (100 + p) = V * 100 + V * p := Int.mul_add ..
    omega
  generalize V * (100 - p) / (D * 100) = a at *
  generalize (V * (100 + p) + D * 100 - 1) / (D * 100) = b at *
  have hab : a * D ≤ b * D := Int.le_trans s1 s2
  have hab : a ≤ b := Int.le_of_mul_le_mul_right hab (by omega)
  unfold readErr
  rw [firstOf_eq_zero]
  simp only [List.mem_cons, List.not_mem_nil, or_false, forall_eq_or_imp, forall_eq]
  exact ⟨rangeErr_zero.2 hw, rangeErr_zero.2 (by omega), rangeErr_zero.2 (by omega), if_neg (by omega)⟩
theorem readsErr_of {zs : List (Int × Int × Int)} (h : ∀ z ∈ zs, readErr z.1 z.2.1 z.2.2 = 0) (hn : zs.length ≤ 32) : readsErr zs = 0 := by
  unfold readsErr readErrs
  rw [if_neg (by omega), firstOf_eq_zero]
  intro x hx
  obtain ⟨z, hz, rfl⟩ := List.mem_map.1 hx
  exact h z hz
theorem readsErr_all {zs : List (Int × Int × Int)} (h : readsErr zs = 0) : zs.length ≤ 32 ∧ ∀ z ∈ zs, readErr z.1 z.2.1 z.2.2 = 0 := by
  unfold readsErr at h
  by_cases hn : 32 < zs.length
  · rw [if_pos hn] at h; omega
  · rw [if_neg hn, firstOf_eq_zero] at h
    refine ⟨by omega, fun z hz => h _ ?_⟩
    unfold readErrs
    exact List.mem_map.2 ⟨z, hz, rfl⟩
theorem sweepL_ok {re le bl ma st lo p : Int} {ws : List Int} (hd : drvErr re le bl ma st lo = 0) (hw : ∀ x ∈ ws, 1 ≤ x ∧ x ≤ 8) (hp : 0 ≤ p ∧ p ≤ 50) : ∀ z ∈ sweepL re le bl ma st lo p ws, readErr z.1 z.2.1 z.2.2 = 0 := by
  intro z hz
  unfold sweepL at hz
  obtain ⟨x, hx, rfl⟩ := List.mem_map.1 hz
  exact sweep1_ok (fit_of hd (hw x hx)) hp
/-- (2) the driver explains its sweep. -/
theorem sweep_explB {re le bl ma st lo p : Int} {ws : List Int} (hd : drvErr re le bl ma st lo = 0) (hw : ∀ x ∈ ws, 1 ≤ x ∧ x ≤ 8) (hp : 0 ≤ p ∧ p ≤ 50) : explB re le bl ma st lo (sweepL re le bl ma st lo p ws) = true := by
  unfold explB sweepL
  rw [List.all_eq_true]
  intro z hz
  obtain ⟨x, hx, rfl⟩ := List.mem_map.1 hz
  have hF := fit_of hd (hw x hx)
  obtain ⟨⟨v1, _⟩, d1, _⟩ := v_bds hF
  unfold fitB sweep1
  exact decide_eq_true (sweep_fits v1 d1 hp)
/-- (3) who explains a sweep explains one with a greater error. -/
theorem sweep_wider {re le bl ma st lo a b c p : Int} {ws : List Int} (hd : drvErr re le bl ma st lo = 0) (hd' : drvErr re le bl a b c = 0) (hw : ∀ x ∈ ws, 1 ≤ x ∧ x ≤ 8) (hp : 0 ≤ p ∧ p ≤ 49)
    (h : explB re le bl a b c (sweepL re le bl ma st lo p ws) = true) : explB re le bl a b c (sweepL re le bl ma st lo (p + 1) ws) = true := by
  unfold explB sweepL at h ⊢
  rw [List.all_eq_true] at h ⊢
  intro z hz
  obtain ⟨x, hx, rfl⟩ := List.mem_map.1 hz
  have h1 := h _ (List.mem_map.2 ⟨x, hx, rfl⟩)
  obtain ⟨⟨v1, _⟩, d1, _⟩ := v_bds (fit_of hd (hw x hx))
  obtain ⟨⟨u1, _⟩, e1, _⟩ := v_bds (fit_of hd' (hw x hx))
  unfold fitB sweep1 at h1 ⊢
  simp only [decide_eq_true_eq] at h1 ⊢
  generalize vN re le bl ma st lo x = V at *
  generalize vD ma st lo x = D at *
  generalize vN re le bl a b c x = U at *
  generalize vD a b c x = E at *
  have q1 : V * (100 - (p + 1)) / (D * 100) ≤ V * (100 - p) / (D * 100) := Int.ediv_le_ediv (by omega) (Int.mul_le_mul_of_nonneg_left (by omega) v1)
  have q2 : (V * (100 + p) + D * 100 - 1) / (D * 100) ≤ (V * (100 + (p + 1)) + D * 100 - 1) / (D * 100) := Int.ediv_le_ediv (by omega) (by
    have : V * (100 + p) ≤ V * (100 + (p + 1)) := Int.mul_le_mul_of_nonneg_left (by omega) v1
    omega)
  exact ⟨Int.le_trans (Int.mul_le_mul_of_nonneg_right q1 (by omega)) h1.1, Int.le_trans h1.2 (Int.mul_le_mul_of_nonneg_right q2 (by omega))⟩
theorem drv_ok {re le bl ma st lo m k r : Int} (h : classErr re le bl ma st lo m k r = 0) {x : Int × Int × Int} (hx : x ∈ drvs ma st lo m k r) : drvErr re le bl x.1 x.2.1 x.2.2 = 0 := by
  obtain ⟨h1, _⟩ := classErr_zero h
  obtain ⟨hd, ⟨a1, a2⟩, ⟨a3, a4⟩, ⟨a5, a6⟩⟩ := class_zero h1
  obtain ⟨_, _, _, b1, b2, b3⟩ := drvErr_zero hd
  obtain ⟨⟨c1, c2⟩, ⟨c3, c4⟩, ⟨c5, c6⟩⟩ := mem_drvs hx
  exact drvErr_move hd ⟨by omega, by omega⟩ ⟨by omega, by omega⟩ ⟨by omega, by omega⟩
theorem drvs_mem {ma st lo m k r : Int} {x : Int × Int × Int} (h1 : ma ≤ x.1 ∧ x.1 ≤ m) (h2 : st ≤ x.2.1 ∧ x.2.1 ≤ k) (h3 : lo ≤ x.2.2 ∧ x.2.2 ≤ r) : x ∈ drvs ma st lo m k r := by
  simp only [drvs, rowM, rowS, rowL, List.mem_flatMap, List.mem_map, List.mem_range]
  obtain ⟨a, b, c⟩ := x
  simp only at h1 h2 h3
  refine ⟨(a - ma).toNat, by omega, (b - st).toNat, by omega, (c - lo).toNat, by omega, ?_⟩
  rw [Int.toNat_of_nonneg (by omega), Int.toNat_of_nonneg (by omega), Int.toNat_of_nonneg (by omega), show ma + (a - ma) = a by omega, show st + (b - st) = b by omega, show lo + (c - lo) = c by omega]
/-- (3) regions: the wider one holds the other, in order. -/
theorem reg_wider {re le bl ma st lo m k r a b c p : Int} {ws : List Int} (h : classErr re le bl ma st lo m k r = 0) (hx : (a, b, c) ∈ drvs ma st lo m k r) (hw : ∀ x ∈ ws, 1 ≤ x ∧ x ≤ 8) (hp : 0 ≤ p ∧ p ≤ 49) :
    (regD re le bl ma st lo m k r (sweepL re le bl a b c p ws)).Sublist (regD re le bl ma st lo m k r (sweepL re le bl a b c (p + 1) ws)) := by
  unfold regD
  have hd := drv_ok h hx
  have e : (drvs ma st lo m k r).filter (fun x => explB re le bl x.1 x.2.1 x.2.2 (sweepL re le bl a b c p ws)) = ((drvs ma st lo m k r).filter fun x => explB re le bl x.1 x.2.1 x.2.2 (sweepL re le bl a b c (p + 1) ws)).filter (fun x => explB re le bl x.1 x.2.1 x.2.2 (sweepL re le bl a b c p ws)) := by
    rw [List.filter_filter]
    apply List.filter_congr
    intro y hy
    cases hh : explB re le bl y.1 y.2.1 y.2.2 (sweepL re le bl a b c p ws)
    · rfl
    · rw [sweep_wider hd (drv_ok h hy) hw hp hh]; rfl
  rw [e]
  exact List.filter_sublist
theorem reg_holds {re le bl ma st lo m k r a b c p : Int} {ws : List Int} (h : classErr re le bl ma st lo m k r = 0) (hx : (a, b, c) ∈ drvs ma st lo m k r) (hw : ∀ x ∈ ws, 1 ≤ x ∧ x ≤ 8) (hp : 0 ≤ p ∧ p ≤ 50) :
    (a, b, c) ∈ regD re le bl ma st lo m k r (sweepL re le bl a b c p ws) := List.mem_filter.2 ⟨hx, sweep_explB (drv_ok h hx) hw hp⟩
theorem reg_explains {re le bl ma st lo m k r : Int} {zs : List (Int × Int × Int)} {y : Int × Int × Int} (h : y ∈ regD re le bl ma st lo m k r zs) : y ∈ drvs ma st lo m k r ∧ explB re le bl y.1 y.2.1 y.2.2 zs = true := List.mem_filter.1 h
theorem regD_len (re le bl ma st lo m k r : Int) (zs : List (Int × Int × Int)) : (regD re le bl ma st lo m k r zs).length ≤ (drvs ma st lo m k r).length := List.length_filter_le _ _
theorem someL_ok {zs : List (Int × Int × Int)} {l : List Nat} (h : ∀ z ∈ zs, readErr z.1 z.2.1 z.2.2 = 0) (hl : ∀ i ∈ l, i < zs.length) : ∀ z ∈ someL zs l, readErr z.1 z.2.1 z.2.2 = 0 := by
  intro z hz
  unfold someL at hz
  obtain ⟨i, hi, rfl⟩ := List.mem_map.1 hz
  apply h
  rw [List.getD_eq_getElem?_getD, List.getElem?_eq_getElem (hl i hi)]
  exact List.getElem_mem (hl i hi)
/-- what the search along the wider region finds. -/
theorem seek_next {α : Type} [DecidableEq α] {y : α} {t b : List α} {at' : Nat} (h : (y :: t).Sublist (b.drop at')) :
    at' < b.length ∧ ((∃ x, b[at']? = some x ∧ x ≠ y ∧ (y :: t).Sublist (b.drop (at' + 1))) ∨ b[at']? = some y ∧ t.Sublist (b.drop at')) := by
  have hlt : at' < b.length := by
    rcases Nat.lt_or_ge at' b.length with h1 | h1
    · exact h1
    · rw [List.drop_eq_nil_of_le h1] at h; cases h
  refine ⟨hlt, ?_⟩
  rw [List.drop_eq_getElem_cons hlt] at h
  rw [List.getElem?_eq_getElem hlt]
  by_cases e : b[at'] = y
  · refine .inr ⟨by rw [e], ?_⟩
    rw [List.drop_eq_getElem_cons hlt]
    cases h with
    | cons _ h2 => exact ((List.sublist_cons_self y t).trans h2).trans (List.sublist_cons_self _ _)
    | cons_cons _ h2 => exact h2.trans (List.sublist_cons_self _ _)
  · refine .inl ⟨_, rfl, e, ?_⟩
    cases h with
    | cons _ h2 => exact h2
    | cons_cons _ h2 => exact absurd rfl e
end Go.Proofs.YtpkldjlljoledaaDoor

/- Contracts of the statements' readings and told: lists of readings, converted. -/
namespace Go.Proofs.YtpkldjlljoledaaDoor
open Go.RowKit
open Calm (bcell Blk)

/-- a row of readings is a list of readings. -/
theorem own_reads {W : World} {base n : Nat} {e : TypeId} {v : Value} {zs : List (Int × Int × Int)} (h : W.ownsRow base e 3 v n (flat3 zs)) (hn : n = zs.length) : ∃ A c, v = .slice A n c ∧ (∀ p, A = some p → base ≤ p.block) ∧ RCells W A zs := by
  rcases h.2 with ⟨h1, h2⟩ | ⟨g, cap, cur, h1, h2, h3, h4, h5, h6, h7⟩
  · exact ⟨none, 0, by rw [h1, h2], by simp, fun h0 => by omega⟩
  · refine ⟨some ⟨g, 0, none⟩, cap, h1, by rintro p ⟨⟩; exact h2, fun h0 => ⟨g, 0, rfl, (Array.getElem?_eq_some_iff.1 h3).1, fun k hk => ?_⟩⟩
    obtain ⟨f1, f2, f3⟩ := flat3_at zs k hk
    have look : ∀ j v, (flat3 zs)[j]? = some v → W.cell? ⟨g, j, none⟩ = some v := by
      intro j v hj
      rw [cell_of_row W g j cur _ _ h3]
      rw [← h7, List.getElem?_take] at hj
      split at hj
      · rw [← hj]; simp
      · cases hj
    simp only [Nat.zero_add]
    exact ⟨look _ _ f1, look _ _ f2, look _ _ f3⟩
theorem Tryd.infoQ : (Tryd.prog.info? 160).map (fun i => (i.zero, i.size, i.bytes)) = some (some (.agg #[.int .i64 0, .int .i64 0, .int .i64 0]), 3, 24) := by kernel_rfl

theorem take_flat {zs : List (Int × Int × Int)} {k : Nat} (hk : k < zs.length) : flat3 (zs.take (k + 1)) = flat3 (zs.take k) ++ [(.int .i64 ((zs.getD k (0, 0, 0)).1)), (.int .i64 ((zs.getD k (0, 0, 0)).2.1)), (.int .i64 ((zs.getD k (0, 0, 0)).2.2))] := by
  rw [List.take_succ_eq_append_getElem hk, flat3_append, List.getD_eq_getElem?_getD, List.getElem?_eq_getElem hk]
  rfl
set_option maxHeartbeats 4000000 in
set_option maxRecDepth 100000 in
theorem readings_any (A : Option Addr) (zs : List (Int × Int × Int)) (c : Nat) (w : World) (hC : RCells w A zs) (hn : zs.length ≤ 100000) :
    Calls Tryd.prog 66 #[.slice A zs.length c] w fun r w' => ∃ B e, r = .returned (.slice B zs.length e) ∧ (∀ p, B = some p → w.heap.size ≤ p.block) ∧ RCells w' B zs ∧ Below w.heap.size w w' := by
  obtain ⟨i0, hi, hz0, hz1, hz2⟩ := info_parts Tryd.infoR
  have HC := Lib.hid hC
  obtain ⟨N, hN⟩ : ∃ N, N = zs.length := ⟨_, rfl⟩
  have HN := Lib.hid hN
  rw [← hN] at hn ⊢
  clear hC hN
  go_enter Tryd.func66, Tryd.ntmps66
  go_wp2
  go_loopw [3, 8] (fun v i wr => ∃ k : Nat, k ≤ N ∧ i = (.int .i64 (k)) ∧ wr.ownsRow w.heap.size 126 3 v k (flat3 (zs.take k)) ∧ Below w.heap.size w wr) (fun _ i _ => N - (intOf i).toNat)
  case atStart => exact ⟨0, Nat.zero_le _, rfl, World.ownsRow_nil _ _ _ _, Below.refl _ _⟩
  case round =>
    obtain ⟨k, hk, rfl, hown, hB⟩ := hrel
    have hsz := hB.size
    have HO := Lib.hid hown
    clear hown
    by_cases hlt : k < N
    · have hlt2 : k < zs.length := by rw [← HN.out]; exact hlt
      obtain ⟨b, o, rfl, l1, k1⟩ := HC.out (by omega)
      obtain ⟨x1, x2, x3⟩ := k1 k hlt2
      have x1 := (hB.cell (p := ⟨b, o + k * 3, none⟩) l1).trans x1
      have x2 := (hB.cell (p := ⟨b, o + k * 3 + 1, none⟩) l1).trans x2
      have x3 := (hB.cell (p := ⟨b, o + k * 3 + 2, none⟩) l1).trans x3
      have HS := Lib.hid (take_flat hlt2)
      clear k1 hlt2
      obtain ⟨⟨x, y, z⟩, hx⟩ : ∃ x, x = zs.getD k (0, 0, 0) := ⟨_, rfl⟩
      rw [← hx] at x1 x2 x3
      have HX := Lib.hid hx
      clear hx
      simp only [] at x1 x2 x3
      go_wp2_with (at_builtin; refine wpList_append_own _ rfl _ _ 110 rfl w.heap.size 126 i0 _ 3 24 Tryd.underlying110 hi hz0 hz1 hz2 rfl (by decide) _ _ _ rfl ((ownsRow_below HO.out ((Below.refl _ _).alloc (Nat.le_refl _) _)).alloc _) ⟨wr.heap.size + 1, 0, none⟩ 1 1 [(.int .i64 (x)), (.int .i64 (y)), (.int .i64 (z))] rfl rfl ?c1 ?c2 ?c3 ?c4 ?c5 ?_)
      case c1 =>
        intro j u hj
        match j, hj with
        | 0, hj => simp at hj; subst hj; simp [Addr.add]
        | 1, hj => simp at hj; subst hj; simp [Addr.add]
        | 2, hj => simp at hj; subst hj; simp [Addr.add]
      case c2 => intro u hu; simp at hu; rcases hu with rfl | rfl | rfl <;> rfl
      case c3 => unfold maxLen; omega
      case c4 => omega
      case c5 => simp; omega
      intro v' w2 hown' hgrow _
      have hB' : Below w.heap.size w w2 := ((hB.alloc hsz _).alloc (by simp; omega) _).grown hgrow (by simp; omega) (fun j hj => (HO.out.lt j hj).1)
      have HO2 := Lib.hid hown'
      clear hgrow hown'
      go_wp2
      go_roundw
      case rel => exact ⟨k + 1, by omega, by go_num, by rw [HS.out, ← HX.out]; exact HO2.out, hB'⟩
      case measure => simp [intOf]; omega
    · obtain rfl : k = N := by omega
      have e : zs.take k = zs := by rw [HN.out]; exact List.take_length
      have hown := HO.out
      rw [e] at hown
      obtain ⟨B, cc, rfl, hbb, hr⟩ := own_reads hown HN.out
      have HR := Lib.hid hr
      have HBB := Lib.hid hbb
      clear hr hbb hown e
      go_wp2
      go_ret
      exact ⟨B, cc, rfl, HBB.out, HR.out, hB⟩
set_option maxHeartbeats 4000000 in
set_option maxRecDepth 100000 in
theorem told_any (A : Option Addr) (zs : List (Int × Int × Int)) (c : Nat) (w : World) (hC : RCells w A zs) (hn : zs.length ≤ 100000) :
    Calls Tryd.prog 62 #[.slice A zs.length c] w fun r w' => ∃ B e, r = .returned (.slice B zs.length e) ∧ (∀ p, B = some p → w.heap.size ≤ p.block) ∧ RCells w' B zs ∧ Below w.heap.size w w' := by
  obtain ⟨i0, hi, hz0, hz1, hz2⟩ := info_parts Tryd.infoQ
  have HC := Lib.hid hC
  obtain ⟨N, hN⟩ : ∃ N, N = zs.length := ⟨_, rfl⟩
  have HN := Lib.hid hN
  rw [← hN] at hn ⊢
  clear hC hN
  go_enter Tryd.func62, Tryd.ntmps62
  go_wp2
  go_loopw [3, 8] (fun v i wr => ∃ k : Nat, k ≤ N ∧ i = (.int .i64 (k)) ∧ wr.ownsRow w.heap.size 160 3 v k (flat3 (zs.take k)) ∧ Below w.heap.size w wr) (fun _ i _ => N - (intOf i).toNat)
  case atStart => exact ⟨0, Nat.zero_le _, rfl, World.ownsRow_nil _ _ _ _, Below.refl _ _⟩
  case round =>
    obtain ⟨k, hk, rfl, hown, hB⟩ := hrel
    have hsz := hB.size
    have HO := Lib.hid hown
    clear hown
    by_cases hlt : k < N
    · have hlt2 : k < zs.length := by rw [← HN.out]; exact hlt
      obtain ⟨b, o, rfl, l1, k1⟩ := HC.out (by omega)
      obtain ⟨x1, x2, x3⟩ := k1 k hlt2
      have x1 := (hB.cell (p := ⟨b, o + k * 3, none⟩) l1).trans x1
      have x2 := (hB.cell (p := ⟨b, o + k * 3 + 1, none⟩) l1).trans x2
      have x3 := (hB.cell (p := ⟨b, o + k * 3 + 2, none⟩) l1).trans x3
      have HS := Lib.hid (take_flat hlt2)
      clear k1 hlt2
      obtain ⟨⟨x, y, z⟩, hx⟩ : ∃ x, x = zs.getD k (0, 0, 0) := ⟨_, rfl⟩
      rw [← hx] at x1 x2 x3
      have HX := Lib.hid hx
      clear hx
      simp only [] at x1 x2 x3
      go_wp2_with (at_builtin; refine wpList_append_own _ rfl _ _ 102 rfl w.heap.size 160 i0 _ 3 24 Tryd.underlying102 hi hz0 hz1 hz2 rfl (by decide) _ _ _ rfl ((ownsRow_below HO.out ((Below.refl _ _).alloc (Nat.le_refl _) _)).alloc _) ⟨wr.heap.size + 1, 0, none⟩ 1 1 [(.int .i64 (x)), (.int .i64 (y)), (.int .i64 (z))] rfl rfl ?c1 ?c2 ?c3 ?c4 ?c5 ?_)
      case c1 =>
        intro j u hj
        match j, hj with
        | 0, hj => simp at hj; subst hj; simp [Addr.add]
        | 1, hj => simp at hj; subst hj; simp [Addr.add]
        | 2, hj => simp at hj; subst hj; simp [Addr.add]
      case c2 => intro u hu; simp at hu; rcases hu with rfl | rfl | rfl <;> rfl
      case c3 => unfold maxLen; omega
      case c4 => omega
      case c5 => simp; omega
      intro v' w2 hown' hgrow _
      have hB' : Below w.heap.size w w2 := ((hB.alloc hsz _).alloc (by simp; omega) _).grown hgrow (by simp; omega) (fun j hj => (HO.out.lt j hj).1)
      have HO2 := Lib.hid hown'
      clear hgrow hown'
      go_wp2
      go_roundw
      case rel => exact ⟨k + 1, by omega, by go_num, by rw [HS.out, ← HX.out]; exact HO2.out, hB'⟩
      case measure => simp [intOf]; omega
    · obtain rfl : k = N := by omega
      have e : zs.take k = zs := by rw [HN.out]; exact List.take_length
      have hown := HO.out
      rw [e] at hown
      obtain ⟨B, cc, rfl, hbb, hr⟩ := own_reads hown HN.out
      have HR := Lib.hid hr
      have HBB := Lib.hid hbb
      clear hr hbb hown e
      go_wp2
      go_ret
      exact ⟨B, cc, rfl, HBB.out, HR.out, hB⟩
end Go.Proofs.YtpkldjlljoledaaDoor

/- Contracts of the reference's checks. %still -/
namespace Go.Proofs.YtpkldjlljoledaaDoor
open Go.RowKit
open Calm (bcell Blk)

theorem qFirst_any (l : List Int) (b off c : Nat) (w : World) (hl : l.length ≤ 64) (hc : ∀ k, k < l.length → w.cell? ⟨b, off + k, none⟩ = some (.int .i64 (l.getD k 0))) :
    Calls Tryd.prog 16 #[.slice (some ⟨b, off, none⟩) l.length c] w fun r w' => r = .returned (.int .i64 (firstOf l)) ∧ w = w' := by
  go_enter Tryd.func16, Tryd.ntmps16
  go_wp2
  go_loop [3] (fun i => ∃ k : Nat, k ≤ l.length ∧ i = (.int .i64 (k)) ∧ ∀ j, j < k → l.getD j 0 = 0) (fun i => l.length - (intOf i).toNat)
  case atStart => exact ⟨0, Nat.zero_le _, rfl, fun j hj => by omega⟩
  case round =>
    obtain ⟨k, hk, rfl, hz⟩ := hrel
    have HZ := Lib.hid hz
    clear hz
    by_cases hlt : k < l.length
    · have hck := hc k hlt
      clear hc
      by_cases h0 : l.getD k 0 = 0
      · rw [h0] at hck
        have H0 := Lib.hid h0
        clear h0
        go_wp2
        go_round
        case rel => exact ⟨k + 1, by omega, by go_num, fun j hj => by
          rcases Nat.lt_or_ge j k with hjk | hjk
          · exact HZ.out j hjk
          · obtain rfl : j = k := by omega
            exact H0.out⟩
        case measure => simp [intOf]; omega
      · obtain ⟨x, hx⟩ : ∃ x, x = l.getD k 0 := ⟨_, rfl⟩
        rw [← hx] at hck h0
        have H0 := Lib.hid hx
        clear hx
        go_wp2
        go_ret
        exact ⟨ret_i (by rw [firstOf_take HZ.out hlt (by rw [← H0.out]; exact h0)]; exact H0.out), rfl⟩
    · clear hc
      go_wp2
      go_ret
      exact ⟨ret_i (by rw [firstOf_zero (fun j hj => HZ.out j (by omega))]), rfl⟩

theorem checkRange_any (n lo hi : Int) (w : World) : Calls Tryd.prog 40 #[(.int .i64 (n)), (.int .i64 (lo)), (.int .i64 (hi))] w fun r w' => r = .returned (.int .i64 (rangeErr n lo hi)) ∧ w = w' := by
  by_cases h1 : n < lo
  · rw [rangeErr_lo h1]
    go_enter Tryd.func40, Tryd.ntmps40
    go_wp2
    go_ret
    exact ⟨rfl, rfl⟩
  · by_cases h2 : hi < n
    · rw [rangeErr_hi h2]
      go_enter Tryd.func40, Tryd.ntmps40
      go_wp2
      go_ret
      exact ⟨rfl, rfl⟩
    · rw [rangeErr_in (by omega) (by omega)]
      go_enter Tryd.func40, Tryd.ntmps40
      go_wp2
      go_ret
      exact ⟨rfl, rfl⟩
theorem refCheckW_any (n : Int) (w : World) : Calls Tryd.prog 18 #[(.int .i64 (n))] w fun r w' => r = .returned (.int .i64 (rangeErr n 1 8)) ∧ w = w' := by
  go_enter Tryd.func18, Tryd.ntmps18
  go_wp2_with (first | (go_at_call 40; refine (checkRange_any _ _ _ _).mono ?_; rintro r w1 ⟨rfl, rfl⟩))
  go_ret
  exact ⟨rfl, rfl⟩
theorem qFirst2_any (a b : Int) (W : World) : Calls Tryd.prog 16 #[.slice (some ⟨W.heap.size, 0, none⟩) 2 2] (W.alloc (.cells #[(.int .i64 (a)), (.int .i64 (b))] 3)) fun r w' => r = .returned (.int .i64 (firstOf [a, b])) ∧ W.alloc (.cells #[(.int .i64 (a)), (.int .i64 (b))] 3) = w' :=
  qFirst_any [a, b] W.heap.size 0 2 _ (by simp) fun k hk => by
    have : k = 0 ∨ k = 1 := by simp at hk; omega
    rcases this with rfl | rfl <;> simp
theorem qFirst3_any (a b c : Int) (W : World) : Calls Tryd.prog 16 #[.slice (some ⟨W.heap.size, 0, none⟩) 3 3] (W.alloc (.cells #[(.int .i64 (a)), (.int .i64 (b)), (.int .i64 (c))] 3)) fun r w' => r = .returned (.int .i64 (firstOf [a, b, c])) ∧ W.alloc (.cells #[(.int .i64 (a)), (.int .i64 (b)), (.int .i64 (c))] 3) = w' :=
  qFirst_any [a, b, c] W.heap.size 0 3 _ (by simp) fun k hk => by
    have : k = 0 ∨ k = 1 ∨ k = 2 := by simp at hk; omega
    rcases this with rfl | rfl | rfl <;> simp
theorem qFirst4_any (a b c d : Int) (W : World) : Calls Tryd.prog 16 #[.slice (some ⟨W.heap.size, 0, none⟩) 4 4] (W.alloc (.cells #[(.int .i64 (a)), (.int .i64 (b)), (.int .i64 (c)), (.int .i64 (d))] 3)) fun r w' => r = .returned (.int .i64 (firstOf [a, b, c, d])) ∧ W.alloc (.cells #[(.int .i64 (a)), (.int .i64 (b)), (.int .i64 (c)), (.int .i64 (d))] 3) = w' :=
  qFirst_any [a, b, c, d] W.heap.size 0 4 _ (by simp) fun k hk => by
    have : k = 0 ∨ k = 1 ∨ k = 2 ∨ k = 3 := by simp at hk; omega
    rcases this with rfl | rfl | rfl | rfl <;> simp
theorem qFirst6_any (a b c d e f : Int) (W : World) : Calls Tryd.prog 16 #[.slice (some ⟨W.heap.size, 0, none⟩) 6 6] (W.alloc (.cells #[(.int .i64 (a)), (.int .i64 (b)), (.int .i64 (c)), (.int .i64 (d)), (.int .i64 (e)), (.int .i64 (f))] 3)) fun r w' => r = .returned (.int .i64 (firstOf [a, b, c, d, e, f])) ∧ W.alloc (.cells #[(.int .i64 (a)), (.int .i64 (b)), (.int .i64 (c)), (.int .i64 (d)), (.int .i64 (e)), (.int .i64 (f))] 3) = w' :=
  qFirst_any [a, b, c, d, e, f] W.heap.size 0 6 _ (by simp) fun k hk => by
    have : k = 0 ∨ k = 1 ∨ k = 2 ∨ k = 3 ∨ k = 4 ∨ k = 5 := by simp at hk; omega
    rcases this with rfl | rfl | rfl | rfl | rfl | rfl <;> simp
set_option maxHeartbeats 1000000 in
theorem refCheckDriver_any (re le bl ma st lo : Int) (w : World) :
    Calls Tryd.prog 17 #[.agg #[(.int .i64 (re)), (.int .i64 (le)), (.int .i64 (bl)), (.int .i64 (ma)), (.int .i64 (st)), (.int .i64 (lo))]] w fun r w' => r = .returned (.int .i64 (drvErr re le bl ma st lo)) ∧ Below w.heap.size w w' := by
  have hE : drvErr re le bl ma st lo = firstOf [rangeErr re 1 50, rangeErr le 0 10, rangeErr bl 1 20, rangeErr ma 1 100, rangeErr st 1 5000, rangeErr lo 1 100] := rfl
  rw [hE]
  clear hE
  go_enter Tryd.func17, Tryd.ntmps17
  go_wp2
  refine Calm.still_tail 18 (by kernel_rfl) (by kernel_rfl) ?_
  simp only [List.take_succ_cons, List.take_zero, List.drop_succ_cons, List.drop_zero]
  repeat (first | (first | (apply Calm.still_op_move; (focus rfl); (focus (first | exact .inl rfl | exact .inr rfl)); (focus ((try simp only [Act.eval, Array.getD_eq_getD_getElem?, List.getElem?_toArray, List.getElem?_cons_succ, List.getElem?_cons_zero, Option.getD_some]); rfl)); (try simp only [Act.put, List.setIfInBounds_toArray, List.set_cons_zero, List.set_cons_succ])) | (apply Calm.still_op_not; (focus rfl); (try simp only [Act.put, List.setIfInBounds_toArray, List.set_cons_zero, List.set_cons_succ])) | (apply Calm.still_op; (focus rfl); (focus (intro W hb; obtain ⟨hc, hf⟩ := bcell hb; clear hb hf; go_simp; (try go_bits); (try rfl); done)); (try simp only [Act.put, List.setIfInBounds_toArray, List.set_cons_zero, List.set_cons_succ]))) | (apply Calm.still_op_call; (focus rfl); (focus (intro W hb; obtain ⟨hc, hf⟩ := bcell hb; clear hb hf; go_simp; refine ⟨?_, ?_⟩; rfl; rfl)); (focus (intro W hb; first | (go_at_call 40; exact Calm.call_same hb (checkRange_any _ _ _ _)))); (try simp only [Act.put, List.setIfInBounds_toArray, List.set_cons_zero, List.set_cons_succ])))
  refine Calm.still_nil ?_
  intro w1 hb
  obtain ⟨hbc, hbf⟩ := bcell hb
  have hbz := hb.size
  (try simp at hbz)
  (try have hbz0 : w.heap.size < w1.heap.size := by omega)
  (try have hbz1 : w.heap.size + 1 < w1.heap.size := by omega)
  (try have hbz2 : w.heap.size + 1 + 1 < w1.heap.size := by omega)
  (try have hbz3 : w.heap.size + 1 + 1 + 1 < w1.heap.size := by omega)
  (try have hbz4 : w.heap.size + 1 + 1 + 1 + 1 < w1.heap.size := by omega)
  (try have hbz5 : w.heap.size + 1 + 1 + 1 + 1 + 1 < w1.heap.size := by omega)
  go_wp2_with (first | (go_at_call 16; refine (qFirst6_any _ _ _ _ _ _ _).mono ?_; rintro r w1 ⟨rfl, rfl⟩))
  go_ret
  refine ⟨by first | rfl | (simp; done), ?_⟩
  repeat (first | (with_reducible exact Below.refl _ _) | ((with_reducible refine Below.setCell ?_ ?_ _); rotate_left 1; focus (first | (simp; done) | (simp; omega) | (simp at *; omega))) | ((with_reducible refine Below.alloc ?_ ?_ _); rotate_left 1; focus (first | (simp; done) | (simp; omega) | (simp at *; omega))) | (with_reducible refine Below.drew ?_) | ((with_reducible refine Calm.step (by assumption) ?_ ?_); rotate_left 1; focus (first | (simp; done) | (simp; omega) | (simp at *; omega))))
end Go.Proofs.YtpkldjlljoledaaDoor

/- Contracts of the reference's CheckReadings, CheckSweep and CheckClass. -/
namespace Go.Proofs.YtpkldjlljoledaaDoor
open Go.RowKit
open Calm (bcell Blk)

theorem firstOf_more {a b c d : Int} (h : firstOf [a, b, c] ≠ 0) : firstOf [a, b, c, d] = firstOf [a, b, c] := by
  unfold firstOf at *
  by_cases h1 : a = 0 <;> by_cases h2 : b = 0 <;> by_cases h3 : c = 0 <;> simp_all
theorem firstOf_then {a b c d : Int} (h : firstOf [a, b, c] = 0) : firstOf [a, b, c, d] = d := by
  have := firstOf_eq_zero.1 h
  simp only [List.mem_cons, List.not_mem_nil, or_false, forall_eq_or_imp, forall_eq] at this
  obtain ⟨rfl, rfl, rfl⟩ := this
  unfold firstOf
  by_cases h4 : d = 0 <;> simp_all
set_option maxRecDepth 100000 in
set_option maxHeartbeats 4000000 in
theorem refCheckReadings_any (A : Option Addr) (zs : List (Int × Int × Int)) (c : Nat) (w : World) (hC : RCells w A zs) :
    Calls Tryd.prog 60 #[.slice A zs.length c] w fun r w' => r = .returned (.int .i64 (readsErr zs)) ∧ Below w.heap.size w w' := by
  obtain ⟨R, hR⟩ : ∃ R, R = readsErr zs := ⟨_, rfl⟩
  rw [← hR]
  unfold readsErr at hR
  obtain ⟨N, hN⟩ : ∃ N, N = zs.length := ⟨_, rfl⟩
  have HN := Lib.hid hN
  rw [← hN] at hR ⊢
  have HC := Lib.hid hC
  clear hC hN
  by_cases hlong : 32 < N
  · rw [if_pos hlong] at hR
    subst hR
    go_enter Tryd.func60, Tryd.ntmps60
    go_wp2
    go_ret
    exact ⟨rfl, Below.refl _ _⟩
  · rw [if_neg hlong] at hR
    have HR := Lib.hid hR
    clear hR
    have hN32 : N ≤ 32 := by omega
    go_enter Tryd.func60, Tryd.ntmps60
    go_wp2
    go_loopw [3] (fun i wr => ∃ k : Nat, k ≤ N ∧ i = (.int .i64 (k)) ∧ (∀ j, j < k → (readErrs zs).getD j 0 = 0) ∧ Below w.heap.size w wr) (fun i _ => N - (intOf i).toNat)
    case atStart => exact ⟨0, Nat.zero_le _, rfl, fun j hj => by omega, Below.refl _ _⟩
    case round =>
      obtain ⟨k, hk, rfl, hz, hB⟩ := hrel
      have HZ := Lib.hid hz
      have HB := Lib.hid hB
      have hsz := hB.size
      clear hz
      by_cases hlt : k < N
      · have hlt2 : k < zs.length := by rw [← HN.out]; exact hlt
        obtain ⟨b, o, rfl, l1, k1⟩ := HC.out (by omega)
        obtain ⟨x1, x2, x3⟩ := k1 k hlt2
        have x1 := (hB.cell (p := ⟨b, o + k * 3, none⟩) l1).trans x1
        have x2 := (hB.cell (p := ⟨b, o + k * 3 + 1, none⟩) l1).trans x2
        have x3 := (hB.cell (p := ⟨b, o + k * 3 + 2, none⟩) l1).trans x3
        have hE : (readErrs zs).getD k 0 = readErr (zs.getD k (0, 0, 0)).1 (zs.getD k (0, 0, 0)).2.1 (zs.getD k (0, 0, 0)).2.2 := by
          simp [readErrs, List.getD_eq_getElem?_getD, List.getElem?_map, List.getElem?_eq_getElem hlt2]
        have hbl : b < wr.heap.size := by omega
        clear k1 hB
        obtain ⟨⟨x, y, z⟩, hx⟩ : ∃ x, x = zs.getD k (0, 0, 0) := ⟨_, rfl⟩
        rw [← hx] at x1 x2 x3 hE
        clear hx
        simp only [] at x1 x2 x3 hE
        have HE := Lib.hid hE
        clear hE
        by_cases he : firstOf [rangeErr x 1 8, rangeErr y 0 1000000, rangeErr z 0 1000000] = 0
        · have ht : readErr x y z = if z < y then 11 else 0 := firstOf_then he
          have HT := Lib.hid ht
          clear ht
          by_cases hzy : z < y
          · go_wp2
            refine Calm.tail_below 17 (by kernel_rfl) (by kernel_rfl) ?_
            simp only [List.take_succ_cons, List.take_zero, List.drop_succ_cons, List.drop_zero]
            repeat (first | (first | (apply Calm.op_move; (focus rfl); (focus (first | exact .inl rfl | exact .inr rfl)); (focus ((try simp only [Act.eval, Array.getD_eq_getD_getElem?, List.getElem?_toArray, List.getElem?_cons_succ, List.getElem?_cons_zero, Option.getD_some]); rfl)); (try simp only [Act.put, List.setIfInBounds_toArray, List.set_cons_zero, List.set_cons_succ])) | (apply Calm.op_not; (focus rfl); (try simp only [Act.put, List.setIfInBounds_toArray, List.set_cons_zero, List.set_cons_succ])) | (apply Calm.op; (focus rfl); (focus (intro W hb; obtain ⟨hc, hf⟩ := bcell hb; clear hb hf; go_simp; (try go_bits); (try rfl); done)); (try simp only [Act.put, List.setIfInBounds_toArray, List.set_cons_zero, List.set_cons_succ]))) | (apply Calm.op_call; (focus rfl); (focus (intro W hb; obtain ⟨hc, hf⟩ := bcell hb; clear hb hf; go_simp; refine ⟨?_, ?_⟩; rfl; rfl)); (focus (intro W hb; first | (go_at_call 18; exact Calm.call_same hb (refCheckW_any _ _)) | (go_at_call 40; exact Calm.call_same hb (checkRange_any _ _ _ _)))); (try simp only [Act.put, List.setIfInBounds_toArray, List.set_cons_zero, List.set_cons_succ])))
            refine wpQuiet_nil ?_
            intro w1 hb
            obtain ⟨hbc, hbf⟩ := bcell hb
            have hbz := hb.size
            (try simp at hbz)
            (try have hbz0 : w.heap.size < w1.heap.size := by omega)
            (try have hbz1 : w.heap.size + 1 < w1.heap.size := by omega)
            (try have hbz2 : w.heap.size + 1 + 1 < w1.heap.size := by omega)
            (try have hbz3 : w.heap.size + 1 + 1 + 1 < w1.heap.size := by omega)
            (try have hbz4 : w.heap.size + 1 + 1 + 1 + 1 < w1.heap.size := by omega)
            (try have hbz5 : w.heap.size + 1 + 1 + 1 + 1 + 1 < w1.heap.size := by omega)
            have y2 := (hb.cell (p := ⟨b, o + k * 3 + 1, none⟩) hbl).trans x2
            have y3 := (hb.cell (p := ⟨b, o + k * 3 + 2, none⟩) hbl).trans x3
            have hbl1 : b < w1.heap.size := by omega
            have hbl2 : b < w1.heap.size + 1 := by omega
            clear hbc hbf
            go_wp2_with (first | (go_at_call 40; refine (checkRange_any _ _ _ _).mono ?_; rintro r w1 ⟨rfl, rfl⟩) | (go_at_call 16; refine (qFirst3_any _ _ _ _).mono ?_; rintro r w1 ⟨rfl, rfl⟩))
            refine Calm.tail_below 10 (by kernel_rfl) (by kernel_rfl) ?_
            simp only [List.take_succ_cons, List.take_zero, List.drop_succ_cons, List.drop_zero]
            repeat (first | (apply Calm.op_move; (focus rfl); (focus (first | exact .inl rfl | exact .inr rfl)); (focus ((try simp only [Act.eval, Array.getD_eq_getD_getElem?, List.getElem?_toArray, List.getElem?_cons_succ, List.getElem?_cons_zero, Option.getD_some]); rfl)); (try simp only [Act.put, List.setIfInBounds_toArray, List.set_cons_zero, List.set_cons_succ])) | (apply Calm.op_not; (focus rfl); (try simp only [Act.put, List.setIfInBounds_toArray, List.set_cons_zero, List.set_cons_succ])) | (apply Calm.op; (focus rfl); (focus (intro W hb; obtain ⟨hc, hf⟩ := bcell hb; clear hb hf; go_simp; (try go_bits); (try rfl); done)); (try simp only [Act.put, List.setIfInBounds_toArray, List.set_cons_zero, List.set_cons_succ])))
            refine wpQuiet_nil ?_
            intro w2 hb2
            obtain ⟨hb2c, hb2f⟩ := bcell hb2
            have hb2z := hb2.size
            (try simp at hb2z)
            (try have hb2z0 : w.heap.size < w2.heap.size := by omega)
            (try have hb2z1 : w.heap.size + 1 < w2.heap.size := by omega)
            (try have hb2z2 : w.heap.size + 1 + 1 < w2.heap.size := by omega)
            (try have hb2z3 : w.heap.size + 1 + 1 + 1 < w2.heap.size := by omega)
            (try have hb2z4 : w.heap.size + 1 + 1 + 1 + 1 < w2.heap.size := by omega)
            (try have hb2z5 : w.heap.size + 1 + 1 + 1 + 1 + 1 < w2.heap.size := by omega)
            go_wp2
            go_ret
            refine ⟨ret_i ?_, ((HB.out.trans (hb.mono hsz)).alloc (Nat.le_trans hsz hb.size) _).trans (hb2.mono (Nat.le_trans hsz (Nat.le_trans hb.size (by simp))))⟩
            rw [HR.out, firstOf_take HZ.out (by simpa [readErrs] using hlt2) (by rw [HE.out, HT.out, if_pos hzy]; decide), HE.out, HT.out, if_pos hzy]
          · go_wp2
            refine Calm.tail_below 17 (by kernel_rfl) (by kernel_rfl) ?_
            simp only [List.take_succ_cons, List.take_zero, List.drop_succ_cons, List.drop_zero]
            repeat (first | (first | (apply Calm.op_move; (focus rfl); (focus (first | exact .inl rfl | exact .inr rfl)); (focus ((try simp only [Act.eval, Array.getD_eq_getD_getElem?, List.getElem?_toArray, List.getElem?_cons_succ, List.getElem?_cons_zero, Option.getD_some]); rfl)); (try simp only [Act.put, List.setIfInBounds_toArray, List.set_cons_zero, List.set_cons_succ])) | (apply Calm.op_not; (focus rfl); (try simp only [Act.put, List.setIfInBounds_toArray, List.set_cons_zero, List.set_cons_succ])) | (apply Calm.op; (focus rfl); (focus (intro W hb; obtain ⟨hc, hf⟩ := bcell hb; clear hb hf; go_simp; (try go_bits); (try rfl); done)); (try simp only [Act.put, List.setIfInBounds_toArray, List.set_cons_zero, List.set_cons_succ]))) | (apply Calm.op_call; (focus rfl); (focus (intro W hb; obtain ⟨hc, hf⟩ := bcell hb; clear hb hf; go_simp; refine ⟨?_, ?_⟩; rfl; rfl)); (focus (intro W hb; first | (go_at_call 18; exact Calm.call_same hb (refCheckW_any _ _)) | (go_at_call 40; exact Calm.call_same hb (checkRange_any _ _ _ _)))); (try simp only [Act.put, List.setIfInBounds_toArray, List.set_cons_zero, List.set_cons_succ])))
            refine wpQuiet_nil ?_
            intro w1 hb
            obtain ⟨hbc, hbf⟩ := bcell hb
            have hbz := hb.size
            (try simp at hbz)
            (try have hbz0 : w.heap.size < w1.heap.size := by omega)
            (try have hbz1 : w.heap.size + 1 < w1.heap.size := by omega)
            (try have hbz2 : w.heap.size + 1 + 1 < w1.heap.size := by omega)
            (try have hbz3 : w.heap.size + 1 + 1 + 1 < w1.heap.size := by omega)
            (try have hbz4 : w.heap.size + 1 + 1 + 1 + 1 < w1.heap.size := by omega)
            (try have hbz5 : w.heap.size + 1 + 1 + 1 + 1 + 1 < w1.heap.size := by omega)
            have y2 := (hb.cell (p := ⟨b, o + k * 3 + 1, none⟩) hbl).trans x2
            have y3 := (hb.cell (p := ⟨b, o + k * 3 + 2, none⟩) hbl).trans x3
            have hbl1 : b < w1.heap.size := by omega
            have hbl2 : b < w1.heap.size + 1 := by omega
            clear hbc hbf
            go_wp2_with (first | (go_at_call 40; refine (checkRange_any _ _ _ _).mono ?_; rintro r w1 ⟨rfl, rfl⟩) | (go_at_call 16; refine (qFirst3_any _ _ _ _).mono ?_; rintro r w1 ⟨rfl, rfl⟩))
            refine Calm.tail_below 10 (by kernel_rfl) (by kernel_rfl) ?_
            simp only [List.take_succ_cons, List.take_zero, List.drop_succ_cons, List.drop_zero]
            repeat (first | (apply Calm.op_move; (focus rfl); (focus (first | exact .inl rfl | exact .inr rfl)); (focus ((try simp only [Act.eval, Array.getD_eq_getD_getElem?, List.getElem?_toArray, List.getElem?_cons_succ, List.getElem?_cons_zero, Option.getD_some]); rfl)); (try simp only [Act.put, List.setIfInBounds_toArray, List.set_cons_zero, List.set_cons_succ])) | (apply Calm.op_not; (focus rfl); (try simp only [Act.put, List.setIfInBounds_toArray, List.set_cons_zero, List.set_cons_succ])) | (apply Calm.op; (focus rfl); (focus (intro W hb; obtain ⟨hc, hf⟩ := bcell hb; clear hb hf; go_simp; (try go_bits); (try rfl); done)); (try simp only [Act.put, List.setIfInBounds_toArray, List.set_cons_zero, List.set_cons_succ])))
            refine wpQuiet_nil ?_
            intro w2 hb2
            obtain ⟨hb2c, hb2f⟩ := bcell hb2
            have hb2z := hb2.size
            (try simp at hb2z)
            (try have hb2z0 : w.heap.size < w2.heap.size := by omega)
            (try have hb2z1 : w.heap.size + 1 < w2.heap.size := by omega)
            (try have hb2z2 : w.heap.size + 1 + 1 < w2.heap.size := by omega)
            (try have hb2z3 : w.heap.size + 1 + 1 + 1 < w2.heap.size := by omega)
            (try have hb2z4 : w.heap.size + 1 + 1 + 1 + 1 < w2.heap.size := by omega)
            (try have hb2z5 : w.heap.size + 1 + 1 + 1 + 1 + 1 < w2.heap.size := by omega)
            go_wp2
            go_roundw
            case rel => exact ⟨k + 1, by omega, by go_num, fun j hj => by
              rcases Nat.lt_or_ge j k with h | h
              · exact HZ.out j h
              · obtain rfl : j = k := by omega
                rw [HE.out, HT.out, if_neg (by omega)], ((HB.out.trans (hb.mono hsz)).alloc (Nat.le_trans hsz hb.size) _).trans (hb2.mono (Nat.le_trans hsz (Nat.le_trans hb.size (by simp))))⟩
            case measure => simp [intOf]; omega
        · have ht : readErr x y z = firstOf [rangeErr x 1 8, rangeErr y 0 1000000, rangeErr z 0 1000000] := firstOf_more he
          have HT := Lib.hid ht
          clear ht
          go_wp2
          refine Calm.tail_below 17 (by kernel_rfl) (by kernel_rfl) ?_
          simp only [List.take_succ_cons, List.take_zero, List.drop_succ_cons, List.drop_zero]
          repeat (first | (first | (apply Calm.op_move; (focus rfl); (focus (first | exact .inl rfl | exact .inr rfl)); (focus ((try simp only [Act.eval, Array.getD_eq_getD_getElem?, List.getElem?_toArray, List.getElem?_cons_succ, List.getElem?_cons_zero, Option.getD_some]); rfl)); (try simp only [Act.put, List.setIfInBounds_toArray, List.set_cons_zero, List.set_cons_succ])) | (apply Calm.op_not; (focus rfl); (try simp only [Act.put, List.setIfInBounds_toArray, List.set_cons_zero, List.set_cons_succ])) | (apply Calm.op; (focus rfl); (focus (intro W hb; obtain ⟨hc, hf⟩ := bcell hb; clear hb hf; go_simp; (try go_bits); (try rfl); done)); (try simp only [Act.put, List.setIfInBounds_toArray, List.set_cons_zero, List.set_cons_succ]))) | (apply Calm.op_call; (focus rfl); (focus (intro W hb; obtain ⟨hc, hf⟩ := bcell hb; clear hb hf; go_simp; refine ⟨?_, ?_⟩; rfl; rfl)); (focus (intro W hb; first | (go_at_call 18; exact Calm.call_same hb (refCheckW_any _ _)) | (go_at_call 40; exact Calm.call_same hb (checkRange_any _ _ _ _)))); (try simp only [Act.put, List.setIfInBounds_toArray, List.set_cons_zero, List.set_cons_succ])))
          refine wpQuiet_nil ?_
          intro w1 hb
          obtain ⟨hbc, hbf⟩ := bcell hb
          have hbz := hb.size
          (try simp at hbz)
          (try have hbz0 : w.heap.size < w1.heap.size := by omega)
          (try have hbz1 : w.heap.size + 1 < w1.heap.size := by omega)
          (try have hbz2 : w.heap.size + 1 + 1 < w1.heap.size := by omega)
          (try have hbz3 : w.heap.size + 1 + 1 + 1 < w1.heap.size := by omega)
          (try have hbz4 : w.heap.size + 1 + 1 + 1 + 1 < w1.heap.size := by omega)
          (try have hbz5 : w.heap.size + 1 + 1 + 1 + 1 + 1 < w1.heap.size := by omega)
          go_wp2_with (first | (go_at_call 40; refine (checkRange_any _ _ _ _).mono ?_; rintro r w1 ⟨rfl, rfl⟩) | (go_at_call 16; refine (qFirst3_any _ _ _ _).mono ?_; rintro r w1 ⟨rfl, rfl⟩))
          go_ret
          refine ⟨ret_i ?_, (HB.out.trans (hb.mono hsz)).alloc (Nat.le_trans hsz hb.size) _⟩
          rw [HR.out, firstOf_take HZ.out (by simpa [readErrs] using hlt2) (by rw [HE.out, HT.out]; exact he), HE.out, HT.out]
      · go_wp2
        go_ret
        exact ⟨ret_i (by rw [HR.out]; exact (firstOf_zero fun j hj => HZ.out j (by simp [readErrs] at hj; have := HN.out; omega)).symm), HB.out⟩

/-- the first error of frequencies. -/
def swErr (zs : List Int) : Int := if 32 < zs.length then 5 else firstOf (zs.map fun x => rangeErr x 1 8)
set_option maxHeartbeats 4000000 in
theorem refCheckSweep_any (A : Option Addr) (zs : List Int) (c : Nat) (w : World) (hC : Cells w A zs) :
    Calls Tryd.prog 59 #[.slice A zs.length c] w fun r w' => r = .returned (.int .i64 (swErr zs)) ∧ Below w.heap.size w w' := by
  obtain ⟨R, hR⟩ : ∃ R, R = swErr zs := ⟨_, rfl⟩
  rw [← hR]
  unfold swErr at hR
  obtain ⟨N, hN⟩ : ∃ N, N = zs.length := ⟨_, rfl⟩
  have HN := Lib.hid hN
  rw [← hN] at hR ⊢
  have HC := Lib.hid hC
  clear hC hN
  by_cases hlong : 32 < N
  · rw [if_pos hlong] at hR
    subst hR
    go_enter Tryd.func59, Tryd.ntmps59
    go_wp2
    go_ret
    exact ⟨rfl, Below.refl _ _⟩
  · rw [if_neg hlong] at hR
    have HR := Lib.hid hR
    clear hR
    have hN32 : N ≤ 32 := by omega
    go_enter Tryd.func59, Tryd.ntmps59
    go_wp2
    go_loopw [3] (fun i wr => ∃ k : Nat, k ≤ N ∧ i = (.int .i64 (k)) ∧ (∀ j, j < k → (zs.map fun x => rangeErr x 1 8).getD j 0 = 0) ∧ w = wr) (fun i _ => N - (intOf i).toNat)
    case atStart => exact ⟨0, Nat.zero_le _, rfl, fun j hj => by omega, rfl⟩
    case round =>
      obtain ⟨k, hk, rfl, hz, rfl⟩ := hrel
      have HZ := Lib.hid hz
      clear hz
      by_cases hlt : k < N
      · have hlt2 : k < zs.length := by rw [← HN.out]; exact hlt
        obtain ⟨b, o, rfl, l1, k1⟩ := HC.out (by omega)
        have x1 := k1 k hlt2
        have hE : (zs.map fun x => rangeErr x 1 8).getD k 0 = rangeErr (zs.getD k 0) 1 8 := by
          simp [List.getD_eq_getElem?_getD, List.getElem?_map, List.getElem?_eq_getElem hlt2]
        clear k1
        obtain ⟨x, hx⟩ : ∃ x, x = zs.getD k 0 := ⟨_, rfl⟩
        rw [← hx] at x1 hE
        clear hx
        have HE := Lib.hid hE
        clear hE
        rcases rangeErr_cases x 1 8 with ⟨e, _, _⟩ | ⟨e, _⟩
        · go_wp2_with (go_at_call 18; refine (refCheckW_any _ _).mono ?_; rw [e]; rintro r w2 ⟨rfl, rfl⟩)
          go_roundw
          case rel => exact ⟨k + 1, by omega, by go_num, fun j hj => by
            rcases Nat.lt_or_ge j k with h | h
            · exact HZ.out j h
            · obtain rfl : j = k := by omega
              rw [HE.out, e], by first | rfl | trivial⟩
          case measure => simp [intOf]; omega
        · go_wp2_with (go_at_call 18; refine (refCheckW_any _ _).mono ?_; rw [e]; rintro r w2 ⟨rfl, rfl⟩)
          go_ret
          refine ⟨ret_i ?_, Below.refl _ _⟩
          rw [HR.out, firstOf_take HZ.out (by simpa using hlt2) (by rw [HE.out, e]; decide), HE.out, e]
      · go_wp2
        go_ret
        exact ⟨ret_i (by rw [HR.out]; exact (firstOf_zero fun j hj => HZ.out j (by simp at hj; have := HN.out; omega)).symm), Below.refl _ _⟩

set_option maxHeartbeats 4000000 in
theorem refCheckClass_any (re le bl ma st lo m k r : Int) (w : World) :
    Calls Tryd.prog 57 #[.agg #[(.int .i64 (re)), (.int .i64 (le)), (.int .i64 (bl)), (.int .i64 (ma)), (.int .i64 (st)), (.int .i64 (lo)), (.int .i64 (m)), (.int .i64 (k)), (.int .i64 (r))]] w fun x w' => x = .returned (.int .i64 (classErr re le bl ma st lo m k r)) ∧ Below w.heap.size w w' := by
  unfold classErr
  by_cases h : classPre re le bl ma st lo m k r = 0
  · rw [if_pos h]
    obtain ⟨hd, h1, h2, h3⟩ := class_zero h
    obtain ⟨_, _, _, d1, d2, d3⟩ := drvErr_zero hd
    have h4 : firstOf [drvErr re le bl ma st lo, rangeErr m ma 100, rangeErr k st 5000, rangeErr r lo 100] = 0 := h
    clear h hd
    have q1 : Bd 100 (m - ma + 1) := ⟨by omega, by omega⟩
    have q2 : Bd 5000 (k - st + 1) := ⟨by omega, by omega⟩
    have q3 : Bd 100 (r - lo + 1) := ⟨by omega, by omega⟩
    obtain ⟨e1, e2⟩ := q1.mul q2 (by omega)
    have q4 : Bd 500000 ((m - ma + 1) * (k - st + 1)) := ⟨by omega, by omega⟩
    obtain ⟨e3, e4⟩ := q4.mul q3 (by omega)
    clear q1 q2 q3 q4
    obtain ⟨⟨a1, a2⟩, ⟨a3, a4⟩, ⟨a5, a6⟩⟩ := And.intro h1 (And.intro h2 h3)
    obtain ⟨⟨a7, a8⟩, ⟨a9, b1⟩, ⟨b2, b3⟩⟩ := And.intro d1 (And.intro d2 d3)
    clear h1 h2 h3 d1 d2 d3
    by_cases hn : 4096 < classN ma st lo m k r
    · rw [if_pos hn]
      unfold classN at hn
      go_enter Tryd.func57, Tryd.ntmps57
      go_wp2
      refine Calm.tail_below 20 (by kernel_rfl) (by kernel_rfl) ?_
      simp only [List.take_succ_cons, List.take_zero, List.drop_succ_cons, List.drop_zero]
      repeat (first | (first | (apply Calm.op_move; (focus rfl); (focus (first | exact .inl rfl | exact .inr rfl)); (focus ((try simp only [Act.eval, Array.getD_eq_getD_getElem?, List.getElem?_toArray, List.getElem?_cons_succ, List.getElem?_cons_zero, Option.getD_some]); rfl)); (try simp only [Act.put, List.setIfInBounds_toArray, List.set_cons_zero, List.set_cons_succ])) | (apply Calm.op_not; (focus rfl); (try simp only [Act.put, List.setIfInBounds_toArray, List.set_cons_zero, List.set_cons_succ])) | (apply Calm.op; (focus rfl); (focus (intro W hb; obtain ⟨hc, hf⟩ := bcell hb; clear hb hf; go_simp; (try go_bits); (try rfl); done)); (try simp only [Act.put, List.setIfInBounds_toArray, List.set_cons_zero, List.set_cons_succ]))) | (apply Calm.op_call; (focus rfl); (focus (intro W hb; obtain ⟨hc, hf⟩ := bcell hb; clear hb hf; go_simp; refine ⟨?_, ?_⟩; rfl; rfl)); (focus (intro W hb; first | (go_at_call 17; exact Calm.call_below hb (refCheckDriver_any _ _ _ _ _ _ _)) | (go_at_call 40; exact Calm.call_same hb (checkRange_any _ _ _ _)))); (try simp only [Act.put, List.setIfInBounds_toArray, List.set_cons_zero, List.set_cons_succ])))
      refine wpQuiet_nil ?_
      intro w1 hb
      obtain ⟨hbc, hbf⟩ := bcell hb
      have hbz := hb.size
      (try simp at hbz)
      (try have hbz0 : w.heap.size < w1.heap.size := by omega)
      (try have hbz1 : w.heap.size + 1 < w1.heap.size := by omega)
      (try have hbz2 : w.heap.size + 1 + 1 < w1.heap.size := by omega)
      (try have hbz3 : w.heap.size + 1 + 1 + 1 < w1.heap.size := by omega)
      (try have hbz4 : w.heap.size + 1 + 1 + 1 + 1 < w1.heap.size := by omega)
      (try have hbz5 : w.heap.size + 1 + 1 + 1 + 1 + 1 < w1.heap.size := by omega)
      go_wp2_with (first | (go_at_call 40; refine (checkRange_any _ _ _ _).mono ?_; rintro r w1 ⟨rfl, rfl⟩) | (go_at_call 16; refine (qFirst4_any _ _ _ _ _).mono ?_; rintro r w1 ⟨rfl, rfl⟩))
      go_ret
      refine ⟨rfl, ?_⟩
      repeat (first | (with_reducible exact Below.refl _ _) | ((with_reducible refine Below.setCell ?_ ?_ _); rotate_left 1; focus (first | (simp; done) | (simp; omega) | (simp at *; omega))) | ((with_reducible refine Below.alloc ?_ ?_ _); rotate_left 1; focus (first | (simp; done) | (simp; omega) | (simp at *; omega))) | (with_reducible refine Below.drew ?_) | ((with_reducible refine Calm.step (by assumption) ?_ ?_); rotate_left 1; focus (first | (simp; done) | (simp; omega) | (simp at *; omega))))
    · rw [if_neg hn]
      unfold classN at hn
      go_enter Tryd.func57, Tryd.ntmps57
      go_wp2
      refine Calm.tail_below 20 (by kernel_rfl) (by kernel_rfl) ?_
      simp only [List.take_succ_cons, List.take_zero, List.drop_succ_cons, List.drop_zero]
      repeat (first | (first | (apply Calm.op_move; (focus rfl); (focus (first | exact .inl rfl | exact .inr rfl)); (focus ((try simp only [Act.eval, Array.getD_eq_getD_getElem?, List.getElem?_toArray, List.getElem?_cons_succ, List.getElem?_cons_zero, Option.getD_some]); rfl)); (try simp only [Act.put, List.setIfInBounds_toArray, List.set_cons_zero, List.set_cons_succ])) | (apply Calm.op_not; (focus rfl); (try simp only [Act.put, List.setIfInBounds_toArray, List.set_cons_zero, List.set_cons_succ])) | (apply Calm.op; (focus rfl); (focus (intro W hb; obtain ⟨hc, hf⟩ := bcell hb; clear hb hf; go_simp; (try go_bits); (try rfl); done)); (try simp only [Act.put, List.setIfInBounds_toArray, List.set_cons_zero, List.set_cons_succ]))) | (apply Calm.op_call; (focus rfl); (focus (intro W hb; obtain ⟨hc, hf⟩ := bcell hb; clear hb hf; go_simp; refine ⟨?_, ?_⟩; rfl; rfl)); (focus (intro W hb; first | (go_at_call 17; exact Calm.call_below hb (refCheckDriver_any _ _ _ _ _ _ _)) | (go_at_call 40; exact Calm.call_same hb (checkRange_any _ _ _ _)))); (try simp only [Act.put, List.setIfInBounds_toArray, List.set_cons_zero, List.set_cons_succ])))
      refine wpQuiet_nil ?_
      intro w1 hb
      obtain ⟨hbc, hbf⟩ := bcell hb
      have hbz := hb.size
      (try simp at hbz)
      (try have hbz0 : w.heap.size < w1.heap.size := by omega)
      (try have hbz1 : w.heap.size + 1 < w1.heap.size := by omega)
      (try have hbz2 : w.heap.size + 1 + 1 < w1.heap.size := by omega)
      (try have hbz3 : w.heap.size + 1 + 1 + 1 < w1.heap.size := by omega)
      (try have hbz4 : w.heap.size + 1 + 1 + 1 + 1 < w1.heap.size := by omega)
      (try have hbz5 : w.heap.size + 1 + 1 + 1 + 1 + 1 < w1.heap.size := by omega)
      go_wp2_with (first | (go_at_call 40; refine (checkRange_any _ _ _ _).mono ?_; rintro r w1 ⟨rfl, rfl⟩) | (go_at_call 16; refine (qFirst4_any _ _ _ _ _).mono ?_; rintro r w1 ⟨rfl, rfl⟩))
      go_ret
      refine ⟨rfl, ?_⟩
      repeat (first | (with_reducible exact Below.refl _ _) | ((with_reducible refine Below.setCell ?_ ?_ _); rotate_left 1; focus (first | (simp; done) | (simp; omega) | (simp at *; omega))) | ((with_reducible refine Below.alloc ?_ ?_ _); rotate_left 1; focus (first | (simp; done) | (simp; omega) | (simp at *; omega))) | (with_reducible refine Below.drew ?_) | ((with_reducible refine Calm.step (by assumption) ?_ ?_); rotate_left 1; focus (first | (simp; done) | (simp; omega) | (simp at *; omega))))
  · rw [if_neg h]
    have h2 : firstOf [drvErr re le bl ma st lo, rangeErr m ma 100, rangeErr k st 5000, rangeErr r lo 100] ≠ 0 := h
    unfold classPre
    clear h
    go_enter Tryd.func57, Tryd.ntmps57
    go_wp2
    refine Calm.tail_below 20 (by kernel_rfl) (by kernel_rfl) ?_
    simp only [List.take_succ_cons, List.take_zero, List.drop_succ_cons, List.drop_zero]
    repeat (first | (first | (apply Calm.op_move; (focus rfl); (focus (first | exact .inl rfl | exact .inr rfl)); (focus ((try simp only [Act.eval, Array.getD_eq_getD_getElem?, List.getElem?_toArray, List.getElem?_cons_succ, List.getElem?_cons_zero, Option.getD_some]); rfl)); (try simp only [Act.put, List.setIfInBounds_toArray, List.set_cons_zero, List.set_cons_succ])) | (apply Calm.op_not; (focus rfl); (try simp only [Act.put, List.setIfInBounds_toArray, List.set_cons_zero, List.set_cons_succ])) | (apply Calm.op; (focus rfl); (focus (intro W hb; obtain ⟨hc, hf⟩ := bcell hb; clear hb hf; go_simp; (try go_bits); (try rfl); done)); (try simp only [Act.put, List.setIfInBounds_toArray, List.set_cons_zero, List.set_cons_succ]))) | (apply Calm.op_call; (focus rfl); (focus (intro W hb; obtain ⟨hc, hf⟩ := bcell hb; clear hb hf; go_simp; refine ⟨?_, ?_⟩; rfl; rfl)); (focus (intro W hb; first | (go_at_call 17; exact Calm.call_below hb (refCheckDriver_any _ _ _ _ _ _ _)) | (go_at_call 40; exact Calm.call_same hb (checkRange_any _ _ _ _)))); (try simp only [Act.put, List.setIfInBounds_toArray, List.set_cons_zero, List.set_cons_succ])))
    refine wpQuiet_nil ?_
    intro w1 hb
    obtain ⟨hbc, hbf⟩ := bcell hb
    have hbz := hb.size
    (try simp at hbz)
    (try have hbz0 : w.heap.size < w1.heap.size := by omega)
    (try have hbz1 : w.heap.size + 1 < w1.heap.size := by omega)
    (try have hbz2 : w.heap.size + 1 + 1 < w1.heap.size := by omega)
    (try have hbz3 : w.heap.size + 1 + 1 + 1 < w1.heap.size := by omega)
    (try have hbz4 : w.heap.size + 1 + 1 + 1 + 1 < w1.heap.size := by omega)
    (try have hbz5 : w.heap.size + 1 + 1 + 1 + 1 + 1 < w1.heap.size := by omega)
    go_wp2_with (first | (go_at_call 40; refine (checkRange_any _ _ _ _).mono ?_; rintro r w1 ⟨rfl, rfl⟩) | (go_at_call 16; refine (qFirst4_any _ _ _ _ _).mono ?_; rintro r w1 ⟨rfl, rfl⟩))
    go_ret
    refine ⟨by first | rfl | (simp; done), ?_⟩
    repeat (first | (with_reducible exact Below.refl _ _) | ((with_reducible refine Below.setCell ?_ ?_ _); rotate_left 1; focus (first | (simp; done) | (simp; omega) | (simp at *; omega))) | ((with_reducible refine Below.alloc ?_ ?_ _); rotate_left 1; focus (first | (simp; done) | (simp; omega) | (simp at *; omega))) | (with_reducible refine Below.drew ?_) | ((with_reducible refine Calm.step (by assumption) ?_ ?_); rotate_left 1; focus (first | (simp; done) | (simp; omega) | (simp at *; omega))))
end Go.Proofs.YtpkldjlljoledaaDoor

/- A block known whole, opened: its cells, its place, its marks. No program. -/
namespace Go.Proofs.YtpkldjlljoledaaDoor.Calm
theorem Blk.o1 {w : World} {g : Nat} {a0 : Value} (h : Blk w g #[a0]) : w.cell? ⟨g, 0, none⟩ = some a0 ∧ g < w.heap.size ∧ ∀ i, w.frozen? ⟨g, i, none⟩ = false :=
  ⟨h.cell 0 _ rfl, h.lt, h.f⟩
theorem Blk.o2 {w : World} {g : Nat} {a0 a1 : Value} (h : Blk w g #[a0, a1]) : w.cell? ⟨g, 0, none⟩ = some a0 ∧ w.cell? ⟨g, 1, none⟩ = some a1 ∧ g < w.heap.size ∧ ∀ i, w.frozen? ⟨g, i, none⟩ = false :=
  ⟨h.cell 0 _ rfl, h.cell 1 _ rfl, h.lt, h.f⟩
theorem Blk.o3 {w : World} {g : Nat} {a0 a1 a2 : Value} (h : Blk w g #[a0, a1, a2]) : w.cell? ⟨g, 0, none⟩ = some a0 ∧ w.cell? ⟨g, 1, none⟩ = some a1 ∧ w.cell? ⟨g, 2, none⟩ = some a2 ∧ g < w.heap.size ∧ ∀ i, w.frozen? ⟨g, i, none⟩ = false :=
  ⟨h.cell 0 _ rfl, h.cell 1 _ rfl, h.cell 2 _ rfl, h.lt, h.f⟩
theorem Blk.o4 {w : World} {g : Nat} {a0 a1 a2 a3 : Value} (h : Blk w g #[a0, a1, a2, a3]) : w.cell? ⟨g, 0, none⟩ = some a0 ∧ w.cell? ⟨g, 1, none⟩ = some a1 ∧ w.cell? ⟨g, 2, none⟩ = some a2 ∧ w.cell? ⟨g, 3, none⟩ = some a3 ∧ g < w.heap.size ∧ ∀ i, w.frozen? ⟨g, i, none⟩ = false :=
  ⟨h.cell 0 _ rfl, h.cell 1 _ rfl, h.cell 2 _ rfl, h.cell 3 _ rfl, h.lt, h.f⟩
theorem Blk.o5 {w : World} {g : Nat} {a0 a1 a2 a3 a4 : Value} (h : Blk w g #[a0, a1, a2, a3, a4]) : w.cell? ⟨g, 0, none⟩ = some a0 ∧ w.cell? ⟨g, 1, none⟩ = some a1 ∧ w.cell? ⟨g, 2, none⟩ = some a2 ∧ w.cell? ⟨g, 3, none⟩ = some a3 ∧ w.cell? ⟨g, 4, none⟩ = some a4 ∧ g < w.heap.size ∧ ∀ i, w.frozen? ⟨g, i, none⟩ = false :=
  ⟨h.cell 0 _ rfl, h.cell 1 _ rfl, h.cell 2 _ rfl, h.cell 3 _ rfl, h.cell 4 _ rfl, h.lt, h.f⟩
theorem Blk.o6 {w : World} {g : Nat} {a0 a1 a2 a3 a4 a5 : Value} (h : Blk w g #[a0, a1, a2, a3, a4, a5]) : w.cell? ⟨g, 0, none⟩ = some a0 ∧ w.cell? ⟨g, 1, none⟩ = some a1 ∧ w.cell? ⟨g, 2, none⟩ = some a2 ∧ w.cell? ⟨g, 3, none⟩ = some a3 ∧ w.cell? ⟨g, 4, none⟩ = some a4 ∧ w.cell? ⟨g, 5, none⟩ = some a5 ∧ g < w.heap.size ∧ ∀ i, w.frozen? ⟨g, i, none⟩ = false :=
  ⟨h.cell 0 _ rfl, h.cell 1 _ rfl, h.cell 2 _ rfl, h.cell 3 _ rfl, h.cell 4 _ rfl, h.cell 5 _ rfl, h.lt, h.f⟩
theorem Blk.o7 {w : World} {g : Nat} {a0 a1 a2 a3 a4 a5 a6 : Value} (h : Blk w g #[a0, a1, a2, a3, a4, a5, a6]) : w.cell? ⟨g, 0, none⟩ = some a0 ∧ w.cell? ⟨g, 1, none⟩ = some a1 ∧ w.cell? ⟨g, 2, none⟩ = some a2 ∧ w.cell? ⟨g, 3, none⟩ = some a3 ∧ w.cell? ⟨g, 4, none⟩ = some a4 ∧ w.cell? ⟨g, 5, none⟩ = some a5 ∧ w.cell? ⟨g, 6, none⟩ = some a6 ∧ g < w.heap.size ∧ ∀ i, w.frozen? ⟨g, i, none⟩ = false :=
  ⟨h.cell 0 _ rfl, h.cell 1 _ rfl, h.cell 2 _ rfl, h.cell 3 _ rfl, h.cell 4 _ rfl, h.cell 5 _ rfl, h.cell 6 _ rfl, h.lt, h.f⟩
theorem Blk.o8 {w : World} {g : Nat} {a0 a1 a2 a3 a4 a5 a6 a7 : Value} (h : Blk w g #[a0, a1, a2, a3, a4, a5, a6, a7]) : w.cell? ⟨g, 0, none⟩ = some a0 ∧ w.cell? ⟨g, 1, none⟩ = some a1 ∧ w.cell? ⟨g, 2, none⟩ = some a2 ∧ w.cell? ⟨g, 3, none⟩ = some a3 ∧ w.cell? ⟨g, 4, none⟩ = some a4 ∧ w.cell? ⟨g, 5, none⟩ = some a5 ∧ w.cell? ⟨g, 6, none⟩ = some a6 ∧ w.cell? ⟨g, 7, none⟩ = some a7 ∧ g < w.heap.size ∧ ∀ i, w.frozen? ⟨g, i, none⟩ = false :=
  ⟨h.cell 0 _ rfl, h.cell 1 _ rfl, h.cell 2 _ rfl, h.cell 3 _ rfl, h.cell 4 _ rfl, h.cell 5 _ rfl, h.cell 6 _ rfl, h.cell 7 _ rfl, h.lt, h.f⟩
theorem Blk.o9 {w : World} {g : Nat} {a0 a1 a2 a3 a4 a5 a6 a7 a8 : Value} (h : Blk w g #[a0, a1, a2, a3, a4, a5, a6, a7, a8]) : w.cell? ⟨g, 0, none⟩ = some a0 ∧ w.cell? ⟨g, 1, none⟩ = some a1 ∧ w.cell? ⟨g, 2, none⟩ = some a2 ∧ w.cell? ⟨g, 3, none⟩ = some a3 ∧ w.cell? ⟨g, 4, none⟩ = some a4 ∧ w.cell? ⟨g, 5, none⟩ = some a5 ∧ w.cell? ⟨g, 6, none⟩ = some a6 ∧ w.cell? ⟨g, 7, none⟩ = some a7 ∧ w.cell? ⟨g, 8, none⟩ = some a8 ∧ g < w.heap.size ∧ ∀ i, w.frozen? ⟨g, i, none⟩ = false :=
  ⟨h.cell 0 _ rfl, h.cell 1 _ rfl, h.cell 2 _ rfl, h.cell 3 _ rfl, h.cell 4 _ rfl, h.cell 5 _ rfl, h.cell 6 _ rfl, h.cell 7 _ rfl, h.cell 8 _ rfl, h.lt, h.f⟩
theorem Blk.o10 {w : World} {g : Nat} {a0 a1 a2 a3 a4 a5 a6 a7 a8 a9 : Value} (h : Blk w g #[a0, a1, a2, a3, a4, a5, a6, a7, a8, a9]) : w.cell? ⟨g, 0, none⟩ = some a0 ∧ w.cell? ⟨g, 1, none⟩ = some a1 ∧ w.cell? ⟨g, 2, none⟩ = some a2 ∧ w.cell? ⟨g, 3, none⟩ = some a3 ∧ w.cell? ⟨g, 4, none⟩ = some a4 ∧ w.cell? ⟨g, 5, none⟩ = some a5 ∧ w.cell? ⟨g, 6, none⟩ = some a6 ∧ w.cell? ⟨g, 7, none⟩ = some a7 ∧ w.cell? ⟨g, 8, none⟩ = some a8 ∧ w.cell? ⟨g, 9, none⟩ = some a9 ∧ g < w.heap.size ∧ ∀ i, w.frozen? ⟨g, i, none⟩ = false :=
  ⟨h.cell 0 _ rfl, h.cell 1 _ rfl, h.cell 2 _ rfl, h.cell 3 _ rfl, h.cell 4 _ rfl, h.cell 5 _ rfl, h.cell 6 _ rfl, h.cell 7 _ rfl, h.cell 8 _ rfl, h.cell 9 _ rfl, h.lt, h.f⟩
end Go.Proofs.YtpkldjlljoledaaDoor.Calm
