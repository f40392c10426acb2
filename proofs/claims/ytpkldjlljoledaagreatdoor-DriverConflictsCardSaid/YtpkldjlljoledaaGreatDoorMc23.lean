/- Part 23 of the texts of the claim: CfAll, CfRow. -/
import Derived.Test.YtpkldjlljoledaaGreatDoorMc22
import Derived.Test.YtpkldjlljoledaaGreatDoorMc2
import Derived.Test.YtpkldjlljoledaaGreatDoorMc8

/- DriverConflicts answers yes, whatever its arguments. -/
namespace Go.Proofs.YtpkldjlljoledaaGreatDoor
open Go.RowKit
open Calm (bcell Blk)

set_option maxRecDepth 100000 in
set_option maxHeartbeats 4000000 in
theorem confl_no (re le bl ma st lo mm kk rr : Int) (n c : Nat) (A : Option Addr) (w : World) (hL : Lim w)
    (h : ¬ n = 9 ∧ Hid (∀ W : World, Calls Tryz.prog 9 #[.slice A n c, (.int .i64 (4))] W fun r w' => r = .returned (.bool false) ∧ W = w') ∨
      Hid (∀ W : World, Calls Tryz.prog 9 #[.slice A n c, (.int .i64 (4))] W fun r w' => r = .returned (.bool true) ∧ W = w') ∧ Hid (∀ W : World, Calls Tryz.prog 10 #[.agg #[(.int .i64 (re)), (.int .i64 (le)), (.int .i64 (bl)), (.int .i64 (ma)), (.int .i64 (st)), (.int .i64 (lo)), (.int .i64 (mm)), (.int .i64 (kk)), (.int .i64 (rr))]] W fun r w' => r = .returned (.bool false) ∧ Below W.heap.size W w') ∨
      n = 9 ∧ Hid (∀ W : World, Calls Tryz.prog 9 #[.slice A 9 c, (.int .i64 (4))] W fun r w' => r = .returned (.bool false) ∧ W = w') ∧ Hid (∀ W : World, Calls Tryz.prog 10 #[.agg #[(.int .i64 (re)), (.int .i64 (le)), (.int .i64 (bl)), (.int .i64 (ma)), (.int .i64 (st)), (.int .i64 (lo)), (.int .i64 (mm)), (.int .i64 (kk)), (.int .i64 (rr))]] W fun r w' => r = .returned (.bool false) ∧ Below W.heap.size W w')) :
    Calls Tryz.prog 4 #[.agg #[(.int .i64 (re)), (.int .i64 (le)), (.int .i64 (bl)), (.int .i64 (ma)), (.int .i64 (st)), (.int .i64 (lo)), (.int .i64 (mm)), (.int .i64 (kk)), (.int .i64 (rr))], .slice A n c] w fun r w' => r = .returned (.bool true) ∧ Below w.heap.size w w' := by
  rcases h with ⟨h9, HSh⟩ | ⟨HSh, HSm⟩ | ⟨h9, HSh, HSm⟩
  · have hB0 := Below.refl w.heap.size w
    have h9i : ¬ (n : Int) = 9 := by omega
    go_enter Tryz.func4, Tryz.ntmps4
    go_wp2_with (go_at_call 8; refine (awake_any _ (hL.below (hB0.alloc hB0.size _))).mono ?_; rintro r w1 ⟨rfl, h1⟩; refine Hid.out ?_)
    unfold Hid
    have hB1 := (hB0.alloc hB0.size _).trans (h1.mono (by simp))
    go_wp2_with (first
      | (go_at_call 9; refine (HSh.out _).mono ?_; rintro r wq ⟨rfl, rfl⟩)
      | (go_at_call 8; refine (awake_any _ (hL.below hB1)).mono ?_; rintro r w2 ⟨rfl, h2⟩))
    go_ret
    exact ⟨by first | rfl | (simp; done), hB1.trans (h2.mono hB1.size)⟩
  · have hB0 := Below.refl w.heap.size w
    go_enter Tryz.func4, Tryz.ntmps4
    go_wp2_with (go_at_call 8; refine (awake_any _ (hL.below (hB0.alloc hB0.size _))).mono ?_; rintro r w1 ⟨rfl, h1⟩; refine Hid.out ?_)
    unfold Hid
    have hB1 := (hB0.alloc hB0.size _).trans (h1.mono (by simp))
    have K1 := Lib.hid ((Calm.Blk.new w _ #[(.int .i64 (re)), (.int .i64 (le)), (.int .i64 (bl)), (.int .i64 (ma)), (.int .i64 (st)), (.int .i64 (lo)), (.int .i64 (mm)), (.int .i64 (kk)), (.int .i64 (rr))]).below h1)
    obtain ⟨f0, f1, f2, f3, f4, f5, f6, f7, f8, fl, ff⟩ := K1.out.o9
    clear h1
    go_wp2_with (first
      | (go_at_call 9; refine (HSh.out _).mono ?_; rintro r wq ⟨rfl, rfl⟩)
      | (go_at_call 10; refine (HSm.out _).mono ?_; rintro r w2 ⟨rfl, h2⟩; refine Hid.out ?_))
    unfold Hid
    have hB2 := hB1.trans (h2.mono hB1.size)
    clear h2
    go_wp2_with (go_at_call 8; refine (awake_any _ (hL.below hB2)).mono ?_; rintro r w3 ⟨rfl, h3⟩)
    go_ret
    exact ⟨by first | rfl | (simp; done), hB2.trans (h3.mono hB2.size)⟩
  · subst h9
    have hB0 := Below.refl w.heap.size w
    go_enter Tryz.func4, Tryz.ntmps4
    go_wp2_with (go_at_call 8; refine (awake_any _ (hL.below (hB0.alloc hB0.size _))).mono ?_; rintro r w1 ⟨rfl, h1⟩; refine Hid.out ?_)
    unfold Hid
    have hB1 := (hB0.alloc hB0.size _).trans (h1.mono (by simp))
    have K1 := Lib.hid ((Calm.Blk.new w _ #[(.int .i64 (re)), (.int .i64 (le)), (.int .i64 (bl)), (.int .i64 (ma)), (.int .i64 (st)), (.int .i64 (lo)), (.int .i64 (mm)), (.int .i64 (kk)), (.int .i64 (rr))]).below h1)
    obtain ⟨f0, f1, f2, f3, f4, f5, f6, f7, f8, fl, ff⟩ := K1.out.o9
    clear h1
    go_wp2_with (first
      | (go_at_call 9; refine (HSh.out _).mono ?_; rintro r wq ⟨rfl, rfl⟩)
      | (go_at_call 10; refine (HSm.out _).mono ?_; rintro r w2 ⟨rfl, h2⟩; refine Hid.out ?_))
    unfold Hid
    have hB2 := hB1.trans (h2.mono hB1.size)
    clear h2
    go_wp2_with (go_at_call 8; refine (awake_any _ (hL.below hB2)).mono ?_; rintro r w3 ⟨rfl, h3⟩)
    go_ret
    exact ⟨by first | rfl | (simp; done), hB2.trans (h3.mono hB2.size)⟩

/-- the indices that are told, and the error. -/
def cfF (P : List Nat → Bool) (n : Nat) : List Int := match confR P n with | some l => toI l | none => []
def cfE (P : List Nat → Bool) (n : Nat) : Int := if confR P n = none then 7 else 0
theorem cfF_len {P : List Nat → Bool} {n : Nat} (hn : n ≤ 8) : (cfF P n).length ≤ 8 := by
  unfold cfF
  cases h : confR P n with
  | none => simp
  | some l =>
    have := ((confR_least (P := P) (n := n)).2 l h).1.len
    simp only [toI_len]
    omega
theorem own_told {W : World} {base : Nat} {v : Value} {l : List Nat} (h : W.ownsRow base 3 1 v l.length (ints l)) : ∃ B e, v = .slice B (toI l).length e ∧ Cells W B (toI l) := by
  obtain ⟨B, e, rfl⟩ := own_slice h
  exact ⟨B, e, by rw [toI_len], own_any h⟩
theorem pConflict_ok (re le bl ma st lo m k r : Int) (A : Option Addr) (zs : List (Int × Int × Int)) (c : Nat) (w : World) (hL : Lim w) (hC : RCells w A zs) (hn : zs.length ≤ 8) (h : regErr re le bl ma st lo m k r zs = 0) :
    Calls Tryz.prog 21 #[.agg #[(.int .i64 (re)), (.int .i64 (le)), (.int .i64 (bl)), (.int .i64 (ma)), (.int .i64 (st)), (.int .i64 (lo)), (.int .i64 (m)), (.int .i64 (k)), (.int .i64 (r))], .slice A zs.length c] w fun x w' => ∃ B e, x = .returned (.tuple #[.slice B (cfF (noB re le bl ma st lo m k r zs) zs.length).length e, (.int .i64 (cfE (noB re le bl ma st lo m k r zs) zs.length))]) ∧ Cells w' B (cfF (noB re le bl ma st lo m k r zs) zs.length) ∧ Below w.heap.size w w' := by
  have hce : confErr re le bl ma st lo m k r zs = 0 := by
    unfold regErr at h
    have h1 := firstOf_eq_zero.1 h
    simp only [List.mem_cons, List.not_mem_nil, or_false, forall_eq_or_imp, forall_eq] at h1
    exact firstOf_eq_zero.2 (by simp [h1.1, h1.2]; omega)
  have hs := conf_same re le bl ma st lo m k r zs hn
  refine (Conflict_ok re le bl ma st lo m k r A zs c w hL hC (by omega) hce).mono ?_
  rintro x w' ⟨v, rfl, hv, hb⟩
  generalize confF re le bl zs (drvs ma st lo m k r) (2 ^ zs.length) = o at hs hv
  generalize noB re le bl ma st lo m k r zs = P at hs
  unfold cfF cfE
  rw [← hs]
  cases o with
  | none =>
    have hv' : v = .slice none 0 0 := hv
    subst hv'
    exact ⟨none, 0, rfl, fun h0 => absurd h0 (by simp), hb⟩
  | some b =>
    obtain ⟨B, e, rfl, hc⟩ := own_told hv.2
    exact ⟨B, e, rfl, hc, hb⟩
theorem rConflict_ok (re le bl ma st lo m k r : Int) (A : Option Addr) (zs : List (Int × Int × Int)) (c : Nat) (w : World) (hC : RCells w A zs) (hn : zs.length ≤ 8) (h : regErr re le bl ma st lo m k r zs = 0) :
    Calls Tryz.prog 22 #[.agg #[(.int .i64 (re)), (.int .i64 (le)), (.int .i64 (bl)), (.int .i64 (ma)), (.int .i64 (st)), (.int .i64 (lo)), (.int .i64 (m)), (.int .i64 (k)), (.int .i64 (r))], .slice A zs.length c] w fun x w' => ∃ B e, x = .returned (.tuple #[.slice B (cfF (noB re le bl ma st lo m k r zs) zs.length).length e, (.int .i64 (cfE (noB re le bl ma st lo m k r zs) zs.length))]) ∧ Cells w' B (cfF (noB re le bl ma st lo m k r zs) zs.length) ∧ Below w.heap.size w w' := by
  obtain ⟨z1, z2⟩ := reg_zero h
  refine (refConflict_any re le bl ma st lo m k r zs z1 z2 hn A c w hC).mono ?_
  rintro x w' ⟨v, rfl, hv, hnil, hb⟩
  unfold cfF cfE
  cases ho : confR (noB re le bl ma st lo m k r zs) zs.length with
  | none =>
    obtain rfl := hnil ho
    exact ⟨none, 0, rfl, fun h0 => absurd h0 (by simp), hb⟩
  | some l =>
    obtain ⟨B, e, rfl, hc⟩ := own_told (hv l ho)
    exact ⟨B, e, rfl, hc, hb⟩
theorem confErr_reg {re le bl ma st lo m k r : Int} {zs : List (Int × Int × Int)} (h : regErr re le bl ma st lo m k r zs ≠ 0) : confErr re le bl ma st lo m k r zs = regErr re le bl ma st lo m k r zs := by
  unfold confErr regErr at *
  unfold firstOf at *
  by_cases h1 : classErr re le bl ma st lo m k r = 0 <;> by_cases h2 : readsErr zs = 0 <;> simp_all
theorem confErr_long {re le bl ma st lo m k r : Int} {zs : List (Int × Int × Int)} (h : regErr re le bl ma st lo m k r zs = 0) (hn : 8 < zs.length) : confErr re le bl ma st lo m k r zs = 23 := by
  unfold regErr at h
  have h1 := firstOf_eq_zero.1 h
  simp only [List.mem_cons, List.not_mem_nil, or_false, forall_eq_or_imp, forall_eq] at h1
  unfold confErr firstOf
  simp [h1.1, h1.2, hn]

theorem DriverConflicts_any (re le bl ma st lo mm kk rr : Int) (zs : List (Int × Int × Int)) (c : Nat) (A : Option Addr) (w : World) (hL : Lim w) (hC : RCells w A zs) :
    Calls Tryz.prog 4 #[.agg #[(.int .i64 (re)), (.int .i64 (le)), (.int .i64 (bl)), (.int .i64 (ma)), (.int .i64 (st)), (.int .i64 (lo)), (.int .i64 (mm)), (.int .i64 (kk)), (.int .i64 (rr))], .slice A zs.length c] w fun r w' => r = .returned (.bool true) ∧ Below w.heap.size w w' := by
  by_cases hS : classErr re le bl ma st lo mm kk rr ≠ 0 ∨ classErr re le bl ma st lo mm kk rr = 0 ∧ classN ma st lo mm kk rr ≤ 300
  · by_cases hn : zs.length ≤ 4 ∨ zs.length = 33 ∨ zs.length = 9
    · have HSm : Hid (∀ W : World, Calls Tryz.prog 10 #[.agg #[(.int .i64 (re)), (.int .i64 (le)), (.int .i64 (bl)), (.int .i64 (ma)), (.int .i64 (st)), (.int .i64 (lo)), (.int .i64 (mm)), (.int .i64 (kk)), (.int .i64 (rr))]] W fun r w' => r = .returned (.bool true) ∧ Below W.heap.size W w') := Lib.hid (fun W => small_yes re le bl ma st lo mm kk rr W hS)
      have HRd : Hid (∀ W : World, RCells W A zs → Calls Tryz.prog 13 #[.slice A zs.length c] W fun r w' => ∃ B e, r = .returned (.slice B zs.length e) ∧ (∀ p, B = some p → W.heap.size ≤ p.block) ∧ RCells w' B zs ∧ Below W.heap.size W w') := Lib.hid (fun W k => readings_any A zs c W k (by omega))
      obtain ⟨F, hF⟩ : ∃ F, F = if regErr re le bl ma st lo mm kk rr zs = 0 then (if zs.length ≤ 8 then cfF (noB re le bl ma st lo mm kk rr zs) zs.length else []) else [] := ⟨_, rfl⟩
      obtain ⟨EE, hEE⟩ : ∃ EE, EE = if regErr re le bl ma st lo mm kk rr zs = 0 then (if zs.length ≤ 8 then cfE (noB re le bl ma st lo mm kk rr zs) zs.length else 23) else regErr re le bl ma st lo mm kk rr zs := ⟨_, rfl⟩
      have hFl : F.length ≤ 8 := by
        rw [hF]
        split
        · split
          · rename_i h; exact cfF_len h
          · simp
        · simp
      have HRg : Hid (∀ (W : World) (B : Option Addr) (e : Nat), Lim W → RCells W B zs → Calls Tryz.prog 21 #[.agg #[(.int .i64 (re)), (.int .i64 (le)), (.int .i64 (bl)), (.int .i64 (ma)), (.int .i64 (st)), (.int .i64 (lo)), (.int .i64 (mm)), (.int .i64 (kk)), (.int .i64 (rr))], .slice B zs.length e] W fun r w' => ∃ B' e', r = .returned (.tuple #[.slice B' F.length e', (.int .i64 (EE))]) ∧ Cells w' B' F ∧ Below W.heap.size W w') := Lib.hid (fun W B e hL k => by
        by_cases h : regErr re le bl ma st lo mm kk rr zs = 0
        · rw [hF, hEE, if_pos h, if_pos h]
          by_cases h8 : zs.length ≤ 8
          · rw [if_pos h8, if_pos h8]
            exact pConflict_ok re le bl ma st lo mm kk rr B zs e W hL k h8 h
          · rw [if_neg h8, if_neg h8]
            have hce := confErr_long h (by omega)
            refine (Conflict_bad re le bl ma st lo mm kk rr B zs e W hL k (by omega) (by rw [hce]; decide)).mono ?_
            rintro r w' ⟨rfl, hb⟩
            rw [hce]
            exact ⟨none, 0, rfl, fun h0 => absurd h0 (by simp), hb⟩
        · rw [hF, hEE, if_neg h, if_neg h]
          have hce := confErr_reg h
          refine (Conflict_bad re le bl ma st lo mm kk rr B zs e W hL k (by omega) (by rw [hce]; exact h)).mono ?_
          rintro r w' ⟨rfl, hb⟩
          rw [hce]
          exact ⟨none, 0, rfl, fun h0 => absurd h0 (by simp), hb⟩)
      have hc : regErr re le bl ma st lo mm kk rr zs = 0 ∧ Hid (∀ W : World, RCells W A zs → Calls Tryz.prog 22 #[.agg #[(.int .i64 (re)), (.int .i64 (le)), (.int .i64 (bl)), (.int .i64 (ma)), (.int .i64 (st)), (.int .i64 (lo)), (.int .i64 (mm)), (.int .i64 (kk)), (.int .i64 (rr))], .slice A zs.length c] W fun r w' => ∃ B' e', r = .returned (.tuple #[.slice B' F.length e', (.int .i64 (EE))]) ∧ Cells w' B' F ∧ Below W.heap.size W w') ∨ ¬ regErr re le bl ma st lo mm kk rr zs = 0 ∧ EE = regErr re le bl ma st lo mm kk rr zs ∧ F = [] ∧ F.length = 0 := by
        by_cases h : regErr re le bl ma st lo mm kk rr zs = 0
        · refine .inl ⟨h, Lib.hid (fun W k => ?_)⟩
          rw [hF, hEE, if_pos h, if_pos h]
          by_cases h8 : zs.length ≤ 8
          · rw [if_pos h8, if_pos h8]
            exact rConflict_ok re le bl ma st lo mm kk rr A zs c W k h8 h
          · rw [if_neg h8, if_neg h8]
            refine (refConflict_long re le bl ma st lo mm kk rr A zs.length c W (by omega)).mono ?_
            rintro r w' ⟨rfl, hb⟩
            exact ⟨none, 0, rfl, fun h0 => absurd h0 (by simp), hb⟩
        · have hf : F = [] := by rw [hF, if_neg h]
          exact .inr ⟨h, by rw [hEE, if_neg h], hf, by rw [hf]; rfl⟩
      have HSa : Hid (∀ (W : World) (B B' : Option Addr) (e e' : Nat), Cells W B F → Cells W B' F → Calls Tryz.prog 23 #[.slice B F.length e, .slice B' F.length e'] W fun r w' => r = .returned (.bool true) ∧ Below W.heap.size W w') := Lib.hid (fun W B B' e e' k1 k2 => by
        have := sameInts_any B B' F F e e' W k1 k2 (by omega) (by omega)
        rwa [decide_eq_true (rfl : F = F)] at this)
      have HCR : Hid (∀ W : World, RCells W A zs → Calls Tryz.prog 16 #[.slice A zs.length c] W fun r w' => r = .returned (.int .i64 (readsErr zs)) ∧ Below W.heap.size W w') := Lib.hid (fun W k => refCheckReadings_any A zs c W k)
      have HSh : (zs.length ≤ 4 ∨ zs.length = 33) → Hid (∀ W : World, Calls Tryz.prog 9 #[.slice A zs.length c, (.int .i64 (4))] W fun r w' => r = .returned (.bool true) ∧ W = w') := fun hh => Lib.hid (fun W => short_yes A _ c 4 W (by omega))
      have HSn : zs.length = 9 → Hid (∀ W : World, Calls Tryz.prog 9 #[.slice A zs.length c, (.int .i64 (4))] W fun r w' => r = .returned (.bool false) ∧ W = w') := fun hh => Lib.hid (fun W => short_no A _ c 4 W (by omega) (by omega))
      clear hF hEE hFl
      generalize hNf : F.length = fn at *
      by_cases h9 : zs.length = 9
      · have HSn' := HSn h9
        rw [h9] at HSn' HRd HRg HCR hc ⊢
        exact confl_nine re le bl ma st lo mm kk rr (classErr re le bl ma st lo mm kk rr) (readsErr zs) EE _ zs F fn c A w hL (Lib.hid hC) HSn' HSm HRd HRg (Lib.hid (fun W => refCheckClass_any _ _ _ _ _ _ _ _ _ W)) HCR HSa rfl hc
      · exact confl_ok re le bl ma st lo mm kk rr (classErr re le bl ma st lo mm kk rr) (readsErr zs) EE _ zs F _ fn c A w hL (Lib.hid hC) (HSh (by omega)) HSm HRd HRg (Lib.hid (fun W => refCheckClass_any _ _ _ _ _ _ _ _ _ W)) HCR HSa rfl hc
    · exact confl_no re le bl ma st lo mm kk rr _ c A w hL (.inl ⟨by omega, Lib.hid (fun W => short_no A _ c 4 W (by omega) (by omega))⟩)
  · have HSm : Hid (∀ W : World, Calls Tryz.prog 10 #[.agg #[(.int .i64 (re)), (.int .i64 (le)), (.int .i64 (bl)), (.int .i64 (ma)), (.int .i64 (st)), (.int .i64 (lo)), (.int .i64 (mm)), (.int .i64 (kk)), (.int .i64 (rr))]] W fun r w' => r = .returned (.bool false) ∧ Below W.heap.size W w') := Lib.hid (fun W => small_no re le bl ma st lo mm kk rr W (by
        by_cases h : classErr re le bl ma st lo mm kk rr = 0
        · exact h
        · exact absurd (.inl h) hS) (by
        by_cases h : classErr re le bl ma st lo mm kk rr = 0
        · by_cases h2 : classN ma st lo mm kk rr ≤ 300
          · exact absurd (.inr ⟨h, h2⟩) hS
          · omega
        · exact absurd (.inl h) hS))
    by_cases hn : zs.length ≤ 4 ∨ zs.length = 33
    · exact confl_no re le bl ma st lo mm kk rr _ c A w hL (.inr (.inl ⟨Lib.hid (fun W => short_yes A _ c 4 W (by omega)), HSm⟩))
    · by_cases h9 : zs.length = 9
      · exact confl_no re le bl ma st lo mm kk rr _ c A w hL (.inr (.inr ⟨h9, Lib.hid (fun W => short_no A _ c 4 W (by omega) (by omega)), HSm⟩))
      · exact confl_no re le bl ma st lo mm kk rr _ c A w hL (.inl ⟨h9, Lib.hid (fun W => short_no A _ c 4 W (by omega) (by omega))⟩)
end Go.Proofs.YtpkldjlljoledaaGreatDoor

/- DriverConflicts: the row and its card. -/
namespace Go.Proofs.YtpkldjlljoledaaGreatDoor.driverConflicts
open Go.ChangeShapes Go.WideShapes Go.ChangeAt Go.RowKit Go.Flat
open Calm (bcell)

set_option maxRecDepth 100000 in
/-- readings, opened: a slice of structs of three integers. -/
theorem open_rslice {H : Type} {enc : TypeId × Value → H} {w : World} {base : Nat} {r : Reach} {b0 : Nat} {sp : Nat → Bool} {held : Bool} {v : Value} {d : DataW H} {p : List MemPlace}
    (hv : Value.okWide Tryz.prog w r b0 26 v) (hd : DataW.Trod enc Tryz.prog w base sp held 26 v d p) :
    ∃ (A : Option Addr) (c : Nat) (zs : List (Int × Int × Int)), v = .slice A zs.length c ∧ RCells w A zs := by
  obtain ⟨a, len, cap, rfl⟩ := okWide_slice Tryz.underlying26 hv
  obtain ⟨fuel, hf⟩ := hd
  have hf' : DataW.trod enc Tryz.prog w base sp held fuel 26 [.slice a len cap] = some (d, p) := hf
  obtain ⟨A, c, zs, e, _, _, k⟩ := open_rcells 3 Tryz.underlying26 (by kernel_rfl) (by kernel_rfl) hf'
  exact ⟨A, c, zs, by simpa using e, k⟩

set_option maxRecDepth 100000 in
theorem contract (H : Type) (enc : TypeId × Value → H) (W : World) (base : Nat) (args : Array Value) (ds gs : List (DataW H)) (before : List MemPlace)
    (hval : ∀ (j : Nat) t v, Tryz.f4.params[j]? = some t → args[j]? = some v → Value.okWide Tryz.prog W .any base t v)
    (hW : DataW.Whole enc Tryz.prog Tryz.f4.params.toList Rows.driverConflictsSpec.vars false W args.toList ds gs before) (hL : laidMetH Tryz.prog laidList W) :
    Calls Tryz.prog 4 args W fun e W' => ∃ v, e = .returned v ∧ Rows.driverConflictsSpec.post enc Tryz.prog Tryz.f4 false true false false W args v W' := by
  have hW' := hW
  have hlt : ∀ p ∈ before, p.block < W.heap.size := fun p hp => hW.lt p hp
  obtain ⟨p, q, hA0, hV, rfl, hfz, hnd⟩ := hW
  have hA : DataW.TrodAll enc Tryz.prog W 0 (fun _ => true) true Tryz.f4.params.toList args.toList ds p := hA0
  rw [Tryz.params4] at hA hval
  obtain ⟨v0, v1, d0, d1, p0, p1, rfl, rfl, rfl, h0, h1⟩ := trodAll_two hA
  obtain ⟨rfl, rfl⟩ := trodVars_none hV
  obtain ⟨z0, hz0, rfl, rfl⟩ := open_ints 4 Tryz.underlying25 (by kernel_rfl) (hval 0 _ _ rfl rfl) h0
  rw [show Tryz.prog.cellsOf 25 = 9 by kernel_rfl] at hz0
  obtain ⟨A1, c1, zs, rfl, k1⟩ := open_rslice (hval 1 _ _ rfl rfl) h1
  match z0, hz0 with
  | [d1, d2, d3, d4, d5, d6, d7, d8, d9], _ =>
  refine (DriverConflicts_any d1 d2 d3 d4 d5 d6 d7 d8 d9 zs c1 A1 W (lim_of_laid hL) k1).mono fun e W' ⟨he, hb⟩ => ?_
  subst he
  refine ⟨_, rfl, post_of_below (pa := [] ++ p1) (pv := []) hW' (fun _ _ _ => trodAll_cons_mk (shut_bool Tryz.underlying4 _) trodAll_mk0) (fun sp hs => ?_) (fun _ _ => rfl) rfl hb (ok_one (by kernel_rfl) rfl (okWide_bool_mk Tryz.underlying4 _))⟩
  exact trodAll_below laidOut hb (by rw [Tryz.params4]; exact of_decide_eq_true (by kernel_rfl)) hA0 (fun x hx => hlt x (List.mem_append_left _ hx)) (fun x hx => hs x (List.mem_append_left _ hx))

/-- the witness: nothing. -/
noncomputable def wit : Array Value := #[.agg #[(.int .i64 (0)), (.int .i64 (0)), (.int .i64 (0)), (.int .i64 (0)), (.int .i64 (0)), (.int .i64 (0)), (.int .i64 (0)), (.int .i64 (0)), (.int .i64 (0))], .slice none 0 0]
theorem reads (os : Os) {H : Type} (enc : TypeId × Value → H) : ∃ ds places, DataW.whole enc Tryz.prog ((World.doorLaid Tryz.prog 150 os).forCall (fun _ _ => 0) ⟨#[], wit, []⟩).memory Tryz.f4.params.toList Rows.driverConflictsSpec.vars false wit.toList 8 = some (ds, [], places) :=
  ⟨[.agg [.agg (List.replicate 6 (.lit (.int .i64 0))), .lit (.int .i64 0), .lit (.int .i64 0), .lit (.int .i64 0)], .nil], [], by kernel_rfl⟩

set_option maxRecDepth 100000 in
theorem lifted (os : Os) (started : os.Started) (H : Type) (enc : TypeId × Value → H) (F : Stop.Interp) :
    ReturnsInHanded {} Tryz.checked os 4 .any ((OpenSpec.ofChange Rows.driverConflictsSpec).preRow enc Tryz.prog Tryz.f4 Rows.driverConflictsRow.domain false Rows.driverConflictsRow.laid) (((OpenSpec.ofChange Rows.driverConflictsSpec).at F).post enc Tryz.prog Tryz.f4 false true false false) := by
  obtain ⟨ds, places, hx⟩ := reads os enc
  refine returnsInHanded_of_row (C := Tryz.checked) (s := OpenSpec.ofChange Rows.driverConflictsSpec) own started (by kernel_rfl) Tryz.func4
    (witness_row_at (enc := enc) (C := Tryz.checked) false (World.doorLaid Tryz.prog 150 os) wit rfl (door_vars os _) (door_rest os _) (by kernel_rfl)
      (OpenSpec.preRow_of_cond 8 hx (by kernel_rfl) (fun k hk => by cases hk) (by kernel_rfl) (laid_met os _))) ?_
  intro W base args ds gs before hval hW _ _ _ hL _ _
  exact contract H enc W base args ds gs before hval hW hL

theorem said : Rows.DriverConflictsSaid :=
  OpenClaim.holds_of_cond 4 Tryz.f4 rfl rfl rfl rfl rfl rfl rfl ⟨rfl, rfl, rfl, rfl, rfl⟩ rfl rfl rfl rfl rfl (by kernel_rfl) Tryz.func4 (by kernel_rfl)
    (of_decide_eq_true (by kernel_rfl)) (by unfold Func.isWrapper; first | (rw [if_pos (by decide +kernel)]; kernel_rfl) | (rw [if_neg (by decide +kernel)]; exact ⟨rfl, rfl⟩))
    (fun os started H enc _ F => by rw [OpenClaim.pre_eq_preRow]; exact lifted os started H enc F)

theorem plain (f : FuncId) (fn : Func) (hf : Tryz.pinned.checked.prog.funcNamed "woofer/wooferlaw03.DriverConflicts" = some f) (hfn : Tryz.pinned.checked.prog.funcs[f]? = some fn) :
    true = Tryz.pinned.checked.prog.looks [] ∧ ∀ (j : Nat) t, fn.params[j]? = some t → Tryz.pinned.checked.prog.wantsStandIn t = false := by
  obtain rfl : f = 4 := Option.some.inj ((show Tryz.prog.funcNamed "woofer/wooferlaw03.DriverConflicts" = some 4 by kernel_rfl).symm.trans hf) |>.symm
  obtain rfl : fn = Tryz.f4 := (Option.some.inj (Tryz.func4.symm.trans hfn)).symm
  refine ⟨by kernel_rfl, fun j t ht => ?_⟩
  rw [Tryz.params4] at ht
  have hall : ∀ t ∈ (#[25, 26] : Array TypeId), Tryz.prog.wantsStandIn t = false := of_decide_eq_true (by kernel_rfl)
  exact hall t (Array.mem_of_getElem? ht)

theorem card : Rows.DriverConflictsCardSaid :=
  Claim7.holds_tied_plain_at .later [] _ _ _ _ said (fun _ h => by cases h) (by kernel_rfl) (fun _ h => by cases h) driverConflicts_row_tie rfl ⟨rfl, rfl⟩ (by kernel_rfl) rfl plain (by kernel_rfl)
end Go.Proofs.YtpkldjlljoledaaGreatDoor.driverConflicts
