/- Part 17 of the texts of the claim: Kc, AwK. -/
import Derived.Test.YtdeapbihbhoefaaDoorKe16
import Derived.Test.YtdeapbihbhoefaaDoorKe10
import Derived.Test.YtdeapbihbhoefaaDoorKe8
import Derived.Test.YtdeapbihbhoefaaDoorKe7

/- The program's functions as contracts over what is known of their arguments, errors and all. -/
namespace Go.Proofs.YtdeapbihbhoefaaDoor
open Go.RowKit
open Calm (bcell Blk)

def begLv (E : Int) (L : Nat) : Int := if E = 0 then ((L - 1 : Nat) : Int) else 0
def begPs (E : Int) (M : Nat) : List Int := if E = 0 then List.replicate (M - 1) 0 else []
theorem cBegin {lk ht rc : Int} {ts gs : List Int} {M L N : Nat} {u : Value} {W : World} (hM : M = ts.length) (hL : L = gs.length) (h1 : M ≤ 1000) (h2 : L ≤ 1000) (hu : KG lk ht rc M ts L gs u W) (hN : N = (begPs (guardErr lk ht rc ts gs) M).length) :
    Calls Tryd.prog 16 #[u] W (KP (K2 (KTI 0 (begLv (guardErr lk ht rc ts gs) L) N (begPs (guardErr lk ht rc ts gs) M)) (KV (.int .i64 (guardErr lk ht rc ts gs)))) W) := by
  obtain ⟨A1, c1, A2, c2, rfl, hT, hG⟩ := hu
  unfold begPs begLv at *
  by_cases he : guardErr lk ht rc ts gs = 0
  · rw [if_pos he] at hN ⊢
    rw [if_pos he, he]
    rw [List.length_replicate] at hN
    subst hN
    exact (Begin_ok lk ht rc ts gs A1 A2 M L c1 c2 W hM hL hT hG h1 h2 he).mono fun e W' ⟨⟨B, _, h, hc, hi⟩, hb⟩ => ⟨_, h, ⟨_, _, rfl, ⟨_, _, rfl, hc, fun p hp => by cases hp; exact hi⟩, rfl⟩, hb⟩
  · rw [if_neg he] at hN ⊢
    rw [if_neg he]
    subst hN
    exact (Begin_bad lk ht rc ts gs A1 A2 M L c1 c2 W hM hL hT hG h1 h2 he).mono fun e W' ⟨h, hb⟩ => ⟨_, h, ⟨_, _, rfl, KTI.zero _, rfl⟩, hb⟩
/-- what Behind hands back. -/
structure BehR where
  h : Int
  lv : Int
  ps : List Int
  ex : Int
  err : Int
def behR (lk ht rc : Int) (ts gs : List Int) (h lv : Int) (ps : List Int) (y : Int) : BehR :=
  if bothErr lk ht rc ts gs h lv ps y = 0 then (if 536870912 < coolF lk h + y * y then ⟨0, 0, [], 0, 4⟩ else ⟨coolF lk h + y * y, lv, pushL ps y, exF ts ps y, 0⟩) else ⟨0, 0, [], 0, bothErr lk ht rc ts gs h lv ps y⟩
theorem cBehind {lk ht rc h lv y : Int} {ts gs ps : List Int} {M L N N2 : Nat} {u v : Value} {W : World} (hM : M = ts.length) (hL : L = gs.length) (hN : N = ps.length) (h1 : M ≤ 1000) (h2 : L ≤ 1000) (h3 : N ≤ 1000) (hLim : Lim W) (hu : KG lk ht rc M ts L gs u W) (hv : KT h lv N ps v W)
    (hN2 : N2 = (behR lk ht rc ts gs h lv ps y).ps.length) :
    Calls Tryd.prog 28 #[u, v, (.int .i64 y)] W (KP (K3 (KTI (behR lk ht rc ts gs h lv ps y).h (behR lk ht rc ts gs h lv ps y).lv N2 (behR lk ht rc ts gs h lv ps y).ps) (KV (.int .i64 ((behR lk ht rc ts gs h lv ps y).ex))) (KV (.int .i64 ((behR lk ht rc ts gs h lv ps y).err)))) W) := by
  obtain ⟨A1, c1, A2, c2, rfl, hT, hG⟩ := hu
  obtain ⟨A3, c3, rfl, hP⟩ := hv
  unfold behR at *
  by_cases he : bothErr lk ht rc ts gs h lv ps y = 0
  · rw [if_pos he] at hN2 ⊢
    by_cases hl : 536870912 < coolF lk h + y * y
    · rw [if_pos hl] at hN2 ⊢
      subst hN2
      exact (Behind_large lk ht rc h lv y ts gs ps A1 A2 A3 M L N c1 c2 c3 W hM hL hN hLim hT hG hP h1 h2 h3 he hl).mono fun e W' ⟨h, hb⟩ => ⟨_, h, ⟨_, _, _, rfl, KTI.zero _, rfl, rfl⟩, hb⟩
    · rw [if_neg hl] at hN2 ⊢
      have e : N2 = N := by rw [hN2, hN]; exact pushL_len ps y
      subst e
      exact (Behind_ok lk ht rc h lv y ts gs ps A1 A2 A3 M L N2 c1 c2 c3 W hM hL hN hLim hT hG hP h1 h2 h3 he hl).mono fun e W' ⟨⟨B, _, h, hc, hi⟩, hb⟩ => ⟨_, h, ⟨_, _, _, rfl, ⟨_, _, rfl, hc, fun p hp => by cases hp; exact hi⟩, rfl, rfl⟩, hb⟩
  · rw [if_neg he] at hN2 ⊢
    subst hN2
    exact (Behind_bad lk ht rc h lv y ts gs ps A1 A2 A3 M L N c1 c2 c3 W hM hL hN hLim hT hG hP h1 h2 h3 he).mono fun e W' ⟨h, hb⟩ => ⟨_, h, ⟨_, _, _, rfl, KTI.zero _, rfl, rfl⟩, hb⟩
/-- what Step hands back. -/
structure StepR where
  out : Int
  h : Int
  lv : Int
  ps : List Int
  err : Int
def stepR (lk ht rc : Int) (ts gs : List Int) (h lv : Int) (ps : List Int) (y : Int) : StepR :=
  if bothErr lk ht rc ts gs h lv ps y = 0 then (if fineF ht rc h 0 ts ps = true then ⟨outF lk ht rc ts gs ⟨h, lv.toNat, ps⟩ y, (stF lk ht rc ts gs ⟨h, lv.toNat, ps⟩ y).h, ((stF lk ht rc ts gs ⟨h, lv.toNat, ps⟩ y).lv : Int), (stF lk ht rc ts gs ⟨h, lv.toNat, ps⟩ y).ps, 0⟩ else ⟨0, 0, 0, [], 20⟩) else ⟨0, 0, 0, [], bothErr lk ht rc ts gs h lv ps y⟩
theorem cStep {lk ht rc h lv y : Int} {ts gs ps : List Int} {M L N N2 : Nat} {u v : Value} {W : World} (hM : M = ts.length) (hL : L = gs.length) (hN : N = ps.length) (h1 : M ≤ 1000) (h2 : L ≤ 1000) (h3 : N ≤ 1000) (hLim : Lim W) (hu : KG lk ht rc M ts L gs u W) (hv : KT h lv N ps v W)
    (hN2 : N2 = (stepR lk ht rc ts gs h lv ps y).ps.length) :
    Calls Tryd.prog 29 #[u, v, (.int .i64 y)] W (KP (K3 (KV (.int .i64 ((stepR lk ht rc ts gs h lv ps y).out))) (KTI (stepR lk ht rc ts gs h lv ps y).h (stepR lk ht rc ts gs h lv ps y).lv N2 (stepR lk ht rc ts gs h lv ps y).ps) (KV (.int .i64 ((stepR lk ht rc ts gs h lv ps y).err)))) W) := by
  obtain ⟨A1, c1, A2, c2, rfl, hT, hG⟩ := hu
  obtain ⟨A3, c3, rfl, hP⟩ := hv
  unfold stepR at *
  by_cases he : bothErr lk ht rc ts gs h lv ps y = 0
  · rw [if_pos he] at hN2 ⊢
    have hS := stErr_zero (bothErr_zero he).1
    by_cases hf : fineF ht rc h 0 ts ps = true
    · rw [if_pos hf] at hN2 ⊢
      have hlv : lv = (lv.toNat : Int) := by have := hS.lv.1; omega
      obtain ⟨k, rfl⟩ : ∃ k : Nat, lv = k := ⟨lv.toNat, hlv⟩
      rw [Int.toNat_natCast] at hN2 ⊢
      have e : N2 = N := by rw [hN2, hN]; exact pushL_len ps _
      subst e
      exact (Step_ok lk ht rc h y k ts gs ps A1 A2 A3 M L N2 c1 c2 c3 W hM hL hN hLim hT hG hP h1 h2 h3 he (fine_good hS hf)).mono fun e W' ⟨⟨B, _, h, hc, hi⟩, hb⟩ => ⟨_, h, ⟨_, _, _, rfl, rfl, ⟨_, _, rfl, hc, fun p hp => by cases hp; exact hi⟩, rfl⟩, hb⟩
    · rw [if_neg hf] at hN2 ⊢
      subst hN2
      exact (Step_unsafe lk ht rc h lv y ts gs ps A1 A2 A3 M L N c1 c2 c3 W hM hL hN hLim hT hG hP h1 h2 h3 he (by simpa using hf)).mono fun e W' ⟨h, hb⟩ => ⟨_, h, ⟨_, _, _, rfl, rfl, KTI.zero _, rfl⟩, hb⟩
  · rw [if_neg he] at hN2 ⊢
    subst hN2
    exact (Step_bad lk ht rc h lv y ts gs ps A1 A2 A3 M L N c1 c2 c3 W hM hL hN hLim hT hG hP h1 h2 h3 he).mono fun e W' ⟨h, hb⟩ => ⟨_, h, ⟨_, _, _, rfl, rfl, KTI.zero _, rfl⟩, hb⟩
def tailR (lk ht rc : Int) (ts gs : List Int) (h lv : Int) (ps : List Int) : List Int := if stErr lk ht rc ts gs h lv ps = 0 then tailsF ts ps else []
theorem cTails {lk ht rc h lv : Int} {ts gs ps : List Int} {M L N N2 : Nat} {u v : Value} {W : World} (hM : M = ts.length) (hL : L = gs.length) (hN : N = ps.length) (h1 : M ≤ 1000) (h2 : L ≤ 1000) (h3 : N ≤ 1000) (hLim : Lim W) (hu : KG lk ht rc M ts L gs u W) (hv : KT h lv N ps v W)
    (hN2 : N2 = (tailR lk ht rc ts gs h lv ps).length) :
    Calls Tryd.prog 26 #[u, v] W (KP (K2 (KS N2 (tailR lk ht rc ts gs h lv ps)) (KV (.int .i64 (stErr lk ht rc ts gs h lv ps)))) W) := by
  obtain ⟨A1, c1, A2, c2, rfl, hT, hG⟩ := hu
  obtain ⟨A3, c3, rfl, hP⟩ := hv
  unfold tailR at *
  by_cases he : stErr lk ht rc ts gs h lv ps = 0
  · rw [if_pos he] at hN2 ⊢
    rw [he]
    have e : N2 = N := by rw [hN2, hN]; exact tailsL_len _ _ _
    subst e
    exact (Tails_ok lk ht rc h lv ts gs ps A1 A2 A3 M L N2 c1 c2 c3 W hM hL hN hLim hT hG hP h1 h2 h3 he).mono fun e W' ⟨⟨B, c, h, hc⟩, hb⟩ => ⟨_, h, ⟨_, _, rfl, ⟨_, _, rfl, hc⟩, rfl⟩, hb⟩
  · rw [if_neg he] at hN2 ⊢
    subst hN2
    exact (Tails_bad lk ht rc h lv ts gs ps A1 A2 A3 M L N c1 c2 c3 W hM hL hN hLim hT hG hP h1 h2 h3 he).mono fun e W' ⟨h, hb⟩ => ⟨_, h, ⟨_, _, rfl, KS.nil _, rfl⟩, hb⟩

def safeR (lk ht rc : Int) (ts gs : List Int) (h lv : Int) (ps : List Int) : Bool := if stErr lk ht rc ts gs h lv ps = 0 then fineF ht rc h 0 ts ps else false
theorem cSafe {lk ht rc h lv : Int} {ts gs ps : List Int} {M L N : Nat} {u v : Value} {W : World} (hM : M = ts.length) (hL : L = gs.length) (hN : N = ps.length) (h1 : M ≤ 1000) (h2 : L ≤ 1000) (h3 : N ≤ 1000) (hLim : Lim W) (hu : KG lk ht rc M ts L gs u W) (hv : KT h lv N ps v W) :
    Calls Tryd.prog 27 #[u, v] W (KP (K2 (KV (.bool (safeR lk ht rc ts gs h lv ps))) (KV (.int .i64 (stErr lk ht rc ts gs h lv ps)))) W) := by
  obtain ⟨A1, c1, A2, c2, rfl, hT, hG⟩ := hu
  obtain ⟨A3, c3, rfl, hP⟩ := hv
  unfold safeR
  by_cases he : stErr lk ht rc ts gs h lv ps = 0
  · rw [if_pos he, he]
    exact (Safe_ok lk ht rc h lv ts gs ps A1 A2 A3 M L N c1 c2 c3 W hM hL hN hLim hT hG hP h1 h2 h3 he).mono fun e W' ⟨h, hb⟩ => ⟨_, h, ⟨_, _, rfl, rfl, rfl⟩, hb⟩
  · rw [if_neg he]
    exact (Safe_bad lk ht rc h lv ts gs ps A1 A2 A3 M L N c1 c2 c3 W hM hL hN hLim hT hG hP h1 h2 h3 he).mono fun e W' ⟨h, hb⟩ => ⟨_, h, ⟨_, _, rfl, rfl, rfl⟩, hb⟩
def relR (lk ht rc : Int) (ts gs : List Int) (h lv : Int) (ps : List Int) : Int × Int :=
  if stErr lk ht rc ts gs h lv ps = 0 then (if fineF ht rc h 0 ts ps = true then (((gs.length - 1 - lv.toNat : Nat) : Int), 0) else (0, 20)) else (0, stErr lk ht rc ts gs h lv ps)
theorem cRelease {lk ht rc h lv : Int} {ts gs ps : List Int} {M L N : Nat} {u v : Value} {W : World} (hM : M = ts.length) (hL : L = gs.length) (hN : N = ps.length) (h1 : M ≤ 1000) (h2 : L ≤ 1000) (h3 : N ≤ 1000) (hLim : Lim W) (hu : KG lk ht rc M ts L gs u W) (hv : KT h lv N ps v W) :
    Calls Tryd.prog 30 #[u, v] W (KP (K2 (KV (.int .i64 ((relR lk ht rc ts gs h lv ps).1))) (KV (.int .i64 ((relR lk ht rc ts gs h lv ps).2)))) W) := by
  obtain ⟨A1, c1, A2, c2, rfl, hT, hG⟩ := hu
  obtain ⟨A3, c3, rfl, hP⟩ := hv
  unfold relR
  by_cases he : stErr lk ht rc ts gs h lv ps = 0
  · rw [if_pos he]
    have hS := stErr_zero he
    by_cases hf : fineF ht rc h 0 ts ps = true
    · rw [if_pos hf]
      have hlv : lv = (lv.toNat : Int) := by have := hS.lv.1; omega
      obtain ⟨k, rfl⟩ : ∃ k : Nat, lv = k := ⟨lv.toNat, hlv⟩
      rw [Int.toNat_natCast, ← hL]
      exact (Release_ok lk ht rc h k ts gs ps A1 A2 A3 M L N c1 c2 c3 W hM hL hN hLim hT hG hP h1 h2 h3 he (fine_good hS hf)).mono fun e W' ⟨h, hb⟩ => ⟨_, h, ⟨_, _, rfl, rfl, rfl⟩, hb⟩
    · rw [if_neg hf]
      exact (Release_unsafe lk ht rc h lv ts gs ps A1 A2 A3 M L N c1 c2 c3 W hM hL hN hLim hT hG hP h1 h2 h3 he (by simpa using hf)).mono fun e W' ⟨h, hb⟩ => ⟨_, h, ⟨_, _, rfl, rfl, rfl⟩, hb⟩
  · rw [if_neg he]
    exact (Release_bad lk ht rc h lv ts gs ps A1 A2 A3 M L N c1 c2 c3 W hM hL hN hLim hT hG hP h1 h2 h3 he).mono fun e W' ⟨h, hb⟩ => ⟨_, h, ⟨_, _, rfl, rfl, rfl⟩, hb⟩
def runR (lk ht rc : Int) (ts gs xs : List Int) : List Int := if runErr lk ht rc ts gs xs = 0 then outsK lk ht rc ts gs xs xs.length else []
def lvsR (lk ht rc : Int) (ts gs xs : List Int) : List Int := if runErr lk ht rc ts gs xs = 0 then lvsK lk ht rc ts gs xs xs.length else []
theorem cRun {lk ht rc : Int} {ts gs xs : List Int} {M L N N2 : Nat} {u v : Value} {W : World} (hM : M = ts.length) (hL : L = gs.length) (hN : N = xs.length) (h1 : M ≤ 1000) (h2 : L ≤ 1000) (h3 : N ≤ 5000) (hLim : Lim W) (hu : KG lk ht rc M ts L gs u W) (hv : KS N xs v W)
    (hN2 : N2 = (runR lk ht rc ts gs xs).length) :
    Calls Tryd.prog 40 #[u, v] W (KP (K2 (KS N2 (runR lk ht rc ts gs xs)) (KV (.int .i64 (runErr lk ht rc ts gs xs)))) W) := by
  obtain ⟨A1, c1, A2, c2, rfl, hT, hG⟩ := hu
  obtain ⟨A3, c3, rfl, hX⟩ := hv
  unfold runR at *
  by_cases he : runErr lk ht rc ts gs xs = 0
  · rw [if_pos he] at hN2 ⊢
    rw [he]
    have hz := runErr_zero he
    subst hM hL hN
    have e : N2 = xs.length := by rw [hN2]; exact outsK_len _ _ _ _ _ _ _
    subst e
    exact (run_ok lk ht rc ts gs xs A1 A2 A3 c1 c2 c3 W hLim (guard_valid hz.1) hT hG hX (sigErr_in hz.2) (by omega) (by omega) h3 he).mono fun e W' ⟨⟨B, d, h, hc⟩, hb⟩ => ⟨_, h, ⟨_, _, rfl, ⟨_, _, rfl, hc⟩, rfl⟩, hb⟩
  · rw [if_neg he] at hN2 ⊢
    subst hM hL hN hN2
    exact (Run_bad lk ht rc ts gs xs A1 A2 A3 c1 c2 c3 W hT hG hX (by omega) (by omega) h3 he).mono fun e W' ⟨h, hb⟩ => ⟨_, h, ⟨_, _, rfl, KS.nil _, rfl⟩, hb⟩
theorem cLevels {lk ht rc : Int} {ts gs xs : List Int} {M L N N2 : Nat} {u v : Value} {W : World} (hM : M = ts.length) (hL : L = gs.length) (hN : N = xs.length) (h1 : M ≤ 1000) (h2 : L ≤ 1000) (h3 : N ≤ 5000) (hLim : Lim W) (hu : KG lk ht rc M ts L gs u W) (hv : KS N xs v W)
    (hN2 : N2 = (lvsR lk ht rc ts gs xs).length) :
    Calls Tryd.prog 42 #[u, v] W (KP (K2 (KS N2 (lvsR lk ht rc ts gs xs)) (KV (.int .i64 (runErr lk ht rc ts gs xs)))) W) := by
  obtain ⟨A1, c1, A2, c2, rfl, hT, hG⟩ := hu
  obtain ⟨A3, c3, rfl, hX⟩ := hv
  unfold lvsR at *
  by_cases he : runErr lk ht rc ts gs xs = 0
  · rw [if_pos he] at hN2 ⊢
    rw [he]
    have hz := runErr_zero he
    subst hM hL hN
    have e : N2 = xs.length := by rw [hN2]; exact lvsK_len _ _ _ _ _ _ _
    subst e
    exact (levels_ok lk ht rc ts gs xs A1 A2 A3 c1 c2 c3 W hLim (guard_valid hz.1) hT hG hX (sigErr_in hz.2) (by omega) (by omega) h3 he).mono fun e W' ⟨⟨B, d, h, hc⟩, hb⟩ => ⟨_, h, ⟨_, _, rfl, ⟨_, _, rfl, hc⟩, rfl⟩, hb⟩
  · rw [if_neg he] at hN2 ⊢
    subst hM hL hN hN2
    exact (Levels_bad lk ht rc ts gs xs A1 A2 A3 c1 c2 c3 W hT hG hX (by omega) (by omega) h3 he).mono fun e W' ⟨h, hb⟩ => ⟨_, h, ⟨_, _, rfl, KS.nil _, rfl⟩, hb⟩
def pkHR (lk ht rc : Int) (ts gs xs : List Int) : Int := if runErr lk ht rc ts gs xs = 0 then pkH lk xs xs.length else 0
def pkXR (lk ht rc : Int) (ts gs xs : List Int) : Int := if runErr lk ht rc ts gs xs = 0 then pkX ts xs xs.length else 0
theorem cPeaks {lk ht rc : Int} {ts gs xs : List Int} {M L N : Nat} {u v : Value} {W : World} (hM : M = ts.length) (hL : L = gs.length) (hN : N = xs.length) (h1 : M ≤ 1000) (h2 : L ≤ 1000) (h3 : N ≤ 5000) (hu : KG lk ht rc M ts L gs u W) (hv : KS N xs v W) :
    Calls Tryd.prog 43 #[u, v] W (KP (K2 (KV (.agg #[(.int .i64 (pkHR lk ht rc ts gs xs)), (.int .i64 (pkXR lk ht rc ts gs xs))])) (KV (.int .i64 (runErr lk ht rc ts gs xs)))) W) := by
  obtain ⟨A1, c1, A2, c2, rfl, hT, hG⟩ := hu
  obtain ⟨A3, c3, rfl, hX⟩ := hv
  unfold pkHR pkXR
  subst hM hL hN
  by_cases he : runErr lk ht rc ts gs xs = 0
  · rw [if_pos he, if_pos he, he]
    have hz := runErr_zero he
    exact (peaks_ok lk ht rc ts gs xs A1 A2 A3 c1 c2 c3 W (guard_valid hz.1) hT hG hX (sigErr_in hz.2) (by omega) (by omega) h3 he).mono fun e W' ⟨h, hb⟩ => ⟨_, h, ⟨_, _, rfl, rfl, rfl⟩, hb⟩
  · rw [if_neg he, if_neg he]
    exact (Peaks_bad lk ht rc ts gs xs A1 A2 A3 c1 c2 c3 W hT hG hX (by omega) (by omega) h3 he).mono fun e W' ⟨h, hb⟩ => ⟨_, h, ⟨_, _, rfl, rfl, rfl⟩, hb⟩
def stdR (lk ht rc : Int) (ts gs : List Int) : Int := if guardErr lk ht rc ts gs = 0 then (stdF lk ht : Int) else 0
def quiR (lk ht rc : Int) (ts gs : List Int) : Int := if guardErr lk ht rc ts gs = 0 then quietF lk ht rc ts else 0
theorem cSteady {lk ht rc : Int} {ts gs : List Int} {M L : Nat} {u : Value} {W : World} (hM : M = ts.length) (hL : L = gs.length) (h1 : M ≤ 1000) (h2 : L ≤ 1000) (hu : KG lk ht rc M ts L gs u W) :
    Calls Tryd.prog 48 #[u] W (KP (K2 (KV (.int .i64 (stdR lk ht rc ts gs))) (KV (.int .i64 (guardErr lk ht rc ts gs)))) W) := by
  obtain ⟨A1, c1, A2, c2, rfl, hT, hG⟩ := hu
  exact (Steady_any lk ht rc ts gs A1 A2 M L c1 c2 W hM hL hT hG h1 h2).mono fun e W' ⟨h, hb⟩ => ⟨_, h, ⟨_, _, rfl, rfl, rfl⟩, hb⟩
theorem cQuiet {lk ht rc : Int} {ts gs : List Int} {M L : Nat} {u : Value} {W : World} (hM : M = ts.length) (hL : L = gs.length) (h1 : M ≤ 1000) (h2 : L ≤ 1000) (hu : KG lk ht rc M ts L gs u W) :
    Calls Tryd.prog 49 #[u] W (KP (K2 (KV (.int .i64 (quiR lk ht rc ts gs))) (KV (.int .i64 (guardErr lk ht rc ts gs)))) W) := by
  obtain ⟨A1, c1, A2, c2, rfl, hT, hG⟩ := hu
  exact (Quiet_any lk ht rc ts gs A1 A2 M L c1 c2 W hM hL hT hG h1 h2).mono fun e W' ⟨h, hb⟩ => ⟨_, h, ⟨_, _, rfl, rfl, rfl⟩, hb⟩
theorem cCool {lk ht rc a b : Int} {ts gs : List Int} {M L : Nat} {u : Value} {W : World} (hM : M = ts.length) (hL : L = gs.length) (h1 : M ≤ 1000) (h2 : L ≤ 1000) (hu : KG lk ht rc M ts L gs u W) :
    Calls Tryd.prog 50 #[u, (.int .i64 a), (.int .i64 b)] W (KP (K2 (KV (.int .i64 ((coolE lk ht rc ts gs a b).1))) (KV (.int .i64 ((coolE lk ht rc ts gs a b).2)))) W) := by
  obtain ⟨A1, c1, A2, c2, rfl, hT, hG⟩ := hu
  exact (Cool_any lk ht rc a b ts gs A1 A2 M L c1 c2 W hM hL hT hG h1 h2).mono fun e W' ⟨h, hb⟩ => ⟨_, h, ⟨_, _, rfl, rfl, rfl⟩, hb⟩
def enR (xs : List Int) : Int := if sigErr xs = 0 then enF xs else 0
theorem cEnergy {xs : List Int} {N : Nat} {v : Value} {W : World} (hN : N = xs.length) (h3 : N ≤ 5000) (hv : KS N xs v W) :
    Calls Tryd.prog 56 #[v] W (KP (K2 (KV (.int .i64 (enR xs))) (KV (.int .i64 (sigErr xs)))) W) := by
  obtain ⟨A3, c3, rfl, hX⟩ := hv
  subst hN
  exact (Energy_any xs A3 c3 W hX h3 (fun e => sigErr_in e)).mono fun e W' ⟨h, hb⟩ => ⟨_, h, ⟨_, _, rfl, rfl, rfl⟩, hb⟩
def loudR (lk ht rc : Int) (ts gs ls : List Int) (n : Int) : List Int := if loudErr lk ht rc ts gs ls n = 0 then (loudF lk ht rc ts gs ls n.toNat).getD [] else []
def loudE (lk ht rc : Int) (ts gs ls : List Int) (n : Int) : Int := if loudErr lk ht rc ts gs ls n = 0 then (if (loudF lk ht rc ts gs ls n.toNat).isSome then 0 else 24) else loudErr lk ht rc ts gs ls n
theorem loudErr_zero {lk ht rc n : Int} {ts gs ls : List Int} (e : loudErr lk ht rc ts gs ls n = 0) : guardErr lk ht rc ts gs = 0 ∧ (1 ≤ ls.length ∧ ls.length ≤ 6) ∧ ascErr ls (-2048) 2048 = 0 ∧ 0 ≤ n ∧ n ≤ 6 := by
  have h := firstOf_eq_zero.1 e
  have h1 := h (someErr ls.length 6) (by simp)
  have h2 := rangeErr_zero.1 (h (rangeErr n 0 6) (by simp))
  refine ⟨h _ (by simp), ?_, h (ascErr ls (-2048) 2048) (by simp), h2⟩
  unfold someErr at h1
  have h3 := firstOf_eq_zero.1 h1
  have h4 := h3 (if (ls.length : Int) = 0 then 12 else 0) (by simp)
  have h5 := h3 (if (6 : Int) < (ls.length : Int) then 5 else 0) (by simp)
  split at h4
  · omega
  · split at h5 <;> omega
theorem ascErr_in {l : List Int} {lo hi : Int} (e : ascErr l lo hi = 0) : ∀ x ∈ l, lo ≤ x ∧ x ≤ hi := by
  intro x hx
  obtain ⟨k, hk, rfl⟩ := List.mem_iff_getElem.1 hx
  have h1 := firstOf_eq_zero.1 e (ascAt l lo hi k) (List.mem_map.2 ⟨k, List.mem_range.2 hk, rfl⟩)
  have h2 := firstOf_eq_zero.1 h1 (rangeErr (l.getD k 0) lo hi) (by simp)
  have h3 := rangeErr_zero.1 h2
  rw [List.getD_eq_getElem?_getD, List.getElem?_eq_getElem hk] at h3
  exact h3
theorem cLoudest {lk ht rc n : Int} {ts gs ls : List Int} {M L N N2 : Nat} {u v : Value} {W : World} (hM : M = ts.length) (hL : L = gs.length) (hN : N = ls.length) (h1 : M ≤ 1000) (h2 : L ≤ 1000) (h3 : N ≤ 1000) (hLim : Lim W) (hu : KG lk ht rc M ts L gs u W) (hv : KS N ls v W)
    (hN2 : N2 = (loudR lk ht rc ts gs ls n).length) :
    Calls Tryd.prog 55 #[u, v, (.int .i64 n)] W (KP (K2 (KS N2 (loudR lk ht rc ts gs ls n)) (KV (.int .i64 (loudE lk ht rc ts gs ls n)))) W) := by
  obtain ⟨A1, c1, A2, c2, rfl, hT, hG⟩ := hu
  obtain ⟨A3, c3, rfl, hX⟩ := hv
  unfold loudR loudE at *
  by_cases he : loudErr lk ht rc ts gs ls n = 0
  · rw [if_pos he] at hN2 ⊢
    rw [if_pos he]
    obtain ⟨g1, g2, g3, g4, g5⟩ := loudErr_zero he
    obtain ⟨k, rfl⟩ : ∃ k : Nat, n = k := ⟨n.toNat, by omega⟩
    rw [Int.toNat_natCast] at hN2 ⊢
    subst hN2
    exact (Loudest_ok lk ht rc k ts gs ls A1 A2 A3 c1 c2 c3 M L N W hM hL hN hLim (guard_valid g1) hT hG hX (by omega) (by omega) (ascErr_in g3) he).mono fun e W' ⟨⟨B, d, h, hc⟩, hb⟩ => ⟨_, h, ⟨_, _, rfl, ⟨_, _, rfl, hc⟩, rfl⟩, hb⟩
  · rw [if_neg he] at hN2 ⊢
    rw [if_neg he]
    subst hN2
    exact (Loudest_bad lk ht rc n ts gs ls A1 A2 A3 c1 c2 c3 M L N W hM hL hN hT hG hX (by omega) (by omega) (by omega) he).mono fun e W' ⟨h, hb⟩ => ⟨_, h, ⟨_, _, rfl, KS.nil _, rfl⟩, hb⟩
def textR (lk ht rc : Int) (ts gs : List Int) : List UInt8 := if guardErr lk ht rc ts gs = 0 then textG lk ht rc ts gs else []
theorem cPrint {lk ht rc : Int} {ts gs : List Int} {M L : Nat} {u : Value} {W : World} (hM : M = ts.length) (hL : L = gs.length) (h1 : M ≤ 1000) (h2 : L ≤ 1000) (hTab : PTab W) (hu : KG lk ht rc M ts L gs u W) :
    Calls Tryd.prog 68 #[u] W (KP (K2 (KV (.string ⟨(textR lk ht rc ts gs).toArray⟩)) (KV (.int .i64 (guardErr lk ht rc ts gs)))) W) := by
  obtain ⟨A1, c1, A2, c2, rfl, hT, hG⟩ := hu
  unfold textR
  by_cases he : guardErr lk ht rc ts gs = 0
  · rw [if_pos he, he]
    exact (Print_ok lk ht rc ts gs A1 A2 M L c1 c2 W hM hL hTab hT hG h1 h2 he).mono fun e W' ⟨h, hb⟩ => ⟨_, h, ⟨_, _, rfl, rfl, rfl⟩, hb⟩
  · rw [if_neg he]
    exact (Print_bad lk ht rc ts gs A1 A2 M L c1 c2 W hM hL hT hG h1 h2 he).mono fun e W' ⟨h, hb⟩ => ⟨_, h, ⟨_, _, rfl, rfl, rfl⟩, hb⟩
end Go.Proofs.YtdeapbihbhoefaaDoor

/- The example's guard, and what the program's functions answer for it. -/
namespace Go.Proofs.YtdeapbihbhoefaaDoor
open Go.RowKit
open Calm (bcell Blk)

set_option maxRecDepth 100000 in
theorem usual_K (W : World) : Calls Tryd.prog 67 #[] W (KP (KGI 1 100 20 2 [1, 2] 3 [0, 8, 16]) W) := by
  go_enter Tryd.func67, Tryd.ntmps67
  go_wp2
  refine bodyPost_ret (v := .agg #[(.int .i64 1), (.int .i64 100), .slice (some ⟨W.heap.size + 1, 0, none⟩) 2 2, (.int .i64 20), .slice (some ⟨W.heap.size + 1 + 1, 0, none⟩) 3 3]) (by simp [results, Tryd.results67, go_sem]) rfl ?_
  refine ⟨_, rfl, ⟨_, _, _, _, rfl, ?_, ?_, fun p hp => ?_, fun p hp => ?_⟩, ?_⟩
  · exact blkc (zs := [1, 2]) (show Blk _ (W.heap.size + 1) #[(.int .i64 1), (.int .i64 2)] from by (repeat (first | ((with_reducible refine Blk.at_ ?_); focus (first | rfl | (simp; done) | (simp; omega))) | (with_reducible refine Blk.alloc ?_ _) | (with_reducible refine Blk.below ?_ (by with_reducible assumption)) | (with_reducible refine Blk.drew ?_))))
  · exact blkc (zs := [0, 8, 16]) (show Blk _ (W.heap.size + 1 + 1) #[(.int .i64 0), (.int .i64 8), (.int .i64 16)] from by (repeat (first | ((with_reducible refine Blk.at_ ?_); focus (first | rfl | (simp; done) | (simp; omega))) | (with_reducible refine Blk.alloc ?_ _) | (with_reducible refine Blk.below ?_ (by with_reducible assumption)) | (with_reducible refine Blk.drew ?_))))
  · cases hp; exact ⟨_, heap_old (by simp) (heap_new (by simp))⟩
  · cases hp; exact ⟨_, heap_new (by simp)⟩
  · (repeat (first | (with_reducible exact Below.refl _ _) | ((with_reducible refine Below.setCell ?_ ?_ _); rotate_left 1; focus (first | (simp; done) | (simp; omega) | (simp at *; omega))) | ((with_reducible refine Below.alloc ?_ ?_ _); rotate_left 1; focus (first | (simp; done) | (simp; omega) | (simp at *; omega))) | (with_reducible refine Below.drew ?_) | ((with_reducible refine Calm.step (by assumption) ?_ ?_); rotate_left 1; focus (first | (simp; done) | (simp; omega) | (simp at *; omega)))))
theorem aw_g : guardErr 1 100 20 [1, 2] [0, 8, 16] = 0 := by decide
theorem aw_b : behR 1 100 20 [1, 2] [0, 8, 16] 0 2 [0] 6 = ⟨36, 2, [6], 6, 0⟩ := by kernel_rfl
theorem aw_b2 : behR 1 100 20 [1, 2] [0, 8, 16] 0 2 [0] 11 = ⟨121, 2, [11], 11, 0⟩ := by kernel_rfl
theorem aw_t : tailR 1 100 20 [1, 2] [0, 8, 16] 36 2 [6] = [12] := by kernel_rfl
theorem aw_s : safeR 1 100 20 [1, 2] [0, 8, 16] 121 2 [11] = false := by kernel_rfl
theorem aw_st : stepR 1 100 20 [1, 2] [0, 8, 16] 0 2 [0] 12 = ⟨6, 36, 1, [6], 0⟩ := by kernel_rfl
theorem aw_e6 : runErr 1 100 20 [1, 2] [0, 8, 16] [6, 6, 6] = 0 := by kernel_rfl
theorem aw_e12 : runErr 1 100 20 [1, 2] [0, 8, 16] [12, 12] = 0 := by kernel_rfl
theorem aw_r : runR 1 100 20 [1, 2] [0, 8, 16] [6, 6, 6] = [6, 6, 6] := by kernel_rfl
theorem aw_p1 : pkHR 1 100 20 [1, 2] [0, 8, 16] [6, 6, 6] = 63 := by kernel_rfl
theorem aw_p2 : pkXR 1 100 20 [1, 2] [0, 8, 16] [6, 6, 6] = 18 := by kernel_rfl
theorem aw_l : lvsR 1 100 20 [1, 2] [0, 8, 16] [12, 12] = [1, 1] := by kernel_rfl
theorem aw_sd : stdR 1 100 20 [1, 2] [0, 8, 16] = 7 := by kernel_rfl
theorem aw_q : quiR 1 100 20 [1, 2] [0, 8, 16] = 6 := by kernel_rfl
theorem aw_c : coolE 1 100 20 [1, 2] [0, 8, 16] 100 10 = (4, 0) := by kernel_rfl
theorem aw_c2 : coolE 1 100 20 [1, 2] [0, 8, 16] 1 0 = (0, 24) := by kernel_rfl
theorem aw_rl : relR 1 100 20 [1, 2] [0, 8, 16] 0 0 [0] = (2, 0) := by kernel_rfl
theorem aw_lo : loudR 1 100 20 [1, 2] [0, 8, 16] [-10, 3, 9] 2 = [-10, 3] := by kernel_rfl
theorem aw_le : loudE 1 100 20 [1, 2] [0, 8, 16] [-10, 3, 9] 2 = 0 := by kernel_rfl
theorem aw_en : enR [-10, 3] = 109 := by kernel_rfl
theorem aw_es : sigErr [-10, 3] = 0 := by kernel_rfl
theorem aw_tx : textR 1 100 20 [1, 2] [0, 8, 16] = [103, 117, 97, 114, 100, 32, 49, 32, 49, 48, 48, 32, 50, 48, 32, 116, 97, 112, 115, 32, 49, 32, 50, 32, 103, 97, 105, 110, 115, 32, 48, 32, 56, 32, 49, 54] := by kernel_rfl
theorem aw_begin {u : Value} {W : World} (hu : (KG 1 100 20 2 [1, 2] 3 [0, 8, 16]) u W) : Calls Tryd.prog 16 #[u] W (KP (K2 (KTI 0 2 1 [0]) (KV (.int .i64 0))) W) := by
  have h := cBegin (ts := [1, 2]) (gs := [0, 8, 16]) (N := 1) rfl rfl (by decide) (by decide) hu (by rw [aw_g]; rfl)
  rw [aw_g] at h
  exact h
theorem aw_behind {u v : Value} {W : World} (hL : Lim W) (hu : (KG 1 100 20 2 [1, 2] 3 [0, 8, 16]) u W) (hv : KT 0 2 1 [0] v W) : Calls Tryd.prog 28 #[u, v, (.int .i64 6)] W (KP (K3 (KTI 36 2 1 [6]) (KV (.int .i64 6)) (KV (.int .i64 0))) W) := by
  have h := cBehind (ts := [1, 2]) (gs := [0, 8, 16]) (ps := [0]) (N2 := 1) (y := 6) rfl rfl rfl (by decide) (by decide) (by decide) hL hu hv (by rw [aw_b]; rfl)
  rw [aw_b] at h
  exact h
theorem aw_behind2 {u v : Value} {W : World} (hL : Lim W) (hu : (KG 1 100 20 2 [1, 2] 3 [0, 8, 16]) u W) (hv : KT 0 2 1 [0] v W) : Calls Tryd.prog 28 #[u, v, (.int .i64 11)] W (KP (K3 (KTI 121 2 1 [11]) (KV (.int .i64 11)) (KV (.int .i64 0))) W) := by
  have h := cBehind (ts := [1, 2]) (gs := [0, 8, 16]) (ps := [0]) (N2 := 1) (y := 11) rfl rfl rfl (by decide) (by decide) (by decide) hL hu hv (by rw [aw_b2]; rfl)
  rw [aw_b2] at h
  exact h
theorem aw_s0 : stErr 1 100 20 [1, 2] [0, 8, 16] 36 2 [6] = 0 := by decide
theorem aw_s1 : stErr 1 100 20 [1, 2] [0, 8, 16] 121 2 [11] = 0 := by decide
theorem aw_tails {u v : Value} {W : World} (hL : Lim W) (hu : (KG 1 100 20 2 [1, 2] 3 [0, 8, 16]) u W) (hv : KT 36 2 1 [6] v W) : Calls Tryd.prog 26 #[u, v] W (KP (K2 (KS 1 [12]) (KV (.int .i64 0))) W) := by
  have h := cTails (ts := [1, 2]) (gs := [0, 8, 16]) (ps := [6]) (N2 := 1) rfl rfl rfl (by decide) (by decide) (by decide) hL hu hv (by rw [aw_t]; rfl)
  rw [aw_t, aw_s0] at h
  exact h
theorem aw_safe {u v : Value} {W : World} (hL : Lim W) (hu : (KG 1 100 20 2 [1, 2] 3 [0, 8, 16]) u W) (hv : KT 121 2 1 [11] v W) : Calls Tryd.prog 27 #[u, v] W (KP (K2 (KV (.bool false)) (KV (.int .i64 0))) W) := by
  have h := cSafe (ts := [1, 2]) (gs := [0, 8, 16]) (ps := [11]) rfl rfl rfl (by decide) (by decide) (by decide) hL hu hv
  rw [aw_s, aw_s1] at h
  exact h
theorem aw_step {u v : Value} {W : World} (hL : Lim W) (hu : (KG 1 100 20 2 [1, 2] 3 [0, 8, 16]) u W) (hv : KT 0 2 1 [0] v W) : Calls Tryd.prog 29 #[u, v, (.int .i64 12)] W (KP (K3 (KV (.int .i64 6)) (KTI 36 1 1 [6]) (KV (.int .i64 0))) W) := by
  have h := cStep (ts := [1, 2]) (gs := [0, 8, 16]) (ps := [0]) (N2 := 1) (y := 12) rfl rfl rfl (by decide) (by decide) (by decide) hL hu hv (by rw [aw_st]; rfl)
  rw [aw_st] at h
  exact h
theorem aw_run {u v : Value} {W : World} (hL : Lim W) (hu : (KG 1 100 20 2 [1, 2] 3 [0, 8, 16]) u W) (hv : KS 3 [6, 6, 6] v W) : Calls Tryd.prog 40 #[u, v] W (KP (K2 (KS 3 [6, 6, 6]) (KV (.int .i64 0))) W) := by
  have h := cRun (ts := [1, 2]) (gs := [0, 8, 16]) (xs := [6, 6, 6]) (N2 := 3) rfl rfl rfl (by decide) (by decide) (by decide) hL hu hv (by rw [aw_r]; rfl)
  rw [aw_r, aw_e6] at h
  exact h
theorem aw_peaks {u v : Value} {W : World} (hu : (KG 1 100 20 2 [1, 2] 3 [0, 8, 16]) u W) (hv : KS 3 [6, 6, 6] v W) : Calls Tryd.prog 43 #[u, v] W (KP (K2 (KV (.agg #[(.int .i64 63), (.int .i64 18)])) (KV (.int .i64 0))) W) := by
  have h := cPeaks (ts := [1, 2]) (gs := [0, 8, 16]) (xs := [6, 6, 6]) rfl rfl rfl (by decide) (by decide) (by decide) hu hv
  rw [aw_p1, aw_p2, aw_e6] at h
  exact h
theorem aw_levels {u v : Value} {W : World} (hL : Lim W) (hu : (KG 1 100 20 2 [1, 2] 3 [0, 8, 16]) u W) (hv : KS 2 [12, 12] v W) : Calls Tryd.prog 42 #[u, v] W (KP (K2 (KS 2 [1, 1]) (KV (.int .i64 0))) W) := by
  have h := cLevels (ts := [1, 2]) (gs := [0, 8, 16]) (xs := [12, 12]) (N2 := 2) rfl rfl rfl (by decide) (by decide) (by decide) hL hu hv (by rw [aw_l]; rfl)
  rw [aw_l, aw_e12] at h
  exact h
theorem aw_steady {u : Value} {W : World} (hu : (KG 1 100 20 2 [1, 2] 3 [0, 8, 16]) u W) : Calls Tryd.prog 48 #[u] W (KP (K2 (KV (.int .i64 7)) (KV (.int .i64 0))) W) := by
  have h := cSteady (ts := [1, 2]) (gs := [0, 8, 16]) rfl rfl (by decide) (by decide) hu
  rw [aw_sd, aw_g] at h
  exact h
theorem aw_quiet {u : Value} {W : World} (hu : (KG 1 100 20 2 [1, 2] 3 [0, 8, 16]) u W) : Calls Tryd.prog 49 #[u] W (KP (K2 (KV (.int .i64 6)) (KV (.int .i64 0))) W) := by
  have h := cQuiet (ts := [1, 2]) (gs := [0, 8, 16]) rfl rfl (by decide) (by decide) hu
  rw [aw_q, aw_g] at h
  exact h
theorem aw_cool {u : Value} {W : World} (hu : (KG 1 100 20 2 [1, 2] 3 [0, 8, 16]) u W) : Calls Tryd.prog 50 #[u, (.int .i64 100), (.int .i64 10)] W (KP (K2 (KV (.int .i64 4)) (KV (.int .i64 0))) W) := by
  have h := cCool (ts := [1, 2]) (gs := [0, 8, 16]) (a := 100) (b := 10) rfl rfl (by decide) (by decide) hu
  rw [aw_c] at h
  exact h
theorem aw_cool2 {u : Value} {W : World} (hu : (KG 1 100 20 2 [1, 2] 3 [0, 8, 16]) u W) : Calls Tryd.prog 50 #[u, (.int .i64 1), (.int .i64 0)] W (KP (K2 (KV (.int .i64 0)) (KV (.int .i64 24))) W) := by
  have h := cCool (ts := [1, 2]) (gs := [0, 8, 16]) (a := 1) (b := 0) rfl rfl (by decide) (by decide) hu
  rw [aw_c2] at h
  exact h
theorem aw_release {u v : Value} {W : World} (hL : Lim W) (hu : (KG 1 100 20 2 [1, 2] 3 [0, 8, 16]) u W) (hv : KT 0 0 1 [0] v W) : Calls Tryd.prog 30 #[u, v] W (KP (K2 (KV (.int .i64 2)) (KV (.int .i64 0))) W) := by
  have h := cRelease (ts := [1, 2]) (gs := [0, 8, 16]) (ps := [0]) rfl rfl rfl (by decide) (by decide) (by decide) hL hu hv
  rw [aw_rl] at h
  exact h
theorem aw_loudest {u v : Value} {W : World} (hL : Lim W) (hu : (KG 1 100 20 2 [1, 2] 3 [0, 8, 16]) u W) (hv : KS 3 [-10, 3, 9] v W) : Calls Tryd.prog 55 #[u, v, (.int .i64 2)] W (KP (K2 (KS 2 [-10, 3]) (KV (.int .i64 0))) W) := by
  have h := cLoudest (ts := [1, 2]) (gs := [0, 8, 16]) (ls := [-10, 3, 9]) (N2 := 2) (n := 2) rfl rfl rfl (by decide) (by decide) (by decide) hL hu hv (by rw [aw_lo]; rfl)
  rw [aw_lo, aw_le] at h
  exact h
theorem aw_energy {v : Value} {W : World} (hv : KS 2 [-10, 3] v W) : Calls Tryd.prog 56 #[v] W (KP (K2 (KV (.int .i64 109)) (KV (.int .i64 0))) W) := by
  have h := cEnergy (xs := [-10, 3]) rfl (by decide) hv
  rw [aw_en, aw_es] at h
  exact h
theorem aw_print {u : Value} {W : World} (hTab : PTab W) (hu : (KG 1 100 20 2 [1, 2] 3 [0, 8, 16]) u W) : Calls Tryd.prog 68 #[u] W (KP (K2 (KV (.string ⟨#[103, 117, 97, 114, 100, 32, 49, 32, 49, 48, 48, 32, 50, 48, 32, 116, 97, 112, 115, 32, 49, 32, 50, 32, 103, 97, 105, 110, 115, 32, 48, 32, 56, 32, 49, 54]⟩)) (KV (.int .i64 0))) W) := by
  have h := cPrint (ts := [1, 2]) (gs := [0, 8, 16]) rfl rfl (by decide) (by decide) hTab hu
  rw [aw_tx, aw_g] at h
  exact h
/-- two slices held against each other. -/
theorem same_K {a b : List Int} {n m : Nat} {u v : Value} {W : World} (h1 : n = a.length) (h2 : m = b.length) (h3 : n ≤ 100000) (h4 : m ≤ 100000) (hu : KS n a u W) (hv : KS m b v W) : Calls Tryd.prog 38 #[u, v] W (KP (KV (.bool (decide (a = b)))) W) := by
  obtain ⟨A, c, rfl, hA⟩ := hu
  obtain ⟨B, d, rfl, hB⟩ := hv
  subst h1 h2
  exact (sameInts_any A B a b c d W hA hB h3 h4).mono fun e W' ⟨h, hb⟩ => ⟨_, h, rfl, hb⟩
theorem same_T {a b : List Int} {n m : Nat} {u v : Value} {W : World} (e : a = b) (h1 : n = a.length) (h2 : m = b.length) (h3 : n ≤ 100000) (hu : KS n a u W) (hv : KS m b v W) : Calls Tryd.prog 38 #[u, v] W (KP (KV (.bool true)) W) := by
  subst e
  have h := same_K h1 h2 h3 (by omega) hu hv
  rwa [decide_eq_true rfl] at h
theorem aw_pk (W : World) : Sem.run Tryd.prog (binOp BinOp.neq 68 (.agg #[(.int .i64 63), (.int .i64 18)]) (.agg #[(.int .i64 63), (.int .i64 18)])) W = .ok (.bool false) W := by kernel_rfl
end Go.Proofs.YtdeapbihbhoefaaDoor
