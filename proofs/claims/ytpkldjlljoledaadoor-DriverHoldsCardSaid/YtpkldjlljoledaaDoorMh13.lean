/- Part 13 of the texts of the claim: G1, G2, Rel3, K3i, HoK, Onto. -/
import Derived.Test.YtpkldjlljoledaaDoorMh12
import Derived.Test.YtpkldjlljoledaaDoorMh10
import Derived.Test.YtpkldjlljoledaaDoorMh8
import Derived.ArgAppend
import Derived.Test.YtpkldjlljoledaaDoorMh9
import Derived.Test.YtpkldjlljoledaaDoorMh11
import Derived.Laws.AppendOwnNone

/- Lists of drivers of a class; contracts of the statements' class and drivers, of the reference's Small and SameDrivers. %still -/
namespace Go.Proofs.YtpkldjlljoledaaDoor
open Go.RowKit
open Calm (bcell Blk)

/-- the slice of these drivers lies in memory. -/
def DCells (w : World) (A : Option Addr) (re le bl : Int) (xs : List (Int × Int × Int)) : Prop :=
  0 < xs.length → ∃ b off, A = some ⟨b, off, none⟩ ∧ b < w.heap.size ∧ ∀ k, k < xs.length → w.cell? ⟨b, off + k * 6, none⟩ = some (.int .i64 (re)) ∧ w.cell? ⟨b, off + k * 6 + 1, none⟩ = some (.int .i64 (le)) ∧ w.cell? ⟨b, off + k * 6 + 2, none⟩ = some (.int .i64 (bl)) ∧
    w.cell? ⟨b, off + k * 6 + 3, none⟩ = some (.int .i64 ((xs.getD k (0, 0, 0)).1)) ∧ w.cell? ⟨b, off + k * 6 + 4, none⟩ = some (.int .i64 ((xs.getD k (0, 0, 0)).2.1)) ∧ w.cell? ⟨b, off + k * 6 + 5, none⟩ = some (.int .i64 ((xs.getD k (0, 0, 0)).2.2))
theorem DCells.below {w w' : World} {A : Option Addr} {re le bl : Int} {xs : List (Int × Int × Int)} (h : DCells w A re le bl xs) (hb : Below w.heap.size w w') : DCells w' A re le bl xs := by
  intro h0
  obtain ⟨b, off, hA, hl, hc⟩ := h h0
  refine ⟨b, off, hA, Nat.lt_of_lt_of_le hl hb.size, fun k hk => ?_⟩
  obtain ⟨h1, h2, h3, h4, h5, h6⟩ := hc k hk
  exact ⟨(hb.cell (p := ⟨b, off + k * 6, none⟩) hl).trans h1, (hb.cell (p := ⟨b, off + k * 6 + 1, none⟩) hl).trans h2, (hb.cell (p := ⟨b, off + k * 6 + 2, none⟩) hl).trans h3, (hb.cell (p := ⟨b, off + k * 6 + 3, none⟩) hl).trans h4, (hb.cell (p := ⟨b, off + k * 6 + 4, none⟩) hl).trans h5, (hb.cell (p := ⟨b, off + k * 6 + 5, none⟩) hl).trans h6⟩
theorem flat6_at (re le bl : Int) : ∀ (xs : List (Int × Int × Int)) (k : Nat), k < xs.length →
    (flat6 re le bl xs)[k * 6]? = some (.int .i64 (re)) ∧ (flat6 re le bl xs)[k * 6 + 1]? = some (.int .i64 (le)) ∧ (flat6 re le bl xs)[k * 6 + 2]? = some (.int .i64 (bl)) ∧
    (flat6 re le bl xs)[k * 6 + 3]? = some (.int .i64 ((xs.getD k (0, 0, 0)).1)) ∧ (flat6 re le bl xs)[k * 6 + 4]? = some (.int .i64 ((xs.getD k (0, 0, 0)).2.1)) ∧ (flat6 re le bl xs)[k * 6 + 5]? = some (.int .i64 ((xs.getD k (0, 0, 0)).2.2))
  | [], k, h => by simp at h
  | z :: zs, 0, h => by simp [flat6]
  | z :: zs, k + 1, h => by
    have := flat6_at re le bl zs k (by simpa using h)
    rw [show (k + 1) * 6 = k * 6 + 6 by omega, show k * 6 + 6 + 1 = (k * 6 + 1) + 6 by omega, show k * 6 + 6 + 2 = (k * 6 + 2) + 6 by omega, show k * 6 + 6 + 3 = (k * 6 + 3) + 6 by omega, show k * 6 + 6 + 4 = (k * 6 + 4) + 6 by omega, show k * 6 + 6 + 5 = (k * 6 + 5) + 6 by omega]
    simpa [flat6] using this
theorem own_drvs {W : World} {base n : Nat} {e : TypeId} {v : Value} {re le bl : Int} {xs : List (Int × Int × Int)} (h : W.ownsRow base e 6 v n (flat6 re le bl xs)) (hn : n = xs.length) : ∃ A c, v = .slice A n c ∧ (∀ p, A = some p → base ≤ p.block) ∧ DCells W A re le bl xs := by
  rcases h.2 with ⟨h1, h2⟩ | ⟨g, cap, cur, h1, h2, h3, h4, h5, h6, h7⟩
  · exact ⟨none, 0, by rw [h1, h2], by simp, fun h0 => by omega⟩
  · refine ⟨some ⟨g, 0, none⟩, cap, h1, by rintro p ⟨⟩; exact h2, fun h0 => ⟨g, 0, rfl, (Array.getElem?_eq_some_iff.1 h3).1, fun k hk => ?_⟩⟩
    obtain ⟨f1, f2, f3, f4, f5, f6⟩ := flat6_at re le bl xs k hk
    have look : ∀ j v, (flat6 re le bl xs)[j]? = some v → W.cell? ⟨g, j, none⟩ = some v := by
      intro j v hj
      rw [cell_of_row W g j cur _ _ h3]
      rw [← h7, List.getElem?_take] at hj
      split at hj
      · rw [← hj]; simp
      · cases hj
    simp only [Nat.zero_add]
    exact ⟨look _ _ f1, look _ _ f2, look _ _ f3, look _ _ f4, look _ _ f5, look _ _ f6⟩
theorem take_flat6 {re le bl : Int} {zs : List (Int × Int × Int)} {k : Nat} (hk : k < zs.length) : flat6 re le bl (zs.take (k + 1)) = flat6 re le bl (zs.take k) ++ [(.int .i64 (re)), (.int .i64 (le)), (.int .i64 (bl)), (.int .i64 ((zs.getD k (0, 0, 0)).1)), (.int .i64 ((zs.getD k (0, 0, 0)).2.1)), (.int .i64 ((zs.getD k (0, 0, 0)).2.2))] := by
  rw [List.take_succ_eq_append_getElem hk, flat6_append, List.getD_eq_getElem?_getD, List.getElem?_eq_getElem hk]
  rfl
theorem Tryd.infoE : (Tryd.prog.info? 23).map (fun i => (i.zero, i.size, i.bytes)) = some (some (.agg #[.int .i64 0, .int .i64 0, .int .i64 0, .int .i64 0, .int .i64 0, .int .i64 0]), 6, 48) := by kernel_rfl
theorem class_any (re le bl ma st lo m k r : Int) (w : World) : Calls Tryd.prog 64 #[.agg #[(.int .i64 (re)), (.int .i64 (le)), (.int .i64 (bl)), (.int .i64 (ma)), (.int .i64 (st)), (.int .i64 (lo)), (.int .i64 (m)), (.int .i64 (k)), (.int .i64 (r))]] w fun x w' => x = .returned (.agg #[(.int .i64 (re)), (.int .i64 (le)), (.int .i64 (bl)), (.int .i64 (ma)), (.int .i64 (st)), (.int .i64 (lo)), (.int .i64 (m)), (.int .i64 (k)), (.int .i64 (r))]) ∧ Below w.heap.size w w' := by
  go_enter Tryd.func64, Tryd.ntmps64
  go_wp2
  refine bodyPost_ret (v := .agg #[(.int .i64 (re)), (.int .i64 (le)), (.int .i64 (bl)), (.int .i64 (ma)), (.int .i64 (st)), (.int .i64 (lo)), (.int .i64 (m)), (.int .i64 (k)), (.int .i64 (r))]) (by simp [results, Tryd.results64, go_sem, *]) rfl ⟨rfl, ?_⟩
  repeat (first | (with_reducible exact Below.refl _ _) | ((with_reducible refine Below.setCell ?_ ?_ _); rotate_left 1; focus (first | (simp; done) | (simp; omega) | (simp at *; omega))) | ((with_reducible refine Below.alloc ?_ ?_ _); rotate_left 1; focus (first | (simp; done) | (simp; omega) | (simp at *; omega))) | (with_reducible refine Below.drew ?_) | ((with_reducible refine Calm.step (by assumption) ?_ ?_); rotate_left 1; focus (first | (simp; done) | (simp; omega) | (simp at *; omega))))
end Go.Proofs.YtpkldjlljoledaaDoor

/- Contract of the reference's All: the drivers of a class. -/
namespace Go.Proofs.YtpkldjlljoledaaDoor
open Go.RowKit
open Calm (bcell Blk)

set_option maxRecDepth 100000 in
set_option maxHeartbeats 8000000 in
theorem refAll_any (re le bl ma st lo m k r : Int) (w : World) (h : classErr re le bl ma st lo m k r = 0) :
    Calls Tryd.prog 58 #[.agg #[(.int .i64 (re)), (.int .i64 (le)), (.int .i64 (bl)), (.int .i64 (ma)), (.int .i64 (st)), (.int .i64 (lo)), (.int .i64 (m)), (.int .i64 (k)), (.int .i64 (r))]] w fun x w' => ∃ B e, x = .returned (.slice B (drvs ma st lo m k r).length e) ∧ DCells w' B re le bl (drvs ma st lo m k r) ∧ Below w.heap.size w w' := by
  obtain ⟨i0, hi, iz0, iz1, iz2⟩ := info_parts Tryd.infoE
  have hlen := drvs_bound h
  obtain ⟨hp, _⟩ := classErr_zero h
  obtain ⟨hd, ⟨a1, a2⟩, ⟨a3, a4⟩, ⟨a5, a6⟩⟩ := class_zero hp
  obtain ⟨_, _, _, ⟨d1, d2⟩, ⟨d3, d4⟩, ⟨d5, d6⟩⟩ := drvErr_zero hd
  clear h hp hd
  obtain ⟨M, hM⟩ : ∃ M, M = (m + 1 - ma).toNat := ⟨_, rfl⟩
  obtain ⟨S, hS⟩ : ∃ S, S = (k + 1 - st).toNat := ⟨_, rfl⟩
  obtain ⟨L, hL⟩ : ∃ L, L = (r + 1 - lo).toNat := ⟨_, rfl⟩
  have hall : drvs ma st lo m k r = rowM ma st lo S L M := by rw [hM, hS, hL]; rfl
  rw [hall] at hlen ⊢
  have HM := Lib.hid hM
  have HS := Lib.hid hS
  have HL := Lib.hid hL
  have HLEN := Lib.hid hlen
  clear hall hM hS hL hlen
  have hM2 : (M : Int) ≤ 100 := by have := HM.out; omega
  have hS2 : (S : Int) ≤ 5000 := by have := HS.out; omega
  have hL2 : (L : Int) ≤ 100 := by have := HL.out; omega
  go_enter Tryd.func58, Tryd.ntmps58
  go_wp2
  go_loopw [3, 4] (fun v x wr => ∃ i : Nat, i ≤ M ∧ x = (.int .i64 (ma + i)) ∧ wr.ownsRow (w.heap.size + 1) 23 6 v (rowM ma st lo S L i).length (flat6 re le bl (rowM ma st lo S L i)) ∧ Below w.heap.size w wr ∧ w.heap.size + 1 ≤ wr.heap.size ∧ Blk wr w.heap.size #[(.int .i64 (re)), (.int .i64 (le)), (.int .i64 (bl)), (.int .i64 (ma)), (.int .i64 (st)), (.int .i64 (lo)), (.int .i64 (m)), (.int .i64 (k)), (.int .i64 (r))]) (fun _ x _ => (m + 1 - intOf x).toNat)
  case atStart => exact ⟨0, Nat.zero_le _, by simp, by simpa [rowM, flat6] using World.ownsRow_nil _ _ _ _, by (repeat (first | (with_reducible exact Below.refl _ _) | ((with_reducible refine Below.setCell ?_ ?_ _); rotate_left 1; focus (first | (simp; done) | (simp; omega) | (simp at *; omega))) | ((with_reducible refine Below.alloc ?_ ?_ _); rotate_left 1; focus (first | (simp; done) | (simp; omega) | (simp at *; omega))) | (with_reducible refine Below.drew ?_) | ((with_reducible refine Calm.step (by assumption) ?_ ?_); rotate_left 1; focus (first | (simp; done) | (simp; omega) | (simp at *; omega))))), by simp, by (repeat (first | ((with_reducible refine Blk.at_ ?_); focus (first | rfl | (simp; done) | (simp; omega))) | (with_reducible refine Blk.alloc ?_ _) | (with_reducible refine Blk.below ?_ (by with_reducible assumption)) | (with_reducible refine Blk.drew ?_)))⟩
  case round =>
    obtain ⟨i, hi0, rfl, hown, hB, hge, K⟩ := hrel
    have HO := Lib.hid hown
    have HK := Lib.hid K
    obtain ⟨c0, c1, c2, c3, c4, c5, c6, c7, c8, cl, -⟩ := K.o9
    have hsz := hB.size
    clear hown K
    by_cases hi2 : i < M
    · have hi3 : ma + i ≤ m := by have := HM.out; omega
      go_wp2
      go_loopw [3, 5] (fun v x wr => ∃ j : Nat, j ≤ S ∧ x = (.int .i64 (st + j)) ∧ wr.ownsRow (w.heap.size + 1) 23 6 v (rowM ma st lo S L i ++ rowS (ma + i) st lo L j).length (flat6 re le bl (rowM ma st lo S L i ++ rowS (ma + i) st lo L j)) ∧ Below w.heap.size w wr ∧ w.heap.size + 1 ≤ wr.heap.size ∧ Blk wr w.heap.size #[(.int .i64 (re)), (.int .i64 (le)), (.int .i64 (bl)), (.int .i64 (ma)), (.int .i64 (st)), (.int .i64 (lo)), (.int .i64 (m)), (.int .i64 (k)), (.int .i64 (r))]) (fun _ x _ => (k + 1 - intOf x).toNat)
      case atStart => exact ⟨0, Nat.zero_le _, by simp, by simpa [rowS] using HO.out, hB, hge, HK.out⟩
      case round =>
        clear c0 c1 c2 c3 c4 c5 c6 c7 c8 cl hB hge HO HK hsz
        obtain ⟨j, hj0, rfl, hown, hB, hge, K⟩ := hrel
        have HO := Lib.hid hown
        have HK := Lib.hid K
        obtain ⟨c0, c1, c2, c3, c4, c5, c6, c7, c8, cl, -⟩ := K.o9
        have hsz := hB.size
        clear hown K
        by_cases hj2 : j < S
        · have hj3 : st + j ≤ k := by have := HS.out; omega
          go_wp2
          go_loopw [3, 6] (fun v x wr => ∃ kk : Nat, kk ≤ L ∧ x = (.int .i64 (lo + kk)) ∧ wr.ownsRow (w.heap.size + 1) 23 6 v (rowM ma st lo S L i ++ rowS (ma + i) st lo L j ++ rowL (ma + i) (st + j) lo kk).length (flat6 re le bl (rowM ma st lo S L i ++ rowS (ma + i) st lo L j ++ rowL (ma + i) (st + j) lo kk)) ∧ Below w.heap.size w wr ∧ w.heap.size + 1 ≤ wr.heap.size ∧ Blk wr w.heap.size #[(.int .i64 (re)), (.int .i64 (le)), (.int .i64 (bl)), (.int .i64 (ma)), (.int .i64 (st)), (.int .i64 (lo)), (.int .i64 (m)), (.int .i64 (k)), (.int .i64 (r))]) (fun _ x _ => (r + 1 - intOf x).toNat)
          case atStart => exact ⟨0, Nat.zero_le _, by simp, by simpa [rowL] using HO.out, hB, hge, HK.out⟩
          case round =>
            clear c0 c1 c2 c3 c4 c5 c6 c7 c8 cl hB hge HO HK hsz
            obtain ⟨kk, hk0, rfl, hown, hB, hge, K⟩ := hrel
            have HO := Lib.hid hown
            have HK := Lib.hid K
            obtain ⟨c0, c1, c2, c3, c4, c5, c6, c7, c8, cl, -⟩ := K.o9
            have hsz := hB.size
            clear hown K
            by_cases hk2 : kk < L
            · have hk3 : lo + kk ≤ r := by have := HL.out; omega
              obtain ⟨n0, hn0⟩ : ∃ n0, n0 = (rowM ma st lo S L i ++ rowS (ma + i) st lo L j ++ rowL (ma + i) (st + j) lo kk).length := ⟨_, rfl⟩
              have hn1 : n0 < 4096 := by
                obtain ⟨post, hpost⟩ := row_next ma st lo M S L i j kk hi2 hj2 hk2
                have := HLEN.out
                rw [hpost, List.length_append, ← hn0, List.length_cons] at this
                omega
              have HN0 := Lib.hid hn0
              have HO2 := Lib.hid (show wr.ownsRow (w.heap.size + 1) 23 6 _ n0 (flat6 re le bl (rowM ma st lo S L i ++ rowS (ma + i) st lo L j ++ rowL (ma + i) (st + j) lo kk)) by rw [hn0]; exact HO.out)
              clear hn0 HO
              go_wp2_with (at_builtin; refine wpList_append_own _ rfl _ _ 107 rfl (w.heap.size + 1) 23 i0 _ 6 48 Tryd.underlying107 hi iz0 iz1 iz2 rfl (by decide) _ _ _ rfl (ownsRow_below HO2.out (by (repeat (first | (with_reducible exact Below.refl _ _) | ((with_reducible refine Below.setCell ?_ ?_ _); rotate_left 1; focus (first | (simp; done) | (simp; omega) | (simp at *; omega))) | ((with_reducible refine Below.alloc ?_ ?_ _); rotate_left 1; focus (first | (simp; done) | (simp; omega) | (simp at *; omega))) | (with_reducible refine Below.drew ?_) | ((with_reducible refine Calm.step (by assumption) ?_ ?_); rotate_left 1; focus (first | (simp; done) | (simp; omega) | (simp at *; omega))))))) ⟨wr.heap.size + 1, 0, none⟩ 1 1 [(.int .i64 (re)), (.int .i64 (le)), (.int .i64 (bl)), (.int .i64 (ma + i)), (.int .i64 (st + j)), (.int .i64 (lo + kk))] rfl rfl ?c1 ?c2 ?c3 ?c4 ?c5 ?_)
              case c1 =>
                intro q u hj
                match q, hj with
                | 0, hj => simp at hj; subst hj; simp [Addr.add]
                | 1, hj => simp at hj; subst hj; simp [Addr.add]
                | 2, hj => simp at hj; subst hj; simp [Addr.add]
                | 3, hj => simp at hj; subst hj; simp [Addr.add]
                | 4, hj => simp at hj; subst hj; simp [Addr.add]
                | 5, hj => simp at hj; subst hj; simp [Addr.add]
              case c2 => intro u hu; simp at hu; rcases hu with rfl | rfl | rfl | rfl | rfl | rfl <;> rfl
              case c3 => unfold maxLen; omega
              case c4 => omega
              case c5 => simp; omega
              intro v' w2 hown' hgrow _
              have hB8 : Below (w.heap.size + 1) wr w2 := by
                refine Below.grown (B := w.heap.size + 1) ?_ hgrow ?_ (fun q hq => (HO2.out.lt q hq).1)
                · refine Below.mono (B := wr.heap.size) ?_ hge
                  repeat (first | (with_reducible exact Below.refl _ _) | ((with_reducible refine Below.setCell ?_ ?_ _); rotate_left 1; focus (first | (simp; done) | (simp; omega) | (simp at *; omega))) | ((with_reducible refine Below.alloc ?_ ?_ _); rotate_left 1; focus (first | (simp; done) | (simp; omega) | (simp at *; omega))) | (with_reducible refine Below.drew ?_) | ((with_reducible refine Calm.step (by assumption) ?_ ?_); rotate_left 1; focus (first | (simp; done) | (simp; omega) | (simp at *; omega))))
                · simp; omega
              have HO3 := Lib.hid hown'
              have K9 := HK.out.of (Nat.lt_succ_self _) hB8
              clear hgrow hown'
              go_wp2
              go_roundw
              case rel => exact ⟨kk + 1, by omega, by go_num, by
                rw [rowL_succ, ← List.append_assoc, flat6_append, List.length_append, ← HN0.out]
                simpa [flat6] using HO3.out, hB.trans (hB8.mono (by omega)), Nat.le_trans hge hB8.size, K9⟩
              case measure => simp [intOf]; omega
            · obtain rfl : kk = L := by omega
              have hk3 : ¬ lo + kk ≤ r := by have := HL.out; omega
              go_wp2
              go_roundw
              case rel => exact ⟨j + 1, by omega, by go_num, by rw [rowS_succ, ← List.append_assoc]; exact HO.out, hB, hge, HK.out⟩
              case measure => simp [intOf]; omega
        · obtain rfl : j = S := by omega
          have hj3 : ¬ st + j ≤ k := by have := HS.out; omega
          go_wp2
          go_roundw
          case rel => exact ⟨i + 1, by omega, by go_num, by rw [rowM_succ]; exact HO.out, hB, hge, HK.out⟩
          case measure => simp [intOf]; omega
    · obtain rfl : i = M := by omega
      have hi3 : ¬ ma + i ≤ m := by have := HM.out; omega
      obtain ⟨B, cc, rfl, _, hr⟩ := own_drvs HO.out rfl
      have HR := Lib.hid hr
      clear hr
      go_wp2
      go_ret
      exact ⟨B, ⟨cc, rfl⟩, HR.out, hB⟩
end Go.Proofs.YtpkldjlljoledaaDoor

/- Regions whose order is open and whose edges bind in part; an append and a call with relational results in the head. -/
namespace Go.Proofs.YtpkldjlljoledaaDoor.Rel
open Go.RowKit
/-- the operations that this one waits for. -/
def ons (o : Oper) : List Nat := (o.after.toList.filter fun e => Region.binds .any e).map (·.on)
def Ob3 (P : Program) (DS : List Tmp) (w0 : World) (a0 : Act) (Γ : Ctx) (o : Oper) (R : Know) : Prop :=
  ∀ (a : Act) (W : World), Below w0.heap.size w0 W → deps Γ a W (ons o) → (∀ t, t ∉ DS → a.eval (.tmp t) = a0.eval (.tmp t)) →
    ∀ (K : Act → World → Prop) (Q : Exit → Act → World → Prop), (∀ v W', R v W' → Below W.heap.size W W' → K (a.put o.dst v) W') → o.wp P a W K Q
def GOK3 (Γ : Ctx) (o : Oper) : Prop := o.guard = none ∨ ∃ g b t, o.guard = some (g, b) ∧ g ∈ ons o ∧ Γ[g]? = some (some t, fun u _ => u = .bool b)
def walk3 (P : Program) (DS : List Tmp) (w0 : World) (a0 : Act) (T : Ctx → Prop) : Ctx → List Oper → Prop
  | Γ, [] => T Γ
  | Γ, o :: l => ∃ R, Stable R ∧ GOK3 Γ o ∧ Ob3 P DS w0 a0 Γ o R ∧ walk3 P DS w0 a0 T (Γ ++ [(o.dst, R)]) l
theorem walk_of_walk3 {P : Program} {ops : Array Oper} {n : Nat} {DS : List Tmp} {w0 : World} {a0 : Act} {T : Ctx → Prop} {T' : List Know → Prop} (hDS : ∀ t, t ∉ DS → ∀ j, j < n → dst ops j ≠ some t)
    (hT : ∀ Γ, T Γ → T' (Γ.map (·.2))) :
    ∀ (l : List Oper) (Γ : Ctx), (∀ j, j < l.length → l[j]? = ops[Γ.length + j]?) → (∀ j d R, Γ[j]? = some (d, R) → dst ops j = d) → walk3 P DS w0 a0 T Γ l → walk P ops n w0 a0 T' (Γ.map (·.2)) l
  | [], Γ, _, _, h => hT Γ h
  | o :: l, Γ, hl, hΓ, h => by
    obtain ⟨R, hs, hg, hob, hw⟩ := h
    have h0 : ops[Γ.length]? = some o := by simpa using (hl 0 (by simp)).symm
    have hg' : GOK ops (Γ.map (·.2)) o := by
      rcases hg with hg | ⟨g, b, t, hg, hin, hΓg⟩
      · exact .inl hg
      · obtain ⟨e, he, rfl⟩ := List.mem_map.1 hin
        obtain ⟨he1, he2⟩ := List.mem_filter.1 he
        exact .inr ⟨e.on, b, t, hg, ⟨e, by simpa using he1, he2, rfl⟩, hΓ _ _ _ hΓg, by simp [hΓg]⟩
    refine ⟨R, hs, hg', fun _ => ?_, ?_⟩
    · intro a W hb hz hd hbase K Q hK
      refine hob a W hb (deps_of _ fun j hj => ?_) (fun t ht => hbase t (fun j hj => hDS t ht j hj)) K Q hK
      obtain ⟨e, he, rfl⟩ := List.mem_map.1 hj
      obtain ⟨he1, he2⟩ := List.mem_filter.1 he
      have he' : e ∈ o.after := by simpa using he1
      cases hc : Γ[e.on]? with
      | none => trivial
      | some c =>
        obtain ⟨d, K'⟩ := c
        cases d with
        | none => trivial
        | some t => exact hd e he' he2 t (hΓ _ _ _ hc) K' (by simp [hc])
    · have := walk_of_walk3 hDS hT l (Γ ++ [(o.dst, R)]) (fun j hj => by
        have := hl (j + 1) (by simp; omega)
        simpa [Nat.add_assoc, Nat.add_comm 1 j] using this) (fun j d R' hj => by
        rcases Nat.lt_or_ge j Γ.length with h | h
        · rw [List.getElem?_append_left h] at hj
          exact hΓ j d R' hj
        · have hjl : j < (Γ ++ [(o.dst, R)]).length := (List.getElem?_eq_some_iff.1 hj).1
          obtain rfl : j = Γ.length := by simp at hjl; omega
          simp at hj
          rw [← hj.1]
          simp [dst, h0]) hw
      simpa using this
theorem region3 {P : Program} {id : Nat} {Q : Exit → Act → World → Prop} {a : Act} {w : World} {l : List Oper} (n : Nat) (hm : P.follows .mixedOrders = true) (hok : okB l.toArray n = true) (hsz : sizeB l.toArray n a.tmps.size = true)
    (h : walk3 P ((l.take n).filterMap (·.dst)) w a (fun Γ => ∀ (x : Nat → Value) (W : World), Below w.heap.size w W → facts x W 0 Γ → wpList P l.toArray Q (l.drop n) (fill (l.take n) 0 x a) W) [] (l.take n)) :
    (Code.region id l.toArray true).wp P Q a w := by
  have hn' : n < l.length := by
    simp only [okB, Bool.and_eq_true, decide_eq_true_eq] at hok
    simpa using hok.1.1.1.1.1
  have htl : (l.take n).length = n := by simp; omega
  refine region n hm hok hsz (walk_of_walk3 (n := n) (fun t ht j hj hd => ht ?_) (fun Γ hT x W hb hx => hT x W hb (facts_of Γ 0 (fun j K hj => by rw [Nat.zero_add]; exact hx j K hj))) (l.take n) [] (fun j hj => by
      rw [htl] at hj
      simp [List.getElem?_take, hj]) (fun j d R hj => by simp at hj) h)
  have hlj : j < l.length := by omega
  simp [dst, hlj] at hd
  exact List.mem_filterMap.2 ⟨l[j], List.mem_iff_getElem.2 ⟨j, by omega, by simp⟩, hd⟩
section
variable {P : Program} {DS : List Tmp} {w0 : World} {a0 : Act} {T : Ctx → Prop} {Γ : Ctx} {o : Oper} {rest : List Oper}
theorem gno {Γ : Ctx} {o : Oper} (h : o.guard = none) : GOK3 Γ o := .inl h
theorem gyes {Γ : Ctx} {o : Oper} (g : Nat) (b : Bool) (t : Tmp) (h1 : o.guard = some (g, b)) (h2 : (ons o).contains g = true) (h3 : Γ[g]? = some (some t, fun u _ => u = .bool b)) : GOK3 Γ o :=
  .inr ⟨g, b, t, h1, by simpa using h2, h3⟩
theorem op3 (v : Value) (hg : GOK3 Γ o) (h : ∀ (a : Act) (W : World), Below w0.heap.size w0 W → deps Γ a W (ons o) → (∀ t, t ∉ DS → a.eval (.tmp t) = a0.eval (.tmp t)) → (execOp a.eval o).run P W = .ok (.value v) W)
    (hn : walk3 P DS w0 a0 T (Γ ++ [(o.dst, fun u _ => u = v)]) rest) : walk3 P DS w0 a0 T Γ (o :: rest) :=
  ⟨_, stable_eq v, hg, fun a W hb hd hbase K Q hK => by
    unfold Oper.wp
    rw [h a W hb hd hbase]
    exact hK v W rfl (Below.refl _ _), hn⟩
/-- One operation that only reads, of whose result R is known. -/
theorem opR3 (R : Know) (hs : Stable R) (hg : GOK3 Γ o) (h : ∀ (a : Act) (W : World), Below w0.heap.size w0 W → deps Γ a W (ons o) → (∀ t, t ∉ DS → a.eval (.tmp t) = a0.eval (.tmp t)) → ∃ v, (execOp a.eval o).run P W = .ok (.value v) W ∧ R v W)
    (hn : walk3 P DS w0 a0 T (Γ ++ [(o.dst, R)]) rest) : walk3 P DS w0 a0 T Γ (o :: rest) :=
  ⟨_, hs, hg, fun a W hb hd hbase K Q hK => by
    obtain ⟨v, h1, h2⟩ := h a W hb hd hbase
    unfold Oper.wp
    rw [h1]
    exact hK v W h2 (Below.refl _ _), hn⟩
theorem build3 (t : TypeId) (n c : Nat) (cs : Array Value) (hg : GOK3 Γ o)
    (h : ∀ (a : Act) (W : World), Below w0.heap.size w0 W → deps Γ a W (ons o) → (∀ t, t ∉ DS → a.eval (.tmp t) = a0.eval (.tmp t)) → (execOp a.eval o).run P W = .ok (.value (.slice (some ⟨W.heap.size, 0, none⟩) n c)) (W.alloc (.cells cs t)))
    (hn : walk3 P DS w0 a0 T (Γ ++ [(o.dst, NewS w0.heap.size n c cs)]) rest) : walk3 P DS w0 a0 T Γ (o :: rest) :=
  ⟨_, stable_newS _ n c cs, hg, fun a W hb hd hbase K Q hK => by
    unfold Oper.wp
    rw [h a W hb hd hbase]
    exact hK _ _ ⟨_, rfl, hb.size, Calm.Blk.new W t cs⟩ ((Below.refl _ _).alloc (Nat.le_refl _) _), hn⟩
/-- A slice that owns a row. -/
def OwnS (B : Nat) (e : TypeId) (size n : Nat) (xs : List Value) : Know := fun u W => W.ownsRow B e size u n xs
theorem stable_ownS (B : Nat) (e : TypeId) (size n : Nat) (xs : List Value) : Stable (OwnS B e size n xs) := fun u W W' h hb => by
  refine ⟨h.1, ?_⟩
  rcases h.2 with h2 | ⟨g, cap, cur, h1, h2, h3, h4⟩
  · exact .inl h2
  · exact .inr ⟨g, cap, cur, h1, h2, (hb.block g (Array.getElem?_eq_some_iff.1 h3).1).trans h3, h4⟩
/-- An empty slice of its own that is not nil. -/
def Empty (B : Nat) (e : TypeId) (size : Nat) : Know := fun u W => (∃ g, u = .slice (some ⟨g, 0, none⟩) 0 0) ∧ W.ownsRow B e size u 0 []
theorem stable_empty (B : Nat) (e : TypeId) (size : Nat) : Stable (Empty B e size) := fun u W W' h hb => ⟨h.1, stable_ownS B e size 0 [] u W W' h.2 hb⟩
theorem empty3 (e : TypeId) (size : Nat) (hg : GOK3 Γ o)
    (h : ∀ (a : Act) (W : World), (execOp a.eval o).run P W = .ok (.value (.slice (some ⟨W.heap.size, 0, none⟩) 0 0)) (W.alloc (.cells #[] e)))
    (hn : walk3 P DS w0 a0 T (Γ ++ [(o.dst, Empty w0.heap.size e size)]) rest) : walk3 P DS w0 a0 T Γ (o :: rest) :=
  ⟨_, stable_empty _ _ _, hg, fun a W hb hd hbase K Q hK => by
    unfold Oper.wp
    rw [h a W]
    refine hK _ _ ⟨⟨_, rfl⟩, by simp, .inr ⟨_, 0, #[], rfl, hb.size, by show (W.heap.push _)[W.heap.size]? = _; simp, Nat.le_refl _, Nat.zero_le _, by simp, by simp⟩⟩ ((Below.refl _ _).alloc (Nat.le_refl _) _), hn⟩
theorem run_append_zero (W : World) (t ty e : TypeId) (i : TypeInfo) (z : Value) (ht : P.underlying t = some (.slice e)) (hi : P.info? e = some i) (hz : i.zero = some z) (b : Addr) (A : Option Addr) (c : Nat) :
    (Builtin.append_ #[t, t] ty #[.slice (some b) 0 0, .slice A 0 c]).run P W = .ok (.slice (some b) 0 0) W := by
  have hl : ∀ (x : Addr), (loadCells x 0).run P W = .ok #[] W := fun x => by simpa using run_loadCells_list (P := P) W x [] (by simp)
  cases A <;> simp [Builtin.append_, run_underlying ht, sizeOf, typeInfo, zeroValue, hi, hz, Builtin.lenOf, Builtin.firstCells, storeCells, hl]
/-- 'append([]T{}, l...)'. -/
theorem app3 (s x : Operand) (t : TypeId) (hop : o.op = .call { callee := .builtin .append, args := #[s, x], argTypes := #[t, t] }) (e : TypeId) (i : TypeInfo) (z : Value) (size bytes : Nat)
    (ht : P.underlying t = some (.slice e)) (hi : P.info? e = some i) (hz : i.zero = some z) (hsize : i.size = size) (hby : i.bytes = bytes) (hzs : z.cells.size = size) (hsz : 0 < size) (n : Nat) (news : List Value) (hl : news.length = n * size) (h1 : ∀ u ∈ news, u.oneCell' = true) (h63 : n ≤ maxLen) (hbytes : n * bytes ≤ 140737488355328) (hg : GOK3 Γ o)
    (h : ∀ (a : Act) (W : World), Below w0.heap.size w0 W → deps Γ a W (ons o) → (∀ t, t ∉ DS → a.eval (.tmp t) = a0.eval (.tmp t)) → (∃ v0, a.eval s = v0 ∧ Empty w0.heap.size e size v0 W) ∧ ∃ A c, a.eval x = .slice A n c ∧ (0 < n → ∃ ad, A = some ad ∧ ∀ j u, news[j]? = some u → W.cell? (ad.add j) = some u))
    (hn : walk3 P DS w0 a0 T (Γ ++ [(o.dst, OwnS w0.heap.size e size n news)]) rest) : walk3 P DS w0 a0 T Γ (o :: rest) :=
  ⟨_, stable_ownS _ _ _ _ _, hg, fun a W hb hd hbase K Q hK => by
    obtain ⟨⟨v0, hs, ⟨g, hgv⟩, hown⟩, A, c, hx, hc⟩ := h a W hb hd hbase
    subst hgv
    rcases Nat.eq_zero_or_pos n with rfl | hpos
    · obtain rfl : news = [] := List.eq_nil_of_length_eq_zero (by omega)
      have hrun := run_append_zero (P := P) W t o.type e i z ht hi hz ⟨g, 0, none⟩ A c
      unfold Oper.wp
      simp [execOp, hop, resolve, invoke, builtin, hs, hx, hrun, Result.andThen]
      exact hK _ _ hown (Below.refl _ _)
    · obtain ⟨ad, rfl, hc2⟩ := hc hpos
      obtain ⟨v', w', hrun, r1, r2⟩ := run_append_arg_grows (P := P) W t o.type e i z size bytes ht hi hz hsize hby hzs hsz ⟨g, 0, none⟩ 0 0 [] (by simp) (by simp) ad n c news hl hc2 (by omega) (by omega) (by rw [Nat.zero_add]; exact hbytes)
      unfold Oper.wp
      simp [execOp, hop, resolve, invoke, builtin, hs, hx, hrun, Result.andThen]
      refine hK v' w' ?_ ((Below.refl W.heap.size W).grown r2 (Nat.le_refl _) (fun k hk => by cases hk))
      have r1' : w'.ownsRow W.heap.size e size v' n news := by simpa using r1
      refine ⟨r1'.1, ?_⟩
      rcases r1'.2 with h2 | ⟨g', cap, cur, h1, h2, h3⟩
      · exact .inl h2
      · exact .inr ⟨g', cap, cur, h1, Nat.le_trans hb.size h2, h3⟩, hn⟩
/-- A call, by a contract. -/
theorem callR3 (R : Know) (hs : Stable R) (hg : GOK3 Γ o)
    (h : ∀ (a : Act) (W : World), Below w0.heap.size w0 W → deps Γ a W (ons o) → (∀ t, t ∉ DS → a.eval (.tmp t) = a0.eval (.tmp t)) → ∃ f args, (execOp a.eval o).run P W = .ok (.enter f args) W ∧ Calls P f args W fun e W' => ∃ v, e = .returned v ∧ R v W' ∧ Below W.heap.size W W')
    (hn : walk3 P DS w0 a0 T (Γ ++ [(o.dst, R)]) rest) : walk3 P DS w0 a0 T Γ (o :: rest) :=
  ⟨R, hs, hg, fun a W hb hd hbase K Q hK => by
    obtain ⟨f, args, hrun, hc⟩ := h a W hb hd hbase
    unfold Oper.wp
    rw [hrun]
    simp only [Oper.upon]
    refine hc.mono ?_
    rintro e W' ⟨v, rfl, hR, hbb⟩
    exact hK v W' hR hbb, hn⟩
/-- A call whose arguments and result are known. -/
theorem call3 (v : Value) (f : FuncId) (args : Array Value) (hg : GOK3 Γ o)
    (h : ∀ (a : Act) (W : World), Below w0.heap.size w0 W → deps Γ a W (ons o) → (∀ t, t ∉ DS → a.eval (.tmp t) = a0.eval (.tmp t)) → (execOp a.eval o).run P W = .ok (.enter f args) W)
    (hc : ∀ W, Below w0.heap.size w0 W → Calls P f args W fun e W' => e = .returned v ∧ Below W.heap.size W W')
    (hn : walk3 P DS w0 a0 T (Γ ++ [(o.dst, fun u _ => u = v)]) rest) : walk3 P DS w0 a0 T Γ (o :: rest) :=
  callR3 _ (stable_eq v) hg (fun a W hb hd hbase => ⟨f, args, h a W hb hd hbase, (hc W hb).mono fun e W' ⟨he, hb'⟩ => ⟨v, he, rfl, hb'⟩⟩) hn
theorem done3 (h : T Γ) : walk3 P DS w0 a0 T Γ [] := h
end
end Go.Proofs.YtpkldjlljoledaaDoor.Rel

/- Rows of integers and lists of integers. -/
namespace Go.Proofs.YtpkldjlljoledaaDoor
open Go.RowKit
open Calm (bcell Blk)

theorem own_ints {W : World} {base n : Nat} {v : Value} {xs : List Int} (h : W.ownsRow base 3 1 v n (xs.map fun z => (.int .i64 (z)))) (hn : n = xs.length) : ∃ A c, v = .slice A n c ∧ (∀ p, A = some p → base ≤ p.block) ∧ Cells W A xs := by
  rcases h.2 with ⟨h1, h2⟩ | ⟨g, cap, cur, h1, h2, h3, h4, h5, h6, h7⟩
  · exact ⟨none, 0, by rw [h1, h2], by simp, fun h0 => by omega⟩
  · refine ⟨some ⟨g, 0, none⟩, cap, h1, by rintro p ⟨⟩; exact h2, fun h0 => ⟨g, 0, rfl, (Array.getElem?_eq_some_iff.1 h3).1, fun k hk => ?_⟩⟩
    rw [Nat.zero_add, cell_of_row W g k cur _ _ h3]
    have hj : (xs.map fun z => ((.int .i64 (z)) : Value))[k]? = some ((.int .i64 (xs.getD k 0)) : Value) := by
      rw [List.getElem?_map, List.getElem?_eq_getElem hk]
      simp [List.getD_eq_getElem?_getD, List.getElem?_eq_getElem hk]
    rw [← h7, List.getElem?_take] at hj
    split at hj
    · rw [← hj]; simp
    · cases hj

theorem Cells.set {W : World} {A : Option Addr} {xs : List Int} (h : Cells W A xs) {q : Addr} (hq : ∀ p, A = some p → q.block ≠ p.block) (v : Value) : Cells (W.setCell q v) A xs := by
  intro h0
  obtain ⟨b, off, hA, hlt, hc⟩ := h h0
  have hne : q.block ≠ b := hq _ hA
  exact ⟨b, off, hA, by simpa using hlt, fun k hk => (World.cell?_setCell_far W q ⟨b, off + k, none⟩ v hne).trans (hc k hk)⟩

theorem cells_at {W : World} {A : Option Addr} {xs : List Int} (h : Cells W A xs) (n : Nat) (hn : n = xs.length) : 0 < n → ∃ ad, A = some ad ∧ ∀ j u, (xs.map fun z => ((.int .i64 (z)) : Value))[j]? = some u → W.cell? (ad.add j) = some u := by
  intro h0
  obtain ⟨b, off, hA, _, hc⟩ := h (by omega)
  refine ⟨_, hA, fun j u hj => ?_⟩
  rw [List.getElem?_map] at hj
  obtain ⟨z, hz, rfl⟩ := Option.map_eq_some_iff.1 hj
  have hlt : j < xs.length := (List.getElem?_eq_some_iff.1 hz).1
  have := hc j hlt
  rw [List.getD_eq_getElem?_getD, hz] at this
  rw [show (⟨b, off, none⟩ : Addr).add j = ⟨b, off + j, none⟩ by unfold Addr.add; split <;> simp_all]
  exact this

end Go.Proofs.YtpkldjlljoledaaDoor

/- DriverHolds: what the functions called in it answer, from the laws of the drivers. -/
namespace Go.Proofs.YtpkldjlljoledaaDoor
open Go.RowKit

theorem swErr_zero {ws : List Int} (h : swErr ws = 0) : ws.length ≤ 32 ∧ ∀ x ∈ ws, 1 ≤ x ∧ x ≤ 8 := by
  unfold swErr at h
  by_cases hn : 32 < ws.length
  · rw [if_pos hn] at h; omega
  · rw [if_neg hn] at h
    refine ⟨by omega, fun x hx => ?_⟩
    have := firstOf_eq_zero.1 h (rangeErr x 1 8) (List.mem_map.2 ⟨x, hx, rfl⟩)
    exact rangeErr_zero.1 this
theorem k_sweep {re le bl x0 x1 x2 p : Int} {ws : List Int} {m : Nat} {S : List (Int × Int × Int)} (hd : drvErr re le bl x0 x1 x2 = 0) (hs : swErr ws = 0) (hp : 0 ≤ p ∧ p ≤ 50) (hm : m = ws.length) (hS : S = sweepL re le bl x0 x1 x2 p ws) :
    Hid (∀ (W : World) (B : Option Addr) (e : Nat), Lim W → Cells W B ws → Calls Tryd.prog 61 #[.agg #[(.int .i64 (re)), (.int .i64 (le)), (.int .i64 (bl)), (.int .i64 (x0)), (.int .i64 (x1)), (.int .i64 (x2))], .slice B m e, (.int .i64 (p))] W fun r w' => ∃ B' e', r = .returned (.tuple #[.slice B' m e', (.int .i64 (0))]) ∧ RCells w' B' S ∧ Below W.heap.size W w') := by
  subst hm
  subst hS
  obtain ⟨h1, h2⟩ := swErr_zero hs
  refine Lib.hid (fun W B e hL k => (Sweep_ok re le bl x0 x1 x2 p B ws e W hL k hd h1 h2 hp).mono ?_)
  rintro r w' ⟨v, rfl, ho, hb⟩
  obtain ⟨B', e', rfl, _, hr⟩ := own_reads ho (by rw [sweepL_len])
  exact ⟨B', e', rfl, hr, hb⟩
theorem k_told {S : List (Int × Int × Int)} {m : Nat} (hm : m = S.length) (h : S.length ≤ 1000) :
    Hid (∀ (W : World) (B : Option Addr) (e : Nat), RCells W B S → Calls Tryd.prog 62 #[.slice B m e] W fun r w' => ∃ B' e', r = .returned (.slice B' m e') ∧ RCells w' B' S ∧ Below W.heap.size W w') := by
  subst hm
  refine Lib.hid (fun W B e k => (told_any B S e W k (by omega)).mono ?_)
  rintro r w' ⟨B', e', h1, _, h3, h4⟩
  exact ⟨B', e', h1, h3, h4⟩
theorem k_readings {S : List (Int × Int × Int)} {m : Nat} (hm : m = S.length) (h : S.length ≤ 1000) :
    Hid (∀ (W : World) (B : Option Addr) (e : Nat), RCells W B S → Calls Tryd.prog 66 #[.slice B m e] W fun r w' => ∃ B' e', r = .returned (.slice B' m e') ∧ RCells w' B' S ∧ Below W.heap.size W w') := by
  subst hm
  refine Lib.hid (fun W B e k => (readings_any B S e W k (by omega)).mono ?_)
  rintro r w' ⟨B', e', h1, _, h3, h4⟩
  exact ⟨B', e', h1, h3, h4⟩
theorem k_check {S : List (Int × Int × Int)} {m : Nat} {R : Int} (hm : m = S.length) (hR : readsErr S = R) :
    Hid (∀ (W : World) (B : Option Addr) (e : Nat), RCells W B S → Calls Tryd.prog 60 #[.slice B m e] W fun r w' => r = .returned (.int .i64 (R)) ∧ Below W.heap.size W w') := by
  subst hm
  subst hR
  exact Lib.hid (fun W B e k => refCheckReadings_any B S e W k)
theorem regErr_of {re le bl ma st lo m k r : Int} {zs : List (Int × Int × Int)} (hc : classErr re le bl ma st lo m k r = 0) (hz : readsErr zs = 0) : regErr re le bl ma st lo m k r zs = 0 := by
  unfold regErr
  rw [firstOf_eq_zero]
  intro x hx
  simp only [List.mem_cons, List.not_mem_nil, or_false] at hx
  rcases hx with rfl | rfl
  · exact hc
  · exact hz
theorem k_region {re le bl ma st lo mm kk rr : Int} {zs As : List (Int × Int × Int)} {m na : Nat} (hc : classErr re le bl ma st lo mm kk rr = 0) (hz : readsErr zs = 0) (hm : m = zs.length) (hA : As = regD re le bl ma st lo mm kk rr zs) (hn : na = As.length) (h60 : na ≤ 60) :
    Hid (∀ (W : World) (B : Option Addr) (e : Nat), Lim W → RCells W B zs → Calls Tryd.prog 63 #[.agg #[(.int .i64 (re)), (.int .i64 (le)), (.int .i64 (bl)), (.int .i64 (ma)), (.int .i64 (st)), (.int .i64 (lo)), (.int .i64 (mm)), (.int .i64 (kk)), (.int .i64 (rr))], .slice B m e] W fun r w' => ∃ B' e', r = .returned (.tuple #[.slice B' na e', (.int .i64 (0))]) ∧ DCells w' B' re le bl As ∧ Below W.heap.size W w') := by
  subst hm
  refine Lib.hid (fun W B e hL k => (Region_ok re le bl ma st lo mm kk rr B zs e W hL k (by have := (readsErr_all hz).1; omega) (regErr_of hc hz)).mono ?_)
  rintro r w' ⟨h1, hb⟩
  rw [← hA, if_neg (by omega)] at h1
  obtain ⟨v, rfl, ho⟩ := h1
  obtain ⟨B', e', rfl, _, hd⟩ := own_drvs ho rfl
  rw [hn]
  exact ⟨B', e', rfl, hd, hb⟩
theorem k_explains {re le bl ma st lo mm kk rr : Int} {zs As : List (Int × Int × Int)} {m : Nat} (hc : classErr re le bl ma st lo mm kk rr = 0) (hz : readsErr zs = 0) (hm : m = zs.length) (hA : As = regD re le bl ma st lo mm kk rr zs) :
    Hid (∀ (W : World) (B : Option Addr) (e : Nat) (y : Int × Int × Int), y ∈ As → Lim W → RCells W B zs → Calls Tryd.prog 65 #[.agg #[(.int .i64 (re)), (.int .i64 (le)), (.int .i64 (bl)), (.int .i64 (y.1)), (.int .i64 (y.2.1)), (.int .i64 (y.2.2))], .slice B m e] W fun r w' => r = .returned (.tuple #[.bool true, (.int .i64 (0))]) ∧ Below W.heap.size W w') := by
  subst hm
  subst hA
  refine Lib.hid (fun W B e y hy hL k => ?_)
  obtain ⟨h1, h2⟩ := reg_explains hy
  have h3 : explErr re le bl y.1 y.2.1 y.2.2 zs = 0 := by
    unfold explErr
    rw [firstOf_eq_zero]
    intro x hx
    simp only [List.mem_cons, List.not_mem_nil, or_false] at hx
    rcases hx with rfl | rfl
    · exact drv_ok hc h1
    · exact hz
  have h4 := Explains_ok re le bl y.1 y.2.1 y.2.2 B zs e W hL k (by have := (readsErr_all hz).1; omega) h3
  rw [h2] at h4
  exact h4
/-- a conflict's indices, as the walk wants them. -/
theorem k_conflict {re le bl ma st lo mm kk rr : Int} {zs : List (Int × Int × Int)} {n : Nat} {l : List Nat} {E : Int} (hc : classErr re le bl ma st lo mm kk rr = 0) (hz : readsErr zs = 0) (hn : n = zs.length) (h8 : n ≤ 8)
    (h : (confF re le bl zs (drvs ma st lo mm kk rr) (2 ^ zs.length) = none ∧ E = 7 ∧ l = []) ∨ ∃ b, confF re le bl zs (drvs ma st lo mm kk rr) (2 ^ zs.length) = some b ∧ E = 0 ∧ l = memL b) :
    Hid (∀ (W : World) (B : Option Addr) (e : Nat), Lim W → RCells W B zs → Calls Tryd.prog 67 #[.agg #[(.int .i64 (re)), (.int .i64 (le)), (.int .i64 (bl)), (.int .i64 (ma)), (.int .i64 (st)), (.int .i64 (lo)), (.int .i64 (mm)), (.int .i64 (kk)), (.int .i64 (rr))], .slice B n e] W fun r w' => ∃ B' e', r = .returned (.tuple #[.slice B' l.length e', (.int .i64 (E))]) ∧ Cells w' B' (toI l) ∧ Below W.heap.size W w') := by
  subst hn
  refine Lib.hid (fun W B e hL k => (Conflict_ok re le bl ma st lo mm kk rr B zs e W hL k (by omega) ?_).mono ?_)
  · unfold confErr
    rw [firstOf_eq_zero]
    intro x hx
    simp only [List.mem_cons, List.not_mem_nil, or_false] at hx
    rcases hx with rfl | rfl | rfl
    · exact hc
    · exact hz
    · rw [if_neg (by omega)]
  · rintro r w' ⟨v, rfl, hB, hb⟩
    rcases h with ⟨h1, rfl, rfl⟩ | ⟨b, h1, rfl, rfl⟩
    · rw [h1] at hB ⊢
      obtain rfl : v = .slice none 0 0 := hB
      exact ⟨_, _, rfl, fun h0 => absurd h0 (by simp [toI]), hb⟩
    · rw [h1] at hB ⊢
      obtain ⟨_, ho⟩ := hB
      obtain ⟨B', e', rfl, _, hr⟩ := own_ints (xs := toI (memL b)) (show w'.ownsRow W.heap.size 3 1 v (memL b).length ((toI (memL b)).map fun z => (.int .i64 (z))) by rw [show (toI (memL b)).map (fun z => ((.int .i64 (z)) : Value)) = ints (memL b) from by unfold toI ints; rw [List.map_map]; rfl]; exact ho) (by simp [toI])
      exact ⟨B', e', rfl, hr, hb⟩
end Go.Proofs.YtpkldjlljoledaaDoor

/- append of a slice that may be nil or empty onto a row of one's own: for the walk. A slice of readings' cells. -/
namespace Go.Proofs.YtpkldjlljoledaaDoor
open Go.RowKit
theorem wpList_append_onto {P : Program} {w : World} {ops : Array Oper} {rest : List Oper} {o : Oper} {a : Act} {Q : Exit → Act → World → Prop} (hgd : o.guard = none) (s x : Operand) (t : TypeId)
    (ho : o.op = .call { callee := .builtin .append, args := #[s, x], argTypes := #[t, t] })
    (base : Nat) (e : TypeId) (i : TypeInfo) (z : Value) (size bytes : Nat) (ht : P.underlying t = some (.slice e)) (hi : P.info? e = some i) (hz : i.zero = some z)
    (hsize : i.size = size) (hby : i.bytes = bytes) (hzs : z.cells.size = size) (hsz : 0 < size)
    (v : Value) (n : Nat) (xs : List Value) (hs : a.eval s = v) (hown : w.ownsRow base e size v n xs)
    (A : Option Addr) (m c : Nat) (news : List Value) (hx : a.eval x = .slice A m c) (hl : news.length = m * size) (hnews : 0 < m → ∃ ad, A = some ad ∧ ∀ j u, news[j]? = some u → w.cell? (ad.add j) = some u) (h1 : ∀ u ∈ news, u.oneCell' = true)
    (h63 : n + m ≤ maxLen) (hbytes : (n + m) * bytes ≤ 140737488355328) (hbase : base ≤ w.heap.size)
    (h : ∀ v' w', w'.ownsRow base e size v' (n + m) (xs ++ news) → w.grownBy w' v.ownBlock → wpList P ops Q rest (a.put o.dst v') w') : wpList P ops Q (o :: rest) a w := by
  cases A with
  | none =>
    have hm : m = 0 := by
      rcases Nat.eq_zero_or_pos m with h0 | h0
      · exact h0
      · obtain ⟨_, e, _⟩ := hnews h0; cases e
    subst hm
    obtain rfl : news = [] := List.eq_nil_of_length_eq_zero (by omega)
    refine wpList_plain hgd fun K hK => ?_
    have hrun : (Builtin.append_ #[t, t] o.type #[v, .slice none 0 c]).run P w = .ok v w := by
      rcases hown.2 with ⟨rfl, rfl⟩ | ⟨g, cap, cur, rfl, _, _, hnc, _⟩
      · simp [Builtin.append_, run_underlying ht, sizeOf, typeInfo, hi, Builtin.lenOf, Builtin.firstCells]
      · simp [Builtin.append_, run_underlying ht, sizeOf, typeInfo, hi, Builtin.lenOf, Builtin.firstCells, hnc, storeCells]
    unfold Oper.wp
    simp [execOp, ho, resolve, invoke, builtin, hs, hx, hrun, Result.andThen]
    exact hK _ _ (h v w (by simpa using hown) (World.grownBy.refl _ _))
  | some ad =>
    refine wpList_append_own w hgd s x t ho base e i z size bytes ht hi hz hsize hby hzs hsz v n xs hs hown ad m c news hx hl ?_ h1 h63 hbytes hbase (fun v' w' h2 h3 _ => h v' w' h2 h3)
    intro j u hj
    rcases Nat.eq_zero_or_pos m with rfl | hm
    · obtain rfl : news = [] := List.eq_nil_of_length_eq_zero (by omega)
      simp at hj
    · obtain ⟨_, e, hc⟩ := hnews hm
      cases e
      exact hc j u hj
theorem reads_at {W : World} {A : Option Addr} {zs : List (Int × Int × Int)} (h : RCells W A zs) (n : Nat) (hn : n = zs.length) : 0 < n → ∃ ad, A = some ad ∧ ∀ j u, (flat3 zs)[j]? = some u → W.cell? (ad.add j) = some u := by
  intro h0
  obtain ⟨b, off, hA, hl, hc⟩ := h (by omega)
  refine ⟨_, hA, fun j u hj => ?_⟩
  have hjl : j < (flat3 zs).length := (List.getElem?_eq_some_iff.1 hj).1
  have hlen : (flat3 zs).length = zs.length * 3 := flat3_len zs
  have hk : j / 3 < zs.length := by omega
  obtain ⟨f1, f2, f3⟩ := flat3_at zs (j / 3) hk
  obtain ⟨c1, c2, c3⟩ := hc (j / 3) hk
  have e : j = j / 3 * 3 + j % 3 := by omega
  have hm : j % 3 < 3 := Nat.mod_lt _ (by decide)
  have ea : Addr.add ⟨b, off, none⟩ j = ⟨b, off + j, none⟩ := by unfold Addr.add; cases j <;> rfl
  rw [ea]
  clear ea
  generalize j / 3 = q at *
  rcases (show j % 3 = 0 ∨ j % 3 = 1 ∨ j % 3 = 2 by omega) with h3 | h3 | h3 <;> rw [h3] at e <;> subst e
  · rw [show q * 3 + 0 = q * 3 by omega, f1] at hj; cases hj; simpa [Nat.add_assoc] using c1
  · rw [f2] at hj; cases hj; simpa [Nat.add_assoc] using c2
  · rw [f3] at hj; cases hj; simpa [Nat.add_assoc] using c3
end Go.Proofs.YtpkldjlljoledaaDoor
