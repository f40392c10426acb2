/- Part 15 of the texts of the claim: QW, Y9, Y10. -/
import Derived.Test.YtdeapbihbhoefaaDoorPr14
import Derived.Test.YtdeapbihbhoefaaDoorPr8
import Derived.ChangeKeysEq

/- Plain laws: the weight of the taps, the steady output, the quiet input. -/
namespace Go.Proofs.YtdeapbihbhoefaaDoor
open Go.RowKit

/-- the sum of the taps' sizes. -/
def wtK (ts : List Int) : Nat → Int
  | 0 => 0
  | k + 1 => wtK ts k + absI (ts.getD k 0)
theorem absI_bd {x b : Int} (h : -b ≤ x ∧ x ≤ b) : 0 ≤ absI x ∧ absI x ≤ b := by unfold absI; omega
theorem wtK_bd {ts : List Int} (h : inB 64 ts) : ∀ k : Nat, 0 ≤ wtK ts k ∧ wtK ts k ≤ 64 * (k : Int)
  | 0 => by simp [wtK]
  | k + 1 => by
    have h1 := wtK_bd h k
    have h2 := absI_bd (inB_get h (by omega) k)
    simp only [wtK]
    omega
theorem wtK_zero {ts : List Int} : ∀ {k : Nat}, (∀ i, i < k → ts.getD i 0 = 0) → wtK ts k = 0
  | 0, _ => rfl
  | k + 1, h => by
    simp only [wtK]
    rw [wtK_zero (fun i hi => h i (by omega)), h k (by omega), absI_zero]
    rfl
theorem wtK_past {ts : List Int} {k : Nat} (h : ts.length ≤ k) : ∀ n, wtK ts (k + n) = wtK ts k
  | 0 => rfl
  | n + 1 => by
    show wtK ts (k + n) + absI (ts.getD (k + n) 0) = _
    rw [wtK_past h n, List.getD_eq_getElem?_getD, List.getElem?_eq_none (by omega)]
    show _ + absI 0 = _
    rw [absI_zero]; omega
theorem wtK_all {ts : List Int} (h : ts.length ≤ 8) : wtK ts 8 = wtK ts ts.length := by
  have := wtK_past (Nat.le_refl ts.length) (8 - ts.length)
  rw [show ts.length + (8 - ts.length) = 8 by omega] at this
  exact this
theorem wtK_mono (ts : List Int) : ∀ {j k : Nat}, j ≤ k → wtK ts j ≤ wtK ts k
  | j, 0, h => by
    obtain rfl : j = 0 := by omega
    exact Int.le_refl _
  | j, k + 1, h => by
    rcases Nat.lt_or_ge k j with h1 | h1
    · obtain rfl : j = k + 1 := by omega
      exact Int.le_refl _
    · have h2 := wtK_mono ts h1
      have h3 := absI_nonneg (ts.getD k 0)
      simp only [wtK]
      omega
/-- the steady output's square keeps below, the next one's not. -/
theorem stdG_law {hs : Int} : ∀ (n y : Nat), (y : Int) * (y : Int) ≤ hs → y ≤ stdG hs y n ∧ stdG hs y n ≤ y + n ∧ ((stdG hs y n : Nat) : Int) * (stdG hs y n : Nat) ≤ hs ∧ (stdG hs y n < y + n → hs < ((stdG hs y n : Nat) + 1 : Int) * ((stdG hs y n : Nat) + 1))
  | 0, y, h => ⟨Nat.le_refl _, Nat.le_refl _, h, fun h1 => absurd h1 (Nat.lt_irrefl _)⟩
  | n + 1, y, h => by
    by_cases hc : ((y : Int) + 1) * ((y : Int) + 1) ≤ hs
    · have e : stdG hs y (n + 1) = stdG hs (y + 1) n := if_pos hc
      have ih := stdG_law (hs := hs) n (y + 1) (by push_cast; exact hc)
      rw [e]
      exact ⟨by omega, by omega, ih.2.2.1, fun h1 => ih.2.2.2 (by omega)⟩
    · have e : stdG hs y (n + 1) = y := if_neg hc
      rw [e]
      exact ⟨Nat.le_refl _, by omega, h, fun _ => by omega⟩
theorem stdF_law {lk ht : Int} (h : 0 ≤ ht) : stdF lk ht ≤ 2048 ∧ ((stdF lk ht : Nat) : Int) * (stdF lk ht : Nat) ≤ ht / 2 ^ lk.toNat ∧ (stdF lk ht < 2048 → ht / 2 ^ lk.toNat < ((stdF lk ht : Nat) + 1 : Int) * ((stdF lk ht : Nat) + 1)) := by
  have h1 := (shr_bd lk h).1
  have := stdG_law (hs := ht / 2 ^ lk.toNat) 2048 0 (by simpa using h1)
  simp only [Nat.zero_add] at this
  exact ⟨this.2.1, this.2.2.1, this.2.2.2⟩
theorem sq_le {a b : Int} (h : -b ≤ a ∧ a ≤ b) : a * a ≤ b * b := by
  have := mul_bd h h
  omega
/-- a heat within the limit stays there, with outputs up to the steady one. -/
theorem heat_stays {lk ht h y : Int} (hl : 0 ≤ ht) (h0 : h ≤ ht) (hy : y * y ≤ ht / 2 ^ lk.toNat) : coolF lk h + y * y ≤ ht := by
  have h1 := cool_mono lk h0
  unfold coolF at h1 ⊢
  omega
/-- the quiet input. -/
def quietF (lk ht rc : Int) (ts : List Int) : Int := if 0 < wtK ts 8 then min (stdF lk ht : Int) (rc / wtK ts 8) else (stdF lk ht : Int)
theorem quietF_bd {lk ht rc : Int} {ts gs : List Int} (hV : Valid lk ht rc ts gs) : 0 ≤ quietF lk ht rc ts ∧ quietF lk ht rc ts ≤ stdF lk ht ∧ quietF lk ht rc ts * wtK ts 8 ≤ rc := by
  have hr := hV.rc
  have hw := wtK_bd hV.tb 8
  unfold quietF
  split
  · rename_i h
    have h1 : 0 ≤ rc / wtK ts 8 := Int.ediv_nonneg hr.1 hw.1
    have h2 : rc / wtK ts 8 * wtK ts 8 ≤ rc := Int.ediv_mul_le rc (by omega)
    have h3 : min (stdF lk ht : Int) (rc / wtK ts 8) * wtK ts 8 ≤ rc / wtK ts 8 * wtK ts 8 := Int.mul_le_mul_of_nonneg_right (by omega) hw.1
    omega
  · rename_i h
    have : wtK ts 8 = 0 := by omega
    rw [this]
    omega
theorem absI_mul {a b X : Int} (h : absI b ≤ X) : -(absI a * X) ≤ a * b ∧ a * b ≤ absI a * X := by
  have h1 : -(absI a) ≤ a ∧ a ≤ absI a := by unfold absI; omega
  have h2 : -X ≤ b ∧ b ≤ X := absI_le.1 h
  exact mul_bd h1 h2
theorem exK_wt {ts ps : List Int} {y X : Int} (h1 : inB X ps) (h0 : 0 ≤ X) (h2 : -X ≤ y ∧ y ≤ X) : ∀ k : Nat, -(wtK ts (k + 1) * X) ≤ exK ts ps y k ∧ exK ts ps y k ≤ wtK ts (k + 1) * X
  | 0 => by
    have := absI_mul (a := ts.getD 0 0) (absI_le.2 h2)
    simp only [exK, wtK, Int.zero_add]
    exact this
  | k + 1 => by
    have h3 := exK_wt (ts := ts) h1 h0 h2 k
    have h4 := absI_mul (a := ts.getD (k + 1) 0) (absI_le.2 (inB_get h1 h0 k))
    have e : wtK ts (k + 1 + 1) * X = wtK ts (k + 1) * X + absI (ts.getD (k + 1) 0) * X := by rw [← Int.add_mul]; rfl
    rw [e]
    simp only [exK]
    omega
theorem exF_wt {lk ht rc : Int} {ts gs ps : List Int} {y X : Int} (hV : Valid lk ht rc ts gs) (hl : ts.length = ps.length + 1) (hX : 0 ≤ X ∧ X * wtK ts 8 ≤ rc) (h1 : inB X ps) (h2 : -X ≤ y ∧ y ≤ X) : absI (exF ts ps y) ≤ rc := by
  have h3 := exK_wt (ts := ts) h1 hX.1 h2 ps.length
  rw [← hl, ← wtK_all hV.tl.2, Int.mul_comm (wtK ts 8) X] at h3
  unfold exF absI
  omega
/-- inputs up to the quiet one are all outputs, if the greatest gain is the unit. -/
theorem quiet_run {lk ht rc X : Int} {ts gs xs : List Int} (hV : Valid lk ht rc ts gs) (hg : gs.getD (gs.length - 1) 0 = 16) (hX : 0 ≤ X ∧ X * wtK ts 8 ≤ rc) (hsq : X * X ≤ ht / 2 ^ lk.toNat) (hx : inB X xs) :
    ∀ k, (stAt lk ht rc ts gs xs k).lv = gs.length - 1 ∧ (0 ≤ (stAt lk ht rc ts gs xs k).h ∧ (stAt lk ht rc ts gs xs k).h ≤ ht) ∧ inB X (stAt lk ht rc ts gs xs k).ps ∧ (stAt lk ht rc ts gs xs k).ps.length + 1 = ts.length ∧ outAt lk ht rc ts gs xs k = xs.getD k 0 := by
  have step : ∀ (s : St) (x : Int), s.lv = gs.length - 1 → (0 ≤ s.h ∧ s.h ≤ ht) → inB X s.ps → s.ps.length + 1 = ts.length → (-X ≤ x ∧ x ≤ X) → lvF lk ht rc ts gs s x = gs.length - 1 ∧ outF lk ht rc ts gs s x = x := by
    intro s x h1 h2 h3 h4 h5
    have hgl := hV.gl
    have hb : byF x 16 = x := Int.mul_tdiv_cancel x (by decide)
    have hok : okAt lk ht rc s.h x ts s.ps gs (gs.length - 1) = true := by
      unfold okAt
      rw [hg, hb]
      unfold fineF
      rw [Bool.and_eq_true, Bool.and_eq_true, Bool.not_eq_true', Bool.not_eq_true', farAny_false, decide_eq_true_iff, decide_eq_false_iff_not]
      refine ⟨⟨heat_stays hV.ht.1 h2.2 (Int.le_trans (sq_le h5) hsq), ?_⟩, fun z hz => ?_⟩
      · have := exF_wt hV h4.symm hX h3 h5
        omega
      · unfold tailsF tailsL at hz
        obtain ⟨j, _, rfl⟩ := List.mem_map.1 hz
        exact exF_wt hV (by rw [psK_len, pushL_len]; omega) hX (psK_in (inB_push h3 h5) hX.1 j) (by omega)
    have hk : stepK lk ht rc s.h x ts s.ps gs (min (s.lv + 1) (gs.length - 1) + 1) = some (gs.length - 1) := by
      rw [h1, show min (gs.length - 1 + 1) (gs.length - 1) + 1 = (gs.length - 1) + 1 by omega]
      unfold stepK
      rw [if_pos hok]
    have h6 : lvF lk ht rc ts gs s x = gs.length - 1 := by unfold lvF; rw [hk]; rfl
    exact ⟨h6, by unfold outF; rw [h6, hg, hb]⟩
  have all : ∀ k, (stAt lk ht rc ts gs xs k).lv = gs.length - 1 ∧ (0 ≤ (stAt lk ht rc ts gs xs k).h ∧ (stAt lk ht rc ts gs xs k).h ≤ ht) ∧ inB X (stAt lk ht rc ts gs xs k).ps ∧ (stAt lk ht rc ts gs xs k).ps.length + 1 = ts.length := by
    intro k
    induction k with
    | zero =>
      have h1 := hV.tl
      have h2 := hV.ht
      refine ⟨rfl, ⟨Int.le_refl _, h2.1⟩, ?_, by simp [stAt]; omega⟩
      intro z hz
      have := List.eq_of_mem_replicate hz
      omega
    | succ k ih =>
      obtain ⟨h1, h2, h3, h4⟩ := ih
      have hxk := inB_get hx hX.1 k
      obtain ⟨h5, h6⟩ := step _ _ h1 h2 h3 h4 hxk
      have hc := coolF_bd lk h2.1
      refine ⟨h5, ?_, ?_, ?_⟩
      · show 0 ≤ coolF lk _ + outF lk ht rc ts gs _ _ * outF lk ht rc ts gs _ _ ∧ coolF lk _ + outF lk ht rc ts gs _ _ * outF lk ht rc ts gs _ _ ≤ ht
        rw [h6]
        refine ⟨?_, heat_stays hV.ht.1 h2.2 (Int.le_trans (sq_le hxk) hsq)⟩
        have : 0 ≤ xs.getD k 0 * xs.getD k 0 := by
          rcases Int.le_total 0 (xs.getD k 0) with h | h
          · exact Int.mul_nonneg h h
          · exact Int.mul_nonneg_of_nonpos_of_nonpos h h
        omega
      · show inB X (pushL _ (outF lk ht rc ts gs _ _))
        rw [h6]
        exact inB_push h3 hxk
      · show (pushL _ _).length + 1 = _
        rw [pushL_len]
        exact h4
  intro k
  obtain ⟨h1, h2, h3, h4⟩ := all k
  exact ⟨h1, h2, h3, h4, (step _ _ h1 h2 h3 h4 (inB_get hx hX.1 k)).2⟩
theorem quiet_outs {lk ht rc X : Int} {ts gs xs : List Int} (hV : Valid lk ht rc ts gs) (hg : gs.getD (gs.length - 1) 0 = 16) (hX : 0 ≤ X ∧ X * wtK ts 8 ≤ rc) (hsq : X * X ≤ ht / 2 ^ lk.toNat) (hx : inB X xs) : outsK lk ht rc ts gs xs xs.length = xs := by
  unfold outsK
  apply List.ext_getElem
  · simp
  · intro i h1 h2
    rw [List.getElem_map, List.getElem_range, (quiet_run hV hg hX hsq hx i).2.2.2.2, List.getD_eq_getElem?_getD, List.getElem?_eq_getElem h2]
    rfl
theorem tmod_in {v x : Int} (h : 0 ≤ x) : -x ≤ v.tmod (x + 1) ∧ v.tmod (x + 1) ≤ x := by
  rcases Int.le_total 0 v with h1 | h1
  · have h2 := Int.tmod_nonneg (x + 1) h1
    have h3 := Int.tmod_lt_of_pos v (show 0 < x + 1 by omega)
    omega
  · obtain ⟨m, rfl⟩ : ∃ m, v = -m := ⟨-v, by omega⟩
    rw [Int.neg_tmod]
    have h2 := Int.tmod_nonneg (x + 1) (show 0 ≤ m by omega)
    have h3 := Int.tmod_lt_of_pos m (show 0 < x + 1 by omega)
    omega
end Go.Proofs.YtdeapbihbhoefaaDoor

/- Contract of weight. -/
namespace Go.Proofs.YtdeapbihbhoefaaDoor
open Go.RowKit
open Calm (bcell Blk)

theorem eqItems_int (d : Nat) (xs ys : Array Value) (l m : List Int) (hx : ∀ i, i < l.length → xs[i]? = some (.int .i64 (l.getD i 0))) (hy : ∀ i, i < l.length → ys[i]? = some (.int .i64 (m.getD i 0))) (W : World) : ∀ is : List Nat, (∀ i ∈ is, i < l.length) →
    (Op.eqItems (d + 1) 3 1 xs ys is).run Tryd.prog W = .ok (is.all fun i => l.getD i 0 == m.getD i 0) W
  | [], _ => by simp [Op.eqItems]
  | i :: is, h => by
    have hp : Tryd.prog.plainKey 3 = true := by kernel_rfl
    have hu : Tryd.prog.underlying 3 = some (.int .i64) := by kernel_rfl
    have hi := h i (by simp)
    have h1 := run_part_plain (P := Tryd.prog) (w := W) hp (hx i hi)
    have h2 := run_part_plain (P := Tryd.prog) (w := W) hp (hy i hi)
    have h3 := run_equalIn_int (P := Tryd.prog) W d 3 .i64 .i64 (l.getD i 0) (m.getD i 0) hu
    have ih := eqItems_int d xs ys l m hx hy W is (fun j hj => h j (by simp [hj]))
    simp only [Op.eqItems, Sem.run_bind, Nat.mul_one, h1, h2, h3, Result.andThen_ok]
    by_cases hc : (l.getD i 0 == m.getD i 0) = true
    · rw [hc]
      simp only [Bool.not_true, Bool.false_eq_true, if_false, ih, List.all_cons, hc, Bool.true_and]
    · rw [Bool.not_eq_true] at hc
      rw [hc]
      simp only [List.all_cons, hc, Bool.false_and, Bool.not_false, if_true]
      rfl
/-- an array of eight integers held against the zero array. -/
theorem eq_arr8 (t0 t1 t2 t3 t4 t5 t6 t7 : Int) (W : World) : Sem.run Tryd.prog (binOp .eql 133 (.agg #[(.int .i64 (t0)), (.int .i64 (t1)), (.int .i64 (t2)), (.int .i64 (t3)), (.int .i64 (t4)), (.int .i64 (t5)), (.int .i64 (t6)), (.int .i64 (t7))]) (.agg #[(.int .i64 (0)), (.int .i64 (0)), (.int .i64 (0)), (.int .i64 (0)), (.int .i64 (0)), (.int .i64 (0)), (.int .i64 (0)), (.int .i64 (0))])) W = .ok (.bool ((List.range 8).all fun i => [t0, t1, t2, t3, t4, t5, t6, t7].getD i 0 == 0)) W := by
  obtain ⟨i0, hi, hz0, hz1, hz2⟩ := info_parts Tryd.infoI
  have hu : Tryd.prog.underlying 133 = some (.array 8 3) := by kernel_rfl
  have hc : Tryd.prog.cellsOf 3 = 1 := by kernel_rfl
  have h := eqItems_int 9998 #[(.int .i64 (t0)), (.int .i64 (t1)), (.int .i64 (t2)), (.int .i64 (t3)), (.int .i64 (t4)), (.int .i64 (t5)), (.int .i64 (t6)), (.int .i64 (t7))] #[(.int .i64 (0)), (.int .i64 (0)), (.int .i64 (0)), (.int .i64 (0)), (.int .i64 (0)), (.int .i64 (0)), (.int .i64 (0)), (.int .i64 (0))] [t0, t1, t2, t3, t4, t5, t6, t7] [0, 0, 0, 0, 0, 0, 0, 0] (by intro i hi; match i, hi with | 0, _ => rfl | 1, _ => rfl | 2, _ => rfl | 3, _ => rfl | 4, _ => rfl | 5, _ => rfl | 6, _ => rfl | 7, _ => rfl) (by intro i hi; match i, hi with | 0, _ => rfl | 1, _ => rfl | 2, _ => rfl | 3, _ => rfl | 4, _ => rfl | 5, _ => rfl | 6, _ => rfl | 7, _ => rfl) W (List.range 8) (by simp)
  have h2 := run_equalIn_array (P := Tryd.prog) (w := W) 9999 #[(.int .i64 (t0)), (.int .i64 (t1)), (.int .i64 (t2)), (.int .i64 (t3)), (.int .i64 (t4)), (.int .i64 (t5)), (.int .i64 (t6)), (.int .i64 (t7))] #[(.int .i64 (0)), (.int .i64 (0)), (.int .i64 (0)), (.int .i64 (0)), (.int .i64 (0)), (.int .i64 (0)), (.int .i64 (0)), (.int .i64 (0))] hu hi
  rw [hc, h] at h2
  have h3 : (Op.equal 133 (.agg #[(.int .i64 (t0)), (.int .i64 (t1)), (.int .i64 (t2)), (.int .i64 (t3)), (.int .i64 (t4)), (.int .i64 (t5)), (.int .i64 (t6)), (.int .i64 (t7))]) (.agg #[(.int .i64 (0)), (.int .i64 (0)), (.int .i64 (0)), (.int .i64 (0)), (.int .i64 (0)), (.int .i64 (0)), (.int .i64 (0)), (.int .i64 (0))])).run Tryd.prog W = _ := h2
  simp only [binOp]
  rw [Sem.run_bind, h3]
  rfl
theorem sl8 (b : Nat) (W : World) : Sem.run Tryd.prog (Instr.sliceAt 133 (.pointer (some ⟨b, 0, none⟩)) none none none) W = .ok (.slice (some ⟨b, 0, none⟩) 8 8) W := by
  have ht : Tryd.prog.underlying 133 = some (.array 8 3) := by kernel_rfl
  obtain ⟨i0, hi, hz0, hz1, hz2⟩ := info_parts Tryd.infoI
  simp [Instr.sliceAt, run_underlying ht, Instr.sliceBounds, Instr.sureAddr, sizeOf, typeInfo, hi, Addr.add]
theorem taps8 {ts : List Int} (h : ts.length ≤ 8) : (ts.map (Value.int .i64) ++ (#[(.int .i64 (0)), (.int .i64 (0)), (.int .i64 (0)), (.int .i64 (0)), (.int .i64 (0)), (.int .i64 (0)), (.int .i64 (0)), (.int .i64 (0))] : Array Value).toList.drop ts.length).toArray = #[(.int .i64 (ts.getD 0 0)), (.int .i64 (ts.getD 1 0)), (.int .i64 (ts.getD 2 0)), (.int .i64 (ts.getD 3 0)), (.int .i64 (ts.getD 4 0)), (.int .i64 (ts.getD 5 0)), (.int .i64 (ts.getD 6 0)), (.int .i64 (ts.getD 7 0))] := by
  match ts, h with
  | [], _ => rfl
  | [_], _ => rfl
  | [_, _], _ => rfl
  | [_, _, _], _ => rfl
  | [_, _, _, _], _ => rfl
  | [_, _, _, _, _], _ => rfl
  | [_, _, _, _, _, _], _ => rfl
  | [_, _, _, _, _, _, _], _ => rfl
  | [_, _, _, _, _, _, _, _], _ => rfl
  | _ :: _ :: _ :: _ :: _ :: _ :: _ :: _ :: _ :: _, h => simp at h
theorem idx8 (a b c d e f g h : Value) (k : Nat) (hk : k < 8) (W : World) : Sem.run Tryd.prog (Instr.index 133 (.agg #[a, b, c, d, e, f, g, h]) (.int .i64 ((k : Int)))) W = .ok (#[a, b, c, d, e, f, g, h].getD k undef) W := by
  have ht : Tryd.prog.underlying 133 = some (.array 8 3) := by kernel_rfl
  have hu : Tryd.prog.underlying 3 = some (.int .i64) := by kernel_rfl
  obtain ⟨i0, hi, hz0, hz1, hz2⟩ := info_parts Tryd.infoI
  have h3 : (0 : Int) ≤ k ∧ (k : Int) < 8 := by omega
  have hrun := run_underlying (P := Tryd.prog) hu
  obtain rfl | rfl | rfl | rfl | rfl | rfl | rfl | rfl : k = 0 ∨ k = 1 ∨ k = 2 ∨ k = 3 ∨ k = 4 ∨ k = 5 ∨ k = 6 ∨ k = 7 := by omega
  all_goals (simp [Instr.index, run_underlying ht, asIntOf, sizeOf, typeInfo, hi, hz1, part, isAgg, hrun])

set_option maxRecDepth 100000 in
set_option maxHeartbeats 2000000 in
theorem weight_any (lk ht rc : Int) (ts : List Int) (A1 A2 : Option Addr) (M L c1 c2 : Nat) (w : World) (hM : M = ts.length) (hT : Cells w A1 ts) (h8 : M ≤ 8) (hb : inB 64 ts) :
    Calls Tryd.prog 91 #[.agg #[(.int .i64 (lk)), (.int .i64 (ht)), .slice A1 M c1, (.int .i64 (rc)), .slice A2 L c2]] w fun r w' => r = .returned (.int .i64 (wtK ts 8)) ∧ Below w.heap.size w w' := by
  have HT := Lib.hid hT
  have HM := Lib.hid hM
  have HB := Lib.hid hb
  obtain ⟨Z, hZ⟩ : ∃ Z, Z = ((List.range 8).all fun i => [ts.getD 0 0, ts.getD 1 0, ts.getD 2 0, ts.getD 3 0, ts.getD 4 0, ts.getD 5 0, ts.getD 6 0, ts.getD 7 0].getD i 0 == 0) := ⟨_, rfl⟩
  have HEQ := eq_arr8 (ts.getD 0 0) (ts.getD 1 0) (ts.getD 2 0) (ts.getD 3 0) (ts.getD 4 0) (ts.getD 5 0) (ts.getD 6 0) (ts.getD 7 0)
  rw [← hZ] at HEQ
  have HZ : Hid (Z = true → wtK ts 8 = 0) := Lib.hid (fun e => by
    rw [hZ] at e
    have e2 := List.all_eq_true.1 e
    refine wtK_zero fun i hi => ?_
    have e3 := e2 i (by simp; omega)
    match i, hi with
    | 0, _ => simpa using e3
    | 1, _ => simpa using e3
    | 2, _ => simpa using e3
    | 3, _ => simpa using e3
    | 4, _ => simpa using e3
    | 5, _ => simpa using e3
    | 6, _ => simpa using e3
    | 7, _ => simpa using e3)
  have HEQH := Lib.hid HEQ
  clear hT hM hb hZ HEQ
  go_enter Tryd.func91, Tryd.ntmps91
  go_wp2
  refine name_world ?_
  intro wa ea
  have KA : Blk wa w.heap.size #[(.int .i64 (lk)), (.int .i64 (ht)), .slice A1 M c1, (.int .i64 (rc)), .slice A2 L c2] := by rw [ea]; (repeat (first | ((with_reducible refine Blk.at_ ?_); focus (first | rfl | (simp; done) | (simp; omega))) | (with_reducible refine Blk.alloc ?_ _) | (with_reducible refine Blk.below ?_ (by with_reducible assumption)) | (with_reducible refine Blk.drew ?_)))
  have HA : wa.heap[w.heap.size + 1]? = some (.cells #[(.int .i64 (0)), (.int .i64 (0)), (.int .i64 (0)), (.int .i64 (0)), (.int .i64 (0)), (.int .i64 (0)), (.int .i64 (0)), (.int .i64 (0))] 133 (0, 0)) := by rw [ea]; exact heap_new (by simp)
  have BA : Below w.heap.size w wa := by rw [ea]; (repeat (first | (with_reducible exact Below.refl _ _) | ((with_reducible refine Below.setCell ?_ ?_ _); rotate_left 1; focus (first | (simp; done) | (simp; omega) | (simp at *; omega))) | ((with_reducible refine Below.alloc ?_ ?_ _); rotate_left 1; focus (first | (simp; done) | (simp; omega) | (simp at *; omega))) | (with_reducible refine Below.drew ?_) | ((with_reducible refine Calm.step (by assumption) ?_ ?_); rotate_left 1; focus (first | (simp; done) | (simp; omega) | (simp at *; omega)))))
  have hza : wa.heap.size = w.heap.size + 2 := by rw [ea]; simp
  have HKA := Lib.hid KA
  have HHA := Lib.hid HA
  have HBA := Lib.hid BA
  obtain ⟨g0, g1, g2, g3, g4, gl, gf⟩ := KA.o5
  have hsl := sl8 (w.heap.size + 1)
  clear ea KA HA BA
  refine Calm.tail_below 3 (by kernel_rfl) (by kernel_rfl) ?_
  simp only [List.take_succ_cons, List.take_zero, List.drop_succ_cons, List.drop_zero]
  repeat (first | (apply Calm.op_move; (focus rfl); (focus (first | exact .inl rfl | exact .inr rfl)); (focus ((try simp only [Act.eval, Array.getD_eq_getD_getElem?, List.getElem?_toArray, List.getElem?_cons_succ, List.getElem?_cons_zero, Option.getD_some]); rfl)); (try simp only [Act.put, List.setIfInBounds_toArray, List.set_cons_zero, List.set_cons_succ])) | (apply Calm.op_not; (focus rfl); (try simp only [Act.put, List.setIfInBounds_toArray, List.set_cons_zero, List.set_cons_succ])) | (apply Calm.op; (focus rfl); (focus (intro W hb; obtain ⟨hc, hf⟩ := bcell hb; clear hb hf; go_simp; (try go_bits); (try rfl); done)); (try simp only [Act.put, List.setIfInBounds_toArray, List.set_cons_zero, List.set_cons_succ])))
  refine wpQuiet_nil ?_
  intro wb hbb
  obtain ⟨hbbc, hbbf⟩ := bcell hbb
  have hbbz := hbb.size
  (try simp at hbbz)
  (try have hbbz0 : w.heap.size < wb.heap.size := by omega)
  (try have hbbz1 : w.heap.size + 1 < wb.heap.size := by omega)
  (try have hbbz2 : w.heap.size + 1 + 1 < wb.heap.size := by omega)
  (try have hbbz3 : w.heap.size + 1 + 1 + 1 < wb.heap.size := by omega)
  (try have hbbz4 : w.heap.size + 1 + 1 + 1 + 1 < wb.heap.size := by omega)
  (try have hbbz5 : w.heap.size + 1 + 1 + 1 + 1 + 1 < wb.heap.size := by omega)
  go_wp2_with (refine wpList_copyI rfl (.tmp 7) (.tmp 9) 22 22 rfl 3 Tryd.underlying22 Tryd.sizeI (w.heap.size + 1) 8 M 8 c1 A1 ts HM.out.symm h8 rfl rfl #[(.int .i64 (0)), (.int .i64 (0)), (.int .i64 (0)), (.int .i64 (0)), (.int .i64 (0)), (.int .i64 (0)), (.int .i64 (0)), (.int .i64 (0))] 133 ?hg rfl (HT.out.below (HBA.out.trans (hbb.mono HBA.out.size))) ?_)
  case hg => exact (hbb.block _ (by omega)).trans HHA.out
  intro wc hsc hbc hoc hgc
  rw [show (ts.map (Value.int .i64) ++ (#[(.int .i64 (0)), (.int .i64 (0)), (.int .i64 (0)), (.int .i64 (0)), (.int .i64 (0)), (.int .i64 (0)), (.int .i64 (0)), (.int .i64 (0))] : Array Value).toList.drop M).toArray = #[(.int .i64 (ts.getD 0 0)), (.int .i64 (ts.getD 1 0)), (.int .i64 (ts.getD 2 0)), (.int .i64 (ts.getD 3 0)), (.int .i64 (ts.getD 4 0)), (.int .i64 (ts.getD 5 0)), (.int .i64 (ts.getD 6 0)), (.int .i64 (ts.getD 7 0))] by rw [HM.out]; exact taps8 (by rw [← HM.out]; exact h8)] at hgc
  have HIX : Hid (∀ k : Nat, k < 8 → ∀ W, Sem.run Tryd.prog (Instr.index 133 (.agg #[(.int .i64 (ts.getD 0 0)), (.int .i64 (ts.getD 1 0)), (.int .i64 (ts.getD 2 0)), (.int .i64 (ts.getD 3 0)), (.int .i64 (ts.getD 4 0)), (.int .i64 (ts.getD 5 0)), (.int .i64 (ts.getD 6 0)), (.int .i64 (ts.getD 7 0))]) (.int .i64 ((k : Int)))) W = .ok (.int .i64 (ts.getD k 0)) W) := Lib.hid (fun k hk W => by
    rw [idx8 _ _ _ _ _ _ _ _ k hk W]
    match k, hk with
    | 0, _ => rfl
    | 1, _ => rfl
    | 2, _ => rfl
    | 3, _ => rfl
    | 4, _ => rfl
    | 5, _ => rfl
    | 6, _ => rfl
    | 7, _ => rfl)
  generalize ts.getD 0 0 = t0 at *
  generalize ts.getD 1 0 = t1 at *
  generalize ts.getD 2 0 = t2 at *
  generalize ts.getD 3 0 = t3 at *
  generalize ts.getD 4 0 = t4 at *
  generalize ts.getD 5 0 = t5 at *
  generalize ts.getD 6 0 = t6 at *
  generalize ts.getD 7 0 = t7 at *
  have hBc : Below w.heap.size w wc := (HBA.out.trans (hbb.mono HBA.out.size)).trans (hbc.mono (by omega))
  have HBC := Lib.hid hBc
  have hK := Calm.Blk.row hgc
  obtain ⟨d0, d1, d2, d3, d4, d5, d6, d7, dl, df⟩ := hK.o8
  have heq := HEQH.out
  have HBT : Hid (∀ k : Nat, -64 ≤ ts.getD k 0 ∧ ts.getD k 0 ≤ 64) := Lib.hid (fun k => inB_get HB.out (by omega) k)
  have HWB : Hid (∀ k : Nat, 0 ≤ wtK ts k ∧ wtK ts k ≤ 64 * (k : Int)) := Lib.hid (fun k => wtK_bd HB.out k)
  clear hgc hoc hbc hbb hsc hsl hBc g0 g1 g2 g3 g4 gl gf HHA hK HKA HB HEQH
  cases hZ : Z with
  | true =>
    subst hZ
    have HR := Lib.hid (HZ.out rfl)
    go_wp2
    go_ret
    exact ⟨ret_i HR.out.symm, HBC.out⟩
  | false =>
    subst hZ
    go_wp2
    go_loop [4, 15] (fun s i => ∃ k : Nat, k ≤ 8 ∧ i = (.int .i64 ((k : Int))) ∧ s = (.int .i64 (wtK ts k))) (fun _ i => 8 - (intOf i).toNat)
    case atStart => exact ⟨0, by omega, rfl, rfl⟩
    case round =>
      obtain ⟨k, hk, rfl, rfl⟩ := hrel
      obtain ⟨m1, m2⟩ := HWB.out k
      have HS : Hid (wtK ts (k + 1) = wtK ts k + absI (ts.getD k 0)) := Lib.hid rfl
      obtain ⟨S, hS⟩ : ∃ S, S = wtK ts k := ⟨_, rfl⟩
      rw [← hS] at m1 m2 HS ⊢
      have HSE := Lib.hid hS
      clear hS
      by_cases hlt : k < 8
      · have hix := HIX.out k hlt
        have hbt := HBT.out k
        obtain ⟨x, hx⟩ : ∃ x, x = ts.getD k 0 := ⟨_, rfl⟩
        rw [← hx] at hix hbt HS
        obtain ⟨b1, b2⟩ := hbt
        have hab := absI_bd ⟨b1, b2⟩
        obtain ⟨y, hy⟩ : ∃ y, y = absI x := ⟨_, rfl⟩
        have HA : Hid (∀ W, Calls Tryd.prog 88 #[(.int .i64 (x))] W fun r w' => r = .returned (.int .i64 (y)) ∧ W = w') := Lib.hid (fun W => by rw [hy]; exact abs_any x W ⟨by omega, by omega⟩)
        rw [← hy] at hab HS
        obtain ⟨b3, b4⟩ := hab
        clear hx hy
        go_wp2_with (go_at_call 88; refine (HA.out _).mono ?_; rintro r w1 ⟨rfl, rfl⟩)
        go_round
        case rel => exact ⟨k + 1, by omega, by go_num, by rw [HS.out]⟩
        case measure => simp [intOf]; omega
      · obtain rfl : k = 8 := by omega
        go_wp2
        go_ret
        exact ⟨ret_i HSE.out, HBC.out⟩
end Go.Proofs.YtdeapbihbhoefaaDoor

/- Contracts of Steady and Quiet. -/
namespace Go.Proofs.YtdeapbihbhoefaaDoor
open Go.RowKit
open Calm (bcell Blk)

set_option maxHeartbeats 1000000 in
theorem Steady_any (lk ht rc : Int) (ts gs : List Int) (A1 A2 : Option Addr) (M L c1 c2 : Nat) (w : World) (hM : M = ts.length) (hL : L = gs.length) (hT : Cells w A1 ts) (hG : Cells w A2 gs) (h1 : M ≤ 1000) (h2 : L ≤ 1000) :
    Calls Tryd.prog 48 #[.agg #[(.int .i64 (lk)), (.int .i64 (ht)), .slice A1 M c1, (.int .i64 (rc)), .slice A2 L c2]] w fun r w' => r = .returned (.tuple #[(.int .i64 (if guardErr lk ht rc ts gs = 0 then (stdF lk ht : Int) else 0)), (.int .i64 (guardErr lk ht rc ts gs))]) ∧ Below w.heap.size w w' := by
  have HCG : Hid (∀ W, Cells W A1 ts → Cells W A2 gs → Calls Tryd.prog 20 #[.agg #[(.int .i64 (lk)), (.int .i64 (ht)), .slice A1 M c1, (.int .i64 (rc)), .slice A2 L c2]] W fun r w' => r = .returned (.int .i64 (guardErr lk ht rc ts gs)) ∧ Below W.heap.size W w') := Lib.hid (fun W q1 q2 => by rw [hM, hL]; exact checkGuard_any lk ht rc ts gs A1 A2 c1 c2 W q1 q2 (by omega) (by omega))
  have HST : Hid (guardErr lk ht rc ts gs = 0 → ∀ W, Calls Tryd.prog 90 #[.agg #[(.int .i64 (lk)), (.int .i64 (ht)), .slice A1 M c1, (.int .i64 (rc)), .slice A2 L c2]] W fun r w' => r = .returned (.int .i64 ((stdF lk ht : Int))) ∧ Below W.heap.size W w') := Lib.hid (fun e W => steady_any lk ht rc A1 A2 M L c1 c2 W (guard_valid e).lk (guard_valid e).ht)
  have HT := Lib.hid hT
  have HG := Lib.hid hG
  obtain ⟨E, hE⟩ : ∃ E, E = guardErr lk ht rc ts gs := ⟨_, rfl⟩
  obtain ⟨S, hS⟩ : ∃ S, S = (stdF lk ht : Int) := ⟨_, rfl⟩
  rw [← hE] at HCG HST ⊢
  rw [← hS] at HST ⊢
  clear hM hL hT hG hE hS
  by_cases he : E = 0
  · subst he
    have HST2 := HST.out rfl
    have HST3 := Lib.hid HST2
    clear HST2 HST
    rw [if_pos rfl]
    go_enter Tryd.func48, Tryd.ntmps48
    go_wp2_with (first
      | (go_at_call 20; refine (HCG.out _ (HT.out.below (by (repeat (first | (with_reducible exact Below.refl _ _) | ((with_reducible refine Below.setCell ?_ ?_ _); rotate_left 1; focus (first | (simp; done) | (simp; omega) | (simp at *; omega))) | ((with_reducible refine Below.alloc ?_ ?_ _); rotate_left 1; focus (first | (simp; done) | (simp; omega) | (simp at *; omega))) | (with_reducible refine Below.drew ?_) | ((with_reducible refine Calm.step (by assumption) ?_ ?_); rotate_left 1; focus (first | (simp; done) | (simp; omega) | (simp at *; omega))))))) (HG.out.below (by (repeat (first | (with_reducible exact Below.refl _ _) | ((with_reducible refine Below.setCell ?_ ?_ _); rotate_left 1; focus (first | (simp; done) | (simp; omega) | (simp at *; omega))) | ((with_reducible refine Below.alloc ?_ ?_ _); rotate_left 1; focus (first | (simp; done) | (simp; omega) | (simp at *; omega))) | (with_reducible refine Below.drew ?_) | ((with_reducible refine Calm.step (by assumption) ?_ ?_); rotate_left 1; focus (first | (simp; done) | (simp; omega) | (simp at *; omega)))))))).mono ?_; rintro r w1 ⟨rfl, hb1⟩; have HB1 := Lib.hid (show Below w.heap.size w w1 from Below.trans (by (repeat (first | (with_reducible exact Below.refl _ _) | ((with_reducible refine Below.setCell ?_ ?_ _); rotate_left 1; focus (first | (simp; done) | (simp; omega) | (simp at *; omega))) | ((with_reducible refine Below.alloc ?_ ?_ _); rotate_left 1; focus (first | (simp; done) | (simp; omega) | (simp at *; omega))) | (with_reducible refine Below.drew ?_) | ((with_reducible refine Calm.step (by assumption) ?_ ?_); rotate_left 1; focus (first | (simp; done) | (simp; omega) | (simp at *; omega)))))) (hb1.mono (by simp; try omega))); have G1 := Lib.hid (show Blk w1 w.heap.size #[(.int .i64 (lk)), (.int .i64 (ht)), .slice A1 M c1, (.int .i64 (rc)), .slice A2 L c2] from Blk.below (by (repeat (first | ((with_reducible refine Blk.at_ ?_); focus (first | rfl | (simp; done) | (simp; omega))) | (with_reducible refine Blk.alloc ?_ _) | (with_reducible refine Blk.below ?_ (by with_reducible assumption)) | (with_reducible refine Blk.drew ?_)))) hb1); obtain ⟨g0, g1, g2, g3, g4, gl, gf⟩ := G1.out.o5; clear hb1)
      | (go_at_call 90; refine (HST3.out _).mono ?_; rintro r w2 ⟨rfl, hb2⟩; have HB2 := Lib.hid (HB1.out.trans (hb2.mono HB1.out.size)); clear hb2 g0 g1 g2 g3 g4 gl gf))
    go_ret2
    exact ⟨rfl, HB2.out⟩
  · rw [if_neg he]
    clear HST
    go_enter Tryd.func48, Tryd.ntmps48
    go_wp2_with (go_at_call 20; refine (HCG.out _ (HT.out.below (by (repeat (first | (with_reducible exact Below.refl _ _) | ((with_reducible refine Below.setCell ?_ ?_ _); rotate_left 1; focus (first | (simp; done) | (simp; omega) | (simp at *; omega))) | ((with_reducible refine Below.alloc ?_ ?_ _); rotate_left 1; focus (first | (simp; done) | (simp; omega) | (simp at *; omega))) | (with_reducible refine Below.drew ?_) | ((with_reducible refine Calm.step (by assumption) ?_ ?_); rotate_left 1; focus (first | (simp; done) | (simp; omega) | (simp at *; omega))))))) (HG.out.below (by (repeat (first | (with_reducible exact Below.refl _ _) | ((with_reducible refine Below.setCell ?_ ?_ _); rotate_left 1; focus (first | (simp; done) | (simp; omega) | (simp at *; omega))) | ((with_reducible refine Below.alloc ?_ ?_ _); rotate_left 1; focus (first | (simp; done) | (simp; omega) | (simp at *; omega))) | (with_reducible refine Below.drew ?_) | ((with_reducible refine Calm.step (by assumption) ?_ ?_); rotate_left 1; focus (first | (simp; done) | (simp; omega) | (simp at *; omega)))))))).mono ?_; rintro r w1 ⟨rfl, hb1⟩; have HB1 := Lib.hid (show Below w.heap.size w w1 from Below.trans (by (repeat (first | (with_reducible exact Below.refl _ _) | ((with_reducible refine Below.setCell ?_ ?_ _); rotate_left 1; focus (first | (simp; done) | (simp; omega) | (simp at *; omega))) | ((with_reducible refine Below.alloc ?_ ?_ _); rotate_left 1; focus (first | (simp; done) | (simp; omega) | (simp at *; omega))) | (with_reducible refine Below.drew ?_) | ((with_reducible refine Calm.step (by assumption) ?_ ?_); rotate_left 1; focus (first | (simp; done) | (simp; omega) | (simp at *; omega)))))) (hb1.mono (by simp; try omega))); clear hb1)
    go_ret2
    exact ⟨rfl, HB1.out⟩

theorem mnQ (x y : Int) (ts : Array TypeId) (t : TypeId) (W : World) : (Builtin.min_ ts t #[(.int .i64 (x)), (.int .i64 (y))]).run Tryd.prog W = .ok (.int .i64 (if y < x then y else x)) W := by
  by_cases h : y < x
  · simp [Builtin.min_, Builtin.min2, h]
  · simp [Builtin.min_, Builtin.min2, h]

set_option maxRecDepth 100000 in
set_option maxHeartbeats 2000000 in
theorem Quiet_any (lk ht rc : Int) (ts gs : List Int) (A1 A2 : Option Addr) (M L c1 c2 : Nat) (w : World) (hM : M = ts.length) (hL : L = gs.length) (hT : Cells w A1 ts) (hG : Cells w A2 gs) (h1 : M ≤ 1000) (h2 : L ≤ 1000) :
    Calls Tryd.prog 49 #[.agg #[(.int .i64 (lk)), (.int .i64 (ht)), .slice A1 M c1, (.int .i64 (rc)), .slice A2 L c2]] w fun r w' => r = .returned (.tuple #[(.int .i64 (if guardErr lk ht rc ts gs = 0 then quietF lk ht rc ts else 0)), (.int .i64 (guardErr lk ht rc ts gs))]) ∧ Below w.heap.size w w' := by
  have HCG : Hid (∀ W, Cells W A1 ts → Cells W A2 gs → Calls Tryd.prog 20 #[.agg #[(.int .i64 (lk)), (.int .i64 (ht)), .slice A1 M c1, (.int .i64 (rc)), .slice A2 L c2]] W fun r w' => r = .returned (.int .i64 (guardErr lk ht rc ts gs)) ∧ Below W.heap.size W w') := Lib.hid (fun W q1 q2 => by rw [hM, hL]; exact checkGuard_any lk ht rc ts gs A1 A2 c1 c2 W q1 q2 (by omega) (by omega))
  have HST : Hid (guardErr lk ht rc ts gs = 0 → ∀ W, Calls Tryd.prog 90 #[.agg #[(.int .i64 (lk)), (.int .i64 (ht)), .slice A1 M c1, (.int .i64 (rc)), .slice A2 L c2]] W fun r w' => r = .returned (.int .i64 ((stdF lk ht : Int))) ∧ Below W.heap.size W w') := Lib.hid (fun e W => steady_any lk ht rc A1 A2 M L c1 c2 W (guard_valid e).lk (guard_valid e).ht)
  have HWT : Hid (guardErr lk ht rc ts gs = 0 → ∀ W, Cells W A1 ts → Calls Tryd.prog 91 #[.agg #[(.int .i64 (lk)), (.int .i64 (ht)), .slice A1 M c1, (.int .i64 (rc)), .slice A2 L c2]] W fun r w' => r = .returned (.int .i64 (wtK ts 8)) ∧ Below W.heap.size W w') := Lib.hid (fun e W q => weight_any lk ht rc ts A1 A2 M L c1 c2 W hM q (by have := (guard_valid e).tl; omega) (guard_valid e).tb)
  have HWB : Hid (guardErr lk ht rc ts gs = 0 → 0 ≤ wtK ts 8 ∧ wtK ts 8 ≤ 512) := Lib.hid (fun e => by have := wtK_bd (guard_valid e).tb 8; omega)
  have HRC : Hid (guardErr lk ht rc ts gs = 0 → 0 ≤ rc ∧ rc ≤ 1048576) := Lib.hid (fun e => (guard_valid e).rc)
  have HQ : Hid (quietF lk ht rc ts = if 0 < wtK ts 8 then min (stdF lk ht : Int) (rc / wtK ts 8) else (stdF lk ht : Int)) := Lib.hid rfl
  have HT := Lib.hid hT
  have HG := Lib.hid hG
  obtain ⟨E, hE⟩ : ∃ E, E = guardErr lk ht rc ts gs := ⟨_, rfl⟩
  obtain ⟨S, hS⟩ : ∃ S, S = (stdF lk ht : Int) := ⟨_, rfl⟩
  obtain ⟨Wt, hWt⟩ : ∃ Wt, Wt = wtK ts 8 := ⟨_, rfl⟩
  obtain ⟨R, hR⟩ : ∃ R, R = quietF lk ht rc ts := ⟨_, rfl⟩
  rw [← hE] at HCG HST HWT HWB HRC ⊢
  rw [← hS] at HST HQ
  rw [← hWt] at HWT HWB HQ
  rw [← hR] at HQ ⊢
  clear hM hL hT hG hE hS hWt hR
  by_cases he : E = 0
  · subst he
    have HST2 := HST.out rfl
    have HST3 := Lib.hid HST2
    clear HST2 HST
    have HWT2 := HWT.out rfl
    have HWT3 := Lib.hid HWT2
    clear HWT2 HWT
    obtain ⟨b1, b2⟩ := HWB.out rfl
    obtain ⟨b3, b4⟩ := HRC.out rfl
    rw [if_pos rfl]
    by_cases hw : 0 < Wt
    · have b5 : 0 ≤ rc / Wt := Int.ediv_nonneg b3 b1
      have b6 : rc / Wt ≤ rc := Int.ediv_le_self _ b3
      have b7 : ¬ Wt = 0 := by omega
      have HR : Hid (R = if rc / Wt < S then rc / Wt else S) := Lib.hid (by rw [HQ.out, if_pos hw]; split <;> omega)
      have hmn := mnQ S (rc / Wt)
      obtain ⟨X, hX⟩ : ∃ X, X = (if rc / Wt < S then rc / Wt else S) := ⟨_, rfl⟩
      rw [← hX] at HR hmn
      have HX := Lib.hid hX
      clear hX
      go_enter Tryd.func49, Tryd.ntmps49
      go_wp2_with (first
        | (go_at_call 20; refine (HCG.out _ (HT.out.below (by (repeat (first | (with_reducible exact Below.refl _ _) | ((with_reducible refine Below.setCell ?_ ?_ _); rotate_left 1; focus (first | (simp; done) | (simp; omega) | (simp at *; omega))) | ((with_reducible refine Below.alloc ?_ ?_ _); rotate_left 1; focus (first | (simp; done) | (simp; omega) | (simp at *; omega))) | (with_reducible refine Below.drew ?_) | ((with_reducible refine Calm.step (by assumption) ?_ ?_); rotate_left 1; focus (first | (simp; done) | (simp; omega) | (simp at *; omega))))))) (HG.out.below (by (repeat (first | (with_reducible exact Below.refl _ _) | ((with_reducible refine Below.setCell ?_ ?_ _); rotate_left 1; focus (first | (simp; done) | (simp; omega) | (simp at *; omega))) | ((with_reducible refine Below.alloc ?_ ?_ _); rotate_left 1; focus (first | (simp; done) | (simp; omega) | (simp at *; omega))) | (with_reducible refine Below.drew ?_) | ((with_reducible refine Calm.step (by assumption) ?_ ?_); rotate_left 1; focus (first | (simp; done) | (simp; omega) | (simp at *; omega)))))))).mono ?_; rintro r w1 ⟨rfl, hb1⟩; have HB1 := Lib.hid (show Below w.heap.size w w1 from Below.trans (by (repeat (first | (with_reducible exact Below.refl _ _) | ((with_reducible refine Below.setCell ?_ ?_ _); rotate_left 1; focus (first | (simp; done) | (simp; omega) | (simp at *; omega))) | ((with_reducible refine Below.alloc ?_ ?_ _); rotate_left 1; focus (first | (simp; done) | (simp; omega) | (simp at *; omega))) | (with_reducible refine Below.drew ?_) | ((with_reducible refine Calm.step (by assumption) ?_ ?_); rotate_left 1; focus (first | (simp; done) | (simp; omega) | (simp at *; omega)))))) (hb1.mono (by simp; try omega))); have G1 := Lib.hid (show Blk w1 w.heap.size #[(.int .i64 (lk)), (.int .i64 (ht)), .slice A1 M c1, (.int .i64 (rc)), .slice A2 L c2] from Blk.below (by (repeat (first | ((with_reducible refine Blk.at_ ?_); focus (first | rfl | (simp; done) | (simp; omega))) | (with_reducible refine Blk.alloc ?_ _) | (with_reducible refine Blk.below ?_ (by with_reducible assumption)) | (with_reducible refine Blk.drew ?_)))) hb1); obtain ⟨g0, g1, g2, g3, g4, gl, gf⟩ := G1.out.o5; clear hb1)
        | (go_at_call 91; refine (HWT3.out _ (HT.out.below HB1.out)).mono ?_; rintro r w2 ⟨rfl, hb2⟩; have HB2 := Lib.hid (HB1.out.trans (hb2.mono HB1.out.size)); have G2 := Lib.hid (G1.out.below hb2); clear hb2 g0 g1 g2 g3 g4 gl gf; obtain ⟨g0, g1, g2, g3, g4, gl, gf⟩ := G2.out.o5))
      refine Calm.tail_below 7 (by kernel_rfl) (by kernel_rfl) ?_
      simp only [List.take_succ_cons, List.take_zero, List.drop_succ_cons, List.drop_zero]
      repeat (first | (first | (apply Calm.op_move; (focus rfl); (focus (first | exact .inl rfl | exact .inr rfl)); (focus ((try simp only [Act.eval, Array.getD_eq_getD_getElem?, List.getElem?_toArray, List.getElem?_cons_succ, List.getElem?_cons_zero, Option.getD_some]); rfl)); (try simp only [Act.put, List.setIfInBounds_toArray, List.set_cons_zero, List.set_cons_succ])) | (apply Calm.op_not; (focus rfl); (try simp only [Act.put, List.setIfInBounds_toArray, List.set_cons_zero, List.set_cons_succ])) | (apply Calm.op; (focus rfl); (focus (intro W hb; obtain ⟨hc, hf⟩ := bcell hb; clear hb hf; go_simp; (try go_bits); (try rfl); done)); (try simp only [Act.put, List.setIfInBounds_toArray, List.set_cons_zero, List.set_cons_succ]))) | (apply Calm.op_call; (focus rfl); (focus (intro W hb; obtain ⟨hc, hf⟩ := bcell hb; clear hb hf; go_simp; refine ⟨?_, ?_⟩; rfl; rfl)); (focus (intro W hb; first | (go_at_call 90; exact Calm.call_below hb (HST3.out _)))); (try simp only [Act.put, List.setIfInBounds_toArray, List.set_cons_zero, List.set_cons_succ])))
      refine wpQuiet_nil ?_
      intro w3 hb3
      obtain ⟨hb3c, hb3f⟩ := bcell hb3
      have hb3z := hb3.size
      (try simp at hb3z)
      (try have hb3z0 : w.heap.size < w3.heap.size := by omega)
      (try have hb3z1 : w.heap.size + 1 < w3.heap.size := by omega)
      (try have hb3z2 : w.heap.size + 1 + 1 < w3.heap.size := by omega)
      (try have hb3z3 : w.heap.size + 1 + 1 + 1 < w3.heap.size := by omega)
      (try have hb3z4 : w.heap.size + 1 + 1 + 1 + 1 < w3.heap.size := by omega)
      (try have hb3z5 : w.heap.size + 1 + 1 + 1 + 1 + 1 < w3.heap.size := by omega)
      go_wp2
      go_ret2
      exact ⟨by have h := HR.out; subst h; rfl, HB2.out.trans (hb3.mono HB2.out.size)⟩
    · have HR : Hid (R = S) := Lib.hid (by rw [HQ.out, if_neg hw])
      go_enter Tryd.func49, Tryd.ntmps49
      go_wp2_with (first
        | (go_at_call 20; refine (HCG.out _ (HT.out.below (by (repeat (first | (with_reducible exact Below.refl _ _) | ((with_reducible refine Below.setCell ?_ ?_ _); rotate_left 1; focus (first | (simp; done) | (simp; omega) | (simp at *; omega))) | ((with_reducible refine Below.alloc ?_ ?_ _); rotate_left 1; focus (first | (simp; done) | (simp; omega) | (simp at *; omega))) | (with_reducible refine Below.drew ?_) | ((with_reducible refine Calm.step (by assumption) ?_ ?_); rotate_left 1; focus (first | (simp; done) | (simp; omega) | (simp at *; omega))))))) (HG.out.below (by (repeat (first | (with_reducible exact Below.refl _ _) | ((with_reducible refine Below.setCell ?_ ?_ _); rotate_left 1; focus (first | (simp; done) | (simp; omega) | (simp at *; omega))) | ((with_reducible refine Below.alloc ?_ ?_ _); rotate_left 1; focus (first | (simp; done) | (simp; omega) | (simp at *; omega))) | (with_reducible refine Below.drew ?_) | ((with_reducible refine Calm.step (by assumption) ?_ ?_); rotate_left 1; focus (first | (simp; done) | (simp; omega) | (simp at *; omega)))))))).mono ?_; rintro r w1 ⟨rfl, hb1⟩; have HB1 := Lib.hid (show Below w.heap.size w w1 from Below.trans (by (repeat (first | (with_reducible exact Below.refl _ _) | ((with_reducible refine Below.setCell ?_ ?_ _); rotate_left 1; focus (first | (simp; done) | (simp; omega) | (simp at *; omega))) | ((with_reducible refine Below.alloc ?_ ?_ _); rotate_left 1; focus (first | (simp; done) | (simp; omega) | (simp at *; omega))) | (with_reducible refine Below.drew ?_) | ((with_reducible refine Calm.step (by assumption) ?_ ?_); rotate_left 1; focus (first | (simp; done) | (simp; omega) | (simp at *; omega)))))) (hb1.mono (by simp; try omega))); have G1 := Lib.hid (show Blk w1 w.heap.size #[(.int .i64 (lk)), (.int .i64 (ht)), .slice A1 M c1, (.int .i64 (rc)), .slice A2 L c2] from Blk.below (by (repeat (first | ((with_reducible refine Blk.at_ ?_); focus (first | rfl | (simp; done) | (simp; omega))) | (with_reducible refine Blk.alloc ?_ _) | (with_reducible refine Blk.below ?_ (by with_reducible assumption)) | (with_reducible refine Blk.drew ?_)))) hb1); obtain ⟨g0, g1, g2, g3, g4, gl, gf⟩ := G1.out.o5; clear hb1)
        | (go_at_call 91; refine (HWT3.out _ (HT.out.below HB1.out)).mono ?_; rintro r w2 ⟨rfl, hb2⟩; have HB2 := Lib.hid (HB1.out.trans (hb2.mono HB1.out.size)); have G2 := Lib.hid (G1.out.below hb2); clear hb2 g0 g1 g2 g3 g4 gl gf; obtain ⟨g0, g1, g2, g3, g4, gl, gf⟩ := G2.out.o5)
        | (go_at_call 90; refine (HST3.out _).mono ?_; rintro r w3 ⟨rfl, hb3⟩; have HB3 := Lib.hid (HB2.out.trans (hb3.mono HB2.out.size)); clear hb3 g0 g1 g2 g3 g4 gl gf))
      go_ret2
      exact ⟨by have h := HR.out; subst h; rfl, HB3.out⟩
  · rw [if_neg he]
    clear HST HWT HWB HRC HQ
    go_enter Tryd.func49, Tryd.ntmps49
    go_wp2_with (go_at_call 20; refine (HCG.out _ (HT.out.below (by (repeat (first | (with_reducible exact Below.refl _ _) | ((with_reducible refine Below.setCell ?_ ?_ _); rotate_left 1; focus (first | (simp; done) | (simp; omega) | (simp at *; omega))) | ((with_reducible refine Below.alloc ?_ ?_ _); rotate_left 1; focus (first | (simp; done) | (simp; omega) | (simp at *; omega))) | (with_reducible refine Below.drew ?_) | ((with_reducible refine Calm.step (by assumption) ?_ ?_); rotate_left 1; focus (first | (simp; done) | (simp; omega) | (simp at *; omega))))))) (HG.out.below (by (repeat (first | (with_reducible exact Below.refl _ _) | ((with_reducible refine Below.setCell ?_ ?_ _); rotate_left 1; focus (first | (simp; done) | (simp; omega) | (simp at *; omega))) | ((with_reducible refine Below.alloc ?_ ?_ _); rotate_left 1; focus (first | (simp; done) | (simp; omega) | (simp at *; omega))) | (with_reducible refine Below.drew ?_) | ((with_reducible refine Calm.step (by assumption) ?_ ?_); rotate_left 1; focus (first | (simp; done) | (simp; omega) | (simp at *; omega)))))))).mono ?_; rintro r w1 ⟨rfl, hb1⟩; have HB1 := Lib.hid (show Below w.heap.size w w1 from Below.trans (by (repeat (first | (with_reducible exact Below.refl _ _) | ((with_reducible refine Below.setCell ?_ ?_ _); rotate_left 1; focus (first | (simp; done) | (simp; omega) | (simp at *; omega))) | ((with_reducible refine Below.alloc ?_ ?_ _); rotate_left 1; focus (first | (simp; done) | (simp; omega) | (simp at *; omega))) | (with_reducible refine Below.drew ?_) | ((with_reducible refine Calm.step (by assumption) ?_ ?_); rotate_left 1; focus (first | (simp; done) | (simp; omega) | (simp at *; omega)))))) (hb1.mono (by simp; try omega))); clear hb1)
    go_ret2
    exact ⟨rfl, HB1.out⟩
end Go.Proofs.YtdeapbihbhoefaaDoor
