/- Part 10 of the texts of the claim: It2, It3, It4. -/
import Derived.Test.YtadcmjnebjgijaaGreatDoorMb6
import Derived.Test.YtadcmjnebjgijaaGreatDoorMb9
import Derived.Laws.CopyOwn
import Derived.Laws.MakeOwn
import Derived.RangeFuncBox
import Derived.Maps.OwnIn
import Derived.Maps.OwnSet
import Derived.Maps.RangeWalk
import Derived.Laws.BitsLemmas

/- The law of copy between slices of readings; contracts of Region's closure and of Region's error. %still -/
namespace Go.Proofs.YtadcmjnebjgijaaGreatDoor
open Go.RowKit
open Calm (bcell Blk)

theorem flat3_get : ∀ (zs : List (Int × Int × Int)) (j : Nat) (v : Value), (flat3 zs)[j]? = some v →
    ∃ k, k < zs.length ∧ (j = k * 3 ∧ v = (.int .i64 ((zs.getD k (0, 0, 0)).1)) ∨ j = k * 3 + 1 ∧ v = (.int .i64 ((zs.getD k (0, 0, 0)).2.1)) ∨ j = k * 3 + 2 ∧ v = (.int .i64 ((zs.getD k (0, 0, 0)).2.2)))
  | [], j, v, h => by simp [flat3] at h
  | z :: zs, 0, v, h => ⟨0, by simp, .inl ⟨rfl, by simpa [flat3] using h.symm⟩⟩
  | z :: zs, 1, v, h => ⟨0, by simp, .inr (.inl ⟨rfl, by simpa [flat3] using h.symm⟩)⟩
  | z :: zs, 2, v, h => ⟨0, by simp, .inr (.inr ⟨rfl, by simpa [flat3] using h.symm⟩)⟩
  | z :: zs, j + 3, v, h => by
    obtain ⟨k, hk, hv⟩ := flat3_get zs j v (by simpa [flat3] using h)
    refine ⟨k + 1, by simpa using hk, ?_⟩
    simp only [List.getD_cons_succ]
    rcases hv with ⟨h1, h2⟩ | ⟨h1, h2⟩ | ⟨h1, h2⟩
    · exact .inl ⟨by omega, h2⟩
    · exact .inr (.inl ⟨by omega, h2⟩)
    · exact .inr (.inr ⟨by omega, h2⟩)
theorem flat3_at : ∀ (zs : List (Int × Int × Int)) (k : Nat), k < zs.length →
    (flat3 zs)[k * 3]? = some (.int .i64 ((zs.getD k (0, 0, 0)).1)) ∧ (flat3 zs)[k * 3 + 1]? = some (.int .i64 ((zs.getD k (0, 0, 0)).2.1)) ∧ (flat3 zs)[k * 3 + 2]? = some (.int .i64 ((zs.getD k (0, 0, 0)).2.2))
  | [], k, h => by simp at h
  | z :: zs, 0, h => by simp [flat3]
  | z :: zs, k + 1, h => by
    have := flat3_at zs k (by simpa using h)
    rw [show (k + 1) * 3 = k * 3 + 3 by omega, show k * 3 + 3 + 1 = (k * 3 + 1) + 3 by omega, show k * 3 + 3 + 2 = (k * 3 + 2) + 3 by omega]
    simpa [flat3] using this
theorem flat3_len (zs : List (Int × Int × Int)) : (flat3 zs).length = zs.length * 3 := by
  induction zs with
  | nil => rfl
  | cons z zs ih => simp [flat3] at ih ⊢; omega
theorem flat3_one (zs : List (Int × Int × Int)) : ∀ v ∈ flat3 zs, v.oneCell' = true := by
  intro v hv
  simp only [flat3, List.mem_flatMap, List.mem_cons, List.not_mem_nil, or_false] at hv
  obtain ⟨x, _, rfl | rfl | rfl⟩ := hv <;> rfl
theorem RCells.src {w : World} {b off : Nat} {zs : List (Int × Int × Int)} (hC : ∀ k, k < zs.length → w.cell? ⟨b, off + k * 3, none⟩ = some (.int .i64 ((zs.getD k (0, 0, 0)).1)) ∧ w.cell? ⟨b, off + k * 3 + 1, none⟩ = some (.int .i64 ((zs.getD k (0, 0, 0)).2.1)) ∧ w.cell? ⟨b, off + k * 3 + 2, none⟩ = some (.int .i64 ((zs.getD k (0, 0, 0)).2.2)))
    (j : Nat) (v : Value) (h : (flat3 zs)[j]? = some v) : w.cell? ((⟨b, off, none⟩ : Addr).add j) = some v := by
  obtain ⟨k, hk, hv⟩ := flat3_get zs j v h
  have hadd : (⟨b, off, none⟩ : Addr).add j = ⟨b, off + j, none⟩ := by unfold Addr.add; split <;> simp_all
  rw [hadd]
  obtain ⟨h1, h2, h3⟩ := hC k hk
  rcases hv with ⟨rfl, rfl⟩ | ⟨rfl, rfl⟩ | ⟨rfl, rfl⟩
  · exact h1
  · exact h2
  · exact h3

theorem run_copy3 {P : Program} (w : World) (dT sT ty elem : TypeId) (g : Nat) (A : Option Addr) (zs : List (Int × Int × Int)) (n cap c : Nat) (cur : Array Value) (t : TypeId)
    (hu : P.underlying dT = some (.slice elem)) (hs : (P.info? elem).map (·.size) = some 3) (hn : zs.length = n)
    (hg : w.heap[g]? = some (.cells cur t (0, 0))) (hcur : cur.size = n * 3) (hC : RCells w A zs) :
    (Builtin.copy_ #[dT, sT] ty #[.slice (some ⟨g, 0, none⟩) n cap, .slice A n c]).run P w = .ok (goInt n) (w.setRow g (flat3 zs).toArray) := by
  cases hq : P.info? elem with
  | none => simp [hq] at hs
  | some i =>
    have hi : i.size = 3 := by simpa [hq] using hs
    by_cases h0 : n = 0
    · subst h0
      obtain rfl : zs = [] := List.eq_nil_of_length_eq_zero hn
      obtain rfl : cur = #[] := Array.eq_empty_of_size_eq_zero (by omega)
      have hl : ∀ (x : Addr), (loadCells x 0).run P w = .ok #[] w := fun x => by simpa using run_loadCells_list (P := P) w x [] (by simp)
      have hsr : w.setRow g #[] = w := setRow_self w g _ t _ hg
      cases A <;> simp [Builtin.copy_, run_underlying hu, Builtin.lenOf, Builtin.firstCells, sizeOf, typeInfo, hq, hi, storeCells, hl, flat3, hsr]
    · obtain ⟨b, off, rfl, hl, hc⟩ := hC (by omega)
      have hld := run_loadCells_list (P := P) w ⟨b, off, none⟩ (flat3 zs) (RCells.src hc)
      rw [flat3_len, hn] at hld
      have hst := run_storeCells_at P g 0 t (flat3 zs) 0 cur w hg (by rw [flat3_len]; omega) (flat3_one zs)
      have e : (cur.toList.take (0 + 0) ++ flat3 zs ++ cur.toList.drop (0 + 0 + (flat3 zs).length)).toArray = (flat3 zs).toArray := by
        rw [List.drop_eq_nil_of_le (by rw [flat3_len]; simp; omega)]; simp
      rw [e] at hst
      simp [Builtin.copy_, run_underlying hu, Builtin.lenOf, Builtin.firstCells, sizeOf, typeInfo, hq, hi, hld, hst]
theorem RCells.row {w : World} {g : Nat} {zs : List (Int × Int × Int)} {t : TypeId} (h : w.heap[g]? = some (.cells (flat3 zs).toArray t (0, 0))) : RCells w (some ⟨g, 0, none⟩) zs := by
  intro h0
  refine ⟨g, 0, rfl, (Array.getElem?_eq_some_iff.1 h).1, fun k hk => ?_⟩
  obtain ⟨h1, h2, h3⟩ := flat3_at zs k hk
  have e : ∀ i, w.cell? ⟨g, i, none⟩ = (flat3 zs)[i]? := fun i => by simp [World.cell?, h]
  rw [e, e, e]
  simpa using ⟨h1, h2, h3⟩
theorem wpListIn_copy3 {F : Fence} {nF : Nat} {P : Program} {w : World} {ops : Array Oper} {rest : List Oper} {o : Oper} {a : Act} {Q : Exit → Act → World → Prop} (hgd : o.guard = none) (d s : Operand) (dT sT : TypeId)
    (ho : o.op = .call { callee := .builtin .copy, args := #[d, s], argTypes := #[dT, sT] }) (elem : TypeId) (hu : P.underlying dT = some (.slice elem)) (hsz : (P.info? elem).map (·.size) = some 3)
    (g n cap c : Nat) (A : Option Addr) (zs : List (Int × Int × Int)) (hn : zs.length = n) (hd : a.eval d = .slice (some ⟨g, 0, none⟩) n cap) (hs : a.eval s = .slice A n c)
    (cur : Array Value) (t : TypeId) (hg : w.heap[g]? = some (.cells cur t (0, 0))) (hcur : cur.size = n * 3) (hC : RCells w A zs)
    (h : ∀ w', w'.heap.size = w.heap.size → Below g w w' → (∀ k, k ≠ g → w'.heap[k]? = w.heap[k]?) → RCells w' (some ⟨g, 0, none⟩) zs → wpListIn F nF P ops Q rest (a.put o.dst (goInt n)) w') : wpListIn F nF P ops Q (o :: rest) a w := by
  refine wpListIn_plain hgd fun K hK => ?_
  have hrun := run_copy3 (P := P) w dT sT o.type elem g A zs n cap c cur t hu hsz hn hg hcur hC
  unfold Oper.wpIn
  refine ⟨by simp [Oper.about, ho, resolve, Target.leads, Sem.run_pure], ?_⟩
  rw [Oper.semAt_plain F _ _ (by rw [ho]; intro c hc; cases hc)]
  simp [execOp, ho, resolve, invoke, builtin, hd, hs, hrun, Result.andThen]
  exact hK _ _ (h _ (by simp [World.setRow]) (below_setRow (Below.refl _ _) (Nat.le_refl _) _) (fun k hk => setRow_other w g k _ hk) (RCells.row (setRow_heap w g _ _ t _ hg)))

set_option maxRecDepth 100000 in
set_option maxHeartbeats 4000000 in
theorem region1_any (re le bl ma st lo : Int) (B : Nat) (A : Option Addr) (zs : List (Int × Int × Int)) (c : Nat) (w : World) (hd : drvErr re le bl ma st lo = 0) (hB : w.cell? ⟨B, 0, none⟩ = some (.slice A zs.length c)) (hBl : B < w.heap.size) (hC : RCells w A zs) (hn : zs.length ≤ 1000)
    (hz : ∀ k, k < zs.length → readErr (zs.getD k (0, 0, 0)).1 (zs.getD k (0, 0, 0)).2.1 (zs.getD k (0, 0, 0)).2.2 = 0) :
    Calls Tryz.prog 64 #[.agg #[(.int .i64 (re)), (.int .i64 (le)), (.int .i64 (bl)), (.int .i64 (ma)), (.int .i64 (st)), (.int .i64 (lo))], .pointer (some ⟨B, 0, none⟩)] w fun r w' => r = .returned (.bool (explB re le bl ma st lo zs)) ∧ Below w.heap.size w w' := by
  have HA := Lib.hid hz
  have HC := Lib.hid hC
  have HD := Lib.hid hd
  have hBn : ¬ B = w.heap.size := by omega
  have hBn2 : ¬ w.heap.size = B := by omega
  obtain ⟨E, hE⟩ : ∃ E, E = explB re le bl ma st lo zs := ⟨_, rfl⟩
  have HE := Lib.hid hE
  rw [← hE]
  clear hz hC hd hE
  go_enter Tryz.func64, Tryz.ntmps64
  go_wp2_with (go_at_call 65; refine (explains_any re le bl ma st lo A zs c _ HD.out (HC.out.below (by (repeat (first | (with_reducible exact Below.refl _ _) | ((with_reducible refine Below.setCell ?_ ?_ _); rotate_left 1; focus (first | (simp; done) | (simp; omega) | (simp at *; omega))) | ((with_reducible refine Below.alloc ?_ ?_ _); rotate_left 1; focus (first | (simp; done) | (simp; omega) | (simp at *; omega))) | (with_reducible refine Below.drew ?_) | ((with_reducible refine Calm.step (by assumption) ?_ ?_); rotate_left 1; focus (first | (simp; done) | (simp; omega) | (simp at *; omega))))))) hn HA.out).mono ?_; rw [← HE.out]; rintro r w1 ⟨rfl, hb⟩)
  go_ret
  refine ⟨by first | rfl | (simp; done), ?_⟩
  repeat (first | (with_reducible exact Below.refl _ _) | ((with_reducible refine Below.setCell ?_ ?_ _); rotate_left 1; focus (first | (simp; done) | (simp; omega) | (simp at *; omega))) | ((with_reducible refine Below.alloc ?_ ?_ _); rotate_left 1; focus (first | (simp; done) | (simp; omega) | (simp at *; omega))) | (with_reducible refine Below.drew ?_) | ((with_reducible refine Calm.step (by assumption) ?_ ?_); rotate_left 1; focus (first | (simp; done) | (simp; omega) | (simp at *; omega))))
theorem checkClass_any (re le bl ma st lo m k r : Int) (w : World) (hL : Lim w) :
    Calls Tryz.prog 62 #[.agg #[(.int .i64 (re)), (.int .i64 (le)), (.int .i64 (bl)), (.int .i64 (ma)), (.int .i64 (st)), (.int .i64 (lo)), (.int .i64 (m)), (.int .i64 (k)), (.int .i64 (r))]] w fun x w' => x = .returned (.int .i64 (classErr re le bl ma st lo m k r)) ∧ Below w.heap.size w w' := by
  unfold classErr
  by_cases h : classPre re le bl ma st lo m k r = 0
  · rw [if_pos h]; exact checkClass_ok re le bl ma st lo m k r w hL h
  · rw [if_neg h]; exact checkClass_bad re le bl ma st lo m k r w hL h
end Go.Proofs.YtadcmjnebjgijaaGreatDoor

/- Contract of Region. -/
namespace Go.Proofs.YtadcmjnebjgijaaGreatDoor
open Go.RowKit
open Calm (bcell Blk)

theorem Tryz.infoD : (Tryz.prog.info? 28).map (fun i => (i.zero, i.size, i.bytes)) = some (some (.agg #[.int .i64 0, .int .i64 0, .int .i64 0, .int .i64 0, .int .i64 0, .int .i64 0]), 6, 48) := by kernel_rfl
theorem Tryz.sizeR : (Tryz.prog.info? 76).map (·.size) = some 3 := by kernel_rfl

def regErr (re le bl ma st lo m k r : Int) (zs : List (Int × Int × Int)) : Int := firstOf [classErr re le bl ma st lo m k r, readsErr zs]
set_option maxRecDepth 100000 in
set_option maxHeartbeats 4000000 in
theorem Region_bad (re le bl ma st lo m k r : Int) (A : Option Addr) (zs : List (Int × Int × Int)) (c : Nat) (w : World) (hL : Lim w) (hC : RCells w A zs) (hn : zs.length ≤ 1000) (h : regErr re le bl ma st lo m k r zs ≠ 0) :
    Calls Tryz.prog 27 #[.agg #[(.int .i64 (re)), (.int .i64 (le)), (.int .i64 (bl)), (.int .i64 (ma)), (.int .i64 (st)), (.int .i64 (lo)), (.int .i64 (m)), (.int .i64 (k)), (.int .i64 (r))], .slice A zs.length c] w fun x w' => x = .returned (.tuple #[.slice none 0 0, (.int .i64 (regErr re le bl ma st lo m k r zs))]) ∧ Below w.heap.size w w' := by
  have HC := Lib.hid hC
  have h2 : firstOf [classErr re le bl ma st lo m k r, readsErr zs] ≠ 0 := h
  obtain ⟨E, hE⟩ : ∃ E, E = classErr re le bl ma st lo m k r := ⟨_, rfl⟩
  obtain ⟨E2, hE2⟩ : ∃ E2, E2 = readsErr zs := ⟨_, rfl⟩
  have hr : regErr re le bl ma st lo m k r zs = firstOf [E, E2] := by rw [hE, hE2]; rfl
  rw [hr]
  rw [← hE, ← hE2] at h2
  have HE := Lib.hid hE
  have HE2 := Lib.hid hE2
  clear hE hE2 hr h hC
  go_enter Tryz.func27, Tryz.ntmps27
  go_wp2_with (first
    | (go_at_call 62; refine (checkClass_any re le bl ma st lo m k r _ (hL.below (by repeat (first | (with_reducible exact Below.refl _ _) | ((with_reducible refine Below.setCell ?_ ?_ _); rotate_left 1; focus (first | (simp; done) | (simp; omega) | (simp at *; omega))) | ((with_reducible refine Below.alloc ?_ ?_ _); rotate_left 1; focus (first | (simp; done) | (simp; omega) | (simp at *; omega))) | (with_reducible refine Below.drew ?_) | ((with_reducible refine Calm.step (by assumption) ?_ ?_); rotate_left 1; focus (first | (simp; done) | (simp; omega) | (simp at *; omega))))))).mono ?_; rw [← HE.out]; rintro r w1 ⟨rfl, hb1⟩; obtain ⟨hc1, hf1⟩ := bcell hb1; have hz1 := hb1.size; (try simp at hz1); have hz10 : w.heap.size < w1.heap.size := by omega)
    | (go_at_call 63; refine (checkReadings_any A zs c _ (HC.out.below (by (repeat (first | (with_reducible exact Below.refl _ _) | ((with_reducible refine Below.setCell ?_ ?_ _); rotate_left 1; focus (first | (simp; done) | (simp; omega) | (simp at *; omega))) | ((with_reducible refine Below.alloc ?_ ?_ _); rotate_left 1; focus (first | (simp; done) | (simp; omega) | (simp at *; omega))) | (with_reducible refine Below.drew ?_) | ((with_reducible refine Calm.step (by assumption) ?_ ?_); rotate_left 1; focus (first | (simp; done) | (simp; omega) | (simp at *; omega))))))) hn).mono ?_; rw [← HE2.out]; rintro r w2 ⟨rfl, hb2⟩; obtain ⟨hc2, hf2⟩ := bcell hb2; have hz2 := hb2.size; (try simp at hz2); have hz20 : w.heap.size < w2.heap.size := by omega)
    | (go_at_call 53; refine (first2_any _ _ _).mono ?_; rintro r w3 ⟨rfl, rfl⟩))
  go_ret2
  refine ⟨by first | rfl | (simp; done), ?_⟩
  repeat (first | (with_reducible exact Below.refl _ _) | ((with_reducible refine Below.setCell ?_ ?_ _); rotate_left 1; focus (first | (simp; done) | (simp; omega) | (simp at *; omega))) | ((with_reducible refine Below.alloc ?_ ?_ _); rotate_left 1; focus (first | (simp; done) | (simp; omega) | (simp at *; omega))) | (with_reducible refine Below.drew ?_) | ((with_reducible refine Calm.step (by assumption) ?_ ?_); rotate_left 1; focus (first | (simp; done) | (simp; omega) | (simp at *; omega))))

/-- the drivers of a class that explain readings. -/
def regD (re le bl ma st lo m k r : Int) (zs : List (Int × Int × Int)) : List (Int × Int × Int) := (drvs ma st lo m k r).filter fun x => explB re le bl x.1 x.2.1 x.2.2 zs
def flat6 (re le bl : Int) (zs : List (Int × Int × Int)) : List Value := zs.flatMap fun x => [(.int .i64 (re)), (.int .i64 (le)), (.int .i64 (bl)), (.int .i64 (x.1)), (.int .i64 (x.2.1)), (.int .i64 (x.2.2))]

theorem drvErr_move {re le bl ma st lo a b c : Int} (h : drvErr re le bl ma st lo = 0) (h1 : 1 ≤ a ∧ a ≤ 100) (h2 : 1 ≤ b ∧ b ≤ 5000) (h3 : 1 ≤ c ∧ c ≤ 100) : drvErr re le bl a b c = 0 := by
  obtain ⟨r1, r2, r3, _⟩ := drvErr_zero h
  unfold drvErr drvErrs
  rw [firstOf_eq_zero]
  simp only [List.mem_cons, List.not_mem_nil, or_false, forall_eq_or_imp, forall_eq]
  exact ⟨rangeErr_zero.2 r1, rangeErr_zero.2 r2, rangeErr_zero.2 r3, rangeErr_zero.2 h1, rangeErr_zero.2 h2, rangeErr_zero.2 h3⟩
theorem classErr_zero {re le bl ma st lo m k r : Int} (h : classErr re le bl ma st lo m k r = 0) : classPre re le bl ma st lo m k r = 0 ∧ classN ma st lo m k r ≤ 4096 := by
  unfold classErr at h
  split at h
  · rename_i h0
    refine ⟨h0, ?_⟩
    split at h
    · simp at h
    · omega
  · rename_i h0; exact absurd h h0
theorem drvs_bound {re le bl ma st lo m k r : Int} (h : classErr re le bl ma st lo m k r = 0) : (drvs ma st lo m k r).length ≤ 4096 := by
  obtain ⟨h1, h2⟩ := classErr_zero h
  obtain ⟨_, ⟨a1, a2⟩, ⟨a3, a4⟩, ⟨a5, a6⟩⟩ := class_zero h1
  have e : ((drvs ma st lo m k r).length : Int) = classN ma st lo m k r := by
    rw [drvs_len, classN, Int.natCast_mul, Int.natCast_mul, Int.toNat_of_nonneg (by omega), Int.toNat_of_nonneg (by omega), Int.toNat_of_nonneg (by omega), Int.mul_assoc, show m + 1 - ma = m - ma + 1 by omega, show k + 1 - st = k - st + 1 by omega, show r + 1 - lo = r - lo + 1 by omega]
  omega
theorem RCells.of_block {w w' : World} {g n : Nat} {zs : List (Int × Int × Int)} (h : RCells w (some ⟨g, n, none⟩) zs) (e : w'.heap[g]? = w.heap[g]?) : RCells w' (some ⟨g, n, none⟩) zs := by
  intro h0
  obtain ⟨b, off, hA, hl, hc⟩ := h h0
  cases hA
  refine ⟨g, n, rfl, ?_, fun k hk => ?_⟩
  · have h1 := Array.getElem?_eq_getElem hl
    rw [h1] at e
    exact (Array.getElem?_eq_some_iff.1 e).1
  · obtain ⟨h1, h2, h3⟩ := hc k hk
    exact ⟨(World.cell?_of_block (w := w) (a := ⟨g, n + k * 3, none⟩) e).trans h1, (World.cell?_of_block (w := w) (a := ⟨g, n + k * 3 + 1, none⟩) e).trans h2, (World.cell?_of_block (w := w) (a := ⟨g, n + k * 3 + 2, none⟩) e).trans h3⟩
theorem flat6_append (re le bl : Int) (a b : List (Int × Int × Int)) : flat6 re le bl (a ++ b) = flat6 re le bl a ++ flat6 re le bl b := by simp [flat6]
theorem ownsRow_base {w : World} {base base' e size n : Nat} {v : Value} {xs : List Value} (h : w.ownsRow base e size v n xs) (hb : base' ≤ base) : w.ownsRow base' e size v n xs := by
  refine ⟨h.1, ?_⟩
  rcases h.2 with h | ⟨g, cap, cur, h1, h2, h3⟩
  · exact .inl h
  · exact .inr ⟨g, cap, cur, h1, Nat.le_trans hb h2, h3⟩
theorem own_slice {w : World} {base e size n : Nat} {v : Value} {xs : List Value} (h : w.ownsRow base e size v n xs) : ∃ a c, v = .slice a n c := by
  rcases h.2 with ⟨rfl, h0⟩ | ⟨g, cap, cur, rfl, _⟩
  · exact ⟨none, 0, by rw [h0]⟩
  · exact ⟨_, _, rfl⟩
theorem heap_new {w : World} {o : Obj} {k : Nat} (h : k = w.heap.size) : (w.alloc o).heap[k]? = some o := h ▸ World.alloc_heap_new w o
theorem heap_old {w : World} {o : Obj} {k : Nat} {v : Option Obj} (hl : k < w.heap.size) (h : w.heap[k]? = v) : (w.alloc o).heap[k]? = v := (Below.heap_alloc _ _ _ hl).trans h
theorem kb_own {β : Type} (w5 : World) (O : Nat) : OwnFrom w5.heap.size (fun (_ : β) W => ∀ k, k < w5.heap.size → k ≠ O → W.heap[k]? = w5.heap[k]?) := fun s X Y row hs hg hrow k hk hne => by
  have hX := hs k hk hne
  have hlt : k < X.heap.size := by
    rw [Array.getElem?_eq_getElem hk] at hX
    exact (Array.getElem?_eq_some_iff.1 hX).1
  exact (hg.block k hlt (fun e => by have := (hrow k e.symm).1; omega)).trans hX
theorem heapRow_own {β : Type} (B : Nat) (cs : Array Value) (t : TypeId) : Own (fun (_ : β) W => W.heap[B]? = some (.cells cs t (0, 0))) := fun s X Y row hs hg hrow =>
  (hg.block B (Array.getElem?_eq_some_iff.1 hs).1 (fun e' => by obtain ⟨o, ho, hc⟩ := hrow B e'.symm; rw [hs] at ho; cases ho; cases hc)).trans hs

set_option maxRecDepth 100000 in
set_option maxHeartbeats 8000000 in
theorem Region_ok (re le bl ma st lo m k r : Int) (A : Option Addr) (zs : List (Int × Int × Int)) (c : Nat) (w : World) (hL : Lim w) (hC : RCells w A zs) (hn : zs.length ≤ 1000) (h : regErr re le bl ma st lo m k r zs = 0) :
    Calls Tryz.prog 27 #[.agg #[(.int .i64 (re)), (.int .i64 (le)), (.int .i64 (bl)), (.int .i64 (ma)), (.int .i64 (st)), (.int .i64 (lo)), (.int .i64 (m)), (.int .i64 (k)), (.int .i64 (r))], .slice A zs.length c] w fun x w' =>
      (if 256 < (regD re le bl ma st lo m k r zs).length then x = .returned (.tuple #[.slice none 0 0, (.int .i64 (5))]) else
        ∃ v, x = .returned (.tuple #[v, (.int .i64 (0))]) ∧ w'.ownsRow w.heap.size 28 6 v (regD re le bl ma st lo m k r zs).length (flat6 re le bl (regD re le bl ma st lo m k r zs))) ∧ Below w.heap.size w w' := by
  obtain ⟨i0, hi, iz0, iz1, iz2⟩ := info_parts Tryz.infoD
  obtain ⟨i1, hi1, jz0, jz1, jz2⟩ := info_parts Tryz.infoR
  have hfn : ∀ f, Fence.wide.fn f = True := fun _ => rfl
  have h2 : firstOf [classErr re le bl ma st lo m k r, readsErr zs] = 0 := h
  have h3 := firstOf_eq_zero.1 h2
  have h4 : classErr re le bl ma st lo m k r = 0 := h3 _ (by simp)
  have h5 : readsErr zs = 0 := h3 _ (by simp)
  have HC := Lib.hid hC
  have H4 := Lib.hid h4
  have H5 := Lib.hid h5
  obtain ⟨N, hN⟩ : ∃ N, N = zs.length := ⟨_, rfl⟩
  have HN := Lib.hid hN
  obtain ⟨G, hG⟩ : ∃ G, G = regD re le bl ma st lo m k r zs := ⟨_, rfl⟩
  have HG := Lib.hid hG
  have hCR : ∀ W, RCells W A zs → Calls Tryz.prog 63 #[.slice A N c] W fun r w' => r = .returned (.int .i64 (0)) ∧ Below W.heap.size W w' := by
    intro W k1
    have := checkReadings_any A zs c W k1 hn
    rwa [h5, ← hN] at this
  have HCR := Lib.hid hCR
  rw [← hN] at hn ⊢
  rw [← hG]
  obtain ⟨LN, hLN⟩ : ∃ LN, LN = G.length := ⟨_, rfl⟩
  have HLN := Lib.hid hLN
  rw [← hLN]
  clear hCR hLN
  obtain ⟨M0, hM0, hmk⟩ : ∃ M0 : Array Value, M0.size = N * 3 ∧ ∀ W : World, Sem.run Tryz.prog (Instr.makeSlice 64 (.int .i64 (N)) (.int .i64 (N))) W = .ok (.slice (some ⟨W.heap.size, 0, none⟩) N N) (W.alloc (.cells M0 76)) :=
    ⟨_, size_madeCells _ _, fun W => by
      have := run_make (P := Tryz.prog) W 64 76 i1 _ Tryz.underlying64 hi1 jz0 .i64 .i64 N N (by omega) (Int.le_refl _) (by rw [jz2]; omega) (by omega)
      simpa [jz1] using this⟩
  have HM0 := Lib.hid hM0
  clear hM0
  have e1 : firstOf [0, 0] = 0 := by simp [firstOf_eq_zero]
  clear hC h h2 h3 h4 h5 hN hG
  refine (callsIn_wide (n := 10)).1 ?_
  refine callsIn_of_wp_marks Tryz.func27 rfl trivial ?_ rfl
  simp only [Tryz.ntmps27, List.size_toArray, List.length_cons, List.length_nil, Nat.reduceAdd, Nat.reduceSub, Array.replicate_succ, Array.replicate_zero, List.push_toArray, List.append_toArray, List.nil_append, List.cons_append]
  gi_wp2_with (first
    | (gi_at_call 62; refine (callsIn_wide.2 (checkClass_any re le bl ma st lo m k r _ (hL.below (by repeat (first | (with_reducible exact Below.refl _ _) | ((with_reducible refine Below.setCell ?_ ?_ _); rotate_left 1; focus (first | (simp; done) | (simp; omega) | (simp at *; omega))) | ((with_reducible refine Below.alloc ?_ ?_ _); rotate_left 1; focus (first | (simp; done) | (simp; omega) | (simp at *; omega))) | (with_reducible refine Below.drew ?_) | ((with_reducible refine Calm.step (by assumption) ?_ ?_); rotate_left 1; focus (first | (simp; done) | (simp; omega) | (simp at *; omega)))))))).mono ?_; rw [H4.out]; rintro r w1 ⟨rfl, hb1⟩; obtain ⟨hc1, hf1⟩ := bcell hb1; have hz1 := hb1.size; (try simp at hz1); have hz10 : w.heap.size < w1.heap.size := by omega)
    | (gi_at_call 63; refine (callsIn_wide.2 (HCR.out _ (HC.out.below (by (repeat (first | (with_reducible exact Below.refl _ _) | ((with_reducible refine Below.setCell ?_ ?_ _); rotate_left 1; focus (first | (simp; done) | (simp; omega) | (simp at *; omega))) | ((with_reducible refine Below.alloc ?_ ?_ _); rotate_left 1; focus (first | (simp; done) | (simp; omega) | (simp at *; omega))) | (with_reducible refine Below.drew ?_) | ((with_reducible refine Calm.step (by assumption) ?_ ?_); rotate_left 1; focus (first | (simp; done) | (simp; omega) | (simp at *; omega))))))))).mono ?_; rintro r w2 ⟨rfl, hb2⟩; obtain ⟨hc2, hf2⟩ := bcell hb2; have hz2 := hb2.size; (try simp at hz2); have hz20 : w.heap.size < w2.heap.size := by omega)
    | (gi_at_call 53; refine (callsIn_wide.2 (first2_any _ _ _)).mono ?_; rintro r w3 ⟨rfl, rfl⟩)
    | (with_reducible show wpListIn _ _ _ _ _ (⟨_, Op.call ⟨Callee.builtin Builtin.copy, _, _⟩, _, _, _, _⟩ :: _) _ _; refine wpListIn_copy3 rfl _ _ _ _ rfl 76 Tryz.underlying64 Tryz.sizeR _ N N c A zs HN.out.symm rfl rfl M0 76 ?_ HM0.out ?_ ?_))
  · exact heap_old (by simp) (heap_new (by simp))
  · exact HC.out.below (by (repeat (first | (with_reducible exact Below.refl _ _) | ((with_reducible refine Below.setCell ?_ ?_ _); rotate_left 1; focus (first | (simp; done) | (simp; omega) | (simp at *; omega))) | ((with_reducible refine Below.alloc ?_ ?_ _); rotate_left 1; focus (first | (simp; done) | (simp; omega) | (simp at *; omega))) | (with_reducible refine Below.drew ?_) | ((with_reducible refine Calm.step (by assumption) ?_ ?_); rotate_left 1; focus (first | (simp; done) | (simp; omega) | (simp at *; omega))))))
  intro w4 hs4 hb4 hk4 RC4
  have Kx : Blk (((w2.alloc (.cells #[.int .i64 0, .int .i64 0] 25)).alloc (.cells M0 76)).alloc (.cells #[.slice (some ⟨w2.heap.size + 1, 0, none⟩) N N] 64)) w.heap.size #[(.int .i64 (re)), (.int .i64 (le)), (.int .i64 (bl)), (.int .i64 (ma)), (.int .i64 (st)), (.int .i64 (lo)), (.int .i64 (m)), (.int .i64 (k)), (.int .i64 (r))] := by (repeat (first | ((with_reducible refine Blk.at_ ?_); focus (first | rfl | (simp; done) | (simp; omega))) | (with_reducible refine Blk.alloc ?_ _) | (with_reducible refine Blk.below ?_ (by with_reducible assumption)) | (with_reducible refine Blk.drew ?_)))
  have K4 := Calm.Blk.of_block Kx (hk4 _ (by omega))
  have ob : w4.heap[w2.heap.size + 1 + 1]? = some (.cells #[.slice (some ⟨w2.heap.size + 1, 0, none⟩) N N] 64 (0, 0)) := (hk4 _ (by omega)).trans (heap_new (by simp))
  have oc := cell_of_row w4 _ 0 _ _ _ ob
  have of : w4.frozen? ⟨w2.heap.size + 1 + 1, 0, none⟩ = false := by unfold World.frozen?; rw [ob]; simp
  have HB4 := Lib.hid (show Below w.heap.size w w4 by
    refine Below.trans ?_ (Below.mono hb4 (by omega))
    (repeat (first | (with_reducible exact Below.refl _ _) | ((with_reducible refine Below.setCell ?_ ?_ _); rotate_left 1; focus (first | (simp; done) | (simp; omega) | (simp at *; omega))) | ((with_reducible refine Below.alloc ?_ ?_ _); rotate_left 1; focus (first | (simp; done) | (simp; omega) | (simp at *; omega))) | (with_reducible refine Below.drew ?_) | ((with_reducible refine Calm.step (by assumption) ?_ ?_); rotate_left 1; focus (first | (simp; done) | (simp; omega) | (simp at *; omega))))))
  clear hb4 Kx hc1 hf1 hc2 hf2 hb1 hb2 hmk hk4
  obtain ⟨q, hq⟩ : ∃ q, q = w2.heap.size + 1 := ⟨_, rfl⟩
  have hqs : w.heap.size < q := by omega
  have hsz : w4.heap.size = q + 1 + 1 := by omega
  rw [← hq] at ob oc of RC4 ⊢
  have HSZ := Lib.hid hsz
  have hq1 : q < w4.heap.size := by omega
  have hq2 : q + 1 < w4.heap.size := by omega
  have hq3 : w.heap.size < w4.heap.size := by omega
  clear hsz hs4 hq hz1 hz10 hz2 hz20
  have c0 := K4.cell 0 (.int .i64 (re)) rfl
  have c1 := K4.cell 1 (.int .i64 (le)) rfl
  have c2 := K4.cell 2 (.int .i64 (bl)) rfl
  have c3 := K4.cell 3 (.int .i64 (ma)) rfl
  have c4 := K4.cell 4 (.int .i64 (st)) rfl
  have c5 := K4.cell 5 (.int .i64 (lo)) rfl
  have c6 := K4.cell 6 (.int .i64 (m)) rfl
  have c7 := K4.cell 7 (.int .i64 (k)) rfl
  have c8 := K4.cell 8 (.int .i64 (r)) rfl
  have hst : ∀ (W : World) (t : TypeId), Sem.run Tryz.prog (store ⟨W.heap.size, 0, none⟩ (.func (.func 64) #[] #[.pointer (some ⟨q + 1, 0, none⟩)])) (W.alloc (.cells #[.nilFunc] t)) = .ok () (W.alloc (.cells #[.func (.func 64) #[] #[.pointer (some ⟨q + 1, 0, none⟩)]] t)) := by
    intro W t
    rw [run_store _ _ _ _ _ rfl]
    simp
    simp [go_sem]
  gi_wp2_with (gi_at_call 66; refine (callsIn_wide.2 (drivers_any re le bl ma st lo m k r _)).mono ?_; rintro r w5 ⟨rfl, hb5, K5⟩; obtain ⟨hc5, hf5⟩ := bcell hb5)
  have hO5 : Boxed w5 (w4.heap.size + 1) 70 (.slice none 0 0) := (hb5.block _ (by simp)).trans (heap_new (by simp))
  have hF5 : w5.heap[w4.heap.size]? = some (.cells #[.func (.func 64) #[] #[.pointer (some ⟨q + 1, 0, none⟩)]] 124 (0, 0)) := (hb5.block _ (by simp; omega)).trans (heap_old (by simp) (heap_new rfl))
  have hob5 : w5.heap[q + 1]? = some (.cells #[.slice (some ⟨q, 0, none⟩) N N] 64 (0, 0)) := (hb5.block _ (by simp; omega)).trans (heap_old (by simp; omega) (heap_old hq2 ob))
  have hb6 : Below w4.heap.size w4 w5 := (((Below.refl _ w4).alloc (Nat.le_refl _) _).alloc (by simp) _).trans (hb5.mono (by simp; omega))
  have RC5 := RC4.below hb6
  have HB5 := Lib.hid (HB4.out.trans (hb6.mono (by omega)))
  simp only [World.size_alloc] at K5
  have hz5 := K5.lt
  clear hb5 hb6 hc5 hf5 ob RC4 HB4 hst c0 c1 c2 c3 c4 c5 c6 c7 c8 oc of K4
  obtain ⟨hd, ⟨a1, a2⟩, ⟨a3, a4⟩, ⟨a5, a6⟩⟩ := class_zero (classErr_zero H4.out).1
  have HLEN := Lib.hid (drvs_bound H4.out)
  obtain ⟨_, _, _, d1, d2, d3⟩ := drvErr_zero hd
  have HD := Lib.hid hd
  have RC := Lib.hid RC5
  have hF := Lib.hid hF5
  have hob := Lib.hid hob5
  have hIO : OwnFrom w5.heap.size (fun (pre : List (Int × Int × Int)) W => (∃ v, Boxed W (w4.heap.size + 1) 70 v ∧ W.ownsRow (w5.heap.size + 3) 28 6 v (pre.filter fun x => explB re le bl x.1 x.2.1 x.2.2 zs).length (flat6 re le bl (pre.filter fun x => explB re le bl x.1 x.2.1 x.2.2 zs)) ∧ True) ∧ ((∀ k, k < w5.heap.size → k ≠ w4.heap.size + 1 → W.heap[k]? = w5.heap[k]?) ∧ Below w.heap.size w W)) :=
    OwnFrom.and ((holdsRow_own _ _ _ _ _ _ _ _).from _) (OwnFrom.and (kb_own w5 _) (ownFrom_below (Nat.le_refl _) (by omega)))
  have HIO := Lib.hid hIO
  refine range_iter (F := Fence.wide) (n := 10) rfl (by decide) (gf := 84) (lb := #[.pointer (some ⟨w4.heap.size + 1 + 1, 0, none⟩)]) rfl trivial (enters_of Tryz.func84 (by kernel_rfl) rfl)
    (enc := encD re le bl) (all := drvs ma st lo m k r) (Cb := w4.heap.size + 1 + 1) hz5 (drivers1_iter re le bl ma st lo m k r _ w5 _ ⟨d1, d2, d3⟩ ⟨a2, a4, a6⟩ K5) rfl
    _
    hIO ?his ⟨⟨_, hO5, World.ownsRow_nil _ _ _ _, trivial⟩, fun _ _ _ => rfl, HB5.out⟩
    (fun (pre : List (Int × Int × Int)) (x : Int × Int × Int) (a' : Act) (W : World) => ((∃ v, Boxed W (w4.heap.size + 1) 70 v ∧ W.ownsRow (w5.heap.size + 3) 28 6 v (pre.filter fun x => explB re le bl x.1 x.2.1 x.2.2 zs).length (flat6 re le bl (pre.filter fun x => explB re le bl x.1 x.2.1 x.2.2 zs)) ∧ True) ∧ ((∀ k, k < w5.heap.size → k ≠ w4.heap.size + 1 → W.heap[k]? = w5.heap[k]?) ∧ Below w.heap.size w W)) ∧
      ∃ Bx, w5.heap.size + 2 < Bx ∧ W.heap[Bx]? = some (.cells #[(.int .i64 (re)), (.int .i64 (le)), (.int .i64 (bl)), (.int .i64 (x.1)), (.int .i64 (x.2.1)), (.int .i64 (x.2.2))] 28 (0, 0)) ∧ a' = { tmps := #[.agg #[(.int .i64 (re)), (.int .i64 (le)), (.int .i64 (bl)), (.int .i64 (ma)), (.int .i64 (st)), (.int .i64 (lo)), (.int .i64 (m)), (.int .i64 (k)), (.int .i64 (r))], .slice A N c, .pointer (some ⟨w.heap.size, 0, none⟩), undef, .slice none 0 0, (.int .i64 (0)), (.int .i64 (0)), .pointer (some ⟨q + 1, 0, none⟩), .pointer (some ⟨w4.heap.size, 0, none⟩), .pointer (some ⟨w4.heap.size + 1, 0, none⟩), .pointer (some ⟨Bx, 0, none⟩), .agg #[(.int .i64 (re)), (.int .i64 (le)), (.int .i64 (bl)), (.int .i64 (ma)), (.int .i64 (st)), (.int .i64 (lo)), (.int .i64 (m)), (.int .i64 (k)), (.int .i64 (r))], (.int .i64 (0)), .slice A N c, (.int .i64 (0)), .slice (some ⟨w2.heap.size, 0, none⟩) 2 2, (.int .i64 (0)), (.int .i64 (0)), .bool false, undef, .slice A N c, (.int .i64 (N)), .slice (some ⟨q, 0, none⟩) N N, .slice (some ⟨q, 0, none⟩) N N, .slice A N c, (.int .i64 (N)), .func (.func 64) #[] #[.pointer (some ⟨q + 1, 0, none⟩)], .agg #[.func (.func 64) #[] #[.pointer (some ⟨q + 1, 0, none⟩)]], .agg #[(.int .i64 (re)), (.int .i64 (le)), (.int .i64 (bl)), (.int .i64 (ma)), (.int .i64 (st)), (.int .i64 (lo)), (.int .i64 (m)), (.int .i64 (k)), (.int .i64 (r))], .func (.func 84) #[] #[.pointer (some ⟨w4.heap.size + 1 + 1, 0, none⟩)], encD re le bl x, undef, undef, undef, undef, undef, undef, undef, undef, undef, undef, undef, undef], defers := [] })
    ?hax ?assign ?body ?done
  case his =>
    rintro pre W i v ⟨⟨v0, hv, ho, _⟩, hk, hB⟩
    exact ⟨⟨v0, (Below.heap_setCell _ _ _ _ (by simp; omega)).trans hv, ownsRow_setCell_below ho (by simp) v, trivial⟩, fun k h1 h2 => (Below.heap_setCell _ _ _ _ (by simp; omega)).trans (hk k h1 h2), hB.setCell (by simp; omega) v⟩
  case hax =>
    rintro pre x a' s X Y row ⟨hi, Bx, h1, h2, h3⟩ hg hrow
    exact ⟨hIO pre X Y row hi hg hrow, Bx, h1, heapRow_own _ _ _ s X Y row h2 hg (fun r e => (hrow r e).2), h3⟩
  case assign =>
    rintro l pre x W hi ⟨post, hpost⟩ hsz hcb
    have hsem : ∀ (ρ : Operand → Value) (o : Oper), (∀ c, o.op ≠ .defer c) → Oper.semAt (some l) ρ o = execOp ρ o := Oper.semAt_some l
    have HI := Lib.hid hi
    clear hi hIO hpost hcb
    dsimp only [encD]
    gi_wp2
    exact ⟨(Same.refl _ _).alloc _, HIO.out.alloc _ HI.out, W.heap.size, hsz, World.alloc_heap_new W _, rfl⟩
  case body =>
    rintro l pre ⟨x1, x2, x3⟩ a' W ⟨⟨⟨v, hv, ho, _⟩, hk, hB⟩, Bx, hBx, hx, rfl⟩ ⟨post, hpost⟩ hsz hcb
    have hsem : ∀ (ρ : Operand → Value) (o : Oper), (∀ c, o.op ≠ .defer c) → Oper.semAt (some l) ρ o = execOp ρ o := Oper.semAt_some l
    obtain ⟨⟨b1, b2⟩, ⟨b3, b4⟩, ⟨b5, b6⟩⟩ := mem_drvs (show (x1, x2, x3) ∈ drvs ma st lo m k r by rw [hpost]; simp)
    simp only at b1 b2 b3 b4 b5 b6
    have hdx := Lib.hid (drvErr_move HD.out (show 1 ≤ x1 ∧ x1 ≤ 100 by omega) (show 1 ≤ x2 ∧ x2 ≤ 5000 by omega) (show 1 ≤ x3 ∧ x3 ≤ 100 by omega))
    have hlen : pre.length + 1 ≤ 4096 := by have h1 := HLEN.out; rw [hpost] at h1; simp at h1; omega
    have hfl := List.length_filter_le (fun x : Int × Int × Int => explB re le bl x.1 x.2.1 x.2.2 zs) pre
    have hBlt := (Array.getElem?_eq_some_iff.1 hx).1
    have e1 := hk (q + 1) (by omega) (by have := HSZ.out; omega)
    have e2 := hk q (by omega) (by have := HSZ.out; omega)
    have e3 := hk w4.heap.size (by omega) (by omega)
    have oc := cell_of_row W _ 0 _ _ _ (e1.trans hob.out)
    have RCW := Lib.hid (RC.out.of_block e2)
    have fc := cell_of_row W _ 0 _ _ _ (e3.trans hF.out)
    have x0 := cell_of_row W _ 0 _ _ _ hx
    have x1' := cell_of_row W _ 1 _ _ _ hx
    have x2' := cell_of_row W _ 2 _ _ _ hx
    have x3' := cell_of_row W _ 3 _ _ _ hx
    have x4' := cell_of_row W _ 4 _ _ _ hx
    have x5' := cell_of_row W _ 5 _ _ _ hx
    simp at oc fc x0 x1' x2' x3' x4' x5'
    have vc := hv.cell
    have vl := hv.lt
    have HV := Lib.hid hv
    have HK := Lib.hid hk
    have HB := Lib.hid hB
    have HO := Lib.hid ho
    have HX := Lib.hid hx
    have HC1 : ∀ W' : World, Below W.heap.size W W' → True := fun _ _ => trivial
    have hcall : Calls Tryz.prog 64 #[.agg #[(.int .i64 (re)), (.int .i64 (le)), (.int .i64 (bl)), (.int .i64 (x1)), (.int .i64 (x2)), (.int .i64 (x3))], .pointer (some ⟨q + 1, 0, none⟩)] W fun r w' => r = .returned (.bool (explB re le bl x1 x2 x3 zs)) ∧ Below W.heap.size W w' :=
      region1_any re le bl x1 x2 x3 (q + 1) (some ⟨q, 0, none⟩) zs N W hdx.out (by rw [← HN.out]; exact oc) (by omega) RCW.out (by rw [← HN.out]; exact hn) (readErrs_all (show firstOf (readErrs zs) = 0 by
        have := H5.out
        unfold readsErr at this
        split at this
        · simp at this
        · exact this))
    have HCALL := Lib.hid hcall
    clear hcall HC1 hv hk hB ho hx e1 e2 e3 hpost hcb b1 b2 b3 b4 b5 b6
    obtain ⟨E, hE⟩ : ∃ E, E = explB re le bl x1 x2 x3 zs := ⟨_, rfl⟩
    have HE := Lib.hid hE
    cases E
    · clear hE
      gi_wp2_with (gi_at_call 64; refine (CallsIn.inRound l (callsIn_wide.2 HCALL.out)).mono ?_; rw [← HE.out]; rintro r w6 ⟨rfl, hb6⟩)
      have ef : List.filter (fun x : Int × Int × Int => explB re le bl x.1 x.2.1 x.2.2 zs) (pre ++ [(x1, x2, x3)]) = List.filter (fun x : Int × Int × Int => explB re le bl x.1 x.2.1 x.2.2 zs) pre := by
        rw [List.filter_append]; simp [← HE.out]
      refine ⟨(Same.refl _ _).below hb6 (fun k hk => by rcases hk with rfl | rfl | rfl | rfl <;> omega), ⟨v, (hb6.block _ vl).trans HV.out, ?_, trivial⟩, fun k h1 h2 => (hb6.block k (by omega)).trans (HK.out k h1 h2), HB.out.trans (hb6.mono HB.out.size)⟩
      rw [ef]
      exact ownsRow_below HO.out hb6
    · clear hE
      gi_wp2_with (first
        | (gi_at_call 64; refine (CallsIn.inRound l (callsIn_wide.2 HCALL.out)).mono ?_; rw [← HE.out]; rintro r w6 ⟨rfl, hb6⟩; obtain ⟨hc6, hf6⟩ := bcell hb6; have ho6 := ownsRow_below HO.out hb6)
        | (gi_at_builtin; refine wpListIn_append_own _ rfl _ _ 70 rfl (w5.heap.size + 3) 28 i0 _ 6 48 Tryz.underlying70 hi iz0 iz1 iz2 rfl (by decide) _ _ _ rfl (ho6.alloc _) ⟨w6.heap.size, 0, none⟩ 1 1 [(.int .i64 (re)), (.int .i64 (le)), (.int .i64 (bl)), (.int .i64 (x1)), (.int .i64 (x2)), (.int .i64 (x3))] rfl rfl ?c1 ?c2 ?c3 ?c4 ?c5 ?_))
      case c1 =>
        intro j u hj
        match j, hj with
        | 0, hj => simp at hj; subst hj; simp [Addr.add]
        | 1, hj => simp at hj; subst hj; simp [Addr.add]
        | 2, hj => simp at hj; subst hj; simp [Addr.add]
        | 3, hj => simp at hj; subst hj; simp [Addr.add]
        | 4, hj => simp at hj; subst hj; simp [Addr.add]
        | 5, hj => simp at hj; subst hj; simp [Addr.add]
      case c2 => intro u hu; simp at hu; rcases hu with rfl | rfl | rfl | rfl | rfl | rfl <;> rfl
      case c3 => unfold maxLen; omega
      case c4 => omega
      case c5 => have := hb6.size; simp; omega
      intro v' w7 hown' hgrow _
      have hlt6 : w4.heap.size + 1 < w6.heap.size := by have := hb6.size; omega
      have hv6 : Boxed (w6.alloc (.cells #[(.int .i64 (re)), (.int .i64 (le)), (.int .i64 (bl)), (.int .i64 (x1)), (.int .i64 (x2)), (.int .i64 (x3))] 28)) (w4.heap.size + 1) 70 v := heap_old hlt6 ((hb6.block _ vl).trans HV.out)
      have hne : ∀ k, v.ownBlock = some k → w5.heap.size + 3 ≤ k := fun k e => (HO.out.lt k e).1
      have hv7 : Boxed w7 (w4.heap.size + 1) 70 v := hv6.kept hgrow (fun e => by have := hne _ e.symm; omega)
      have vc7 := hv7.cell
      have vf7 := hv7.frozen
      have HOW := Lib.hid hown'
      have HGR := Lib.hid hgrow
      have HNE := Lib.hid hne
      obtain ⟨g', cap', rfl⟩ := ownsRow_succ hown'
      clear hgrow hne hown' hc6 hf6
      gi_wp2
      have ef : List.filter (fun x : Int × Int × Int => explB re le bl x.1 x.2.1 x.2.2 zs) (pre ++ [(x1, x2, x3)]) = List.filter (fun x : Int × Int × Int => explB re le bl x.1 x.2.1 x.2.2 zs) pre ++ [(x1, x2, x3)] := by
        rw [List.filter_append]; simp [← HE.out]
      have hs6 := hb6.size
      refine ⟨?same, ⟨_, hv7.set _, ?own, trivial⟩, ?kb, ?blw⟩
      case same =>
        refine Same.setCell (p := ⟨w4.heap.size + 1, 0, none⟩) (Same.grown (Same.alloc ((Same.refl _ _).below hb6 (fun k hk => by rcases hk with rfl | rfl | rfl | rfl <;> omega)) _) HGR.out (fun k e hk => by have := HNE.out k e; rcases hk with rfl | rfl | rfl | rfl <;> omega)) ?_ _
        rintro (h | h | h | h) <;> simp at h <;> omega
      case own =>
        rw [ef, flat6_append, List.length_append]
        exact ownsRow_setCell_below HOW.out (show w4.heap.size + 1 < w5.heap.size + 3 by omega) _
      case kb =>
        intro k h1 h2
        refine (Below.heap_setCell _ _ _ _ h2).trans ((HGR.out.block k (by simp; omega) (fun e => by have := HNE.out k e.symm; omega)).trans ?_)
        exact heap_old (by omega) ((hb6.block k (by omega)).trans (HK.out k h1 h2))
      case blw =>
        refine Below.setCell (p := ⟨w4.heap.size + 1, 0, none⟩) (((HB.out.trans (hb6.mono HB.out.size)).alloc (by omega) _).grown HGR.out (by simp; omega) (fun k e => by have := HNE.out k e; omega)) ?_ _
        show w.heap.size ≤ w4.heap.size + 1
        omega
  case done =>
    rintro W ⟨⟨v, hv, ho, _⟩, hk, hB⟩ hdef
    have eG : List.filter (fun x : Int × Int × Int => explB re le bl x.1 x.2.1 x.2.2 zs) (drvs ma st lo m k r) = G := HG.out.symm
    rw [eG, ← HLN.out] at ho
    obtain ⟨a, c', rfl⟩ := own_slice ho
    have hGl : LN ≤ 4096 := by rw [HLN.out, ← eG]; exact Nat.le_trans (List.length_filter_le _ _) HLEN.out
    have vc := hv.cell
    have HO := Lib.hid ho
    have HB := Lib.hid hB
    have HDEF := Lib.hid hdef
    have hDl := (Array.getElem?_eq_some_iff.1 hdef).1
    clear hIO ho hv hk hdef eG hB
    by_cases h256 : 256 < LN
    · gi_wp2
      refine ⟨by simp, .inl ⟨_, _, rfl, run_takeDeferred HDEF.out, ?_⟩⟩
      refine ⟨_, results_tmp2 rfl _ _ _, ?_, HB.out.trans (belowK_b (w := w) (Nat.le_refl _) W _ _ _ (by omega) HDEF.out rfl rfl)⟩
      rfl
    · gi_wp2
      refine ⟨by simp, .inl ⟨_, _, rfl, run_takeDeferred HDEF.out, ?_⟩⟩
      refine ⟨_, results_tmp2 rfl _ _ _, ?_, HB.out.trans (belowK_b (w := w) (Nat.le_refl _) W _ _ _ (by omega) HDEF.out rfl rfl)⟩
      exact ⟨_, rfl, ownsRow_base (ownsRow_putObj HO.out _ HDEF.out rfl) (by omega)⟩
end Go.Proofs.YtadcmjnebjgijaaGreatDoor

/- Contract of (Class).explained. -/
namespace Go.Proofs.YtadcmjnebjgijaaGreatDoor
open Go.RowKit
open Calm (bcell Blk)

/-- the readings that are explained, as bits. -/
def maskN (p : Int × Int × Int → Bool) (zs : List (Int × Int × Int)) : Nat → Nat
  | 0 => 0
  | k + 1 => if p (zs.getD k (0, 0, 0)) = true then maskN p zs k ||| 2 ^ k else maskN p zs k
theorem maskN_lt (p : Int × Int × Int → Bool) (zs : List (Int × Int × Int)) : ∀ k, maskN p zs k < 2 ^ k
  | 0 => by simp [maskN]
  | k + 1 => by
    have h := maskN_lt p zs k
    have h2 : 2 ^ k < 2 ^ (k + 1) := Nat.pow_lt_pow_right (by decide) (by omega)
    unfold maskN
    split
    · exact Nat.or_lt_two_pow (Nat.lt_trans h h2) h2
    · exact Nat.lt_trans h h2
theorem wraps_i64 (n : Int) (h₀ : 0 ≤ n) (h₁ : n < 2 ^ 62) : IntKind.i64.wrap n = n := by rw [IntKind.wrap_i64]; omega
theorem or64 (a b : Nat) (ha : a < 2 ^ 62) (hb : b < 2 ^ 62) : bits .or .i64 a b = ((a ||| b : Nat) : Int) := (bits_nat .i64 62 (by decide) wraps_i64 a b ha hb).2
theorem and64 (a b : Nat) (ha : a < 2 ^ 62) (hb : b < 2 ^ 62) : bits .and .i64 a b = ((a &&& b : Nat) : Int) := (bits_nat .i64 62 (by decide) wraps_i64 a b ha hb).1

theorem wrap_two (k : Nat) (h : k < 9) : wrap64 ((2 : Int) ^ k) = ((2 ^ k : Nat) : Int) := by
  have hk : k = 0 ∨ k = 1 ∨ k = 2 ∨ k = 3 ∨ k = 4 ∨ k = 5 ∨ k = 6 ∨ k = 7 ∨ k = 8 := by omega
  rcases hk with rfl | rfl | rfl | rfl | rfl | rfl | rfl | rfl | rfl <;> first | rfl | (simp [wrap64]; done)
theorem two_lt (k : Nat) (h : k < 9) : 2 ^ k < 2 ^ 62 := Nat.pow_lt_pow_right (by decide) (by omega)
theorem Tryz.keyI : Go.Maps.Keyed Tryz.prog 3 := Go.Maps.int_keyed Tryz.underlying3
def fitOf (re le bl : Int) (x : Int × Int × Int) (z : Int × Int × Int) : Bool := fitB re le bl x.1 x.2.1 x.2.2 z.1 z.2.1 z.2.2
def maskOf (re le bl : Int) (zs : List (Int × Int × Int)) (x : Int × Int × Int) : Nat := maskN (fitOf re le bl x) zs zs.length
/-- a map whose keys are the masks of these drivers. -/
def MaskMap (re le bl : Int) (zs xs : List (Int × Int × Int)) (n : Nat) (B : Nat) (W : World) : Prop :=
  ∃ D : DataW Unit, W.ownsMap Tryz.prog 3 (plainElem Tryz.prog 4) B n D ∧ ∀ kl, Maps.has D kl = true ↔ ∃ x ∈ xs, kl = .int .i64 (maskOf re le bl zs x : Nat)
theorem MaskMap.kept {re le bl : Int} {zs xs : List (Int × Int × Int)} {n B : Nat} {W W' : World} {row : Option Nat} (h : MaskMap re le bl zs xs n B W) (hg : W.grownBy W' row) (hne : some B ≠ row) : MaskMap re le bl zs xs n B W' := by
  obtain ⟨D, h1, h2⟩ := h
  exact ⟨D, h1.kept hg hne, h2⟩
theorem MaskMap.lt {re le bl : Int} {zs xs : List (Int × Int × Int)} {n B : Nat} {W : World} (h : MaskMap re le bl zs xs n B W) : B < W.heap.size := by
  obtain ⟨D, h1, h2⟩ := h
  exact h1.lt
theorem grownBy_setCellAny (W : World) (a : Addr) (v : Value) : W.grownBy (W.setCell a v) (some a.block) :=
  ⟨rfl, rfl, rfl, (KeepsWalks.setCell W _ v).size, fun k _ hk => Below.heap_setCell _ _ _ k (fun e => hk (by rw [e]))⟩
theorem grownBy_below {W W' : World} (h : Below W.heap.size W W') (row : Option Nat) : W.grownBy W' row := ⟨h.os, h.tape, h.output, h.size, fun k hk _ => h.block k hk⟩
theorem MaskMap.put {re le bl : Int} {zs xs : List (Int × Int × Int)} {n B : Nat} {W : World} {x : Int × Int × Int} {D : DataW Unit} (h1 : W.ownsMap Tryz.prog 3 (plainElem Tryz.prog 4) B n (D.put (.int .i64 (maskOf re le bl zs x : Nat)) (.lit (.bool true))))
    (hD : Maps.IsMap D) (h2 : ∀ kl, Maps.has D kl = true ↔ ∃ y ∈ xs, kl = .int .i64 (maskOf re le bl zs y : Nat)) : MaskMap re le bl zs (xs ++ [x]) n B W := by
  refine ⟨_, h1, fun kl => ?_⟩
  by_cases hkl : kl = .int .i64 (maskOf re le bl zs x : Nat)
  · subst hkl
    rw [Maps.has_put_same hD (by simp [WideAt.IsKeyLit])]
    exact ⟨fun _ => ⟨x, by simp, rfl⟩, fun _ => rfl⟩
  · rw [Maps.has_put_other hkl, h2]
    constructor
    · rintro ⟨y, hy, rfl⟩
      exact ⟨y, by simp [hy], rfl⟩
    · rintro ⟨y, hy, rfl⟩
      rcases List.mem_append.1 hy with h | h
      · exact ⟨y, h, rfl⟩
      · simp at h; subst h; exact absurd rfl hkl

set_option maxRecDepth 100000 in
set_option maxHeartbeats 8000000 in
theorem explained_any (re le bl ma st lo m k r : Int) (A : Option Addr) (zs : List (Int × Int × Int)) (c : Nat) (w : World) (hC : RCells w A zs) (hn : zs.length ≤ 8) (h : regErr re le bl ma st lo m k r zs = 0) :
    Calls Tryz.prog 67 #[.agg #[(.int .i64 (re)), (.int .i64 (le)), (.int .i64 (bl)), (.int .i64 (ma)), (.int .i64 (st)), (.int .i64 (lo)), (.int .i64 (m)), (.int .i64 (k)), (.int .i64 (r))], .slice A zs.length c] w fun x w' => ∃ B, x = .returned (.map (some B)) ∧ w.heap.size ≤ B ∧ MaskMap re le bl zs (drvs ma st lo m k r) 4096 B w' ∧ Below w.heap.size w w' := by
  have hmm := @run_makeMap Tryz.prog
  have hfn : ∀ f, Fence.wide.fn f = True := fun _ => rfl
  have h3 := firstOf_eq_zero.1 (show firstOf [classErr re le bl ma st lo m k r, readsErr zs] = 0 from h)
  have H4 := Lib.hid (show classErr re le bl ma st lo m k r = 0 from h3 _ (by simp))
  have H5 := Lib.hid (show readsErr zs = 0 from h3 _ (by simp))
  have HC := Lib.hid hC
  obtain ⟨N, hN⟩ : ∃ N, N = zs.length := ⟨_, rfl⟩
  have HN := Lib.hid hN
  rw [← hN] at hn ⊢
  clear hC h h3 hN
  refine (callsIn_wide (n := 10)).1 ?_
  refine callsIn_of_wp_marks Tryz.func67 rfl trivial ?_ rfl
  simp only [Tryz.ntmps67, List.size_toArray, List.length_cons, List.length_nil, Nat.reduceAdd, Nat.reduceSub, Array.replicate_succ, Array.replicate_zero, List.push_toArray, List.append_toArray, List.nil_append, List.cons_append]
  gi_wp2_with (gi_at_call 66; refine (callsIn_wide.2 (drivers_any re le bl ma st lo m k r _)).mono ?_; rintro r w5 ⟨rfl, hb5, K5⟩; obtain ⟨hc5, hf5⟩ := bcell hb5)
  have hL5 : w5.heap[w.heap.size + 1]? = some (.cells #[.slice A N c] 64 (0, 0)) := (hb5.block _ (by simp; try omega)).trans (heap_old (by simp; try omega) (heap_old (by simp; try omega) (heap_new (by simp))))
  have hO5 : w5.heap[w.heap.size + 1 + 1 + 1]? = some (.cells #[.map (some (w.heap.size + 1 + 1))] 128 (0, 0)) := (hb5.block _ (by simp)).trans (heap_new (by simp))
  have hM5 : MaskMap re le bl zs [] 0 (w.heap.size + 1 + 1) w5 := by
    refine MaskMap.kept (row := none) (MaskMap.kept (row := none) ⟨.map [], ?_, ?_⟩ (World.grownBy_alloc _ _ none) (by simp)) (grownBy_below hb5 none) (by simp)
    · have := World.ownsMap_made (H := Unit) ((w.alloc (.cells #[(.int .i64 (re)), (.int .i64 (le)), (.int .i64 (bl)), (.int .i64 (ma)), (.int .i64 (st)), (.int .i64 (lo)), (.int .i64 (m)), (.int .i64 (k)), (.int .i64 (r))] 69)).alloc (.cells #[.slice A N c] 64)) Tryz.prog 3 (plainElem Tryz.prog 4)
      simpa using this
    · intro kl; simp [Maps.has]
  have HB5 := Lib.hid (show Below w.heap.size w w5 from (((((Below.refl w.heap.size w).alloc (Nat.le_refl _) _).alloc (by simp) _).alloc (by simp; try omega) _).alloc (by simp; try omega) _).trans (hb5.mono (by simp; omega)))
  simp only [World.size_alloc] at K5
  have hz5 := K5.lt
  clear hb5 hc5 hf5 hmm
  obtain ⟨hd, ⟨a1, a2⟩, ⟨a3, a4⟩, ⟨a5, a6⟩⟩ := class_zero (classErr_zero H4.out).1
  have HLEN := Lib.hid (drvs_bound H4.out)
  have HZ := Lib.hid (readErrs_all (show firstOf (readErrs zs) = 0 by
        have := H5.out
        unfold readsErr at this
        split at this
        · simp at this
        · exact this))
  obtain ⟨_, _, _, d1, d2, d3⟩ := drvErr_zero hd
  have HD := Lib.hid hd
  have hLb := Lib.hid hL5
  have hOb := Lib.hid hO5
  have hIO : OwnFrom w5.heap.size (fun (pre : List (Int × Int × Int)) W => (MaskMap re le bl zs pre pre.length (w.heap.size + 1 + 1) W ∧ ((∀ k, k < w5.heap.size → k ≠ w.heap.size + 1 + 1 → W.heap[k]? = w5.heap[k]?) ∧ Below w.heap.size w W))) :=
    OwnFrom.and (fun pre X Y row hs hg hrow => hs.kept hg (fun e => by have := (hrow _ e.symm).1; omega)) (OwnFrom.and (kb_own w5 _) (ownFrom_below (Nat.le_refl _) (by omega)))
  have HIO := Lib.hid hIO
  refine range_iter (F := Fence.wide) (n := 10) rfl (by decide) (gf := 84) (lb := #[.pointer (some ⟨w.heap.size + 1 + 1 + 1 + 1, 0, none⟩)]) rfl trivial (enters_of Tryz.func84 (by kernel_rfl) rfl)
    (enc := encD re le bl) (all := drvs ma st lo m k r) (Cb := w.heap.size + 1 + 1 + 1 + 1) hz5 (drivers1_iter re le bl ma st lo m k r _ w5 _ ⟨d1, d2, d3⟩ ⟨a2, a4, a6⟩ K5) rfl
    _
    hIO ?his ⟨hM5, fun _ _ _ => rfl, HB5.out⟩
    (fun (pre : List (Int × Int × Int)) (x : Int × Int × Int) (a' : Act) (W : World) => (MaskMap re le bl zs pre pre.length (w.heap.size + 1 + 1) W ∧ ((∀ k, k < w5.heap.size → k ≠ w.heap.size + 1 + 1 → W.heap[k]? = w5.heap[k]?) ∧ Below w.heap.size w W)) ∧
      ∃ Bx, w5.heap.size + 2 < Bx ∧ W.heap[Bx]? = some (.cells #[(.int .i64 (re)), (.int .i64 (le)), (.int .i64 (bl)), (.int .i64 (x.1)), (.int .i64 (x.2.1)), (.int .i64 (x.2.2))] 28 (0, 0)) ∧ a' = { tmps := #[.agg #[(.int .i64 (re)), (.int .i64 (le)), (.int .i64 (bl)), (.int .i64 (ma)), (.int .i64 (st)), (.int .i64 (lo)), (.int .i64 (m)), (.int .i64 (k)), (.int .i64 (r))], .slice A N c, .pointer (some ⟨w.heap.size, 0, none⟩), .pointer (some ⟨w.heap.size + 1, 0, none⟩), .map none, .pointer (some ⟨w.heap.size + 1 + 1 + 1, 0, none⟩), .pointer (some ⟨Bx, 0, none⟩), undef, undef, undef, .map (some (w.heap.size + 1 + 1)), .agg #[(.int .i64 (re)), (.int .i64 (le)), (.int .i64 (bl)), (.int .i64 (ma)), (.int .i64 (st)), (.int .i64 (lo)), (.int .i64 (m)), (.int .i64 (k)), (.int .i64 (r))], .func (.func 84) #[] #[.pointer (some ⟨w.heap.size + 1 + 1 + 1 + 1, 0, none⟩)], encD re le bl x, undef, undef, undef, undef, undef, undef, undef, undef, undef, undef, undef, undef, undef, undef, undef, undef, undef, undef], defers := [] })
    ?hax ?assign ?body ?done
  case his =>
    rintro pre W i v ⟨hv, hk, hB⟩
    exact ⟨hv.kept (grownBy_setCellAny _ _ _) (by simp; omega), fun k h1 h2 => (Below.heap_setCell _ _ _ _ (by simp; omega)).trans (hk k h1 h2), hB.setCell (by simp; omega) v⟩
  case hax =>
    rintro pre x a' s X Y row ⟨hi, Bx, h1, h2, h3⟩ hg hrow
    exact ⟨hIO pre X Y row hi hg hrow, Bx, h1, heapRow_own _ _ _ s X Y row h2 hg (fun r e => (hrow r e).2), h3⟩
  case assign =>
    rintro l pre x W hi ⟨post, hpost⟩ hsz hcb
    have hsem : ∀ (ρ : Operand → Value) (o : Oper), (∀ c, o.op ≠ .defer c) → Oper.semAt (some l) ρ o = execOp ρ o := Oper.semAt_some l
    have HI := Lib.hid hi
    clear hi hIO hpost hcb
    dsimp only [encD]
    gi_wp2
    exact ⟨(Same.refl _ _).alloc _, HIO.out.alloc _ HI.out, W.heap.size, hsz, World.alloc_heap_new W _, rfl⟩
  case body =>
    rintro l pre ⟨x1, x2, x3⟩ a' W ⟨⟨hv, hk, hB⟩, Bx, hBx, hx, rfl⟩ ⟨post, hpost⟩ hsz hcb
    have hsem : ∀ (ρ : Operand → Value) (o : Oper), (∀ c, o.op ≠ .defer c) → Oper.semAt (some l) ρ o = execOp ρ o := Oper.semAt_some l
    obtain ⟨⟨b1, b2⟩, ⟨b3, b4⟩, ⟨b5, b6⟩⟩ := mem_drvs (show (x1, x2, x3) ∈ drvs ma st lo m k r by rw [hpost]; simp)
    simp only at b1 b2 b3 b4 b5 b6
    have hdx := Lib.hid (drvErr_move HD.out (show 1 ≤ x1 ∧ x1 ≤ 100 by omega) (show 1 ≤ x2 ∧ x2 ≤ 5000 by omega) (show 1 ≤ x3 ∧ x3 ≤ 100 by omega))
    have hlen : pre.length + 1 ≤ 4096 := by have h1 := HLEN.out; rw [hpost] at h1; simp at h1; omega
    have hBlt := (Array.getElem?_eq_some_iff.1 hx).1
    have e1 := hk (w.heap.size + 1) (by omega) (by omega)
    have e3 := hk (w.heap.size + 1 + 1 + 1) (by omega) (by omega)
    have lc := cell_of_row W _ 0 _ _ _ (e1.trans hLb.out)
    have oc := cell_of_row W _ 0 _ _ _ (e3.trans hOb.out)
    have x0 := cell_of_row W _ 0 _ _ _ hx
    have x1' := cell_of_row W _ 1 _ _ _ hx
    have x2' := cell_of_row W _ 2 _ _ _ hx
    have x3' := cell_of_row W _ 3 _ _ _ hx
    have x4' := cell_of_row W _ 4 _ _ _ hx
    have x5' := cell_of_row W _ 5 _ _ _ hx
    simp at lc oc x0 x1' x2' x3' x4' x5'
    have hwl : w.heap.size + 1 + 1 + 1 < W.heap.size := by omega
    have hWw : w.heap.size ≤ W.heap.size := by omega
    have RCW := Lib.hid (HC.out.below hB)
    have HV := Lib.hid hv
    have HK := Lib.hid hk
    have HB := Lib.hid hB
    have HX := Lib.hid hx
    clear hv hk hB hx e1 e3 hpost hcb b1 b2 b3 b4 b5 b6 hIO hL5 hO5 hM5
    gi_wp2
    gi_loopw [7, 16] (fun s i wr => ∃ k : Nat, k ≤ N ∧ s = (.int .i64 ((maskN (fitOf re le bl (x1, x2, x3)) zs k : Nat))) ∧ i = (.int .i64 (k)) ∧ Below W.heap.size W wr) (fun _ i _ => N - (intOf i).toNat)
    case atStart => exact ⟨0, Nat.zero_le _, rfl, rfl, Below.refl _ _⟩
    case round =>
      obtain ⟨k, hk, rfl, rfl, hBr⟩ := hrel
      have hszr := hBr.size
      have hBx2 : Bx < wr.heap.size := by omega
      have hwl2 : w.heap.size + 1 + 1 + 1 < wr.heap.size := by omega
      obtain ⟨hcr, hfr⟩ := bcell hBr
      have HBR := Lib.hid hBr
      obtain ⟨s0, hs0⟩ : ∃ s0, s0 = maskN (fitOf re le bl (x1, x2, x3)) zs k := ⟨_, rfl⟩
      have hsl := maskN_lt (fitOf re le bl (x1, x2, x3)) zs k
      rw [← hs0] at hsl ⊢
      have HS0 := Lib.hid hs0
      clear hs0 hBr
      by_cases hlt : k < N
      · have hlt2 : k < zs.length := by rw [← HN.out]; exact hlt
        obtain ⟨b, o, rfl, l1, k1⟩ := RCW.out (by omega)
        obtain ⟨y1, y2, y3⟩ := k1 k hlt2
        have hE := HZ.out k hlt2
        have HST := Lib.hid (show maskN (fitOf re le bl (x1, x2, x3)) zs (k + 1) = if fitOf re le bl (x1, x2, x3) (zs.getD k (0, 0, 0)) = true then s0 ||| 2 ^ k else s0 by rw [HS0.out]; rfl)
        obtain ⟨⟨u1, u2, u3⟩, hu⟩ : ∃ x, x = zs.getD k (0, 0, 0) := ⟨_, rfl⟩
        rw [← hu] at y1 y2 y3 hE
        have HU := Lib.hid hu
        clear hu k1
        simp only [] at y1 y2 y3 hE
        obtain ⟨q1, q2, q3, _⟩ := readErr_zero hE
        have hF := fit_of hdx.out q1
        clear hE hlt2
        cases hf : fitB re le bl x1 x2 x3 u1 u2 u3
        · have HF := Lib.hid hf
          clear hf
          gi_wp2_with (gi_at_call 83; refine (CallsIn.inRound l (callsIn_wide.2 (fits_any re le bl x1 x2 x3 u1 u2 u3 _ hF q2 q3))).mono ?_; rw [HF.out]; rintro r w6 ⟨rfl, hb6⟩)
          have hb7 := hb6.size
          go_roundw
          case rel =>
            refine ⟨k + 1, by omega, ?_, by go_num, HBR.out.trans ((((Below.refl wr.heap.size wr).alloc (Nat.le_refl _) _).trans (hb6.mono (by simp))).mono hszr)⟩
            rw [HST.out, ← HU.out, if_neg (by simp [fitOf, HF.out])]
          case measure => simp [intOf]; omega
        · have HF := Lib.hid hf
          clear hf
          gi_wp2_with (gi_at_call 83; refine (CallsIn.inRound l (callsIn_wide.2 (fits_any re le bl x1 x2 x3 u1 u2 u3 _ hF q2 q3))).mono ?_; rw [HF.out]; rintro r w6 ⟨rfl, hb6⟩)
          have hb7 := hb6.size
          go_roundw
          case rel =>
            refine ⟨k + 1, by omega, ?_, by go_num, HBR.out.trans ((((Below.refl wr.heap.size wr).alloc (Nat.le_refl _) _).trans (hb6.mono (by simp))).mono hszr)⟩
            rw [HST.out, ← HU.out, if_pos (by simp [fitOf, HF.out]), wrap_two k (by omega), or64 _ _ (Nat.lt_trans hsl (two_lt k (by omega))) (two_lt k (by omega))]
          case measure => simp [intOf]; omega
      · obtain rfl : k = N := by omega
        have hwr := HV.out.kept (grownBy_below HBR.out none) (by simp)
        obtain ⟨D0, hown, hkeys⟩ := hwr
        have HOWN := Lib.hid hown
        have HKEYS := Lib.hid hkeys
        have HSM := Lib.hid (show s0 = maskOf re le bl zs (x1, x2, x3) by rw [HS0.out, HN.out]; rfl)
        have hs62 : s0 < 2 ^ 62 := Nat.lt_trans hsl (two_lt k (by omega))
        clear hown hkeys
        gi_wp2_with (gi_at_mapUpdate; refine wpListIn_mapUpdate_own _ rfl _ _ _ 128 rfl 3 4 Tryz.keyI Tryz.underlying128 _ (w.heap.size + 1 + 1) pre.length _ rfl HOWN.out (by unfold maxLen; omega) _ _ _ rfl rfl (Go.Maps.keyOf_int_mk Tryz.underlying3 (WalkArith.wf_i64 (by omega))) _ [] (plainElem_bool Tryz.underlying4 true) ?_; intro w9 hown9 hgrow9)
        have hm9 : MaskMap re le bl zs (pre ++ [(x1, x2, x3)]) (pre ++ [(x1, x2, x3)]).length (w.heap.size + 1 + 1) w9 := by
          rw [List.length_append]
          rw [HSM.out] at hown9
          exact MaskMap.put hown9 HOWN.out.isMap HKEYS.out
        refine ⟨Same.grown ((Same.refl _ _).below HBR.out (fun k hk => by rcases hk with rfl | rfl | rfl | rfl <;> omega)) hgrow9 (fun k e hk => by cases e; rcases hk with h | h | h | h <;> omega), hm9, fun k h1 h2 => (hgrow9.block k (by omega) (fun e => h2 (by cases e; rfl))).trans ((HBR.out.block k (by omega)).trans (HK.out k h1 h2)), ?_⟩
        exact (HB.out.trans (HBR.out.mono hWw)).grown hgrow9 (by omega) (fun k e => by cases e; omega)
  case done =>
    rintro W ⟨hv, hk, hB⟩ hdef
    have oc := cell_of_row W _ 0 _ _ _ ((hk (w.heap.size + 1 + 1 + 1) (by omega) (by omega)).trans hOb.out)
    simp at oc
    obtain ⟨D0, hown, hkeys⟩ := hv
    have hM : MaskMap re le bl zs (drvs ma st lo m k r) 4096 (w.heap.size + 1 + 1) W := ⟨D0, hown.mono HLEN.out, hkeys⟩
    have HM := Lib.hid hM
    have HB := Lib.hid hB
    have HDEF := Lib.hid hdef
    have hDl := (Array.getElem?_eq_some_iff.1 hdef).1
    have hBm := hown.lt
    have hBd : w.heap.size + 1 + 1 ≠ w5.heap.size := by omega
    clear hIO hown hkeys hk hdef hB hM hL5 hO5 hM5
    gi_wp2
    refine ⟨by simp, .inl ⟨_, _, rfl, run_takeDeferred HDEF.out, ?_⟩⟩
    exact ⟨_, results_tmp rfl _ _ _, _, rfl, by omega, HM.out.kept (grownBy_putObj' _ _ _) (by simp; omega), HB.out.trans (belowK_b (w := w) (Nat.le_refl _) W _ _ _ (by omega) HDEF.out rfl rfl)⟩
end Go.Proofs.YtadcmjnebjgijaaGreatDoor
