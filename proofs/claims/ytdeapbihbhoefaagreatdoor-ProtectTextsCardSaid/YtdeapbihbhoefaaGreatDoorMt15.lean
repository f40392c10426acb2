/- Part 15 of the texts of the claim: Y11, V1, Flat, J4, J5, QK, QO, QL, QR. -/
import Derived.Test.YtdeapbihbhoefaaGreatDoorMt14
import Derived.Maps.OwnOps
import Derived.Maps.OwnSet
import Derived.Maps.Views
import Derived.Test.YtdeapbihbhoefaaGreatDoorMt11
import Derived.WalkKit
import Derived.ProofKit
import Derived.OpenShut
import Derived.Lib.LaidTab
import Derived.Below
import Derived.Carry
import Derived.ChangeSame
import Derived.Test.YtdeapbihbhoefaaGreatDoorMt10
import Derived.BigRegion
import Derived.Test.YtdeapbihbhoefaaGreatDoorMt2

/- Contract of Cool: a map that the call makes holds the heats that were seen. -/
namespace Go.Proofs.YtdeapbihbhoefaaGreatDoor
open Go.RowKit
open Calm (bcell Blk)
open Go.Maps (Keyed)

theorem plainElem_bool_inv {H : Type} {P : Program} {e : TypeId} (he : P.underlying e = some .bool) {v : Value} {z : DataW H × List MemPlace} (h : plainElem P e v = some z) : ∃ b, v = .bool b ∧ z = (.lit (.bool b), []) := by
  unfold plainElem at h
  rw [he] at h
  cases v <;> simp at h
  exact ⟨_, rfl, h.symm⟩
/-- a look-up in a map of the call's own whose elements are bools. -/
theorem wpList_lookup_own_bool {H : Type} {P : Program} (w : World) {ops : Array Oper} {rest : List Oper} {o : Oper} {a : Act} {Q : Exit → Act → World → Prop}
    (hg : o.guard = none) (m x : Operand) (t : TypeId) (hop : o.op = Op.lookup t m x false)
    (k e : TypeId) (K : Keyed P k) (ht : P.underlying t = some (.map k e)) (he : P.underlying e = some .bool) (hz : (zeroValue e).run P w = .ok (.bool false) w) (b n : Nat) (D : DataW H)
    (hm : a.eval m = .map (some b)) (hown : w.ownsMap P k (plainElem P e) b n D) (key : Value) (kl : Lit) (hx : a.eval x = key) (hkey : keyOf P k key = some kl)
    (hK : ∀ c : Bool, D.atKey kl (.lit (.bool false)) = .lit (.bool c) → wpList P ops Q rest (a.put o.dst (.bool c)) w) :
    wpList P ops Q (o :: rest) a w := by
  refine wpList_plain hg fun K' hK' => ?_
  obtain ⟨v, ps, hrun, hv⟩ := hown.lookup K ht hz (plainElem_bool he false) hkey
  obtain ⟨c, rfl, hc⟩ := plainElem_bool_inv he hv
  simp only [Prod.mk.injEq] at hc
  unfold Oper.wp
  simp [execOp, hop, hm, hx, hrun, Result.andThen]
  exact hK' _ _ (hK c hc.1)
theorem Tryz.keyI : Go.Maps.Keyed Tryz.prog 3 := Go.Maps.int_keyed Tryz.underlying3
theorem zeroB (w : World) : (zeroValue 4).run Tryz.prog w = .ok (.bool false) w := by kernel_rfl

/-- a map of the heats of the first k steps. -/
def SeenMap (lk h : Int) (k B : Nat) (W : World) : Prop :=
  ∃ D : DataW Unit, W.ownsMap Tryz.prog 3 (plainElem Tryz.prog 4) B k D ∧ ∀ x : Int, D.atKey (.int .i64 x) (.lit (.bool false)) = .lit (.bool (decide (∃ j, j < k ∧ coolK lk h j = x)))
theorem SeenMap.kept {lk h : Int} {k B : Nat} {W W' : World} {row : Option Nat} (hs : SeenMap lk h k B W) (hg : W.grownBy W' row) (hne : some B ≠ row) : SeenMap lk h k B W' := by
  obtain ⟨D, h1, h2⟩ := hs
  exact ⟨D, h1.kept hg hne, h2⟩
theorem grownBy_below {W W' : World} (h : Below W.heap.size W W') (row : Option Nat) : W.grownBy W' row := ⟨h.os, h.tape, h.output, h.size, fun k hk _ => h.block k hk⟩
theorem SeenMap.below {lk h : Int} {k B : Nat} {W W' : World} (hs : SeenMap lk h k B W) (hb : Below W.heap.size W W') : SeenMap lk h k B W' := hs.kept (grownBy_below hb none) (by simp)
theorem SeenMap.put {lk h : Int} {k B : Nat} {W : World} {D : DataW Unit} (h1 : W.ownsMap Tryz.prog 3 (plainElem Tryz.prog 4) B (k + 1) (D.put (.int .i64 (coolK lk h k)) (.lit (.bool true)))) (hD : Maps.IsMap D)
    (h2 : ∀ x : Int, D.atKey (.int .i64 x) (.lit (.bool false)) = .lit (.bool (decide (∃ j, j < k ∧ coolK lk h j = x)))) : SeenMap lk h (k + 1) B W := by
  refine ⟨_, h1, fun x => ?_⟩
  by_cases hx : x = coolK lk h k
  · subst hx
    rw [Maps.atKey_put_same hD (by simp [WideAt.IsKeyLit])]
    rw [decide_eq_true ⟨k, by omega, rfl⟩]
  · rw [Maps.atKey_put_other (by simpa using hx), h2]
    congr 2
    rw [decide_eq_decide]
    constructor
    · rintro ⟨j, hj, e⟩
      exact ⟨j, by omega, e⟩
    · rintro ⟨j, hj, e⟩
      rcases Nat.lt_or_ge j k with h3 | h3
      · exact ⟨j, h3, e⟩
      · obtain rfl : j = k := by omega
        exact absurd e.symm hx
/-- among the heats of the first steps there is this one just where the last step did not cool. -/
theorem seen_iff {lk h : Int} (h0 : 0 ≤ h) {k : Nat} (hs : ∀ j, j + 1 < k → coolK lk h (j + 1) < coolK lk h j) : (∃ j, j < k ∧ coolK lk h j = coolK lk h k) ↔ (0 < k ∧ coolK lk h k = coolK lk h (k - 1)) := by
  constructor
  · rintro ⟨j, hj, e⟩
    refine ⟨by omega, ?_⟩
    have mono : ∀ m, j + m < k → coolK lk h (j + m) + m ≤ coolK lk h j := by
      intro m
      induction m with
      | zero => intro _; simp
      | succ m ih =>
        intro hm
        have h1 := ih (by omega)
        have h2 := hs (j + m) (by omega)
        rw [show j + (m + 1) = j + m + 1 by omega]
        omega
    have h1 := mono (k - 1 - j) (by omega)
    rw [show j + (k - 1 - j) = k - 1 by omega] at h1
    have h2 : coolK lk h k ≤ coolK lk h (k - 1) := by
      obtain ⟨m, rfl⟩ : ∃ m, k = m + 1 := ⟨k - 1, by omega⟩
      exact (coolF_bd lk (coolK_bd lk h0 m).1).2
    omega
  · rintro ⟨h1, e⟩
    exact ⟨k - 1, by omega, e.symm⟩
def coolErr (lk ht rc : Int) (ts gs : List Int) (a b : Int) : Int := firstOf [guardErr lk ht rc ts gs, rangeErr a 0 536870912, rangeErr b 0 536870912]
theorem coolErr_zero {lk ht rc a b : Int} {ts gs : List Int} (e : coolErr lk ht rc ts gs a b = 0) : guardErr lk ht rc ts gs = 0 ∧ (0 ≤ a ∧ a ≤ 536870912) ∧ (0 ≤ b ∧ b ≤ 536870912) := by
  have h := firstOf_eq_zero.1 e
  exact ⟨h _ (by simp), rangeErr_zero.1 (h (rangeErr a 0 536870912) (by simp)), rangeErr_zero.1 (h (rangeErr b 0 536870912) (by simp))⟩

set_option maxHeartbeats 1000000 in
theorem Cool_bad (lk ht rc a b : Int) (ts gs : List Int) (A1 A2 : Option Addr) (M L c1 c2 : Nat) (w : World) (hM : M = ts.length) (hL : L = gs.length) (hT : Cells w A1 ts) (hG : Cells w A2 gs) (h1 : M ≤ 1000) (h2 : L ≤ 1000) (he : coolErr lk ht rc ts gs a b ≠ 0) :
    Calls Tryz.prog 31 #[.agg #[(.int .i64 lk), (.int .i64 ht), .slice A1 M c1, (.int .i64 rc), .slice A2 L c2], (.int .i64 a), (.int .i64 b)] w fun r w' => r = .returned (.tuple #[(.int .i64 0), (.int .i64 (coolErr lk ht rc ts gs a b))]) ∧ Below w.heap.size w w' := by
  have HCG : Hid (∀ W, Cells W A1 ts → Cells W A2 gs → Calls Tryz.prog 35 #[.agg #[(.int .i64 lk), (.int .i64 ht), .slice A1 M c1, (.int .i64 rc), .slice A2 L c2]] W fun r w' => r = .returned (.int .i64 (guardErr lk ht rc ts gs)) ∧ Below W.heap.size W w') := Lib.hid (fun W q1 q2 => by rw [hM, hL]; exact checkGuard_any lk ht rc ts gs A1 A2 c1 c2 W q1 q2 (by omega) (by omega))
  have HF : Hid (∀ W : World, Calls Tryz.prog 49 #[.slice (some ⟨W.heap.size, 0, none⟩) 3 3] (W.alloc (.cells #[(.int .i64 (guardErr lk ht rc ts gs)), (.int .i64 (rangeErr a 0 536870912)), (.int .i64 (rangeErr b 0 536870912))] 27)) fun r w' => r = .returned (.int .i64 (coolErr lk ht rc ts gs a b)) ∧ (W.alloc (.cells #[(.int .i64 (guardErr lk ht rc ts gs)), (.int .i64 (rangeErr a 0 536870912)), (.int .i64 (rangeErr b 0 536870912))] 27)) = w') :=
    Lib.hid (fun W => first_cells [guardErr lk ht rc ts gs, rangeErr a 0 536870912, rangeErr b 0 536870912] W (by simp))
  have HT := Lib.hid hT
  have HG := Lib.hid hG
  obtain ⟨E, hE⟩ : ∃ E, E = coolErr lk ht rc ts gs a b := ⟨_, rfl⟩
  rw [← hE] at HF he ⊢
  obtain ⟨e1, h1⟩ : ∃ e1, e1 = guardErr lk ht rc ts gs := ⟨_, rfl⟩
  rw [← h1] at HCG HF
  obtain ⟨ra, hra⟩ : ∃ ra, ra = rangeErr a 0 536870912 := ⟨_, rfl⟩
  obtain ⟨rb, hrb⟩ : ∃ rb, rb = rangeErr b 0 536870912 := ⟨_, rfl⟩
  have HHA : Hid (∀ W, Calls Tryz.prog 62 #[(.int .i64 a)] W fun r w' => r = .returned (.int .i64 ra) ∧ W = w') := Lib.hid (fun W => by rw [hra]; exact checkHeat_any a W)
  have HHB : Hid (∀ W, Calls Tryz.prog 62 #[(.int .i64 b)] W fun r w' => r = .returned (.int .i64 rb) ∧ W = w') := Lib.hid (fun W => by rw [hrb]; exact checkHeat_any b W)
  rw [← hra, ← hrb] at HF
  clear hM hL hT hG hE h1 hra hrb
  go_enter Tryz.func31, Tryz.ntmps31
  go_wp2_with (go_at_call 35; refine (HCG.out _ (HT.out.below (by (repeat (first | (with_reducible exact Below.refl _ _) | ((with_reducible refine Below.setCell ?_ ?_ _); rotate_left 1; focus (first | (simp; done) | (simp; omega) | (simp at *; omega))) | ((with_reducible refine Below.alloc ?_ ?_ _); rotate_left 1; focus (first | (simp; done) | (simp; omega) | (simp at *; omega))) | (with_reducible refine Below.drew ?_) | ((with_reducible refine Calm.step (by assumption) ?_ ?_); rotate_left 1; focus (first | (simp; done) | (simp; omega) | (simp at *; omega))))))) (HG.out.below (by (repeat (first | (with_reducible exact Below.refl _ _) | ((with_reducible refine Below.setCell ?_ ?_ _); rotate_left 1; focus (first | (simp; done) | (simp; omega) | (simp at *; omega))) | ((with_reducible refine Below.alloc ?_ ?_ _); rotate_left 1; focus (first | (simp; done) | (simp; omega) | (simp at *; omega))) | (with_reducible refine Below.drew ?_) | ((with_reducible refine Calm.step (by assumption) ?_ ?_); rotate_left 1; focus (first | (simp; done) | (simp; omega) | (simp at *; omega)))))))).mono ?_; rintro r w1 ⟨rfl, hb1⟩; have HB1 := Lib.hid (show Below w.heap.size w w1 from Below.trans (by (repeat (first | (with_reducible exact Below.refl _ _) | ((with_reducible refine Below.setCell ?_ ?_ _); rotate_left 1; focus (first | (simp; done) | (simp; omega) | (simp at *; omega))) | ((with_reducible refine Below.alloc ?_ ?_ _); rotate_left 1; focus (first | (simp; done) | (simp; omega) | (simp at *; omega))) | (with_reducible refine Below.drew ?_) | ((with_reducible refine Calm.step (by assumption) ?_ ?_); rotate_left 1; focus (first | (simp; done) | (simp; omega) | (simp at *; omega)))))) (hb1.mono (by simp; try omega))); clear hb1; refine Hid.out ?_)
  unfold Hid
  go_wp2_with (go_at_call 62; refine (HHA.out _).mono ?_; rintro r w2 ⟨rfl, rfl⟩; refine Hid.out ?_)
  unfold Hid
  go_wp2_with (first
    | (go_at_call 62; refine (HHB.out _).mono ?_; rintro r w3 ⟨rfl, rfl⟩)
    | (go_at_call 49; refine (HF.out _).mono ?_; rintro r w4 ⟨rfl, rfl⟩))
  go_ret2
  exact ⟨rfl, HB1.out.alloc HB1.out.size _⟩

set_option maxRecDepth 100000 in
set_option maxHeartbeats 2000000 in
theorem Cool_ok (lk ht rc a b : Int) (ts gs : List Int) (A1 A2 : Option Addr) (M L c1 c2 : Nat) (w : World) (hM : M = ts.length) (hL : L = gs.length) (hT : Cells w A1 ts) (hG : Cells w A2 gs) (h1 : M ≤ 1000) (h2 : L ≤ 1000) (he : coolErr lk ht rc ts gs a b = 0) :
    Calls Tryz.prog 31 #[.agg #[(.int .i64 lk), (.int .i64 ht), .slice A1 M c1, (.int .i64 rc), .slice A2 L c2], (.int .i64 a), (.int .i64 b)] w fun r w' => r = .returned (.tuple #[(.int .i64 ((coolR lk a b).1)), (.int .i64 ((coolR lk a b).2))]) ∧ Below w.heap.size w w' := by
  have hmm := @run_makeMap Tryz.prog
  obtain ⟨q1, ⟨a0, a1⟩, b0, b1⟩ := coolErr_zero he
  have hlk := (guard_valid q1).lk
  have HCG : Hid (∀ W, Cells W A1 ts → Cells W A2 gs → Calls Tryz.prog 35 #[.agg #[(.int .i64 lk), (.int .i64 ht), .slice A1 M c1, (.int .i64 rc), .slice A2 L c2]] W fun r w' => r = .returned (.int .i64 0) ∧ Below W.heap.size W w') := Lib.hid (fun W p1 p2 => by
    have := checkGuard_any lk ht rc ts gs A1 A2 c1 c2 W p1 p2 (by omega) (by omega)
    rwa [← hM, ← hL, q1] at this)
  have HHT : Hid (∀ (n : Int) W, 0 ≤ n → n ≤ 536870912 → Calls Tryz.prog 62 #[(.int .i64 n)] W fun r w' => r = .returned (.int .i64 0) ∧ W = w') := Lib.hid (fun n W p1 p2 => by
    have := checkHeat_any n W
    rwa [rangeErr_in p1 p2] at this)
  have HF : Hid (∀ W : World, Calls Tryz.prog 49 #[.slice (some ⟨W.heap.size, 0, none⟩) 3 3] (W.alloc (.cells #[(.int .i64 0), (.int .i64 0), (.int .i64 0)] 27)) fun r w' => r = .returned (.int .i64 0) ∧ (W.alloc (.cells #[(.int .i64 0), (.int .i64 0), (.int .i64 0)] 27)) = w') := Lib.hid (fun W => first_cells [0, 0, 0] W (by simp))
  have HCO : Hid (∀ (x : Int) W, 0 ≤ x → x ≤ 536870912 → Calls Tryz.prog 63 #[.agg #[(.int .i64 lk), (.int .i64 ht), .slice A1 M c1, (.int .i64 rc), .slice A2 L c2], (.int .i64 x)] W fun r w' => r = .returned (.int .i64 (coolF lk x)) ∧ Below W.heap.size W w') := Lib.hid (fun x W p1 p2 => cooled_any lk ht rc x A1 A2 M c1 L c2 W hlk ⟨p1, by omega⟩)
  have HT := Lib.hid hT
  have HG := Lib.hid hG
  obtain ⟨R, hR⟩ : ∃ R, R = coolR lk a b := ⟨_, rfl⟩
  have HR := Lib.hid hR
  rw [← hR]
  clear hM hL hT hG he q1 hR hlk
  go_enter Tryz.func31, Tryz.ntmps31
  go_wp2_with (first
    | (go_at_call 35; refine (HCG.out _ (HT.out.below (by (repeat (first | (with_reducible exact Below.refl _ _) | ((with_reducible refine Below.setCell ?_ ?_ _); rotate_left 1; focus (first | (simp; done) | (simp; omega) | (simp at *; omega))) | ((with_reducible refine Below.alloc ?_ ?_ _); rotate_left 1; focus (first | (simp; done) | (simp; omega) | (simp at *; omega))) | (with_reducible refine Below.drew ?_) | ((with_reducible refine Calm.step (by assumption) ?_ ?_); rotate_left 1; focus (first | (simp; done) | (simp; omega) | (simp at *; omega))))))) (HG.out.below (by (repeat (first | (with_reducible exact Below.refl _ _) | ((with_reducible refine Below.setCell ?_ ?_ _); rotate_left 1; focus (first | (simp; done) | (simp; omega) | (simp at *; omega))) | ((with_reducible refine Below.alloc ?_ ?_ _); rotate_left 1; focus (first | (simp; done) | (simp; omega) | (simp at *; omega))) | (with_reducible refine Below.drew ?_) | ((with_reducible refine Calm.step (by assumption) ?_ ?_); rotate_left 1; focus (first | (simp; done) | (simp; omega) | (simp at *; omega)))))))).mono ?_; rintro r w1 ⟨rfl, hb1⟩; have HB1 := Lib.hid (show Below w.heap.size w w1 from Below.trans (by (repeat (first | (with_reducible exact Below.refl _ _) | ((with_reducible refine Below.setCell ?_ ?_ _); rotate_left 1; focus (first | (simp; done) | (simp; omega) | (simp at *; omega))) | ((with_reducible refine Below.alloc ?_ ?_ _); rotate_left 1; focus (first | (simp; done) | (simp; omega) | (simp at *; omega))) | (with_reducible refine Below.drew ?_) | ((with_reducible refine Calm.step (by assumption) ?_ ?_); rotate_left 1; focus (first | (simp; done) | (simp; omega) | (simp at *; omega)))))) (hb1.mono (by simp; try omega))); have G1 := Lib.hid (show Blk w1 w.heap.size #[(.int .i64 lk), (.int .i64 ht), .slice A1 M c1, (.int .i64 rc), .slice A2 L c2] from Blk.below (by (repeat (first | ((with_reducible refine Blk.at_ ?_); focus (first | rfl | (simp; done) | (simp; omega))) | (with_reducible refine Blk.alloc ?_ _) | (with_reducible refine Blk.below ?_ (by with_reducible assumption)) | (with_reducible refine Blk.drew ?_)))) hb1); obtain ⟨g0, g1, g2, g3, g4, gl, gf⟩ := G1.out.o5; clear hb1)
    | (go_at_call 62; refine (HHT.out _ _ (by omega) (by omega)).mono ?_; rintro r w2 ⟨rfl, rfl⟩)
    | (go_at_call 49; refine (HF.out _).mono ?_; rintro r w4 ⟨rfl, rfl⟩))
  have hz1 := HB1.out.size
  have hglt := G1.out.lt
  have hM0 : SeenMap lk a 0 (w1.heap.size + 1) ((w1.alloc (.cells #[(.int .i64 0), (.int .i64 0), (.int .i64 0)] 27)).alloc (.map #[] 0)) := by
    refine ⟨.map [], ?_, fun x => ?_⟩
    · have := World.ownsMap_made (H := Unit) (w1.alloc (.cells #[(.int .i64 0), (.int .i64 0), (.int .i64 0)] 27)) Tryz.prog 3 (plainElem Tryz.prog 4)
      simpa using this
    · rw [decide_eq_false (by rintro ⟨j, hj, _⟩; omega)]
      rfl
  have hK0 : Blk ((w1.alloc (.cells #[(.int .i64 0), (.int .i64 0), (.int .i64 0)] 27)).alloc (.map #[] 0)) w.heap.size #[(.int .i64 lk), (.int .i64 ht), .slice A1 M c1, (.int .i64 rc), .slice A2 L c2] := (G1.out.alloc _).alloc _
  have hB0 : Below w.heap.size w ((w1.alloc (.cells #[(.int .i64 0), (.int .i64 0), (.int .i64 0)] 27)).alloc (.map #[] 0)) := (HB1.out.alloc hz1 _).alloc (by simp; omega) _
  have HM0 := Lib.hid hM0
  have HK0 := Lib.hid hK0
  have HB0 := Lib.hid hB0
  clear hM0 hK0 hB0 hmm g0 g1 g2 g3 g4 gl gf
  go_loopw [1, 10] (fun f s wr => ∃ k : Nat, (k : Int) ≤ a + 1 ∧ f = (.int .i64 (coolK lk a k)) ∧ s = (.int .i64 ((k : Int))) ∧ (∀ j, j < k → b < coolK lk a j) ∧ (∀ j, j + 1 < k → coolK lk a (j + 1) < coolK lk a j) ∧ SeenMap lk a k (w1.heap.size + 1) wr ∧ Blk wr w.heap.size #[(.int .i64 lk), (.int .i64 ht), .slice A1 M c1, (.int .i64 rc), .slice A2 L c2] ∧ Below w.heap.size w wr) (fun _ s _ => (a.toNat + 3) - (intOf s).toNat)
  case atStart => exact ⟨0, by omega, rfl, rfl, fun j hj => by omega, fun j hj => by omega, HM0.out, HK0.out, HB0.out⟩
  case round =>
    obtain ⟨k, hk, rfl, rfl, hgt, hst, hm, hK, hB⟩ := hrel
    have HGT := Lib.hid hgt
    have HST := Lib.hid hst
    have HMM := Lib.hid hm
    have HKK := Lib.hid hK
    have HBB := Lib.hid hB
    obtain ⟨c0, c1'⟩ := coolK_bd lk a0 k
    obtain ⟨c, hc⟩ : ∃ c, c = coolK lk a k := ⟨_, rfl⟩
    rw [← hc] at c0 c1' ⊢
    have HC := Lib.hid hc
    clear hgt hst hm hK hB hc HM0 HK0 HB0
    by_cases hle : c ≤ b
    · have hR : R = ((k : Int), 0) := by
        rw [HR.out]
        refine coolR_done a0 (fun j hj => ⟨HGT.out j hj, ?_⟩) (by rw [← HC.out]; exact hle)
        rcases Nat.lt_or_ge (j + 1) k with h | h
        · have := HST.out j h
          omega
        · obtain rfl : j + 1 = k := by omega
          have := HGT.out j (by omega)
          rw [← HC.out]
          omega
      subst hR
      go_wp2
      go_ret2
      exact ⟨rfl, HBB.out⟩
    · have hlt : b < c := by omega
      by_cases hs : 0 < k ∧ c = coolK lk a (k - 1)
      · have hR : R = (0, 24) := by
          obtain ⟨m, rfl⟩ : ∃ m, k = m + 1 := ⟨k - 1, by omega⟩
          rw [HR.out]
          refine coolR_stuck a0 (k := m) (fun j hj => ⟨HGT.out j (by omega), ?_⟩) (HGT.out m (by omega)) (by rw [← HC.out]; exact hs.2)
          have := HST.out j (by omega)
          omega
        have hsn : decide (∃ j, j < k ∧ coolK lk a j = c) = true := decide_eq_true (by rw [HC.out]; exact (seen_iff a0 HST.out).2 ⟨hs.1, by rw [← HC.out]; exact hs.2⟩)
        have HSN := Lib.hid hsn
        subst hR
        clear hs hsn hle
        obtain ⟨D, hown, hat⟩ := HMM.out
        have HOWN := Lib.hid hown
        have HAT := Lib.hid (hat c)
        clear hown hat
        go_wp2_with (at_lookup; refine wpList_lookup_own_bool _ rfl _ _ 106 rfl 3 4 Tryz.keyI Tryz.underlying106 Tryz.underlying4 (zeroB _) (w1.heap.size + 1) k _ rfl HOWN.out _ _ rfl (Go.Maps.keyOf_int_mk Tryz.underlying3 (WalkArith.wf_i64 (by omega))) ?_; intro v hv; obtain rfl : v = true := by (rw [HAT.out, HSN.out] at hv; simpa using hv.symm))
        go_ret2
        exact ⟨rfl, HBB.out⟩
      · have hsn : decide (∃ j, j < k ∧ coolK lk a j = c) = false := decide_eq_false (by rw [HC.out]; exact fun h => hs (by have := (seen_iff a0 HST.out).1 h; rw [← HC.out] at this; exact this))
        have HSN := Lib.hid hsn
        have HNE : Hid (∀ j, j < k → coolK lk a (j + 1) ≠ coolK lk a j) := Lib.hid (fun j hj => by
          rcases Nat.lt_or_ge (j + 1) k with h | h
          · have := HST.out j h
            omega
          · obtain rfl : j + 1 = k := by omega
            intro e
            exact hs ⟨by omega, by rw [HC.out]; exact e⟩)
        have hfall := coolK_fall (to := b) a0 k (fun j hj => ⟨HGT.out j hj, HNE.out j hj⟩)
        rw [← HC.out] at hfall
        have HST2 : Hid (∀ j, j + 1 < k + 1 → coolK lk a (j + 1) < coolK lk a j) := Lib.hid (fun j hj => by
          have h1 := HNE.out j (by omega)
          have h2 : coolK lk a (j + 1) ≤ coolK lk a j := (coolF_bd lk (coolK_bd lk a0 j).1).2
          omega)
        clear hs hsn hle
        obtain ⟨D, hown, hat⟩ := HMM.out
        have HOWN := Lib.hid hown
        have HAT := Lib.hid hat
        have hkm : k < maxLen := by unfold maxLen; omega
        have hHK := HKK.out.lt
        clear hown hat
        go_wp2_with (first
          | (at_lookup; refine wpList_lookup_own_bool _ rfl _ _ 106 rfl 3 4 Tryz.keyI Tryz.underlying106 Tryz.underlying4 (zeroB _) (w1.heap.size + 1) k _ rfl HOWN.out _ _ rfl (Go.Maps.keyOf_int_mk Tryz.underlying3 (WalkArith.wf_i64 (by omega))) ?_; intro v hv; obtain rfl : v = false := by (rw [HAT.out, HSN.out] at hv; simpa using hv.symm))
          | (at_mapUpdate; refine wpList_mapUpdate_own _ rfl _ _ _ 106 rfl 3 4 Tryz.keyI Tryz.underlying106 _ (w1.heap.size + 1) k _ rfl HOWN.out hkm _ _ _ rfl rfl (Go.Maps.keyOf_int_mk Tryz.underlying3 (WalkArith.wf_i64 (by omega))) _ [] (plainElem_bool Tryz.underlying4 true) ?_; intro w9 hown9 hgrow9; refine Hid.out ?_))
        unfold Hid
        have HS9 : Hid (SeenMap lk a (k + 1) (w1.heap.size + 1) w9) := Lib.hid (SeenMap.put (by rw [← HC.out]; exact hown9) HOWN.out.isMap HAT.out)
        have hne9 : ∀ r, some (w1.heap.size + 1) = some r → r ≠ w.heap.size := fun r e => by cases e; omega
        have HK9 := Lib.hid (grown_blk HKK.out hgrow9 hne9)
        have HB9 := Lib.hid (HBB.out.grown hgrow9 HBB.out.size (fun r e => by cases e; omega))
        have hz9 := HB9.out.size
        obtain ⟨g0, g1, g2, g3, g4, gl, gf⟩ := HK9.out.o5
        clear hown9 hgrow9 hne9
        go_wp2_with (go_at_call 63; refine (HCO.out _ _ (by omega) (by omega)).mono ?_; rintro r w10 ⟨rfl, hb10⟩; have HB10 := Lib.hid (HB9.out.trans (hb10.mono hz9)); have HK10 := Lib.hid (HK9.out.below hb10); have HS10 := Lib.hid (HS9.out.below hb10); clear hb10)
        go_roundw
        case rel =>
          refine ⟨k + 1, by omega, by rw [HC.out]; rfl, by go_num, fun j hj => ?_, HST2.out, HS10.out, HK10.out, HB10.out⟩
          rcases Nat.lt_or_ge j k with h | h
          · exact HGT.out j h
          · obtain rfl : j = k := by omega
            rw [← HC.out]; exact hlt
        case measure => simp [intOf]; omega
/-- Cool, whatever its arguments. -/
def coolE (lk ht rc : Int) (ts gs : List Int) (a b : Int) : Int × Int := if coolErr lk ht rc ts gs a b = 0 then coolR lk a b else (0, coolErr lk ht rc ts gs a b)
theorem Cool_any (lk ht rc a b : Int) (ts gs : List Int) (A1 A2 : Option Addr) (M L c1 c2 : Nat) (w : World) (hM : M = ts.length) (hL : L = gs.length) (hT : Cells w A1 ts) (hG : Cells w A2 gs) (h1 : M ≤ 1000) (h2 : L ≤ 1000) :
    Calls Tryz.prog 31 #[.agg #[(.int .i64 lk), (.int .i64 ht), .slice A1 M c1, (.int .i64 rc), .slice A2 L c2], (.int .i64 a), (.int .i64 b)] w fun r w' => r = .returned (.tuple #[(.int .i64 ((coolE lk ht rc ts gs a b).1)), (.int .i64 ((coolE lk ht rc ts gs a b).2))]) ∧ Below w.heap.size w w' := by
  unfold coolE
  by_cases he : coolErr lk ht rc ts gs a b = 0
  · rw [if_pos he]
    exact Cool_ok lk ht rc a b ts gs A1 A2 M L c1 c2 w hM hL hT hG h1 h2 he
  · rw [if_neg he]
    exact Cool_bad lk ht rc a b ts gs A1 A2 M L c1 c2 w hM hL hT hG h1 h2 he
end Go.Proofs.YtdeapbihbhoefaaGreatDoor

/- What a search for the loudest signal finds: plain laws. No walk. -/
namespace Go.Proofs.YtdeapbihbhoefaaGreatDoor
open Go.RowKit

/-! ### Levels -/

end Go.Proofs.YtdeapbihbhoefaaGreatDoor

/- A value of integers alone (structs and arrays of integers, nested): its cells are its integers, one behind another. And the row's last step under 'Below'. Of no program. -/
namespace Go.Flat
open Go.ChangeShapes Go.WideShapes Go.RowKit

def sideB : List (Nat × Nat) → Nat → Nat → Bool
  | [], off, tot => off == tot
  | (o, c) :: l, off, tot => o == off && sideB l (off + c) tot
/-- the type is made of integers alone, lying side by side. -/
def intsB (P : Program) : Nat → TypeId → Bool
  | 0, _ => false
  | n + 1, t => match P.underlying t with
    | some (.int .i64) => true
    | some (.struct fs) => sideB (fs.toList.map fun f => (f.offset, P.cellsOf f.type)) 0 (P.cellsOf t) && fs.toList.all fun f => intsB P n f.type
    | some (.array k e) => sideB ((List.range k).map fun i => (i * P.cellsOf e, P.cellsOf e)) 0 (P.cellsOf t) && intsB P n e
    | _ => false
/-- the integers of a datum. -/
def flat {H : Type} : Nat → DataW H → List Int
  | 0, _ => []
  | n + 1, .agg ds => ds.flatMap (flat n)
  | _ + 1, .lit (.int _ z) => [z]
  | _ + 1, _ => []

theorem side_cells {cs : List Value} : ∀ (l : List (Nat × Nat)) (zs : List (List Int)) (off : Nat), sideB l off cs.length = true → zs.length = l.length →
    (∀ (i o c : Nat), l[i]? = some (o, c) → ∃ z, zs[i]? = some z ∧ (cs.drop o).take c = z.map (Value.int .i64)) → cs.drop off = zs.flatten.map (Value.int .i64)
  | [], zs, off, hs, hl, _ => by
    obtain rfl : zs = [] := by simpa using hl
    have : off = cs.length := by simpa [sideB] using hs
    subst this
    simp
  | (o, c) :: l, zs, off, hs, hl, hf => by
    obtain ⟨z, zs', rfl⟩ : ∃ z zs', zs = z :: zs' := by
      cases zs with
      | nil => simp at hl
      | cons z zs' => exact ⟨z, zs', rfl⟩
    simp only [sideB, Bool.and_eq_true, beq_iff_eq] at hs
    obtain ⟨rfl, hs⟩ := hs
    obtain ⟨z', hz', h0⟩ := hf 0 o c rfl
    obtain rfl : z = z' := by simpa using hz'
    have ih := side_cells l zs' (o + c) hs (by simpa using hl) (fun i o' c' h => by simpa using hf (i + 1) o' c' (by simpa using h))
    calc cs.drop o = (cs.drop o).take c ++ (cs.drop o).drop c := (List.take_append_drop _ _).symm
      _ = _ := by rw [h0, List.drop_drop, ih]; simp

theorem cells_of_ints {H : Type} {enc : TypeId × Value → H} {P : Program} {w : World} {base : Nat} {sp : Nat → Bool} {held : Bool} :
    ∀ (m : Nat) {fuel : Nat} {t : TypeId} {cs : List Value} {x : DataW H × List MemPlace}, intsB P m t = true → DataW.trod enc P w base sp held fuel t cs = some x → cs = (flat m x.1).map (Value.int .i64) ∧ x.2 = []
  | 0, _, _, _, _, h, _ => by simp [intsB] at h
  | m + 1, fuel, t, cs, x, h, hx => by
    unfold intsB at h
    split at h
    · rename_i ht
      obtain ⟨z, rfl, rfl, _⟩ := DataW.trod_int ht hx
      exact ⟨rfl, rfl⟩
    · rename_i fs ht
      obtain ⟨xs, n, _, rfl, hl, hxl, hf⟩ := DataW.trod_struct ht hx
      simp only [Bool.and_eq_true, List.all_eq_true] at h
      obtain ⟨hs, hi⟩ := h
      have key : ∀ (i : Nat) (f : Field) (y : DataW H × List MemPlace), fs.toList[i]? = some f → xs[i]? = some y → (cs.drop f.offset).take (P.cellsOf f.type) = (flat m y.1).map (Value.int .i64) ∧ y.2 = [] := fun i f y hfi hy =>
        cells_of_ints m (hi f (List.mem_of_getElem? hfi)) ((hf i f (by simpa using hfi)).trans hy)
      have hlen : xs.length = fs.toList.length := by simpa using hxl
      refine ⟨?_, ?_⟩
      · have := side_cells (cs := cs) (fs.toList.map fun f => (f.offset, P.cellsOf f.type)) (xs.map fun y => flat m y.1) 0 (by rw [hl]; exact hs) (by simpa using hxl) (fun i o c hi' => by
          simp only [List.getElem?_map, Option.map_eq_some_iff] at hi'
          obtain ⟨f, hf1, hf2⟩ := hi'
          have hlt : i < xs.length := hlen ▸ (List.getElem?_eq_some_iff.1 hf1).1
          have hy : xs[i]? = some xs[i] := List.getElem?_eq_getElem hlt
          simp only [Prod.mk.injEq] at hf2
          obtain ⟨rfl, rfl⟩ := hf2
          exact ⟨_, by simp [hy], (key i f _ hf1 hy).1⟩)
        rw [List.drop_zero] at this
        refine this.trans ?_
        simp [flat, List.flatMap, List.map_map, Function.comp_def]
      · simp only [List.flatMap_eq_nil_iff]
        intro y hy
        obtain ⟨i, hi'⟩ := List.getElem?_of_mem hy
        have hlt : i < fs.toList.length := hlen ▸ (List.getElem?_eq_some_iff.1 hi').1
        exact (key i _ y (List.getElem?_eq_getElem hlt) hi').2
    · rename_i k e ht
      simp only [Bool.and_eq_true] at h
      obtain ⟨hs, hi⟩ := h
      cases fuel with
      | zero => simp [DataW.trod] at hx
      | succ fuel =>
        simp only [DataW.trod, ht] at hx
        split at hx
        · rename_i hl
          obtain ⟨xs, hm, rfl⟩ := Option.map_eq_some_iff.1 hx
          have hxl : xs.length = k := by simpa using Lib.mapM_length hm
          have key : ∀ (i : Nat) (y : DataW H × List MemPlace), xs[i]? = some y → (cs.drop (i * P.cellsOf e)).take (P.cellsOf e) = (flat m y.1).map (Value.int .i64) ∧ y.2 = [] := fun i y hy => by
            have hlt : i < k := hxl ▸ (List.getElem?_eq_some_iff.1 hy).1
            obtain ⟨b, hb, hf⟩ := Lib.mapM_at hm i i (by simp [hlt])
            obtain rfl := Option.some.inj (hy.symm.trans hb)
            exact cells_of_ints m hi hf
          refine ⟨?_, ?_⟩
          · have := side_cells (cs := cs) ((List.range k).map fun i => (i * P.cellsOf e, P.cellsOf e)) (xs.map fun y => flat m y.1) 0 (by rw [hl]; exact hs) (by simpa using hxl) (fun i o c hi' => by
              simp only [List.getElem?_map, Option.map_eq_some_iff] at hi'
              obtain ⟨j, hj1, hj2⟩ := hi'
              have hlt : i < k := by simpa using (List.getElem?_eq_some_iff.1 hj1).1
              obtain rfl : i = j := by simpa [hlt] using hj1
              have hy : xs[i]? = some (xs[i]'(by omega)) := List.getElem?_eq_getElem (by omega)
              simp only [Prod.mk.injEq] at hj2
              obtain ⟨rfl, rfl⟩ := hj2
              exact ⟨_, by simp [hy], (key i _ hy).1⟩)
            rw [List.drop_zero] at this
            refine this.trans ?_
            simp [flat, List.flatMap, List.map_map, Function.comp_def]
          · simp only [List.flatMap_eq_nil_iff]
            intro y hy
            obtain ⟨i, hi'⟩ := List.getElem?_of_mem hy
            exact (key i y hi').2
        · cases hx
    · cases h

section
variable {H : Type} {enc : TypeId × Value → H} {P : Program}
theorem post_of_below {f : Func} {s : ChangeSpec} {apart fresh handsOn again : Bool} {W W' : World} {args : Array Value} {v : Value} {ds gs : List (DataW H)} {before pa pv : List MemPlace}
    (hW : DataW.Whole enc P f.params.toList s.vars apart W args.toList ds gs before)
    (hres : ∀ (b : Nat) (sp : Nat → Bool) (hd : Bool), DataW.TrodAll enc P W' b sp hd f.resultTypes.toList (v.resultList f.resultTypes.size) (s.fn H (ds ++ gs)).results [])
    (hargs : ∀ sp : Nat → Bool, (∀ p ∈ before, sp p.block = true) → DataW.TrodAll enc P W' 0 sp true f.params.toList args.toList (s.fn H (ds ++ gs)).args pa)
    (hvars : ∀ sp : Nat → Bool, (∀ p ∈ before, sp p.block = true) → DataW.TrodVars enc P W' sp s.vars (s.fn H (ds ++ gs)).vars pv)
    (hps : before = pa ++ pv) (hb : Below W.heap.size W W')
    (hok : ∀ (j : Nat) (t : TypeId) (r : Value), f.resultTypes[j]? = some t → (v.resultList f.resultTypes.size)[j]? = some r → Value.okWide P W' .any 0 t r) :
    s.post enc P f apart fresh handsOn again W args v W' := by
  have hlt : ∀ p ∈ before, p.block < W.heap.size := fun p hp => hW.lt p hp
  have hold : ∀ p ∈ before, (fun b => decide (b < W.heap.size)) p.block = true := fun p hp => by simpa using hlt p hp
  refine ⟨ds, gs, before, [], pa, pv, hW, hres _ _ _, hargs _ hold, hvars _ hold, World.keptBut_mono (fun p hp => ⟨hp, ?_⟩) (hb.frame (· ∈ before)), fun _ => ?_⟩
  · rw [hps, List.mem_append] at hp
    exact Or.inr hp
  · obtain ⟨_, _, _, _, _, hz, hn⟩ := hW
    refine ⟨hok, _, _, ([] ++ pa) ++ pv, ⟨[] ++ pa, pv, trodAll_append (hargs _ (fun _ _ => rfl)) (hres _ _ _), hvars _ (fun _ _ => rfl), rfl, ?_, ?_⟩, ?_⟩
    · intro b off hp
      have hin : MemPlace.cell b off ∈ before := by rw [hps]; simpa using hp
      rw [hb.frozen (hlt _ hin)]
      exact hz b off hin
    · intro ha
      have := hn ha
      rw [hps] at this
      simpa using this
    · intro p hp _
      rw [hps]
      simpa using hp
end

/-- every argument reads behind the call as before it, if below the heap's old size nothing has turned. -/
theorem trodAll_below {H : Type} {enc : TypeId × Value → H} {P : Program} (hl : laidOutB P = true) {W W' : World} (hb : Below W.heap.size W W') {sp : Nat → Bool} :
    ∀ {ts : List TypeId} {vs : List Value} {ds : List (DataW H)} {ps : List MemPlace}, (∀ t ∈ ts, P.readableRec t = true ∧ t < P.types.size) → DataW.TrodAll enc P W 0 (fun _ => true) true ts vs ds ps → (∀ p ∈ ps, p.block < W.heap.size) → (∀ p ∈ ps, sp p.block = true) →
    DataW.TrodAll enc P W' 0 sp true ts vs ds ps
  | [], [], [], _, _, h, _, _ => h
  | t :: ts, v :: vs, d :: ds, _, ht, ⟨p, q, h, hr, rfl⟩, hlt, hs => by
    have h1 := ht t (by simp)
    exact ⟨p, q, WideElems.Trod_stays hl h1.1 h1.2 h (fun x hx => hb.same (hlt x (by simp [hx]))) (fun x hx => hs x (by simp [hx])), trodAll_below hl hb (fun t' h' => ht t' (by simp [h'])) hr (fun x hx => hlt x (by simp [hx])) (fun x hx => hs x (by simp [hx])), rfl⟩
end Go.Flat

/- Contract of the reference's CheckGuard: the same error. -/
namespace Go.Proofs.YtdeapbihbhoefaaGreatDoor
open Go.RowKit
open Calm (bcell Blk)

set_option maxRecDepth 100000 in
set_option maxHeartbeats 40000000 in
theorem pGuard_any (lk ht rc : Int) (ts gs : List Int) (A1 A2 : Option Addr) (c1 c2 : Nat) (w : World) (hT0 : Cells w A1 ts) (hG0 : Cells w A2 gs) (h1 : ts.length ≤ 5000) (h2 : gs.length ≤ 5000) :
    Calls Tryz.prog 10 #[.agg #[(.int .i64 lk), (.int .i64 ht), .slice A1 ts.length c1, (.int .i64 rc), .slice A2 gs.length c2]] w fun r w' => r = .returned (.int .i64 (guardErr lk ht rc ts gs)) ∧ Below w.heap.size w w' := by
  have HT := Lib.hid hT0
  have HGS := Lib.hid hG0
  obtain ⟨M, hM⟩ : ∃ M, M = ts.length := ⟨_, rfl⟩
  obtain ⟨L, hL⟩ : ∃ L, L = gs.length := ⟨_, rfl⟩
  have HM := Lib.hid hM
  have HL := Lib.hid hL
  have HF2 : Hid (∀ (W : World) (a b : Int), Calls Tryz.prog 43 #[.slice (some ⟨W.heap.size, 0, none⟩) 2 2] (W.alloc (.cells #[(.int .i64 a), (.int .i64 b)] 3)) fun r w' => r = .returned (.int .i64 (firstOf [a, b])) ∧ (W.alloc (.cells #[(.int .i64 a), (.int .i64 b)] 3)) = w') := Lib.hid (fun W a b => qFirst_any [a, b] _ _ _ (by simp) (Cells.row (heap_new rfl)))
  obtain ⟨R, hR⟩ : ∃ R, R = guardErr lk ht rc ts gs := ⟨_, rfl⟩
  have HR0 : Hid (R = G1 gs [rangeErr lk 1 8, rangeErr ht 0 536870912, someErr M 8, eachErr ts (-64) 64, rangeErr rc 0 1048576, someErr L 8]) := Lib.hid (by rw [hR, hM, hL]; rfl)
  rw [← hR]
  rw [← hM] at h1 ⊢
  rw [← hL] at h2 ⊢
  clear hM hL hR hT0 hG0
  go_enter Tryz.func10, Tryz.ntmps10
  go_wp2
  refine Calm.tail_below 6 (by kernel_rfl) (by kernel_rfl) ?_
  simp only [List.take_succ_cons, List.take_zero, List.drop_succ_cons, List.drop_zero]
  repeat (first | (first | (apply Calm.op_move; (focus rfl); (focus (first | exact .inl rfl | exact .inr rfl)); (focus ((try simp only [Act.eval, Array.getD_eq_getD_getElem?, List.getElem?_toArray, List.getElem?_cons_succ, List.getElem?_cons_zero, Option.getD_some]); rfl)); (try simp only [Act.put, List.setIfInBounds_toArray, List.set_cons_zero, List.set_cons_succ])) | (apply Calm.op_not; (focus rfl); (try simp only [Act.put, List.setIfInBounds_toArray, List.set_cons_zero, List.set_cons_succ])) | (apply Calm.op; (focus rfl); (focus (intro W hb; obtain ⟨hc, hf⟩ := bcell hb; clear hb hf; go_simp; (try go_bits); (try rfl); done)); (try simp only [Act.put, List.setIfInBounds_toArray, List.set_cons_zero, List.set_cons_succ]))) | (apply Calm.op_call; (focus rfl); (focus (intro W hb; obtain ⟨hc, hf⟩ := bcell hb; clear hb hf; go_simp; refine ⟨?_, ?_⟩; rfl; rfl)); (focus (intro W hb; first | (go_at_call 44; exact Calm.call_same hb (qRange_any _ _ _ _)))); (try simp only [Act.put, List.setIfInBounds_toArray, List.set_cons_zero, List.set_cons_succ])))
  refine wpQuiet_nil ?_
  intro w1 hb1
  obtain ⟨hb1c, hb1f⟩ := bcell hb1
  have hb1z := hb1.size
  (try simp at hb1z)
  (try have hb1z0 : w.heap.size < w1.heap.size := by omega)
  (try have hb1z1 : w.heap.size + 1 < w1.heap.size := by omega)
  (try have hb1z2 : w.heap.size + 1 + 1 < w1.heap.size := by omega)
  (try have hb1z3 : w.heap.size + 1 + 1 + 1 < w1.heap.size := by omega)
  (try have hb1z4 : w.heap.size + 1 + 1 + 1 + 1 < w1.heap.size := by omega)
  (try have hb1z5 : w.heap.size + 1 + 1 + 1 + 1 + 1 < w1.heap.size := by omega)
  have hb1' : Below w.heap.size w w1 := Below.trans (by (repeat (first | (with_reducible exact Below.refl _ _) | ((with_reducible refine Below.setCell ?_ ?_ _); rotate_left 1; focus (first | (simp; done) | (simp; omega) | (simp at *; omega))) | ((with_reducible refine Below.alloc ?_ ?_ _); rotate_left 1; focus (first | (simp; done) | (simp; omega) | (simp at *; omega))) | (with_reducible refine Below.drew ?_) | ((with_reducible refine Calm.step (by assumption) ?_ ?_); rotate_left 1; focus (first | (simp; done) | (simp; omega) | (simp at *; omega)))))) (hb1.mono (by simp))
  have K0 : Blk w1 w.heap.size #[(.int .i64 lk), (.int .i64 ht), .slice A1 M c1, (.int .i64 rc), .slice A2 L c2] := Blk.below (by (repeat (first | ((with_reducible refine Blk.at_ ?_); focus (first | rfl | (simp; done) | (simp; omega))) | (with_reducible refine Blk.alloc ?_ _) | (with_reducible refine Blk.below ?_ (by with_reducible assumption)) | (with_reducible refine Blk.drew ?_)))) hb1
  obtain ⟨E, hE⟩ : ∃ E, E = firstOf [rangeErr lk 1 8, rangeErr ht 0 536870912] := ⟨_, rfl⟩
  have HE := Lib.hid hE
  obtain ⟨w2, hw2⟩ : ∃ w2, w2 = w1.alloc (.cells #[(.int .i64 (rangeErr lk 1 8)), (.int .i64 (rangeErr ht 0 536870912))] 3) := ⟨_, rfl⟩
  have HB2 : Hid (Below w.heap.size w w2) := Lib.hid (by rw [hw2]; exact hb1'.alloc hb1'.size _)
  have K2 : Blk w2 w.heap.size #[(.int .i64 lk), (.int .i64 ht), .slice A1 M c1, (.int .i64 rc), .slice A2 L c2] := by rw [hw2]; exact K0.alloc _
  have hF := HF2.out w1 (rangeErr lk 1 8) (rangeErr ht 0 536870912)
  rw [← hw2, ← hE] at hF
  have HW2 := Lib.hid hw2
  have HFF := Lib.hid hF
  obtain ⟨c00, c01, c02, c03, c04, l0, f0⟩ := K2.o5
  clear hb1 hb1c hb1f hb1' K0 hE hw2 hF K2
  by_cases h0 : E = 0
  · have HR1 : Hid (R = G1 gs [someErr M 8, eachErr ts (-64) 64, rangeErr rc 0 1048576, someErr L 8]) := Lib.hid (by rw [HR0.out, G1_two0 _ _ (by rw [← HE.out]; exact h0)])
    rw [h0] at HFF
    clear HR0 HE h0
    by_cases hm0 : M = 0
    · have HRR : Hid (R = 12) := Lib.hid (by rw [HR1.out, some0 hm0, G1_consN _ _ (by decide)])
      have hmi : ((M : Nat) : Int) = 0 := by omega
      clear HR1
      go_wp2_with (go_at_call 43; rw [← HW2.out]; refine HFF.out.mono ?_; rintro r w3 ⟨rfl, rfl⟩)
      go_ret
      exact ⟨ret_i HRR.out.symm, HB2.out⟩
    · have hmi : ¬ ((M : Nat) : Int) = 0 := by omega
      by_cases hm8 : 8 < M
      · have HRR : Hid (R = 5) := Lib.hid (by rw [HR1.out, some5 hm8, G1_consN _ _ (by decide)])
        have hmj : (8 : Int) < ((M : Nat) : Int) := by omega
        clear HR1
        go_wp2_with (go_at_call 43; rw [← HW2.out]; refine HFF.out.mono ?_; rintro r w3 ⟨rfl, rfl⟩)
        go_ret
        exact ⟨ret_i HRR.out.symm, HB2.out⟩
      · have hmj : ¬ (8 : Int) < ((M : Nat) : Int) := by omega
        have HR2 : Hid (R = G1 gs [eachErr ts (-64) 64, rangeErr rc 0 1048576, someErr L 8]) := Lib.hid (by rw [HR1.out, someOk (by omega) (by omega), G1_cons0])
        have hm : ∀ k, k < (ts.map fun n => rangeErr n (-64) 64).length → (ts.map fun n => rangeErr n (-64) 64).getD k 0 = rangeErr (ts.getD k 0) (-64) 64 := fun k hk => by
          have hk' : k < ts.length := by simpa using hk
          simp [List.getD_eq_getElem?_getD, hk']
        have HMG := Lib.hid hm
        have HML : Hid ((ts.map fun n => rangeErr n (-64) 64).length = M) := Lib.hid (by rw [List.length_map, ← HM.out])
        clear HR1 hm
        go_wp2_with (go_at_call 43; rw [← HW2.out]; refine HFF.out.mono ?_; rintro r w3 ⟨rfl, rfl⟩)
        clear HW2 HFF HF2
        rw [show (((M : Nat) : Int) == 0) = false from beq_eq_false_iff_ne.2 hmi]
        go_loop [4, 5] (fun i _ => ∃ k : Nat, k ≤ M ∧ i = (.int .i64 ((k : Nat))) ∧ ∀ j, j < k → (ts.map fun n => rangeErr n (-64) 64).getD j 0 = 0) (fun i _ => M - (intOf i).toNat)
        case atStart => exact ⟨0, Nat.zero_le _, rfl, fun j hj => by omega⟩
        case round =>
          obtain ⟨k, hk, rfl, hz⟩ := hrel
          have HZ := Lib.hid hz
          clear hz
          by_cases hlt : k < M
          · obtain ⟨b, off, rfl, hbl, hc⟩ := HT.out (by rw [← HM.out]; omega)
            have hck := (HB2.out.cell (p := ⟨b, off + k, none⟩) hbl).trans (hc k (by rw [← HM.out]; exact hlt))
            have hbl2 := Nat.lt_of_lt_of_le hbl HB2.out.size
            have HG := Lib.hid (HMG.out k (by rw [HML.out]; exact hlt))
            clear hc
            obtain ⟨x, hx⟩ : ∃ x, x = ts.getD k 0 := ⟨_, rfl⟩
            rw [← hx] at hck HG
            clear hx
            by_cases h0 : rangeErr x (-64) 64 = 0
            · have H0 := Lib.hid h0
              clear h0
              go_wp2_with (go_at_call 44; refine (qRange_any _ _ _ _).mono ?_; rw [H0.out]; rintro r w' ⟨rfl, rfl⟩)
              go_round
              case rel => exact ⟨k + 1, by omega, by go_num, fun j hj => by
                rcases Nat.lt_or_ge j k with hjk | hjk
                · exact HZ.out j hjk
                · obtain rfl : j = k := by omega
                  rw [HG.out]; exact H0.out⟩
              case measure => simp [intOf]; omega
            · obtain ⟨e, he⟩ : ∃ e, e = rangeErr x (-64) 64 := ⟨_, rfl⟩
              rw [← he] at h0 HG
              have H1 := Lib.hid he
              have H2 := Lib.hid h0
              clear he
              go_wp2_with (go_at_call 44; refine (qRange_any _ _ _ _).mono ?_; rw [← H1.out]; rintro r w' ⟨rfl, rfl⟩)
              go_ret
              exact ⟨ret_i (by
                have h3 : eachErr ts (-64) 64 = e := by unfold eachErr; rw [firstOf_take HZ.out (by rw [HML.out]; exact hlt) (by rw [HG.out]; exact H2.out), HG.out]
                rw [HR2.out, h3, G1_consN _ _ H2.out]), HB2.out⟩
          · have HR3 : Hid (R = G1 gs [rangeErr rc 0 1048576, someErr L 8]) := Lib.hid (by
              have h3 : eachErr ts (-64) 64 = 0 := firstOf_zero (fun j hj => HZ.out j (by rw [HML.out] at hj; omega))
              rw [HR2.out, h3, G1_cons0])
            clear HR2 HMG HML HZ
            by_cases hrc : rangeErr rc 0 1048576 = 0
            · have H0 := Lib.hid hrc
              have HR4 : Hid (R = G1 gs [someErr L 8]) := Lib.hid (by rw [HR3.out, hrc, G1_cons0])
              clear HR3 hrc
              by_cases hl0 : L = 0
              · have HRR : Hid (R = 12) := Lib.hid (by rw [HR4.out, some0 hl0, G1_consN _ _ (by decide)])
                have hli : ((L : Nat) : Int) = 0 := by omega
                clear HR4
                go_wp2_with (go_at_call 44; refine (qRange_any _ _ _ _).mono ?_; rw [H0.out]; rintro r w' ⟨rfl, rfl⟩)
                go_ret
                exact ⟨ret_i HRR.out.symm, HB2.out⟩
              · have hli : ¬ ((L : Nat) : Int) = 0 := by omega
                by_cases hl8 : 8 < L
                · have HRR : Hid (R = 5) := Lib.hid (by rw [HR4.out, some5 hl8, G1_consN _ _ (by decide)])
                  have hlj : (8 : Int) < ((L : Nat) : Int) := by omega
                  clear HR4
                  go_wp2_with (go_at_call 44; refine (qRange_any _ _ _ _).mono ?_; rw [H0.out]; rintro r w' ⟨rfl, rfl⟩)
                  go_ret
                  exact ⟨ret_i HRR.out.symm, HB2.out⟩
                · have hlj : ¬ (8 : Int) < ((L : Nat) : Int) := by omega
                  have HR5 : Hid (R = guardErr2 gs) := Lib.hid (by rw [HR4.out, someOk (by omega) (by omega), G1_cons0, G1_nil])
                  clear HR4
                  go_wp2_with (go_at_call 44; refine (qRange_any _ _ _ _).mono ?_; rw [H0.out]; rintro r w' ⟨rfl, rfl⟩)
                  rw [show (((L : Nat) : Int) == 0) = false from beq_eq_false_iff_ne.2 hli]
                  go_loopw [7] (fun i wr => ∃ k : Nat, k ≤ L ∧ i = (.int .i64 ((k : Nat))) ∧ (∀ j, j < k → eltG gs j = 0) ∧ Below w2.heap.size w2 wr) (fun i _ => L - (intOf i).toNat)
                  case atStart => exact ⟨0, Nat.zero_le _, rfl, fun j hj => by omega, Below.refl _ _⟩
                  case round =>
                    obtain ⟨k, hk, rfl, hz, hB⟩ := hrel
                    have HZ := Lib.hid hz
                    have hsz := hB.size
                    obtain ⟨hbc, hbf⟩ := bcell hB
                    have HB := Lib.hid (HB2.out.trans (hB.mono HB2.out.size))
                    have HBB := Lib.hid hB
                    have l0' : w.heap.size < wr.heap.size := by omega
                    have d00 := (hbc _ 0 l0).trans c00
                    have d01 := (hbc _ 1 l0).trans c01
                    have d02 := (hbc _ 2 l0).trans c02
                    have d03 := (hbc _ 3 l0).trans c03
                    have d04 := (hbc _ 4 l0).trans c04
                    clear hz hB hbc hbf
                    by_cases hlt : k < L
                    · obtain ⟨b, off, rfl, hbl, hc⟩ := HGS.out (by rw [← HL.out]; omega)
                      have hck := (HB.out.cell (p := ⟨b, off + k, none⟩) hbl).trans (hc k (by rw [← HL.out]; exact hlt))
                      have hbl2 := Nat.lt_of_lt_of_le hbl HB.out.size
                      have HC0 := Lib.hid (fun j (hj : j < L) => (HB.out.cell (p := ⟨b, off + j, none⟩) hbl).trans (hc j (by rw [← HL.out]; exact hj)))
                      clear hc
                      obtain ⟨x, hx⟩ : ∃ x, x = gs.getD k 0 := ⟨_, rfl⟩
                      rw [← hx] at hck
                      have HX := Lib.hid hx
                      clear hx
                      by_cases hx0 : rangeErr x 0 16 = 0
                      · have H0x := Lib.hid hx0
                        clear hx0
                        by_cases hk0 : k = 0
                        · subst hk0
                          rw [Nat.add_zero] at hck
                          by_cases hxz : x = 0
                          · have HE0 : Hid (eltG gs 0 = 0) := Lib.hid (by rw [eltG_zero, ← HX.out, H0x.out, if_neg (by simp [hxz]), first0])
                            subst hxz
                            go_wp2_with (go_at_call 44; refine (qRange_any _ _ _ _).mono ?_; rw [H0x.out]; rintro r w' ⟨rfl, rfl⟩)
                            go_region
                            go_wp2
                            go_roundw
                            case rel => exact ⟨1, by omega, by first | rfl | go_num, fun j hj => by
                              obtain rfl : j = 0 := by omega
                              exact HE0.out, (by first | exact HBB.out | exact HBB.out.drew)⟩
                            case measure => simp [intOf]; omega
                          · have hxb1 : (x == 0) = false := beq_eq_false_iff_ne.2 hxz
                            have hxb2 : (x != 0) = true := bne_iff_ne.2 hxz
                            have HRR : Hid (R = 11) := Lib.hid (by
                              have h3 : eltG gs 0 = 11 := by rw [eltG_zero, ← HX.out, H0x.out, if_pos hxz, first0]
                              rw [HR5.out, g2_at HZ.out (by rw [← HL.out]; exact hlt) (by rw [h3]; decide), h3])
                            go_wp2_with (go_at_call 44; refine (qRange_any _ _ _ _).mono ?_; rw [H0x.out]; rintro r w' ⟨rfl, rfl⟩)
                            go_region
                            go_wp2
                            go_ret
                            exact ⟨ret_i HRR.out.symm, (by first | exact HB.out | exact HB.out.drew)⟩
                        · have hkp : 0 < k := by omega
                          obtain ⟨m, rfl⟩ : ∃ m, k = m + 1 := ⟨k - 1, by omega⟩
                          have hck2 := HC0.out m (by omega)
                          have hkb : (((m : Nat) : Int) + 1 == 0) = false := beq_eq_false_iff_ne.2 (by omega)
                          have hkj : (0 : Int) < ((m : Nat) : Int) + 1 := by omega
                          have hk2 : ((m : Nat) : Int) + 1 < (L : Int) := by omega
                          have hk3 : ((m : Nat) : Int) < (L : Int) := by omega
                          have hmL : m < L := by omega
                          have HEE : Hid (eltG gs (m + 1) = if x ≤ gs.getD m 0 then 11 else 0) := Lib.hid (by rw [eltG_pos hkp]; unfold ascAt; rw [← HX.out, H0x.out, first0]; simp)
                          obtain ⟨y, hy⟩ : ∃ y, y = gs.getD m 0 := ⟨_, rfl⟩
                          rw [← hy] at hck2 HEE
                          clear hy
                          by_cases hxy : x ≤ y
                          · have HRR : Hid (R = 11) := Lib.hid (by
                              have h3 : eltG gs (m + 1) = 11 := by rw [HEE.out, if_pos hxy]
                              rw [HR5.out, g2_at HZ.out (by rw [← HL.out]; exact hlt) (by rw [h3]; decide), h3])
                            go_wp2_with (go_at_call 44; refine (qRange_any _ _ _ _).mono ?_; rw [H0x.out]; rintro r w' ⟨rfl, rfl⟩)
                            refine Calm.tail_below 24 (by kernel_rfl) (by kernel_rfl) ?_
                            simp only [List.take_succ_cons, List.take_zero, List.drop_succ_cons, List.drop_zero]
                            repeat (first | (apply Calm.op_move; (focus rfl); (focus (first | exact .inl rfl | exact .inr rfl)); (focus ((try simp only [Act.eval, Array.getD_eq_getD_getElem?, List.getElem?_toArray, List.getElem?_cons_succ, List.getElem?_cons_zero, Option.getD_some]); rfl)); (try simp only [Act.put, List.setIfInBounds_toArray, List.set_cons_zero, List.set_cons_succ])) | (apply Calm.op_not; (focus rfl); (try simp only [Act.put, List.setIfInBounds_toArray, List.set_cons_zero, List.set_cons_succ])) | (apply Calm.op; (focus rfl); (focus (intro W hb; obtain ⟨hc, hf⟩ := bcell hb; clear hb hf; go_simp; (try go_bits); (try rfl); done)); (try simp only [Act.put, List.setIfInBounds_toArray, List.set_cons_zero, List.set_cons_succ])))
                            refine wpQuiet_nil ?_
                            intro w5 hb5
                            obtain ⟨hb5c, hb5f⟩ := bcell hb5
                            have hb5z := hb5.size
                            (try simp at hb5z)
                            (try have hb5z0 : w.heap.size < w5.heap.size := by omega)
                            (try have hb5z1 : w.heap.size + 1 < w5.heap.size := by omega)
                            (try have hb5z2 : w.heap.size + 1 + 1 < w5.heap.size := by omega)
                            (try have hb5z3 : w.heap.size + 1 + 1 + 1 < w5.heap.size := by omega)
                            (try have hb5z4 : w.heap.size + 1 + 1 + 1 + 1 < w5.heap.size := by omega)
                            (try have hb5z5 : w.heap.size + 1 + 1 + 1 + 1 + 1 < w5.heap.size := by omega)
                            have HB5 := Lib.hid (HBB.out.trans (hb5.mono hsz))
                            go_wp2
                            go_ret
                            exact ⟨ret_i HRR.out.symm, HB2.out.trans (HB5.out.mono HB2.out.size)⟩
                          · have HE0 : Hid (eltG gs (m + 1) = 0) := Lib.hid (by rw [HEE.out, if_neg hxy])
                            go_wp2_with (go_at_call 44; refine (qRange_any _ _ _ _).mono ?_; rw [H0x.out]; rintro r w' ⟨rfl, rfl⟩)
                            refine Calm.tail_below 24 (by kernel_rfl) (by kernel_rfl) ?_
                            simp only [List.take_succ_cons, List.take_zero, List.drop_succ_cons, List.drop_zero]
                            repeat (first | (apply Calm.op_move; (focus rfl); (focus (first | exact .inl rfl | exact .inr rfl)); (focus ((try simp only [Act.eval, Array.getD_eq_getD_getElem?, List.getElem?_toArray, List.getElem?_cons_succ, List.getElem?_cons_zero, Option.getD_some]); rfl)); (try simp only [Act.put, List.setIfInBounds_toArray, List.set_cons_zero, List.set_cons_succ])) | (apply Calm.op_not; (focus rfl); (try simp only [Act.put, List.setIfInBounds_toArray, List.set_cons_zero, List.set_cons_succ])) | (apply Calm.op; (focus rfl); (focus (intro W hb; obtain ⟨hc, hf⟩ := bcell hb; clear hb hf; go_simp; (try go_bits); (try rfl); done)); (try simp only [Act.put, List.setIfInBounds_toArray, List.set_cons_zero, List.set_cons_succ])))
                            refine wpQuiet_nil ?_
                            intro w5 hb5
                            obtain ⟨hb5c, hb5f⟩ := bcell hb5
                            have hb5z := hb5.size
                            (try simp at hb5z)
                            (try have hb5z0 : w.heap.size < w5.heap.size := by omega)
                            (try have hb5z1 : w.heap.size + 1 < w5.heap.size := by omega)
                            (try have hb5z2 : w.heap.size + 1 + 1 < w5.heap.size := by omega)
                            (try have hb5z3 : w.heap.size + 1 + 1 + 1 < w5.heap.size := by omega)
                            (try have hb5z4 : w.heap.size + 1 + 1 + 1 + 1 < w5.heap.size := by omega)
                            (try have hb5z5 : w.heap.size + 1 + 1 + 1 + 1 + 1 < w5.heap.size := by omega)
                            have HB5 := Lib.hid (HBB.out.trans (hb5.mono hsz))
                            go_wp2
                            go_roundw
                            case rel => exact ⟨m + 1 + 1, by omega, by go_num, fun j hj => by
                              rcases Nat.lt_or_ge j (m + 1) with hjk | hjk
                              · exact HZ.out j hjk
                              · obtain rfl : j = m + 1 := by omega
                                exact HE0.out, HB5.out⟩
                            case measure => simp [intOf]; omega
                      · obtain ⟨e, he⟩ : ∃ e, e = rangeErr x 0 16 := ⟨_, rfl⟩
                        rw [← he] at hx0
                        have H1 := Lib.hid he
                        have HRR : Hid (R = e) := Lib.hid (by
                          have h3 : eltG gs k = e := by unfold eltG; rw [← HX.out, ← H1.out, fo_consN hx0]
                          rw [HR5.out, g2_at HZ.out (by rw [← HL.out]; exact hlt) (by rw [h3]; exact hx0), h3])
                        clear he
                        go_wp2_with (go_at_call 44; refine (qRange_any _ _ _ _).mono ?_; rw [← H1.out]; rintro r w' ⟨rfl, rfl⟩)
                        go_ret
                        exact ⟨ret_i HRR.out.symm, HB.out⟩
                    · obtain rfl : k = L := by omega
                      have HRR : Hid (R = 0) := Lib.hid (by rw [HR5.out]; exact g2_zero (fun j hj => HZ.out j (by rw [HL.out]; exact hj)) (by rw [← HL.out]; omega))
                      go_wp2
                      go_ret
                      exact ⟨ret_i HRR.out.symm, HB.out⟩
            · obtain ⟨e, he⟩ : ∃ e, e = rangeErr rc 0 1048576 := ⟨_, rfl⟩
              rw [← he] at hrc HR3
              have H1 := Lib.hid he
              have HRR : Hid (R = e) := Lib.hid (by rw [HR3.out, G1_consN _ _ hrc])
              clear he HR3
              go_wp2_with (go_at_call 44; refine (qRange_any _ _ _ _).mono ?_; rw [← H1.out]; rintro r w' ⟨rfl, rfl⟩)
              go_ret
              exact ⟨ret_i HRR.out.symm, HB2.out⟩
  · have HRR : Hid (R = E) := Lib.hid (by rw [HR0.out, G1_twoN _ _ (by rw [← HE.out]; exact h0), HE.out])
    clear HR0 HE
    go_wp2_with (go_at_call 43; rw [← HW2.out]; refine HFF.out.mono ?_; rintro r w3 ⟨rfl, rfl⟩)
    go_ret
    exact ⟨ret_i HRR.out.symm, HB2.out⟩
end Go.Proofs.YtdeapbihbhoefaaGreatDoor

/- Contracts of Short and of dustGuard. -/
namespace Go.Proofs.YtdeapbihbhoefaaGreatDoor
open Go.RowKit
open Calm (bcell Blk)

theorem pShort_any (lk ht rc : Int) (A1 A2 : Option Addr) (M L c1 c2 : Nat) (w : World) :
    Calls Tryz.prog 5 #[.agg #[(.int .i64 lk), (.int .i64 ht), .slice A1 M c1, (.int .i64 rc), .slice A2 L c2]] w fun r w' => r = .returned (.bool (decide (M ≤ 9 ∧ L ≤ 9))) ∧ Below w.heap.size w w' := by
  by_cases h1 : M ≤ 9
  · have h1i : (M : Int) ≤ 9 := by omega
    by_cases h2 : L ≤ 9
    · have h2i : (L : Int) ≤ 9 := by omega
      have HE := Lib.hid (show decide (M ≤ 9 ∧ L ≤ 9) = true from decide_eq_true ⟨h1, h2⟩)
      go_enter Tryz.func5, Tryz.ntmps5
      go_wp2
      go_ret
      exact ⟨by first | rfl | (rw [HE.out]; rfl) | (simp [h2]; done), by (repeat (first | (with_reducible exact Below.refl _ _) | ((with_reducible refine Below.setCell ?_ ?_ _); rotate_left 1; focus (first | (simp; done) | (simp; omega) | (simp at *; omega))) | ((with_reducible refine Below.alloc ?_ ?_ _); rotate_left 1; focus (first | (simp; done) | (simp; omega) | (simp at *; omega))) | (with_reducible refine Below.drew ?_) | ((with_reducible refine Calm.step (by assumption) ?_ ?_); rotate_left 1; focus (first | (simp; done) | (simp; omega) | (simp at *; omega)))))⟩
    · have h2i : ¬ (L : Int) ≤ 9 := by omega
      have HE := Lib.hid (show decide (M ≤ 9 ∧ L ≤ 9) = false from decide_eq_false (fun h => h2 h.2))
      go_enter Tryz.func5, Tryz.ntmps5
      go_wp2
      go_ret
      exact ⟨by first | rfl | (rw [HE.out]; rfl) | (simp [h2]; done), by (repeat (first | (with_reducible exact Below.refl _ _) | ((with_reducible refine Below.setCell ?_ ?_ _); rotate_left 1; focus (first | (simp; done) | (simp; omega) | (simp at *; omega))) | ((with_reducible refine Below.alloc ?_ ?_ _); rotate_left 1; focus (first | (simp; done) | (simp; omega) | (simp at *; omega))) | (with_reducible refine Below.drew ?_) | ((with_reducible refine Calm.step (by assumption) ?_ ?_); rotate_left 1; focus (first | (simp; done) | (simp; omega) | (simp at *; omega)))))⟩
  · have h1i : ¬ (M : Int) ≤ 9 := by omega
    have HE := Lib.hid (show decide (M ≤ 9 ∧ L ≤ 9) = false from decide_eq_false (fun h => h1 h.1))
    go_enter Tryz.func5, Tryz.ntmps5
    go_wp2
    go_ret
    exact ⟨by first | rfl | (rw [HE.out]; rfl) | (simp [h2]; done), by (repeat (first | (with_reducible exact Below.refl _ _) | ((with_reducible refine Below.setCell ?_ ?_ _); rotate_left 1; focus (first | (simp; done) | (simp; omega) | (simp at *; omega))) | ((with_reducible refine Below.alloc ?_ ?_ _); rotate_left 1; focus (first | (simp; done) | (simp; omega) | (simp at *; omega))) | (with_reducible refine Below.drew ?_) | ((with_reducible refine Calm.step (by assumption) ?_ ?_); rotate_left 1; focus (first | (simp; done) | (simp; omega) | (simp at *; omega)))))⟩
end Go.Proofs.YtdeapbihbhoefaaGreatDoor

/- Plain laws of ProtectKeeps: the limits as sums of the taps. -/
namespace Go.Proofs.YtdeapbihbhoefaaGreatDoor
open Go.RowKit

end Go.Proofs.YtdeapbihbhoefaaGreatDoor

/- Plain laws of ProtectOpposite. -/
namespace Go.Proofs.YtdeapbihbhoefaaGreatDoor
open Go.RowKit

end Go.Proofs.YtdeapbihbhoefaaGreatDoor

/- Plain laws of ProtectLoudest: the search goes through all lists in their order. -/
namespace Go.Proofs.YtdeapbihbhoefaaGreatDoor
open Go.RowKit

end Go.Proofs.YtdeapbihbhoefaaGreatDoor

/- Plain laws: what the reference computes is what the program computes. -/
namespace Go.Proofs.YtdeapbihbhoefaaGreatDoor
open Go.RowKit

end Go.Proofs.YtdeapbihbhoefaaGreatDoor
