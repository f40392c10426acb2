/- Part 16 of the texts of the claim: Y11, Shelf, Y12, Flat. -/
import Derived.Test.YtdeapbihbhoefaaDoorPr15
import Derived.Test.YtdeapbihbhoefaaDoorPr14
import Derived.Maps.OwnOps
import Derived.Maps.OwnSet
import Derived.Maps.Views
import Derived.Shelf.Strings.Builder1
import Derived.Shelf.Strings.Builder2
import Derived.Shelf.Strings.OnBuilder
import Derived.Shelf.Strconv.Itoa0
import Derived.Shelf.Strconv.Itoa1
import Derived.Shelf.LaysM
import Derived.Shelf.Strconv.Itoa2
import Derived.Shelf.Strconv.Itoa3
import Derived.Test.YtdeapbihbhoefaaDoorProg
import Derived.Lib.LaidTab
import Derived.Lib.ItoaLen
import Derived.Laws.OwnMore
import Derived.WalkKit
import Derived.ProofKit
import Derived.OpenShut
import Derived.Below
import Derived.Carry
import Derived.ChangeSame

/- Contract of Cool: a map that the call makes holds the heats that were seen. -/
namespace Go.Proofs.YtdeapbihbhoefaaDoor
open Go.RowKit
open Calm (bcell Blk)
open Go.Maps (Keyed)

theorem plainElem_bool_inv {H : Type} {P : Program} {e : TypeId} (he : P.underlying e = some .bool) {v : Value} {z : DataW H × List MemPlace} (h : plainElem P e v = some z) : ∃ b, v = .bool b ∧ z = (.lit (.bool b), []) := by
  unfold plainElem at h
  rw [he] at h
  cases v <;> simp at h
  exact ⟨_, rfl, h.symm⟩
/-- a look-up in a map of the call's own whose elements are bools. -/
theorem wpList_lookup_own_bool {H : Type} {P : Program} (w : World) {ops : Array Oper} {rest : List Oper} {o : Oper} {a : Act} {Q : Exit → Act → World → Prop}
    (hg : o.guard = none) (m x : Operand) (t : TypeId) (hop : o.op = Op.lookup t m x false)
    (k e : TypeId) (K : Keyed P k) (ht : P.underlying t = some (.map k e)) (he : P.underlying e = some .bool) (hz : (zeroValue e).run P w = .ok (.bool false) w) (b n : Nat) (D : DataW H)
    (hm : a.eval m = .map (some b)) (hown : w.ownsMap P k (plainElem P e) b n D) (key : Value) (kl : Lit) (hx : a.eval x = key) (hkey : keyOf P k key = some kl)
    (hK : ∀ c : Bool, D.atKey kl (.lit (.bool false)) = .lit (.bool c) → wpList P ops Q rest (a.put o.dst (.bool c)) w) :
    wpList P ops Q (o :: rest) a w := by
  refine wpList_plain hg fun K' hK' => ?_
  obtain ⟨v, ps, hrun, hv⟩ := hown.lookup K ht hz (plainElem_bool he false) hkey
  obtain ⟨c, rfl, hc⟩ := plainElem_bool_inv he hv
  simp only [Prod.mk.injEq] at hc
  unfold Oper.wp
  simp [execOp, hop, hm, hx, hrun, Result.andThen]
  exact hK' _ _ (hK c hc.1)
theorem Tryd.keyI : Go.Maps.Keyed Tryd.prog 3 := Go.Maps.int_keyed Tryd.underlying3
theorem zeroB (w : World) : (zeroValue 4).run Tryd.prog w = .ok (.bool false) w := by kernel_rfl

/-- a map of the heats of the first k steps. -/
def SeenMap (lk h : Int) (k B : Nat) (W : World) : Prop :=
  ∃ D : DataW Unit, W.ownsMap Tryd.prog 3 (plainElem Tryd.prog 4) B k D ∧ ∀ x : Int, D.atKey (.int .i64 x) (.lit (.bool false)) = .lit (.bool (decide (∃ j, j < k ∧ coolK lk h j = x)))
theorem SeenMap.kept {lk h : Int} {k B : Nat} {W W' : World} {row : Option Nat} (hs : SeenMap lk h k B W) (hg : W.grownBy W' row) (hne : some B ≠ row) : SeenMap lk h k B W' := by
  obtain ⟨D, h1, h2⟩ := hs
  exact ⟨D, h1.kept hg hne, h2⟩
theorem grownBy_below {W W' : World} (h : Below W.heap.size W W') (row : Option Nat) : W.grownBy W' row := ⟨h.os, h.tape, h.output, h.size, fun k hk _ => h.block k hk⟩
theorem SeenMap.below {lk h : Int} {k B : Nat} {W W' : World} (hs : SeenMap lk h k B W) (hb : Below W.heap.size W W') : SeenMap lk h k B W' := hs.kept (grownBy_below hb none) (by simp)
theorem SeenMap.put {lk h : Int} {k B : Nat} {W : World} {D : DataW Unit} (h1 : W.ownsMap Tryd.prog 3 (plainElem Tryd.prog 4) B (k + 1) (D.put (.int .i64 (coolK lk h k)) (.lit (.bool true)))) (hD : Maps.IsMap D)
    (h2 : ∀ x : Int, D.atKey (.int .i64 x) (.lit (.bool false)) = .lit (.bool (decide (∃ j, j < k ∧ coolK lk h j = x)))) : SeenMap lk h (k + 1) B W := by
  refine ⟨_, h1, fun x => ?_⟩
  by_cases hx : x = coolK lk h k
  · subst hx
    rw [Maps.atKey_put_same hD (by simp [WideAt.IsKeyLit])]
    rw [decide_eq_true ⟨k, by omega, rfl⟩]
  · rw [Maps.atKey_put_other (by simpa using hx), h2]
    congr 2
    rw [decide_eq_decide]
    constructor
    · rintro ⟨j, hj, e⟩
      exact ⟨j, by omega, e⟩
    · rintro ⟨j, hj, e⟩
      rcases Nat.lt_or_ge j k with h3 | h3
      · exact ⟨j, h3, e⟩
      · obtain rfl : j = k := by omega
        exact absurd e.symm hx
/-- among the heats of the first steps there is this one just where the last step did not cool. -/
theorem seen_iff {lk h : Int} (h0 : 0 ≤ h) {k : Nat} (hs : ∀ j, j + 1 < k → coolK lk h (j + 1) < coolK lk h j) : (∃ j, j < k ∧ coolK lk h j = coolK lk h k) ↔ (0 < k ∧ coolK lk h k = coolK lk h (k - 1)) := by
  constructor
  · rintro ⟨j, hj, e⟩
    refine ⟨by omega, ?_⟩
    have mono : ∀ m, j + m < k → coolK lk h (j + m) + m ≤ coolK lk h j := by
      intro m
      induction m with
      | zero => intro _; simp
      | succ m ih =>
        intro hm
        have h1 := ih (by omega)
        have h2 := hs (j + m) (by omega)
        rw [show j + (m + 1) = j + m + 1 by omega]
        omega
    have h1 := mono (k - 1 - j) (by omega)
    rw [show j + (k - 1 - j) = k - 1 by omega] at h1
    have h2 : coolK lk h k ≤ coolK lk h (k - 1) := by
      obtain ⟨m, rfl⟩ : ∃ m, k = m + 1 := ⟨k - 1, by omega⟩
      exact (coolF_bd lk (coolK_bd lk h0 m).1).2
    omega
  · rintro ⟨h1, e⟩
    exact ⟨k - 1, by omega, e.symm⟩
def coolErr (lk ht rc : Int) (ts gs : List Int) (a b : Int) : Int := firstOf [guardErr lk ht rc ts gs, rangeErr a 0 536870912, rangeErr b 0 536870912]
theorem coolErr_zero {lk ht rc a b : Int} {ts gs : List Int} (e : coolErr lk ht rc ts gs a b = 0) : guardErr lk ht rc ts gs = 0 ∧ (0 ≤ a ∧ a ≤ 536870912) ∧ (0 ≤ b ∧ b ≤ 536870912) := by
  have h := firstOf_eq_zero.1 e
  exact ⟨h _ (by simp), rangeErr_zero.1 (h (rangeErr a 0 536870912) (by simp)), rangeErr_zero.1 (h (rangeErr b 0 536870912) (by simp))⟩

set_option maxHeartbeats 1000000 in
theorem Cool_bad (lk ht rc a b : Int) (ts gs : List Int) (A1 A2 : Option Addr) (M L c1 c2 : Nat) (w : World) (hM : M = ts.length) (hL : L = gs.length) (hT : Cells w A1 ts) (hG : Cells w A2 gs) (h1 : M ≤ 1000) (h2 : L ≤ 1000) (he : coolErr lk ht rc ts gs a b ≠ 0) :
    Calls Tryd.prog 50 #[.agg #[(.int .i64 (lk)), (.int .i64 (ht)), .slice A1 M c1, (.int .i64 (rc)), .slice A2 L c2], (.int .i64 (a)), (.int .i64 (b))] w fun r w' => r = .returned (.tuple #[(.int .i64 (0)), (.int .i64 (coolErr lk ht rc ts gs a b))]) ∧ Below w.heap.size w w' := by
  have HCG : Hid (∀ W, Cells W A1 ts → Cells W A2 gs → Calls Tryd.prog 20 #[.agg #[(.int .i64 (lk)), (.int .i64 (ht)), .slice A1 M c1, (.int .i64 (rc)), .slice A2 L c2]] W fun r w' => r = .returned (.int .i64 (guardErr lk ht rc ts gs)) ∧ Below W.heap.size W w') := Lib.hid (fun W q1 q2 => by rw [hM, hL]; exact checkGuard_any lk ht rc ts gs A1 A2 c1 c2 W q1 q2 (by omega) (by omega))
  have HF : Hid (∀ W : World, Calls Tryd.prog 70 #[.slice (some ⟨W.heap.size, 0, none⟩) 3 3] (W.alloc (.cells #[(.int .i64 (guardErr lk ht rc ts gs)), (.int .i64 (rangeErr a 0 536870912)), (.int .i64 (rangeErr b 0 536870912))] 31)) fun r w' => r = .returned (.int .i64 (coolErr lk ht rc ts gs a b)) ∧ (W.alloc (.cells #[(.int .i64 (guardErr lk ht rc ts gs)), (.int .i64 (rangeErr a 0 536870912)), (.int .i64 (rangeErr b 0 536870912))] 31)) = w') :=
    Lib.hid (fun W => first_cells [guardErr lk ht rc ts gs, rangeErr a 0 536870912, rangeErr b 0 536870912] W (by simp))
  have HT := Lib.hid hT
  have HG := Lib.hid hG
  obtain ⟨E, hE⟩ : ∃ E, E = coolErr lk ht rc ts gs a b := ⟨_, rfl⟩
  rw [← hE] at HF he ⊢
  obtain ⟨e1, h1⟩ : ∃ e1, e1 = guardErr lk ht rc ts gs := ⟨_, rfl⟩
  rw [← h1] at HCG HF
  obtain ⟨ra, hra⟩ : ∃ ra, ra = rangeErr a 0 536870912 := ⟨_, rfl⟩
  obtain ⟨rb, hrb⟩ : ∃ rb, rb = rangeErr b 0 536870912 := ⟨_, rfl⟩
  have HHA : Hid (∀ W, Calls Tryd.prog 76 #[(.int .i64 (a))] W fun r w' => r = .returned (.int .i64 (ra)) ∧ W = w') := Lib.hid (fun W => by rw [hra]; exact checkHeat_any a W)
  have HHB : Hid (∀ W, Calls Tryd.prog 76 #[(.int .i64 (b))] W fun r w' => r = .returned (.int .i64 (rb)) ∧ W = w') := Lib.hid (fun W => by rw [hrb]; exact checkHeat_any b W)
  rw [← hra, ← hrb] at HF
  clear hM hL hT hG hE h1 hra hrb
  go_enter Tryd.func50, Tryd.ntmps50
  go_wp2_with (go_at_call 20; refine (HCG.out _ (HT.out.below (by (repeat (first | (with_reducible exact Below.refl _ _) | ((with_reducible refine Below.setCell ?_ ?_ _); rotate_left 1; focus (first | (simp; done) | (simp; omega) | (simp at *; omega))) | ((with_reducible refine Below.alloc ?_ ?_ _); rotate_left 1; focus (first | (simp; done) | (simp; omega) | (simp at *; omega))) | (with_reducible refine Below.drew ?_) | ((with_reducible refine Calm.step (by assumption) ?_ ?_); rotate_left 1; focus (first | (simp; done) | (simp; omega) | (simp at *; omega))))))) (HG.out.below (by (repeat (first | (with_reducible exact Below.refl _ _) | ((with_reducible refine Below.setCell ?_ ?_ _); rotate_left 1; focus (first | (simp; done) | (simp; omega) | (simp at *; omega))) | ((with_reducible refine Below.alloc ?_ ?_ _); rotate_left 1; focus (first | (simp; done) | (simp; omega) | (simp at *; omega))) | (with_reducible refine Below.drew ?_) | ((with_reducible refine Calm.step (by assumption) ?_ ?_); rotate_left 1; focus (first | (simp; done) | (simp; omega) | (simp at *; omega)))))))).mono ?_; rintro r w1 ⟨rfl, hb1⟩; have HB1 := Lib.hid (show Below w.heap.size w w1 from Below.trans (by (repeat (first | (with_reducible exact Below.refl _ _) | ((with_reducible refine Below.setCell ?_ ?_ _); rotate_left 1; focus (first | (simp; done) | (simp; omega) | (simp at *; omega))) | ((with_reducible refine Below.alloc ?_ ?_ _); rotate_left 1; focus (first | (simp; done) | (simp; omega) | (simp at *; omega))) | (with_reducible refine Below.drew ?_) | ((with_reducible refine Calm.step (by assumption) ?_ ?_); rotate_left 1; focus (first | (simp; done) | (simp; omega) | (simp at *; omega)))))) (hb1.mono (by simp; try omega))); clear hb1; refine Hid.out ?_)
  unfold Hid
  go_wp2_with (go_at_call 76; refine (HHA.out _).mono ?_; rintro r w2 ⟨rfl, rfl⟩; refine Hid.out ?_)
  unfold Hid
  go_wp2_with (first
    | (go_at_call 76; refine (HHB.out _).mono ?_; rintro r w3 ⟨rfl, rfl⟩)
    | (go_at_call 70; refine (HF.out _).mono ?_; rintro r w4 ⟨rfl, rfl⟩))
  go_ret2
  exact ⟨rfl, HB1.out.alloc HB1.out.size _⟩

set_option maxRecDepth 100000 in
set_option maxHeartbeats 2000000 in
theorem Cool_ok (lk ht rc a b : Int) (ts gs : List Int) (A1 A2 : Option Addr) (M L c1 c2 : Nat) (w : World) (hM : M = ts.length) (hL : L = gs.length) (hT : Cells w A1 ts) (hG : Cells w A2 gs) (h1 : M ≤ 1000) (h2 : L ≤ 1000) (he : coolErr lk ht rc ts gs a b = 0) :
    Calls Tryd.prog 50 #[.agg #[(.int .i64 (lk)), (.int .i64 (ht)), .slice A1 M c1, (.int .i64 (rc)), .slice A2 L c2], (.int .i64 (a)), (.int .i64 (b))] w fun r w' => r = .returned (.tuple #[(.int .i64 ((coolR lk a b).1)), (.int .i64 ((coolR lk a b).2))]) ∧ Below w.heap.size w w' := by
  have hmm := @run_makeMap Tryd.prog
  obtain ⟨q1, ⟨a0, a1⟩, b0, b1⟩ := coolErr_zero he
  have hlk := (guard_valid q1).lk
  have HCG : Hid (∀ W, Cells W A1 ts → Cells W A2 gs → Calls Tryd.prog 20 #[.agg #[(.int .i64 (lk)), (.int .i64 (ht)), .slice A1 M c1, (.int .i64 (rc)), .slice A2 L c2]] W fun r w' => r = .returned (.int .i64 (0)) ∧ Below W.heap.size W w') := Lib.hid (fun W p1 p2 => by
    have := checkGuard_any lk ht rc ts gs A1 A2 c1 c2 W p1 p2 (by omega) (by omega)
    rwa [← hM, ← hL, q1] at this)
  have HHT : Hid (∀ (n : Int) W, 0 ≤ n → n ≤ 536870912 → Calls Tryd.prog 76 #[(.int .i64 (n))] W fun r w' => r = .returned (.int .i64 (0)) ∧ W = w') := Lib.hid (fun n W p1 p2 => by
    have := checkHeat_any n W
    rwa [rangeErr_in p1 p2] at this)
  have HF : Hid (∀ W : World, Calls Tryd.prog 70 #[.slice (some ⟨W.heap.size, 0, none⟩) 3 3] (W.alloc (.cells #[(.int .i64 (0)), (.int .i64 (0)), (.int .i64 (0))] 31)) fun r w' => r = .returned (.int .i64 (0)) ∧ (W.alloc (.cells #[(.int .i64 (0)), (.int .i64 (0)), (.int .i64 (0))] 31)) = w') := Lib.hid (fun W => first_cells [0, 0, 0] W (by simp))
  have HCO : Hid (∀ (x : Int) W, 0 ≤ x → x ≤ 536870912 → Calls Tryd.prog 92 #[.agg #[(.int .i64 (lk)), (.int .i64 (ht)), .slice A1 M c1, (.int .i64 (rc)), .slice A2 L c2], (.int .i64 (x))] W fun r w' => r = .returned (.int .i64 (coolF lk x)) ∧ Below W.heap.size W w') := Lib.hid (fun x W p1 p2 => cooled_any lk ht rc x A1 A2 M c1 L c2 W hlk ⟨p1, by omega⟩)
  have HT := Lib.hid hT
  have HG := Lib.hid hG
  obtain ⟨R, hR⟩ : ∃ R, R = coolR lk a b := ⟨_, rfl⟩
  have HR := Lib.hid hR
  rw [← hR]
  clear hM hL hT hG he q1 hR hlk
  go_enter Tryd.func50, Tryd.ntmps50
  go_wp2_with (first
    | (go_at_call 20; refine (HCG.out _ (HT.out.below (by (repeat (first | (with_reducible exact Below.refl _ _) | ((with_reducible refine Below.setCell ?_ ?_ _); rotate_left 1; focus (first | (simp; done) | (simp; omega) | (simp at *; omega))) | ((with_reducible refine Below.alloc ?_ ?_ _); rotate_left 1; focus (first | (simp; done) | (simp; omega) | (simp at *; omega))) | (with_reducible refine Below.drew ?_) | ((with_reducible refine Calm.step (by assumption) ?_ ?_); rotate_left 1; focus (first | (simp; done) | (simp; omega) | (simp at *; omega))))))) (HG.out.below (by (repeat (first | (with_reducible exact Below.refl _ _) | ((with_reducible refine Below.setCell ?_ ?_ _); rotate_left 1; focus (first | (simp; done) | (simp; omega) | (simp at *; omega))) | ((with_reducible refine Below.alloc ?_ ?_ _); rotate_left 1; focus (first | (simp; done) | (simp; omega) | (simp at *; omega))) | (with_reducible refine Below.drew ?_) | ((with_reducible refine Calm.step (by assumption) ?_ ?_); rotate_left 1; focus (first | (simp; done) | (simp; omega) | (simp at *; omega)))))))).mono ?_; rintro r w1 ⟨rfl, hb1⟩; have HB1 := Lib.hid (show Below w.heap.size w w1 from Below.trans (by (repeat (first | (with_reducible exact Below.refl _ _) | ((with_reducible refine Below.setCell ?_ ?_ _); rotate_left 1; focus (first | (simp; done) | (simp; omega) | (simp at *; omega))) | ((with_reducible refine Below.alloc ?_ ?_ _); rotate_left 1; focus (first | (simp; done) | (simp; omega) | (simp at *; omega))) | (with_reducible refine Below.drew ?_) | ((with_reducible refine Calm.step (by assumption) ?_ ?_); rotate_left 1; focus (first | (simp; done) | (simp; omega) | (simp at *; omega)))))) (hb1.mono (by simp; try omega))); have G1 := Lib.hid (show Blk w1 w.heap.size #[(.int .i64 (lk)), (.int .i64 (ht)), .slice A1 M c1, (.int .i64 (rc)), .slice A2 L c2] from Blk.below (by (repeat (first | ((with_reducible refine Blk.at_ ?_); focus (first | rfl | (simp; done) | (simp; omega))) | (with_reducible refine Blk.alloc ?_ _) | (with_reducible refine Blk.below ?_ (by with_reducible assumption)) | (with_reducible refine Blk.drew ?_)))) hb1); obtain ⟨g0, g1, g2, g3, g4, gl, gf⟩ := G1.out.o5; clear hb1)
    | (go_at_call 76; refine (HHT.out _ _ (by omega) (by omega)).mono ?_; rintro r w2 ⟨rfl, rfl⟩)
    | (go_at_call 70; refine (HF.out _).mono ?_; rintro r w4 ⟨rfl, rfl⟩))
  have hz1 := HB1.out.size
  have hglt := G1.out.lt
  have hM0 : SeenMap lk a 0 (w1.heap.size + 1) ((w1.alloc (.cells #[(.int .i64 (0)), (.int .i64 (0)), (.int .i64 (0))] 31)).alloc (.map #[] 0)) := by
    refine ⟨.map [], ?_, fun x => ?_⟩
    · have := World.ownsMap_made (H := Unit) (w1.alloc (.cells #[(.int .i64 (0)), (.int .i64 (0)), (.int .i64 (0))] 31)) Tryd.prog 3 (plainElem Tryd.prog 4)
      simpa using this
    · rw [decide_eq_false (by rintro ⟨j, hj, _⟩; omega)]
      rfl
  have hK0 : Blk ((w1.alloc (.cells #[(.int .i64 (0)), (.int .i64 (0)), (.int .i64 (0))] 31)).alloc (.map #[] 0)) w.heap.size #[(.int .i64 (lk)), (.int .i64 (ht)), .slice A1 M c1, (.int .i64 (rc)), .slice A2 L c2] := (G1.out.alloc _).alloc _
  have hB0 : Below w.heap.size w ((w1.alloc (.cells #[(.int .i64 (0)), (.int .i64 (0)), (.int .i64 (0))] 31)).alloc (.map #[] 0)) := (HB1.out.alloc hz1 _).alloc (by simp; omega) _
  have HM0 := Lib.hid hM0
  have HK0 := Lib.hid hK0
  have HB0 := Lib.hid hB0
  clear hM0 hK0 hB0 hmm g0 g1 g2 g3 g4 gl gf
  go_loopw [1, 10] (fun f s wr => ∃ k : Nat, (k : Int) ≤ a + 1 ∧ f = (.int .i64 (coolK lk a k)) ∧ s = (.int .i64 ((k : Int))) ∧ (∀ j, j < k → b < coolK lk a j) ∧ (∀ j, j + 1 < k → coolK lk a (j + 1) < coolK lk a j) ∧ SeenMap lk a k (w1.heap.size + 1) wr ∧ Blk wr w.heap.size #[(.int .i64 (lk)), (.int .i64 (ht)), .slice A1 M c1, (.int .i64 (rc)), .slice A2 L c2] ∧ Below w.heap.size w wr) (fun _ s _ => (a.toNat + 3) - (intOf s).toNat)
  case atStart => exact ⟨0, by omega, rfl, rfl, fun j hj => by omega, fun j hj => by omega, HM0.out, HK0.out, HB0.out⟩
  case round =>
    obtain ⟨k, hk, rfl, rfl, hgt, hst, hm, hK, hB⟩ := hrel
    have HGT := Lib.hid hgt
    have HST := Lib.hid hst
    have HMM := Lib.hid hm
    have HKK := Lib.hid hK
    have HBB := Lib.hid hB
    obtain ⟨c0, c1'⟩ := coolK_bd lk a0 k
    obtain ⟨c, hc⟩ : ∃ c, c = coolK lk a k := ⟨_, rfl⟩
    rw [← hc] at c0 c1' ⊢
    have HC := Lib.hid hc
    clear hgt hst hm hK hB hc HM0 HK0 HB0
    by_cases hle : c ≤ b
    · have hR : R = ((k : Int), 0) := by
        rw [HR.out]
        refine coolR_done a0 (fun j hj => ⟨HGT.out j hj, ?_⟩) (by rw [← HC.out]; exact hle)
        rcases Nat.lt_or_ge (j + 1) k with h | h
        · have := HST.out j h
          omega
        · obtain rfl : j + 1 = k := by omega
          have := HGT.out j (by omega)
          rw [← HC.out]
          omega
      subst hR
      go_wp2
      go_ret2
      exact ⟨rfl, HBB.out⟩
    · have hlt : b < c := by omega
      by_cases hs : 0 < k ∧ c = coolK lk a (k - 1)
      · have hR : R = (0, 24) := by
          obtain ⟨m, rfl⟩ : ∃ m, k = m + 1 := ⟨k - 1, by omega⟩
          rw [HR.out]
          refine coolR_stuck a0 (k := m) (fun j hj => ⟨HGT.out j (by omega), ?_⟩) (HGT.out m (by omega)) (by rw [← HC.out]; exact hs.2)
          have := HST.out j (by omega)
          omega
        have hsn : decide (∃ j, j < k ∧ coolK lk a j = c) = true := decide_eq_true (by rw [HC.out]; exact (seen_iff a0 HST.out).2 ⟨hs.1, by rw [← HC.out]; exact hs.2⟩)
        have HSN := Lib.hid hsn
        subst hR
        clear hs hsn hle
        obtain ⟨D, hown, hat⟩ := HMM.out
        have HOWN := Lib.hid hown
        have HAT := Lib.hid (hat c)
        clear hown hat
        go_wp2_with (at_lookup; refine wpList_lookup_own_bool _ rfl _ _ 118 rfl 3 4 Tryd.keyI Tryd.underlying118 Tryd.underlying4 (zeroB _) (w1.heap.size + 1) k _ rfl HOWN.out _ _ rfl (Go.Maps.keyOf_int_mk Tryd.underlying3 (WalkArith.wf_i64 (by omega))) ?_; intro v hv; obtain rfl : v = true := by (rw [HAT.out, HSN.out] at hv; simpa using hv.symm))
        go_ret2
        exact ⟨rfl, HBB.out⟩
      · have hsn : decide (∃ j, j < k ∧ coolK lk a j = c) = false := decide_eq_false (by rw [HC.out]; exact fun h => hs (by have := (seen_iff a0 HST.out).1 h; rw [← HC.out] at this; exact this))
        have HSN := Lib.hid hsn
        have HNE : Hid (∀ j, j < k → coolK lk a (j + 1) ≠ coolK lk a j) := Lib.hid (fun j hj => by
          rcases Nat.lt_or_ge (j + 1) k with h | h
          · have := HST.out j h
            omega
          · obtain rfl : j + 1 = k := by omega
            intro e
            exact hs ⟨by omega, by rw [HC.out]; exact e⟩)
        have hfall := coolK_fall (to := b) a0 k (fun j hj => ⟨HGT.out j hj, HNE.out j hj⟩)
        rw [← HC.out] at hfall
        have HST2 : Hid (∀ j, j + 1 < k + 1 → coolK lk a (j + 1) < coolK lk a j) := Lib.hid (fun j hj => by
          have h1 := HNE.out j (by omega)
          have h2 : coolK lk a (j + 1) ≤ coolK lk a j := (coolF_bd lk (coolK_bd lk a0 j).1).2
          omega)
        clear hs hsn hle
        obtain ⟨D, hown, hat⟩ := HMM.out
        have HOWN := Lib.hid hown
        have HAT := Lib.hid hat
        have hkm : k < maxLen := by unfold maxLen; omega
        have hHK := HKK.out.lt
        clear hown hat
        go_wp2_with (first
          | (at_lookup; refine wpList_lookup_own_bool _ rfl _ _ 118 rfl 3 4 Tryd.keyI Tryd.underlying118 Tryd.underlying4 (zeroB _) (w1.heap.size + 1) k _ rfl HOWN.out _ _ rfl (Go.Maps.keyOf_int_mk Tryd.underlying3 (WalkArith.wf_i64 (by omega))) ?_; intro v hv; obtain rfl : v = false := by (rw [HAT.out, HSN.out] at hv; simpa using hv.symm))
          | (at_mapUpdate; refine wpList_mapUpdate_own _ rfl _ _ _ 118 rfl 3 4 Tryd.keyI Tryd.underlying118 _ (w1.heap.size + 1) k _ rfl HOWN.out hkm _ _ _ rfl rfl (Go.Maps.keyOf_int_mk Tryd.underlying3 (WalkArith.wf_i64 (by omega))) _ [] (plainElem_bool Tryd.underlying4 true) ?_; intro w9 hown9 hgrow9; refine Hid.out ?_))
        unfold Hid
        have HS9 : Hid (SeenMap lk a (k + 1) (w1.heap.size + 1) w9) := Lib.hid (SeenMap.put (by rw [← HC.out]; exact hown9) HOWN.out.isMap HAT.out)
        have hne9 : ∀ r, some (w1.heap.size + 1) = some r → r ≠ w.heap.size := fun r e => by cases e; omega
        have HK9 := Lib.hid (grown_blk HKK.out hgrow9 hne9)
        have HB9 := Lib.hid (HBB.out.grown hgrow9 HBB.out.size (fun r e => by cases e; omega))
        have hz9 := HB9.out.size
        obtain ⟨g0, g1, g2, g3, g4, gl, gf⟩ := HK9.out.o5
        clear hown9 hgrow9 hne9
        go_wp2_with (go_at_call 92; refine (HCO.out _ _ (by omega) (by omega)).mono ?_; rintro r w10 ⟨rfl, hb10⟩; have HB10 := Lib.hid (HB9.out.trans (hb10.mono hz9)); have HK10 := Lib.hid (HK9.out.below hb10); have HS10 := Lib.hid (HS9.out.below hb10); clear hb10)
        go_roundw
        case rel =>
          refine ⟨k + 1, by omega, by rw [HC.out]; rfl, by go_num, fun j hj => ?_, HST2.out, HS10.out, HK10.out, HB10.out⟩
          rcases Nat.lt_or_ge j k with h | h
          · exact HGT.out j h
          · obtain rfl : j = k := by omega
            rw [← HC.out]; exact hlt
        case measure => simp [intOf]; omega
/-- Cool, whatever its arguments. -/
def coolE (lk ht rc : Int) (ts gs : List Int) (a b : Int) : Int × Int := if coolErr lk ht rc ts gs a b = 0 then coolR lk a b else (0, coolErr lk ht rc ts gs a b)
theorem Cool_any (lk ht rc a b : Int) (ts gs : List Int) (A1 A2 : Option Addr) (M L c1 c2 : Nat) (w : World) (hM : M = ts.length) (hL : L = gs.length) (hT : Cells w A1 ts) (hG : Cells w A2 gs) (h1 : M ≤ 1000) (h2 : L ≤ 1000) :
    Calls Tryd.prog 50 #[.agg #[(.int .i64 (lk)), (.int .i64 (ht)), .slice A1 M c1, (.int .i64 (rc)), .slice A2 L c2], (.int .i64 (a)), (.int .i64 (b))] w fun r w' => r = .returned (.tuple #[(.int .i64 ((coolE lk ht rc ts gs a b).1)), (.int .i64 ((coolE lk ht rc ts gs a b).2))]) ∧ Below w.heap.size w w' := by
  unfold coolE
  by_cases he : coolErr lk ht rc ts gs a b = 0
  · rw [if_pos he]
    exact Cool_ok lk ht rc a b ts gs A1 A2 M L c1 c2 w hM hL hT hG h1 h2 he
  · rw [if_neg he]
    exact Cool_bad lk ht rc a b ts gs A1 A2 M L c1 c2 w hM hL hT hG h1 h2 he
end Go.Proofs.YtdeapbihbhoefaaDoor

/- Contracts of the library at this program, in plain words (written by the kit's own tool, cut to what is used). -/
namespace Go.Proofs
open Go.Shelf
def Tryd.lays156_ren : Go.Shelf.Ren := ⟨fun | 156 => 101 | 165 => 108 | 166 => 109 | 169 => 110 | 240 => 113 | 241 => 114 | 276 => 119 | 277 => 120 | n => n, fun | 31 => 127 | 9 => 9 | 3 => 3 | 4 => 4 | 0 => 0 | 20 => 20 | 72 => 140 | 76 => 144 | 70 => 137 | 37 => 138 | 75 => 143 | 127 => 153 | 164 => 160 | 5 => 5 | 80 => 146 | n => n, fun | n => n⟩
theorem Tryd.lays156 : Go.Proofs.Lays.n156 Tryd.prog Tryd.lays156_ren := {
  mixed := by kernel_rfl
  f156 := Tryd.func101.trans (congrArg some (by kernel_rfl))
  f165 := Tryd.func108.trans (congrArg some (by kernel_rfl))
  f166 := Tryd.func109.trans (congrArg some (by kernel_rfl))
  f169 := Tryd.func110.trans (congrArg some (by kernel_rfl))
  f240 := Tryd.func113.trans (congrArg some (by kernel_rfl))
  f241 := Tryd.func114.trans (congrArg some (by kernel_rfl))
  f276 := Tryd.func119.trans (congrArg some (by kernel_rfl))
  f277 := Tryd.func120.trans (congrArg some (by kernel_rfl))
  t0 := Tryd.underlying0
  a0 := Tryd.isAgg0
  z0 := Tryd.sizeOf0
  v0 := Tryd.zeroValue0
  t3 := Tryd.underlying3
  a3 := Tryd.isAgg3
  z3 := Tryd.sizeOf3
  v3 := Tryd.zeroValue3
  t4 := Tryd.underlying4
  a4 := Tryd.isAgg4
  z4 := Tryd.sizeOf4
  v4 := Tryd.zeroValue4
  t9 := Tryd.underlying9
  a9 := Tryd.isAgg9
  z9 := Tryd.sizeOf9
  v9 := Tryd.zeroValue9
  t20 := Tryd.underlying20
  a20 := Tryd.isAgg20
  z20 := Tryd.sizeOf20
  v20 := Tryd.zeroValue20
  t31 := Tryd.underlying127
  a31 := Tryd.isAgg127
  z31 := Tryd.sizeOf127
  v31 := Tryd.zeroValue127
  t37 := Tryd.underlying138
  a37 := Tryd.isAgg138
  z37 := Tryd.sizeOf138
  v37 := Tryd.zeroValue138
  t70 := Tryd.underlying137
  a70 := Tryd.isAgg137
  z70 := Tryd.sizeOf137
  v70 := Tryd.zeroValue137
  t72 := Tryd.underlying140
  a72 := Tryd.isAgg140
  z72 := Tryd.sizeOf140
  v72 := Tryd.zeroValue140
  t75 := Tryd.underlying143
  a75 := Tryd.isAgg143
  z75 := Tryd.sizeOf143
  v75 := Tryd.zeroValue143
  t76 := Tryd.underlying144
  a76 := Tryd.isAgg144
  z76 := Tryd.sizeOf144
  v76 := Tryd.zeroValue144
  t127 := Tryd.underlying153
  a127 := Tryd.isAgg153
  z127 := Tryd.sizeOf153
  v127 := Tryd.zeroValue153
  t164 := Tryd.underlying160
  a164 := Tryd.isAgg160
  z164 := Tryd.sizeOf160
  v164 := Tryd.zeroValue160 }
theorem Tryd.Builder_Extra_156 : Builder.Extra Tryd.prog Tryd.lays156_ren := {
  sizeBuilder := by kernel_rfl
  liesBuilder := by kernel_rfl
  t5 := Tryd.underlying5
  a5 := Tryd.isAgg5
  z5 := Tryd.sizeOf5
  v5 := Tryd.zeroValue5
  infoByte := by kernel_rfl
  cellsByte := by kernel_rfl
  sizeByte := by kernel_rfl
  neB5 := by decide }
open Go.RowKit in
theorem Tryd.strings_Join (bk o c : Nat) (xs : List ByteArray) (sep : ByteArray) (w : World) (hcells : ∀ (j : Nat) x, xs[j]? = some x → w.cell? ⟨bk, o + j, none⟩ = some (.string x)) (hbk : bk < w.heap.size) (hN : xs.length ≤ 140737488355328) (hcap : xs.length ≤ c) (hlen : (Lib.join (xs.map (·.data.toList)) sep.data.toList).length ≤ 140737488355328) :
    Calls Tryd.prog 101 #[.slice (some ⟨bk, o, none⟩) xs.length c, .string sep] w fun e w' => e = .returned (.string ⟨(Lib.join (xs.map (·.data.toList)) sep.data.toList).toArray⟩) ∧ Below w.heap.size w w' := Any.strings_Join Tryd.lays156 Tryd.Builder_Extra_156 bk o c xs sep w hcells hbk hN hcap hlen
def Tryd.laysM171_ren : Go.Shelf.Ren := ⟨fun | 171 => 99 | 243 => 107 | 246 => 112 | 283 => 115 | 284 => 116 | 285 => 117 | 286 => 118 | 129 => 122 | 317 => 121 | 318 => 123 | 319 => 124 | 320 => 125 | 337 => 126 | 338 => 127 | n => n, fun | 3 => 3 | 9 => 9 | 2 => 2 | 4 => 4 | 171 => 154 | 0 => 0 | 53 => 155 | 37 => 138 | 5 => 5 | 173 => 158 | 212 => 164 | 51 => 165 | 20 => 20 | 213 => 166 | 46 => 168 | 232 => 171 | 233 => 172 | n => n, fun | 17 => 1 | 18 => 3 | 19 => 4 | n => n⟩
theorem Tryd.laysM171 : Go.Proofs.LaysM.n171 Tryd.prog Tryd.laysM171_ren := {
  mixed := by kernel_rfl
  f129 := Tryd.func122.trans (congrArg some (by kernel_rfl))
  f171 := Tryd.func99.trans (congrArg some (by kernel_rfl))
  f243 := Tryd.func107.trans (congrArg some (by kernel_rfl))
  f246 := Tryd.func112.trans (congrArg some (by kernel_rfl))
  f283 := Tryd.func115.trans (congrArg some (by kernel_rfl))
  f284 := Tryd.func116.trans (congrArg some (by kernel_rfl))
  f285 := Tryd.func117.trans (congrArg some (by kernel_rfl))
  f286 := Tryd.func118.trans (congrArg some (by kernel_rfl))
  f317 := Tryd.func121.trans (congrArg some (by kernel_rfl))
  f318 := Tryd.func123.trans (congrArg some (by kernel_rfl))
  f319 := Tryd.func124.trans (congrArg some (by kernel_rfl))
  f320 := Tryd.func125.trans (congrArg some (by kernel_rfl))
  f337 := Tryd.func126.trans (congrArg some (by kernel_rfl))
  f338 := Tryd.func127.trans (congrArg some (by kernel_rfl))
  t0 := Tryd.underlying0
  a0 := Tryd.isAgg0
  z0 := Tryd.sizeOf0
  v0 := Tryd.zeroValue0
  t2 := Tryd.underlying2
  a2 := Tryd.isAgg2
  z2 := Tryd.sizeOf2
  v2 := Tryd.zeroValue2
  t3 := Tryd.underlying3
  a3 := Tryd.isAgg3
  z3 := Tryd.sizeOf3
  v3 := Tryd.zeroValue3
  t4 := Tryd.underlying4
  a4 := Tryd.isAgg4
  z4 := Tryd.sizeOf4
  v4 := Tryd.zeroValue4
  t5 := Tryd.underlying5
  a5 := Tryd.isAgg5
  z5 := Tryd.sizeOf5
  v5 := Tryd.zeroValue5
  t9 := Tryd.underlying9
  a9 := Tryd.isAgg9
  z9 := Tryd.sizeOf9
  v9 := Tryd.zeroValue9
  t20 := Tryd.underlying20
  a20 := Tryd.isAgg20
  z20 := Tryd.sizeOf20
  v20 := Tryd.zeroValue20
  t37 := Tryd.underlying138
  a37 := Tryd.isAgg138
  z37 := Tryd.sizeOf138
  v37 := Tryd.zeroValue138
  t46 := Tryd.underlying168
  a46 := Tryd.isAgg168
  z46 := Tryd.sizeOf168
  v46 := Tryd.zeroValue168
  t51 := Tryd.underlying165
  a51 := Tryd.isAgg165
  z51 := Tryd.sizeOf165
  v51 := Tryd.zeroValue165
  t53 := Tryd.underlying155
  a53 := Tryd.isAgg155
  z53 := Tryd.sizeOf155
  v53 := Tryd.zeroValue155
  t171 := Tryd.underlying154
  a171 := Tryd.isAgg154
  z171 := Tryd.sizeOf154
  v171 := Tryd.zeroValue154
  t173 := Tryd.underlying158
  a173 := Tryd.isAgg158
  z173 := Tryd.sizeOf158
  v173 := Tryd.zeroValue158
  t212 := Tryd.underlying164
  a212 := Tryd.isAgg164
  z212 := Tryd.sizeOf164
  v212 := Tryd.zeroValue164
  t213 := Tryd.underlying166
  a213 := Tryd.isAgg166
  z213 := Tryd.sizeOf166
  t232 := Tryd.underlying171
  a232 := Tryd.isAgg171
  z232 := Tryd.sizeOf171
  v232 := Tryd.zeroValue171
  t233 := Tryd.underlying172
  a233 := Tryd.isAgg172
  z233 := Tryd.sizeOf172
  v233 := Tryd.zeroValue172
  g17 := by kernel_rfl
  g18 := by kernel_rfl
  g19 := by kernel_rfl
  i0 := by kernel_rfl
  i2 := by kernel_rfl
  i3 := by kernel_rfl
  i4 := by kernel_rfl
  i5 := by kernel_rfl
  i9 := by kernel_rfl
  i20 := by kernel_rfl
  i37 := by kernel_rfl
  i46 := by kernel_rfl
  i51 := by kernel_rfl
  i53 := by kernel_rfl
  i171 := by kernel_rfl
  i173 := by kernel_rfl
  i212 := by kernel_rfl
  i232 := by kernel_rfl
  i233 := by kernel_rfl
  m17 := by kernel_rfl
  m18 := by kernel_rfl
  m19 := by kernel_rfl }
open Go.RowKit Go.Sort Go.Lib in
theorem Tryd.strconv_Itoa (n : Int) (h0 : -9223372036854775808 ≤ n) (h1 : n ≤ 9223372036854775807) (w : World) (htab : Lib.TabIs Tryd.prog w "internal/strconv.uint64pow10" .u64 Lib.pow10Tab) :
    Calls Tryd.prog 99 #[.int .i64 n] w fun e w' => e = .returned (.string ⟨(Lib.itoa n).toArray⟩) ∧ ∃ k os, w' = grow (w.drewN k) os := Any.strconv_Itoa Tryd.laysM171 n h0 h1 w htab
end Go.Proofs

/- Contract of Print: a guard's words, joined. -/
namespace Go.Proofs.YtdeapbihbhoefaaDoor
open Calm (bcell Blk)
open Go.RowKit

/-- what the library's and the program's variables hold. -/
structure PTab (w : World) : Prop where
  lim : Lim w
  pow : Lib.TabIs Tryd.prog w "internal/strconv.uint64pow10" .u64 Lib.pow10Tab
theorem gPow : Tryd.prog.globalNamed "internal/strconv.uint64pow10" = some 1 := by kernel_rfl
theorem var_lt {P : Program} {w : World} {n : String} {g : Nat} {cs : Array Value} (hg : P.globalNamed n = some g) (h : w.var? P n = some cs) : g < w.heap.size := by
  unfold World.var? at h
  rw [hg] at h
  simp only [Option.bind_some] at h
  rcases Nat.lt_or_ge g w.heap.size with h1 | h1
  · exact h1
  · rw [Array.getElem?_eq_none h1] at h
    simp at h
theorem PTab.below {w w' : World} (h : PTab w) (hb : Below w.heap.size w w') : PTab w' := ⟨h.lim.below hb, var?_below hb gPow (var_lt gPow h.pow) h.pow⟩
theorem below_grow (w : World) (n : Nat) (os : Array Obj) : Below w.heap.size w (Go.Sort.grow (w.drewN n) os) := by
  have h := below_drewN (Below.refl w.heap.size w) n
  refine ⟨h.os, h.tape, h.output, ?_, fun k hk => ?_⟩
  · show _ ≤ ((w.drewN n).heap ++ os).size
    have := h.size
    rw [Array.size_append]; omega
  · have e : (Go.Sort.grow (w.drewN n) os).heap[k]? = ((w.drewN n).heap ++ os)[k]? := rfl
    rw [e, Array.getElem?_append_left (Nat.lt_of_lt_of_le hk h.size)]
    exact h.block k hk
/-- a text as a value. -/
def sv (l : List UInt8) : Value := .string ⟨l.toArray⟩
theorem itoa_any (n : Int) (w : World) (hT : PTab w) (h0 : -9223372036854775808 ≤ n) (h1 : n ≤ 9223372036854775807) :
    Calls Tryd.prog 99 #[(.int .i64 (n))] w fun r w' => r = .returned (sv (Lib.itoa n)) ∧ Below w.heap.size w w' :=
  (Tryd.strconv_Itoa n h0 h1 w hT.pow).mono fun _ _ ⟨h, k, os, e⟩ => ⟨h, e ▸ below_grow w k os⟩
theorem Tryd.infoS : (Tryd.prog.info? 9).map (fun i => (i.zero, i.size, i.bytes)) = some (some (.string ⟨#[]⟩), 1, 16) := by kernel_rfl
/-- an integer that a register holds. -/
def inW (l : List Int) : Prop := ∀ k : Nat, -9223372036854775808 ≤ l.getD k 0 ∧ l.getD k 0 ≤ 9223372036854775807
def strK (l : List Int) (k : Nat) : List Value := (l.take k).map fun n => sv (Lib.itoa n)
theorem strK_len {l : List Int} {k : Nat} (hk : k ≤ l.length) : (strK l k).length = k := by simp [strK]; omega
theorem strK_succ {l : List Int} {k : Nat} (hk : k < l.length) : strK l (k + 1) = strK l k ++ [sv (Lib.itoa (l.getD k 0))] := by
  unfold strK
  rw [List.take_succ_eq_append_getElem hk, List.map_append, List.getD_eq_getElem?_getD, List.getElem?_eq_getElem hk]
  rfl

set_option maxRecDepth 100000 in
set_option maxHeartbeats 2000000 in
theorem mappedS_any (A : Option Addr) (l : List Int) (N c : Nat) (w : World) (hN : N = l.length) (hT : PTab w) (hC : Cells w A l) (hn : N ≤ 5000) (hb : inW l) :
    Calls Tryd.prog 100 #[.slice A N c, .func (.func 99) #[] #[]] w fun r w' =>
      (∃ v, r = .returned v ∧ w'.ownsRow w.heap.size 9 1 v N (l.map fun n => sv (Lib.itoa n))) ∧ Below w.heap.size w w' := by
  obtain ⟨i0, hii, hz0, hz1, hz2⟩ := info_parts Tryd.infoS
  have HC := Lib.hid hC
  have HT := Lib.hid hT
  have HN := Lib.hid hN
  have HW := Lib.hid hb
  have HL : Hid (∀ k, k ≤ N → (strK l k).length = k) := Lib.hid (fun k hk => strK_len (by rw [← hN]; exact hk))
  clear hN hC hT hb
  go_enter Tryd.func100, Tryd.ntmps100
  go_wp2
  go_loopw [5, 10] (fun v i wr => ∃ k : Nat, k ≤ N ∧ i = (.int .i64 ((k : Int))) ∧ wr.ownsRow w.heap.size 9 1 v (strK l k).length (strK l k) ∧ Below w.heap.size w wr) (fun _ i _ => N - (RowKit.intOf i).toNat)
  case atStart => exact ⟨0, Nat.zero_le _, rfl, World.ownsRow_nil _ _ _ _, Below.refl _ _⟩
  case round =>
    obtain ⟨k, hk, rfl, hown, hB⟩ := hrel
    have HO := Lib.hid hown
    have hle := Lib.hid (HL.out k hk)
    have hsz := hB.size
    have HB := Lib.hid hB
    clear hown
    by_cases hlt : k < N
    · obtain ⟨b, o, rfl, l1, k1⟩ := HC.out (by rw [← HN.out]; omega)
      have x1 := (hB.cell (p := ⟨b, o + k, none⟩) l1).trans (k1 k (by rw [← HN.out]; exact hlt))
      have HS := Lib.hid (strK_succ (l := l) (k := k) (by rw [← HN.out]; exact hlt))
      obtain ⟨w1, w2⟩ := HW.out k
      obtain ⟨x, hx⟩ : ∃ x, x = l.getD k 0 := ⟨_, rfl⟩
      rw [← hx] at x1 HS w1 w2
      unfold sv at HS
      obtain ⟨S, hS⟩ : ∃ S : ByteArray, S = ⟨(Lib.itoa x).toArray⟩ := ⟨_, rfl⟩
      have HIT : Hid (∀ W, PTab W → Calls Tryd.prog 99 #[(.int .i64 (x))] W fun r w' => r = .returned (.string S) ∧ Below W.heap.size W w') := Lib.hid (fun W h => by rw [hS]; exact itoa_any x W h w1 w2)
      rw [← hS] at HS
      clear k1 hx hS hB
      go_wp2_with (first
        | (go_at_call 99; refine (HIT.out _ (HT.out.below HB.out)).mono ?_; rintro r w3 ⟨rfl, hb3⟩; have HB3 := Lib.hid (HB.out.trans (hb3.mono hsz)); have HO3 := Lib.hid (ownsRow_below HO.out hb3); have hs3 := hb3.size; clear hb3)
        | (at_builtin; refine wpList_append_own _ rfl _ _ 127 rfl w.heap.size 9 i0 (.string ⟨#[]⟩) 1 16 Tryd.underlying127 hii hz0 hz1 hz2 rfl (by decide) _ _ _ rfl (HO3.out.alloc _) ⟨w3.heap.size, 0, none⟩ 1 1 [.string S] rfl rfl ?c1 ?c2 ?c3 ?c4 ?c5 ?_))
      case c1 =>
        intro j u hj
        match j, hj with
        | 0, hj => simp at hj; subst hj; simp [Addr.add]
      case c2 => intro u hu; simp at hu; subst hu; rfl
      case c3 => have := hle.out; unfold maxLen; omega
      case c4 => have := hle.out; omega
      case c5 => simp; omega
      intro v' w4 hown' hgrow _
      have hB' : Below w.heap.size w w4 := (HB3.out.alloc HB3.out.size _).grown hgrow (by simp; omega) (fun j hj => (HO.out.lt j hj).1)
      have HO' := Lib.hid hown'
      have HB' := Lib.hid hB'
      clear hgrow hown' hB'
      go_wp2
      go_roundw
      case rel => exact ⟨k + 1, by omega, by go_num, by rw [HS.out]; simpa using HO'.out, HB'.out⟩
      case measure => simp [RowKit.intOf]; omega
    · obtain rfl : k = N := by omega
      have hown := HO.out
      have e : strK l k = l.map fun n => sv (Lib.itoa n) := by unfold strK; rw [HN.out, List.take_length]
      rw [hle.out, e] at hown
      have HR := Lib.hid hown
      clear hown e hB
      go_wp2
      go_ret
      exact ⟨⟨_, rfl, HR.out⟩, HB.out⟩
end Go.Proofs.YtdeapbihbhoefaaDoor

/- A value of integers alone (structs and arrays of integers, nested): its cells are its integers, one behind another. And the row's last step under 'Below'. Of no program. -/
namespace Go.Flat
open Go.ChangeShapes Go.WideShapes Go.RowKit

def sideB : List (Nat × Nat) → Nat → Nat → Bool
  | [], off, tot => off == tot
  | (o, c) :: l, off, tot => o == off && sideB l (off + c) tot
/-- the type is made of integers alone, lying side by side. -/
def intsB (P : Program) : Nat → TypeId → Bool
  | 0, _ => false
  | n + 1, t => match P.underlying t with
    | some (.int .i64) => true
    | some (.struct fs) => sideB (fs.toList.map fun f => (f.offset, P.cellsOf f.type)) 0 (P.cellsOf t) && fs.toList.all fun f => intsB P n f.type
    | some (.array k e) => sideB ((List.range k).map fun i => (i * P.cellsOf e, P.cellsOf e)) 0 (P.cellsOf t) && intsB P n e
    | _ => false
/-- the integers of a datum. -/
def flat {H : Type} : Nat → DataW H → List Int
  | 0, _ => []
  | n + 1, .agg ds => ds.flatMap (flat n)
  | _ + 1, .lit (.int _ z) => [z]
  | _ + 1, _ => []

theorem side_cells {cs : List Value} : ∀ (l : List (Nat × Nat)) (zs : List (List Int)) (off : Nat), sideB l off cs.length = true → zs.length = l.length →
    (∀ (i o c : Nat), l[i]? = some (o, c) → ∃ z, zs[i]? = some z ∧ (cs.drop o).take c = z.map (Value.int .i64)) → cs.drop off = zs.flatten.map (Value.int .i64)
  | [], zs, off, hs, hl, _ => by
    obtain rfl : zs = [] := by simpa using hl
    have : off = cs.length := by simpa [sideB] using hs
    subst this
    simp
  | (o, c) :: l, zs, off, hs, hl, hf => by
    obtain ⟨z, zs', rfl⟩ : ∃ z zs', zs = z :: zs' := by
      cases zs with
      | nil => simp at hl
      | cons z zs' => exact ⟨z, zs', rfl⟩
    simp only [sideB, Bool.and_eq_true, beq_iff_eq] at hs
    obtain ⟨rfl, hs⟩ := hs
    obtain ⟨z', hz', h0⟩ := hf 0 o c rfl
    obtain rfl : z = z' := by simpa using hz'
    have ih := side_cells l zs' (o + c) hs (by simpa using hl) (fun i o' c' h => by simpa using hf (i + 1) o' c' (by simpa using h))
    calc cs.drop o = (cs.drop o).take c ++ (cs.drop o).drop c := (List.take_append_drop _ _).symm
      _ = _ := by rw [h0, List.drop_drop, ih]; simp

theorem cells_of_ints {H : Type} {enc : TypeId × Value → H} {P : Program} {w : World} {base : Nat} {sp : Nat → Bool} {held : Bool} :
    ∀ (m : Nat) {fuel : Nat} {t : TypeId} {cs : List Value} {x : DataW H × List MemPlace}, intsB P m t = true → DataW.trod enc P w base sp held fuel t cs = some x → cs = (flat m x.1).map (Value.int .i64) ∧ x.2 = []
  | 0, _, _, _, _, h, _ => by simp [intsB] at h
  | m + 1, fuel, t, cs, x, h, hx => by
    unfold intsB at h
    split at h
    · rename_i ht
      obtain ⟨z, rfl, rfl, _⟩ := DataW.trod_int ht hx
      exact ⟨rfl, rfl⟩
    · rename_i fs ht
      obtain ⟨xs, n, _, rfl, hl, hxl, hf⟩ := DataW.trod_struct ht hx
      simp only [Bool.and_eq_true, List.all_eq_true] at h
      obtain ⟨hs, hi⟩ := h
      have key : ∀ (i : Nat) (f : Field) (y : DataW H × List MemPlace), fs.toList[i]? = some f → xs[i]? = some y → (cs.drop f.offset).take (P.cellsOf f.type) = (flat m y.1).map (Value.int .i64) ∧ y.2 = [] := fun i f y hfi hy =>
        cells_of_ints m (hi f (List.mem_of_getElem? hfi)) ((hf i f (by simpa using hfi)).trans hy)
      have hlen : xs.length = fs.toList.length := by simpa using hxl
      refine ⟨?_, ?_⟩
      · have := side_cells (cs := cs) (fs.toList.map fun f => (f.offset, P.cellsOf f.type)) (xs.map fun y => flat m y.1) 0 (by rw [hl]; exact hs) (by simpa using hxl) (fun i o c hi' => by
          simp only [List.getElem?_map, Option.map_eq_some_iff] at hi'
          obtain ⟨f, hf1, hf2⟩ := hi'
          have hlt : i < xs.length := hlen ▸ (List.getElem?_eq_some_iff.1 hf1).1
          have hy : xs[i]? = some xs[i] := List.getElem?_eq_getElem hlt
          simp only [Prod.mk.injEq] at hf2
          obtain ⟨rfl, rfl⟩ := hf2
          exact ⟨_, by simp [hy], (key i f _ hf1 hy).1⟩)
        rw [List.drop_zero] at this
        refine this.trans ?_
        simp [flat, List.flatMap, List.map_map, Function.comp_def]
      · simp only [List.flatMap_eq_nil_iff]
        intro y hy
        obtain ⟨i, hi'⟩ := List.getElem?_of_mem hy
        have hlt : i < fs.toList.length := hlen ▸ (List.getElem?_eq_some_iff.1 hi').1
        exact (key i _ y (List.getElem?_eq_getElem hlt) hi').2
    · rename_i k e ht
      simp only [Bool.and_eq_true] at h
      obtain ⟨hs, hi⟩ := h
      cases fuel with
      | zero => simp [DataW.trod] at hx
      | succ fuel =>
        simp only [DataW.trod, ht] at hx
        split at hx
        · rename_i hl
          obtain ⟨xs, hm, rfl⟩ := Option.map_eq_some_iff.1 hx
          have hxl : xs.length = k := by simpa using Lib.mapM_length hm
          have key : ∀ (i : Nat) (y : DataW H × List MemPlace), xs[i]? = some y → (cs.drop (i * P.cellsOf e)).take (P.cellsOf e) = (flat m y.1).map (Value.int .i64) ∧ y.2 = [] := fun i y hy => by
            have hlt : i < k := hxl ▸ (List.getElem?_eq_some_iff.1 hy).1
            obtain ⟨b, hb, hf⟩ := Lib.mapM_at hm i i (by simp [hlt])
            obtain rfl := Option.some.inj (hy.symm.trans hb)
            exact cells_of_ints m hi hf
          refine ⟨?_, ?_⟩
          · have := side_cells (cs := cs) ((List.range k).map fun i => (i * P.cellsOf e, P.cellsOf e)) (xs.map fun y => flat m y.1) 0 (by rw [hl]; exact hs) (by simpa using hxl) (fun i o c hi' => by
              simp only [List.getElem?_map, Option.map_eq_some_iff] at hi'
              obtain ⟨j, hj1, hj2⟩ := hi'
              have hlt : i < k := by simpa using (List.getElem?_eq_some_iff.1 hj1).1
              obtain rfl : i = j := by simpa [hlt] using hj1
              have hy : xs[i]? = some (xs[i]'(by omega)) := List.getElem?_eq_getElem (by omega)
              simp only [Prod.mk.injEq] at hj2
              obtain ⟨rfl, rfl⟩ := hj2
              exact ⟨_, by simp [hy], (key i _ hy).1⟩)
            rw [List.drop_zero] at this
            refine this.trans ?_
            simp [flat, List.flatMap, List.map_map, Function.comp_def]
          · simp only [List.flatMap_eq_nil_iff]
            intro y hy
            obtain ⟨i, hi'⟩ := List.getElem?_of_mem hy
            exact (key i y hi').2
        · cases hx
    · cases h

/-- an argument that is a struct of integers alone. -/
theorem open_ints {H : Type} {enc : TypeId × Value → H} {P : Program} {w : World} {base : Nat} {sp : Nat → Bool} {held : Bool} (m : Nat) {r : Reach} {b0 : Nat} {t : TypeId} {fs : Array Field} {v : Value} {d : DataW H} {p : List MemPlace}
    (ht : P.underlying t = some (.struct fs)) (h : intsB P m t = true) (hv : Value.okWide P w r b0 t v) (hd : DataW.Trod enc P w base sp held t v d p) :
    ∃ zs : List Int, zs.length = P.cellsOf t ∧ v = .agg (zs.map (Value.int .i64)).toArray ∧ p = [] := by
  obtain ⟨cs, rfl, hsz⟩ := okWide_struct ht hv
  obtain ⟨fuel, hf⟩ := hd
  obtain ⟨h1, h2⟩ := cells_of_ints m h hf
  have hcs : cs.toList = (flat m d).map (Value.int .i64) := h1
  refine ⟨flat m d, ?_, ?_, h2⟩
  · have := congrArg List.length hcs
    simp at this
    omega
  · rw [← hcs]

section
variable {H : Type} {enc : TypeId × Value → H} {P : Program}
theorem post_of_below {f : Func} {s : ChangeSpec} {apart fresh handsOn again : Bool} {W W' : World} {args : Array Value} {v : Value} {ds gs : List (DataW H)} {before pa pv : List MemPlace}
    (hW : DataW.Whole enc P f.params.toList s.vars apart W args.toList ds gs before)
    (hres : ∀ (b : Nat) (sp : Nat → Bool) (hd : Bool), DataW.TrodAll enc P W' b sp hd f.resultTypes.toList (v.resultList f.resultTypes.size) (s.fn H (ds ++ gs)).results [])
    (hargs : ∀ sp : Nat → Bool, (∀ p ∈ before, sp p.block = true) → DataW.TrodAll enc P W' 0 sp true f.params.toList args.toList (s.fn H (ds ++ gs)).args pa)
    (hvars : ∀ sp : Nat → Bool, (∀ p ∈ before, sp p.block = true) → DataW.TrodVars enc P W' sp s.vars (s.fn H (ds ++ gs)).vars pv)
    (hps : before = pa ++ pv) (hb : Below W.heap.size W W')
    (hok : ∀ (j : Nat) (t : TypeId) (r : Value), f.resultTypes[j]? = some t → (v.resultList f.resultTypes.size)[j]? = some r → Value.okWide P W' .any 0 t r) :
    s.post enc P f apart fresh handsOn again W args v W' := by
  have hlt : ∀ p ∈ before, p.block < W.heap.size := fun p hp => hW.lt p hp
  have hold : ∀ p ∈ before, (fun b => decide (b < W.heap.size)) p.block = true := fun p hp => by simpa using hlt p hp
  refine ⟨ds, gs, before, [], pa, pv, hW, hres _ _ _, hargs _ hold, hvars _ hold, World.keptBut_mono (fun p hp => ⟨hp, ?_⟩) (hb.frame (· ∈ before)), fun _ => ?_⟩
  · rw [hps, List.mem_append] at hp
    exact Or.inr hp
  · obtain ⟨_, _, _, _, _, hz, hn⟩ := hW
    refine ⟨hok, _, _, ([] ++ pa) ++ pv, ⟨[] ++ pa, pv, trodAll_append (hargs _ (fun _ _ => rfl)) (hres _ _ _), hvars _ (fun _ _ => rfl), rfl, ?_, ?_⟩, ?_⟩
    · intro b off hp
      have hin : MemPlace.cell b off ∈ before := by rw [hps]; simpa using hp
      rw [hb.frozen (hlt _ hin)]
      exact hz b off hin
    · intro ha
      have := hn ha
      rw [hps] at this
      simpa using this
    · intro p hp _
      rw [hps]
      simpa using hp
end

/-- every argument reads behind the call as before it, if below the heap's old size nothing has turned. -/
theorem trodAll_below {H : Type} {enc : TypeId × Value → H} {P : Program} (hl : laidOutB P = true) {W W' : World} (hb : Below W.heap.size W W') {sp : Nat → Bool} :
    ∀ {ts : List TypeId} {vs : List Value} {ds : List (DataW H)} {ps : List MemPlace}, (∀ t ∈ ts, P.readableRec t = true ∧ t < P.types.size) → DataW.TrodAll enc P W 0 (fun _ => true) true ts vs ds ps → (∀ p ∈ ps, p.block < W.heap.size) → (∀ p ∈ ps, sp p.block = true) →
    DataW.TrodAll enc P W' 0 sp true ts vs ds ps
  | [], [], [], _, _, h, _, _ => h
  | t :: ts, v :: vs, d :: ds, _, ht, ⟨p, q, h, hr, rfl⟩, hlt, hs => by
    have h1 := ht t (by simp)
    exact ⟨p, q, WideElems.Trod_stays hl h1.1 h1.2 h (fun x hx => hb.same (hlt x (by simp [hx]))) (fun x hx => hs x (by simp [hx])), trodAll_below hl hb (fun t' h' => ht t' (by simp [h'])) hr (fun x hx => hlt x (by simp [hx])) (fun x hx => hs x (by simp [hx])), rfl⟩
end Go.Flat
