/- Part 2 of the texts of the claim: RelG, Turn, P3, P4, P13, P14, P15, S1, Tc1, Tc2, Tc3, Tc4, Tc5, CopyI, Tc6, IterM, P5, P6, P7, P8, P10, Alloc3, P11, Grw. -/
import Derived.Test.YtamldoidalnloaaGreatDoorMx1
import Derived.Laws.AppendOwn
import Derived.Lib.AppendZerosOnto
import Derived.Laws.CopyRow
import Derived.RangeFuncNested
import Derived.RangeFuncBound
import Derived.RangeFuncCalls
import Derived.RangeFuncLeaves
import Derived.WalkSmall
import Derived.WalkMore
import Derived.Maps.AppendAt

/- Regions whose order is open, the world turning along any relation S (reflexive, transitive): stores in the head. Printed by relg.py. -/
namespace Go.Proofs.YtamldoidalnloaaGreatDoor.RelG
open Go.RowKit
open Rel (Know dst puts upd puts_agree puts_put Apart apart_of puts_new put_size puts_size puts_other eval_put_same puts_here wanted_of GOK countP_upd left Ln okB sizeB all_listed listed_Ln some_ready fill fill_puts Ctx dep1 deps deps_of facts facts_of ons GOK3)

/-- .. and stays known along S. -/
def Stable (S : World → World → Prop) (R : Know) : Prop := ∀ v W W', R v W → S W W' → R v W'

section
variable {P : Program} {ops : Array Oper} {S : World → World → Prop}

/-- What an operation of the head must show: wherever it comes up. -/
def Ob (S : World → World → Prop) (P : Program) (ops : Array Oper) (n : Nat) (w0 : World) (a0 : Act) (Γ : List Know) (o : Oper) (R : Know) : Prop :=
  ∀ (a : Act) (W : World), S w0 W → a.tmps.size = a0.tmps.size →
    (∀ e ∈ o.after, Region.binds .any e = true → ∀ t, dst ops e.on = some t → ∀ K, Γ[e.on]? = some K → K (a.eval (.tmp t)) W) →
    (∀ t, (∀ j, j < n → dst ops j ≠ some t) → a.eval (.tmp t) = a0.eval (.tmp t)) →
    ∀ (K : Act → World → Prop) (Q : Exit → Act → World → Prop), (∀ v W', R v W' → S W W' → K (a.put o.dst v) W') → o.wp P a W K Q


/-- The walk in the order of the text: at each operation something that stays known is chosen. -/
def walk (S : World → World → Prop) (P : Program) (ops : Array Oper) (n : Nat) (w0 : World) (a0 : Act) (T : List Know → Prop) : List Know → List Oper → Prop
  | Γ, [] => T Γ
  | Γ, o :: l => ∃ R, Stable S R ∧ GOK ops Γ o ∧ (dst ops Γ.length = o.dst → Ob S P ops n w0 a0 Γ o R) ∧ walk S P ops n w0 a0 T (Γ ++ [R]) l


/-- What holds while the head is on its way. -/
structure Inv (S : World → World → Prop) (ops : Array Oper) (n : Nat) (w0 : World) (a0 : Act) (Γ : List Know) (listed : Array Bool) (a : Act) (W : World) : Prop where
  below : S w0 W
  vals : ∃ x : Nat → Value, a = puts ops x (fun j => listed.getD j false) (List.range n) a0 ∧ ∀ j, j < n → listed.getD j false = true → ∀ K, Γ[j]? = some K → K (x j) W


/-- The frame with all values of the head. -/
def fill : List Oper → Nat → (Nat → Value) → Act → Act
  | [], _, _, a => a
  | o :: l, k, x, a => fill l (k + 1) x (a.put o.dst (x k))
end

def Ob3 (S : World → World → Prop) (P : Program) (DS : List Tmp) (w0 : World) (a0 : Act) (Γ : Ctx) (o : Oper) (R : Know) : Prop :=
  ∀ (a : Act) (W : World), S w0 W → deps Γ a W (ons o) → (∀ t, t ∉ DS → a.eval (.tmp t) = a0.eval (.tmp t)) →
    ∀ (K : Act → World → Prop) (Q : Exit → Act → World → Prop), (∀ v W', R v W' → S W W' → K (a.put o.dst v) W') → o.wp P a W K Q

def walk3 (S : World → World → Prop) (P : Program) (DS : List Tmp) (w0 : World) (a0 : Act) (T : Ctx → Prop) : Ctx → List Oper → Prop
  | Γ, [] => T Γ
  | Γ, o :: l => ∃ R, Stable S R ∧ GOK3 Γ o ∧ Ob3 S P DS w0 a0 Γ o R ∧ walk3 S P DS w0 a0 T (Γ ++ [(o.dst, R)]) l
section
variable {S : World → World → Prop} {P : Program} {DS : List Tmp} {w0 : World} {a0 : Act} {T : Ctx → Prop} {Γ : Ctx} {o : Oper} {rest : List Oper}

end
end Go.Proofs.YtamldoidalnloaaGreatDoor.RelG

/- Worlds that turn in one block alone, each cell of it to what it will be; for stores in the head of a drawn region. -/
namespace Go.Proofs.YtamldoidalnloaaGreatDoor
open Go.RowKit
open Calm (bcell Blk)
/-- below B all but block g is as it was; each cell of block g is as it was, or as it will be. -/
structure Turns (g : Nat) (new : Array Value) (B : Nat) (W W' : World) : Prop where
  os : W'.os = W.os
  tape : W'.tape = W.tape
  output : W'.output = W.output
  size : W.heap.size ≤ W'.heap.size
  block : ∀ k, k < B → k ≠ g → W'.heap[k]? = W.heap[k]?
  cell : ∀ i, W'.cell? ⟨g, i, none⟩ = W.cell? ⟨g, i, none⟩ ∨ W'.cell? ⟨g, i, none⟩ = new[i]? ∧ ∃ u, W.cell? ⟨g, i, none⟩ = some u
  frozen : ∀ i, W'.frozen? ⟨g, i, none⟩ = W.frozen? ⟨g, i, none⟩
namespace RelG
open Rel (Know Ctx deps facts ons GOK3)
variable {S : World → World → Prop} {P : Program} {DS : List Tmp} {w0 : World} {a0 : Act} {T : Ctx → Prop} {Γ : Ctx} {o : Oper} {rest : List Oper}
end RelG
end Go.Proofs.YtamldoidalnloaaGreatDoor

/- Contract of (Guard).behind: the state behind an output, and the excursion at it. -/
namespace Go.Proofs.YtamldoidalnloaaGreatDoor
open Go.RowKit
open Calm (bcell Blk)

/-- the excursion at an output: the sum of the first taps. -/
def exK (ts ps : List Int) (y : Int) : Nat → Int
  | 0 => ts.getD 0 0 * y
  | k + 1 => exK ts ps y k + ts.getD (k + 1) 0 * ps.getD k 0
def exF (ts ps : List Int) (y : Int) : Int := exK ts ps y ps.length
/-- the last outputs behind one. -/
def pushL (ps : List Int) (y : Int) : List Int := (y :: ps).take ps.length
def inB (b : Int) (l : List Int) : Prop := ∀ x ∈ l, -b ≤ x ∧ x ≤ b
theorem Tryz.infoI : (Tryz.prog.info? 3).map (fun i => (i.zero, i.size, i.bytes)) = some (some (.int .i64 0), 1, 8) := by kernel_rfl
/-- n zeros. -/
def zerosA (n : Nat) : List Value := List.replicate n (.int .i64 0)
theorem mk_ints (n : Nat) (hn : n ≤ 1000000) (W : World) : Sem.run Tryz.prog (Instr.makeSlice 44 (.int .i64 n) (.int .i64 n)) W = .ok (.slice (some ⟨W.heap.size, 0, none⟩) n n) (W.alloc (.cells (zerosA n).toArray 3)) := by
  have e : (zerosA n).toArray = madeCells #[.int .i64 0] n := by
    apply Array.toList_inj.1
    rw [toList_madeCells_one]
    simp [zerosA]
  rw [e]
  exact run_make_row' 44 3 _ 8 Tryz.underlying44 Tryz.infoI rfl .i64 .i64 n (by omega) (by omega) W

theorem cells_src {w : World} {b o : Nat} {zs : List Int} (hc : ∀ k, k < zs.length → w.cell? ⟨b, o + k, none⟩ = some (.int .i64 (zs.getD k 0))) (j : Nat) (v : Value) (h : (zs.map (Value.int .i64))[j]? = some v) : w.cell? ((⟨b, o, none⟩ : Addr).add j) = some v := by
  have hadd : (⟨b, o, none⟩ : Addr).add j = ⟨b, o + j, none⟩ := by unfold Addr.add; split <;> simp_all
  rw [List.getElem?_map] at h
  rcases Nat.lt_or_ge j zs.length with hj | hj
  · rw [List.getElem?_eq_getElem hj] at h
    rw [hadd, hc j hj, ← h, List.getD_eq_getElem?_getD, List.getElem?_eq_getElem hj]
    rfl
  · rw [List.getElem?_eq_none hj] at h; cases h
theorem Cells.row {w : World} {g : Nat} {zs : List Int} {t : TypeId} (h : w.heap[g]? = some (.cells (zs.map (Value.int .i64)).toArray t (0, 0))) : Cells w (some ⟨g, 0, none⟩) zs := by
  intro h0
  refine ⟨g, 0, rfl, (Array.getElem?_eq_some_iff.1 h).1, fun k hk => ?_⟩
  simp [World.cell?, h, hk, List.getD_eq_getElem?_getD, List.getElem?_eq_getElem hk]
end Go.Proofs.YtamldoidalnloaaGreatDoor

/- Contract of (Guard).tails: the excursions that come without further outputs. -/
namespace Go.Proofs.YtamldoidalnloaaGreatDoor
open Go.RowKit
open Calm (bcell Blk)

/-- the last outputs behind k outputs 0. -/
def psK (ps : List Int) : Nat → List Int
  | 0 => ps
  | k + 1 => pushL (psK ps k) 0
/-- the tails of a state. -/
def tailsL (ts ps : List Int) (n : Nat) : List Int := (List.range n).map fun k => exF ts (psK ps k) 0
def tailsF (ts ps : List Int) : List Int := tailsL ts ps ps.length
theorem own_ints {W : World} {base n : Nat} {e : TypeId} {v : Value} {zs : List Int} (h : W.ownsRow base e 1 v n (zs.map (Value.int .i64))) (hn : n = zs.length) : ∃ A c, v = .slice A n c ∧ (∀ p, A = some p → base ≤ p.block) ∧ Cells W A zs := by
  rcases h.2 with ⟨h1, h2⟩ | ⟨g, cap, cur, h1, h2, h3, h4, h5, h6, h7⟩
  · exact ⟨none, 0, by rw [h1, h2], by simp, fun h0 => by omega⟩
  · refine ⟨some ⟨g, 0, none⟩, cap, h1, by rintro p ⟨⟩; exact h2, fun h0 => ⟨g, 0, rfl, (Array.getElem?_eq_some_iff.1 h3).1, fun k hk => ?_⟩⟩
    have hj : (zs.map (Value.int .i64))[k]? = some (.int .i64 (zs.getD k 0)) := by simp [hk, List.getD_eq_getElem?_getD]
    rw [Nat.zero_add, cell_of_row W g k cur _ _ h3]
    rw [← h7, List.getElem?_take] at hj
    split at hj
    · rw [← hj]; simp
    · cases hj

end Go.Proofs.YtamldoidalnloaaGreatDoor

/- Contracts of mapped at each's function, of each and of some. -/
namespace Go.Proofs.YtamldoidalnloaaGreatDoor
open Go.RowKit
open Calm (bcell Blk)

theorem Tryz.infoE : (Tryz.prog.info? 31).map (fun i => (i.zero, i.size, i.bytes)) = some (some (.int .i64 0), 1, 8) := by kernel_rfl
def errsK (l : List Int) (lo hi : Int) (k : Nat) : List Int := (l.take k).map fun n => rangeErr n lo hi
theorem errsK_len {l : List Int} {lo hi : Int} {k : Nat} (hk : k ≤ l.length) : (errsK l lo hi k).length = k := by simp [errsK]; omega
theorem errsK_succ {l : List Int} {lo hi : Int} {k : Nat} (hk : k < l.length) : errsK l lo hi (k + 1) = errsK l lo hi k ++ [rangeErr (l.getD k 0) lo hi] := by
  unfold errsK
  rw [List.take_succ_eq_append_getElem hk, List.map_append, List.getD_eq_getElem?_getD, List.getElem?_eq_getElem hk]
  rfl
theorem errsK_all (l : List Int) (lo hi : Int) : errsK l lo hi l.length = l.map fun n => rangeErr n lo hi := by simp [errsK]
/-- the error of a list's numbers. -/
def eachErr (l : List Int) (lo hi : Int) : Int := firstOf (l.map fun n => rangeErr n lo hi)
/-- the error of a number of elements. -/
def someErr (n most : Int) : Int := firstOf [if n = 0 then 12 else 0, if most < n then 5 else 0]
end Go.Proofs.YtamldoidalnloaaGreatDoor

/- Contract of ascending. -/
namespace Go.Proofs.YtamldoidalnloaaGreatDoor
open Go.RowKit
open Calm (bcell Blk)

/-- the error of the number at an index. -/
def ascAt (l : List Int) (lo hi : Int) (i : Nat) : Int := firstOf [rangeErr (l.getD i 0) lo hi, if 0 < i ∧ l.getD i 0 ≤ l.getD (i - 1) 0 then 11 else 0]
def ascErr (l : List Int) (lo hi : Int) : Int := firstOf ((List.range l.length).map (ascAt l lo hi))
end Go.Proofs.YtamldoidalnloaaGreatDoor

/- Contract of CheckGuard. -/
namespace Go.Proofs.YtamldoidalnloaaGreatDoor
open Go.RowKit
open Calm (bcell Blk)

def guardErr1 (lk ht rc : Int) (ts gs : List Int) : Int := firstOf [rangeErr lk 1 8, rangeErr ht 0 536870912, someErr ts.length 8, eachErr ts (-64) 64, rangeErr rc 0 1048576, someErr gs.length 8]
def guardErr2 (gs : List Int) : Int := firstOf [rangeErr (gs.getD 0 0) 0 16, if gs.getD 0 0 ≠ 0 then 11 else 0, ascErr gs 0 16]
/-- the error of a guard. -/
def guardErr (lk ht rc : Int) (ts gs : List Int) : Int := if guardErr1 lk ht rc ts gs = 0 then guardErr2 gs else guardErr1 lk ht rc ts gs
end Go.Proofs.YtamldoidalnloaaGreatDoor

/- Contracts of the small functions of package section. -/
namespace Go.Proofs.YtamldoidalnloaaGreatDoor
open Go.RowKit
open Calm (bcell Blk)

end Go.Proofs.YtamldoidalnloaaGreatDoor

/- Contracts of the small functions of the packages chamber and signal. -/
namespace Go.Proofs.YtamldoidalnloaaGreatDoor
open Go.RowKit
open Calm (bcell Blk)
theorem name_calls {P : Program} {f : FuncId} {args : Array Value} {W : World} {R : Ending → World → Prop} (h : ∀ w2, w2 = W → Calls P f args w2 R) : Calls P f args W R := h _ rfl
theorem name_list {P : Program} {ops : Array Oper} {Q : Exit → Act → World → Prop} {rest : List Oper} {a : Act} {W : World} (h : ∀ w2, w2 = W → wpList P ops Q rest a w2) : wpList P ops Q rest a W := h _ rfl
theorem name_post {P : Program} {fn : Func} {R : Ending → World → Prop} {e : Exit} {a : Act} {W : World} (h : ∀ w2, w2 = W → bodyPost P fn R e a w2) : bodyPost P fn R e a W := h _ rfl
/-- nothing old turns, as can be seen. -/
theorem bel {b : Nat} {W W' : World} (h : Below b W W' := by (repeat (first | (with_reducible exact Below.refl _ _) | ((with_reducible refine Below.setCell ?_ ?_ _); rotate_left 1; focus (first | (simp; done) | (simp; omega) | (simp at *; omega))) | ((with_reducible refine Below.alloc ?_ ?_ _); rotate_left 1; focus (first | (simp; done) | (simp; omega) | (simp at *; omega))) | (with_reducible refine Below.drew ?_) | ((with_reducible refine Calm.step (by assumption) ?_ ?_); rotate_left 1; focus (first | (simp; done) | (simp; omega) | (simp at *; omega)))))) : Below b W W' := h
/-- all numbers are levels. -/
def lvls (l : List Int) : Prop := ∀ x ∈ l, -1048576 ≤ x ∧ x ≤ 1048576
theorem firstOf_zeros {l : List Int} (h : ∀ x ∈ l, x = 0) : firstOf l = 0 := firstOf_zero fun j hj => by
  rw [List.getD_eq_getElem?_getD, List.getElem?_eq_getElem hj]
  exact h _ (List.getElem_mem hj)
theorem lvls_first {l : List Int} (h : lvls l) : firstOf (l.map fun n => rangeErr n (-1048576) 1048576) = 0 := firstOf_zeros fun x hx => by
  obtain ⟨y, hy, rfl⟩ := List.mem_map.1 hx
  exact rangeErr_in (h y hy).1 (h y hy).2
theorem gWhen_any (b : Bool) (e : Int) (w : World) : Calls Tryz.prog 27 #[.bool b, (.int .i64 e)] w fun r w' => r = .returned (.int .i64 (if b then e else 0)) ∧ w = w' := by
  cases b <;>
  · go_enter Tryz.func27, Tryz.ntmps27
    go_wp2
    go_ret
    exact ⟨rfl, rfl⟩

theorem gWithin_any (n lo hi : Int) (w : World) : Calls Tryz.prog 26 #[(.int .i64 n), (.int .i64 lo), (.int .i64 hi)] w fun r w' => r = .returned (.int .i64 (rangeErr n lo hi)) ∧ w = w' := by
  rcases Int.lt_or_le n lo with h | h
  · go_enter Tryz.func26, Tryz.ntmps26
    go_wp2_with (go_at_call 27; refine (gWhen_any _ _ _).mono ?_; rintro r w' ⟨rfl, rfl⟩)
    go_ret
    exact ⟨ret_i (rangeErr_lo h).symm, rfl⟩
  · rcases Int.lt_or_le hi n with h' | h'
    · go_enter Tryz.func26, Tryz.ntmps26
      go_wp2_with (go_at_call 27; refine (gWhen_any _ _ _).mono ?_; rintro r w' ⟨rfl, rfl⟩)
      go_ret
      exact ⟨ret_i (rangeErr_hi h').symm, rfl⟩
    · go_enter Tryz.func26, Tryz.ntmps26
      go_wp2_with (go_at_call 27; refine (gWhen_any _ _ _).mono ?_; rintro r w' ⟨rfl, rfl⟩)
      go_ret
      exact ⟨ret_i (rangeErr_in (by omega) (by omega)).symm, rfl⟩

theorem gFirst_any (l : List Int) (A : Option Addr) (c : Nat) (w : World) (hl : l.length ≤ 5000) (hC : Cells w A l) :
    Calls Tryz.prog 24 #[.slice A l.length c] w fun r w' => r = .returned (.int .i64 (firstOf l)) ∧ w = w' := by
  go_enter Tryz.func24, Tryz.ntmps24
  go_wp2
  go_loop [4, 7] (fun _ i => ∃ k : Nat, k ≤ l.length ∧ i = (.int .i64 k) ∧ ∀ j, j < k → l.getD j 0 = 0) (fun _ i => l.length - (intOf i).toNat)
  case atStart => exact ⟨0, Nat.zero_le _, rfl, fun j hj => by omega⟩
  case round =>
    obtain ⟨k, hk, rfl, hz⟩ := hrel
    have HZ := Lib.hid hz
    clear hz
    by_cases hlt : k < l.length
    · obtain ⟨b, off, rfl, hbl, hc⟩ := hC (by omega)
      have hck := hc k hlt
      clear hc hC
      by_cases h0 : l.getD k 0 = 0
      · rw [h0] at hck
        have H0 := Lib.hid h0
        clear h0
        go_wp2
        go_round
        case rel => exact ⟨k + 1, by omega, by go_num, fun j hj => by
          rcases Nat.lt_or_ge j k with hjk | hjk
          · exact HZ.out j hjk
          · obtain rfl : j = k := by omega
            exact H0.out⟩
        case measure => simp [intOf]; omega
      · obtain ⟨x, hx⟩ : ∃ x, x = l.getD k 0 := ⟨_, rfl⟩
        rw [← hx] at hck h0
        have H0 := Lib.hid hx
        clear hx
        go_wp2
        go_ret
        exact ⟨ret_i (by rw [firstOf_take HZ.out hlt (by rw [← H0.out]; exact h0)]; exact H0.out), rfl⟩
    · clear hC
      go_wp2
      go_ret
      exact ⟨ret_i (by rw [firstOf_zero (fun j hj => HZ.out j (by omega))]), rfl⟩


theorem gLevel_any (n : Int) (w : World) : Calls Tryz.prog 79 #[(.int .i64 n)] w fun r w' => r = .returned (.int .i64 (rangeErr n (-1048576) 1048576)) ∧ w = w' := by
  go_enter Tryz.func79, Tryz.ntmps79
  go_wp2_with (go_at_call 26; refine (gWithin_any _ _ _ _).mono ?_; rintro r w1 ⟨rfl, rfl⟩)
  go_ret
  exact ⟨rfl, rfl⟩
set_option maxHeartbeats 1000000 in
theorem gMapLev_any (A : Option Addr) (l : List Int) (c : Nat) (w : World) (hC : Cells w A l) (hn : l.length ≤ 5000) :
    Calls Tryz.prog 78 #[.slice A l.length c, .func (.func 79) #[] #[]] w fun r w' =>
      (∃ B d, r = .returned (.slice B l.length d) ∧ Cells w' B (l.map fun n => rangeErr n (-1048576) 1048576)) ∧ Below w.heap.size w w' := by
  obtain ⟨i0, hii, hz0, hz1, hz2⟩ := info_parts Tryz.infoE
  have HC := Lib.hid hC
  obtain ⟨N, hN⟩ : ∃ N, N = l.length := ⟨_, rfl⟩
  have HN := Lib.hid hN
  have HL : Hid (∀ k, k ≤ N → (errsK l (-1048576) 1048576 k).length = k) := Lib.hid (fun k hk => errsK_len (by rw [← hN]; exact hk))
  rw [← hN] at hn ⊢
  clear hN hC
  go_enter Tryz.func78, Tryz.ntmps78
  go_wp2
  go_loopw [5, 10] (fun v i wr => ∃ k : Nat, k ≤ N ∧ i = (.int .i64 ((k : Int))) ∧ wr.ownsRow w.heap.size 31 1 v (errsK l (-1048576) 1048576 k).length ((errsK l (-1048576) 1048576 k).map (Value.int .i64)) ∧ Below w.heap.size w wr) (fun _ i _ => N - (intOf i).toNat)
  case atStart => exact ⟨0, Nat.zero_le _, rfl, World.ownsRow_nil _ _ _ _, Below.refl _ _⟩
  case round =>
    obtain ⟨k, hk, rfl, hown, hB⟩ := hrel
    have HO := Lib.hid hown
    have hle := Lib.hid (HL.out k hk)
    have hsz := hB.size
    clear hown
    by_cases hlt : k < N
    · obtain ⟨b, o, rfl, l1, k1⟩ := HC.out (by rw [← HN.out]; omega)
      have x1 := (hB.cell (p := ⟨b, o + k, none⟩) l1).trans (k1 k (by rw [← HN.out]; exact hlt))
      have HS := Lib.hid (errsK_succ (lo := -1048576) (hi := 1048576) (show k < l.length by rw [← HN.out]; exact hlt))
      obtain ⟨x, hx⟩ : ∃ x, x = l.getD k 0 := ⟨_, rfl⟩
      rw [← hx] at x1 HS
      clear k1 hx
      go_wp2_with (first
        | (go_at_call 79; refine (gLevel_any x _).mono ?_; rintro r w2 ⟨rfl, rfl⟩)
        | (at_builtin; refine wpList_append_own _ rfl _ _ 94 rfl w.heap.size 31 i0 (.int .i64 0) 1 8 Tryz.underlying94 hii hz0 hz1 hz2 rfl (by decide) _ _ _ rfl (HO.out.alloc _) ⟨wr.heap.size, 0, none⟩ 1 1 [.int .i64 (rangeErr x (-1048576) 1048576)] rfl rfl ?c1 ?c2 ?c3 ?c4 ?c5 ?_))
      case c1 =>
        intro j u hj
        match j, hj with
        | 0, hj => simp at hj; subst hj; simp [Addr.add]
      case c2 => intro u hu; simp at hu; subst hu; rfl
      case c3 => have := hle.out; unfold maxLen; omega
      case c4 => have := hle.out; omega
      case c5 => simp; omega
      intro v' w1 hown' hgrow _
      have hB' : Below w.heap.size w w1 := (hB.alloc hsz _).grown hgrow (by simp; omega) (fun j hj => (HO.out.lt j hj).1)
      have HO' := Lib.hid hown'
      clear hgrow hown'
      go_wp2
      go_roundw
      case rel => exact ⟨k + 1, by omega, by go_num, by rw [HS.out]; simpa using HO'.out, hB'⟩
      case measure => simp [intOf]; omega
    · obtain rfl : k = N := by omega
      have hown := HO.out
      have e : errsK l (-1048576) 1048576 k = l.map fun n => rangeErr n (-1048576) 1048576 := by rw [HN.out]; exact errsK_all _ _ _
      rw [hle.out, e] at hown
      obtain ⟨B, d, rfl, _, hr⟩ := own_ints hown (by simp [← HN.out])
      have HR := Lib.hid hr
      clear hown e hr
      go_wp2
      go_ret
      exact ⟨⟨B, d, rfl, HR.out⟩, hB⟩

theorem gFirst_cells (l : List Int) (W : World) (hl : l.length ≤ 100) : Calls Tryz.prog 24 #[.slice (some ⟨W.heap.size, 0, none⟩) l.length l.length] (W.alloc (.cells (l.map (Value.int .i64)).toArray 31)) fun r w' => r = .returned (.int .i64 (firstOf l)) ∧ (W.alloc (.cells (l.map (Value.int .i64)).toArray 31)) = w' :=
  gFirst_any l _ _ _ (by omega) (Cells.row (heap_new rfl))

end Go.Proofs.YtamldoidalnloaaGreatDoor

/- CheckResponse and CheckSequence of lists without an error. -/
namespace Go.Proofs.YtamldoidalnloaaGreatDoor
open Go.RowKit
open Calm (bcell Blk)
set_option maxHeartbeats 1000000 in
theorem gSequence_ok (xs : List Int) (A : Option Addr) (c N : Nat) (w : World) (hN : N = xs.length) (hC : Cells w A xs) (hn : N ≤ 4096) (hl : lvls xs) :
    Calls Tryz.prog 62 #[.slice A N c] w fun r w' => r = .returned (.int .i64 0) ∧ Below w.heap.size w w' := by
  have HM : Hid (∀ W, Cells W A xs → Calls Tryz.prog 78 #[.slice A N c, .func (.func 79) #[] #[]] W fun r w' => (∃ B d, r = .returned (.slice B N d) ∧ Cells w' B (xs.map fun n => rangeErr n (-1048576) 1048576)) ∧ Below W.heap.size W w') := Lib.hid (fun W q => by rw [hN]; exact gMapLev_any A xs c W q (by omega))
  have HF : Hid (∀ W B d, Cells W B (xs.map fun n => rangeErr n (-1048576) 1048576) → Calls Tryz.prog 24 #[.slice B N d] W fun r w' => r = .returned (.int .i64 0) ∧ W = w') := Lib.hid (fun W B d q => by
    have e : N = (xs.map fun n => rangeErr n (-1048576) 1048576).length := by simp [hN]
    have := gFirst_any _ B d W (by rw [← e]; omega) q
    rwa [lvls_first hl, ← e] at this)
  have HC := Lib.hid hC
  have h1 : ¬ (4096 : Int) < (N : Int) := by omega
  clear hC hN hl
  go_enter Tryz.func62, Tryz.ntmps62
  go_wp2_with (first
    | (go_at_call 78; refine (HM.out _ HC.out).mono ?_; rintro r w1 ⟨⟨B, d, rfl, hc1⟩, hb1⟩; have HC1 := Lib.hid hc1; clear hc1; refine Hid.out ?_))
  unfold Hid
  go_wp2_with (go_at_call 24; refine (HF.out _ _ _ HC1.out).mono ?_; rintro r w2 ⟨rfl, rfl⟩)
  go_ret
  exact ⟨rfl, hb1⟩
end Go.Proofs.YtamldoidalnloaaGreatDoor

/- Contracts of mapped[int,int] at the functions that the program hands to it. -/
namespace Go.Proofs.YtamldoidalnloaaGreatDoor
open Go.RowKit
open Calm (bcell Blk)
theorem opposite_any (x : Int) (w : World) (hx : -2147483648 ≤ x ∧ x ≤ 2147483648) : Calls Tryz.prog 48 #[(.int .i64 x)] w fun r w' => r = .returned (.int .i64 (-x)) ∧ w = w' := by
  go_enter Tryz.func48, Tryz.ntmps48
  go_wp2
  go_ret
  exact ⟨by go_num, rfl⟩
set_option maxHeartbeats 1000000 in
theorem mapOpp_any (A : Option Addr) (l : List Int) (c N : Nat)  (w : World) (hN : N = l.length) (hC : Cells w A l) (hn : N ≤ 5000) (hl : ∀ x ∈ l, -2147483648 ≤ x ∧ x ≤ 2147483648) :
    Calls Tryz.prog 47 #[.slice A N c, .func (.func 48) #[] #[]] w fun r w' =>
      (∃ B d, r = .returned (.slice B N d) ∧ Cells w' B (l.map fun x => -x) ∧ ∀ p, B = some p → w.heap.size ≤ p.block) ∧ Below w.heap.size w w' := by
  obtain ⟨i0, hii, hz0, hz1, hz2⟩ := info_parts Tryz.infoI
  have HC := Lib.hid hC
  have HN := Lib.hid hN
  have HLM := Lib.hid hl
  obtain ⟨f, hf⟩ : ∃ f : Int → Int, f = fun x => -x := ⟨_, rfl⟩
  have HF := Lib.hid hf
  have HCALL : Hid (∀ (x : Int) (W : World), x ∈ l → Calls Tryz.prog 48 #[(.int .i64 x)] W fun r w' => r = .returned (.int .i64 (f x)) ∧ W = w') := Lib.hid (fun x W hx => by rw [hf]; exact opposite_any x W (hl x hx))
  rw [← hf]
  have HLK : ∀ k, k ≤ N → ((l.take k).map f).length = k := fun k hk => by rw [List.length_map, List.length_take]; omega
  have HL := Lib.hid HLK
  clear HLK hN hC hf hl
  go_enter Tryz.func47, Tryz.ntmps47
  go_wp2
  go_loopw [5, 10] (fun v i wr => ∃ k : Nat, k ≤ N ∧ i = (.int .i64 ((k : Int))) ∧ wr.ownsRow w.heap.size 3 1 v ((l.take k).map f).length (((l.take k).map f).map (Value.int .i64)) ∧ Below w.heap.size w wr) (fun _ i _ => N - (intOf i).toNat)
  case atStart => exact ⟨0, Nat.zero_le _, rfl, World.ownsRow_nil _ _ _ _, Below.refl _ _⟩
  case round =>
    obtain ⟨k, hk, rfl, hown, hB⟩ := hrel
    have HO := Lib.hid hown
    have hle := Lib.hid (HL.out k hk)
    have hsz := hB.size
    clear hown
    by_cases hlt : k < N
    · obtain ⟨b, o, rfl, l1, k1⟩ := HC.out (by rw [← HN.out]; omega)
      have x1 := (hB.cell (p := ⟨b, o + k, none⟩) l1).trans (k1 k (by rw [← HN.out]; exact hlt))

      have hkl : k < l.length := by rw [← HN.out]; exact hlt
      have HS : Hid ((l.take (k + 1)).map f = (l.take k).map f ++ [f (l.getD k 0)]) := Lib.hid (by rw [List.take_succ_eq_append_getElem hkl, List.map_append, List.getD_eq_getElem?_getD, List.getElem?_eq_getElem hkl]; rfl)
      have HXM : Hid (l.getD k 0 ∈ l) := Lib.hid (by rw [List.getD_eq_getElem?_getD, List.getElem?_eq_getElem hkl]; exact List.getElem_mem hkl)
      obtain ⟨x, hx⟩ : ∃ x, x = l.getD k 0 := ⟨_, rfl⟩
      rw [← hx] at x1 HS HXM
      obtain ⟨y, hy⟩ : ∃ y, y = f x := ⟨_, rfl⟩
      rw [← hy] at HS
      have HCX := Lib.hid (fun W => HCALL.out x W HXM.out)
      rw [← hy] at HCX
      clear k1 hx hkl hy
      go_wp2_with (first
        | (go_at_call 48; refine (HCX.out _).mono ?_; rintro r w2 ⟨rfl, rfl⟩)
        | (at_builtin; refine wpList_append_own _ rfl _ _ 44 rfl w.heap.size 3 i0 (.int .i64 0) 1 8 Tryz.underlying44 hii hz0 hz1 hz2 rfl (by decide) _ _ _ rfl (HO.out.alloc _) ⟨wr.heap.size, 0, none⟩ 1 1 [.int .i64 y] rfl rfl ?c1 ?c2 ?c3 ?c4 ?c5 ?_))
      case c1 =>
        intro j u hj
        match j, hj with
        | 0, hj => simp at hj; subst hj; simp [Addr.add]
      case c2 => intro u hu; simp at hu; subst hu; rfl
      case c3 => have := hle.out; unfold maxLen; omega
      case c4 => have := hle.out; omega
      case c5 => simp; omega
      intro v' w1 hown' hgrow _
      have hB' : Below w.heap.size w w1 := (hB.alloc hsz _).grown hgrow (by simp; omega) (fun j hj => (HO.out.lt j hj).1)
      have HO' := Lib.hid hown'
      clear hgrow hown'
      go_wp2
      go_roundw
      case rel => exact ⟨k + 1, by omega, by go_num, by rw [HS.out]; simpa using HO'.out, hB'⟩
      case measure => simp [intOf]; omega
    · obtain rfl : k = N := by omega
      have hown := HO.out
      have e : l.take k = l := by rw [HN.out]; exact List.take_length
      rw [hle.out, e] at hown
      obtain ⟨B, d, rfl, hge, hr⟩ := own_ints hown (by simp [← HN.out])
      have HR := Lib.hid hr
      have HG := Lib.hid hge
      clear hown e hr hge
      go_wp2
      go_ret
      exact ⟨⟨B, d, rfl, HR.out, HG.out⟩, hB⟩

end Go.Proofs.YtamldoidalnloaaGreatDoor

/- slices.Grow onto nothing, and slices.Concat of two slices of integers. -/
namespace Go.Proofs.YtamldoidalnloaaGreatDoor
open Go.RowKit
open Calm (bcell Blk)
/-- a row of one's own: append of a slice of integers. -/
theorem run_append_none {P : Program} (W : World) (t ty e : TypeId) (i : TypeInfo) (z : Value) (ht : P.underlying t = some (.slice e)) (hi : P.info? e = some i) (hz : i.zero = some z) (B A : Option Addr) (n d c : Nat) (hnd : n ≤ d) (hd : d ≤ 9223372036854775807) (hB : B = none → d = 0) :
    (Builtin.append_ #[t, t] ty #[.slice B n d, .slice A 0 c]).run P W = .ok (.slice B n d) W := by
  have hl : ∀ (x : Addr), (loadCells x 0).run P W = .ok #[] W := fun x => by simpa using run_loadCells_list (P := P) W x [] (by simp)
  have h1 : ¬ (9223372036854775807 < (n : Int)) := by omega
  cases B with
  | none =>
    obtain rfl := hB rfl
    obtain rfl : n = 0 := by omega
    cases A <;> simp [Builtin.append_, run_underlying ht, sizeOf, typeInfo, zeroValue, hi, hz, Builtin.lenOf, Builtin.firstCells, storeCells, hl]
  | some b =>
    cases A <;> simp [Builtin.append_, run_underlying ht, sizeOf, typeInfo, zeroValue, hi, hz, Builtin.lenOf, Builtin.firstCells, storeCells, hl, hnd, h1]
theorem wpList_appS {w : World} {ops : Array Oper} {rest : List Oper} {o : Oper} {a : Act} {Q : Exit → Act → World → Prop} (hgd : o.guard = none) (s x : Operand)
    (ho : o.op = .call { callee := .builtin .append, args := #[s, x], argTypes := #[44, 44] }) (base : Nat) (u : Value) (xs : List Int) (hs : a.eval s = u) (hown : w.ownsRow base 3 1 u xs.length (xs.map (Value.int .i64))) (A : Option Addr) (m c : Nat) (ys : List Int) (hm : m = ys.length)
    (hx : a.eval x = .slice A m c) (hc : Cells w A ys) (h5 : xs.length + m ≤ 100000) (hb : base ≤ w.heap.size)
    (h : ∀ v' w', w'.ownsRow base 3 1 v' (xs ++ ys).length ((xs ++ ys).map (Value.int .i64)) → w.grownBy w' u.ownBlock → wpList Tryz.prog ops Q rest (a.put o.dst v') w') : wpList Tryz.prog ops Q (o :: rest) a w := by
  obtain ⟨i0, hi, hz0, hz1, hz2⟩ := info_parts Tryz.infoI
  rcases Nat.eq_zero_or_pos m with h0 | h0
  · subst h0
    obtain rfl : ys = [] := List.eq_nil_of_length_eq_zero hm.symm
    refine wpList_plain hgd fun K hK => ?_
    have hu : ∃ B d, u = .slice B xs.length d ∧ xs.length ≤ d ∧ d ≤ 9223372036854775807 ∧ (B = none → d = 0) := by
      rcases hown.2 with ⟨h1, h2⟩ | ⟨g, cap, cur, h1, _, _, h4, h5', _⟩
      · exact ⟨none, 0, by rw [h1, h2], by omega, by omega, fun _ => rfl⟩
      · exact ⟨_, cap, h1, h4, by simp only [maxLen] at h5'; omega, fun h => by cases h⟩
    obtain ⟨B, d, rfl, h1, h2, h3⟩ := hu
    have hrun := run_append_none (P := Tryz.prog) w 44 o.type 3 i0 _ Tryz.underlying44 hi hz0 B A xs.length d c h1 h2 h3
    unfold Oper.wp
    simp [execOp, ho, resolve, invoke, builtin, hs, hx, hrun, Result.andThen]
    exact hK _ _ (h _ w (by simpa using hown) (World.grownBy.refl _ _))
  · obtain ⟨b, off, rfl, hbl, hcc⟩ := hc (by omega)
    refine wpList_append_own w hgd s x 44 ho base 3 i0 _ 1 8 Tryz.underlying44 hi hz0 hz1 hz2 rfl (by decide) u xs.length _ hs hown ⟨b, off, none⟩ m c (ys.map (Value.int .i64)) hx (by simp; omega) (fun j v hj => cells_src hcc j v hj) (fun u hu => by obtain ⟨z, _, rfl⟩ := List.mem_map.1 hu; rfl) (by unfold maxLen; omega) (by omega) hb ?_
    intro v' w' k1 k2 _
    exact h v' w' (by rw [List.length_append, List.map_append, ← hm]; exact k1) k2
theorem wpList_appZ {w : World} {ops : Array Oper} {rest : List Oper} {o : Oper} {a : Act} {Q : Exit → Act → World → Prop} (hgd : o.guard = none) (s x : Operand)
    (ho : o.op = .call { callee := .builtin .append, args := #[s, x], argTypes := #[44, 3] }) (n : Nat) (h0 : 0 < n) (hn : n ≤ 100000) (hs : a.eval s = .slice none 0 0) (hx : a.eval x = (.int .i64 ((n : Int))))
    (h : ∀ G cur, n ≤ G → G ≤ maxLen → cur.size = G → wpList Tryz.prog ops Q rest (a.put o.dst (.slice (some ⟨w.heap.size, 0, none⟩) n G)) (w.drew.alloc (.cells cur 3))) : wpList Tryz.prog ops Q (o :: rest) a w := by
  obtain ⟨i0, hi, hz0, hz1, hz2⟩ := info_parts Tryz.infoI
  have hcap := grownCap_ge w n 0 3
  have hmx := grownCap_le_maxLen w n 0 3 (by unfold maxLen; omega)
  have hrun := Lib.run_append_nil_zeros (P := Tryz.prog) w 44 3 o.type 3 i0 _ .i64 .i64 Tryz.underlying44 Tryz.underlying3 hi hz0 n h0 (by rw [hz1]; decide) (by omega) (by rw [hz2]; omega)
  obtain ⟨G, hG⟩ : ∃ G, G = grownCap w n 0 3 := ⟨_, rfl⟩
  rw [← hG] at hrun hcap hmx
  obtain ⟨cur, hcur⟩ : ∃ cur, cur = Builtin.zeroCells (Value.cells (.int .i64 0)) n ++ Builtin.zeroCells (Value.cells (.int .i64 0)) (G - n) := ⟨_, rfl⟩
  have hsz : cur.size = G := by
    have hz : ∀ k, (Builtin.zeroCells (Value.cells (.int .i64 0)) k).size = k := fun k => by simp [Builtin.zeroCells, Value.cells]
    rw [hcur, Array.size_append, hz, hz]; omega
  rw [← hcur] at hrun
  refine wpList_plain hgd fun K hK => ?_
  unfold Oper.wp
  simp [execOp, ho, resolve, invoke, builtin, hs, hx, hrun, Result.andThen]
  exact hK _ _ (h G cur hcap hmx hsz)
set_option maxHeartbeats 1000000 in
theorem grow_any (n : Nat) (w : World) (hn : n ≤ 100000) : Calls Tryz.prog 67 #[.slice none 0 0, (.int .i64 ((n : Int)))] w fun r w' => ∃ v, r = .returned v ∧ w'.ownsRow w.heap.size 3 1 v 0 [] ∧ Below w.heap.size w w' := by
  rcases Nat.eq_zero_or_pos n with h0 | h0
  · subst h0
    go_enter Tryz.func67, Tryz.ntmps67
    go_wp2
    go_ret
    exact ⟨_, rfl, World.ownsRow_nil _ _ _ _, Below.refl _ _⟩
  · have h1 : ¬ (n : Int) < 0 := by omega
    have h2 : 0 < (n : Int) := by omega
    go_enter Tryz.func67, Tryz.ntmps67
    go_wp2_with (at_builtin; refine wpList_appZ rfl _ _ rfl n h0 hn rfl rfl ?_)
    intro G cur q1 q2 q3
    have q4 : (0 : Int) ≤ (G : Int) := by omega
    go_wp2
    go_ret
    refine ⟨_, rfl, ⟨rfl, .inr ⟨w.heap.size, G, cur, rfl, Nat.le_refl _, heap_new (w := w.drew) rfl, by omega, q2, by omega, by simp⟩⟩, by (repeat (first | (with_reducible exact Below.refl _ _) | ((with_reducible refine Below.setCell ?_ ?_ _); rotate_left 1; focus (first | (simp; done) | (simp; omega) | (simp at *; omega))) | ((with_reducible refine Below.alloc ?_ ?_ _); rotate_left 1; focus (first | (simp; done) | (simp; omega) | (simp at *; omega))) | (with_reducible refine Below.drew ?_) | ((with_reducible refine Calm.step (by assumption) ?_ ?_); rotate_left 1; focus (first | (simp; done) | (simp; omega) | (simp at *; omega)))))⟩
def totC (n1 n2 : Nat) : Nat → Nat
  | 0 => 0
  | 1 => n1
  | _ => n1 + n2
def preC (xs ys : List Int) : Nat → List Int
  | 0 => []
  | 1 => xs
  | _ => xs ++ ys
set_option maxRecDepth 100000 in
set_option maxHeartbeats 4000000 in
theorem concat_any (xs ys : List Int) (A1 A2 : Option Addr) (n1 n2 c1 c2 b : Nat) (w : World) (hn1 : n1 = xs.length) (hn2 : n2 = ys.length) (hK : Blk w b #[.slice A1 n1 c1, .slice A2 n2 c2]) (hX : Cells w A1 xs) (hY : Cells w A2 ys) (h1 : n1 ≤ 5000) (h2 : n2 ≤ 5000) :
    Calls Tryz.prog 46 #[.slice (some ⟨b, 0, none⟩) 2 2] w fun r w' => (∃ B d, r = .returned (.slice B (n1 + n2) d) ∧ Cells w' B (xs ++ ys) ∧ ∀ p, B = some p → w.heap.size ≤ p.block) ∧ Below w.heap.size w w' := by
  have HK := Lib.hid hK
  have HX := Lib.hid hX
  have HY := Lib.hid hY
  have HN1 := Lib.hid hn1
  have HN2 := Lib.hid hn2
  obtain ⟨f0, f1, fl, ff⟩ := hK.o2
  clear hK hX hY hn1 hn2
  go_enter Tryz.func46, Tryz.ntmps46
  go_wp2
  go_loop [3, 11] (fun s i => ∃ k : Nat, k ≤ 2 ∧ i = (.int .i64 ((k : Int))) ∧ s = (.int .i64 (((totC n1 n2 k : Nat) : Int)))) (fun _ i => 2 - (intOf i).toNat)
  case atStart => exact ⟨0, by omega, rfl, rfl⟩
  case round =>
    obtain ⟨k, hk, rfl, rfl⟩ := hrel
    rcases (by omega : k = 0 ∨ k = 1 ∨ k = 2) with rfl | rfl | rfl
    · have e : ((totC n1 n2 0 : Nat) : Int) = 0 := rfl
      have q : ¬ (n1 : Int) < 0 := by omega
      rw [e]
      go_wp2
      go_round
      case rel => exact ⟨1, by omega, by go_num, by simp [totC]⟩
      case measure => simp [intOf]
    · have e : ((totC n1 n2 1 : Nat) : Int) = (n1 : Int) := rfl
      have q : ¬ (n1 : Int) + (n2 : Int) < 0 := by omega
      rw [e]
      go_wp2
      go_round
      case rel => exact ⟨2, by omega, by go_num, by simp [totC]⟩
      case measure => simp [intOf]
    · have e : ((totC n1 n2 2 : Nat) : Int) = ((n1 + n2 : Nat) : Int) := rfl
      rw [e]
      clear e
      go_wp2_with (go_at_call 67; refine (grow_any (n1 + n2) _ (by omega)).mono ?_; rintro r w1 ⟨v, rfl, ho, hb⟩; refine Hid.out ?_)
      unfold Hid
      have HO := Lib.hid ho
      have HB := Lib.hid hb
      have hsz := hb.size
      clear ho hb f0 f1 fl ff
      go_wp2
      go_loopw [6, 27] (fun v i wr => ∃ k : Nat, k ≤ 2 ∧ i = (.int .i64 ((k : Int))) ∧ wr.ownsRow w.heap.size 3 1 v (preC xs ys k).length ((preC xs ys k).map (Value.int .i64)) ∧ Below w.heap.size w wr) (fun _ i _ => 2 - (intOf i).toNat)
      case atStart => exact ⟨0, by omega, rfl, HO.out, HB.out⟩
      case round =>
        obtain ⟨k, hk, rfl, ho, hb⟩ := hrel
        have HO2 := Lib.hid ho
        have HB2 := Lib.hid hb
        have hsz2 := hb.size
        obtain ⟨f0, f1, fl, ff⟩ := (HK.out.below hb).o2
        rcases (by omega : k = 0 ∨ k = 1 ∨ k = 2) with rfl | rfl | rfl
        · clear ho hb
          go_wp2_with (at_builtin; refine wpList_appS rfl _ _ rfl w.heap.size _ [] rfl HO2.out A1 n1 c1 xs HN1.out rfl (HX.out.below HB2.out) (by simp; omega) hsz2 ?_)
          intro v' w' hown hgrow
          have HB3 := Lib.hid (HB2.out.grown hgrow hsz2 (fun j hj => (HO2.out.lt j hj).1))
          have HO3 := Lib.hid hown
          clear hown hgrow f0 f1 fl ff
          go_wp2
          go_roundw
          case rel => exact ⟨1, by omega, by go_num, HO3.out, HB3.out⟩
          case measure => simp [intOf]
        · clear ho hb
          go_wp2_with (at_builtin; refine wpList_appS rfl _ _ rfl w.heap.size _ xs rfl HO2.out A2 n2 c2 ys HN2.out rfl (HY.out.below HB2.out) (by have := HN1.out; omega) hsz2 ?_)
          intro v' w' hown hgrow
          have HB3 := Lib.hid (HB2.out.grown hgrow hsz2 (fun j hj => (HO2.out.lt j hj).1))
          have HO3 := Lib.hid hown
          clear hown hgrow f0 f1 fl ff
          go_wp2
          go_roundw
          case rel => exact ⟨2, by omega, by go_num, by simpa [preC] using HO3.out, HB3.out⟩
          case measure => simp [intOf]
        · have hl : (preC xs ys 2).length = n1 + n2 := by rw [HN1.out, HN2.out]; exact List.length_append
          rw [hl] at ho
          obtain ⟨B, d, rfl, hge, hr⟩ := own_ints (zs := xs ++ ys) ho (by rw [HN1.out, HN2.out, List.length_append])
          have HR := Lib.hid hr
          have HG := Lib.hid hge
          clear ho hb hr hge hl f0 f1 fl ff
          go_wp2
          go_ret
          exact ⟨⟨B, d, rfl, HR.out, HG.out⟩, HB2.out⟩
end Go.Proofs.YtamldoidalnloaaGreatDoor

/- Complementary pairs: the program's Pair. -/
namespace Go.Proofs.YtamldoidalnloaaGreatDoor
open Go.RowKit
open Calm (bcell Blk)
/-- both sequences of the pair of a length. -/
def gol : Nat → List Int × List Int
  | 0 => ([1], [1])
  | e + 1 => ((gol e).1 ++ (gol e).2, (gol e).1 ++ (gol e).2.map (fun x => -x))
theorem gol_len : ∀ e, (gol e).1.length = 2 ^ e ∧ (gol e).2.length = 2 ^ e
  | 0 => ⟨rfl, rfl⟩
  | e + 1 => by
    obtain ⟨h1, h2⟩ := gol_len e
    refine ⟨?_, ?_⟩ <;> (simp only [gol, List.length_append, List.length_map, h1, h2, Nat.pow_succ]; omega)
theorem gol_pm : ∀ e, (∀ x ∈ (gol e).1, x = 1 ∨ x = -1) ∧ (∀ x ∈ (gol e).2, x = 1 ∨ x = -1)
  | 0 => ⟨by simp [gol], by simp [gol]⟩
  | e + 1 => by
    obtain ⟨h1, h2⟩ := gol_pm e
    refine ⟨fun x hx => ?_, fun x hx => ?_⟩
    · simp only [gol, List.mem_append] at hx
      exact hx.elim (h1 x) (h2 x)
    · simp only [gol, List.mem_append, List.mem_map] at hx
      rcases hx with hx | ⟨y, hy, rfl⟩
      · exact h1 x hx
      · have := h2 y hy; omega
theorem pow_le_64 {e : Nat} (h : e ≤ 6) : 1 ≤ 2 ^ e ∧ 2 ^ e ≤ 64 := ⟨Nat.one_le_two_pow, Nat.le_trans (Nat.pow_le_pow_right (by decide) h) (by decide)⟩
theorem Cells.blk {W : World} {g : Nat} {cs : Array Value} {zs : List Int} (h : Blk W g cs) (e : cs = (zs.map (Value.int .i64)).toArray) : Cells W (some ⟨g, 0, none⟩) zs := fun h0 =>
  ⟨g, 0, rfl, h.lt, fun k hk => by
    rw [Nat.zero_add, h.c, e]
    simp [hk, List.getD_eq_getElem?_getD, List.getElem?_eq_getElem hk]⟩
/-- a slice of integers that lies in no older block. -/
def FS (b : Nat) (l : List Int) (v : Value) (W : World) : Prop := ∃ B c, v = .slice B l.length c ∧ Cells W B l ∧ ∀ p, B = some p → b ≤ p.block
set_option maxRecDepth 100000 in
set_option maxHeartbeats 4000000 in
theorem pair_any (e : Nat) (he : e ≤ 6) (w : World) : Calls Tryz.prog 18 #[(.int .i64 (((2 ^ e : Nat) : Int)))] w fun r w' => ∃ u v, r = .returned (.tuple #[u, v, (.int .i64 0)]) ∧ FS w.heap.size (gol e).1 u w' ∧ FS w.heap.size (gol e).2 v w' ∧ Below w.heap.size w w' := by
  obtain ⟨n, hn⟩ : ∃ n, n = 2 ^ e := ⟨_, rfl⟩
  have hn64 := pow_le_64 he
  rw [← hn] at hn64 ⊢
  have HE := Lib.hid hn
  clear hn
  go_enter Tryz.func18, Tryz.ntmps18
  go_wp2
  refine name_world ?_
  intro w0 e0
  have HB0 := Lib.hid (show Below w.heap.size w w0 by rw [e0]; (repeat (first | (with_reducible exact Below.refl _ _) | ((with_reducible refine Below.setCell ?_ ?_ _); rotate_left 1; focus (first | (simp; done) | (simp; omega) | (simp at *; omega))) | ((with_reducible refine Below.alloc ?_ ?_ _); rotate_left 1; focus (first | (simp; done) | (simp; omega) | (simp at *; omega))) | (with_reducible refine Below.drew ?_) | ((with_reducible refine Calm.step (by assumption) ?_ ?_); rotate_left 1; focus (first | (simp; done) | (simp; omega) | (simp at *; omega))))))
  have KA : Blk w0 w.heap.size #[(.int .i64 1)] := by rw [e0]; (repeat (first | ((with_reducible refine Blk.at_ ?_); focus (first | rfl | (simp; done) | (simp; omega))) | (with_reducible refine Blk.alloc ?_ _) | (with_reducible refine Blk.below ?_ (by with_reducible assumption)) | (with_reducible refine Blk.drew ?_)))
  have KB : Blk w0 (w.heap.size + 1) #[(.int .i64 1)] := by rw [e0]; (repeat (first | ((with_reducible refine Blk.at_ ?_); focus (first | rfl | (simp; done) | (simp; omega))) | (with_reducible refine Blk.alloc ?_ _) | (with_reducible refine Blk.below ?_ (by with_reducible assumption)) | (with_reducible refine Blk.drew ?_)))
  have KA := Lib.hid KA
  have KB := Lib.hid KB
  clear e0
  go_loopw [5, 6, 9] (fun a b i wr => ∃ k : Nat, k ≤ e ∧ i = (.int .i64 ((k : Int))) ∧ FS w.heap.size (gol k).1 a wr ∧ FS w.heap.size (gol k).2 b wr ∧ Below w.heap.size w wr) (fun _ _ i _ => 7 - (intOf i).toNat)
  case atStart => exact ⟨0, Nat.zero_le _, rfl, ⟨_, _, rfl, Cells.blk KA.out rfl, by rintro p ⟨⟩; exact Nat.le_refl _⟩, ⟨_, _, rfl, Cells.blk KB.out rfl, by rintro p ⟨⟩; exact Nat.le_succ _⟩, HB0.out⟩
  case round =>
    obtain ⟨k, hk, rfl, ⟨A, c, rfl, hA, hfA⟩, ⟨B, d, rfl, hB, hfB⟩, hb⟩ := hrel
    obtain ⟨g1, g2⟩ := gol_len k
    obtain ⟨m1, m2⟩ := gol_pm k
    have hk64 := pow_le_64 (show k ≤ 6 by omega)
    obtain ⟨N, hN⟩ : ∃ N, N = 2 ^ k := ⟨_, rfl⟩
    rw [← hN] at g1 g2 hk64
    have HCA := Lib.hid hA
    have HCB := Lib.hid hB
    have HFA := Lib.hid hfA
    have HFB := Lib.hid hfB
    have HBR := Lib.hid hb
    have hsz := hb.size
    rw [g1, g2]
    have G1 := Lib.hid g1
    have G2 := Lib.hid g2
    have M2 := Lib.hid m2
    clear hA hB hfA hfB hb g1 g2 m1 m2
    by_cases hke : k = e
    · subst hke
      obtain rfl : N = n := by rw [hN, HE.out]
      clear hN
      go_wp2
      refine bodyPost_ret (v := .tuple #[.slice A N c, .slice B N d, (.int .i64 0)]) (by simp [results, Tryz.results18, go_sem]) rfl ⟨_, _, rfl, ⟨A, c, by rw [G1.out], HCA.out, HFA.out⟩, ⟨B, d, by rw [G2.out], HCB.out, HFB.out⟩, HBR.out⟩
    · have hne : ¬ N = n := fun h => by have := Nat.pow_lt_pow_right (a := 2) (by decide) (show k < e by omega); rw [← hN, h, HE.out] at this; omega
      have hne1 : ((N : Int) == (n : Int)) = false := beq_eq_false_iff_ne.2 (by omega)
      have hk7 : (k : Int) < 7 := by omega
      clear hN
      go_wp2_with (go_at_call 46; refine name_calls ?_; intro w1 e1; refine Hid.out ?_)
      unfold Hid
      have h1 : Below wr.heap.size wr w1 := by rw [e1]; (repeat (first | (with_reducible exact Below.refl _ _) | ((with_reducible refine Below.setCell ?_ ?_ _); rotate_left 1; focus (first | (simp; done) | (simp; omega) | (simp at *; omega))) | ((with_reducible refine Below.alloc ?_ ?_ _); rotate_left 1; focus (first | (simp; done) | (simp; omega) | (simp at *; omega))) | (with_reducible refine Below.drew ?_) | ((with_reducible refine Calm.step (by assumption) ?_ ?_); rotate_left 1; focus (first | (simp; done) | (simp; omega) | (simp at *; omega)))))
      have K1 : Blk w1 wr.heap.size #[.slice A N c, .slice B N d] := by rw [e1]; (repeat (first | ((with_reducible refine Blk.at_ ?_); focus (first | rfl | (simp; done) | (simp; omega))) | (with_reducible refine Blk.alloc ?_ _) | (with_reducible refine Blk.below ?_ (by with_reducible assumption)) | (with_reducible refine Blk.drew ?_)))
      have HB1 := Lib.hid (HBR.out.trans (h1.mono hsz))
      have HCA1 := Lib.hid (HCA.out.below h1)
      have HCB1 := Lib.hid (HCB.out.below h1)
      refine (concat_any (gol k).1 (gol k).2 A B N N c d wr.heap.size w1 G1.out.symm G2.out.symm K1 HCA1.out HCB1.out (by omega) (by omega)).mono ?_
      rintro r w2 ⟨⟨X, x, rfl, hX, hfX⟩, h2⟩
      have HX := Lib.hid hX
      have HFX : Hid (∀ p, X = some p → w.heap.size ≤ p.block) := Lib.hid (fun p hp => by have := hfX p hp; have := HB1.out.size; omega)
      have HB2 := Lib.hid (HB1.out.trans (h2.mono HB1.out.size))
      have HCA2 := Lib.hid (HCA1.out.below h2)
      have HCB2 := Lib.hid (HCB1.out.below h2)
      clear e1 h1 K1 h2 hX hfX
      go_wp2_with (go_at_call 47; refine name_calls ?_; intro w3 e3; refine Hid.out ?_)
      unfold Hid
      have h3 : Below w2.heap.size w2 w3 := by rw [e3]; (repeat (first | (with_reducible exact Below.refl _ _) | ((with_reducible refine Below.setCell ?_ ?_ _); rotate_left 1; focus (first | (simp; done) | (simp; omega) | (simp at *; omega))) | ((with_reducible refine Below.alloc ?_ ?_ _); rotate_left 1; focus (first | (simp; done) | (simp; omega) | (simp at *; omega))) | (with_reducible refine Below.drew ?_) | ((with_reducible refine Calm.step (by assumption) ?_ ?_); rotate_left 1; focus (first | (simp; done) | (simp; omega) | (simp at *; omega)))))
      have HB3 := Lib.hid (HB2.out.trans (h3.mono HB2.out.size))
      have HX3 := Lib.hid (HX.out.below h3)
      have HCA3 := Lib.hid (HCA2.out.below h3)
      have HCB3 := Lib.hid (HCB2.out.below h3)
      clear e3 h3
      refine (mapOpp_any B (gol k).2 d N w3 G2.out.symm HCB3.out (by omega) (fun x hx => by have := M2.out x hx; omega)).mono ?_
      rintro r w4 ⟨⟨Y, y, rfl, hY, hfY⟩, h4⟩
      have HY := Lib.hid hY
      have HB4 := Lib.hid (HB3.out.trans (h4.mono HB3.out.size))
      have HX4 := Lib.hid (HX3.out.below h4)
      have HCA4 := Lib.hid (HCA3.out.below h4)
      clear h4 hY hfY
      go_wp2_with (go_at_call 46; refine name_calls ?_; intro w5 e5; refine Hid.out ?_)
      unfold Hid
      have h5 : Below w4.heap.size w4 w5 := by rw [e5]; (repeat (first | (with_reducible exact Below.refl _ _) | ((with_reducible refine Below.setCell ?_ ?_ _); rotate_left 1; focus (first | (simp; done) | (simp; omega) | (simp at *; omega))) | ((with_reducible refine Below.alloc ?_ ?_ _); rotate_left 1; focus (first | (simp; done) | (simp; omega) | (simp at *; omega))) | (with_reducible refine Below.drew ?_) | ((with_reducible refine Calm.step (by assumption) ?_ ?_); rotate_left 1; focus (first | (simp; done) | (simp; omega) | (simp at *; omega)))))
      have K5 : Blk w5 w4.heap.size #[.slice A N c, .slice Y N y] := by rw [e5]; (repeat (first | ((with_reducible refine Blk.at_ ?_); focus (first | rfl | (simp; done) | (simp; omega))) | (with_reducible refine Blk.alloc ?_ _) | (with_reducible refine Blk.below ?_ (by with_reducible assumption)) | (with_reducible refine Blk.drew ?_)))
      have HB5 := Lib.hid (HB4.out.trans (h5.mono HB4.out.size))
      have HX5 := Lib.hid (HX4.out.below h5)
      have HCA5 := Lib.hid (HCA4.out.below h5)
      have HY5 := Lib.hid (HY.out.below h5)
      have G3 : ((gol k).2.map fun x => -x).length = N := by rw [List.length_map]; exact G2.out
      refine (concat_any (gol k).1 ((gol k).2.map fun x => -x) A Y N N c y w4.heap.size w5 G1.out.symm G3.symm K5 HCA5.out HY5.out (by omega) (by omega)).mono ?_
      rintro r w6 ⟨⟨Z, z, rfl, hZ, hfZ⟩, h6⟩
      have HZ := Lib.hid hZ
      have HFZ : Hid (∀ p, Z = some p → w.heap.size ≤ p.block) := Lib.hid (fun p hp => by have := hfZ p hp; have := HB5.out.size; omega)
      have HB6 := Lib.hid (HB5.out.trans (h6.mono HB5.out.size))
      have HX6 := Lib.hid (HX5.out.below h6)
      have G4 := Lib.hid G3
      clear e5 h5 K5 h6 hZ hfZ G3
      go_wp2
      go_roundw
      case rel => exact ⟨k + 1, by omega, by go_num, ⟨X, x, by simp only [gol, List.length_append, G1.out, G2.out], HX6.out, HFX.out⟩, ⟨Z, z, by simp only [gol, List.length_append, G1.out]; rw [G4.out], HZ.out, HFZ.out⟩, HB6.out⟩
      case measure => simp [intOf]; omega
end Go.Proofs.YtamldoidalnloaaGreatDoor

/- The law of copy between slices of integers, as contracts speak of them. -/
namespace Go.Proofs.YtamldoidalnloaaGreatDoor
open Go.RowKit

end Go.Proofs.YtamldoidalnloaaGreatDoor

/- Convolutions: the program's convolved (package chamber). -/
namespace Go.Proofs.YtamldoidalnloaaGreatDoor
open Go.RowKit
open Calm (bcell Blk)
/-- the element at t of a convolution, as far as the first i elements of the first sequence. -/
def cvAt (h p : List Int) (t : Nat) : Nat → Int
  | 0 => 0
  | i + 1 => cvAt h p t i + (if i ≤ t then h.getD i 0 * p.getD (t - i) 0 else 0)
def conv (h p : List Int) : List Int := if h.length = 0 ∨ p.length = 0 then [] else (List.range (h.length + p.length - 1)).map fun t => cvAt h p t h.length
/-- the element at t behind i rounds and k products. -/
def cvV (h p : List Int) (i k t : Nat) : Int := cvAt h p t i + (if i ≤ t ∧ t < i + k then h.getD i 0 * p.getD (t - i) 0 else 0)
def cvA (h p : List Int) (L i k : Nat) : Array Value := ((List.range L).map fun t => ((.int .i64 (cvV h p i k t)) : Value)).toArray
theorem lvl_get {l : List Int} (h : lvls l) (k : Nat) : -1048576 ≤ l.getD k 0 ∧ l.getD k 0 ≤ 1048576 := by
  rcases Nat.lt_or_ge k l.length with hk | hk
  · rw [List.getD_eq_getElem?_getD, List.getElem?_eq_getElem hk]
    exact h _ (List.getElem_mem hk)
  · rw [List.getD_eq_getElem?_getD, List.getElem?_eq_none hk]
    exact ⟨by decide, by decide⟩
theorem prod_bd {x y : Int} (hx : -1048576 ≤ x ∧ x ≤ 1048576) (hy : -1048576 ≤ y ∧ y ≤ 1048576) : -1099511627776 ≤ x * y ∧ x * y ≤ 1099511627776 := by
  have h1 : x.natAbs ≤ 1048576 := by omega
  have h2 : y.natAbs ≤ 1048576 := by omega
  have h3 : (x * y).natAbs ≤ 1048576 * 1048576 := by rw [Int.natAbs_mul]; exact Nat.mul_le_mul h1 h2
  omega
theorem cvAt_bd {h p : List Int} (hh : lvls h) (hp : lvls p) (t : Nat) : ∀ i : Nat, -1099511627776 * (i : Int) ≤ cvAt h p t i ∧ cvAt h p t i ≤ 1099511627776 * (i : Int)
  | 0 => by simp [cvAt]
  | i + 1 => by
    have h1 := cvAt_bd hh hp t i
    have h2 := prod_bd (lvl_get hh i) (lvl_get hp (t - i))
    simp only [cvAt]
    split <;> omega
theorem cvA_size (h p : List Int) (L i k : Nat) : (cvA h p L i k).size = L := by simp [cvA]
theorem cvA_get {h p : List Int} {L i k t : Nat} (ht : t < L) : (cvA h p L i k)[t]? = some (.int .i64 (cvV h p i k t)) := by simp [cvA, ht]
theorem cvV_next (h p : List Int) (i k : Nat) : cvV h p i (k + 1) (i + k) = cvV h p i k (i + k) + h.getD i 0 * p.getD k 0 := by
  unfold cvV
  rw [if_pos (by omega), if_neg (by omega), Nat.add_sub_cancel_left]
  omega
theorem cvA_set (h p : List Int) (L i k : Nat) (hL : i + k < L) : (cvA h p L i k).setIfInBounds (i + k) (.int .i64 (cvV h p i k (i + k) + h.getD i 0 * p.getD k 0)) = cvA h p L i (k + 1) := by
  apply Array.ext_getElem?
  intro t
  rw [← cvV_next]
  rcases Nat.lt_or_ge t L with ht | ht
  · rw [Array.getElem?_setIfInBounds, cvA_get ht, cvA_get ht, cvA_size]
    by_cases hq : i + k = t
    · subst hq
      rw [if_pos rfl, if_pos ht]
    · rw [if_neg hq]
      congr 2
      unfold cvV
      by_cases hc : i ≤ t ∧ t < i + k
      · rw [if_pos hc, if_pos (by omega)]
      · rw [if_neg hc, if_neg (by omega)]
  · rw [Array.getElem?_eq_none (by rw [Array.size_setIfInBounds, cvA_size]; exact ht), Array.getElem?_eq_none (by rw [cvA_size]; exact ht)]
theorem cvA_row (h p : List Int) (L i : Nat) : cvA h p L i p.length = cvA h p L (i + 1) 0 := by
  unfold cvA
  congr 1
  refine List.map_congr_left fun t _ => ?_
  congr 1
  unfold cvV
  rw [if_neg (show ¬ (i + 1 ≤ t ∧ t < i + 1 + 0) by omega)]
  simp only [cvAt]
  by_cases hit : i ≤ t
  · rw [if_pos hit]
    by_cases ht : t < i + p.length
    · rw [if_pos ⟨hit, ht⟩]; omega
    · rw [if_neg (by omega), List.getD_eq_getElem?_getD (l := p), List.getElem?_eq_none (by omega)]; simp
  · rw [if_neg hit, if_neg (by omega)]; simp
theorem cvA_zero (h p : List Int) (L : Nat) : cvA h p L 0 0 = (zerosA L).toArray := by
  unfold cvA zerosA
  congr 1
  apply List.ext_getElem?
  intro t
  rcases Nat.lt_or_ge t L with ht | ht
  · simp [ht, cvV, cvAt]
  · simp [ht]
theorem cvA_end (h p : List Int) (h0 : 0 < h.length) (p0 : 0 < p.length) : cvA h p (h.length + p.length - 1) h.length 0 = ((conv h p).map (Value.int .i64)).toArray := by
  unfold cvA conv
  rw [if_neg (by omega), List.map_map]
  congr 1
  refine List.map_congr_left fun t _ => ?_
  show Value.int .i64 _ = Value.int .i64 _
  congr 1
  unfold cvV
  rw [if_neg (by omega)]
  simp
theorem conv_len (h p : List Int) : (conv h p).length = if h.length = 0 ∨ p.length = 0 then 0 else h.length + p.length - 1 := by
  unfold conv
  split <;> simp
end Go.Proofs.YtamldoidalnloaaGreatDoor

/- The law of 'for x, y := range seq' over an iterator that keeps a variable of its own in cells, reads some blocks, and calls; the body never leaves the loop. -/
namespace Go.Proofs.YtamldoidalnloaaGreatDoor
open Go.RowKit

/-- Whatever lies in a block of S lies as it lay. -/
def Same (S : Nat → Prop) (W W' : World) : Prop := ∀ k o, S k → W.heap[k]? = some o → W'.heap[k]? = some o
theorem Same.refl (S : Nat → Prop) (W : World) : Same S W W := fun _ _ _ h => h
theorem Same.eq {S : Nat → Prop} {W W' : World} (h : Same S W W') {k : Nat} (hk : S k) (hl : k < W.heap.size) : W'.heap[k]? = W.heap[k]? := by
  have e := Array.getElem?_eq_getElem hl
  rw [h k _ hk e, e]

/-- How a body that never leaves the loop may end. -/
def iterPost (S : Nat → Prop) (W : World) (I : World → Prop) : Exit → Act → World → Prop
  | .normal, _, W' => Same S W W' ∧ I W'
  | _, _, _ => False

end Go.Proofs.YtamldoidalnloaaGreatDoor

/- Contracts of slices.IndexFunc and ContainsFunc at (Guard).far, of the third condition and of (Guard).fine. -/
namespace Go.Proofs.YtamldoidalnloaaGreatDoor
open Go.RowKit
open Calm (bcell Blk)

end Go.Proofs.YtamldoidalnloaaGreatDoor

/- Contracts of the third condition and of (Guard).fine. -/
namespace Go.Proofs.YtamldoidalnloaaGreatDoor
open Go.RowKit
open Calm (bcell Blk)

def farAny (rc : Int) (l : List Int) : Bool := l.any fun x => decide (rc < absI x)

end Go.Proofs.YtamldoidalnloaaGreatDoor

/- Contract of (Guard).fine: whether a state behind an output keeps all conditions. -/
namespace Go.Proofs.YtamldoidalnloaaGreatDoor
open Go.RowKit
open Calm (bcell Blk)

end Go.Proofs.YtamldoidalnloaaGreatDoor

/- Contract of (Guard).step: the greatest permitted gain. -/
namespace Go.Proofs.YtamldoidalnloaaGreatDoor
open Go.RowKit
open Calm (bcell Blk)

end Go.Proofs.YtamldoidalnloaaGreatDoor

/- Safe states: a permitted gain is always found, and the state behind it is safe. No walk. -/
namespace Go.Proofs.YtamldoidalnloaaGreatDoor
open Go.RowKit

/-- a guard that is valid. -/
structure Valid (lk ht rc : Int) (ts gs : List Int) : Prop where
  lk : 1 ≤ lk ∧ lk ≤ 8
  ht : 0 ≤ ht ∧ ht ≤ 536870912
  rc : 0 ≤ rc ∧ rc ≤ 1048576
  tl : 1 ≤ ts.length ∧ ts.length ≤ 8
  tb : inB 64 ts
  gl : 1 ≤ gs.length ∧ gs.length ≤ 8
  gb : ∀ k, 0 ≤ gs.getD k 0 ∧ gs.getD k 0 ≤ 16
  g0 : gs.getD 0 0 = 0
/-- a state. -/
structure St where
  h : Int
  lv : Nat
  ps : List Int
/-- a state that keeps all limits without further outputs. -/
structure Good (ht rc : Int) (ts gs : List Int) (s : St) : Prop where
  h : 0 ≤ s.h ∧ s.h ≤ ht
  lv : s.lv < gs.length
  pl : ts.length = s.ps.length + 1
  pb : inB 2048 s.ps
  tf : farAny rc (tailsF ts s.ps) = false
end Go.Proofs.YtamldoidalnloaaGreatDoor

/- A new block in the head of a region walked by Rel3. -/
namespace Go.Proofs.YtamldoidalnloaaGreatDoor.Rel
open Go.RowKit
variable {P : Program} {DS : List Tmp} {w0 : World} {a0 : Act} {T : Ctx → Prop} {Γ : Ctx} {o : Oper} {rest : List Oper}
theorem alloc3 (t : TypeId) (cs : Array Value) (hg : GOK3 Γ o)
    (h : ∀ (a : Act) (W : World), (execOp a.eval o).run P W = .ok (.value (.pointer (some ⟨W.heap.size, 0, none⟩))) (W.alloc (.cells cs t)))
    (hn : walk3 P DS w0 a0 T (Γ ++ [(o.dst, New w0.heap.size cs)]) rest) : walk3 P DS w0 a0 T Γ (o :: rest) :=
  ⟨_, stable_new _ cs, hg, fun a W hb hd hbase K Q hK => by
    unfold Oper.wp
    rw [h a W]
    exact hK _ _ ⟨_, rfl, hb.size, Calm.Blk.new W t cs⟩ ((Below.refl _ _).alloc (Nat.le_refl _) _), hn⟩
end Go.Proofs.YtamldoidalnloaaGreatDoor.Rel

/- Contract of (Guard).rest: the state at rest. -/
namespace Go.Proofs.YtamldoidalnloaaGreatDoor
open Go.RowKit
open Calm (bcell Blk)

end Go.Proofs.YtamldoidalnloaaGreatDoor

/- Worlds that turn in the row of one slice alone, which is as it was or as an append in place leaves it; an append in the head of a drawn region. No program. -/
namespace Go.Proofs.YtamldoidalnloaaGreatDoor
open Go.RowKit
open Calm (bcell Blk)
/-- all that lay is as it was, but some blocks, each of which is as it was or as T says. -/
structure Grw (T : Nat → Obj → Prop) (W W' : World) : Prop where
  os : W'.os = W.os
  tape : W'.tape = W.tape
  output : W'.output = W.output
  size : W.heap.size ≤ W'.heap.size
  block : ∀ k, k < W.heap.size → W'.heap[k]? = W.heap[k]? ∨ ∃ o, T k o ∧ W'.heap[k]? = some o
end Go.Proofs.YtamldoidalnloaaGreatDoor
