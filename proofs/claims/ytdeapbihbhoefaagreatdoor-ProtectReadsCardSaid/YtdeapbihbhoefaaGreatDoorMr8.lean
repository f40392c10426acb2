/- Part 8 of the texts of the claim: X2, RelH, Sett. -/
import Derived.Test.YtdeapbihbhoefaaGreatDoorMr7
import Derived.Shelf.Abstract
import Derived.OwnWalkIn
import Derived.TacticsInMore
import Derived.LoopNIn
import Derived.LoopIn
import Derived.Test.YtdeapbihbhoefaaGreatDoorMr5

/- (Guard).kept and the iterator that it hands out: the levels behind which a state keeps all conditions, with this state. -/
namespace Go.Proofs.YtdeapbihbhoefaaGreatDoor
open Go.RowKit
open Calm (bcell Blk)

/-- the state behind an output. -/
def nextF (lk : Int) (s : St) (y : Int) : St := ⟨coolF lk s.h + y * y, s.lv, pushL s.ps y⟩
/-- whether an output keeps all conditions. -/
def keepB (lk ht rc : Int) (ts : List Int) (s : St) (y : Int) : Bool := fineF ht rc (coolF lk s.h + y * y) (exF ts s.ps y) ts (pushL s.ps y)
/-- the levels among the first k that keep them, with the states behind them. -/
def keptK (lk ht rc : Int) (ts : List Int) (s : St) (ls : List Int) : Nat → List (Int × St)
  | 0 => []
  | k + 1 => keptK lk ht rc ts s ls k ++ if keepB lk ht rc ts s (ls.getD k 0) then [(ls.getD k 0, nextF lk s (ls.getD k 0))] else []
theorem keptK_true {lk ht rc : Int} {ts : List Int} {s : St} {ls : List Int} {k : Nat} (h : keepB lk ht rc ts s (ls.getD k 0) = true) : keptK lk ht rc ts s ls (k + 1) = keptK lk ht rc ts s ls k ++ [(ls.getD k 0, nextF lk s (ls.getD k 0))] := by
  simp only [keptK]; rw [if_pos h]
theorem keptK_false {lk ht rc : Int} {ts : List Int} {s : St} {ls : List Int} {k : Nat} (h : keepB lk ht rc ts s (ls.getD k 0) = false) : keptK lk ht rc ts s ls (k + 1) = keptK lk ht rc ts s ls k := by
  simp only [keptK]; rw [if_neg (by rw [h]; simp), List.append_nil]
theorem keptK_pre (lk ht rc : Int) (ts : List Int) (s : St) (ls : List Int) (k : Nat) : ∀ m, ∃ post, keptK lk ht rc ts s ls (k + m) = keptK lk ht rc ts s ls k ++ post
  | 0 => ⟨[], by simp⟩
  | m + 1 => by
    obtain ⟨post, h⟩ := keptK_pre lk ht rc ts s ls k m
    refine ⟨post ++ if keepB lk ht rc ts s (ls.getD (k + m) 0) then [(ls.getD (k + m) 0, nextF lk s (ls.getD (k + m) 0))] else [], ?_⟩
    rw [← List.append_assoc, ← h]
    rfl
theorem keptK_post {lk ht rc : Int} {ts : List Int} {s : St} {ls : List Int} {k n : Nat} (h : k < n) (hk : keepB lk ht rc ts s (ls.getD k 0) = true) : ∃ post, keptK lk ht rc ts s ls n = keptK lk ht rc ts s ls k ++ (ls.getD k 0, nextF lk s (ls.getD k 0)) :: post := by
  obtain ⟨post, e⟩ := keptK_pre lk ht rc ts s ls (k + 1) (n - (k + 1))
  rw [show k + 1 + (n - (k + 1)) = n by omega, keptK_true hk, List.append_assoc] at e
  exact ⟨post, e⟩
theorem kept_good {lk ht rc : Int} {ts gs : List Int} {s : St} (hS : Good ht rc ts gs s) {y : Int} (hy : -2048 ≤ y ∧ y ≤ 2048) (hk : keepB lk ht rc ts s y = true) : Good ht rc ts gs (nextF lk s y) := by
  obtain ⟨h1, h2, h3⟩ := fineF_true hk
  have hc := coolF_bd lk hS.h.1
  have hm := sq_bd hy
  exact ⟨⟨by simp only [nextF]; omega, h1⟩, hS.lv, by simp only [nextF]; rw [pushL_len]; exact hS.pl, inB_push hS.pb hy, h3⟩
theorem keptK_good {lk ht rc : Int} {ts gs : List Int} {s : St} {ls : List Int} (hS : Good ht rc ts gs s) (hl : inB 2048 ls) : ∀ (k : Nat), ∀ x ∈ keptK lk ht rc ts s ls k, Good ht rc ts gs x.2 ∧ (-2048 ≤ x.1 ∧ x.1 ≤ 2048) ∧ x.2 = nextF lk s x.1 ∧ keepB lk ht rc ts s x.1 = true
  | 0, x, hx => by simp [keptK] at hx
  | k + 1, x, hx => by
    simp only [keptK, List.mem_append] at hx
    rcases hx with hx | hx
    · exact keptK_good hS hl k x hx
    · split at hx
      · rename_i h0
        obtain rfl : x = _ := by simpa using hx
        exact ⟨kept_good hS (inB_get hl (by omega) k) h0, inB_get hl (by omega) k, rfl, h0⟩
      · cases hx

/-- all that lies below a size, but one block. -/
def Rest (sb B : Nat) (k : Nat) : Prop := k < B ∧ k ≠ sb
/-- a slice that does not lie in a block. -/
def Off (sb : Nat) (A : Option Addr) : Prop := ∀ p, A = some p → p.block ≠ sb
theorem Cells.rest {w w' : World} {A : Option Addr} {zs : List Int} {sb : Nat} (h : Cells w A zs) (ho : Off sb A) (hW : ∀ k, Rest sb w.heap.size k → w'.heap[k]? = w.heap[k]?) : Cells w' A zs := by
  intro h0
  obtain ⟨b, off, rfl, hl, hc⟩ := h h0
  have e := hW b ⟨hl, ho _ rfl⟩
  refine ⟨b, off, rfl, ?_, fun k hk => (World.cell?_of_block (w := w) (a := ⟨b, off + k, none⟩) e).trans (hc k hk)⟩
  rw [Array.getElem?_eq_getElem hl] at e
  exact (Array.getElem?_eq_some_iff.1 e).1
theorem Lim.rest {w w' : World} {sb : Nat} (h : Lim w) (hs : sb ≠ 0) (hW : ∀ k, Rest sb w.heap.size k → w'.heap[k]? = w.heap[k]?) : Lim w' := by
  have e := hW 0 ⟨h.lt, fun e => hs e.symm⟩
  refine ⟨?_, (World.cell?_of_block (w := w) (a := ⟨0, 0, none⟩) e).trans h.c0, (World.cell?_of_block (w := w) (a := ⟨0, 1, none⟩) e).trans h.c1, (World.cell?_of_block (w := w) (a := ⟨0, 2, none⟩) e).trans h.c2⟩
  rw [Array.getElem?_eq_getElem h.lt] at e
  exact (Array.getElem?_eq_some_iff.1 e).1

theorem kept_any (lk ht rc : Int) (s : St) (A1 A2 A3 A5 : Option Addr) (M L Q N c1 c2 c3 c5 : Nat) (w : World) :
    Calls Tryz.prog 82 #[.agg #[(.int .i64 lk), (.int .i64 ht), .slice A1 M c1, (.int .i64 rc), .slice A2 L c2], .agg #[(.int .i64 (s.h)), (.int .i64 ((s.lv : Int))), .slice A3 Q c3], .slice A5 N c5] w fun e w' => e = .returned (.func (.func 92) #[] #[.pointer (some ⟨w.heap.size + 1 + 1, 0, none⟩), .pointer (some ⟨w.heap.size, 0, none⟩), .pointer (some ⟨w.heap.size + 1, 0, none⟩)]) ∧
      Below w.heap.size w w' ∧ Blk w' w.heap.size #[(.int .i64 lk), (.int .i64 ht), .slice A1 M c1, (.int .i64 rc), .slice A2 L c2] ∧ Blk w' (w.heap.size + 1) #[(.int .i64 (s.h)), (.int .i64 ((s.lv : Int))), .slice A3 Q c3] ∧ Blk w' (w.heap.size + 1 + 1) #[.slice A5 N c5] := by
  go_enter Tryz.func82, Tryz.ntmps82
  go_wp2
  go_ret
  exact ⟨by first | rfl | (simp; done), by (repeat (first | (with_reducible exact Below.refl _ _) | ((with_reducible refine Below.setCell ?_ ?_ _); rotate_left 1; focus (first | (simp; done) | (simp; omega) | (simp at *; omega))) | ((with_reducible refine Below.alloc ?_ ?_ _); rotate_left 1; focus (first | (simp; done) | (simp; omega) | (simp at *; omega))) | (with_reducible refine Below.drew ?_) | ((with_reducible refine Calm.step (by assumption) ?_ ?_); rotate_left 1; focus (first | (simp; done) | (simp; omega) | (simp at *; omega))))), by (repeat (first | ((with_reducible refine Blk.at_ ?_); focus (first | rfl | (simp; done) | (simp; omega))) | (with_reducible refine Blk.alloc ?_ _) | (with_reducible refine Blk.below ?_ (by with_reducible assumption)) | (with_reducible refine Blk.drew ?_))), by (repeat (first | ((with_reducible refine Blk.at_ ?_); focus (first | rfl | (simp; done) | (simp; omega))) | (with_reducible refine Blk.alloc ?_ _) | (with_reducible refine Blk.below ?_ (by with_reducible assumption)) | (with_reducible refine Blk.drew ?_))), by (repeat (first | ((with_reducible refine Blk.at_ ?_); focus (first | rfl | (simp; done) | (simp; omega))) | (with_reducible refine Blk.alloc ?_ _) | (with_reducible refine Blk.below ?_ (by with_reducible assumption)) | (with_reducible refine Blk.drew ?_)))⟩

/-- what the iterator hands to the loop: a level, and the state behind it. -/
def KeptR (Q sb : Nat) (x : Int × St) (v : Array Value) (W : World) : Prop := ∃ B c, v = #[(.int .i64 (x.1)), .agg #[(.int .i64 (x.2.h)), (.int .i64 ((x.2.lv : Int))), .slice (some B) Q c]] ∧ Cells W (some B) x.2.ps ∧ B.block ≠ sb

set_option maxRecDepth 100000 in
set_option maxHeartbeats 4000000 in
theorem kept1_iter (lk ht rc : Int) (s : St) (ts gs ls : List Int) (A1 A2 A3 A5 : Option Addr) (M L Q N c1 c2 c3 c5 : Nat) (Gb Sb Lb sb : Nat) (w : World) (n : Nat) (hM : M = ts.length) (hQ : Q = s.ps.length) (hN : N = ls.length)
    (hV : Valid lk ht rc ts gs) (hS : Good ht rc ts gs s) (hl : inB 2048 ls) (hn : N ≤ 5000) (hL : Lim w) (hT : Cells w A1 ts) (hP : Cells w A3 s.ps) (hX : Cells w A5 ls)
    (kG : Blk w Gb #[(.int .i64 lk), (.int .i64 ht), .slice A1 M c1, (.int .i64 rc), .slice A2 L c2]) (kS : Blk w Sb #[(.int .i64 (s.h)), (.int .i64 ((s.lv : Int))), .slice A3 Q c3]) (kL : Blk w Lb #[.slice A5 N c5]) (o0 : sb ≠ 0) (o1 : Off sb A1) (o3 : Off sb A3) (o5 : Off sb A5) (oG : Gb ≠ sb) (oS : Sb ≠ sb) (oL : Lb ≠ sb) (hsb : sb < Gb) (h1n : 1 ≤ n) :
    IterR Fence.wide n Tryz.prog 92 #[.pointer (some ⟨Lb, 0, none⟩), .pointer (some ⟨Gb, 0, none⟩), .pointer (some ⟨Sb, 0, none⟩)] 2 (KeptR Q sb) (keptK lk ht rc ts s ls N) (Rest sb w.heap.size) w := by
  intro l J W hCW hCl hle hJb hY h00
  have hfn : ∀ f, Fence.wide.fn f = True := fun _ => rfl
  have HE : Hid (∀ W' : World, (∀ k, Rest sb w.heap.size k → W'.heap[k]? = w.heap[k]?) → Blk W' Gb #[(.int .i64 lk), (.int .i64 ht), .slice A1 M c1, (.int .i64 rc), .slice A2 L c2] ∧ Blk W' Sb #[(.int .i64 (s.h)), (.int .i64 ((s.lv : Int))), .slice A3 Q c3] ∧ Blk W' Lb #[.slice A5 N c5] ∧ Cells W' A1 ts ∧ Cells W' A3 s.ps ∧ Cells W' A5 ls ∧ Lim W') := Lib.hid (fun W' hW =>
    ⟨kG.of_block (hW _ ⟨kG.lt, oG⟩), kS.of_block (hW _ ⟨kS.lt, oS⟩), kL.of_block (hW _ ⟨kL.lt, oL⟩), hT.rest o1 hW, hP.rest o3 hW, hX.rest o5 hW, hL.rest o0 hW⟩)
  have HYB : Hid (∀ k, -2048 ≤ ls.getD k 0 ∧ ls.getD k 0 ≤ 2048) := Lib.hid (fun k => inB_get hl (by omega) k)
  have HBH : Hid (∀ (W : World) (y : Int), (-2048 ≤ y ∧ y ≤ 2048) → Cells W A1 ts → Cells W A3 s.ps → Calls Tryz.prog 52 #[.agg #[(.int .i64 lk), (.int .i64 ht), .slice A1 M c1, (.int .i64 rc), .slice A2 L c2], .agg #[(.int .i64 (s.h)), (.int .i64 ((s.lv : Int))), .slice A3 Q c3], (.int .i64 y)] W fun r w' => (∃ B, W.heap.size ≤ B.block ∧ r = .returned (.tuple #[.agg #[(.int .i64 ((nextF lk s y).h)), (.int .i64 ((s.lv : Int))), .slice (some B) Q Q], (.int .i64 (exF ts s.ps y))]) ∧ Cells w' (some B) (nextF lk s y).ps) ∧ Below W.heap.size W w') := Lib.hid (fun W y hy q1 q2 => by
    have e := hS.pl
    have e2 := hV.tl
    have e3 := hS.h
    have e4 := hV.ht
    rw [hM, hQ]
    exact behind_any lk ht rc s.h (s.lv : Int) y ts s.ps A1 A2 A3 c1 L c2 c3 W hV.lk ⟨e3.1, by omega⟩ q1 q2 e (by omega) hV.tb hS.pb hy)
  have HFI : Hid (∀ (W : World) (y : Int) (B : Addr), (-2048 ≤ y ∧ y ≤ 2048) → Lim W → Cells W A1 ts → Cells W (some B) (nextF lk s y).ps → Calls Tryz.prog 80 #[.agg #[(.int .i64 lk), (.int .i64 ht), .slice A1 M c1, (.int .i64 rc), .slice A2 L c2], .agg #[(.int .i64 ((nextF lk s y).h)), (.int .i64 ((s.lv : Int))), .slice (some B) Q Q], (.int .i64 (exF ts s.ps y))] W fun r w' => r = .returned (.bool (keepB lk ht rc ts s y)) ∧ Below W.heap.size W w') := Lib.hid (fun W y B hy q0 q1 q2 => by
    have e := pushL_len s.ps y
    have e1 := hS.pl
    have e2 := hV.tl
    have e3 := hS.h
    have e4 := hV.ht
    have e5 := sq_bd hy
    have e6 := coolF_bd lk e3.1
    have := fine_any lk ht rc (coolF lk s.h + y * y) (s.lv : Int) (exF ts s.ps y) ts (pushL s.ps y) A1 A2 (some B) c1 L c2 Q W q0 hV.lk (by omega) q1 q2 (by omega) (by omega) hV.tb (inB_push hS.pb hy) (exF_bd hV.tb hS.pb hy (by omega))
    rw [e, ← hM, ← hQ] at this
    exact this)
  have HKT : Hid (∀ k, keepB lk ht rc ts s (ls.getD k 0) = true → keptK lk ht rc ts s ls (k + 1) = keptK lk ht rc ts s ls k ++ [(ls.getD k 0, nextF lk s (ls.getD k 0))]) := Lib.hid (fun k h => keptK_true h)
  have HKF : Hid (∀ k, keepB lk ht rc ts s (ls.getD k 0) = false → keptK lk ht rc ts s ls (k + 1) = keptK lk ht rc ts s ls k) := Lib.hid (fun k h => keptK_false h)
  have HKP : Hid (∀ k, k < N → keepB lk ht rc ts s (ls.getD k 0) = true → ∃ post, keptK lk ht rc ts s ls N = keptK lk ht rc ts s ls k ++ (ls.getD k 0, nextF lk s (ls.getD k 0)) :: post) := Lib.hid (fun k h1 h2 => keptK_post h1 h2)
  have HK0 : Hid (keptK lk ht rc ts s ls 0 = []) := Lib.hid rfl
  have HCW := Lib.hid hCW
  have HJB := Lib.hid hJb
  have HY := Lib.hid hY
  have HN := Lib.hid hN
  have HSB := Lib.hid hsb
  have hlv : ∀ y, (nextF lk s y).lv = s.lv := fun _ => rfl
  have HLV := Lib.hid hlv
  obtain ⟨KK, hKK⟩ : ∃ KK : Nat → List (Int × St), KK = keptK lk ht rc ts s ls := ⟨_, rfl⟩
  rw [← hKK] at HKT HKF HKP HK0 HY ⊢
  obtain ⟨KB, hKB⟩ : ∃ KB : Int → Bool, KB = keepB lk ht rc ts s := ⟨_, rfl⟩
  rw [← hKB] at HKT HKF HKP HFI
  obtain ⟨NX, hNX⟩ : ∃ NX : Int → St, NX = nextF lk s := ⟨_, rfl⟩
  rw [← hNX] at HKT HKP HBH HFI HLV
  obtain ⟨EX, hEX⟩ : ∃ EX : Int → Int, EX = exF ts s.ps := ⟨_, rfl⟩
  rw [← hEX] at HBH HFI
  obtain ⟨kG0, kS0, kL0, _⟩ := HE.out W HCW.out
  obtain ⟨g0, g1, g2, g3, g4, gl, gf⟩ := kG0.o5
  obtain ⟨s0, s1, s2, sl, sf⟩ := kS0.o3
  obtain ⟨l0, ll, lf⟩ := kL0.o1
  clear hCW hCl hJb hY hV hS hl hL hT hP hX kG kS kL o0 o1 o3 o5 oG oS oL hsb hM hQ hN hlv hKK hKB hNX hEX kG0 kS0 kL0
  refine callsIn_of_wp Tryz.func92 rfl trivial ?_ rfl
  simp only [Tryz.ntmps92, List.size_toArray, List.length_cons, List.length_nil, Nat.reduceAdd, Nat.reduceSub, Array.replicate_succ, Array.replicate_zero, List.push_toArray, List.append_toArray, List.nil_append, List.cons_append]
  gi_wp2
  gi_loopw [11] (fun i wr => ∃ k : Nat, k ≤ N ∧ i = (.int .i64 ((k : Int))) ∧ J (KK k) wr ∧ ∀ j, Rest sb w.heap.size j → wr.heap[j]? = w.heap[j]?) (fun i _ => N - (intOf i).toNat)
  case atStart => exact ⟨0, Nat.zero_le _, rfl, by rw [HK0.out]; exact h00, HCW.out⟩
  case round =>
    obtain ⟨k, hk, rfl, hJ1, hC1⟩ := hrel
    clear g0 g1 g2 g3 g4 gl gf s0 s1 s2 sl sf l0 ll lf
    by_cases hk2 : k < N
    · obtain ⟨kG1, kS1, kL1, hT1, hP1, hX1, hL1⟩ := HE.out wr hC1
      obtain ⟨b5, o5, rfl, lb5, hin⟩ := hX1 (by rw [← HN.out]; omega)
      have x5 := hin k (by rw [← HN.out]; exact hk2)
      obtain ⟨g0, g1, g2, g3, g4, gl, gf⟩ := kG1.o5
      obtain ⟨s0, s1, s2, sl, sf⟩ := kS1.o3
      obtain ⟨l0, ll, lf⟩ := kL1.o1
      have HYB1 := HYB.out k
      have HKT1 := HKT.out k
      have HKF1 := HKF.out k
      have HKP1 := HKP.out k hk2
      obtain ⟨Y, hY⟩ : ∃ Y, Y = ls.getD k 0 := ⟨_, rfl⟩
      rw [← hY] at x5 HYB1 HKT1 HKF1 HKP1
      have HBH1 := Lib.hid (HBH.out wr Y HYB1 hT1 hP1)
      have HFI1 := Lib.hid (fun W B => HFI.out W Y B HYB1)
      have HKT1 := Lib.hid HKT1
      have HKF1 := Lib.hid HKF1
      have HKP1 := Lib.hid HKP1
      have HLV1 := Lib.hid (HLV.out Y)
      obtain ⟨O, hO⟩ : ∃ O, O = KB Y := ⟨_, rfl⟩
      rw [← hO] at HFI1 HKT1 HKF1 HKP1
      have HG1 := Lib.hid kG1
      have HLT := Lib.hid (fun j (hj : Rest sb w.heap.size j) => (show j < wr.heap.size from by have e := hC1 j hj; rw [Array.getElem?_eq_getElem hj.1] at e; exact (Array.getElem?_eq_some_iff.1 e).1))
      have HS1 := Lib.hid kS1
      have HT1 := Lib.hid hT1
      have HL1 := Lib.hid hL1
      have HJ1 := Lib.hid hJ1
      have HC1 := Lib.hid hC1
      clear kG1 kS1 kL1 hT1 hP1 hX1 hL1 hJ1 hC1 hin hY hO HYB1
      cases O with
      | false =>
        gi_wp2_with (first
          | (gi_at_call 52; refine (callsIn_wide.2 HBH1.out).mono ?_; rintro r w1 ⟨⟨B, hBb, rfl, hC1⟩, hb1⟩; obtain ⟨hc1, hf1⟩ := bcell hb1; have hs1 := hb1.size; have gl1 : Gb < w1.heap.size := (by omega); have sl1 : Sb < w1.heap.size := (by omega); have HC1c := Lib.hid hC1; have HW1 := Lib.hid hb1; clear hC1 hb1)
          | (gi_at_call 80; refine (callsIn_wide.2 (HFI1.out _ B (HL1.out.below (HW1.out.alloc hs1 _)) (HT1.out.below (HW1.out.alloc hs1 _)) (HC1c.out.below (by (repeat (first | (with_reducible exact Below.refl _ _) | ((with_reducible refine Below.setCell ?_ ?_ _); rotate_left 1; focus (first | (simp; done) | (simp; omega) | (simp at *; omega))) | ((with_reducible refine Below.alloc ?_ ?_ _); rotate_left 1; focus (first | (simp; done) | (simp; omega) | (simp at *; omega))) | (with_reducible refine Below.drew ?_) | ((with_reducible refine Calm.step (by assumption) ?_ ?_); rotate_left 1; focus (first | (simp; done) | (simp; omega) | (simp at *; omega))))))))).mono ?_; rintro r w3 ⟨rfl, hb3⟩; have HW3 := Lib.hid (show Below wr.heap.size wr w3 from (HW1.out.alloc hs1 _).trans (hb3.mono (by simp; omega))); clear hb3))
        go_roundw
        case rel => exact ⟨k + 1, by omega, by go_num, by rw [HKF1.out trivial]; exact HJB.out _ _ _ HJ1.out HW3.out, fun j hj => (HW3.out.block j (HLT.out j hj)).trans (HC1.out j hj)⟩
        case measure => simp [intOf]; omega
      | true =>
        gi_wp2_with (first
          | (gi_at_call 52; refine (callsIn_wide.2 HBH1.out).mono ?_; rintro r w1 ⟨⟨B, hBb, rfl, hC1⟩, hb1⟩; obtain ⟨hc1, hf1⟩ := bcell hb1; have hs1 := hb1.size; have gl1 : Gb < w1.heap.size := (by omega); have sl1 : Sb < w1.heap.size := (by omega); have HC1c := Lib.hid hC1; have HW1 := Lib.hid hb1; clear hC1 hb1)
          | (gi_at_call 80; refine (callsIn_wide.2 (HFI1.out _ B (HL1.out.below (HW1.out.alloc hs1 _)) (HT1.out.below (HW1.out.alloc hs1 _)) (HC1c.out.below (by (repeat (first | (with_reducible exact Below.refl _ _) | ((with_reducible refine Below.setCell ?_ ?_ _); rotate_left 1; focus (first | (simp; done) | (simp; omega) | (simp at *; omega))) | ((with_reducible refine Below.alloc ?_ ?_ _); rotate_left 1; focus (first | (simp; done) | (simp; omega) | (simp at *; omega))) | (with_reducible refine Below.drew ?_) | ((with_reducible refine Calm.step (by assumption) ?_ ?_); rotate_left 1; focus (first | (simp; done) | (simp; omega) | (simp at *; omega))))))))).mono ?_; rintro r w3 ⟨rfl, hb3⟩; refine Hid.out ?_))
        have HW3 := Lib.hid (show Below wr.heap.size wr w3 from (HW1.out.alloc hs1 _).trans (hb3.mono (by simp; omega)))
        have hs3 := hb3.size
        simp only [World.size_alloc] at hs3
        have KN : Blk w3 w1.heap.size #[(.int .i64 ((NX Y).h)), (.int .i64 ((s.lv : Int))), .slice (some B) Q Q] := (Blk.new w1 _ _).below hb3
        obtain ⟨n0, n1, n2, nl, nf⟩ := KN.o3
        have hC3 : Cells w3 (some B) (NX Y).ps := (HC1c.out.below ((Below.refl _ _).alloc (Nat.le_refl _) _)).below hb3
        have hJ3 := HJB.out _ _ _ HJ1.out HW3.out
        have hK3 : ∀ j, Rest sb w.heap.size j → w3.heap[j]? = w.heap[j]? := fun j hj => (HW3.out.block j (HLT.out j hj)).trans (HC1.out j hj)
        obtain ⟨fn, tmps, assign, body, hy, hR⟩ := HY.out _ (Y, NX Y) #[(.int .i64 Y), .agg #[(.int .i64 ((NX Y).h)), (.int .i64 ((s.lv : Int))), .slice (some B) Q Q]] w3 hJ3 hK3 (HKP1.out trivial) rfl ⟨B, Q, by rw [HLV1.out], hC3, by have := HSB.out; have : w1.heap.size ≥ wr.heap.size := hs1; show B.block ≠ sb; omega⟩
        have HR := Lib.hid hR
        have HK3 := Lib.hid hK3
        clear hb3 KN hC3 hJ3 hK3 hR
        unfold Hid
        gi_wp2
        refine HR.out.mono ?_
        rintro e W5 ⟨rfl, hJ5, hC5⟩
        have HC6 : Hid (∀ j, Rest sb w.heap.size j → W5.heap[j]? = w.heap[j]?) := Lib.hid (fun j hj => (hC5 j hj).trans (HK3.out j hj))
        have HJ5 := Lib.hid hJ5
        clear hJ5 hC5 hy HR n0 n1 n2 nl nf
        gi_wp2
        go_roundw
        case rel =>
          exact ⟨k + 1, by omega, by go_num, by rw [HKT1.out trivial]; exact HJ5.out, HC6.out⟩
        case measure => simp [intOf]; omega
    · obtain rfl : k = N := by omega
      gi_wp2
      go_end0
      exact ⟨⟨_, rfl⟩, hJ1⟩
end Go.Proofs.YtdeapbihbhoefaaGreatDoor

/- Regions whose order is open, the world turning along any relation S, where what is known of a value may name the values that its operation waited for (RelG with one limb more). No program. -/
namespace Go.Proofs.YtdeapbihbhoefaaGreatDoor.RelH
open Go.RowKit
open Rel (dst puts upd puts_agree puts_put Apart apart_of puts_new put_size puts_size puts_other eval_put_same puts_here wanted_of countP_upd left Ln okB sizeB all_listed listed_Ln some_ready ons)

/-- What is known of the value of an operation: the values of all operations, this one's, the world. -/
abbrev DK := (Nat → Value) → Value → World → Prop
/-- .. it names no value but those that the operation waited for. -/
def Loc (o : Oper) (R : DK) : Prop := ∀ x y : Nat → Value, (∀ e ∈ o.after, Region.binds .any e = true → x e.on = y e.on) → ∀ v W, R x v W → R y v W
def GOK (ops : Array Oper) (Γ : List DK) (o : Oper) : Prop :=
  o.guard = none ∨ ∃ g b t, o.guard = some (g, b) ∧ (∃ e ∈ o.after, Region.binds .any e = true ∧ e.on = g) ∧ dst ops g = some t ∧ Γ[g]? = some (fun _ u _ => u = .bool b)
theorem GOK.mono {ops : Array Oper} {Γ Δ : List DK} {o : Oper} (h : GOK ops Γ o) (hsub : ∀ (g : Nat) (K : DK), Γ[g]? = some K → Δ[g]? = some K) : GOK ops Δ o := by
  rcases h with h | ⟨g, b, t, h1, h2, h3, h4⟩
  · exact .inl h
  · exact .inr ⟨g, b, t, h1, h2, h3, hsub _ _ h4⟩

/-- .. and stays known along S. -/
def Stable (S : World → World → Prop) (R : DK) : Prop := ∀ x v W W', R x v W → S W W' → R x v W'

section
variable {P : Program} {ops : Array Oper} {S : World → World → Prop}

/-- What an operation of the head must show: wherever it comes up. -/
def Ob (S : World → World → Prop) (P : Program) (ops : Array Oper) (n : Nat) (w0 : World) (a0 : Act) (Γ : List DK) (o : Oper) (R : DK) : Prop :=
  ∀ (a : Act) (W : World) (x : Nat → Value), S w0 W → a.tmps.size = a0.tmps.size →
    (∀ e ∈ o.after, Region.binds .any e = true → ∀ t, dst ops e.on = some t → x e.on = a.eval (.tmp t)) →
    (∀ e ∈ o.after, Region.binds .any e = true → ∀ K, Γ[e.on]? = some K → K x (x e.on) W) →
    (∀ t, (∀ j, j < n → dst ops j ≠ some t) → a.eval (.tmp t) = a0.eval (.tmp t)) →
    ∀ (K : Act → World → Prop) (Q : Exit → Act → World → Prop), (∀ v W', R x v W' → S W W' → K (a.put o.dst v) W') → o.wp P a W K Q


/-- The walk in the order of the text: at each operation something that stays known is chosen. -/
def walk (S : World → World → Prop) (P : Program) (ops : Array Oper) (n : Nat) (w0 : World) (a0 : Act) (T : List DK → Prop) : List DK → List Oper → Prop
  | Γ, [] => T Γ
  | Γ, o :: l => ∃ R, Stable S R ∧ Loc o R ∧ GOK ops Γ o ∧ (dst ops Γ.length = o.dst → Ob S P ops n w0 a0 Γ o R) ∧ walk S P ops n w0 a0 T (Γ ++ [R]) l


theorem walk_all {n : Nat} {w0 : World} {a0 : Act} {T : List DK → Prop} : ∀ (l : List Oper) (Γ : List DK), walk S P ops n w0 a0 T Γ l →
    ∃ Δ : List DK, Δ.length = l.length ∧ T (Γ ++ Δ) ∧ ∀ k o, l[k]? = some o → ∃ R, Δ[k]? = some R ∧ Stable S R ∧ Loc o R ∧ GOK ops (Γ ++ Δ.take k) o ∧ (dst ops (Γ.length + k) = o.dst → Ob S P ops n w0 a0 (Γ ++ Δ.take k) o R)
  | [], Γ, h => ⟨[], rfl, by simpa [walk] using h, fun k o hk => by simp at hk⟩
  | o :: l, Γ, h => by
    obtain ⟨R, hs, hlc, hg, hob, hw⟩ := h
    obtain ⟨Δ, hl, hT, hall⟩ := walk_all l _ hw
    refine ⟨R :: Δ, by simp [hl], by simpa using hT, fun k o' hk => ?_⟩
    cases k with
    | zero =>
      obtain rfl : o = o' := by simpa using hk
      exact ⟨R, rfl, hs, hlc, by simpa using hg, by simpa using hob⟩
    | succ k =>
      obtain ⟨R', h1, h2, h2', h3, h4⟩ := hall k o' (by simpa using hk)
      refine ⟨R', by simpa using h1, h2, h2', by simpa using h3, fun hd => ?_⟩
      have := h4 (by rw [← hd]; congr 1; simp; omega)
      simpa using this

theorem Ob.mono {n : Nat} {w0 : World} {a0 : Act} {Γ Δ : List DK} {o : Oper} {R : DK} (h : Ob S P ops n w0 a0 Γ o R) (hsub : ∀ e ∈ o.after, ∀ K, Γ[e.on]? = some K → Δ[e.on]? = some K) : Ob S P ops n w0 a0 Δ o R :=
  fun a W x hb hz hx hd hbase K Q hK => h a W x hb hz hx (fun e he hbd K' hK' => hd e he hbd K' (hsub e he K' hK')) hbase K Q hK

/-- What holds while the head is on its way. -/
structure Inv (S : World → World → Prop) (ops : Array Oper) (n : Nat) (w0 : World) (a0 : Act) (Γ : List DK) (listed : Array Bool) (a : Act) (W : World) : Prop where
  below : S w0 W
  vals : ∃ x : Nat → Value, a = puts ops x (fun j => listed.getD j false) (List.range n) a0 ∧ ∀ j, j < n → listed.getD j false = true → ∀ K, Γ[j]? = some K → K x (x j) W


theorem go (ht' : ∀ a b c, S a b → S b c → S a c) {n : Nat} {Q : Exit → Act → World → Prop} {w0 : World} {a0 : Act} {Γ : List DK} (hok : okB ops n = true) (hsz : sizeB ops n a0.tmps.size = true)
    (hΓ : ∀ k, k < n → ∃ o R, ops[k]? = some o ∧ Γ[k]? = some R ∧ Stable S R ∧ Loc o R ∧ GOK ops Γ o ∧ Ob S P ops n w0 a0 Γ o R)
    (hend : ∀ (x : Nat → Value) (W : World), S w0 W → (∀ j, j < n → ∀ K, Γ[j]? = some K → K x (x j) W) → wpAny P .any ops Q (ops.size - n) (Ln n ops.size) (puts ops x (fun _ => true) (List.range n) a0) W) :
    ∀ (f : Nat) (listed : Array Bool) (a : Act) (W : World), HeadInv .any ops n listed → left n listed = f → Inv S ops n w0 a0 Γ listed a W → wpAny P .any ops Q (f + (ops.size - n)) listed a W := by
  simp only [okB, Bool.and_eq_true, decide_eq_true_eq] at hok
  obtain ⟨⟨⟨⟨⟨hn, hs⟩, hc⟩, _⟩, hap⟩, hback⟩ := hok
  have hap := apart_of hap
  intro f
  induction f with
  | zero =>
    intro listed a W inv hl hI
    obtain ⟨hb, x, rfl, hx⟩ := hI
    have hall := all_listed hl
    rw [Nat.zero_add]
    rw [puts_agree (p' := fun _ => true) (x' := x) (List.range n) a0 (fun j hj => ⟨hall j (List.mem_range.1 hj), fun _ => rfl⟩), listed_Ln inv hl (by omega)]
    exact hend x W hb (fun j hj K hK => hx j hj (hall j hj) K hK)
  | succ f ih =>
    intro listed a W inv hl hI
    have hex : ∃ k, k < n ∧ listed.getD k true = false := by
      apply Classical.byContradiction
      intro hno
      have : left n listed = 0 := List.countP_eq_zero.2 (fun j hj => by
        have hj := List.mem_range.1 hj
        have hjs : j < listed.size := by rw [inv.size]; omega
        cases h : listed.getD j false with
        | true => simp
        | false => exact absurd ⟨j, hj, getD_in hjs h⟩ hno)
      omega
    obtain ⟨k, hk, hun⟩ := hex
    rw [show f + 1 + (ops.size - n) = (f + (ops.size - n)) + 1 by omega]
    refine ⟨fun h0 => ?_, fun i hi => ?_⟩
    · obtain ⟨i, hi⟩ := some_ready inv hback hn (k + 1) k (by omega) hk hun
      rw [h0] at hi
      cases hi
    have hin : i < n := by
      rcases Nat.lt_or_ge i n with h | h
      · exact h
      · exact absurd hi (tail_waits hs hc hn inv _ k rfl hk hun i h)
    obtain ⟨hiun, oi, hoi, hdeps⟩ := mem_ready.1 hi
    obtain ⟨o, R, ho, hR, hst, hlc, hg, hob⟩ := hΓ i hin
    obtain rfl : oi = o := Option.some.inj (hoi.symm.trans ho)
    obtain ⟨hb, x, rfl, hx⟩ := hI
    have hdi : dst ops i = oi.dst := by simp [dst, ho]
    have his : i < listed.size := by rw [inv.size]; omega
    have hif : listed.getD i false = false := getD_both hiun
    have hszt : ∀ j t, j < n → dst ops j = some t → t < a0.tmps.size := fun j t hj hd => by
      have := List.all_eq_true.1 hsz j (List.mem_range.2 hj)
      simpa [hd] using this
    have back : ∀ e ∈ oi.after, Region.binds .any e = true → e.on < i := fun e he hbd => by
      have h1 := List.all_eq_true.1 hback i (List.mem_range.2 (by omega))
      simp only [ho] at h1
      simpa [hbd] using Array.all_eq_true'.1 h1 e he
    unfold wpOp
    simp only [ho]
    have hwant : Region.wanted oi (yielded ops (puts ops x (fun j => listed.getD j false) (List.range n) a0).tmps) = true := by
      rcases hg with hg | ⟨g, b, t, hg, ⟨e, he, hbd, rfl⟩, hd, hK⟩
      · simp [Region.wanted, hg]
      · have hel := hdeps e he hbd
        have hen : e.on < n := by have := back e he hbd; omega
        have h1 := puts_here (x := x) (p := fun j => listed.getD j false) hap hen hel hd (List.range n) a0 (List.nodup_range) (List.mem_range.2 hen) (fun j hj => List.mem_range.1 hj) (hszt _ _ hen hd)
        have h2 : x e.on = .bool b := hx e.on hen hel _ hK
        have h3 : t < (puts ops x (fun j => listed.getD j false) (List.range n) a0).tmps.size := by rw [puts_size]; exact hszt _ _ hen hd
        rw [h2] at h1
        exact wanted_of hg hd h1 h3
    rw [if_pos hwant]
    refine .inl (hob _ W x hb (puts_size _ _) ?_ ?_ ?_ _ _ ?_)
    · intro e he hbd t ht
      have hel := hdeps e he hbd
      have hen : e.on < n := by have := back e he hbd; omega
      rw [puts_here hap hen hel ht (List.range n) a0 (List.nodup_range) (List.mem_range.2 hen) (fun j hj => List.mem_range.1 hj) (hszt _ _ hen ht)]
    · intro e he hbd K hK
      exact hx e.on (by have := back e he hbd; omega) (hdeps e he hbd) K hK
    · intro t ht
      exact puts_other _ _ (fun j hj => ht j (List.mem_range.1 hj))
    · intro v W' hv hb'
      have hget : ∀ j, (listed.setIfInBounds i true).getD j false = upd (fun j => listed.getD j false) i true j := by
        intro j
        by_cases hji : j = i
        · subst hji
          simp [upd, his]
        · rw [getD_set_ne false (Ne.symm hji)]
          simp [upd, hji]
      refine ih _ _ W' (inv.set hi hin) ?_ ⟨ht' _ _ _ hb hb', upd x i v, ?_, ?_⟩
      · have h1 := countP_upd (i := i) (p := fun j => !listed.getD j false) (by simp [hif]) (List.range n) List.nodup_range (List.mem_range.2 hin)
        have h2 : left n (listed.setIfInBounds i true) = (List.range n).countP (upd (fun j => !listed.getD j false) i false) := by
          unfold left
          congr 1
          funext j
          rw [hget j]
          by_cases hji : j = i <;> simp [upd, hji]
        unfold left at hl
        omega
      · rw [← hdi, puts_new hap hin hif (List.range n) a0 List.nodup_range (List.mem_range.2 hin) (fun j hj => List.mem_range.1 hj)]
        exact puts_agree _ _ (fun j _ => ⟨(hget j).symm, fun _ => rfl⟩)
      · intro j hj hlj K hK
        rw [hget j] at hlj
        by_cases hji : j = i
        · subst hji
          obtain rfl : R = K := Option.some.inj (hR.symm.trans hK)
          have h1 : R (upd x j v) v W' := hlc x (upd x j v) (fun e he hbd => by
            have := back e he hbd
            simp [upd, show e.on ≠ j by omega]) v W' hv
          simpa [upd] using h1
        · have e1 : upd x i v j = x j := by simp [upd, hji]
          have e2 : listed.getD j false = true := by simpa [upd, hji] using hlj
          rw [e1]
          obtain ⟨oj, R', hoj', hR', hst', hlc', _⟩ := hΓ j hj
          obtain rfl : R' = K := Option.some.inj (hR'.symm.trans hK)
          refine hlc' x (upd x i v) (fun e he hbd => ?_) _ _ (hst' _ _ _ _ (hx j hj e2 _ hK) hb')
          have h1 := inv.closed j oj hoj' e2 e he hbd
          have h2 : e.on ≠ i := fun h => by rw [h, hif] at h1; cases h1
          simp [upd, h2]

/-- The frame with all values of the head. -/
def fill : List Oper → Nat → (Nat → Value) → Act → Act
  | [], _, _, a => a
  | o :: l, k, x, a => fill l (k + 1) x (a.put o.dst (x k))
theorem fill_puts {x : Nat → Value} : ∀ (l : List Oper) (k : Nat) (a : Act), (∀ j, j < l.length → l[j]? = ops[k + j]?) → fill l k x a = puts ops x (fun _ => true) (List.range' k l.length) a
  | [], _, _, _ => rfl
  | o :: l, k, a, h => by
    have h0 : ops[k]? = some o := by simpa using (h 0 (by simp)).symm
    have hd : dst ops k = o.dst := by simp [dst, h0]
    simp only [fill, List.length_cons, List.range'_succ, puts, if_true, hd]
    exact fill_puts l (k + 1) _ (fun j hj => by have := h (j + 1) (by simp; omega); simpa [Nat.add_assoc, Nat.add_comm 1 j] using this)

/-- ████ The region. -/
theorem region_w (ht' : ∀ a b c, S a b → S b c → S a c) (hdr : ∀ W, S W { W with drawn := W.drawn + 1 }) {Q : Exit → Act → World → Prop} {a : Act} {w : World} {l : List Oper} (n : Nat) (hok : okB l.toArray n = true) (hsz : sizeB l.toArray n a.tmps.size = true)
    (h : walk S P l.toArray n w a (fun (Γ : List DK) => ∀ (x : Nat → Value) (W : World), S w W → (∀ (j : Nat) (K : DK), Γ[j]? = some K → K x (x j) W) → wpList P l.toArray Q (l.drop n) (fill (l.take n) 0 x a) W) [] (l.take n)) :
    wpAny P .any l.toArray Q l.toArray.size (Array.replicate l.toArray.size false) a { w with drawn := w.drawn + 1 } := by
  have hok' := hok
  simp only [okB, Bool.and_eq_true, decide_eq_true_eq] at hok'
  obtain ⟨⟨⟨⟨⟨hn, _⟩, _⟩, hseq⟩, _⟩, hback⟩ := hok'
  have hn' : n < l.length := by simpa using hn
  have htl : (l.take n).length = n := by simp; omega
  obtain ⟨Δ, hlen, hT, hall⟩ := walk_all _ _ h
  rw [List.nil_append] at hT
  rw [htl] at hlen
  have hget : ∀ k, k < n → (l.take n)[k]? = l.toArray[k]? := fun k hk => by simp [List.getElem?_take, hk]
  have hΓ : ∀ k, k < n → ∃ o R, l.toArray[k]? = some o ∧ Δ[k]? = some R ∧ Stable S R ∧ Loc o R ∧ GOK l.toArray Δ o ∧ Ob S P l.toArray n w a Δ o R := by
    intro k hk
    obtain ⟨o, ho⟩ : ∃ o, l.toArray[k]? = some o := ⟨_, Array.getElem?_eq_getElem (by simp; omega)⟩
    obtain ⟨R, h1, h2, h2', h3, h4⟩ := hall k o (by rw [hget k hk, ho])
    rw [List.nil_append] at h3
    refine ⟨o, R, ho, h1, h2, h2', h3.mono (fun g K hK => by
      rw [List.getElem?_take] at hK
      split at hK
      · exact hK
      · cases hK), (h4 (by simp only [List.length_nil, Nat.zero_add]; simp [dst, ho])).mono fun e he K hK => ?_⟩
    rw [List.nil_append] at hK
    rw [List.getElem?_take] at hK
    split at hK
    · exact hK
    · cases hK
  have inv0 : HeadInv .any l.toArray n (Array.replicate l.toArray.size false) :=
    ⟨by simp, fun j oj _ hl => (by rw [getD_replicate_false] at hl; cases hl), fun t _ ht => getD_in (by simpa using ht) (getD_replicate_false _ _)⟩
  have hleft : left n (Array.replicate l.toArray.size false) = n := by
    unfold left
    rw [List.countP_eq_length.2 (fun j _ => by rw [getD_replicate_false]; rfl), List.length_range]
  have hputs : ∀ x, puts l.toArray x (fun _ => true) (List.range n) a = fill (l.take n) 0 x a := fun x => by
    rw [fill_puts (ops := l.toArray) (l.take n) 0 a (fun j hj => by rw [htl] at hj; rw [hget j hj, Nat.zero_add]), htl, List.range_eq_range']
  have H := go ht' (P := P) (Q := Q) (w0 := w) (a0 := a) hok hsz hΓ (fun x W hb hx => by
    have hdl : (l.drop n).length = l.toArray.size - n := by simp
    have := wpAny_of_seq (md := .any) (Q' := Q) (ops := l.toArray) (P := P) (l.drop n) n (Ln n l.toArray.size) (fill (l.take n) 0 x a) W (fun j => by simp [List.getElem?_drop]) (by rw [hdl]; exact hseq)
      (hT x W hb (fun j K hK => hx j (by
        have := (List.getElem?_eq_some_iff.1 hK).1
        omega) K hK))
    rw [hputs x, ← hdl]
    exact this) n _ a { w with drawn := w.drawn + 1 } inv0 hleft ⟨hdr w, fun _ => undef, by
      rw [puts_agree (p' := fun _ => false) (x' := fun _ => undef) (List.range n) a (fun j _ => ⟨getD_replicate_false _ _, fun _ => rfl⟩)]
      exact (show ∀ (L : List Nat) (b : Act), b = puts l.toArray (fun _ => undef) (fun _ => false) L b from fun L => by
        induction L with
        | nil => intro b; rfl
        | cons j L ih => intro b; unfold puts; simpa using ih b) _ _, fun j _ hl => by rw [getD_replicate_false] at hl; cases hl⟩
  have e : n + (l.toArray.size - n) = l.toArray.size := by omega
  rw [e] at H
  exact H
end

abbrev Ctx := List (Option Tmp × DK)
def dep1 (x : Nat → Value) (j : Nat) : Option (Option Tmp × DK) → Act → World → Prop
  | some (some t, K), a, W => x j = a.eval (.tmp t) ∧ K x (a.eval (.tmp t)) W
  | _, _, _ => True
def deps (x : Nat → Value) (Γ : Ctx) (a : Act) (W : World) : List Nat → Prop
  | [] => True
  | j :: js => dep1 x j Γ[j]? a W ∧ deps x Γ a W js
theorem deps_of {x : Nat → Value} {Γ : Ctx} {a : Act} {W : World} : ∀ (js : List Nat), (∀ j ∈ js, dep1 x j Γ[j]? a W) → deps x Γ a W js
  | [], _ => trivial
  | j :: js, h => ⟨h j (by simp), deps_of js (fun k hk => h k (by simp [hk]))⟩
def facts (x : Nat → Value) (W : World) : Nat → Ctx → Prop
  | _, [] => True
  | k, (_, K) :: l => K x (x k) W ∧ facts x W (k + 1) l
theorem facts_of {x : Nat → Value} {W : World} : ∀ (l : Ctx) (k : Nat), (∀ (j : Nat) (K : DK), (l.map (·.2))[j]? = some K → K x (x (k + j)) W) → facts x W k l
  | [], _, _ => trivial
  | (d, K) :: l, k, h => ⟨h 0 K rfl, facts_of l (k + 1) (fun j K' hj => by have := h (j + 1) K' (by simpa using hj); rw [show k + 1 + j = k + (j + 1) by omega]; exact this)⟩
def GOK3 (Γ : Ctx) (o : Oper) : Prop := o.guard = none ∨ ∃ g b t, o.guard = some (g, b) ∧ g ∈ ons o ∧ Γ[g]? = some (some t, fun _ u _ => u = .bool b)
theorem gno {Γ : Ctx} {o : Oper} (h : o.guard = none) : GOK3 Γ o := .inl h
def Ob3 (S : World → World → Prop) (P : Program) (DS : List Tmp) (w0 : World) (a0 : Act) (Γ : Ctx) (o : Oper) (R : DK) : Prop :=
  ∀ (a : Act) (W : World) (x : Nat → Value), S w0 W → deps x Γ a W (ons o) → (∀ t, t ∉ DS → a.eval (.tmp t) = a0.eval (.tmp t)) →
    ∀ (K : Act → World → Prop) (Q : Exit → Act → World → Prop), (∀ v W', R x v W' → S W W' → K (a.put o.dst v) W') → o.wp P a W K Q

def walk3 (S : World → World → Prop) (P : Program) (DS : List Tmp) (w0 : World) (a0 : Act) (T : Ctx → Prop) : Ctx → List Oper → Prop
  | Γ, [] => T Γ
  | Γ, o :: l => ∃ R, Stable S R ∧ Loc o R ∧ GOK3 Γ o ∧ Ob3 S P DS w0 a0 Γ o R ∧ walk3 S P DS w0 a0 T (Γ ++ [(o.dst, R)]) l
theorem walk_of_walk3 {S : World → World → Prop} {P : Program} {ops : Array Oper} {n : Nat} {DS : List Tmp} {w0 : World} {a0 : Act} {T : Ctx → Prop} {T' : List DK → Prop} (hDS : ∀ t, t ∉ DS → ∀ j, j < n → dst ops j ≠ some t)
    (hT : ∀ Γ, T Γ → T' (Γ.map (·.2))) :
    ∀ (l : List Oper) (Γ : Ctx), (∀ j, j < l.length → l[j]? = ops[Γ.length + j]?) → (∀ j d R, Γ[j]? = some (d, R) → dst ops j = d) → walk3 S P DS w0 a0 T Γ l → walk S P ops n w0 a0 T' (Γ.map (·.2)) l
  | [], Γ, _, _, h => hT Γ h
  | o :: l, Γ, hl, hΓ, h => by
    obtain ⟨R, hs, hlc, hg, hob, hw⟩ := h
    have h0 : ops[Γ.length]? = some o := by simpa using (hl 0 (by simp)).symm
    have hg' : GOK ops (Γ.map (·.2)) o := by
      rcases hg with hg | ⟨g, b, t, hg, hin, hΓg⟩
      · exact .inl hg
      · obtain ⟨e, he, rfl⟩ := List.mem_map.1 hin
        obtain ⟨he1, he2⟩ := List.mem_filter.1 he
        exact .inr ⟨e.on, b, t, hg, ⟨e, by simpa using he1, he2, rfl⟩, hΓ _ _ _ hΓg, by simp [hΓg]⟩
    refine ⟨R, hs, hlc, hg', fun _ => ?_, ?_⟩
    · intro a W x hb hz hx hd hbase K Q hK
      refine hob a W x hb (deps_of _ fun j hj => ?_) (fun t ht => hbase t (fun j hj => hDS t ht j hj)) K Q hK
      obtain ⟨e, he, rfl⟩ := List.mem_map.1 hj
      obtain ⟨he1, he2⟩ := List.mem_filter.1 he
      have he' : e ∈ o.after := by simpa using he1
      cases hc : Γ[e.on]? with
      | none => trivial
      | some c =>
        obtain ⟨d, K'⟩ := c
        cases d with
        | none => trivial
        | some t =>
          have h1 := hx e he' he2 t (hΓ _ _ _ hc)
          have h2 := hd e he' he2 K' (by simp [hc])
          exact ⟨h1, h1 ▸ h2⟩
    · have := walk_of_walk3 hDS hT l (Γ ++ [(o.dst, R)]) (fun j hj => by
        have := hl (j + 1) (by simp; omega)
        simpa [Nat.add_assoc, Nat.add_comm 1 j] using this) (fun j d R' hj => by
        rcases Nat.lt_or_ge j Γ.length with h | h
        · rw [List.getElem?_append_left h] at hj
          exact hΓ j d R' hj
        · have hjl : j < (Γ ++ [(o.dst, R)]).length := (List.getElem?_eq_some_iff.1 hj).1
          obtain rfl : j = Γ.length := by simp at hjl; omega
          simp at hj
          rw [← hj.1]
          simp [dst, h0]) hw
      simpa using this

theorem region3_w {S : World → World → Prop} (ht' : ∀ a b c, S a b → S b c → S a c) (hdr : ∀ W, S W { W with drawn := W.drawn + 1 }) {P : Program} {Q : Exit → Act → World → Prop} {a : Act} {w : World} {l : List Oper} (n : Nat) (hok : okB l.toArray n = true) (hsz : sizeB l.toArray n a.tmps.size = true)
    (h : walk3 S P ((l.take n).filterMap (·.dst)) w a (fun Γ => ∀ (x : Nat → Value) (W : World), S w W → facts x W 0 Γ → wpList P l.toArray Q (l.drop n) (fill (l.take n) 0 x a) W) [] (l.take n)) :
    wpAny P .any l.toArray Q l.toArray.size (Array.replicate l.toArray.size false) a { w with drawn := w.drawn + 1 } := by
  have hn' : n < l.length := by
    simp only [okB, Bool.and_eq_true, decide_eq_true_eq] at hok
    simpa using hok.1.1.1.1.1
  have htl : (l.take n).length = n := by simp; omega
  refine region_w ht' hdr n hok hsz (walk_of_walk3 (n := n) (fun t ht j hj hd => ht ?_) (fun Γ hT x W hb hx => hT x W hb (facts_of Γ 0 (fun j K hj => by rw [Nat.zero_add]; exact hx j K hj))) (l.take n) [] (fun j hj => by
      rw [htl] at hj
      simp [List.getElem?_take, hj]) (fun j d R hj => by simp at hj) h)
  have hlj : j < l.length := by omega
  simp [dst, hlj] at hd
  exact List.mem_filterMap.2 ⟨l[j], List.mem_iff_getElem.2 ⟨j, by omega, by simp⟩, hd⟩
theorem region3 {S : World → World → Prop} (ht' : ∀ a b c, S a b → S b c → S a c) (hdr : ∀ W, S W { W with drawn := W.drawn + 1 }) {P : Program} {id : Nat} {Q : Exit → Act → World → Prop} {a : Act} {w : World} {l : List Oper} (n : Nat) (hm : P.follows .mixedOrders = true) (hok : okB l.toArray n = true) (hsz : sizeB l.toArray n a.tmps.size = true)
    (h : walk3 S P ((l.take n).filterMap (·.dst)) w a (fun Γ => ∀ (x : Nat → Value) (W : World), S w W → facts x W 0 Γ → wpList P l.toArray Q (l.drop n) (fill (l.take n) 0 x a) W) [] (l.take n)) :
    (Code.region id l.toArray true).wp P Q a w := wp_region_any hm (region3_w ht' hdr n hok hsz h)
section
variable {S : World → World → Prop} {P : Program} {DS : List Tmp} {w0 : World} {a0 : Act} {T : Ctx → Prop} {Γ : Ctx} {o : Oper} {rest : List Oper}

theorem loc_const {o : Oper} {R : Value → World → Prop} : Loc o (fun _ => R) := fun _ _ _ _ _ h => h
theorem op3 (hr : ∀ W, S W W) (v : Value) (hg : GOK3 Γ o) (h : ∀ (a : Act) (W : World) (x : Nat → Value), S w0 W → deps x Γ a W (ons o) → (∀ t, t ∉ DS → a.eval (.tmp t) = a0.eval (.tmp t)) → (execOp a.eval o).run P W = .ok (.value v) W)
    (hn : walk3 S P DS w0 a0 T (Γ ++ [(o.dst, fun _ u _ => u = v)]) rest) : walk3 S P DS w0 a0 T Γ (o :: rest) :=
  ⟨_, fun _ _ _ _ h _ => h, loc_const, hg, fun a W x hb hd hbase K Q hK => by
    unfold Oper.wp
    rw [h a W x hb hd hbase]
    exact hK v W rfl (hr W), hn⟩
/-- One operation that yields a value, and may turn the world. -/
theorem opW3 (R : DK) (hs : Stable S R) (hl : Loc o R) (hg : GOK3 Γ o)
    (h : ∀ (a : Act) (W : World) (x : Nat → Value), S w0 W → deps x Γ a W (ons o) → (∀ t, t ∉ DS → a.eval (.tmp t) = a0.eval (.tmp t)) → ∃ v W', (execOp a.eval o).run P W = .ok (.value v) W' ∧ R x v W' ∧ S W W')
    (hn : walk3 S P DS w0 a0 T (Γ ++ [(o.dst, R)]) rest) : walk3 S P DS w0 a0 T Γ (o :: rest) :=
  ⟨R, hs, hl, hg, fun a W x hb hd hbase K Q hK => by
    obtain ⟨v, W', hrun, hR, hS⟩ := h a W x hb hd hbase
    unfold Oper.wp
    rw [hrun]
    exact hK v W' hR hS, hn⟩
/-- An append. -/
theorem app3 (R : DK) (hs : Stable S R) (hl : Loc o R) (s y : Operand) (t : TypeId) (hop : o.op = .call { callee := .builtin .append, args := #[s, y], argTypes := #[t, t] }) (hg : GOK3 Γ o)
    (h : ∀ (a : Act) (W : World) (x : Nat → Value), S w0 W → deps x Γ a W (ons o) → (∀ t, t ∉ DS → a.eval (.tmp t) = a0.eval (.tmp t)) → ∃ v W', (Builtin.append_ #[t, t] o.type #[a.eval s, a.eval y]).run P W = .ok v W' ∧ R x v W' ∧ S W W')
    (hn : walk3 S P DS w0 a0 T (Γ ++ [(o.dst, R)]) rest) : walk3 S P DS w0 a0 T Γ (o :: rest) :=
  ⟨R, hs, hl, hg, fun a W x hb hd hbase K Q hK => by
    obtain ⟨v, W', hrun, hR, hS⟩ := h a W x hb hd hbase
    unfold Oper.wp
    simp [execOp, hop, resolve, invoke, builtin, hrun, Result.andThen]
    exact hK v W' hR hS, hn⟩
theorem done3 (h : T Γ) : walk3 S P DS w0 a0 T Γ [] := h
end
end Go.Proofs.YtdeapbihbhoefaaGreatDoor.RelH

/- Worlds that turn in rows of their own alone, each of them at one index to one value; an append onto a row that the region itself made. No program. -/
namespace Go.Proofs.YtdeapbihbhoefaaGreatDoor
open Go.RowKit
open Calm (bcell Blk)
/-- below B nothing turns; a block from B on is as it was, or has x at its index n. -/
structure Sett (n : Nat) (x : Value) (B : Nat) (W W' : World) : Prop where
  below : Below B W W'
  row : ∀ g, B ≤ g → g < W.heap.size → W'.heap[g]? = W.heap[g]? ∨ ∃ cur t, W.heap[g]? = some (.cells cur t (0, 0)) ∧ W'.heap[g]? = some (.cells (cur.setIfInBounds n x) t (0, 0))
theorem Sett.refl {n : Nat} {x : Value} {B : Nat} (W : World) : Sett n x B W W := ⟨Below.refl _ _, fun _ _ _ => .inl rfl⟩
theorem set_twice (cur : Array Value) (n : Nat) (x : Value) : (cur.setIfInBounds n x).setIfInBounds n x = cur.setIfInBounds n x := by
  apply Array.ext
  · simp
  · intro i h1 h2
    simp [Array.getElem_setIfInBounds]
theorem Sett.trans {n : Nat} {x : Value} {B : Nat} (a b c : World) (h : Sett n x B a b) (h' : Sett n x B b c) : Sett n x B a c := by
  refine ⟨h.below.trans h'.below, fun g hg hl => ?_⟩
  have hl' : g < b.heap.size := Nat.lt_of_lt_of_le hl h.below.size
  rcases h'.row g hg hl' with e' | ⟨cur', t', e1', e2'⟩
  · rcases h.row g hg hl with e | ⟨cur, t, e1, e2⟩
    · exact .inl (e'.trans e)
    · exact .inr ⟨cur, t, e1, e'.trans e2⟩
  · rcases h.row g hg hl with e | ⟨cur, t, e1, e2⟩
    · exact .inr ⟨cur', t', e.symm.trans e1', e2'⟩
    · rw [e2] at e1'
      cases e1'
      exact .inr ⟨cur, _, e1, by rw [e2', set_twice]⟩
theorem Sett.drawn {n : Nat} {x : Value} {B : Nat} (W : World) : Sett n x B W { W with drawn := W.drawn + 1 } := ⟨⟨rfl, rfl, rfl, Nat.le_refl _, fun _ _ => rfl⟩, fun _ _ _ => .inl rfl⟩
theorem Sett.of {n : Nat} {x : Value} {B : Nat} {W W' : World} (h : Below W.heap.size W W') (hB : B ≤ W.heap.size) : Sett n x B W W' := ⟨h.mono hB, fun g _ hl => .inl (h.block g hl)⟩
theorem Sett.ofGe {n : Nat} {x : Value} {w0 W W' : World} (hS : Sett n x w0.heap.size w0 W) (h : Below W.heap.size W W') : Sett n x w0.heap.size W W' := Sett.of h hS.below.size
theorem take_set_list (l : List Value) (m n : Nat) (x : Value) : (l.set n x).take m = (l.take m).set n x := List.take_set
theorem ownsRow_sett {n : Nat} {x : Value} {B : Nat} {W W' : World} {e m : Nat} {v : Value} {ys : List Value} (h : W.ownsRow B e 1 v m ys) (hS : Sett n x B W W') (hy : ys.set n x = ys) : W'.ownsRow B e 1 v m ys := by
  refine ⟨h.1, ?_⟩
  rcases h.2 with h2 | ⟨g, cap, cur, h1, h2, h3, h4, h5, h6, h7⟩
  · exact .inl h2
  · refine .inr ?_
    rcases hS.row g h2 (Array.getElem?_eq_some_iff.1 h3).1 with e1 | ⟨cur', t, e1, e2⟩
    · exact ⟨g, cap, cur, h1, h2, e1.trans h3, h4, h5, h6, h7⟩
    · rw [h3] at e1
      cases e1
      refine ⟨g, cap, _, h1, h2, e2, h4, h5, by simpa using h6, ?_⟩
      rw [Array.toList_setIfInBounds, take_set_list, h7, hy]
theorem Blk.sett {n : Nat} {x : Value} {B : Nat} {W W' : World} {g : Nat} {cs : Array Value} (h : Calm.Blk W g cs) (hS : Sett n x B W W') (hg : B ≤ g) (hy : cs.setIfInBounds n x = cs) : Calm.Blk W' g cs := by
  rcases hS.row g hg h.lt with e1 | ⟨cur, t, e1, e2⟩
  · exact ⟨Nat.lt_of_lt_of_le h.lt hS.below.size, fun i => (World.cell?_of_block (w := W) (a := ⟨g, i, none⟩) e1).trans (h.c i), fun i => (World.frozen?_of_block (w := W) (a := ⟨g, i, none⟩) e1).trans (h.f i)⟩
  · refine ⟨Nat.lt_of_lt_of_le h.lt hS.below.size, fun i => ?_, fun i => ?_⟩
    · have h1 : cur[i]? = cs[i]? := by rw [← h.c i, cell_of_row W g i cur t _ e1]
      rw [cell_of_row W' g i _ t _ e2, Array.getElem?_setIfInBounds]
      have h2 : (cs.setIfInBounds n x)[i]? = cs[i]? := by rw [hy]
      rw [Array.getElem?_setIfInBounds] at h2
      have hsz : (n < cur.size) = (n < cs.size) := by
        have h3 : cur[n]? = cs[n]? := by rw [← h.c n, cell_of_row W g n cur t _ e1]
        apply propext
        constructor
        · intro hh
          rw [Array.getElem?_eq_getElem hh] at h3
          exact (Array.getElem?_eq_some_iff.1 h3.symm).1
        · intro hh
          rw [Array.getElem?_eq_getElem hh] at h3
          exact (Array.getElem?_eq_some_iff.1 h3).1
      split
      · rename_i hni
        rw [if_pos hni] at h2
        split
        · rename_i hlt
          rw [if_pos (by rw [← hsz]; exact hlt)] at h2
          exact h2
        · rename_i hlt
          rw [if_neg (by rw [← hsz]; exact hlt)] at h2
          exact h2
      · exact h1
    · have h1 := h.f i
      unfold World.frozen? at h1 ⊢
      simp only [e1] at h1
      simp only [e2]
      exact h1
/-- One value appended onto a row of the region's own. -/
theorem append_sett {P : Program} (B : Nat) (t ty e : TypeId) (i : TypeInfo) (z : Value) (bytes : Nat) (ht : P.underlying t = some (.slice e)) (hi : P.info? e = some i) (hz : i.zero = some z) (hsize : i.size = 1) (hby : i.bytes = bytes) (hzs : z.cells.size = 1)
    (u : Value) (n : Nat) (xs : List Value) (x : Value) (h1 : x.oneCell' = true) (W : World) (hown : W.ownsRow B e 1 u n xs) (hb : B ≤ W.heap.size) (h63 : n + 1 ≤ maxLen) (hbytes : (n + 1) * bytes ≤ 140737488355328) (b c : Nat) (hx : W.cell? ⟨b, 0, none⟩ = some x) :
    ∃ v' W', (Builtin.append_ #[t, t] ty #[u, .slice (some ⟨b, 0, none⟩) 1 c]).run P W = .ok v' W' ∧ W'.ownsRow B e 1 v' (n + 1) (xs ++ [x]) ∧ Sett n x B W W' := by
  have hadd : ∀ j v, [x][j]? = some v → W.cell? ((⟨b, 0, none⟩ : Addr).add j) = some v := by
    intro j v hj
    match j, hj with
    | 0, hj => simp at hj; subst hj; simpa [Addr.add] using hx
  have hone : ∀ v ∈ [x], v.oneCell' = true := fun v hv => by simp at hv; subst hv; exact h1
  obtain ⟨v', W', r1, r2, r3, _, r5⟩ := run_append_own_at (P := P) W B t ty e i z 1 bytes ht hi hz hsize hby hzs (by decide) u n xs hown ⟨b, 0, none⟩ 1 c [x] rfl hadd hone h63 hbytes hb
  refine ⟨v', W', r1, r2, ?_⟩
  rcases hown.2 with ⟨hu, hn0⟩ | ⟨g, cap, cur, hu, hbg, hg, hnc, hcm, hcs, htake⟩
  · have hun : u.ownBlock = none := by rw [hu]; rfl
    rw [hun] at r3
    exact Sett.of ⟨r3.os, r3.tape, r3.output, r3.size, fun k hk => r3.block k hk (by simp)⟩ hb
  · have hun : u.ownBlock = some g := by rw [hu]; rfl
    by_cases hroom : n + 1 ≤ cap
    · have hrun := run_append_room (P := P) W t ty e i ht hi g n cap cur hg ⟨b, 0, none⟩ 1 c [x] (by rw [hsize]; rfl) hadd hone hroom (by rw [hsize, hcs]; simp; omega)
      rw [hsize, Nat.mul_one, show n + [x].length = n + 1 from rfl, ← hu, r1] at hrun
      injection hrun with q1 q2
      have hh := setRow_heap W g cur (cur.toList.take n ++ [x] ++ cur.toList.drop (n + 1)).toArray e (0, 0) hg
      rw [← q2] at hh
      have hset : (cur.toList.take n ++ [x] ++ cur.toList.drop (n + 1)).toArray = cur.setIfInBounds n x := by
        apply Array.toList_inj.1
        rw [Array.toList_setIfInBounds, List.set_eq_take_append_cons_drop]
        rw [if_pos (by simp; omega)]
        simp
      rw [hset] at hh
      refine ⟨⟨r3.os, r3.tape, r3.output, r3.size, fun k hk => r3.block k (by omega) (by rw [hun]; simp; omega)⟩, fun k hk hl => ?_⟩
      by_cases hkg : k = g
      · subst hkg
        exact .inr ⟨cur, e, hg, hh⟩
      · exact .inl (r3.block k hl (by rw [hun]; simpa using hkg))
    · have hcell : ∀ j v, xs[j]? = some v → W.cell? ((⟨g, 0, none⟩ : Addr).add j) = some v := hown.cells (g := g) (by rw [hun])
      have hgr := run_append_grow (P := P) W t ty e i z ht hi hz ⟨g, 0, none⟩ n cap xs (by rw [hown.1, hsize]) hcell ⟨b, 0, none⟩ 1 c [x] (by rw [hsize]; rfl) hadd (by omega) (by simp only [maxLen] at h63; omega) (growslice_fits (by omega) (by rw [hby]; exact hbytes))
      rw [← hu, r1] at hgr
      injection hgr with q1 q2
      have hW : ∀ k, k < W.heap.size → W'.heap[k]? = W.heap[k]? := fun k hk => by rw [q2]; exact Below.heap_alloc _ _ _ hk
      exact Sett.of ⟨r3.os, r3.tape, r3.output, r3.size, hW⟩ hb
namespace RelH
open Rel (ons)
variable {S : World → World → Prop} {P : Program} {DS : List Tmp} {w0 : World} {a0 : Act} {U : Ctx → Prop} {Γ : Ctx} {o : Oper} {rest : List Oper}
/-- A call, by a contract. -/
theorem callR3 (R : DK) (hs : Stable S R) (hl : Loc o R) (hof : ∀ W W', S w0 W → Below W.heap.size W W' → S W W') (hg : GOK3 Γ o)
    (h : ∀ (a : Act) (W : World) (x : Nat → Value), S w0 W → deps x Γ a W (ons o) → (∀ t, t ∉ DS → a.eval (.tmp t) = a0.eval (.tmp t)) → ∃ f args, (execOp a.eval o).run P W = .ok (.enter f args) W ∧ Calls P f args W fun e W' => ∃ v, e = .returned v ∧ R x v W' ∧ Below W.heap.size W W')
    (hn : walk3 S P DS w0 a0 U (Γ ++ [(o.dst, R)]) rest) : walk3 S P DS w0 a0 U Γ (o :: rest) :=
  ⟨R, hs, hl, hg, fun a W x hb hd hbase K Q hK => by
    obtain ⟨f, args, hrun, hc⟩ := h a W x hb hd hbase
    unfold Oper.wp
    rw [hrun]
    simp only [Oper.upon]
    refine hc.mono ?_
    rintro e W' ⟨v, rfl, hR, hbb⟩
    exact hK v W' hR (hof W W' hb hbb), hn⟩
/-- One operation that only reads, of whose result R is known. -/
theorem opR3 (hr : ∀ W, S W W) (R : DK) (hs : Stable S R) (hl : Loc o R) (hg : GOK3 Γ o)
    (h : ∀ (a : Act) (W : World) (x : Nat → Value), S w0 W → deps x Γ a W (ons o) → (∀ t, t ∉ DS → a.eval (.tmp t) = a0.eval (.tmp t)) → ∃ v, (execOp a.eval o).run P W = .ok (.value v) W ∧ R x v W)
    (hn : walk3 S P DS w0 a0 U (Γ ++ [(o.dst, R)]) rest) : walk3 S P DS w0 a0 U Γ (o :: rest) :=
  opW3 R hs hl hg (fun a W x hb hd hbase => by
    obtain ⟨v, h1, h2⟩ := h a W x hb hd hbase
    exact ⟨v, W, h1, h2, hr W⟩) hn
end RelH
end Go.Proofs.YtdeapbihbhoefaaGreatDoor
