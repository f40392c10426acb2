/- Part 7 of the texts of the claim: P12, P16, P17. -/
import Derived.Test.YtdeapbihbhoefaaGreatDoorMt6
import Derived.Test.YtdeapbihbhoefaaGreatDoorMt4
import Derived.Test.YtdeapbihbhoefaaGreatDoorMt5
import Derived.ChangeKeysEq

/- Contract of (Guard).run: the outputs for a signal, and the indices of the gains. -/
namespace Go.Proofs.YtdeapbihbhoefaaGreatDoor
open Go.RowKit
open Calm (bcell Blk)

/-- the state at rest, and those of a run. -/
def stAt (lk ht rc : Int) (ts gs xs : List Int) : Nat → St
  | 0 => ⟨0, gs.length - 1, List.replicate (ts.length - 1) 0⟩
  | k + 1 => stF lk ht rc ts gs (stAt lk ht rc ts gs xs k) (xs.getD k 0)
def outAt (lk ht rc : Int) (ts gs xs : List Int) (k : Nat) : Int := outF lk ht rc ts gs (stAt lk ht rc ts gs xs k) (xs.getD k 0)
def lvAt (lk ht rc : Int) (ts gs xs : List Int) (k : Nat) : Nat := lvF lk ht rc ts gs (stAt lk ht rc ts gs xs k) (xs.getD k 0)
/-- the outputs, and the indices, as far as k. -/
def outsK (lk ht rc : Int) (ts gs xs : List Int) (k : Nat) : List Int := (List.range k).map fun i => outAt lk ht rc ts gs xs i
def lvsK (lk ht rc : Int) (ts gs xs : List Int) (k : Nat) : List Int := (List.range k).map fun i => ((lvAt lk ht rc ts gs xs i : Nat) : Int)
theorem outsK_succ (lk ht rc : Int) (ts gs xs : List Int) (k : Nat) : outsK lk ht rc ts gs xs (k + 1) = outsK lk ht rc ts gs xs k ++ [outAt lk ht rc ts gs xs k] := by simp [outsK, List.range_succ]
theorem lvsK_succ (lk ht rc : Int) (ts gs xs : List Int) (k : Nat) : lvsK lk ht rc ts gs xs (k + 1) = lvsK lk ht rc ts gs xs k ++ [((lvAt lk ht rc ts gs xs k : Nat) : Int)] := by simp [lvsK, List.range_succ]
theorem outsK_len (lk ht rc : Int) (ts gs xs : List Int) (k : Nat) : (outsK lk ht rc ts gs xs k).length = k := by simp [outsK]
theorem lvsK_len (lk ht rc : Int) (ts gs xs : List Int) (k : Nat) : (lvsK lk ht rc ts gs xs k).length = k := by simp [lvsK]
theorem rest_good {lk ht rc : Int} {ts gs : List Int} (hV : Valid lk ht rc ts gs) : Good ht rc ts gs ⟨0, gs.length - 1, List.replicate (ts.length - 1) 0⟩ := by
  obtain ⟨h1, h2⟩ := hV.tl
  obtain ⟨h3, h4⟩ := hV.gl
  refine ⟨⟨Int.le_refl _, hV.ht.1⟩, by show _ < _; simp only []; omega, by simp only [List.length_replicate]; omega, fun x hx => ?_, ?_⟩
  · have := List.eq_of_mem_replicate hx
    omega
  · refine farAny_false.2 fun x hx => ?_
    simp only [tailsF, tailsL, List.mem_map, List.mem_range] at hx
    obtain ⟨k, hk, rfl⟩ := hx
    have : exF ts (psK (List.replicate (ts.length - 1) 0) k) 0 = 0 := by
      unfold exF
      refine exK_zero fun i hi => ?_
      rw [psK_getD]
      split
      · split
        · rfl
        · exact getD_zeros _ _
      · rfl
    rw [this, absI_zero]; exact hV.rc.1
theorem good_at {lk ht rc : Int} {ts gs xs : List Int} (hV : Valid lk ht rc ts gs) (hx : inB 2048 xs) : ∀ k, Good ht rc ts gs (stAt lk ht rc ts gs xs k)
  | 0 => rest_good hV
  | k + 1 => (step_good hV (good_at hV hx k) (inB_get hx (by omega) k)).1

theorem own_slice {w : World} {base e size n : Nat} {v : Value} {xs : List Value} (h : w.ownsRow base e size v n xs) : ∃ a c, v = .slice a n c := by
  rcases h.2 with ⟨h1, h2⟩ | ⟨g, cap, cur, h1, _⟩
  · exact ⟨none, 0, by rw [h1, h2]⟩
  · exact ⟨_, cap, h1⟩
theorem Grw.same {T : Nat → Obj → Prop} {W W' : World} (h : Grw T W W') {k : Nat} (hk : k < W.heap.size) (hn : ∀ o, ¬ T k o) : W'.heap[k]? = W.heap[k]? :=
  (h.block k hk).elim id (fun ⟨o, e, _⟩ => absurd e (hn o))

theorem Rows.nil2 (W : World) (base : Nat) : Rows W base [(.slice Option.none 0 0, []), (.slice Option.none 0 0, [])] := by
  refine ⟨fun p hp => ?_, ?_⟩
  · have hp' : p = (.slice Option.none 0 0, []) := by simpa using hp
    subst hp'
    exact World.ownsRow_nil _ _ _ _
  · simp only [List.pairwise_cons, List.mem_cons, List.not_mem_nil, or_false, forall_eq, List.Pairwise.nil, and_true, false_implies, implies_true]
    exact fun k hk => by cases hk
set_option maxHeartbeats 4000000 in
set_option maxRecDepth 100000 in
theorem run_any (lk ht rc : Int) (ts gs xs : List Int) (A1 A2 A3 : Option Addr) (c1 c2 c3 : Nat) (w : World) (hL : Lim w) (hV : Valid lk ht rc ts gs) (hT : Cells w A1 ts) (hG : Cells w A2 gs) (hX : Cells w A3 xs) (hx : inB 2048 xs) (hn : xs.length ≤ 5000) :
    Calls Tryz.prog 58 #[.agg #[(.int .i64 lk), (.int .i64 ht), .slice A1 ts.length c1, (.int .i64 rc), .slice A2 gs.length c2], .slice A3 xs.length c3] w fun r w' => (∃ B1 d1 B2 d2, r = .returned (.tuple #[.slice B1 xs.length d1, .slice B2 xs.length d2]) ∧ Cells w' B1 (outsK lk ht rc ts gs xs xs.length) ∧ Cells w' B2 (lvsK lk ht rc ts gs xs xs.length)) ∧ Below w.heap.size w w' := by
  obtain ⟨M, hM⟩ : ∃ M, M = ts.length := ⟨_, rfl⟩
  obtain ⟨L, hLL⟩ : ∃ L, L = gs.length := ⟨_, rfl⟩
  obtain ⟨N, hN⟩ : ∃ N, N = xs.length := ⟨_, rfl⟩
  obtain ⟨Q, hQ⟩ : ∃ Q, Q = ts.length - 1 := ⟨_, rfl⟩
  have HGD := Lib.hid (good_at hV hx)
  have HRS : Hid (∀ W, Calls Tryz.prog 55 #[.agg #[(.int .i64 lk), (.int .i64 ht), .slice A1 M c1, (.int .i64 rc), .slice A2 L c2]] W fun r w' => (∃ B, W.heap.size ≤ B.block ∧ r = .returned (.agg #[(.int .i64 ((stAt lk ht rc ts gs xs 0).h)), (.int .i64 (((stAt lk ht rc ts gs xs 0).lv : Int))), .slice (some B) Q Q]) ∧ Cells w' (some B) (stAt lk ht rc ts gs xs 0).ps) ∧ Below W.heap.size W w') := Lib.hid (fun W => by
    have h1 := hV.tl
    have h2 := hV.gl
    rw [hM, hLL, hQ]
    exact rest_any lk ht rc A1 A2 ts.length c1 gs.length c2 W (by omega) (by omega))
  have HST : Hid (∀ (W : World) (k : Nat) (A : Option Addr) (c : Nat), Lim W → Cells W A1 ts → Cells W A2 gs → Cells W A (stAt lk ht rc ts gs xs k).ps → Calls Tryz.prog 56 #[.agg #[(.int .i64 lk), (.int .i64 ht), .slice A1 M c1, (.int .i64 rc), .slice A2 L c2], .agg #[(.int .i64 ((stAt lk ht rc ts gs xs k).h)), (.int .i64 (((stAt lk ht rc ts gs xs k).lv : Int))), .slice A Q c], (.int .i64 (xs.getD k 0))] W fun r w' =>
      (∃ B, W.heap.size ≤ B.block ∧ r = .returned (.tuple #[(.int .i64 (outAt lk ht rc ts gs xs k)), .agg #[(.int .i64 ((stAt lk ht rc ts gs xs (k + 1)).h)), (.int .i64 (((stAt lk ht rc ts gs xs (k + 1)).lv : Int))), .slice (some B) Q Q]]) ∧ Cells w' (some B) (stAt lk ht rc ts gs xs (k + 1)).ps) ∧ Below W.heap.size W w') := Lib.hid (fun W k A c q1 q2 q3 q4 => by
    have hg := HGD.out k
    have e : Q = (stAt lk ht rc ts gs xs k).ps.length := by have := hg.pl; omega
    have h1 := hV.tl
    have h2 := hV.gl
    have h3 := hg.h
    have h4 := hV.ht
    rw [hM, hLL, e]
    exact step_any lk ht rc (stAt lk ht rc ts gs xs k).h (xs.getD k 0) (stAt lk ht rc ts gs xs k).lv ts (stAt lk ht rc ts gs xs k).ps gs A1 A2 A c1 c2 c W _ q1 hV.lk (by omega) q2 q3 q4 hg.pl (by have := hg.pl; omega) (by omega) (by omega) hg.lv hV.tb hg.pb hV.gb (inB_get hx (by omega) k) (lvF_some hV hg _))
  have HT := Lib.hid hT
  have HG := Lib.hid hG
  have HX := Lib.hid hX
  have HL := Lib.hid hL
  have HQ : Hid (∀ k, (stAt lk ht rc ts gs xs k).ps.length = Q) := Lib.hid (fun k => by have := (HGD.out k).pl; omega)
  have HN := Lib.hid hN
  rw [← hM, ← hLL, ← hN]
  rw [← hN] at hn
  clear hM hLL hN hQ hT hG hX hL hV hx
  go_enter Tryz.func58, Tryz.ntmps58
  go_wp2_with (go_at_call 55; refine (HRS.out _).mono ?_; rintro r w1 ⟨⟨B, hBb, rfl, hC1⟩, hb1⟩; refine Hid.out ?_)
  have HB1 := Lib.hid hb1
  have HC1 := Lib.hid hC1
  have K0 : Blk w1 w.heap.size #[(.int .i64 lk), (.int .i64 ht), .slice A1 M c1, (.int .i64 rc), .slice A2 L c2] := Blk.below (by (repeat (first | ((with_reducible refine Blk.at_ ?_); focus (first | rfl | (simp; done) | (simp; omega))) | (with_reducible refine Blk.alloc ?_ _) | (with_reducible refine Blk.below ?_ (by with_reducible assumption)) | (with_reducible refine Blk.drew ?_)))) hb1
  have hs1 := hb1.size
  simp only [World.size_alloc] at hs1
  have HB1' : Hid (Below w.heap.size w w1) := Lib.hid (Below.trans (by (repeat (first | (with_reducible exact Below.refl _ _) | ((with_reducible refine Below.setCell ?_ ?_ _); rotate_left 1; focus (first | (simp; done) | (simp; omega) | (simp at *; omega))) | ((with_reducible refine Below.alloc ?_ ?_ _); rotate_left 1; focus (first | (simp; done) | (simp; omega) | (simp at *; omega))) | (with_reducible refine Below.drew ?_) | ((with_reducible refine Calm.step (by assumption) ?_ ?_); rotate_left 1; focus (first | (simp; done) | (simp; omega) | (simp at *; omega)))))) (hb1.mono (by simp)))
  have HK0 := Lib.hid K0
  clear hb1 hC1 K0 HB1
  unfold Hid
  go_wp2
  go_loopw [6, 7, 17] (fun v1 v2 i wr => ∃ (k : Nat) (A : Option Addr) (c : Nat), k ≤ N ∧ i = (.int .i64 ((k : Int))) ∧ Rows wr (w1.heap.size + 1) [(v1, outsK lk ht rc ts gs xs k), (v2, lvsK lk ht rc ts gs xs k)] ∧ Blk wr w.heap.size #[(.int .i64 lk), (.int .i64 ht), .slice A1 M c1, (.int .i64 rc), .slice A2 L c2] ∧
      Blk wr w1.heap.size #[(.int .i64 ((stAt lk ht rc ts gs xs k).h)), (.int .i64 (((stAt lk ht rc ts gs xs k).lv : Int))), .slice A Q c] ∧ Cells wr A (stAt lk ht rc ts gs xs k).ps ∧ (0 < Q → ∀ p, A = some p → p.block ≠ w1.heap.size) ∧ Below w.heap.size w wr) (fun _ _ i _ => N - (intOf i).toNat)
  case atStart =>
    exact ⟨0, some B, Q, Nat.zero_le _, rfl, Rows.nil2 _ _, HK0.out.alloc _, Blk.new _ _ _, HC1.out.below ((Below.refl _ _).alloc (Nat.le_refl _) _), fun h0 p hp => by
      obtain ⟨b, off, hA, hl, _⟩ := HC1.out (by rw [HQ.out]; exact h0)
      cases hp; cases hA
      show b ≠ _
      omega, HB1'.out.alloc (by omega) _⟩
  case round =>
    clear HK0
    obtain ⟨k, A, c, hk, rfl, hR, K0, K8, hCA, hAne, hB⟩ := hrel
    have HR := Lib.hid hR
    have HCA := Lib.hid hCA
    have HB := Lib.hid hB
    have hsz := hB.size
    clear hR hCA
    by_cases hlt : k < N
    · obtain ⟨b3, o3, rfl, l3, k3⟩ := HX.out (by rw [← HN.out]; omega)
      have x3 := (hB.cell (p := ⟨b3, o3 + k, none⟩) l3).trans (k3 k (by rw [← HN.out]; exact hlt))
      have HLr := Lib.hid (HL.out.below hB)
      have HTr := Lib.hid (HT.out.below hB)
      have HGr := Lib.hid (HG.out.below hB)
      have HS1 := HST.out wr k A c HLr.out HTr.out HGr.out HCA.out
      have HO := Lib.hid (outsK_succ lk ht rc ts gs xs k)
      have HLV := Lib.hid (lvsK_succ lk ht rc ts gs xs k)
      have hrow : ∀ j, (u6.ownBlock = some j ∨ u7.ownBlock = some j) → j < wr.heap.size := fun j hj => by
        rcases hj with hj | hj
        · exact ((HR.out.1 (u6, outsK lk ht rc ts gs xs k) (by simp)).lt j hj).2
        · exact ((HR.out.1 (u7, lvsK lk ht rc ts gs xs k) (by simp)).lt j hj).2
      have hlv : (stAt lk ht rc ts gs xs (k + 1)).lv = lvAt lk ht rc ts gs xs k := rfl
      rw [hlv] at HS1
      obtain ⟨X, hX⟩ : ∃ X, X = xs.getD k 0 := ⟨_, rfl⟩
      obtain ⟨Y, hY⟩ : ∃ Y, Y = outAt lk ht rc ts gs xs k := ⟨_, rfl⟩
      obtain ⟨V, hV⟩ : ∃ V, V = lvAt lk ht rc ts gs xs k := ⟨_, rfl⟩
      rw [← hX, ← hY, ← hV] at HS1
      rw [← hX] at x3
      have HY := Lib.hid hY
      have HV := Lib.hid hV
      have HLVE := Lib.hid hlv
      have HSS := Lib.hid HS1
      obtain ⟨c00, c01, c02, c03, c04, l0, f0⟩ := K0.o5
      obtain ⟨c10, c11, c12, l10, f1⟩ := K8.o3
      have hw1r : w1.heap.size < wr.heap.size := l10
      have HK0 := Lib.hid K0
      have HK8 := Lib.hid K8
      have HROW := Lib.hid hrow
      have HANE := Lib.hid hAne
      clear k3 hX hY hV hlv HS1 K0 K8 hB hrow hAne
      go_wp2_with (go_at_call 56; refine HSS.out.mono ?_; rintro r w2 ⟨⟨B2, hBb2, rfl, hC2⟩, hb2⟩; have hs2 := hb2.size; have HC2 := Lib.hid hC2; have HB2 := Lib.hid hb2; clear hC2 hb2)
      refine name_world ?_
      intro w4 e4
      have hN4 : w2.heap.size < w4.heap.size := by rw [e4]; simp
      have hb4 : Below w2.heap.size w2 w4 := by rw [e4]; exact (Below.refl _ _).alloc (Nat.le_refl _) _
      have hR4 := (HR.out.below HB2.out).below hb4
      have KN : Blk w4 w2.heap.size #[(.int .i64 ((stAt lk ht rc ts gs xs (k + 1)).h)), (.int .i64 ((V : Int))), .slice (some B2) Q Q] := by rw [e4]; exact Blk.new _ _ _
      have HK04 := Lib.hid ((HK0.out.below HB2.out).below hb4)
      have HK84 := Lib.hid ((HK8.out.below HB2.out).below hb4)
      have HC4 := Lib.hid (HC2.out.below hb4)
      have HCL : Hid (0 < Q → B2.block < w4.heap.size) := Lib.hid (fun h0 => by
        obtain ⟨b, off, hA, hl, _⟩ := HC4.out (by rw [HQ.out]; exact h0)
        cases hA; exact hl)
      have HBA4 := Lib.hid (HB.out.trans ((HB2.out.trans (hb4.mono hs2)).mono hsz))
      have hsb : w1.heap.size + 1 ≤ w4.heap.size := by omega
      obtain ⟨T, R1, R2, t0, t1, t2, p1, p2, pf⟩ := pair_grw (w1.heap.size + 1) u6 u7 _ _ [] Y (V : Int) w4 hR4 hsb (by rw [outsK_len]; omega) (by rw [lvsK_len]; omega)
      have T0 := Lib.hid t0
      have T1 := Lib.hid t1
      have T2 := Lib.hid t2
      have P1 := Lib.hid p1
      have P2 := Lib.hid p2
      have PF := Lib.hid pf
      clear t0 t1 t2 p1 p2 pf hR4
      have hnT : ∀ j, wr.heap.size ≤ j → ∀ o, ¬ T j o := fun j hj o ho => by
        have := HROW.out j (T0.out j o ho).2
        omega
      have HNT := Lib.hid hnT
      have hTC : Hid (∀ W, Grw T w4 W → (∀ o, W.cell? ⟨w2.heap.size, o, none⟩ = w4.cell? ⟨w2.heap.size, o, none⟩) ∧ True) := Lib.hid (fun W hS => ⟨fun o => World.cell?_of_block (w := w4) (a := ⟨w2.heap.size, o, none⟩) (hS.same hN4 (hnT _ hs2)), trivial⟩)
      obtain ⟨n0, n1, n2, nl, nf⟩ := KN.o3
      clear e4 hb4 KN hnT HK0 HK8 HC2 HB2 HB HR HSS c00 c01 c02 c03 c04 l0 f0 c10 c11 c12 l10 f1 x3
      refine RelL.region3 (S := Grw T) Grw.trans Grw.drawn 12 (by kernel_rfl) (by kernel_rfl) (by kernel_rfl) ?_
      simp only [List.take_succ_cons, List.take_zero, List.drop_succ_cons, List.drop_zero, List.filterMap_cons, List.filterMap_nil]
      refine RelL.late3 Grw.refl 6 u6 rfl (by kernel_rfl) rfl (RelL.gno rfl) ?_
      (try simp only [List.nil_append, List.cons_append])
      iterate 1 (apply RelL.op3 Grw.refl; (focus (first | exact RelL.gno rfl | exact RelL.gyes _ true _ rfl rfl rfl | exact RelL.gyes _ false _ rfl rfl rfl)); (focus (intro a W x hb hd hbase; obtain ⟨hc, hf⟩ := hTC.out W hb; clear hb hf; simp [RelL.deps, RelL.dep1, Rel.ons, Region.binds, Act.eval] at hd; simp only [Act.eval, List.mem_cons, List.not_mem_nil, not_or, and_imp, or_false, Array.getD_eq_getD_getElem?] at hbase; go_simp; (try go_bits); (try rfl); done)); (try simp only [List.nil_append, List.cons_append]))
      (apply RelL.build3 (fun k o h => (T0.out k o h).1.2); (focus (first | exact RelL.gno rfl | exact RelL.gyes _ true _ rfl rfl rfl | exact RelL.gyes _ false _ rfl rfl rfl)); (focus (intro a W x hb hd hbase; obtain ⟨hc, hf⟩ := hTC.out W hb; clear hb hf; simp [RelL.deps, RelL.dep1, Rel.ons, Region.binds, Act.eval] at hd; simp only [Act.eval, List.mem_cons, List.not_mem_nil, not_or, and_imp, or_false, Array.getD_eq_getD_getElem?] at hbase; go_simp; (first | rfl | (refine ⟨⟨?_, ?_⟩, ?_⟩; rfl; rfl; rfl) | (refine ⟨?_, ?_⟩; rfl; rfl)))); (try simp only [List.nil_append, List.cons_append]))
      refine RelL.app3 (fun _ => R1) (fun _ => T1.out) RelL.loc_const (.tmp 28) (.tmp 30) 22 rfl (RelL.gno rfl) ?_ ?_
      · intro a W x hb hd hbase
        simp [RelL.deps, RelL.dep1, Rel.ons, Region.binds] at hd
        obtain ⟨⟨_, hs⟩, ⟨_, hx⟩⟩ := hd
        obtain ⟨g, hxv, _, hxk⟩ := hx
        rw [hs, hxv]
        exact P1.out W hb g 1 (hxk.cell 0 _ rfl)
      (try simp only [List.nil_append, List.cons_append])
      refine RelL.late3 Grw.refl 7 u7 rfl (by kernel_rfl) rfl (RelL.gno rfl) ?_
      (try simp only [List.nil_append, List.cons_append])
      iterate 2 (apply RelL.op3 Grw.refl; (focus (first | exact RelL.gno rfl | exact RelL.gyes _ true _ rfl rfl rfl | exact RelL.gyes _ false _ rfl rfl rfl)); (focus (intro a W x hb hd hbase; obtain ⟨hc, hf⟩ := hTC.out W hb; clear hb hf; simp [RelL.deps, RelL.dep1, Rel.ons, Region.binds, Act.eval] at hd; simp only [Act.eval, List.mem_cons, List.not_mem_nil, not_or, and_imp, or_false, Array.getD_eq_getD_getElem?] at hbase; go_simp; (try go_bits); (try rfl); done)); (try simp only [List.nil_append, List.cons_append]))
      (apply RelL.build3 (fun k o h => (T0.out k o h).1.2); (focus (first | exact RelL.gno rfl | exact RelL.gyes _ true _ rfl rfl rfl | exact RelL.gyes _ false _ rfl rfl rfl)); (focus (intro a W x hb hd hbase; obtain ⟨hc, hf⟩ := hTC.out W hb; clear hb hf; simp [RelL.deps, RelL.dep1, Rel.ons, Region.binds, Act.eval] at hd; simp only [Act.eval, List.mem_cons, List.not_mem_nil, not_or, and_imp, or_false, Array.getD_eq_getD_getElem?] at hbase; go_simp; (first | rfl | (refine ⟨⟨?_, ?_⟩, ?_⟩; rfl; rfl; rfl) | (refine ⟨?_, ?_⟩; rfl; rfl)))); (try simp only [List.nil_append, List.cons_append]))
      refine RelL.app3 (fun x => R2 (x 3)) (fun x => T2.out (x 3)) (fun x y h v W hr => by have e8 : x 3 = y 3 := h { on := 3, ground := .chain } (by simp) rfl; exact (show R2 (y 3) v W from e8 ▸ (show R2 (x 3) v W from hr))) (.tmp 32) (.tmp 35) 22 rfl (RelL.gno rfl) ?_ ?_
      · intro a W x hb hd hbase
        simp [RelL.deps, RelL.dep1, Rel.ons, Region.binds] at hd
        obtain ⟨⟨_, hs⟩, ⟨_, hx⟩, h8, hv1⟩ := hd
        obtain ⟨g, hxv, _, hxk⟩ := hx
        rw [hs, hxv, h8]
        exact P2.out W _ hb hv1 g 1 (hxk.cell 0 _ rfl)
      (try simp only [List.nil_append, List.cons_append])
      iterate 1 (apply RelL.op3 Grw.refl; (focus (first | exact RelL.gno rfl | exact RelL.gyes _ true _ rfl rfl rfl | exact RelL.gyes _ false _ rfl rfl rfl)); (focus (intro a W x hb hd hbase; obtain ⟨hc, hf⟩ := hTC.out W hb; clear hb hf; simp [RelL.deps, RelL.dep1, Rel.ons, Region.binds, Act.eval] at hd; simp only [Act.eval, List.mem_cons, List.not_mem_nil, not_or, and_imp, or_false, Array.getD_eq_getD_getElem?] at hbase; go_simp; (try go_bits); (try rfl); done)); (try simp only [List.nil_append, List.cons_append]))
      refine RelL.opW3 (fun x u _ => u = x 3) (fun _ _ _ _ h _ => h) (fun x y h v W hr => hr.trans (h { on := 3, ground := .data } (by simp) rfl)) (RelL.gno rfl) ?_ ?_
      · intro a W x hb hd hbase
        simp [RelL.deps, RelL.dep1, Rel.ons, Region.binds, Act.eval] at hd
        refine ⟨x 3, W, ?_, rfl, Grw.refl W⟩
        obtain ⟨⟨h3, _⟩, _⟩ := hd
        unfold execOp
        simp [Act.eval, h3]
      (try simp only [List.nil_append, List.cons_append])
      refine RelL.opW3 (fun x u _ => u = x 8) (fun _ _ _ _ h _ => h) (fun x y h v W hr => hr.trans (h { on := 8, ground := .data } (by simp) rfl)) (RelL.gno rfl) ?_ ?_
      · intro a W x hb hd hbase
        simp [RelL.deps, RelL.dep1, Rel.ons, Region.binds, Act.eval] at hd
        refine ⟨x 8, W, ?_, rfl, Grw.refl W⟩
        obtain ⟨⟨h3, _⟩, _⟩ := hd
        unfold execOp
        simp [Act.eval, h3]
      (try simp only [List.nil_append, List.cons_append])
      refine RelL.done3 ?_
      intro x WR hRR hx
      simp only [RelL.facts, Nat.zero_add, Nat.reduceAdd] at hx
      obtain ⟨e0, e1, e2, r1, e4, e5, e6, e7, r2, e9, e10, e11, _⟩ := hx
      simp only [RelL.fill, Nat.zero_add, Nat.reduceAdd, e0, e1, e4, e5, e6, e9, e10, e11]
      simp only [Act.put, List.setIfInBounds_toArray, List.set_cons_zero, List.set_cons_succ]
      have hbR : Below (w1.heap.size + 1) w4 WR := hRR.below (fun k o hk => (T0.out k o hk).1.1) hsb
      have hRN := Lib.hid (PF.out WR _ _ hRR r1 r2)
      have K8 := HK84.out.upto hbR (by omega)
      have K0 := HK04.out.upto hbR (by omega)
      have HBAR : Hid (Below w.heap.size w WR) := Lib.hid (HBA4.out.trans (hbR.mono (by omega)))
      have HCR : Hid (Cells WR (some B2) (stAt lk ht rc ts gs xs (k + 1)).ps) := Lib.hid (by
        intro h0
        have hl := HCL.out (by rw [← HQ.out (k + 1)]; exact h0)
        obtain ⟨b, off, hA, _, hc⟩ := HC4.out h0
        cases hA
        have e := hRR.same hl (HNT.out _ hBb2)
        exact ⟨b, off, rfl, Nat.lt_of_lt_of_le hl hRR.size, fun j hj => (World.cell?_of_block (w := w4) (a := ⟨b, off + j, none⟩) e).trans (hc j hj)⟩)
      clear e0 e1 e2 r1 e4 e5 e6 e7 r2 e9 e10 e11 hRR hbR T0 T1 T2 P1 P2 PF HNT hTC n0 n1 n2 nl nf HK84 HK04 HBA4 HC4 HCL HROW
      obtain ⟨v1, hv1⟩ : ∃ v, v = x 3 := ⟨_, rfl⟩
      obtain ⟨v2, hv2⟩ : ∃ v, v = x 8 := ⟨_, rfl⟩
      rw [← hv1, ← hv2] at hRN
      simp only [← hv1, ← hv2]
      clear hv1 hv2
      obtain ⟨d10, d11, d12, m1, g1⟩ := K8.o3
      have HK8 := Lib.hid K8
      have HK0 := Lib.hid K0
      clear K8 K0
      go_wp2
      go_roundw
      case rel =>
        have q1 : 0 < (stAt lk ht rc ts gs xs (k + 1)).ps.length → ∀ p, some B2 = some p → p.block ≠ w1.heap.size := fun _ p hp => by cases hp; omega
        exact ⟨k + 1, some B2, Q, by omega, by go_num, by rw [HO.out, HLV.out, ← HY.out, ← HV.out]; exact ((hRN.out.setCell (by simp) _).setCell (by simp) _).setCell (by simp) _,
          ((HK0.out.far (by simp; omega) _).far (by simp; omega) _).far (by simp; omega) _, by rw [HLVE.out, ← HV.out]; exact HK8.out.set3 _ _ _, ((HCR.out.sets q1 _ _).sets q1 _ _).sets q1 _ _, fun _ p hp => by cases hp; omega,
          ((HBAR.out.setCell (by simp; omega) _).setCell (by simp; omega) _).setCell (by simp; omega) _⟩
      case measure => simp [intOf]; omega
    · obtain rfl : k = N := by omega
      have hr1 := HR.out.1 (u6, outsK lk ht rc ts gs xs k) (by simp)
      have hr2 := HR.out.1 (u7, lvsK lk ht rc ts gs xs k) (by simp)
      unfold OwnI at hr1 hr2
      rw [outsK_len] at hr1
      rw [lvsK_len] at hr2
      obtain ⟨B1, d1, rfl, _, hc1⟩ := own_ints hr1 (outsK_len _ _ _ _ _ _ _).symm
      obtain ⟨B2, d2, rfl, _, hc2⟩ := own_ints hr2 (lvsK_len _ _ _ _ _ _ _).symm
      have H1 := Lib.hid hc1
      have H2 := Lib.hid hc2
      clear hr1 hr2 hc1 hc2 hB K0 K8
      go_wp2
      exact bodyPost_ret (v := .tuple #[.slice B1 k d1, .slice B2 k d2]) (by simp [results, Tryz.results58, go_sem]) rfl (by first | exact ⟨⟨B1, d1, B2, ⟨d2, rfl⟩, H1.out, H2.out⟩, HB.out⟩ | exact ⟨⟨B1, d1, B2, d2, rfl, H1.out, H2.out⟩, HB.out⟩)
end Go.Proofs.YtdeapbihbhoefaaGreatDoor

/- Contracts of checkSignal, checkRun, Run and Levels. -/
namespace Go.Proofs.YtdeapbihbhoefaaGreatDoor
open Go.RowKit
open Calm (bcell Blk)

/-- the error of a signal. -/
def sigErr (xs : List Int) : Int := firstOf [if 4096 < xs.length then 5 else 0, eachErr xs (-2048) 2048]
theorem checkSignal_any (xs : List Int) (A : Option Addr) (c : Nat) (w : World) (hC : Cells w A xs) (hn : xs.length ≤ 5000) :
    Calls Tryz.prog 69 #[.slice A xs.length c] w fun r w' => r = .returned (.int .i64 (sigErr xs)) ∧ Below w.heap.size w w' := by
  have HE : Hid (∀ W, Cells W A xs → Calls Tryz.prog 71 #[.slice A xs.length c, (.int .i64 (-2048)), (.int .i64 2048)] W fun r w' => r = .returned (.int .i64 (eachErr xs (-2048) 2048)) ∧ Below W.heap.size W w') := Lib.hid (fun W q => each_any A xs c (-2048) 2048 W q hn)
  have HS : Hid (sigErr xs = firstOf [if 4096 < xs.length then 5 else 0, eachErr xs (-2048) 2048]) := Lib.hid rfl
  have HC := Lib.hid hC
  obtain ⟨R, hR⟩ : ∃ R, R = sigErr xs := ⟨_, rfl⟩
  rw [← hR] at HS ⊢
  generalize xs.length = N at *
  clear hR hC
  by_cases h0 : 4096 < N
  · have h1 : (4096 : Int) < (N : Int) := by omega
    have HS2 : Hid (firstOf [5, eachErr xs (-2048) 2048] = R) := Lib.hid (by rw [HS.out, if_pos h0])
    clear HS
    go_enter Tryz.func69, Tryz.ntmps69
    go_wp2_with (first
      | (go_at_call 68; refine (when_any _ _ _).mono ?_; rintro r w' ⟨rfl, rfl⟩)
      | (go_at_call 71; refine (HE.out _ HC.out).mono ?_; rintro r w1 ⟨rfl, hb1⟩)
      | (go_at_call 49; refine (first2_new _ _ _).mono ?_; rintro r w2 ⟨rfl, rfl⟩))
    go_ret
    exact ⟨ret_i HS2.out, hb1.alloc hb1.size _⟩
  · have h1 : ¬ (4096 : Int) < (N : Int) := by omega
    have HS2 : Hid (firstOf [0, eachErr xs (-2048) 2048] = R) := Lib.hid (by rw [HS.out, if_neg h0])
    clear HS
    go_enter Tryz.func69, Tryz.ntmps69
    go_wp2_with (first
      | (go_at_call 68; refine (when_any _ _ _).mono ?_; rintro r w' ⟨rfl, rfl⟩)
      | (go_at_call 71; refine (HE.out _ HC.out).mono ?_; rintro r w1 ⟨rfl, hb1⟩)
      | (go_at_call 49; refine (first2_new _ _ _).mono ?_; rintro r w2 ⟨rfl, rfl⟩))
    go_ret
    exact ⟨ret_i HS2.out, hb1.alloc hb1.size _⟩
/-- the error of a guard and a signal. -/
def runErr (lk ht rc : Int) (ts gs xs : List Int) : Int := firstOf [guardErr lk ht rc ts gs, sigErr xs]
theorem checkRun_any (lk ht rc : Int) (ts gs xs : List Int) (A1 A2 A3 : Option Addr) (c1 c2 c3 : Nat) (w : World) (hT : Cells w A1 ts) (hG : Cells w A2 gs) (hX : Cells w A3 xs) (h1 : ts.length ≤ 5000) (h2 : gs.length ≤ 5000) (h3 : xs.length ≤ 5000) :
    Calls Tryz.prog 57 #[.agg #[(.int .i64 lk), (.int .i64 ht), .slice A1 ts.length c1, (.int .i64 rc), .slice A2 gs.length c2], .slice A3 xs.length c3] w fun r w' => r = .returned (.int .i64 (runErr lk ht rc ts gs xs)) ∧ Below w.heap.size w w' := by
  have HCG : Hid (∀ W, Cells W A1 ts → Cells W A2 gs → Calls Tryz.prog 35 #[.agg #[(.int .i64 lk), (.int .i64 ht), .slice A1 ts.length c1, (.int .i64 rc), .slice A2 gs.length c2]] W fun r w' => r = .returned (.int .i64 (guardErr lk ht rc ts gs)) ∧ Below W.heap.size W w') := Lib.hid (fun W q1 q2 => checkGuard_any lk ht rc ts gs A1 A2 c1 c2 W q1 q2 h1 h2)
  have HCS : Hid (∀ W, Cells W A3 xs → Calls Tryz.prog 69 #[.slice A3 xs.length c3] W fun r w' => r = .returned (.int .i64 (sigErr xs)) ∧ Below W.heap.size W w') := Lib.hid (fun W q => checkSignal_any xs A3 c3 W q h3)
  have HS : Hid (firstOf [guardErr lk ht rc ts gs, sigErr xs] = runErr lk ht rc ts gs xs) := Lib.hid rfl
  have HT := Lib.hid hT
  have HG := Lib.hid hG
  have HX := Lib.hid hX
  obtain ⟨R, hR⟩ : ∃ R, R = runErr lk ht rc ts gs xs := ⟨_, rfl⟩
  rw [← hR] at HS ⊢
  generalize xs.length = N at *
  generalize ts.length = M at *
  generalize gs.length = L at *
  clear hR hT hG hX
  go_enter Tryz.func57, Tryz.ntmps57
  go_wp2_with (first
    | (go_at_call 35; refine (HCG.out _ (HT.out.below (by (repeat (first | (with_reducible exact Below.refl _ _) | ((with_reducible refine Below.setCell ?_ ?_ _); rotate_left 1; focus (first | (simp; done) | (simp; omega) | (simp at *; omega))) | ((with_reducible refine Below.alloc ?_ ?_ _); rotate_left 1; focus (first | (simp; done) | (simp; omega) | (simp at *; omega))) | (with_reducible refine Below.drew ?_) | ((with_reducible refine Calm.step (by assumption) ?_ ?_); rotate_left 1; focus (first | (simp; done) | (simp; omega) | (simp at *; omega))))))) (HG.out.below (by (repeat (first | (with_reducible exact Below.refl _ _) | ((with_reducible refine Below.setCell ?_ ?_ _); rotate_left 1; focus (first | (simp; done) | (simp; omega) | (simp at *; omega))) | ((with_reducible refine Below.alloc ?_ ?_ _); rotate_left 1; focus (first | (simp; done) | (simp; omega) | (simp at *; omega))) | (with_reducible refine Below.drew ?_) | ((with_reducible refine Calm.step (by assumption) ?_ ?_); rotate_left 1; focus (first | (simp; done) | (simp; omega) | (simp at *; omega)))))))).mono ?_; rintro r w1 ⟨rfl, hb1⟩; have HB1 := Lib.hid (show Below w.heap.size w w1 from Below.trans (by (repeat (first | (with_reducible exact Below.refl _ _) | ((with_reducible refine Below.setCell ?_ ?_ _); rotate_left 1; focus (first | (simp; done) | (simp; omega) | (simp at *; omega))) | ((with_reducible refine Below.alloc ?_ ?_ _); rotate_left 1; focus (first | (simp; done) | (simp; omega) | (simp at *; omega))) | (with_reducible refine Below.drew ?_) | ((with_reducible refine Calm.step (by assumption) ?_ ?_); rotate_left 1; focus (first | (simp; done) | (simp; omega) | (simp at *; omega)))))) (hb1.mono (by simp))); clear hb1)
    | (go_at_call 69; refine (HCS.out _ (HX.out.below HB1.out)).mono ?_; rintro r w2 ⟨rfl, hb2⟩; have HB2 := Lib.hid (HB1.out.trans (hb2.mono HB1.out.size)); clear hb2)
    | (go_at_call 49; refine (first2_new _ _ _).mono ?_; rintro r w3 ⟨rfl, rfl⟩))
  go_ret
  exact ⟨ret_i HS.out, HB2.out.alloc HB2.out.size _⟩
theorem run_ok (lk ht rc : Int) (ts gs xs : List Int) (A1 A2 A3 : Option Addr) (c1 c2 c3 : Nat) (w : World) (hL : Lim w) (hV : Valid lk ht rc ts gs) (hT : Cells w A1 ts) (hG : Cells w A2 gs) (hX : Cells w A3 xs) (hx : inB 2048 xs) (h1 : ts.length ≤ 5000) (h2 : gs.length ≤ 5000) (h3 : xs.length ≤ 5000)
    (he : runErr lk ht rc ts gs xs = 0) :
    Calls Tryz.prog 25 #[.agg #[(.int .i64 lk), (.int .i64 ht), .slice A1 ts.length c1, (.int .i64 rc), .slice A2 gs.length c2], .slice A3 xs.length c3] w fun r w' => (∃ B d, r = .returned (.tuple #[.slice B xs.length d, (.int .i64 0)]) ∧ Cells w' B (outsK lk ht rc ts gs xs xs.length)) ∧ Below w.heap.size w w' := by
  have HCR : Hid (∀ W, Cells W A1 ts → Cells W A2 gs → Cells W A3 xs → Calls Tryz.prog 57 #[.agg #[(.int .i64 lk), (.int .i64 ht), .slice A1 ts.length c1, (.int .i64 rc), .slice A2 gs.length c2], .slice A3 xs.length c3] W fun r w' => r = .returned (.int .i64 0) ∧ Below W.heap.size W w') := Lib.hid (fun W q1 q2 q3 => by
    have := checkRun_any lk ht rc ts gs xs A1 A2 A3 c1 c2 c3 W q1 q2 q3 h1 h2 h3
    rwa [he] at this)
  have HR : Hid (∀ W, Lim W → Cells W A1 ts → Cells W A2 gs → Cells W A3 xs → Calls Tryz.prog 58 #[.agg #[(.int .i64 lk), (.int .i64 ht), .slice A1 ts.length c1, (.int .i64 rc), .slice A2 gs.length c2], .slice A3 xs.length c3] W fun r w' => (∃ B1 d1 B2 d2, r = .returned (.tuple #[.slice B1 xs.length d1, .slice B2 xs.length d2]) ∧ Cells w' B1 (outsK lk ht rc ts gs xs xs.length) ∧ Cells w' B2 (lvsK lk ht rc ts gs xs xs.length)) ∧ Below W.heap.size W w') :=
    Lib.hid (fun W q0 q1 q2 q3 => run_any lk ht rc ts gs xs A1 A2 A3 c1 c2 c3 W q0 hV q1 q2 q3 hx h3)
  have HT := Lib.hid hT
  have HG := Lib.hid hG
  have HX := Lib.hid hX
  have HL := Lib.hid hL
  generalize xs.length = N at *
  generalize ts.length = M at *
  generalize gs.length = L at *
  clear hT hG hX hL hV hx he
  go_enter Tryz.func25, Tryz.ntmps25
  go_wp2_with (first
    | (go_at_call 57; refine (HCR.out _ (HT.out.below (by (repeat (first | (with_reducible exact Below.refl _ _) | ((with_reducible refine Below.setCell ?_ ?_ _); rotate_left 1; focus (first | (simp; done) | (simp; omega) | (simp at *; omega))) | ((with_reducible refine Below.alloc ?_ ?_ _); rotate_left 1; focus (first | (simp; done) | (simp; omega) | (simp at *; omega))) | (with_reducible refine Below.drew ?_) | ((with_reducible refine Calm.step (by assumption) ?_ ?_); rotate_left 1; focus (first | (simp; done) | (simp; omega) | (simp at *; omega))))))) (HG.out.below (by (repeat (first | (with_reducible exact Below.refl _ _) | ((with_reducible refine Below.setCell ?_ ?_ _); rotate_left 1; focus (first | (simp; done) | (simp; omega) | (simp at *; omega))) | ((with_reducible refine Below.alloc ?_ ?_ _); rotate_left 1; focus (first | (simp; done) | (simp; omega) | (simp at *; omega))) | (with_reducible refine Below.drew ?_) | ((with_reducible refine Calm.step (by assumption) ?_ ?_); rotate_left 1; focus (first | (simp; done) | (simp; omega) | (simp at *; omega))))))) (HX.out.below (by (repeat (first | (with_reducible exact Below.refl _ _) | ((with_reducible refine Below.setCell ?_ ?_ _); rotate_left 1; focus (first | (simp; done) | (simp; omega) | (simp at *; omega))) | ((with_reducible refine Below.alloc ?_ ?_ _); rotate_left 1; focus (first | (simp; done) | (simp; omega) | (simp at *; omega))) | (with_reducible refine Below.drew ?_) | ((with_reducible refine Calm.step (by assumption) ?_ ?_); rotate_left 1; focus (first | (simp; done) | (simp; omega) | (simp at *; omega)))))))).mono ?_; rintro r w1 ⟨rfl, hb1⟩; have HB1 := Lib.hid (show Below w.heap.size w w1 from Below.trans (by (repeat (first | (with_reducible exact Below.refl _ _) | ((with_reducible refine Below.setCell ?_ ?_ _); rotate_left 1; focus (first | (simp; done) | (simp; omega) | (simp at *; omega))) | ((with_reducible refine Below.alloc ?_ ?_ _); rotate_left 1; focus (first | (simp; done) | (simp; omega) | (simp at *; omega))) | (with_reducible refine Below.drew ?_) | ((with_reducible refine Calm.step (by assumption) ?_ ?_); rotate_left 1; focus (first | (simp; done) | (simp; omega) | (simp at *; omega)))))) (hb1.mono (by simp))); have K0 : Blk w1 w.heap.size #[(.int .i64 lk), (.int .i64 ht), .slice A1 M c1, (.int .i64 rc), .slice A2 L c2] := Blk.below (by (repeat (first | ((with_reducible refine Blk.at_ ?_); focus (first | rfl | (simp; done) | (simp; omega))) | (with_reducible refine Blk.alloc ?_ _) | (with_reducible refine Blk.below ?_ (by with_reducible assumption)) | (with_reducible refine Blk.drew ?_)))) hb1; obtain ⟨c00, c01, c02, c03, c04, l0, f0⟩ := K0.o5; clear hb1 K0)
    | (go_at_call 58; refine (HR.out _ (HL.out.below HB1.out) (HT.out.below HB1.out) (HG.out.below HB1.out) (HX.out.below HB1.out)).mono ?_; rintro r w2 ⟨⟨B1, d1, B2, d2, rfl, hc1, _⟩, hb2⟩; have HC1 := Lib.hid hc1; have HB2 := Lib.hid (HB1.out.trans (hb2.mono HB1.out.size)); clear hb2 hc1))
  exact bodyPost_ret (v := .tuple #[.slice B1 N d1, (.int .i64 0)]) (by simp [results, Tryz.results25, go_sem]) rfl (by first | exact ⟨⟨B1, d1, rfl, HC1.out⟩, HB2.out⟩ | exact ⟨⟨B1, ⟨d1, rfl⟩, HC1.out⟩, HB2.out⟩)
end Go.Proofs.YtdeapbihbhoefaaGreatDoor

/- Contract of Peaks on a valid guard and signal. -/
namespace Go.Proofs.YtdeapbihbhoefaaGreatDoor
open Go.RowKit
open Calm (bcell Blk)

def mx (x y : Int) : Int := if y > x then y else x
theorem max2_any (ts : Array TypeId) (t : TypeId) (x y : Int) (W : World) : (Builtin.max_ ts t #[(.int .i64 x), (.int .i64 y)]).run Tryz.prog W = .ok (.int .i64 (mx x y)) W := by
  simp [Builtin.max_, Builtin.max2, mx]
/-- the heats, the last outputs, the excursions and the peaks of outputs. -/
def bhAt (lk : Int) (ys : List Int) : Nat → Int
  | 0 => 0
  | k + 1 => coolF lk (bhAt lk ys k) + ys.getD k 0 * ys.getD k 0
def bpAt (n : Nat) (ys : List Int) : Nat → List Int
  | 0 => List.replicate n 0
  | k + 1 => pushL (bpAt n ys k) (ys.getD k 0)
def exAt (ts ys : List Int) (k : Nat) : Int := exF ts (bpAt (ts.length - 1) ys k) (ys.getD k 0)
def pkH (lk : Int) (ys : List Int) : Nat → Int
  | 0 => 0
  | k + 1 => mx (pkH lk ys k) (bhAt lk ys (k + 1))
def pkX (ts ys : List Int) : Nat → Int
  | 0 => 0
  | k + 1 => mx (pkX ts ys k) (absI (exAt ts ys k))
theorem bpAt_len (n : Nat) (ys : List Int) : ∀ k, (bpAt n ys k).length = n
  | 0 => List.length_replicate
  | k + 1 => (pushL_len _ _).trans (bpAt_len n ys k)
theorem bpAt_in {n : Nat} {ys : List Int} (hy : inB 2048 ys) : ∀ k, inB 2048 (bpAt n ys k)
  | 0 => fun x hx => by have := List.eq_of_mem_replicate hx; omega
  | k + 1 => inB_push (bpAt_in hy k) (inB_get hy (by omega) k)
theorem sq_bd {y : Int} (h : -2048 ≤ y ∧ y ≤ 2048) : 0 ≤ y * y ∧ y * y ≤ 4194304 := by
  have := mul_bd h h
  have h2 : 0 ≤ y * y := by
    rcases Int.le_total 0 y with h3 | h3
    · exact Int.mul_nonneg h3 h3
    · exact Int.mul_nonneg_of_nonpos_of_nonpos h3 h3
  omega
theorem bhAt_bd {lk : Int} {ys : List Int} (hy : inB 2048 ys) : ∀ k : Nat, 0 ≤ bhAt lk ys k ∧ bhAt lk ys k ≤ 4194304 * (k : Int)
  | 0 => by simp [bhAt]
  | k + 1 => by
    have h1 := bhAt_bd (lk := lk) hy k
    have h2 := coolF_bd lk h1.1
    have h3 := sq_bd (inB_get hy (by omega) k)
    simp only [bhAt]
    omega
theorem exAt_bd {ts ys : List Int} (h1 : inB 64 ts) (hy : inB 2048 ys) (hn : ts.length ≤ 8) (k : Nat) : -1099511627776 ≤ exAt ts ys k ∧ exAt ts ys k ≤ 1099511627776 :=
  exF_bd h1 (bpAt_in hy k) (inB_get hy (by omega) k) (by rw [bpAt_len]; omega)

set_option maxHeartbeats 4000000 in
set_option maxRecDepth 100000 in
theorem peaks_ok (lk ht rc : Int) (ts gs ys : List Int) (A1 A2 A3 : Option Addr) (c1 c2 c3 : Nat) (w : World) (hV : Valid lk ht rc ts gs) (hT : Cells w A1 ts) (hG : Cells w A2 gs) (hX : Cells w A3 ys) (hy : inB 2048 ys) (h1 : ts.length ≤ 5000) (h2 : gs.length ≤ 5000) (h3 : ys.length ≤ 5000)
    (he : runErr lk ht rc ts gs ys = 0) :
    Calls Tryz.prog 26 #[.agg #[(.int .i64 lk), (.int .i64 ht), .slice A1 ts.length c1, (.int .i64 rc), .slice A2 gs.length c2], .slice A3 ys.length c3] w fun r w' => r = .returned (.tuple #[.agg #[(.int .i64 (pkH lk ys ys.length)), (.int .i64 (pkX ts ys ys.length))], (.int .i64 0)]) ∧ Below w.heap.size w w' := by
  have HCR : Hid (∀ W, Cells W A1 ts → Cells W A2 gs → Cells W A3 ys → Calls Tryz.prog 57 #[.agg #[(.int .i64 lk), (.int .i64 ht), .slice A1 ts.length c1, (.int .i64 rc), .slice A2 gs.length c2], .slice A3 ys.length c3] W fun r w' => r = .returned (.int .i64 0) ∧ Below W.heap.size W w') := Lib.hid (fun W q1 q2 q3 => by
    have := checkRun_any lk ht rc ts gs ys A1 A2 A3 c1 c2 c3 W q1 q2 q3 h1 h2 h3
    rwa [he] at this)
  obtain ⟨M, hM⟩ : ∃ M, M = ts.length := ⟨_, rfl⟩
  obtain ⟨L, hLL⟩ : ∃ L, L = gs.length := ⟨_, rfl⟩
  obtain ⟨N, hN⟩ : ∃ N, N = ys.length := ⟨_, rfl⟩
  obtain ⟨Q, hQ⟩ : ∃ Q, Q = ts.length - 1 := ⟨_, rfl⟩
  have tl := hV.tl
  have gl := hV.gl
  have HRS : Hid (∀ W, Calls Tryz.prog 55 #[.agg #[(.int .i64 lk), (.int .i64 ht), .slice A1 M c1, (.int .i64 rc), .slice A2 L c2]] W fun r w' => (∃ B, W.heap.size ≤ B.block ∧ r = .returned (.agg #[(.int .i64 (bhAt lk ys 0)), (.int .i64 (((L - 1 : Nat) : Int))), .slice (some B) Q Q]) ∧ Cells w' (some B) (bpAt Q ys 0)) ∧ Below W.heap.size W w') := Lib.hid (fun W => by
    rw [hM, hLL, hQ]
    exact rest_any lk ht rc A1 A2 ts.length c1 gs.length c2 W (by omega) (by omega))
  have HBH : Hid (∀ (W : World) (k : Nat) (A : Option Addr) (c : Nat), k ≤ N → Cells W A1 ts → Cells W A (bpAt Q ys k) → Calls Tryz.prog 52 #[.agg #[(.int .i64 lk), (.int .i64 ht), .slice A1 M c1, (.int .i64 rc), .slice A2 L c2], .agg #[(.int .i64 (bhAt lk ys k)), (.int .i64 (((L - 1 : Nat) : Int))), .slice A Q c], (.int .i64 (ys.getD k 0))] W fun r w' =>
      (∃ B, W.heap.size ≤ B.block ∧ r = .returned (.tuple #[.agg #[(.int .i64 (bhAt lk ys (k + 1))), (.int .i64 (((L - 1 : Nat) : Int))), .slice (some B) Q Q], (.int .i64 (exAt ts ys k))]) ∧ Cells w' (some B) (bpAt Q ys (k + 1))) ∧ Below W.heap.size W w') := Lib.hid (fun W k A c q0 q1 q2 => by
    have e := bpAt_len Q ys k
    have hb := bhAt_bd (lk := lk) hy k
    have := behind_any lk ht rc (bhAt lk ys k) ((L - 1 : Nat) : Int) (ys.getD k 0) ts (bpAt Q ys k) A1 A2 A c1 L c2 c W hV.lk (by omega) q1 q2 (by omega) (by omega) hV.tb (bpAt_in hy k) (inB_get hy (by omega) k)
    rw [e, ← hM] at this
    unfold exAt
    rw [← hQ]
    exact this)
  have HXB : Hid (∀ k, -1099511627776 ≤ exAt ts ys k ∧ exAt ts ys k ≤ 1099511627776) := Lib.hid (fun k => exAt_bd hV.tb hy tl.2 k)
  have HT := Lib.hid hT
  have HG := Lib.hid hG
  have HX := Lib.hid hX
  have HN := Lib.hid hN
  have HQL : Hid (∀ k, (bpAt Q ys k).length = Q) := Lib.hid (fun k => bpAt_len Q ys k)
  rw [← hM, ← hLL, ← hN] at HCR
  rw [← hM, ← hLL, ← hN]
  rw [← hN] at h3
  obtain ⟨L1, hL1⟩ : ∃ L1 : Int, L1 = ((L - 1 : Nat) : Int) := ⟨_, rfl⟩
  rw [← hL1] at HRS HBH
  clear hM hLL hN hQ hT hG hX hV hy he h1 h2 tl gl hL1
  have hmax := max2_any
  go_enter Tryz.func26, Tryz.ntmps26
  go_wp2_with (first
    | (go_at_call 57; refine (HCR.out _ (HT.out.below (by (repeat (first | (with_reducible exact Below.refl _ _) | ((with_reducible refine Below.setCell ?_ ?_ _); rotate_left 1; focus (first | (simp; done) | (simp; omega) | (simp at *; omega))) | ((with_reducible refine Below.alloc ?_ ?_ _); rotate_left 1; focus (first | (simp; done) | (simp; omega) | (simp at *; omega))) | (with_reducible refine Below.drew ?_) | ((with_reducible refine Calm.step (by assumption) ?_ ?_); rotate_left 1; focus (first | (simp; done) | (simp; omega) | (simp at *; omega))))))) (HG.out.below (by (repeat (first | (with_reducible exact Below.refl _ _) | ((with_reducible refine Below.setCell ?_ ?_ _); rotate_left 1; focus (first | (simp; done) | (simp; omega) | (simp at *; omega))) | ((with_reducible refine Below.alloc ?_ ?_ _); rotate_left 1; focus (first | (simp; done) | (simp; omega) | (simp at *; omega))) | (with_reducible refine Below.drew ?_) | ((with_reducible refine Calm.step (by assumption) ?_ ?_); rotate_left 1; focus (first | (simp; done) | (simp; omega) | (simp at *; omega))))))) (HX.out.below (by (repeat (first | (with_reducible exact Below.refl _ _) | ((with_reducible refine Below.setCell ?_ ?_ _); rotate_left 1; focus (first | (simp; done) | (simp; omega) | (simp at *; omega))) | ((with_reducible refine Below.alloc ?_ ?_ _); rotate_left 1; focus (first | (simp; done) | (simp; omega) | (simp at *; omega))) | (with_reducible refine Below.drew ?_) | ((with_reducible refine Calm.step (by assumption) ?_ ?_); rotate_left 1; focus (first | (simp; done) | (simp; omega) | (simp at *; omega)))))))).mono ?_; rintro r w1 ⟨rfl, hb1⟩; have HB1 := Lib.hid (show Below w.heap.size w w1 from Below.trans (by (repeat (first | (with_reducible exact Below.refl _ _) | ((with_reducible refine Below.setCell ?_ ?_ _); rotate_left 1; focus (first | (simp; done) | (simp; omega) | (simp at *; omega))) | ((with_reducible refine Below.alloc ?_ ?_ _); rotate_left 1; focus (first | (simp; done) | (simp; omega) | (simp at *; omega))) | (with_reducible refine Below.drew ?_) | ((with_reducible refine Calm.step (by assumption) ?_ ?_); rotate_left 1; focus (first | (simp; done) | (simp; omega) | (simp at *; omega)))))) (hb1.mono (by simp; try omega))); have K0 : Blk w1 w.heap.size #[(.int .i64 lk), (.int .i64 ht), .slice A1 M c1, (.int .i64 rc), .slice A2 L c2] := Blk.below (by (repeat (first | ((with_reducible refine Blk.at_ ?_); focus (first | rfl | (simp; done) | (simp; omega))) | (with_reducible refine Blk.alloc ?_ _) | (with_reducible refine Blk.below ?_ (by with_reducible assumption)) | (with_reducible refine Blk.drew ?_)))) hb1; have K1 : Blk w1 (w.heap.size + 1) #[(.int .i64 0), (.int .i64 0)] := Blk.below (by (repeat (first | ((with_reducible refine Blk.at_ ?_); focus (first | rfl | (simp; done) | (simp; omega))) | (with_reducible refine Blk.alloc ?_ _) | (with_reducible refine Blk.below ?_ (by with_reducible assumption)) | (with_reducible refine Blk.drew ?_)))) hb1; obtain ⟨c00, c01, c02, c03, c04, l0, f0⟩ := K0.o5; have HK0 := Lib.hid K0; have HK1 := Lib.hid K1; have hl1 := K1.lt; have hl0' : w.heap.size < w1.heap.size + 1 := (by omega); clear hb1 K0 K1)
    | (go_at_call 55; refine (HRS.out _).mono ?_; rintro r w2 ⟨⟨B, hBb, rfl, hC2⟩, hb2⟩; refine Hid.out ?_))
  have hs2 := hb2.size
  simp only [World.size_alloc] at hs2 hBb
  have KT2 : Blk w2 w1.heap.size #[(.int .i64 0), (.int .i64 0)] := (Blk.new w1 _ _).below hb2
  have HKT2 := Lib.hid KT2
  have HK02 := Lib.hid ((HK0.out.alloc (.cells #[(.int .i64 0), (.int .i64 0)] 62)).below hb2)
  have HK12 := Lib.hid ((HK1.out.alloc (.cells #[(.int .i64 0), (.int .i64 0)] 62)).below hb2)
  have HB2 : Hid (Below w.heap.size w w2) := Lib.hid ((HB1.out.alloc (by omega) _).trans (hb2.mono (by simp; omega)))
  have HC2 := Lib.hid hC2
  clear hb2 hC2 KT2 HB1 HK0 HK1 c00 c01 c02 c03 c04 l0 f0 hl0'
  unfold Hid
  go_wp2
  go_loopw [25] (fun i wr => ∃ (k : Nat) (A : Option Addr) (c : Nat), k ≤ N ∧ i = (.int .i64 ((k : Int))) ∧ Blk wr w.heap.size #[(.int .i64 lk), (.int .i64 ht), .slice A1 M c1, (.int .i64 rc), .slice A2 L c2] ∧ Blk wr (w.heap.size + 1) #[(.int .i64 0), (.int .i64 0)] ∧ Blk wr w1.heap.size #[(.int .i64 (pkH lk ys k)), (.int .i64 (pkX ts ys k))] ∧
      Blk wr w2.heap.size #[(.int .i64 (bhAt lk ys k)), (.int .i64 L1), .slice A Q c] ∧ Cells wr A (bpAt Q ys k) ∧ (0 < Q → ∀ p, A = some p → p.block ≠ w1.heap.size ∧ p.block ≠ w2.heap.size) ∧ Below w.heap.size w wr) (fun i _ => N - (intOf i).toNat)
  case atStart =>
    exact ⟨0, some B, Q, Nat.zero_le _, rfl, HK02.out.alloc _, HK12.out.alloc _, HKT2.out.alloc _, Blk.new _ _ _, HC2.out.below ((Below.refl _ _).alloc (Nat.le_refl _) _), fun h0 p hp => by
      obtain ⟨b, off, hA, hl, _⟩ := HC2.out (by rw [HQL.out]; exact h0)
      cases hp; cases hA
      have : w1.heap.size + 1 ≤ b := hBb
      exact ⟨by show b ≠ _; omega, by show b ≠ _; omega⟩, HB2.out.alloc HB2.out.size _⟩
  case round =>
    clear HKT2 HK02 HK12
    obtain ⟨k, A, c, hk, rfl, K0, K1, KT, KS, hCA, hAne, hB⟩ := hrel
    have HCA := Lib.hid hCA
    have HB := Lib.hid hB
    have hsz := hB.size
    clear hCA
    by_cases hlt : k < N
    · obtain ⟨b3, o3, rfl, l3, k3⟩ := HX.out (by rw [← HN.out]; omega)
      have x3 := (hB.cell (p := ⟨b3, o3 + k, none⟩) l3).trans (k3 k (by rw [← HN.out]; exact hlt))
      have HTr := Lib.hid (HT.out.below hB)
      have HS1 := HBH.out wr k A c hk HTr.out HCA.out
      have hxb := HXB.out k
      have HPH : Hid (pkH lk ys (k + 1) = mx (pkH lk ys k) (bhAt lk ys (k + 1))) := Lib.hid rfl
      have HPX : Hid (pkX ts ys (k + 1) = mx (pkX ts ys k) (absI (exAt ts ys k))) := Lib.hid rfl
      obtain ⟨X, hX⟩ : ∃ X, X = exAt ts ys k := ⟨_, rfl⟩
      obtain ⟨y, hy⟩ : ∃ y, y = ys.getD k 0 := ⟨_, rfl⟩
      obtain ⟨h', hh'⟩ : ∃ h', h' = bhAt lk ys (k + 1) := ⟨_, rfl⟩
      obtain ⟨ph, hph⟩ : ∃ ph, ph = pkH lk ys k := ⟨_, rfl⟩
      obtain ⟨px, hpx⟩ : ∃ px, px = pkX ts ys k := ⟨_, rfl⟩
      rw [← hX, ← hy, ← hh'] at HS1
      rw [← hX] at hxb HPX
      rw [← hh', ← hph] at HPH
      rw [← hpx] at HPX
      rw [← hy] at x3
      rw [← hph, ← hpx] at KT
      have HHE := Lib.hid hh'
      have HSS := Lib.hid HS1
      obtain ⟨xb1, xb2⟩ := hxb
      obtain ⟨c00, c01, c02, c03, c04, l0, f0⟩ := K0.o5
      obtain ⟨t0, t1, tl, tf⟩ := KT.o2
      obtain ⟨s0, s1, s2, sl, sf⟩ := KS.o3
      have HK0 := Lib.hid K0
      have HK1 := Lib.hid K1
      have HKT := Lib.hid KT
      have HKS := Lib.hid KS
      have HANE := Lib.hid hAne
      have hw2r : w2.heap.size < wr.heap.size := sl
      clear k3 hX hy hh' hph hpx HS1 K0 K1 KT KS hB hAne
      go_wp2_with (go_at_call 52; refine HSS.out.mono ?_; rintro r w3 ⟨⟨B2, hBb2, rfl, hC3⟩, hb3⟩; have hs3 := hb3.size; have HC3 := Lib.hid hC3; have HB3 := Lib.hid hb3; clear hC3 hb3)
      refine name_world ?_
      intro w4 e4
      have hN4 : w3.heap.size < w4.heap.size := by rw [e4]; simp
      have hb4 : Below w3.heap.size w3 w4 := by rw [e4]; exact (Below.refl _ _).alloc (Nat.le_refl _) _
      have KN : Blk w4 w3.heap.size #[(.int .i64 h'), (.int .i64 L1), .slice (some B2) Q Q] := by rw [e4]; exact Blk.new _ _ _
      have HK04 := Lib.hid ((HK0.out.below HB3.out).below hb4)
      have HK14 := Lib.hid ((HK1.out.below HB3.out).below hb4)
      have HKT4 := Lib.hid ((HKT.out.below HB3.out).below hb4)
      have HKS4 := Lib.hid ((HKS.out.below HB3.out).below hb4)
      have HKN4 := Lib.hid KN
      have HC4 := Lib.hid (HC3.out.below hb4)
      have HBA4 := Lib.hid (HB.out.trans ((HB3.out.trans (hb4.mono hs3)).mono hsz))
      obtain ⟨n0, n1, n2, nl, nf⟩ := KN.o3
      obtain ⟨tt0, tt1, ttl, ttf⟩ := HKT4.out.o2
      clear e4 hb4 KN HK0 HK1 HKT HKS HC3 HB3 HB HSS c00 c01 c02 c03 c04 l0 f0 t0 t1 tl tf s0 s1 s2 sl sf x3
      refine Rel.region3 12 (by kernel_rfl) (by kernel_rfl) (by kernel_rfl) ?_
      simp only [List.take_succ_cons, List.take_zero, List.drop_succ_cons, List.drop_zero, List.filterMap_cons, List.filterMap_nil]
      iterate 8 (apply Rel.op3; (focus (first | exact Rel.gno rfl | exact Rel.gyes _ true _ rfl rfl rfl | exact Rel.gyes _ false _ rfl rfl rfl)); (focus (intro a W hb hd hbase; obtain ⟨hc, hf⟩ := bcell hb; clear hb hf; simp [Rel.deps, Rel.dep1, Rel.ons, Region.binds, Act.eval] at hd; simp only [Act.eval, List.mem_cons, List.not_mem_nil, not_or, and_imp, or_false, Array.getD_eq_getD_getElem?] at hbase; go_simp; (try go_bits); (try rfl); done)); (try simp only [List.nil_append, List.cons_append]))
      (apply Rel.call3; (focus (first | exact Rel.gno rfl | exact Rel.gyes _ true _ rfl rfl rfl | exact Rel.gyes _ false _ rfl rfl rfl)); (focus (intro a W hb hd hbase; obtain ⟨hc, hf⟩ := bcell hb; clear hb hf; simp [Rel.deps, Rel.dep1, Rel.ons, Region.binds, Act.eval] at hd; simp only [Act.eval, List.mem_cons, List.not_mem_nil, not_or, and_imp, or_false, Array.getD_eq_getD_getElem?] at hbase; go_simp; refine ⟨?_, ?_⟩; rfl; rfl)); (focus (intro W hb; go_at_call 59; exact (abs_any _ _ ⟨by omega, by omega⟩).mono (fun _ _ ⟨he, h2⟩ => ⟨he, h2 ▸ Below.refl _ _⟩))); (try simp only [List.nil_append, List.cons_append]))
      iterate 2 (apply Rel.op3; (focus (first | exact Rel.gno rfl | exact Rel.gyes _ true _ rfl rfl rfl | exact Rel.gyes _ false _ rfl rfl rfl)); (focus (intro a W hb hd hbase; obtain ⟨hc, hf⟩ := bcell hb; clear hb hf; simp [Rel.deps, Rel.dep1, Rel.ons, Region.binds, Act.eval] at hd; simp only [Act.eval, List.mem_cons, List.not_mem_nil, not_or, and_imp, or_false, Array.getD_eq_getD_getElem?] at hbase; go_simp; (try go_bits); (try rfl); done)); (try simp only [List.nil_append, List.cons_append]))
      (apply Rel.alloc3 62 #[(.int .i64 0), (.int .i64 0)]; (focus (exact Rel.gno rfl)); (focus (intro a W; go_simp)); (try simp only [List.nil_append, List.cons_append]))
      refine Rel.done3 ?_
      intro x w5 hb5 hx
      simp only [Rel.facts, Nat.zero_add, Nat.reduceAdd] at hx
      obtain ⟨e0, e1, e2, e3, e4, e5, e6, e7, e8, e9, e10, ⟨g, e11, hg, hKg⟩, _⟩ := hx
      simp only [Rel.fill, Nat.zero_add, Nat.reduceAdd, e0, e1, e2, e3, e4, e5, e6, e7, e8, e9, e10, e11]
      simp only [Act.put, List.setIfInBounds_toArray, List.set_cons_zero, List.set_cons_succ]
      have HK05 := Lib.hid (HK04.out.below hb5)
      have HK15 := Lib.hid (HK14.out.below hb5)
      have HKT5 := Lib.hid (HKT4.out.below hb5)
      have HKS5 := Lib.hid (HKS4.out.below hb5)
      have HKN5 := Lib.hid (HKN4.out.below hb5)
      have HC5 := Lib.hid (HC4.out.below hb5)
      have HBg : Hid (0 < (bpAt Q ys (k + 1)).length → B2.block < g ∧ wr.heap.size ≤ B2.block) := Lib.hid (fun h0 => by
        obtain ⟨b, off, hA, hl, _⟩ := HC4.out h0
        cases hA
        exact ⟨Nat.lt_of_lt_of_le hl hg, hBb2⟩)
      have HBA5 := Lib.hid (HBA4.out.trans (hb5.mono HBA4.out.size))
      have HKG := Lib.hid hKg
      clear e0 e1 e2 e3 e4 e5 e6 e7 e8 e9 e10 e11 hb5 HK04 HK14 HKT4 HKS4 HKN4 HC4 HBA4 n0 n1 n2 nl nf tt0 tt1 ttl ttf hKg
      rw [← HPH.out, ← HPX.out]
      obtain ⟨ph', hph'⟩ : ∃ ph', ph' = pkH lk ys (k + 1) := ⟨_, rfl⟩
      obtain ⟨px', hpx'⟩ : ∃ px', px' = pkX ts ys (k + 1) := ⟨_, rfl⟩
      rw [← hph', ← hpx']
      have HPH' := Lib.hid hph'
      have HPX' := Lib.hid hpx'
      clear hph' hpx'
      obtain ⟨q0, q1, ql, qf⟩ := HKG.out.o2
      obtain ⟨t0, t1, tl, tf⟩ := HKT5.out.o2
      obtain ⟨n0, n1, n2, nl, nf⟩ := HKN5.out.o3
      obtain ⟨s0, s1, s2, sl, sf⟩ := HKS5.out.o3
      have q12 : ¬ w1.heap.size = w2.heap.size := by omega
      have q13 : ¬ w1.heap.size = w3.heap.size := by omega
      have q1g : ¬ w1.heap.size = g := by omega
      have q21 : ¬ w2.heap.size = w1.heap.size := by omega
      have q23 : ¬ w2.heap.size = w3.heap.size := by omega
      have q2g : ¬ w2.heap.size = g := by omega
      have q31 : ¬ w3.heap.size = w1.heap.size := by omega
      have q32 : ¬ w3.heap.size = w2.heap.size := by omega
      have q3g : ¬ w3.heap.size = g := by omega
      have qg1 : ¬ g = w1.heap.size := by omega
      have qg2 : ¬ g = w2.heap.size := by omega
      have qg3 : ¬ g = w3.heap.size := by omega
      have qwg : ¬ g = w.heap.size := by omega
      by_cases hE : ph' = ph ∧ px' = px
      · obtain ⟨e1, e2⟩ := hE
        subst e1
        subst e2
        go_wp2
        go_roundw
        case rel =>
          refine ⟨k + 1, some B2, Q, by omega, by go_num, ?_, ?_, ?_, ?_, ?_, fun _ p hp => by cases hp; omega, ?_⟩
          · (repeat (refine Calm.Blk.far ?_ (by first | assumption | (simp; omega)) _)); exact HK05.out
          · (repeat (refine Calm.Blk.far ?_ (by first | assumption | (simp; omega)) _)); exact HK15.out
          · rw [← HPH'.out, ← HPX'.out]
            (repeat (refine Calm.Blk.far ?_ (by first | assumption | (simp; omega)) _))
            exact HKT5.out
          · rw [← HHE.out]
            refine Calm.Blk.set3 (u0 := (.int .i64 (bhAt lk ys k))) (u1 := (.int .i64 L1)) (u2 := .slice A Q c) ?_ _ _ _
            (repeat (refine Calm.Blk.far ?_ (by first | assumption | (simp; omega)) _)); exact HKS5.out
          · repeat (refine Cells.sets ?_ (fun h0 p hp => by cases hp; have := HBg.out h0; omega) _ _)
            exact HC5.out
          · repeat (refine Below.setCell ?_ (by simp; omega) _)
            exact HBA5.out
        case measure => simp [intOf]; omega
      · have hE1 : ph' = ph → ¬ px' = px := fun h h' => hE ⟨h, h'⟩
        have HE1 := Lib.hid hE1
        clear hE hE1
        go_wp2
        all_goals (try (exact absurd (by first | assumption | rfl) (HE1.out (by first | assumption | rfl))))
        all_goals (
          go_roundw
          case rel =>
            refine ⟨k + 1, some B2, Q, by omega, by go_num, ?_, ?_, ?_, ?_, ?_, fun _ p hp => by cases hp; omega, ?_⟩
            · (repeat (refine Calm.Blk.far ?_ (by first | assumption | (simp; omega)) _)); exact HK05.out
            · (repeat (refine Calm.Blk.far ?_ (by first | assumption | (simp; omega)) _)); exact HK15.out
            · rw [← HPH'.out, ← HPX'.out]
              (repeat (refine Calm.Blk.far ?_ (by first | assumption | (simp; omega)) _))
              first
                | (refine Calm.Blk.set2 (u0 := (.int .i64 ph)) (u1 := (.int .i64 px)) ?_ _ _; (repeat (refine Calm.Blk.far ?_ (by first | assumption | (simp; omega)) _)); exact HKT5.out)
                | (rw [show ph' = ph by assumption]; refine Calm.Blk.set2 (u0 := (.int .i64 ph)) (u1 := (.int .i64 px)) ?_ _ _; (repeat (refine Calm.Blk.far ?_ (by first | assumption | (simp; omega)) _)); exact HKT5.out)
                | (rw [show px' = px by assumption]; refine Calm.Blk.set2 (u0 := (.int .i64 ph)) (u1 := (.int .i64 px)) ?_ _ _; (repeat (refine Calm.Blk.far ?_ (by first | assumption | (simp; omega)) _)); exact HKT5.out)
            · rw [← HHE.out]
              refine Calm.Blk.set3 (u0 := (.int .i64 (bhAt lk ys k))) (u1 := (.int .i64 L1)) (u2 := .slice A Q c) ?_ _ _ _
              (repeat (refine Calm.Blk.far ?_ (by first | assumption | (simp; omega)) _)); exact HKS5.out
            · repeat (refine Cells.sets ?_ (fun h0 p hp => by cases hp; have := HBg.out h0; omega) _ _)
              exact HC5.out
            · repeat (refine Below.setCell ?_ (by simp; omega) _)
              exact HBA5.out
          case measure => simp [intOf]; omega)
    · obtain rfl : k = N := by omega
      have HKT := Lib.hid KT
      obtain ⟨t0, t1, tl, tf⟩ := KT.o2
      obtain ⟨r0, r1, rl, rf⟩ := K1.o2
      have qa : ¬ w1.heap.size = w.heap.size + 1 := by omega
      have HK1 := Lib.hid K1
      clear KT K0 K1 KS
      go_wp2
      have KR := HK1.out.set2 (.int .i64 (pkH lk ys k)) (.int .i64 (pkX ts ys k))
      obtain ⟨y0, y1, yl, yf⟩ := KR.o2
      clear r0 r1 rl rf KR
      exact bodyPost_ret (v := .tuple #[.agg #[(.int .i64 (pkH lk ys k)), (.int .i64 (pkX ts ys k))], (.int .i64 0)]) (by simp [results, Tryz.results26, go_sem, y0, y1]) rfl ⟨rfl, (HB.out.setCell (by simp) _).setCell (by simp) _⟩
end Go.Proofs.YtdeapbihbhoefaaGreatDoor
