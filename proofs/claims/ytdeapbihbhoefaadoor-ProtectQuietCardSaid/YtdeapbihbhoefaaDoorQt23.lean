/- Part 23 of the texts of the claim: RunC, N3. -/
import Derived.Test.YtdeapbihbhoefaaDoorQt7
import Derived.Test.YtdeapbihbhoefaaDoorQt22
import Derived.Test.YtdeapbihbhoefaaDoorQt16

/- Run, once more: the slice of its outputs has room for them. -/
namespace Go.Proofs.YtdeapbihbhoefaaDoor
open Go.RowKit
open Calm (bcell Blk)
theorem own_cap {W : World} {base n c : Nat} {e : TypeId} {B : Option Addr} {zs : List Value} (h : W.ownsRow base e 1 (.slice B n c) n zs) : n ≤ c ∧ c ≤ maxLen := by
  rcases h.2 with ⟨h1, h2⟩ | ⟨g, cap, cur, h1, h2, h3, h4, h5, h6, h7⟩
  · cases h1
    exact ⟨Nat.le_refl _, Nat.zero_le _⟩
  · cases h1
    exact ⟨h4, h5⟩
set_option maxHeartbeats 4000000 in
set_option maxRecDepth 100000 in
theorem run_cap (lk ht rc : Int) (ts gs xs : List Int) (A1 A2 A3 : Option Addr) (c1 c2 c3 : Nat) (w : World) (hL : Lim w) (hV : Valid lk ht rc ts gs) (hT : Cells w A1 ts) (hG : Cells w A2 gs) (hX : Cells w A3 xs) (hx : inB 2048 xs) (hn : xs.length ≤ 5000) :
    Calls Tryd.prog 87 #[.agg #[(.int .i64 (lk)), (.int .i64 (ht)), .slice A1 ts.length c1, (.int .i64 (rc)), .slice A2 gs.length c2], .slice A3 xs.length c3] w fun r w' => (∃ B1 d1 B2 d2, r = .returned (.tuple #[.slice B1 xs.length d1, .slice B2 xs.length d2]) ∧ Cells w' B1 (outsK lk ht rc ts gs xs xs.length) ∧ Cells w' B2 (lvsK lk ht rc ts gs xs xs.length) ∧ xs.length ≤ d1 ∧ d1 ≤ maxLen) ∧ Below w.heap.size w w' := by
  obtain ⟨M, hM⟩ : ∃ M, M = ts.length := ⟨_, rfl⟩
  obtain ⟨L, hLL⟩ : ∃ L, L = gs.length := ⟨_, rfl⟩
  obtain ⟨N, hN⟩ : ∃ N, N = xs.length := ⟨_, rfl⟩
  obtain ⟨Q, hQ⟩ : ∃ Q, Q = ts.length - 1 := ⟨_, rfl⟩
  have HGD := Lib.hid (good_at hV hx)
  have HRS : Hid (∀ W, Calls Tryd.prog 69 #[.agg #[(.int .i64 (lk)), (.int .i64 (ht)), .slice A1 M c1, (.int .i64 (rc)), .slice A2 L c2]] W fun r w' => (∃ B, W.heap.size ≤ B.block ∧ r = .returned (.agg #[(.int .i64 ((stAt lk ht rc ts gs xs 0).h)), (.int .i64 (((stAt lk ht rc ts gs xs 0).lv : Int))), .slice (some B) Q Q]) ∧ Cells w' (some B) (stAt lk ht rc ts gs xs 0).ps) ∧ Below W.heap.size W w') := Lib.hid (fun W => by
    have h1 := hV.tl
    have h2 := hV.gl
    rw [hM, hLL, hQ]
    exact rest_any lk ht rc A1 A2 ts.length c1 gs.length c2 W (by omega) (by omega))
  have HST : Hid (∀ (W : World) (k : Nat) (A : Option Addr) (c : Nat), Lim W → Cells W A1 ts → Cells W A2 gs → Cells W A (stAt lk ht rc ts gs xs k).ps → Calls Tryd.prog 81 #[.agg #[(.int .i64 (lk)), (.int .i64 (ht)), .slice A1 M c1, (.int .i64 (rc)), .slice A2 L c2], .agg #[(.int .i64 ((stAt lk ht rc ts gs xs k).h)), (.int .i64 (((stAt lk ht rc ts gs xs k).lv : Int))), .slice A Q c], (.int .i64 (xs.getD k 0))] W fun r w' =>
      (∃ B, W.heap.size ≤ B.block ∧ r = .returned (.tuple #[(.int .i64 (outAt lk ht rc ts gs xs k)), .agg #[(.int .i64 ((stAt lk ht rc ts gs xs (k + 1)).h)), (.int .i64 (((stAt lk ht rc ts gs xs (k + 1)).lv : Int))), .slice (some B) Q Q]]) ∧ Cells w' (some B) (stAt lk ht rc ts gs xs (k + 1)).ps) ∧ Below W.heap.size W w') := Lib.hid (fun W k A c q1 q2 q3 q4 => by
    have hg := HGD.out k
    have e : Q = (stAt lk ht rc ts gs xs k).ps.length := by have := hg.pl; omega
    have h1 := hV.tl
    have h2 := hV.gl
    have h3 := hg.h
    have h4 := hV.ht
    rw [hM, hLL, e]
    exact step_any lk ht rc (stAt lk ht rc ts gs xs k).h (xs.getD k 0) (stAt lk ht rc ts gs xs k).lv ts (stAt lk ht rc ts gs xs k).ps gs A1 A2 A c1 c2 c W _ q1 hV.lk (by omega) q2 q3 q4 hg.pl (by have := hg.pl; omega) (by omega) (by omega) hg.lv hV.tb hg.pb hV.gb (inB_get hx (by omega) k) (lvF_some hV hg _))
  have HT := Lib.hid hT
  have HG := Lib.hid hG
  have HX := Lib.hid hX
  have HL := Lib.hid hL
  have HQ : Hid (∀ k, (stAt lk ht rc ts gs xs k).ps.length = Q) := Lib.hid (fun k => by have := (HGD.out k).pl; omega)
  have HN := Lib.hid hN
  rw [← hM, ← hLL, ← hN]
  rw [← hN] at hn
  clear hM hLL hN hQ hT hG hX hL hV hx
  go_enter Tryd.func87, Tryd.ntmps87
  go_wp2_with (go_at_call 69; refine (HRS.out _).mono ?_; rintro r w1 ⟨⟨B, hBb, rfl, hC1⟩, hb1⟩; refine Hid.out ?_)
  have HB1 := Lib.hid hb1
  have HC1 := Lib.hid hC1
  have K0 : Blk w1 w.heap.size #[(.int .i64 (lk)), (.int .i64 (ht)), .slice A1 M c1, (.int .i64 (rc)), .slice A2 L c2] := Blk.below (by (repeat (first | ((with_reducible refine Blk.at_ ?_); focus (first | rfl | (simp; done) | (simp; omega))) | (with_reducible refine Blk.alloc ?_ _) | (with_reducible refine Blk.below ?_ (by with_reducible assumption)) | (with_reducible refine Blk.drew ?_)))) hb1
  have hs1 := hb1.size
  simp only [World.size_alloc] at hs1
  have HB1' : Hid (Below w.heap.size w w1) := Lib.hid (Below.trans (by (repeat (first | (with_reducible exact Below.refl _ _) | ((with_reducible refine Below.setCell ?_ ?_ _); rotate_left 1; focus (first | (simp; done) | (simp; omega) | (simp at *; omega))) | ((with_reducible refine Below.alloc ?_ ?_ _); rotate_left 1; focus (first | (simp; done) | (simp; omega) | (simp at *; omega))) | (with_reducible refine Below.drew ?_) | ((with_reducible refine Calm.step (by assumption) ?_ ?_); rotate_left 1; focus (first | (simp; done) | (simp; omega) | (simp at *; omega)))))) (hb1.mono (by simp)))
  have HK0 := Lib.hid K0
  clear hb1 hC1 K0 HB1
  unfold Hid
  go_wp2
  go_loopw [6, 7, 17] (fun v1 v2 i wr => ∃ (k : Nat) (A : Option Addr) (c : Nat), k ≤ N ∧ i = (.int .i64 ((k : Int))) ∧ Rows wr (w1.heap.size + 1) [(v1, outsK lk ht rc ts gs xs k), (v2, lvsK lk ht rc ts gs xs k)] ∧ Blk wr w.heap.size #[(.int .i64 (lk)), (.int .i64 (ht)), .slice A1 M c1, (.int .i64 (rc)), .slice A2 L c2] ∧
      Blk wr w1.heap.size #[(.int .i64 ((stAt lk ht rc ts gs xs k).h)), (.int .i64 (((stAt lk ht rc ts gs xs k).lv : Int))), .slice A Q c] ∧ Cells wr A (stAt lk ht rc ts gs xs k).ps ∧ (0 < Q → ∀ p, A = some p → p.block ≠ w1.heap.size) ∧ Below w.heap.size w wr) (fun _ _ i _ => N - (intOf i).toNat)
  case atStart =>
    exact ⟨0, some B, Q, Nat.zero_le _, rfl, Rows.nil2 _ _, HK0.out.alloc _, Blk.new _ _ _, HC1.out.below ((Below.refl _ _).alloc (Nat.le_refl _) _), fun h0 p hp => by
      obtain ⟨b, off, hA, hl, _⟩ := HC1.out (by rw [HQ.out]; exact h0)
      cases hp; cases hA
      show b ≠ _
      omega, HB1'.out.alloc (by omega) _⟩
  case round =>
    clear HK0
    obtain ⟨k, A, c, hk, rfl, hR, K0, K8, hCA, hAne, hB⟩ := hrel
    have HR := Lib.hid hR
    have HCA := Lib.hid hCA
    have HB := Lib.hid hB
    have hsz := hB.size
    clear hR hCA
    by_cases hlt : k < N
    · obtain ⟨b3, o3, rfl, l3, k3⟩ := HX.out (by rw [← HN.out]; omega)
      have x3 := (hB.cell (p := ⟨b3, o3 + k, none⟩) l3).trans (k3 k (by rw [← HN.out]; exact hlt))
      have HLr := Lib.hid (HL.out.below hB)
      have HTr := Lib.hid (HT.out.below hB)
      have HGr := Lib.hid (HG.out.below hB)
      have HS1 := HST.out wr k A c HLr.out HTr.out HGr.out HCA.out
      have HO := Lib.hid (outsK_succ lk ht rc ts gs xs k)
      have HLV := Lib.hid (lvsK_succ lk ht rc ts gs xs k)
      have hrow : ∀ j, (u6.ownBlock = some j ∨ u7.ownBlock = some j) → j < wr.heap.size := fun j hj => by
        rcases hj with hj | hj
        · exact ((HR.out.1 (u6, outsK lk ht rc ts gs xs k) (by simp)).lt j hj).2
        · exact ((HR.out.1 (u7, lvsK lk ht rc ts gs xs k) (by simp)).lt j hj).2
      have hlv : (stAt lk ht rc ts gs xs (k + 1)).lv = lvAt lk ht rc ts gs xs k := rfl
      rw [hlv] at HS1
      obtain ⟨X, hX⟩ : ∃ X, X = xs.getD k 0 := ⟨_, rfl⟩
      obtain ⟨Y, hY⟩ : ∃ Y, Y = outAt lk ht rc ts gs xs k := ⟨_, rfl⟩
      obtain ⟨V, hV⟩ : ∃ V, V = lvAt lk ht rc ts gs xs k := ⟨_, rfl⟩
      rw [← hX, ← hY, ← hV] at HS1
      rw [← hX] at x3
      have HY := Lib.hid hY
      have HV := Lib.hid hV
      have HLVE := Lib.hid hlv
      have HSS := Lib.hid HS1
      obtain ⟨c00, c01, c02, c03, c04, l0, f0⟩ := K0.o5
      obtain ⟨c10, c11, c12, l10, f1⟩ := K8.o3
      have hw1r : w1.heap.size < wr.heap.size := l10
      have HK0 := Lib.hid K0
      have HK8 := Lib.hid K8
      have HROW := Lib.hid hrow
      have HANE := Lib.hid hAne
      clear k3 hX hY hV hlv HS1 K0 K8 hB hrow hAne
      go_wp2_with (go_at_call 81; refine HSS.out.mono ?_; rintro r w2 ⟨⟨B2, hBb2, rfl, hC2⟩, hb2⟩; have hs2 := hb2.size; have HC2 := Lib.hid hC2; have HB2 := Lib.hid hb2; clear hC2 hb2)
      refine name_world ?_
      intro w4 e4
      have hN4 : w2.heap.size < w4.heap.size := by rw [e4]; simp
      have hb4 : Below w2.heap.size w2 w4 := by rw [e4]; exact (Below.refl _ _).alloc (Nat.le_refl _) _
      have hR4 := (HR.out.below HB2.out).below hb4
      have KN : Blk w4 w2.heap.size #[(.int .i64 ((stAt lk ht rc ts gs xs (k + 1)).h)), (.int .i64 ((V : Int))), .slice (some B2) Q Q] := by rw [e4]; exact Blk.new _ _ _
      have HK04 := Lib.hid ((HK0.out.below HB2.out).below hb4)
      have HK84 := Lib.hid ((HK8.out.below HB2.out).below hb4)
      have HC4 := Lib.hid (HC2.out.below hb4)
      have HCL : Hid (0 < Q → B2.block < w4.heap.size) := Lib.hid (fun h0 => by
        obtain ⟨b, off, hA, hl, _⟩ := HC4.out (by rw [HQ.out]; exact h0)
        cases hA; exact hl)
      have HBA4 := Lib.hid (HB.out.trans ((HB2.out.trans (hb4.mono hs2)).mono hsz))
      have hsb : w1.heap.size + 1 ≤ w4.heap.size := by omega
      obtain ⟨T, R1, R2, t0, t1, t2, p1, p2, pf⟩ := pair_grw (w1.heap.size + 1) u6 u7 _ _ [] Y (V : Int) w4 hR4 hsb (by rw [outsK_len]; omega) (by rw [lvsK_len]; omega)
      have T0 := Lib.hid t0
      have T1 := Lib.hid t1
      have T2 := Lib.hid t2
      have P1 := Lib.hid p1
      have P2 := Lib.hid p2
      have PF := Lib.hid pf
      clear t0 t1 t2 p1 p2 pf hR4
      have hnT : ∀ j, wr.heap.size ≤ j → ∀ o, ¬ T j o := fun j hj o ho => by
        have := HROW.out j (T0.out j o ho).2
        omega
      have HNT := Lib.hid hnT
      have hTC : Hid (∀ W, Grw T w4 W → (∀ o, W.cell? ⟨w2.heap.size, o, none⟩ = w4.cell? ⟨w2.heap.size, o, none⟩) ∧ True) := Lib.hid (fun W hS => ⟨fun o => World.cell?_of_block (w := w4) (a := ⟨w2.heap.size, o, none⟩) (hS.same hN4 (hnT _ hs2)), trivial⟩)
      obtain ⟨n0, n1, n2, nl, nf⟩ := KN.o3
      clear e4 hb4 KN hnT HK0 HK8 HC2 HB2 HB HR HSS c00 c01 c02 c03 c04 l0 f0 c10 c11 c12 l10 f1 x3
      refine RelL.region3 (S := Grw T) Grw.trans Grw.drawn 12 (by kernel_rfl) (by kernel_rfl) (by kernel_rfl) ?_
      simp only [List.take_succ_cons, List.take_zero, List.drop_succ_cons, List.drop_zero, List.filterMap_cons, List.filterMap_nil]
      refine RelL.late3 Grw.refl 6 u6 rfl (by kernel_rfl) rfl (RelL.gno rfl) ?_
      (try simp only [List.nil_append, List.cons_append])
      iterate 1 (apply RelL.op3 Grw.refl; (focus (first | exact RelL.gno rfl | exact RelL.gyes _ true _ rfl rfl rfl | exact RelL.gyes _ false _ rfl rfl rfl)); (focus (intro a W x hb hd hbase; obtain ⟨hc, hf⟩ := hTC.out W hb; clear hb hf; simp [RelL.deps, RelL.dep1, Rel.ons, Region.binds, Act.eval] at hd; simp only [Act.eval, List.mem_cons, List.not_mem_nil, not_or, and_imp, or_false, Array.getD_eq_getD_getElem?] at hbase; go_simp; (try go_bits); (try rfl); done)); (try simp only [List.nil_append, List.cons_append]))
      (apply RelL.build3 (fun k o h => (T0.out k o h).1.2); (focus (first | exact RelL.gno rfl | exact RelL.gyes _ true _ rfl rfl rfl | exact RelL.gyes _ false _ rfl rfl rfl)); (focus (intro a W x hb hd hbase; obtain ⟨hc, hf⟩ := hTC.out W hb; clear hb hf; simp [RelL.deps, RelL.dep1, Rel.ons, Region.binds, Act.eval] at hd; simp only [Act.eval, List.mem_cons, List.not_mem_nil, not_or, and_imp, or_false, Array.getD_eq_getD_getElem?] at hbase; go_simp; (first | rfl | (refine ⟨⟨?_, ?_⟩, ?_⟩; rfl; rfl; rfl) | (refine ⟨?_, ?_⟩; rfl; rfl)))); (try simp only [List.nil_append, List.cons_append]))
      refine RelL.app3 (fun _ => R1) (fun _ => T1.out) RelL.loc_const (.tmp 28) (.tmp 30) 22 rfl (RelL.gno rfl) ?_ ?_
      · intro a W x hb hd hbase
        simp [RelL.deps, RelL.dep1, Rel.ons, Region.binds] at hd
        obtain ⟨⟨_, hs⟩, ⟨_, hx⟩⟩ := hd
        obtain ⟨g, hxv, _, hxk⟩ := hx
        rw [hs, hxv]
        exact P1.out W hb g 1 (hxk.cell 0 _ rfl)
      (try simp only [List.nil_append, List.cons_append])
      refine RelL.late3 Grw.refl 7 u7 rfl (by kernel_rfl) rfl (RelL.gno rfl) ?_
      (try simp only [List.nil_append, List.cons_append])
      iterate 2 (apply RelL.op3 Grw.refl; (focus (first | exact RelL.gno rfl | exact RelL.gyes _ true _ rfl rfl rfl | exact RelL.gyes _ false _ rfl rfl rfl)); (focus (intro a W x hb hd hbase; obtain ⟨hc, hf⟩ := hTC.out W hb; clear hb hf; simp [RelL.deps, RelL.dep1, Rel.ons, Region.binds, Act.eval] at hd; simp only [Act.eval, List.mem_cons, List.not_mem_nil, not_or, and_imp, or_false, Array.getD_eq_getD_getElem?] at hbase; go_simp; (try go_bits); (try rfl); done)); (try simp only [List.nil_append, List.cons_append]))
      (apply RelL.build3 (fun k o h => (T0.out k o h).1.2); (focus (first | exact RelL.gno rfl | exact RelL.gyes _ true _ rfl rfl rfl | exact RelL.gyes _ false _ rfl rfl rfl)); (focus (intro a W x hb hd hbase; obtain ⟨hc, hf⟩ := hTC.out W hb; clear hb hf; simp [RelL.deps, RelL.dep1, Rel.ons, Region.binds, Act.eval] at hd; simp only [Act.eval, List.mem_cons, List.not_mem_nil, not_or, and_imp, or_false, Array.getD_eq_getD_getElem?] at hbase; go_simp; (first | rfl | (refine ⟨⟨?_, ?_⟩, ?_⟩; rfl; rfl; rfl) | (refine ⟨?_, ?_⟩; rfl; rfl)))); (try simp only [List.nil_append, List.cons_append]))
      refine RelL.app3 (fun x => R2 (x 3)) (fun x => T2.out (x 3)) (fun x y h v W hr => by have e8 : x 3 = y 3 := h { on := 3, ground := .chain } (by simp) rfl; exact (show R2 (y 3) v W from e8 ▸ (show R2 (x 3) v W from hr))) (.tmp 32) (.tmp 35) 22 rfl (RelL.gno rfl) ?_ ?_
      · intro a W x hb hd hbase
        simp [RelL.deps, RelL.dep1, Rel.ons, Region.binds] at hd
        obtain ⟨⟨_, hs⟩, ⟨_, hx⟩, h8, hv1⟩ := hd
        obtain ⟨g, hxv, _, hxk⟩ := hx
        rw [hs, hxv, h8]
        exact P2.out W _ hb hv1 g 1 (hxk.cell 0 _ rfl)
      (try simp only [List.nil_append, List.cons_append])
      iterate 1 (apply RelL.op3 Grw.refl; (focus (first | exact RelL.gno rfl | exact RelL.gyes _ true _ rfl rfl rfl | exact RelL.gyes _ false _ rfl rfl rfl)); (focus (intro a W x hb hd hbase; obtain ⟨hc, hf⟩ := hTC.out W hb; clear hb hf; simp [RelL.deps, RelL.dep1, Rel.ons, Region.binds, Act.eval] at hd; simp only [Act.eval, List.mem_cons, List.not_mem_nil, not_or, and_imp, or_false, Array.getD_eq_getD_getElem?] at hbase; go_simp; (try go_bits); (try rfl); done)); (try simp only [List.nil_append, List.cons_append]))
      refine RelL.opW3 (fun x u _ => u = x 3) (fun _ _ _ _ h _ => h) (fun x y h v W hr => hr.trans (h { on := 3, ground := .data } (by simp) rfl)) (RelL.gno rfl) ?_ ?_
      · intro a W x hb hd hbase
        simp [RelL.deps, RelL.dep1, Rel.ons, Region.binds, Act.eval] at hd
        refine ⟨x 3, W, ?_, rfl, Grw.refl W⟩
        obtain ⟨⟨h3, _⟩, _⟩ := hd
        unfold execOp
        simp [Act.eval, h3]
      (try simp only [List.nil_append, List.cons_append])
      refine RelL.opW3 (fun x u _ => u = x 8) (fun _ _ _ _ h _ => h) (fun x y h v W hr => hr.trans (h { on := 8, ground := .data } (by simp) rfl)) (RelL.gno rfl) ?_ ?_
      · intro a W x hb hd hbase
        simp [RelL.deps, RelL.dep1, Rel.ons, Region.binds, Act.eval] at hd
        refine ⟨x 8, W, ?_, rfl, Grw.refl W⟩
        obtain ⟨⟨h3, _⟩, _⟩ := hd
        unfold execOp
        simp [Act.eval, h3]
      (try simp only [List.nil_append, List.cons_append])
      refine RelL.done3 ?_
      intro x WR hRR hx
      simp only [RelL.facts, Nat.zero_add, Nat.reduceAdd] at hx
      obtain ⟨e0, e1, e2, r1, e4, e5, e6, e7, r2, e9, e10, e11, _⟩ := hx
      simp only [RelL.fill, Nat.zero_add, Nat.reduceAdd, e0, e1, e4, e5, e6, e9, e10, e11]
      simp only [Act.put, List.setIfInBounds_toArray, List.set_cons_zero, List.set_cons_succ]
      have hbR : Below (w1.heap.size + 1) w4 WR := hRR.below (fun k o hk => (T0.out k o hk).1.1) hsb
      have hRN := Lib.hid (PF.out WR _ _ hRR r1 r2)
      have K8 := HK84.out.upto hbR (by omega)
      have K0 := HK04.out.upto hbR (by omega)
      have HBAR : Hid (Below w.heap.size w WR) := Lib.hid (HBA4.out.trans (hbR.mono (by omega)))
      have HCR : Hid (Cells WR (some B2) (stAt lk ht rc ts gs xs (k + 1)).ps) := Lib.hid (by
        intro h0
        have hl := HCL.out (by rw [← HQ.out (k + 1)]; exact h0)
        obtain ⟨b, off, hA, _, hc⟩ := HC4.out h0
        cases hA
        have e := hRR.same hl (HNT.out _ hBb2)
        exact ⟨b, off, rfl, Nat.lt_of_lt_of_le hl hRR.size, fun j hj => (World.cell?_of_block (w := w4) (a := ⟨b, off + j, none⟩) e).trans (hc j hj)⟩)
      clear e0 e1 e2 r1 e4 e5 e6 e7 r2 e9 e10 e11 hRR hbR T0 T1 T2 P1 P2 PF HNT hTC n0 n1 n2 nl nf HK84 HK04 HBA4 HC4 HCL HROW
      obtain ⟨v1, hv1⟩ : ∃ v, v = x 3 := ⟨_, rfl⟩
      obtain ⟨v2, hv2⟩ : ∃ v, v = x 8 := ⟨_, rfl⟩
      rw [← hv1, ← hv2] at hRN
      simp only [← hv1, ← hv2]
      clear hv1 hv2
      obtain ⟨d10, d11, d12, m1, g1⟩ := K8.o3
      have HK8 := Lib.hid K8
      have HK0 := Lib.hid K0
      clear K8 K0
      go_wp2
      go_roundw
      case rel =>
        have q1 : 0 < (stAt lk ht rc ts gs xs (k + 1)).ps.length → ∀ p, some B2 = some p → p.block ≠ w1.heap.size := fun _ p hp => by cases hp; omega
        exact ⟨k + 1, some B2, Q, by omega, by go_num, by rw [HO.out, HLV.out, ← HY.out, ← HV.out]; exact ((hRN.out.setCell (by simp) _).setCell (by simp) _).setCell (by simp) _,
          ((HK0.out.far (by simp; omega) _).far (by simp; omega) _).far (by simp; omega) _, by rw [HLVE.out, ← HV.out]; exact HK8.out.set3 _ _ _, ((HCR.out.sets q1 _ _).sets q1 _ _).sets q1 _ _, fun _ p hp => by cases hp; omega,
          ((HBAR.out.setCell (by simp; omega) _).setCell (by simp; omega) _).setCell (by simp; omega) _⟩
      case measure => simp [intOf]; omega
    · obtain rfl : k = N := by omega
      have hr1 := HR.out.1 (u6, outsK lk ht rc ts gs xs k) (by simp)
      have hr2 := HR.out.1 (u7, lvsK lk ht rc ts gs xs k) (by simp)
      unfold OwnI at hr1 hr2
      rw [outsK_len] at hr1
      rw [lvsK_len] at hr2
      obtain ⟨B1, d1, rfl, _, hc1⟩ := own_ints hr1 (outsK_len _ _ _ _ _ _ _).symm
      have hcap := Lib.hid (own_cap hr1)
      obtain ⟨B2, d2, rfl, _, hc2⟩ := own_ints hr2 (lvsK_len _ _ _ _ _ _ _).symm
      have H1 := Lib.hid hc1
      have H2 := Lib.hid hc2
      clear hr1 hr2 hc1 hc2 hB K0 K8
      go_wp2
      exact bodyPost_ret (v := .tuple #[.slice B1 k d1, .slice B2 k d2]) (by simp [results, Tryd.results87, go_sem]) rfl (by first | exact ⟨⟨B1, d1, B2, ⟨d2, rfl⟩, H1.out, H2.out, hcap.out⟩, HB.out⟩ | exact ⟨⟨B1, d1, B2, d2, rfl, H1.out, H2.out, hcap.out⟩, HB.out⟩ | (refine ⟨⟨B1, d1, ⟨B2, d2, rfl⟩, H1.out, H2.out, hcap.out⟩, HB.out⟩))
theorem run_okc (lk ht rc : Int) (ts gs xs : List Int) (A1 A2 A3 : Option Addr) (c1 c2 c3 : Nat) (w : World) (hL : Lim w) (hV : Valid lk ht rc ts gs) (hT : Cells w A1 ts) (hG : Cells w A2 gs) (hX : Cells w A3 xs) (hx : inB 2048 xs) (h1 : ts.length ≤ 5000) (h2 : gs.length ≤ 5000) (h3 : xs.length ≤ 5000)
    (he : runErr lk ht rc ts gs xs = 0) :
    Calls Tryd.prog 40 #[.agg #[(.int .i64 (lk)), (.int .i64 (ht)), .slice A1 ts.length c1, (.int .i64 (rc)), .slice A2 gs.length c2], .slice A3 xs.length c3] w fun r w' => (∃ B d, r = .returned (.tuple #[.slice B xs.length d, (.int .i64 (0))]) ∧ Cells w' B (outsK lk ht rc ts gs xs xs.length) ∧ xs.length ≤ d ∧ d ≤ maxLen) ∧ Below w.heap.size w w' := by
  have HCR : Hid (∀ W, Cells W A1 ts → Cells W A2 gs → Cells W A3 xs → Calls Tryd.prog 86 #[.agg #[(.int .i64 (lk)), (.int .i64 (ht)), .slice A1 ts.length c1, (.int .i64 (rc)), .slice A2 gs.length c2], .slice A3 xs.length c3] W fun r w' => r = .returned (.int .i64 (0)) ∧ Below W.heap.size W w') := Lib.hid (fun W q1 q2 q3 => by
    have := checkRun_any lk ht rc ts gs xs A1 A2 A3 c1 c2 c3 W q1 q2 q3 h1 h2 h3
    rwa [he] at this)
  have HR : Hid (∀ W, Lim W → Cells W A1 ts → Cells W A2 gs → Cells W A3 xs → Calls Tryd.prog 87 #[.agg #[(.int .i64 (lk)), (.int .i64 (ht)), .slice A1 ts.length c1, (.int .i64 (rc)), .slice A2 gs.length c2], .slice A3 xs.length c3] W fun r w' => (∃ B1 d1 B2 d2, r = .returned (.tuple #[.slice B1 xs.length d1, .slice B2 xs.length d2]) ∧ Cells w' B1 (outsK lk ht rc ts gs xs xs.length) ∧ Cells w' B2 (lvsK lk ht rc ts gs xs xs.length) ∧ xs.length ≤ d1 ∧ d1 ≤ maxLen) ∧ Below W.heap.size W w') :=
    Lib.hid (fun W q0 q1 q2 q3 => run_cap lk ht rc ts gs xs A1 A2 A3 c1 c2 c3 W q0 hV q1 q2 q3 hx h3)
  have HT := Lib.hid hT
  have HG := Lib.hid hG
  have HX := Lib.hid hX
  have HL := Lib.hid hL
  generalize xs.length = N at *
  generalize ts.length = M at *
  generalize gs.length = L at *
  clear hT hG hX hL hV hx he
  go_enter Tryd.func40, Tryd.ntmps40
  go_wp2_with (first
    | (go_at_call 86; refine (HCR.out _ (HT.out.below (by (repeat (first | (with_reducible exact Below.refl _ _) | ((with_reducible refine Below.setCell ?_ ?_ _); rotate_left 1; focus (first | (simp; done) | (simp; omega) | (simp at *; omega))) | ((with_reducible refine Below.alloc ?_ ?_ _); rotate_left 1; focus (first | (simp; done) | (simp; omega) | (simp at *; omega))) | (with_reducible refine Below.drew ?_) | ((with_reducible refine Calm.step (by assumption) ?_ ?_); rotate_left 1; focus (first | (simp; done) | (simp; omega) | (simp at *; omega))))))) (HG.out.below (by (repeat (first | (with_reducible exact Below.refl _ _) | ((with_reducible refine Below.setCell ?_ ?_ _); rotate_left 1; focus (first | (simp; done) | (simp; omega) | (simp at *; omega))) | ((with_reducible refine Below.alloc ?_ ?_ _); rotate_left 1; focus (first | (simp; done) | (simp; omega) | (simp at *; omega))) | (with_reducible refine Below.drew ?_) | ((with_reducible refine Calm.step (by assumption) ?_ ?_); rotate_left 1; focus (first | (simp; done) | (simp; omega) | (simp at *; omega))))))) (HX.out.below (by (repeat (first | (with_reducible exact Below.refl _ _) | ((with_reducible refine Below.setCell ?_ ?_ _); rotate_left 1; focus (first | (simp; done) | (simp; omega) | (simp at *; omega))) | ((with_reducible refine Below.alloc ?_ ?_ _); rotate_left 1; focus (first | (simp; done) | (simp; omega) | (simp at *; omega))) | (with_reducible refine Below.drew ?_) | ((with_reducible refine Calm.step (by assumption) ?_ ?_); rotate_left 1; focus (first | (simp; done) | (simp; omega) | (simp at *; omega)))))))).mono ?_; rintro r w1 ⟨rfl, hb1⟩; have HB1 := Lib.hid (show Below w.heap.size w w1 from Below.trans (by (repeat (first | (with_reducible exact Below.refl _ _) | ((with_reducible refine Below.setCell ?_ ?_ _); rotate_left 1; focus (first | (simp; done) | (simp; omega) | (simp at *; omega))) | ((with_reducible refine Below.alloc ?_ ?_ _); rotate_left 1; focus (first | (simp; done) | (simp; omega) | (simp at *; omega))) | (with_reducible refine Below.drew ?_) | ((with_reducible refine Calm.step (by assumption) ?_ ?_); rotate_left 1; focus (first | (simp; done) | (simp; omega) | (simp at *; omega)))))) (hb1.mono (by simp))); have K0 : Blk w1 w.heap.size #[(.int .i64 (lk)), (.int .i64 (ht)), .slice A1 M c1, (.int .i64 (rc)), .slice A2 L c2] := Blk.below (by (repeat (first | ((with_reducible refine Blk.at_ ?_); focus (first | rfl | (simp; done) | (simp; omega))) | (with_reducible refine Blk.alloc ?_ _) | (with_reducible refine Blk.below ?_ (by with_reducible assumption)) | (with_reducible refine Blk.drew ?_)))) hb1; obtain ⟨c00, c01, c02, c03, c04, l0, f0⟩ := K0.o5; clear hb1 K0)
    | (go_at_call 87; refine (HR.out _ (HL.out.below HB1.out) (HT.out.below HB1.out) (HG.out.below HB1.out) (HX.out.below HB1.out)).mono ?_; rintro r w2 ⟨⟨B1, d1, B2, d2, rfl, hc1, _, hcp⟩, hb2⟩; have HC1 := Lib.hid hc1; have HCP := Lib.hid hcp; have HB2 := Lib.hid (HB1.out.trans (hb2.mono HB1.out.size)); clear hb2 hc1 hcp))
  exact bodyPost_ret (v := .tuple #[.slice B1 N d1, (.int .i64 (0))]) (by simp [results, Tryd.results40, go_sem]) rfl (by first | exact ⟨⟨B1, d1, rfl, HC1.out, HCP.out⟩, HB2.out⟩ | exact ⟨⟨B1, ⟨d1, rfl⟩, HC1.out, HCP.out⟩, HB2.out⟩)
end Go.Proofs.YtdeapbihbhoefaaDoor

/- The reference's Steady, Quiet, Cool. -/
namespace Go.Proofs.YtdeapbihbhoefaaDoor
open Go.RowKit
open Calm (bcell Blk)

set_option maxRecDepth 100000 in
set_option maxHeartbeats 2000000 in
theorem rSteady_any (lk ht rc : Int) (A1 A2 : Option Addr) (M L c1 c2 : Nat) (w : World) (hl : 1 ≤ lk ∧ lk ≤ 8) (hh : 0 ≤ ht ∧ ht ≤ 536870912) :
    Calls Tryd.prog 52 #[.agg #[(.int .i64 (lk)), (.int .i64 (ht)), .slice A1 M c1, (.int .i64 (rc)), .slice A2 L c2]] w fun r w' => r = .returned (.int .i64 ((stdF lk ht : Int))) ∧ Below w.heap.size w w' := by
  obtain ⟨h1, h2⟩ := hl
  obtain ⟨h3, h4⟩ := hh
  obtain ⟨p1, p2⟩ := pow_bd ⟨h1, h2⟩
  obtain ⟨P, hP⟩ : ∃ P : Int, P = 2 ^ lk.toNat := ⟨_, rfl⟩
  have HPW : Hid (∀ W, Calls Tryd.prog 93 #[(.int .i64 (lk))] W fun r w' => r = .returned (.int .i64 (P)) ∧ W = w') := Lib.hid (fun W => by rw [hP]; exact rPower_any lk W ⟨by omega, h2⟩)
  rw [← hP] at p1 p2
  have q0 : ¬ P = 0 := by omega
  obtain ⟨hs, hhs⟩ : ∃ hs, hs = ht / P := ⟨_, rfl⟩
  have HF : Hid (stdF lk ht = stdG hs 0 2048) := Lib.hid (by rw [hhs, hP]; rfl)
  have q1 : 0 ≤ ht / P := Int.ediv_nonneg h3 (by omega)
  have q2 : ht / P ≤ ht := Int.ediv_le_self _ h3
  have HHS := Lib.hid hhs
  obtain ⟨R, hR⟩ : ∃ R, R = stdF lk ht := ⟨_, rfl⟩
  rw [← hR] at HF ⊢
  clear hhs hR hP
  go_enter Tryd.func52, Tryd.ntmps52
  go_wp2
  go_loopw [3] (fun i wr => ∃ k : Nat, k ≤ 2048 ∧ i = (.int .i64 ((k : Int))) ∧ R = stdG hs k (2048 - k) ∧ Blk wr w.heap.size #[(.int .i64 (lk)), (.int .i64 (ht)), .slice A1 M c1, (.int .i64 (rc)), .slice A2 L c2] ∧ Below w.heap.size w wr) (fun i _ => 2048 - (intOf i).toNat)
  case atStart => exact ⟨0, by omega, rfl, HF.out, by (repeat (first | ((with_reducible refine Blk.at_ ?_); focus (first | rfl | (simp; done) | (simp; omega))) | (with_reducible refine Blk.alloc ?_ _) | (with_reducible refine Blk.below ?_ (by with_reducible assumption)) | (with_reducible refine Blk.drew ?_))), by (repeat (first | (with_reducible exact Below.refl _ _) | ((with_reducible refine Below.setCell ?_ ?_ _); rotate_left 1; focus (first | (simp; done) | (simp; omega) | (simp at *; omega))) | ((with_reducible refine Below.alloc ?_ ?_ _); rotate_left 1; focus (first | (simp; done) | (simp; omega) | (simp at *; omega))) | (with_reducible refine Below.drew ?_) | ((with_reducible refine Calm.step (by assumption) ?_ ?_); rotate_left 1; focus (first | (simp; done) | (simp; omega) | (simp at *; omega)))))⟩
  case round =>
    obtain ⟨k, hk, rfl, hRk, K0, hB⟩ := hrel
    have HR := Lib.hid hRk
    have HB := Lib.hid hB
    have HK := Lib.hid K0
    obtain ⟨g0, g1, g2, g3, g4, gl, gf⟩ := K0.o5
    clear hRk hB K0 HF
    by_cases hlt : k < 2048
    · have hd : decide ((k : Int) < 2048) = true := decide_eq_true (by omega)
      have m1 : ((k : Int) + 1) * ((k : Int) + 1) ≤ 4194304 := by
        have := mul_bd (a := (k : Int) + 1) (b := (k : Int) + 1) (A := 2048) (B := 2048) (by omega) (by omega)
        omega
      have m2 : 0 ≤ ((k : Int) + 1) * ((k : Int) + 1) := Int.mul_nonneg (by omega) (by omega)
      obtain ⟨q, hq⟩ : ∃ q, q = ((k : Int) + 1) * ((k : Int) + 1) := ⟨_, rfl⟩
      rw [← hq] at m1 m2
      by_cases hc : ((k : Int) + 1) * ((k : Int) + 1) ≤ hs
      · have hc2 : q ≤ ht / P := by rw [← HHS.out, hq]; exact hc
        have HC := Lib.hid hc
        have hq' := hq.symm
        clear hc hq
        go_wp2
        refine Calm.all_below (by kernel_rfl) (by kernel_rfl) ?_
        (first | (apply Calm.op_move; (focus rfl); (focus (first | exact .inl rfl | exact .inr rfl)); (focus ((try simp only [Act.eval, Array.getD_eq_getD_getElem?, List.getElem?_toArray, List.getElem?_cons_succ, List.getElem?_cons_zero, Option.getD_some]); rfl)); (try simp only [Act.put, List.setIfInBounds_toArray, List.set_cons_zero, List.set_cons_succ])) | (apply Calm.op_not; (focus rfl); (try simp only [Act.put, List.setIfInBounds_toArray, List.set_cons_zero, List.set_cons_succ])) | (apply Calm.op; (focus rfl); (focus (intro W hb; obtain ⟨hc, hf⟩ := bcell hb; clear hb hf; go_simp; (try go_bits); (try rfl); done)); (try simp only [Act.put, List.setIfInBounds_toArray, List.set_cons_zero, List.set_cons_succ])))
        (first | (apply Calm.op_move; (focus rfl); (focus (first | exact .inl rfl | exact .inr rfl)); (focus ((try simp only [Act.eval, Array.getD_eq_getD_getElem?, List.getElem?_toArray, List.getElem?_cons_succ, List.getElem?_cons_zero, Option.getD_some]); rfl)); (try simp only [Act.put, List.setIfInBounds_toArray, List.set_cons_zero, List.set_cons_succ])) | (apply Calm.op_not; (focus rfl); (try simp only [Act.put, List.setIfInBounds_toArray, List.set_cons_zero, List.set_cons_succ])) | (apply Calm.op; (focus rfl); (focus (intro W hb; obtain ⟨hc, hf⟩ := bcell hb; clear hb hf; go_simp; (try go_bits); (try rfl); done)); (try simp only [Act.put, List.setIfInBounds_toArray, List.set_cons_zero, List.set_cons_succ])))
        (try simp only [hd])
        repeat (first | (first | (apply Calm.op_move; (focus rfl); (focus (first | exact .inl rfl | exact .inr rfl)); (focus ((try simp only [Act.eval, Array.getD_eq_getD_getElem?, List.getElem?_toArray, List.getElem?_cons_succ, List.getElem?_cons_zero, Option.getD_some]); rfl)); (try simp only [Act.put, List.setIfInBounds_toArray, List.set_cons_zero, List.set_cons_succ])) | (apply Calm.op_not; (focus rfl); (try simp only [Act.put, List.setIfInBounds_toArray, List.set_cons_zero, List.set_cons_succ])) | (apply Calm.op; (focus rfl); (focus (intro W hb; obtain ⟨hc, hf⟩ := bcell hb; clear hb hf; go_simp; (try go_bits); (try rfl); done)); (try simp only [Act.put, List.setIfInBounds_toArray, List.set_cons_zero, List.set_cons_succ]))) | (apply Calm.op_call; (focus rfl); (focus (intro W hb; obtain ⟨hc, hf⟩ := bcell hb; clear hb hf; go_simp; refine ⟨?_, ?_⟩; rfl; rfl)); (focus (intro W hb; first | (go_at_call 93; exact Calm.call_same hb (HPW.out _)))); (try simp only [Act.put, List.setIfInBounds_toArray, List.set_cons_zero, List.set_cons_succ])))
        refine wpQuiet_nil ?_
        intro w2 hb2
        obtain ⟨hb2c, hb2f⟩ := bcell hb2
        have hb2z := hb2.size
        (try simp at hb2z)
        (try have hb2z0 : w.heap.size < w2.heap.size := by omega)
        (try have hb2z1 : w.heap.size + 1 < w2.heap.size := by omega)
        (try have hb2z2 : w.heap.size + 1 + 1 < w2.heap.size := by omega)
        (try have hb2z3 : w.heap.size + 1 + 1 + 1 < w2.heap.size := by omega)
        (try have hb2z4 : w.heap.size + 1 + 1 + 1 + 1 < w2.heap.size := by omega)
        (try have hb2z5 : w.heap.size + 1 + 1 + 1 + 1 + 1 < w2.heap.size := by omega)
        have HB2 := Lib.hid (HB.out.trans (hb2.mono HB.out.size))
        have HK2 := Lib.hid (HK.out.below hb2)
        clear hb2 g0 g1 g2 g3 g4 gl gf
        go_wp2
        go_roundw
        case rel =>
          refine ⟨k + 1, by omega, by go_num, ?_, HK2.out, HB2.out⟩
          rw [HR.out, show 2048 - k = (2048 - (k + 1)) + 1 by omega]
          exact if_pos HC.out
        case measure => simp [intOf]; omega
      · have hc2 : ¬ q ≤ ht / P := by rw [← HHS.out, hq]; exact hc
        have hRK : R = k := by
          rw [HR.out, show 2048 - k = (2048 - (k + 1)) + 1 by omega]
          exact if_neg hc
        have HRK := Lib.hid hRK
        have hq' := hq.symm
        clear hc hq hRK
        go_wp2
        refine Calm.all_below (by kernel_rfl) (by kernel_rfl) ?_
        (first | (apply Calm.op_move; (focus rfl); (focus (first | exact .inl rfl | exact .inr rfl)); (focus ((try simp only [Act.eval, Array.getD_eq_getD_getElem?, List.getElem?_toArray, List.getElem?_cons_succ, List.getElem?_cons_zero, Option.getD_some]); rfl)); (try simp only [Act.put, List.setIfInBounds_toArray, List.set_cons_zero, List.set_cons_succ])) | (apply Calm.op_not; (focus rfl); (try simp only [Act.put, List.setIfInBounds_toArray, List.set_cons_zero, List.set_cons_succ])) | (apply Calm.op; (focus rfl); (focus (intro W hb; obtain ⟨hc, hf⟩ := bcell hb; clear hb hf; go_simp; (try go_bits); (try rfl); done)); (try simp only [Act.put, List.setIfInBounds_toArray, List.set_cons_zero, List.set_cons_succ])))
        (first | (apply Calm.op_move; (focus rfl); (focus (first | exact .inl rfl | exact .inr rfl)); (focus ((try simp only [Act.eval, Array.getD_eq_getD_getElem?, List.getElem?_toArray, List.getElem?_cons_succ, List.getElem?_cons_zero, Option.getD_some]); rfl)); (try simp only [Act.put, List.setIfInBounds_toArray, List.set_cons_zero, List.set_cons_succ])) | (apply Calm.op_not; (focus rfl); (try simp only [Act.put, List.setIfInBounds_toArray, List.set_cons_zero, List.set_cons_succ])) | (apply Calm.op; (focus rfl); (focus (intro W hb; obtain ⟨hc, hf⟩ := bcell hb; clear hb hf; go_simp; (try go_bits); (try rfl); done)); (try simp only [Act.put, List.setIfInBounds_toArray, List.set_cons_zero, List.set_cons_succ])))
        (try simp only [hd])
        repeat (first | (first | (apply Calm.op_move; (focus rfl); (focus (first | exact .inl rfl | exact .inr rfl)); (focus ((try simp only [Act.eval, Array.getD_eq_getD_getElem?, List.getElem?_toArray, List.getElem?_cons_succ, List.getElem?_cons_zero, Option.getD_some]); rfl)); (try simp only [Act.put, List.setIfInBounds_toArray, List.set_cons_zero, List.set_cons_succ])) | (apply Calm.op_not; (focus rfl); (try simp only [Act.put, List.setIfInBounds_toArray, List.set_cons_zero, List.set_cons_succ])) | (apply Calm.op; (focus rfl); (focus (intro W hb; obtain ⟨hc, hf⟩ := bcell hb; clear hb hf; go_simp; (try go_bits); (try rfl); done)); (try simp only [Act.put, List.setIfInBounds_toArray, List.set_cons_zero, List.set_cons_succ]))) | (apply Calm.op_call; (focus rfl); (focus (intro W hb; obtain ⟨hc, hf⟩ := bcell hb; clear hb hf; go_simp; refine ⟨?_, ?_⟩; rfl; rfl)); (focus (intro W hb; first | (go_at_call 93; exact Calm.call_same hb (HPW.out _)))); (try simp only [Act.put, List.setIfInBounds_toArray, List.set_cons_zero, List.set_cons_succ])))
        refine wpQuiet_nil ?_
        intro w2 hb2
        obtain ⟨hb2c, hb2f⟩ := bcell hb2
        have hb2z := hb2.size
        (try simp at hb2z)
        (try have hb2z0 : w.heap.size < w2.heap.size := by omega)
        (try have hb2z1 : w.heap.size + 1 < w2.heap.size := by omega)
        (try have hb2z2 : w.heap.size + 1 + 1 < w2.heap.size := by omega)
        (try have hb2z3 : w.heap.size + 1 + 1 + 1 < w2.heap.size := by omega)
        (try have hb2z4 : w.heap.size + 1 + 1 + 1 + 1 < w2.heap.size := by omega)
        (try have hb2z5 : w.heap.size + 1 + 1 + 1 + 1 + 1 < w2.heap.size := by omega)
        have HB2 := Lib.hid (HB.out.trans (hb2.mono HB.out.size))
        clear hb2 g0 g1 g2 g3 g4 gl gf
        go_wp2
        go_ret
        exact ⟨ret_i (by rw [HRK.out]), HB2.out⟩
    · have hRK : R = k := by
        rw [HR.out]
        obtain rfl : k = 2048 := by omega
        rfl
      have hd : decide ((k : Int) < 2048) = false := decide_eq_false (by omega)
      have HRK := Lib.hid hRK
      clear hRK
      go_wp2
      refine Calm.all_below (by kernel_rfl) (by kernel_rfl) ?_
      (first | (apply Calm.op_move; (focus rfl); (focus (first | exact .inl rfl | exact .inr rfl)); (focus ((try simp only [Act.eval, Array.getD_eq_getD_getElem?, List.getElem?_toArray, List.getElem?_cons_succ, List.getElem?_cons_zero, Option.getD_some]); rfl)); (try simp only [Act.put, List.setIfInBounds_toArray, List.set_cons_zero, List.set_cons_succ])) | (apply Calm.op_not; (focus rfl); (try simp only [Act.put, List.setIfInBounds_toArray, List.set_cons_zero, List.set_cons_succ])) | (apply Calm.op; (focus rfl); (focus (intro W hb; obtain ⟨hc, hf⟩ := bcell hb; clear hb hf; go_simp; (try go_bits); (try rfl); done)); (try simp only [Act.put, List.setIfInBounds_toArray, List.set_cons_zero, List.set_cons_succ])))
      (first | (apply Calm.op_move; (focus rfl); (focus (first | exact .inl rfl | exact .inr rfl)); (focus ((try simp only [Act.eval, Array.getD_eq_getD_getElem?, List.getElem?_toArray, List.getElem?_cons_succ, List.getElem?_cons_zero, Option.getD_some]); rfl)); (try simp only [Act.put, List.setIfInBounds_toArray, List.set_cons_zero, List.set_cons_succ])) | (apply Calm.op_not; (focus rfl); (try simp only [Act.put, List.setIfInBounds_toArray, List.set_cons_zero, List.set_cons_succ])) | (apply Calm.op; (focus rfl); (focus (intro W hb; obtain ⟨hc, hf⟩ := bcell hb; clear hb hf; go_simp; (try go_bits); (try rfl); done)); (try simp only [Act.put, List.setIfInBounds_toArray, List.set_cons_zero, List.set_cons_succ])))
      (try simp only [hd])
      (first | (apply Calm.op_move; (focus rfl); (focus (first | exact .inl rfl | exact .inr rfl)); (focus ((try simp only [Act.eval, Array.getD_eq_getD_getElem?, List.getElem?_toArray, List.getElem?_cons_succ, List.getElem?_cons_zero, Option.getD_some]); rfl)); (try simp only [Act.put, List.setIfInBounds_toArray, List.set_cons_zero, List.set_cons_succ])) | (apply Calm.op_not; (focus rfl); (try simp only [Act.put, List.setIfInBounds_toArray, List.set_cons_zero, List.set_cons_succ])) | (apply Calm.op; (focus rfl); (focus (intro W hb; obtain ⟨hc, hf⟩ := bcell hb; clear hb hf; go_simp; (try go_bits); (try rfl); done)); (try simp only [Act.put, List.setIfInBounds_toArray, List.set_cons_zero, List.set_cons_succ])))
      iterate 12 ((with_reducible refine Calm.op_not ?_ ?_); (focus rfl); (try simp only [Act.put, List.setIfInBounds_toArray, List.set_cons_zero, List.set_cons_succ]))
      (first | (apply Calm.op_move; (focus rfl); (focus (first | exact .inl rfl | exact .inr rfl)); (focus ((try simp only [Act.eval, Array.getD_eq_getD_getElem?, List.getElem?_toArray, List.getElem?_cons_succ, List.getElem?_cons_zero, Option.getD_some]); rfl)); (try simp only [Act.put, List.setIfInBounds_toArray, List.set_cons_zero, List.set_cons_succ])) | (apply Calm.op_not; (focus rfl); (try simp only [Act.put, List.setIfInBounds_toArray, List.set_cons_zero, List.set_cons_succ])) | (apply Calm.op; (focus rfl); (focus (intro W hb; obtain ⟨hc, hf⟩ := bcell hb; clear hb hf; go_simp; (try go_bits); (try rfl); done)); (try simp only [Act.put, List.setIfInBounds_toArray, List.set_cons_zero, List.set_cons_succ])))
      refine wpQuiet_nil ?_
      intro w2 hb2
      obtain ⟨hb2c, hb2f⟩ := bcell hb2
      have hb2z := hb2.size
      (try simp at hb2z)
      (try have hb2z0 : w.heap.size < w2.heap.size := by omega)
      (try have hb2z1 : w.heap.size + 1 < w2.heap.size := by omega)
      (try have hb2z2 : w.heap.size + 1 + 1 < w2.heap.size := by omega)
      (try have hb2z3 : w.heap.size + 1 + 1 + 1 < w2.heap.size := by omega)
      (try have hb2z4 : w.heap.size + 1 + 1 + 1 + 1 < w2.heap.size := by omega)
      (try have hb2z5 : w.heap.size + 1 + 1 + 1 + 1 + 1 < w2.heap.size := by omega)
      have HB2 := Lib.hid (HB.out.trans (hb2.mono HB.out.size))
      clear hb2 g0 g1 g2 g3 g4 gl gf
      go_wp2
      go_ret
      exact ⟨ret_i (by rw [HRK.out]), HB2.out⟩
theorem rSteady_K {lk ht rc : Int} {M L : Nat} {ts gs : List Int} {u : Value} {W : World} (hl : 1 ≤ lk ∧ lk ≤ 8) (hh : 0 ≤ ht ∧ ht ≤ 536870912) (hu : KG lk ht rc M ts L gs u W) : Calls Tryd.prog 52 #[u] W (KP (KV (.int .i64 ((stdF lk ht : Int)))) W) := by
  obtain ⟨A1, c1, A2, c2, rfl, _, _⟩ := hu
  exact (rSteady_any lk ht rc A1 A2 M L c1 c2 W hl hh).mono fun e W' ⟨h, hb⟩ => ⟨_, h, rfl, hb⟩

set_option maxRecDepth 100000 in
set_option maxHeartbeats 2000000 in
theorem rQuiet_K {lk ht rc : Int} {M L : Nat} {ts gs : List Int} {u : Value} {W : World} (hM : M = ts.length) (hV : Valid lk ht rc ts gs) (hu : KG lk ht rc M ts L gs u W) : Calls Tryd.prog 53 #[u] W (KP (KV (.int .i64 (quietF lk ht rc ts))) W) := by
  obtain ⟨A1, c1, A2, c2, rfl, hT, _⟩ := hu
  have htl := hV.tl
  have hrc := hV.rc
  have HAB := Lib.hid (fun n W h => rAbs_any n W h)
  have HST : Hid (∀ {x : Value} (W : World), KG lk ht rc M ts L gs x W → Calls Tryd.prog 52 #[x] W (KP (KV (.int .i64 ((stdF lk ht : Int)))) W)) := Lib.hid (fun W q => rSteady_K hV.lk hV.ht q)
  have HSA : Hid (∀ W, Calls Tryd.prog 52 #[.agg #[(.int .i64 (lk)), (.int .i64 (ht)), .slice A1 M c1, (.int .i64 (rc)), .slice A2 L c2]] W fun r w' => r = .returned (.int .i64 ((stdF lk ht : Int))) ∧ Below W.heap.size W w') := Lib.hid (fun W => rSteady_any lk ht rc A1 A2 M L c1 c2 W hV.lk hV.ht)
  have HQ : Hid (quietF lk ht rc ts = if 0 < wtK ts M then min (stdF lk ht : Int) (rc / wtK ts M) else (stdF lk ht : Int)) := Lib.hid (by unfold quietF; rw [wtK_all htl.2, hM])
  have HW : Hid (∀ k, k ≤ M → 0 ≤ wtK ts k ∧ wtK ts k ≤ 512) := Lib.hid (fun k hk => by have := wtK_bd hV.tb k; omega)
  have HTB : Hid (∀ k, k < M → -64 ≤ ts.getD k 0 ∧ ts.getD k 0 ≤ 64) := Lib.hid (fun k hk => inB_get hV.tb (by omega) k)
  have HT := Lib.hid hT
  have HM := Lib.hid hM
  have HU := Lib.hid (show KG lk ht rc M ts L gs (.agg #[(.int .i64 (lk)), (.int .i64 (ht)), .slice A1 M c1, (.int .i64 (rc)), .slice A2 L c2]) W from ⟨_, _, _, _, rfl, hT, by assumption⟩)
  obtain ⟨S, hS⟩ : ∃ S, S = (stdF lk ht : Int) := ⟨_, rfl⟩
  rw [← hS] at HST HQ HSA
  obtain ⟨R, hR⟩ : ∃ R, R = quietF lk ht rc ts := ⟨_, rfl⟩
  rw [← hR] at HQ ⊢
  obtain ⟨r1, r2⟩ := hrc
  have h8 : M ≤ 8 := by omega
  clear hV hT hM hS hR htl
  go_enter Tryd.func53, Tryd.ntmps53
  go_wp2
  refine name_world ?_
  intro w1 e1
  have K1 := Lib.hid (show Blk w1 W.heap.size #[(.int .i64 (lk)), (.int .i64 (ht)), .slice A1 M c1, (.int .i64 (rc)), .slice A2 L c2] by rw [e1]; exact Calm.Blk.new _ _ _)
  have hb1 : Below W.heap.size W w1 := by rw [e1]; (repeat (first | (with_reducible exact Below.refl _ _) | ((with_reducible refine Below.setCell ?_ ?_ _); rotate_left 1; focus (first | (simp; done) | (simp; omega) | (simp at *; omega))) | ((with_reducible refine Below.alloc ?_ ?_ _); rotate_left 1; focus (first | (simp; done) | (simp; omega) | (simp at *; omega))) | (with_reducible refine Below.drew ?_) | ((with_reducible refine Calm.step (by assumption) ?_ ?_); rotate_left 1; focus (first | (simp; done) | (simp; omega) | (simp at *; omega)))))
  have T1 := Lib.hid (HT.out.below hb1)
  have U1 := Lib.hid (KG.st _ _ _ _ _ _ _ _ _ _ HU.out hb1)
  have HB1 := Lib.hid hb1
  clear e1 hb1 HT HU
  obtain ⟨g0, g1, g2, g3, g4, gl, gf⟩ := K1.out.o5
  go_loop [3, 4] (fun s i => ∃ k : Nat, k ≤ M ∧ i = (.int .i64 ((k : Int))) ∧ s = (.int .i64 (wtK ts k))) (fun _ i => M - (intOf i).toNat)
  case atStart => exact ⟨0, Nat.zero_le _, rfl, rfl⟩
  case round =>
    obtain ⟨k, hk, rfl, rfl⟩ := hrel
    obtain ⟨b1, b2⟩ := HW.out k hk
    have HS2 := Lib.hid (show wtK ts (k + 1) = wtK ts k + absI (ts.getD k 0) from rfl)
    obtain ⟨q, hq⟩ : ∃ q, q = wtK ts k := ⟨_, rfl⟩
    rw [← hq] at b1 b2 HS2 ⊢
    have HQK := Lib.hid hq
    clear hq
    by_cases hlt : k < M
    · obtain ⟨b, o, hA, hbl, hcell⟩ := T1.out (by rw [← HM.out]; omega)
      subst hA
      have hck := hcell k (by rw [← HM.out]; exact hlt)
      obtain ⟨t1, t2⟩ := HTB.out k hlt
      obtain ⟨a1, a2⟩ := absI_bd (x := ts.getD k 0) (b := 64) ⟨t1, t2⟩
      obtain ⟨x, hx⟩ : ∃ x, x = ts.getD k 0 := ⟨_, rfl⟩
      rw [← hx] at hck t1 t2 a1 a2 HS2
      clear hx hcell hbl
      obtain ⟨y, hy⟩ : ∃ y, y = absI x := ⟨_, rfl⟩
      have HABX : Hid (∀ W, Calls Tryd.prog 82 #[(.int .i64 (x))] W fun r w' => r = .returned (.int .i64 (y)) ∧ W = w') := Lib.hid (fun W => by rw [hy]; exact HAB.out x W ⟨by omega, by omega⟩)
      rw [← hy] at a1 a2 HS2
      clear hy
      go_wp2_with (go_at_call 82; refine (HABX.out _).mono ?_; rintro r w2 ⟨rfl, rfl⟩)
      go_round
      case rel => exact ⟨k + 1, by omega, by go_num, by rw [HS2.out]⟩
      case measure => simp [intOf]; omega
    · obtain rfl : k = M := by omega
      rw [← HQK.out] at HQ
      clear HS2
      by_cases h0 : q = 0
      · subst h0
        go_wp2_with (go_at_call 52; refine (HST.out _ U1.out).mono ?_; rintro r w2 ⟨v2, rfl, hk2, hb2⟩; obtain rfl := hk2; have HB2 := Lib.hid (HB1.out.trans (hb2.mono HB1.out.size)); clear hb2)
        go_ret
        exact ⟨_, ret_i (by rw [HQ.out]; rfl), rfl, HB2.out⟩
      · have b5 : 0 ≤ rc / q := Int.ediv_nonneg r1 b1
        have b6 : rc / q ≤ rc := Int.ediv_le_self _ r1
        have HR : Hid (R = if rc / q < S then rc / q else S) := Lib.hid (by rw [HQ.out, if_pos (by omega)]; split <;> omega)
        have hmn := mnQ S (rc / q)
        obtain ⟨X, hX⟩ : ∃ X, X = (if rc / q < S then rc / q else S) := ⟨_, rfl⟩
        rw [← hX] at hmn
        have HX := Lib.hid hX
        clear hX
        go_wp2
        refine Calm.tail_below 7 (by kernel_rfl) (by kernel_rfl) ?_
        simp only [List.take_succ_cons, List.take_zero, List.drop_succ_cons, List.drop_zero]
        repeat (first | (first | (apply Calm.op_move; (focus rfl); (focus (first | exact .inl rfl | exact .inr rfl)); (focus ((try simp only [Act.eval, Array.getD_eq_getD_getElem?, List.getElem?_toArray, List.getElem?_cons_succ, List.getElem?_cons_zero, Option.getD_some]); rfl)); (try simp only [Act.put, List.setIfInBounds_toArray, List.set_cons_zero, List.set_cons_succ])) | (apply Calm.op_not; (focus rfl); (try simp only [Act.put, List.setIfInBounds_toArray, List.set_cons_zero, List.set_cons_succ])) | (apply Calm.op; (focus rfl); (focus (intro W hb; obtain ⟨hc, hf⟩ := bcell hb; clear hb hf; go_simp; (try go_bits); (try rfl); done)); (try simp only [Act.put, List.setIfInBounds_toArray, List.set_cons_zero, List.set_cons_succ]))) | (apply Calm.op_call; (focus rfl); (focus (intro W hb; obtain ⟨hc, hf⟩ := bcell hb; clear hb hf; go_simp; refine ⟨?_, ?_⟩; rfl; rfl)); (focus (intro W hb; first | (go_at_call 52; exact Calm.call_below hb (HSA.out _)))); (try simp only [Act.put, List.setIfInBounds_toArray, List.set_cons_zero, List.set_cons_succ])))
        refine wpQuiet_nil ?_
        intro w3 hb3
        obtain ⟨hb3c, hb3f⟩ := bcell hb3
        have hb3z := hb3.size
        (try simp at hb3z)
        (try have hb3z0 : w.heap.size < w3.heap.size := by omega)
        (try have hb3z1 : w.heap.size + 1 < w3.heap.size := by omega)
        (try have hb3z2 : w.heap.size + 1 + 1 < w3.heap.size := by omega)
        (try have hb3z3 : w.heap.size + 1 + 1 + 1 < w3.heap.size := by omega)
        (try have hb3z4 : w.heap.size + 1 + 1 + 1 + 1 < w3.heap.size := by omega)
        (try have hb3z5 : w.heap.size + 1 + 1 + 1 + 1 + 1 < w3.heap.size := by omega)
        go_wp2
        go_ret
        exact ⟨_, ret_i (by rw [HR.out, HX.out]), rfl, HB1.out.trans (hb3.mono HB1.out.size)⟩

set_option maxRecDepth 100000 in
set_option maxHeartbeats 2000000 in
theorem rCool_K {lk ht rc a b : Int} {M L : Nat} {ts gs : List Int} {u : Value} {W : World} (hlk : 1 ≤ lk ∧ lk ≤ 8) (ha : 0 ≤ a ∧ a ≤ 536870912) (hb : 0 ≤ b ∧ b ≤ 536870912) (hu : KG lk ht rc M ts L gs u W) : Calls Tryd.prog 54 #[u, (.int .i64 (a)), (.int .i64 (b))] W (KP (K2 (KV (.int .i64 ((coolR lk a b).1))) (KV (.int .i64 ((coolR lk a b).2)))) W) := by
  obtain ⟨A1, c1, A2, c2, rfl, hT, hG⟩ := hu
  obtain ⟨a0, a1⟩ := ha
  obtain ⟨b0, b1⟩ := hb
  have HCO : Hid (∀ {v : Value} (x : Int) W, 0 ≤ x → x ≤ 536870912 → KG lk ht rc M ts L gs v W → Calls Tryd.prog 83 #[v, (.int .i64 (x))] W (KP (KV (.int .i64 (coolF lk x))) W)) := Lib.hid (fun x W p1 p2 q => rCooled_K hlk ⟨p1, by omega⟩ q)
  have HU := Lib.hid (show KG lk ht rc M ts L gs (.agg #[(.int .i64 (lk)), (.int .i64 (ht)), .slice A1 M c1, (.int .i64 (rc)), .slice A2 L c2]) W from ⟨_, _, _, _, rfl, hT, hG⟩)
  obtain ⟨R, hR⟩ : ∃ R, R = coolR lk a b := ⟨_, rfl⟩
  have HR := Lib.hid hR
  rw [← hR]
  have HC0 : Hid (∀ k, 0 ≤ coolK lk a k ∧ coolK lk a k ≤ a) := Lib.hid (coolK_bd lk a0)
  clear hT hG hR hlk
  go_enter Tryd.func54, Tryd.ntmps54
  go_wp2
  go_loopw [1, 8] (fun f s wr => ∃ k : Nat, (k : Int) ≤ a ∧ f = (.int .i64 (coolK lk a k)) ∧ s = (.int .i64 ((k : Int))) ∧ (∀ j, j < k → b < coolK lk a j ∧ coolK lk a (j + 1) ≠ coolK lk a j) ∧ Blk wr W.heap.size #[(.int .i64 (lk)), (.int .i64 (ht)), .slice A1 M c1, (.int .i64 (rc)), .slice A2 L c2] ∧ Below W.heap.size W wr) (fun f _ _ => (intOf f).toNat)
  case atStart => exact ⟨0, by omega, rfl, rfl, fun j hj => by omega, by (repeat (first | ((with_reducible refine Blk.at_ ?_); focus (first | rfl | (simp; done) | (simp; omega))) | (with_reducible refine Blk.alloc ?_ _) | (with_reducible refine Blk.below ?_ (by with_reducible assumption)) | (with_reducible refine Blk.drew ?_))), by (repeat (first | (with_reducible exact Below.refl _ _) | ((with_reducible refine Below.setCell ?_ ?_ _); rotate_left 1; focus (first | (simp; done) | (simp; omega) | (simp at *; omega))) | ((with_reducible refine Below.alloc ?_ ?_ _); rotate_left 1; focus (first | (simp; done) | (simp; omega) | (simp at *; omega))) | (with_reducible refine Below.drew ?_) | ((with_reducible refine Calm.step (by assumption) ?_ ?_); rotate_left 1; focus (first | (simp; done) | (simp; omega) | (simp at *; omega)))))⟩
  case round =>
    obtain ⟨k, hk, rfl, rfl, hgt, hK, hB⟩ := hrel
    have HGT := Lib.hid hgt
    have HK := Lib.hid hK
    have HB := Lib.hid hB
    have HUW := Lib.hid (KG.st _ _ _ _ _ _ _ _ _ _ HU.out hB)
    obtain ⟨c0, c1'⟩ := HC0.out k
    have HF := Lib.hid (coolF_bd lk c0)
    obtain ⟨g0, g1, g2, g3, g4, gl, gf⟩ := hK.o5
    obtain ⟨c, hc⟩ : ∃ c, c = coolK lk a k := ⟨_, rfl⟩
    have HKF := Lib.hid (show coolK lk a (k + 1) = coolF lk c by rw [hc]; rfl)
    rw [← hc] at c0 c1' HF ⊢
    have HC := Lib.hid hc
    clear hgt hK hB hc
    by_cases hle : c ≤ b
    · have hR : R = ((k : Int), 0) := by
        rw [HR.out]
        exact coolR_done a0 HGT.out (by rw [← HC.out]; exact hle)
      subst hR
      go_wp2
      go_ret2
      exact ⟨_, rfl, ⟨_, _, rfl, rfl, rfl⟩, HB.out⟩
    · obtain ⟨d, hd⟩ : ∃ d, d = coolF lk c := ⟨_, rfl⟩
      have HCX : Hid (∀ {v : Value} W, KG lk ht rc M ts L gs v W → Calls Tryd.prog 83 #[v, (.int .i64 (c))] W (KP (KV (.int .i64 (d))) W)) := Lib.hid (fun W q => by rw [hd]; exact HCO.out c W c0 (by omega) q)
      rw [← hd] at HF HKF
      obtain ⟨f1, f2⟩ := HF.out
      clear hd HCO
      by_cases he : d = c
      · have hR : R = (0, 24) := by
          rw [HR.out]
          exact coolR_stuck a0 HGT.out (by rw [← HC.out]; omega) (by rw [HKF.out, he]; exact HC.out)
        subst hR
        go_wp2_with (go_at_call 83; refine (HCX.out _ HUW.out).mono ?_; rintro r w2 ⟨v2, rfl, hk2, hb2⟩; obtain rfl := hk2; have HB2 := Lib.hid (HB.out.trans (hb2.mono HB.out.size)); clear hb2)
        go_ret2
        exact ⟨_, rfl, ⟨_, _, rfl, rfl, rfl⟩, HB2.out⟩
      · go_wp2_with (go_at_call 83; refine (HCX.out _ HUW.out).mono ?_; rintro r w2 ⟨v2, rfl, hk2, hb2⟩; obtain rfl := hk2; have HB2 := Lib.hid (HB.out.trans (hb2.mono HB.out.size)); have HK2 := Lib.hid (HK.out.below hb2); have HU2 := Lib.hid (KG.st _ _ _ _ _ _ _ _ _ _ HUW.out hb2); refine Hid.out ?_)
        unfold Hid
        clear hb2 g0 g1 g2 g3 g4 gl gf
        obtain ⟨g0, g1, g2, g3, g4, gl, gf⟩ := HK2.out.o5
        go_wp2_with (go_at_call 83; refine (HCX.out _ HU2.out).mono ?_; rintro r w3 ⟨v3, rfl, hk3, hb3⟩; obtain rfl := hk3; have HB3 := Lib.hid (HB2.out.trans (hb3.mono HB2.out.size)); have HK3 := Lib.hid (HK2.out.below hb3); clear hb3)
        have hfall := coolK_fall (to := b) a0 (k + 1) (fun j hj => by
          rcases Nat.lt_or_ge j k with h | h
          · exact HGT.out j h
          · obtain rfl : j = k := by omega
            exact ⟨by rw [← HC.out]; omega, by rw [HKF.out, ← HC.out]; exact he⟩)
        go_roundw
        case rel =>
          refine ⟨k + 1, by rw [HKF.out] at hfall; push_cast at hfall ⊢; omega, by rw [HKF.out], by go_num, fun j hj => ?_, HK3.out, HB3.out⟩
          rcases Nat.lt_or_ge j k with h | h
          · exact HGT.out j h
          · obtain rfl : j = k := by omega
            exact ⟨by rw [← HC.out]; omega, by rw [HKF.out, ← HC.out]; exact he⟩
        case measure => simp [intOf]; omega
end Go.Proofs.YtdeapbihbhoefaaDoor
