/- Part 28 of the texts of the claim: RunC, LOpP. -/
import Derived.Test.YtdeapbihbhoefaaDoorPr7
import Derived.Test.YtdeapbihbhoefaaDoorPr27
import Derived.Test.YtdeapbihbhoefaaDoorPr22
import Derived.Test.YtdeapbihbhoefaaDoorPr24
import Derived.Test.YtdeapbihbhoefaaDoorPr23

/- Run, once more: the slice of its outputs has room for them. -/
namespace Go.Proofs.YtdeapbihbhoefaaDoor
open Go.RowKit
open Calm (bcell Blk)
theorem own_cap {W : World} {base n c : Nat} {e : TypeId} {B : Option Addr} {zs : List Value} (h : W.ownsRow base e 1 (.slice B n c) n zs) : n ≤ c ∧ c ≤ maxLen := by
  rcases h.2 with ⟨h1, h2⟩ | ⟨g, cap, cur, h1, h2, h3, h4, h5, h6, h7⟩
  · cases h1
    exact ⟨Nat.le_refl _, Nat.zero_le _⟩
  · cases h1
    exact ⟨h4, h5⟩
set_option maxHeartbeats 4000000 in
set_option maxRecDepth 100000 in
theorem run_cap (lk ht rc : Int) (ts gs xs : List Int) (A1 A2 A3 : Option Addr) (c1 c2 c3 : Nat) (w : World) (hL : Lim w) (hV : Valid lk ht rc ts gs) (hT : Cells w A1 ts) (hG : Cells w A2 gs) (hX : Cells w A3 xs) (hx : inB 2048 xs) (hn : xs.length ≤ 5000) :
    Calls Tryd.prog 87 #[.agg #[(.int .i64 (lk)), (.int .i64 (ht)), .slice A1 ts.length c1, (.int .i64 (rc)), .slice A2 gs.length c2], .slice A3 xs.length c3] w fun r w' => (∃ B1 d1 B2 d2, r = .returned (.tuple #[.slice B1 xs.length d1, .slice B2 xs.length d2]) ∧ Cells w' B1 (outsK lk ht rc ts gs xs xs.length) ∧ Cells w' B2 (lvsK lk ht rc ts gs xs xs.length) ∧ xs.length ≤ d1 ∧ d1 ≤ maxLen) ∧ Below w.heap.size w w' := by
  obtain ⟨M, hM⟩ : ∃ M, M = ts.length := ⟨_, rfl⟩
  obtain ⟨L, hLL⟩ : ∃ L, L = gs.length := ⟨_, rfl⟩
  obtain ⟨N, hN⟩ : ∃ N, N = xs.length := ⟨_, rfl⟩
  obtain ⟨Q, hQ⟩ : ∃ Q, Q = ts.length - 1 := ⟨_, rfl⟩
  have HGD := Lib.hid (good_at hV hx)
  have HRS : Hid (∀ W, Calls Tryd.prog 69 #[.agg #[(.int .i64 (lk)), (.int .i64 (ht)), .slice A1 M c1, (.int .i64 (rc)), .slice A2 L c2]] W fun r w' => (∃ B, W.heap.size ≤ B.block ∧ r = .returned (.agg #[(.int .i64 ((stAt lk ht rc ts gs xs 0).h)), (.int .i64 (((stAt lk ht rc ts gs xs 0).lv : Int))), .slice (some B) Q Q]) ∧ Cells w' (some B) (stAt lk ht rc ts gs xs 0).ps) ∧ Below W.heap.size W w') := Lib.hid (fun W => by
    have h1 := hV.tl
    have h2 := hV.gl
    rw [hM, hLL, hQ]
    exact rest_any lk ht rc A1 A2 ts.length c1 gs.length c2 W (by omega) (by omega))
  have HST : Hid (∀ (W : World) (k : Nat) (A : Option Addr) (c : Nat), Lim W → Cells W A1 ts → Cells W A2 gs → Cells W A (stAt lk ht rc ts gs xs k).ps → Calls Tryd.prog 81 #[.agg #[(.int .i64 (lk)), (.int .i64 (ht)), .slice A1 M c1, (.int .i64 (rc)), .slice A2 L c2], .agg #[(.int .i64 ((stAt lk ht rc ts gs xs k).h)), (.int .i64 (((stAt lk ht rc ts gs xs k).lv : Int))), .slice A Q c], (.int .i64 (xs.getD k 0))] W fun r w' =>
      (∃ B, W.heap.size ≤ B.block ∧ r = .returned (.tuple #[(.int .i64 (outAt lk ht rc ts gs xs k)), .agg #[(.int .i64 ((stAt lk ht rc ts gs xs (k + 1)).h)), (.int .i64 (((stAt lk ht rc ts gs xs (k + 1)).lv : Int))), .slice (some B) Q Q]]) ∧ Cells w' (some B) (stAt lk ht rc ts gs xs (k + 1)).ps) ∧ Below W.heap.size W w') := Lib.hid (fun W k A c q1 q2 q3 q4 => by
    have hg := HGD.out k
    have e : Q = (stAt lk ht rc ts gs xs k).ps.length := by have := hg.pl; omega
    have h1 := hV.tl
    have h2 := hV.gl
    have h3 := hg.h
    have h4 := hV.ht
    rw [hM, hLL, e]
    exact step_any lk ht rc (stAt lk ht rc ts gs xs k).h (xs.getD k 0) (stAt lk ht rc ts gs xs k).lv ts (stAt lk ht rc ts gs xs k).ps gs A1 A2 A c1 c2 c W _ q1 hV.lk (by omega) q2 q3 q4 hg.pl (by have := hg.pl; omega) (by omega) (by omega) hg.lv hV.tb hg.pb hV.gb (inB_get hx (by omega) k) (lvF_some hV hg _))
  have HT := Lib.hid hT
  have HG := Lib.hid hG
  have HX := Lib.hid hX
  have HL := Lib.hid hL
  have HQ : Hid (∀ k, (stAt lk ht rc ts gs xs k).ps.length = Q) := Lib.hid (fun k => by have := (HGD.out k).pl; omega)
  have HN := Lib.hid hN
  rw [← hM, ← hLL, ← hN]
  rw [← hN] at hn
  clear hM hLL hN hQ hT hG hX hL hV hx
  go_enter Tryd.func87, Tryd.ntmps87
  go_wp2_with (go_at_call 69; refine (HRS.out _).mono ?_; rintro r w1 ⟨⟨B, hBb, rfl, hC1⟩, hb1⟩; refine Hid.out ?_)
  have HB1 := Lib.hid hb1
  have HC1 := Lib.hid hC1
  have K0 : Blk w1 w.heap.size #[(.int .i64 (lk)), (.int .i64 (ht)), .slice A1 M c1, (.int .i64 (rc)), .slice A2 L c2] := Blk.below (by (repeat (first | ((with_reducible refine Blk.at_ ?_); focus (first | rfl | (simp; done) | (simp; omega))) | (with_reducible refine Blk.alloc ?_ _) | (with_reducible refine Blk.below ?_ (by with_reducible assumption)) | (with_reducible refine Blk.drew ?_)))) hb1
  have hs1 := hb1.size
  simp only [World.size_alloc] at hs1
  have HB1' : Hid (Below w.heap.size w w1) := Lib.hid (Below.trans (by (repeat (first | (with_reducible exact Below.refl _ _) | ((with_reducible refine Below.setCell ?_ ?_ _); rotate_left 1; focus (first | (simp; done) | (simp; omega) | (simp at *; omega))) | ((with_reducible refine Below.alloc ?_ ?_ _); rotate_left 1; focus (first | (simp; done) | (simp; omega) | (simp at *; omega))) | (with_reducible refine Below.drew ?_) | ((with_reducible refine Calm.step (by assumption) ?_ ?_); rotate_left 1; focus (first | (simp; done) | (simp; omega) | (simp at *; omega)))))) (hb1.mono (by simp)))
  have HK0 := Lib.hid K0
  clear hb1 hC1 K0 HB1
  unfold Hid
  go_wp2
  go_loopw [6, 7, 17] (fun v1 v2 i wr => ∃ (k : Nat) (A : Option Addr) (c : Nat), k ≤ N ∧ i = (.int .i64 ((k : Int))) ∧ Rows wr (w1.heap.size + 1) [(v1, outsK lk ht rc ts gs xs k), (v2, lvsK lk ht rc ts gs xs k)] ∧ Blk wr w.heap.size #[(.int .i64 (lk)), (.int .i64 (ht)), .slice A1 M c1, (.int .i64 (rc)), .slice A2 L c2] ∧
      Blk wr w1.heap.size #[(.int .i64 ((stAt lk ht rc ts gs xs k).h)), (.int .i64 (((stAt lk ht rc ts gs xs k).lv : Int))), .slice A Q c] ∧ Cells wr A (stAt lk ht rc ts gs xs k).ps ∧ (0 < Q → ∀ p, A = some p → p.block ≠ w1.heap.size) ∧ Below w.heap.size w wr) (fun _ _ i _ => N - (intOf i).toNat)
  case atStart =>
    exact ⟨0, some B, Q, Nat.zero_le _, rfl, Rows.nil2 _ _, HK0.out.alloc _, Blk.new _ _ _, HC1.out.below ((Below.refl _ _).alloc (Nat.le_refl _) _), fun h0 p hp => by
      obtain ⟨b, off, hA, hl, _⟩ := HC1.out (by rw [HQ.out]; exact h0)
      cases hp; cases hA
      show b ≠ _
      omega, HB1'.out.alloc (by omega) _⟩
  case round =>
    clear HK0
    obtain ⟨k, A, c, hk, rfl, hR, K0, K8, hCA, hAne, hB⟩ := hrel
    have HR := Lib.hid hR
    have HCA := Lib.hid hCA
    have HB := Lib.hid hB
    have hsz := hB.size
    clear hR hCA
    by_cases hlt : k < N
    · obtain ⟨b3, o3, rfl, l3, k3⟩ := HX.out (by rw [← HN.out]; omega)
      have x3 := (hB.cell (p := ⟨b3, o3 + k, none⟩) l3).trans (k3 k (by rw [← HN.out]; exact hlt))
      have HLr := Lib.hid (HL.out.below hB)
      have HTr := Lib.hid (HT.out.below hB)
      have HGr := Lib.hid (HG.out.below hB)
      have HS1 := HST.out wr k A c HLr.out HTr.out HGr.out HCA.out
      have HO := Lib.hid (outsK_succ lk ht rc ts gs xs k)
      have HLV := Lib.hid (lvsK_succ lk ht rc ts gs xs k)
      have hrow : ∀ j, (u6.ownBlock = some j ∨ u7.ownBlock = some j) → j < wr.heap.size := fun j hj => by
        rcases hj with hj | hj
        · exact ((HR.out.1 (u6, outsK lk ht rc ts gs xs k) (by simp)).lt j hj).2
        · exact ((HR.out.1 (u7, lvsK lk ht rc ts gs xs k) (by simp)).lt j hj).2
      have hlv : (stAt lk ht rc ts gs xs (k + 1)).lv = lvAt lk ht rc ts gs xs k := rfl
      rw [hlv] at HS1
      obtain ⟨X, hX⟩ : ∃ X, X = xs.getD k 0 := ⟨_, rfl⟩
      obtain ⟨Y, hY⟩ : ∃ Y, Y = outAt lk ht rc ts gs xs k := ⟨_, rfl⟩
      obtain ⟨V, hV⟩ : ∃ V, V = lvAt lk ht rc ts gs xs k := ⟨_, rfl⟩
      rw [← hX, ← hY, ← hV] at HS1
      rw [← hX] at x3
      have HY := Lib.hid hY
      have HV := Lib.hid hV
      have HLVE := Lib.hid hlv
      have HSS := Lib.hid HS1
      obtain ⟨c00, c01, c02, c03, c04, l0, f0⟩ := K0.o5
      obtain ⟨c10, c11, c12, l10, f1⟩ := K8.o3
      have hw1r : w1.heap.size < wr.heap.size := l10
      have HK0 := Lib.hid K0
      have HK8 := Lib.hid K8
      have HROW := Lib.hid hrow
      have HANE := Lib.hid hAne
      clear k3 hX hY hV hlv HS1 K0 K8 hB hrow hAne
      go_wp2_with (go_at_call 81; refine HSS.out.mono ?_; rintro r w2 ⟨⟨B2, hBb2, rfl, hC2⟩, hb2⟩; have hs2 := hb2.size; have HC2 := Lib.hid hC2; have HB2 := Lib.hid hb2; clear hC2 hb2)
      refine name_world ?_
      intro w4 e4
      have hN4 : w2.heap.size < w4.heap.size := by rw [e4]; simp
      have hb4 : Below w2.heap.size w2 w4 := by rw [e4]; exact (Below.refl _ _).alloc (Nat.le_refl _) _
      have hR4 := (HR.out.below HB2.out).below hb4
      have KN : Blk w4 w2.heap.size #[(.int .i64 ((stAt lk ht rc ts gs xs (k + 1)).h)), (.int .i64 ((V : Int))), .slice (some B2) Q Q] := by rw [e4]; exact Blk.new _ _ _
      have HK04 := Lib.hid ((HK0.out.below HB2.out).below hb4)
      have HK84 := Lib.hid ((HK8.out.below HB2.out).below hb4)
      have HC4 := Lib.hid (HC2.out.below hb4)
      have HCL : Hid (0 < Q → B2.block < w4.heap.size) := Lib.hid (fun h0 => by
        obtain ⟨b, off, hA, hl, _⟩ := HC4.out (by rw [HQ.out]; exact h0)
        cases hA; exact hl)
      have HBA4 := Lib.hid (HB.out.trans ((HB2.out.trans (hb4.mono hs2)).mono hsz))
      have hsb : w1.heap.size + 1 ≤ w4.heap.size := by omega
      obtain ⟨T, R1, R2, t0, t1, t2, p1, p2, pf⟩ := pair_grw (w1.heap.size + 1) u6 u7 _ _ [] Y (V : Int) w4 hR4 hsb (by rw [outsK_len]; omega) (by rw [lvsK_len]; omega)
      have T0 := Lib.hid t0
      have T1 := Lib.hid t1
      have T2 := Lib.hid t2
      have P1 := Lib.hid p1
      have P2 := Lib.hid p2
      have PF := Lib.hid pf
      clear t0 t1 t2 p1 p2 pf hR4
      have hnT : ∀ j, wr.heap.size ≤ j → ∀ o, ¬ T j o := fun j hj o ho => by
        have := HROW.out j (T0.out j o ho).2
        omega
      have HNT := Lib.hid hnT
      have hTC : Hid (∀ W, Grw T w4 W → (∀ o, W.cell? ⟨w2.heap.size, o, none⟩ = w4.cell? ⟨w2.heap.size, o, none⟩) ∧ True) := Lib.hid (fun W hS => ⟨fun o => World.cell?_of_block (w := w4) (a := ⟨w2.heap.size, o, none⟩) (hS.same hN4 (hnT _ hs2)), trivial⟩)
      obtain ⟨n0, n1, n2, nl, nf⟩ := KN.o3
      clear e4 hb4 KN hnT HK0 HK8 HC2 HB2 HB HR HSS c00 c01 c02 c03 c04 l0 f0 c10 c11 c12 l10 f1 x3
      refine RelL.region3 (S := Grw T) Grw.trans Grw.drawn 12 (by kernel_rfl) (by kernel_rfl) (by kernel_rfl) ?_
      simp only [List.take_succ_cons, List.take_zero, List.drop_succ_cons, List.drop_zero, List.filterMap_cons, List.filterMap_nil]
      refine RelL.late3 Grw.refl 6 u6 rfl (by kernel_rfl) rfl (RelL.gno rfl) ?_
      (try simp only [List.nil_append, List.cons_append])
      iterate 1 (apply RelL.op3 Grw.refl; (focus (first | exact RelL.gno rfl | exact RelL.gyes _ true _ rfl rfl rfl | exact RelL.gyes _ false _ rfl rfl rfl)); (focus (intro a W x hb hd hbase; obtain ⟨hc, hf⟩ := hTC.out W hb; clear hb hf; simp [RelL.deps, RelL.dep1, Rel.ons, Region.binds, Act.eval] at hd; simp only [Act.eval, List.mem_cons, List.not_mem_nil, not_or, and_imp, or_false, Array.getD_eq_getD_getElem?] at hbase; go_simp; (try go_bits); (try rfl); done)); (try simp only [List.nil_append, List.cons_append]))
      (apply RelL.build3 (fun k o h => (T0.out k o h).1.2); (focus (first | exact RelL.gno rfl | exact RelL.gyes _ true _ rfl rfl rfl | exact RelL.gyes _ false _ rfl rfl rfl)); (focus (intro a W x hb hd hbase; obtain ⟨hc, hf⟩ := hTC.out W hb; clear hb hf; simp [RelL.deps, RelL.dep1, Rel.ons, Region.binds, Act.eval] at hd; simp only [Act.eval, List.mem_cons, List.not_mem_nil, not_or, and_imp, or_false, Array.getD_eq_getD_getElem?] at hbase; go_simp; (first | rfl | (refine ⟨⟨?_, ?_⟩, ?_⟩; rfl; rfl; rfl) | (refine ⟨?_, ?_⟩; rfl; rfl)))); (try simp only [List.nil_append, List.cons_append]))
      refine RelL.app3 (fun _ => R1) (fun _ => T1.out) RelL.loc_const (.tmp 28) (.tmp 30) 22 rfl (RelL.gno rfl) ?_ ?_
      · intro a W x hb hd hbase
        simp [RelL.deps, RelL.dep1, Rel.ons, Region.binds] at hd
        obtain ⟨⟨_, hs⟩, ⟨_, hx⟩⟩ := hd
        obtain ⟨g, hxv, _, hxk⟩ := hx
        rw [hs, hxv]
        exact P1.out W hb g 1 (hxk.cell 0 _ rfl)
      (try simp only [List.nil_append, List.cons_append])
      refine RelL.late3 Grw.refl 7 u7 rfl (by kernel_rfl) rfl (RelL.gno rfl) ?_
      (try simp only [List.nil_append, List.cons_append])
      iterate 2 (apply RelL.op3 Grw.refl; (focus (first | exact RelL.gno rfl | exact RelL.gyes _ true _ rfl rfl rfl | exact RelL.gyes _ false _ rfl rfl rfl)); (focus (intro a W x hb hd hbase; obtain ⟨hc, hf⟩ := hTC.out W hb; clear hb hf; simp [RelL.deps, RelL.dep1, Rel.ons, Region.binds, Act.eval] at hd; simp only [Act.eval, List.mem_cons, List.not_mem_nil, not_or, and_imp, or_false, Array.getD_eq_getD_getElem?] at hbase; go_simp; (try go_bits); (try rfl); done)); (try simp only [List.nil_append, List.cons_append]))
      (apply RelL.build3 (fun k o h => (T0.out k o h).1.2); (focus (first | exact RelL.gno rfl | exact RelL.gyes _ true _ rfl rfl rfl | exact RelL.gyes _ false _ rfl rfl rfl)); (focus (intro a W x hb hd hbase; obtain ⟨hc, hf⟩ := hTC.out W hb; clear hb hf; simp [RelL.deps, RelL.dep1, Rel.ons, Region.binds, Act.eval] at hd; simp only [Act.eval, List.mem_cons, List.not_mem_nil, not_or, and_imp, or_false, Array.getD_eq_getD_getElem?] at hbase; go_simp; (first | rfl | (refine ⟨⟨?_, ?_⟩, ?_⟩; rfl; rfl; rfl) | (refine ⟨?_, ?_⟩; rfl; rfl)))); (try simp only [List.nil_append, List.cons_append]))
      refine RelL.app3 (fun x => R2 (x 3)) (fun x => T2.out (x 3)) (fun x y h v W hr => by have e8 : x 3 = y 3 := h { on := 3, ground := .chain } (by simp) rfl; exact (show R2 (y 3) v W from e8 ▸ (show R2 (x 3) v W from hr))) (.tmp 32) (.tmp 35) 22 rfl (RelL.gno rfl) ?_ ?_
      · intro a W x hb hd hbase
        simp [RelL.deps, RelL.dep1, Rel.ons, Region.binds] at hd
        obtain ⟨⟨_, hs⟩, ⟨_, hx⟩, h8, hv1⟩ := hd
        obtain ⟨g, hxv, _, hxk⟩ := hx
        rw [hs, hxv, h8]
        exact P2.out W _ hb hv1 g 1 (hxk.cell 0 _ rfl)
      (try simp only [List.nil_append, List.cons_append])
      iterate 1 (apply RelL.op3 Grw.refl; (focus (first | exact RelL.gno rfl | exact RelL.gyes _ true _ rfl rfl rfl | exact RelL.gyes _ false _ rfl rfl rfl)); (focus (intro a W x hb hd hbase; obtain ⟨hc, hf⟩ := hTC.out W hb; clear hb hf; simp [RelL.deps, RelL.dep1, Rel.ons, Region.binds, Act.eval] at hd; simp only [Act.eval, List.mem_cons, List.not_mem_nil, not_or, and_imp, or_false, Array.getD_eq_getD_getElem?] at hbase; go_simp; (try go_bits); (try rfl); done)); (try simp only [List.nil_append, List.cons_append]))
      refine RelL.opW3 (fun x u _ => u = x 3) (fun _ _ _ _ h _ => h) (fun x y h v W hr => hr.trans (h { on := 3, ground := .data } (by simp) rfl)) (RelL.gno rfl) ?_ ?_
      · intro a W x hb hd hbase
        simp [RelL.deps, RelL.dep1, Rel.ons, Region.binds, Act.eval] at hd
        refine ⟨x 3, W, ?_, rfl, Grw.refl W⟩
        obtain ⟨⟨h3, _⟩, _⟩ := hd
        unfold execOp
        simp [Act.eval, h3]
      (try simp only [List.nil_append, List.cons_append])
      refine RelL.opW3 (fun x u _ => u = x 8) (fun _ _ _ _ h _ => h) (fun x y h v W hr => hr.trans (h { on := 8, ground := .data } (by simp) rfl)) (RelL.gno rfl) ?_ ?_
      · intro a W x hb hd hbase
        simp [RelL.deps, RelL.dep1, Rel.ons, Region.binds, Act.eval] at hd
        refine ⟨x 8, W, ?_, rfl, Grw.refl W⟩
        obtain ⟨⟨h3, _⟩, _⟩ := hd
        unfold execOp
        simp [Act.eval, h3]
      (try simp only [List.nil_append, List.cons_append])
      refine RelL.done3 ?_
      intro x WR hRR hx
      simp only [RelL.facts, Nat.zero_add, Nat.reduceAdd] at hx
      obtain ⟨e0, e1, e2, r1, e4, e5, e6, e7, r2, e9, e10, e11, _⟩ := hx
      simp only [RelL.fill, Nat.zero_add, Nat.reduceAdd, e0, e1, e4, e5, e6, e9, e10, e11]
      simp only [Act.put, List.setIfInBounds_toArray, List.set_cons_zero, List.set_cons_succ]
      have hbR : Below (w1.heap.size + 1) w4 WR := hRR.below (fun k o hk => (T0.out k o hk).1.1) hsb
      have hRN := Lib.hid (PF.out WR _ _ hRR r1 r2)
      have K8 := HK84.out.upto hbR (by omega)
      have K0 := HK04.out.upto hbR (by omega)
      have HBAR : Hid (Below w.heap.size w WR) := Lib.hid (HBA4.out.trans (hbR.mono (by omega)))
      have HCR : Hid (Cells WR (some B2) (stAt lk ht rc ts gs xs (k + 1)).ps) := Lib.hid (by
        intro h0
        have hl := HCL.out (by rw [← HQ.out (k + 1)]; exact h0)
        obtain ⟨b, off, hA, _, hc⟩ := HC4.out h0
        cases hA
        have e := hRR.same hl (HNT.out _ hBb2)
        exact ⟨b, off, rfl, Nat.lt_of_lt_of_le hl hRR.size, fun j hj => (World.cell?_of_block (w := w4) (a := ⟨b, off + j, none⟩) e).trans (hc j hj)⟩)
      clear e0 e1 e2 r1 e4 e5 e6 e7 r2 e9 e10 e11 hRR hbR T0 T1 T2 P1 P2 PF HNT hTC n0 n1 n2 nl nf HK84 HK04 HBA4 HC4 HCL HROW
      obtain ⟨v1, hv1⟩ : ∃ v, v = x 3 := ⟨_, rfl⟩
      obtain ⟨v2, hv2⟩ : ∃ v, v = x 8 := ⟨_, rfl⟩
      rw [← hv1, ← hv2] at hRN
      simp only [← hv1, ← hv2]
      clear hv1 hv2
      obtain ⟨d10, d11, d12, m1, g1⟩ := K8.o3
      have HK8 := Lib.hid K8
      have HK0 := Lib.hid K0
      clear K8 K0
      go_wp2
      go_roundw
      case rel =>
        have q1 : 0 < (stAt lk ht rc ts gs xs (k + 1)).ps.length → ∀ p, some B2 = some p → p.block ≠ w1.heap.size := fun _ p hp => by cases hp; omega
        exact ⟨k + 1, some B2, Q, by omega, by go_num, by rw [HO.out, HLV.out, ← HY.out, ← HV.out]; exact ((hRN.out.setCell (by simp) _).setCell (by simp) _).setCell (by simp) _,
          ((HK0.out.far (by simp; omega) _).far (by simp; omega) _).far (by simp; omega) _, by rw [HLVE.out, ← HV.out]; exact HK8.out.set3 _ _ _, ((HCR.out.sets q1 _ _).sets q1 _ _).sets q1 _ _, fun _ p hp => by cases hp; omega,
          ((HBAR.out.setCell (by simp; omega) _).setCell (by simp; omega) _).setCell (by simp; omega) _⟩
      case measure => simp [intOf]; omega
    · obtain rfl : k = N := by omega
      have hr1 := HR.out.1 (u6, outsK lk ht rc ts gs xs k) (by simp)
      have hr2 := HR.out.1 (u7, lvsK lk ht rc ts gs xs k) (by simp)
      unfold OwnI at hr1 hr2
      rw [outsK_len] at hr1
      rw [lvsK_len] at hr2
      obtain ⟨B1, d1, rfl, _, hc1⟩ := own_ints hr1 (outsK_len _ _ _ _ _ _ _).symm
      have hcap := Lib.hid (own_cap hr1)
      obtain ⟨B2, d2, rfl, _, hc2⟩ := own_ints hr2 (lvsK_len _ _ _ _ _ _ _).symm
      have H1 := Lib.hid hc1
      have H2 := Lib.hid hc2
      clear hr1 hr2 hc1 hc2 hB K0 K8
      go_wp2
      exact bodyPost_ret (v := .tuple #[.slice B1 k d1, .slice B2 k d2]) (by simp [results, Tryd.results87, go_sem]) rfl (by first | exact ⟨⟨B1, d1, B2, ⟨d2, rfl⟩, H1.out, H2.out, hcap.out⟩, HB.out⟩ | exact ⟨⟨B1, d1, B2, d2, rfl, H1.out, H2.out, hcap.out⟩, HB.out⟩ | (refine ⟨⟨B1, d1, ⟨B2, d2, rfl⟩, H1.out, H2.out, hcap.out⟩, HB.out⟩))
theorem run_okc (lk ht rc : Int) (ts gs xs : List Int) (A1 A2 A3 : Option Addr) (c1 c2 c3 : Nat) (w : World) (hL : Lim w) (hV : Valid lk ht rc ts gs) (hT : Cells w A1 ts) (hG : Cells w A2 gs) (hX : Cells w A3 xs) (hx : inB 2048 xs) (h1 : ts.length ≤ 5000) (h2 : gs.length ≤ 5000) (h3 : xs.length ≤ 5000)
    (he : runErr lk ht rc ts gs xs = 0) :
    Calls Tryd.prog 40 #[.agg #[(.int .i64 (lk)), (.int .i64 (ht)), .slice A1 ts.length c1, (.int .i64 (rc)), .slice A2 gs.length c2], .slice A3 xs.length c3] w fun r w' => (∃ B d, r = .returned (.tuple #[.slice B xs.length d, (.int .i64 (0))]) ∧ Cells w' B (outsK lk ht rc ts gs xs xs.length) ∧ xs.length ≤ d ∧ d ≤ maxLen) ∧ Below w.heap.size w w' := by
  have HCR : Hid (∀ W, Cells W A1 ts → Cells W A2 gs → Cells W A3 xs → Calls Tryd.prog 86 #[.agg #[(.int .i64 (lk)), (.int .i64 (ht)), .slice A1 ts.length c1, (.int .i64 (rc)), .slice A2 gs.length c2], .slice A3 xs.length c3] W fun r w' => r = .returned (.int .i64 (0)) ∧ Below W.heap.size W w') := Lib.hid (fun W q1 q2 q3 => by
    have := checkRun_any lk ht rc ts gs xs A1 A2 A3 c1 c2 c3 W q1 q2 q3 h1 h2 h3
    rwa [he] at this)
  have HR : Hid (∀ W, Lim W → Cells W A1 ts → Cells W A2 gs → Cells W A3 xs → Calls Tryd.prog 87 #[.agg #[(.int .i64 (lk)), (.int .i64 (ht)), .slice A1 ts.length c1, (.int .i64 (rc)), .slice A2 gs.length c2], .slice A3 xs.length c3] W fun r w' => (∃ B1 d1 B2 d2, r = .returned (.tuple #[.slice B1 xs.length d1, .slice B2 xs.length d2]) ∧ Cells w' B1 (outsK lk ht rc ts gs xs xs.length) ∧ Cells w' B2 (lvsK lk ht rc ts gs xs xs.length) ∧ xs.length ≤ d1 ∧ d1 ≤ maxLen) ∧ Below W.heap.size W w') :=
    Lib.hid (fun W q0 q1 q2 q3 => run_cap lk ht rc ts gs xs A1 A2 A3 c1 c2 c3 W q0 hV q1 q2 q3 hx h3)
  have HT := Lib.hid hT
  have HG := Lib.hid hG
  have HX := Lib.hid hX
  have HL := Lib.hid hL
  generalize xs.length = N at *
  generalize ts.length = M at *
  generalize gs.length = L at *
  clear hT hG hX hL hV hx he
  go_enter Tryd.func40, Tryd.ntmps40
  go_wp2_with (first
    | (go_at_call 86; refine (HCR.out _ (HT.out.below (by (repeat (first | (with_reducible exact Below.refl _ _) | ((with_reducible refine Below.setCell ?_ ?_ _); rotate_left 1; focus (first | (simp; done) | (simp; omega) | (simp at *; omega))) | ((with_reducible refine Below.alloc ?_ ?_ _); rotate_left 1; focus (first | (simp; done) | (simp; omega) | (simp at *; omega))) | (with_reducible refine Below.drew ?_) | ((with_reducible refine Calm.step (by assumption) ?_ ?_); rotate_left 1; focus (first | (simp; done) | (simp; omega) | (simp at *; omega))))))) (HG.out.below (by (repeat (first | (with_reducible exact Below.refl _ _) | ((with_reducible refine Below.setCell ?_ ?_ _); rotate_left 1; focus (first | (simp; done) | (simp; omega) | (simp at *; omega))) | ((with_reducible refine Below.alloc ?_ ?_ _); rotate_left 1; focus (first | (simp; done) | (simp; omega) | (simp at *; omega))) | (with_reducible refine Below.drew ?_) | ((with_reducible refine Calm.step (by assumption) ?_ ?_); rotate_left 1; focus (first | (simp; done) | (simp; omega) | (simp at *; omega))))))) (HX.out.below (by (repeat (first | (with_reducible exact Below.refl _ _) | ((with_reducible refine Below.setCell ?_ ?_ _); rotate_left 1; focus (first | (simp; done) | (simp; omega) | (simp at *; omega))) | ((with_reducible refine Below.alloc ?_ ?_ _); rotate_left 1; focus (first | (simp; done) | (simp; omega) | (simp at *; omega))) | (with_reducible refine Below.drew ?_) | ((with_reducible refine Calm.step (by assumption) ?_ ?_); rotate_left 1; focus (first | (simp; done) | (simp; omega) | (simp at *; omega)))))))).mono ?_; rintro r w1 ⟨rfl, hb1⟩; have HB1 := Lib.hid (show Below w.heap.size w w1 from Below.trans (by (repeat (first | (with_reducible exact Below.refl _ _) | ((with_reducible refine Below.setCell ?_ ?_ _); rotate_left 1; focus (first | (simp; done) | (simp; omega) | (simp at *; omega))) | ((with_reducible refine Below.alloc ?_ ?_ _); rotate_left 1; focus (first | (simp; done) | (simp; omega) | (simp at *; omega))) | (with_reducible refine Below.drew ?_) | ((with_reducible refine Calm.step (by assumption) ?_ ?_); rotate_left 1; focus (first | (simp; done) | (simp; omega) | (simp at *; omega)))))) (hb1.mono (by simp))); have K0 : Blk w1 w.heap.size #[(.int .i64 (lk)), (.int .i64 (ht)), .slice A1 M c1, (.int .i64 (rc)), .slice A2 L c2] := Blk.below (by (repeat (first | ((with_reducible refine Blk.at_ ?_); focus (first | rfl | (simp; done) | (simp; omega))) | (with_reducible refine Blk.alloc ?_ _) | (with_reducible refine Blk.below ?_ (by with_reducible assumption)) | (with_reducible refine Blk.drew ?_)))) hb1; obtain ⟨c00, c01, c02, c03, c04, l0, f0⟩ := K0.o5; clear hb1 K0)
    | (go_at_call 87; refine (HR.out _ (HL.out.below HB1.out) (HT.out.below HB1.out) (HG.out.below HB1.out) (HX.out.below HB1.out)).mono ?_; rintro r w2 ⟨⟨B1, d1, B2, d2, rfl, hc1, _, hcp⟩, hb2⟩; have HC1 := Lib.hid hc1; have HCP := Lib.hid hcp; have HB2 := Lib.hid (HB1.out.trans (hb2.mono HB1.out.size)); clear hb2 hc1 hcp))
  exact bodyPost_ret (v := .tuple #[.slice B1 N d1, (.int .i64 (0))]) (by simp [results, Tryd.results40, go_sem]) rfl (by first | exact ⟨⟨B1, d1, rfl, HC1.out, HCP.out⟩, HB2.out⟩ | exact ⟨⟨B1, ⟨d1, rfl⟩, HC1.out, HCP.out⟩, HB2.out⟩)
end Go.Proofs.YtdeapbihbhoefaaDoor

/- Contracts of the program as ProtectOpposite wants them. -/
namespace Go.Proofs.YtdeapbihbhoefaaDoor
open Go.RowKit
open Calm (bcell Blk)
theorem Cells.setAt {w : World} {b o : Nat} {zs : List Int} (h : Cells w (some ⟨b, o, none⟩) zs) {k : Nat} (hk : k < zs.length) (v : Int) : Cells (w.setCell ⟨b, o + k, none⟩ (.int .i64 (v))) (some ⟨b, o, none⟩) (zs.set k v) := by
  intro h0
  obtain ⟨b', o', hA, hl, hc⟩ := h (by omega)
  cases hA
  refine ⟨b, o, rfl, by simpa using hl, fun j hj => ?_⟩
  have hj' : j < zs.length := by simpa using hj
  by_cases hjk : j = k
  · subst hjk
    rw [World.cell?_setCell_same' _ _ _ (by rw [hc j hj']; rfl)]
    simp [List.getD_eq_getElem?_getD, hk]
  · rw [World.cell?_setCell_other _ _ _ _ (by intro e; have e2 := congrArg Addr.off e; simp at e2; omega), hc j hj']
    simp [List.getD_eq_getElem?_getD, List.getElem?_set, hj', show ¬ k = j by omega]
theorem xSignal_K {n : Nat} {l : List Int} {u : Value} {W : World} (hn : n = l.length) (h5 : n ≤ 5000) (hu : KS n l u W) : Calls Tryd.prog 44 #[u] W (KP (KV (.int .i64 (sigErr l))) W) := by
  obtain ⟨A, c, rfl, hC⟩ := hu
  subst hn
  exact (pSignal_any l A c W hC h5).mono fun e W' ⟨k1, k2⟩ => ⟨_, k1, rfl, k2 ▸ Below.refl _ _⟩
theorem runErr_ok {lk ht rc : Int} {ts gs xs : List Int} (h1 : guardErr lk ht rc ts gs = 0) (h2 : sigErr xs = 0) : runErr lk ht rc ts gs xs = 0 := by
  unfold runErr
  exact firstOf_eq_zero.2 (by simp [h1, h2])
section
variable {lk ht rc : Int} {ts gs xs : List Int} {M L N : Nat} {a y : Value} {W : World} (hM : M = ts.length) (hL : L = gs.length) (hN : N = xs.length) (h1 : M ≤ 1000) (h2 : L ≤ 1000) (h3 : N ≤ 5000) (hLim : Lim W) (hu : KG lk ht rc M ts L gs a W) (hv : KS N xs y W) (g1 : guardErr lk ht rc ts gs = 0) (g2 : sigErr xs = 0)
include hM hL hN h1 h2 h3 hLim hu hv g1 g2
theorem xRun_ok : Calls Tryd.prog 40 #[a, y] W (KP (K2 (KS N (outsK lk ht rc ts gs xs N)) (KV (.int .i64 (0)))) W) := by
  have e0 := runErr_ok (lk := lk) (ht := ht) (rc := rc) (ts := ts) (gs := gs) g1 g2
  have e : runR lk ht rc ts gs xs = outsK lk ht rc ts gs xs N := by rw [hN]; exact if_pos e0
  have := cRun (N2 := N) hM hL hN h1 h2 h3 hLim hu hv (by rw [e]; exact (outsK_len _ _ _ _ _ _ _).symm)
  rwa [e, e0] at this
theorem xLevels_ok : Calls Tryd.prog 42 #[a, y] W (KP (K2 (KS N (lvsK lk ht rc ts gs xs N)) (KV (.int .i64 (0)))) W) := by
  have e0 := runErr_ok (lk := lk) (ht := ht) (rc := rc) (ts := ts) (gs := gs) g1 g2
  have e : lvsR lk ht rc ts gs xs = lvsK lk ht rc ts gs xs N := by rw [hN]; exact if_pos e0
  have := cLevels (N2 := N) hM hL hN h1 h2 h3 hLim hu hv (by rw [e]; exact (lvsK_len _ _ _ _ _ _ _).symm)
  rwa [e, e0] at this
end
theorem xPeaks_ok {lk ht rc : Int} {ts gs xs : List Int} {M L N : Nat} {a y : Value} {W : World} (hM : M = ts.length) (hL : L = gs.length) (hN : N = xs.length) (h1 : M ≤ 1000) (h2 : L ≤ 1000) (h3 : N ≤ 5000) (hu : KG lk ht rc M ts L gs a W) (hv : KS N xs y W) (g1 : guardErr lk ht rc ts gs = 0) (g2 : sigErr xs = 0) :
    Calls Tryd.prog 43 #[a, y] W (KP (K2 (KV (.agg #[(.int .i64 (pkH lk xs N)), (.int .i64 (pkX ts xs N))])) (KV (.int .i64 (0)))) W) := by
  have e0 := runErr_ok (lk := lk) (ht := ht) (rc := rc) (ts := ts) (gs := gs) g1 g2
  have := cPeaks hM hL hN h1 h2 h3 hu hv
  rwa [show pkHR lk ht rc ts gs xs = pkH lk xs N by rw [hN]; exact if_pos e0, show pkXR lk ht rc ts gs xs = pkX ts xs N by rw [hN]; exact if_pos e0, e0] at this
/-- a slice with room for what it holds. -/
def KSC (n : Nat) (l : List Int) : Rel.Know := fun u W => ∃ B c, u = .slice B n c ∧ Cells W B l ∧ n ≤ c ∧ c ≤ maxLen
theorem xRun_cap {lk ht rc : Int} {ts gs xs : List Int} {M L N : Nat} {a y : Value} {W : World} (hM : M = ts.length) (hL : L = gs.length) (hN : N = xs.length) (h1 : M ≤ 1000) (h2 : L ≤ 1000) (h3 : N ≤ 5000) (hLim : Lim W) (hu : KG lk ht rc M ts L gs a W) (hv : KS N xs y W) (g1 : guardErr lk ht rc ts gs = 0) (g2 : sigErr xs = 0) :
    Calls Tryd.prog 40 #[a, y] W (KP (K2 (KSC N (outsK lk ht rc ts gs xs N)) (KV (.int .i64 (0)))) W) := by
  obtain ⟨A1, c1, A2, c2, rfl, hT, hG⟩ := hu
  obtain ⟨A3, c3, rfl, hX⟩ := hv
  subst hM hL hN
  exact (run_okc lk ht rc ts gs xs A1 A2 A3 c1 c2 c3 W hLim (guard_valid g1) hT hG hX (sigErr_in g2) (by omega) (by omega) h3 (runErr_ok g1 g2)).mono fun e W' ⟨⟨B, d, h, hc, hd1, hd2⟩, hb⟩ => ⟨_, h, ⟨_, _, rfl, ⟨_, _, rfl, hc, hd1, hd2⟩, rfl⟩, hb⟩
theorem crErr_ok {lk ht rc : Int} {ts gs xs os : List Int} (h1 : guardErr lk ht rc ts gs = 0) (h2 : sigErr xs = 0) (h3 : sigErr os = 0) (h4 : xs.length = os.length) : crErr lk ht rc ts gs xs os = 0 := by
  unfold crErr
  refine firstOf_eq_zero.2 (fun e he => ?_)
  simp only [List.mem_cons, List.not_mem_nil, or_false] at he
  rcases he with rfl | rfl | rfl | rfl <;> first | assumption | exact runErr_ok h1 h2 | (simp [h4])
section
variable {lk ht rc : Int} {ts gs xs os : List Int} {M L N : Nat} {a y z : Value} {W : World} (hM : M = ts.length) (hL : L = gs.length) (hN : N = xs.length) (hN2 : N = os.length) (h1 : M ≤ 1000) (h2 : L ≤ 1000) (h3 : N ≤ 5000) (hLim : Lim W) (hu : KG lk ht rc M ts L gs a W) (hv : KS N xs y W) (hz : KS N os z W) (g1 : guardErr lk ht rc ts gs = 0) (g2 : sigErr xs = 0) (g3 : sigErr os = 0)
include hM hL hN hN2 h1 h2 h3 hLim hu hv hz g1 g2 g3
theorem xCheckRun_ok (e : outsK lk ht rc ts gs xs N = os) : Calls Tryd.prog 65 #[a, y, z] W (KP (KV (.int .i64 (0))) W) := by
  have e0 := crErr_ok (lk := lk) (ht := ht) (rc := rc) g1 g2 g3 (by omega)
  have := cCheckRun hM hL hN hN2 h1 h2 h3 h3 hLim hu hv hz
  rwa [show crR lk ht rc ts gs xs os = 0 by unfold crR; rw [if_pos e0, if_pos (by rw [← hN]; exact e)]] at this
theorem xCheckRun_no (e : outsK lk ht rc ts gs xs N ≠ os) : Calls Tryd.prog 65 #[a, y, z] W (KP (KV (.int .i64 (22))) W) := by
  have e0 := crErr_ok (lk := lk) (ht := ht) (rc := rc) g1 g2 g3 (by omega)
  have := cCheckRun hM hL hN hN2 h1 h2 h3 h3 hLim hu hv hz
  rwa [show crR lk ht rc ts gs xs os = 22 by unfold crR; rw [if_pos e0, if_neg (by rw [← hN]; exact e)]] at this
end
theorem own_one {W W' : World} {n : Nat} {v : Value} {xs : List Int} (h : W'.ownsRow W.heap.size 3 1 v n (xs.map (Value.int .i64))) (hn : n = xs.length) (h0 : 0 < n) (hb : Below W.heap.size W W') :
    ∃ g c, Ending.returned v = .returned (.slice (some ⟨g, 0, none⟩) n c) ∧ W.heap.size ≤ g ∧ g < W'.heap.size ∧ (∀ i, W'.frozen? ⟨g, i, none⟩ = false) ∧ Cells W' (some ⟨g, 0, none⟩) xs ∧ Below W.heap.size W W' := by
  obtain ⟨A', c', e, _, hC'⟩ := own_ints h hn
  rcases h.2 with ⟨e1, e2⟩ | ⟨g, cap, cur, e1, e2, e3, _⟩
  · omega
  · rw [e1] at e
    cases e
    have hq := Calm.Blk.row e3
    exact ⟨g, c', by rw [e1], e2, hq.lt, hq.f, hC', hb⟩
set_option maxHeartbeats 1000000 in
theorem ints_O {n : Nat} {xs : List Int} {u : Value} {W : World} (hn : n = xs.length) (h5 : n ≤ 100000) (h0 : 0 < n) (hu : KS n xs u W) :
    Calls Tryd.prog 41 #[u] W fun e W' => ∃ g c, e = .returned (.slice (some ⟨g, 0, none⟩) n c) ∧ W.heap.size ≤ g ∧ g < W'.heap.size ∧ (∀ i, W'.frozen? ⟨g, i, none⟩ = false) ∧ Cells W' (some ⟨g, 0, none⟩) xs ∧ Below W.heap.size W W' := by
  obtain ⟨A, c, rfl, hC⟩ := hu
  have HC := Lib.hid hC
  have HN := Lib.hid hn
  clear hC hn
  go_enter Tryd.func41, Tryd.ntmps41
  go_wp2_with (at_builtin; refine wpList_appC rfl _ _ rfl W.heap.size n c A xs HN.out rfl rfl ⟨by simp, .inr ⟨_, 0, #[], rfl, Nat.le_refl _, by show (W.heap.push _)[W.heap.size]? = _; simp, Nat.le_refl _, Nat.zero_le _, by simp, by simp⟩⟩ h5 (HC.out.below ((Below.refl _ _).alloc (Nat.le_refl _) _)) ?_; intro B d w1 hb1 hown; have HB1 := Lib.hid (((Below.refl W.heap.size W).alloc (Nat.le_refl _) (.cells #[] 3)).trans (hb1.mono (by simp))); have HK := Lib.hid hown; clear hb1 hown)
  go_ret
  exact own_one HK.out HN.out h0 HB1.out
end Go.Proofs.YtdeapbihbhoefaaDoor
