/- Part 20 of the texts of the claim: RunC, N3, N4, LOpP, Kp, Sc, J6, J7, LKeP, LKe_0, LKe_1, LKe_2. -/
import Derived.Test.YtdeapbihbhoefaaDoorKe7
import Derived.Test.YtdeapbihbhoefaaDoorKe19
import Derived.Test.YtdeapbihbhoefaaDoorKe14
import Derived.Test.YtdeapbihbhoefaaDoorKe16
import Derived.Test.YtdeapbihbhoefaaDoorKe9

/- Run, once more: the slice of its outputs has room for them. -/
namespace Go.Proofs.YtdeapbihbhoefaaDoor
open Go.RowKit
open Calm (bcell Blk)
theorem own_cap {W : World} {base n c : Nat} {e : TypeId} {B : Option Addr} {zs : List Value} (h : W.ownsRow base e 1 (.slice B n c) n zs) : n ≤ c ∧ c ≤ maxLen := by
  rcases h.2 with ⟨h1, h2⟩ | ⟨g, cap, cur, h1, h2, h3, h4, h5, h6, h7⟩
  · cases h1
    exact ⟨Nat.le_refl _, Nat.zero_le _⟩
  · cases h1
    exact ⟨h4, h5⟩
set_option maxHeartbeats 4000000 in
set_option maxRecDepth 100000 in
theorem run_cap (lk ht rc : Int) (ts gs xs : List Int) (A1 A2 A3 : Option Addr) (c1 c2 c3 : Nat) (w : World) (hL : Lim w) (hV : Valid lk ht rc ts gs) (hT : Cells w A1 ts) (hG : Cells w A2 gs) (hX : Cells w A3 xs) (hx : inB 2048 xs) (hn : xs.length ≤ 5000) :
    Calls Tryd.prog 87 #[.agg #[(.int .i64 lk), (.int .i64 ht), .slice A1 ts.length c1, (.int .i64 rc), .slice A2 gs.length c2], .slice A3 xs.length c3] w fun r w' => (∃ B1 d1 B2 d2, r = .returned (.tuple #[.slice B1 xs.length d1, .slice B2 xs.length d2]) ∧ Cells w' B1 (outsK lk ht rc ts gs xs xs.length) ∧ Cells w' B2 (lvsK lk ht rc ts gs xs xs.length) ∧ xs.length ≤ d1 ∧ d1 ≤ maxLen) ∧ Below w.heap.size w w' := by
  obtain ⟨M, hM⟩ : ∃ M, M = ts.length := ⟨_, rfl⟩
  obtain ⟨L, hLL⟩ : ∃ L, L = gs.length := ⟨_, rfl⟩
  obtain ⟨N, hN⟩ : ∃ N, N = xs.length := ⟨_, rfl⟩
  obtain ⟨Q, hQ⟩ : ∃ Q, Q = ts.length - 1 := ⟨_, rfl⟩
  have HGD := Lib.hid (good_at hV hx)
  have HRS : Hid (∀ W, Calls Tryd.prog 69 #[.agg #[(.int .i64 lk), (.int .i64 ht), .slice A1 M c1, (.int .i64 rc), .slice A2 L c2]] W fun r w' => (∃ B, W.heap.size ≤ B.block ∧ r = .returned (.agg #[(.int .i64 ((stAt lk ht rc ts gs xs 0).h)), (.int .i64 (((stAt lk ht rc ts gs xs 0).lv : Int))), .slice (some B) Q Q]) ∧ Cells w' (some B) (stAt lk ht rc ts gs xs 0).ps) ∧ Below W.heap.size W w') := Lib.hid (fun W => by
    have h1 := hV.tl
    have h2 := hV.gl
    rw [hM, hLL, hQ]
    exact rest_any lk ht rc A1 A2 ts.length c1 gs.length c2 W (by omega) (by omega))
  have HST : Hid (∀ (W : World) (k : Nat) (A : Option Addr) (c : Nat), Lim W → Cells W A1 ts → Cells W A2 gs → Cells W A (stAt lk ht rc ts gs xs k).ps → Calls Tryd.prog 81 #[.agg #[(.int .i64 lk), (.int .i64 ht), .slice A1 M c1, (.int .i64 rc), .slice A2 L c2], .agg #[(.int .i64 ((stAt lk ht rc ts gs xs k).h)), (.int .i64 (((stAt lk ht rc ts gs xs k).lv : Int))), .slice A Q c], (.int .i64 (xs.getD k 0))] W fun r w' =>
      (∃ B, W.heap.size ≤ B.block ∧ r = .returned (.tuple #[(.int .i64 (outAt lk ht rc ts gs xs k)), .agg #[(.int .i64 ((stAt lk ht rc ts gs xs (k + 1)).h)), (.int .i64 (((stAt lk ht rc ts gs xs (k + 1)).lv : Int))), .slice (some B) Q Q]]) ∧ Cells w' (some B) (stAt lk ht rc ts gs xs (k + 1)).ps) ∧ Below W.heap.size W w') := Lib.hid (fun W k A c q1 q2 q3 q4 => by
    have hg := HGD.out k
    have e : Q = (stAt lk ht rc ts gs xs k).ps.length := by have := hg.pl; omega
    have h1 := hV.tl
    have h2 := hV.gl
    have h3 := hg.h
    have h4 := hV.ht
    rw [hM, hLL, e]
    exact step_any lk ht rc (stAt lk ht rc ts gs xs k).h (xs.getD k 0) (stAt lk ht rc ts gs xs k).lv ts (stAt lk ht rc ts gs xs k).ps gs A1 A2 A c1 c2 c W _ q1 hV.lk (by omega) q2 q3 q4 hg.pl (by have := hg.pl; omega) (by omega) (by omega) hg.lv hV.tb hg.pb hV.gb (inB_get hx (by omega) k) (lvF_some hV hg _))
  have HT := Lib.hid hT
  have HG := Lib.hid hG
  have HX := Lib.hid hX
  have HL := Lib.hid hL
  have HQ : Hid (∀ k, (stAt lk ht rc ts gs xs k).ps.length = Q) := Lib.hid (fun k => by have := (HGD.out k).pl; omega)
  have HN := Lib.hid hN
  rw [← hM, ← hLL, ← hN]
  rw [← hN] at hn
  clear hM hLL hN hQ hT hG hX hL hV hx
  go_enter Tryd.func87, Tryd.ntmps87
  go_wp2_with (go_at_call 69; refine (HRS.out _).mono ?_; rintro r w1 ⟨⟨B, hBb, rfl, hC1⟩, hb1⟩; refine Hid.out ?_)
  have HB1 := Lib.hid hb1
  have HC1 := Lib.hid hC1
  have K0 : Blk w1 w.heap.size #[(.int .i64 lk), (.int .i64 ht), .slice A1 M c1, (.int .i64 rc), .slice A2 L c2] := Blk.below (by (repeat (first | ((with_reducible refine Blk.at_ ?_); focus (first | rfl | (simp; done) | (simp; omega))) | (with_reducible refine Blk.alloc ?_ _) | (with_reducible refine Blk.below ?_ (by with_reducible assumption)) | (with_reducible refine Blk.drew ?_)))) hb1
  have hs1 := hb1.size
  simp only [World.size_alloc] at hs1
  have HB1' : Hid (Below w.heap.size w w1) := Lib.hid (Below.trans (by (repeat (first | (with_reducible exact Below.refl _ _) | ((with_reducible refine Below.setCell ?_ ?_ _); rotate_left 1; focus (first | (simp; done) | (simp; omega) | (simp at *; omega))) | ((with_reducible refine Below.alloc ?_ ?_ _); rotate_left 1; focus (first | (simp; done) | (simp; omega) | (simp at *; omega))) | (with_reducible refine Below.drew ?_) | ((with_reducible refine Calm.step (by assumption) ?_ ?_); rotate_left 1; focus (first | (simp; done) | (simp; omega) | (simp at *; omega)))))) (hb1.mono (by simp)))
  have HK0 := Lib.hid K0
  clear hb1 hC1 K0 HB1
  unfold Hid
  go_wp2
  go_loopw [6, 7, 17] (fun v1 v2 i wr => ∃ (k : Nat) (A : Option Addr) (c : Nat), k ≤ N ∧ i = (.int .i64 ((k : Int))) ∧ Rows wr (w1.heap.size + 1) [(v1, outsK lk ht rc ts gs xs k), (v2, lvsK lk ht rc ts gs xs k)] ∧ Blk wr w.heap.size #[(.int .i64 lk), (.int .i64 ht), .slice A1 M c1, (.int .i64 rc), .slice A2 L c2] ∧
      Blk wr w1.heap.size #[(.int .i64 ((stAt lk ht rc ts gs xs k).h)), (.int .i64 (((stAt lk ht rc ts gs xs k).lv : Int))), .slice A Q c] ∧ Cells wr A (stAt lk ht rc ts gs xs k).ps ∧ (0 < Q → ∀ p, A = some p → p.block ≠ w1.heap.size) ∧ Below w.heap.size w wr) (fun _ _ i _ => N - (intOf i).toNat)
  case atStart =>
    exact ⟨0, some B, Q, Nat.zero_le _, rfl, Rows.nil2 _ _, HK0.out.alloc _, Blk.new _ _ _, HC1.out.below ((Below.refl _ _).alloc (Nat.le_refl _) _), fun h0 p hp => by
      obtain ⟨b, off, hA, hl, _⟩ := HC1.out (by rw [HQ.out]; exact h0)
      cases hp; cases hA
      show b ≠ _
      omega, HB1'.out.alloc (by omega) _⟩
  case round =>
    clear HK0
    obtain ⟨k, A, c, hk, rfl, hR, K0, K8, hCA, hAne, hB⟩ := hrel
    have HR := Lib.hid hR
    have HCA := Lib.hid hCA
    have HB := Lib.hid hB
    have hsz := hB.size
    clear hR hCA
    by_cases hlt : k < N
    · obtain ⟨b3, o3, rfl, l3, k3⟩ := HX.out (by rw [← HN.out]; omega)
      have x3 := (hB.cell (p := ⟨b3, o3 + k, none⟩) l3).trans (k3 k (by rw [← HN.out]; exact hlt))
      have HLr := Lib.hid (HL.out.below hB)
      have HTr := Lib.hid (HT.out.below hB)
      have HGr := Lib.hid (HG.out.below hB)
      have HS1 := HST.out wr k A c HLr.out HTr.out HGr.out HCA.out
      have HO := Lib.hid (outsK_succ lk ht rc ts gs xs k)
      have HLV := Lib.hid (lvsK_succ lk ht rc ts gs xs k)
      have hrow : ∀ j, (u6.ownBlock = some j ∨ u7.ownBlock = some j) → j < wr.heap.size := fun j hj => by
        rcases hj with hj | hj
        · exact ((HR.out.1 (u6, outsK lk ht rc ts gs xs k) (by simp)).lt j hj).2
        · exact ((HR.out.1 (u7, lvsK lk ht rc ts gs xs k) (by simp)).lt j hj).2
      have hlv : (stAt lk ht rc ts gs xs (k + 1)).lv = lvAt lk ht rc ts gs xs k := rfl
      rw [hlv] at HS1
      obtain ⟨X, hX⟩ : ∃ X, X = xs.getD k 0 := ⟨_, rfl⟩
      obtain ⟨Y, hY⟩ : ∃ Y, Y = outAt lk ht rc ts gs xs k := ⟨_, rfl⟩
      obtain ⟨V, hV⟩ : ∃ V, V = lvAt lk ht rc ts gs xs k := ⟨_, rfl⟩
      rw [← hX, ← hY, ← hV] at HS1
      rw [← hX] at x3
      have HY := Lib.hid hY
      have HV := Lib.hid hV
      have HLVE := Lib.hid hlv
      have HSS := Lib.hid HS1
      obtain ⟨c00, c01, c02, c03, c04, l0, f0⟩ := K0.o5
      obtain ⟨c10, c11, c12, l10, f1⟩ := K8.o3
      have hw1r : w1.heap.size < wr.heap.size := l10
      have HK0 := Lib.hid K0
      have HK8 := Lib.hid K8
      have HROW := Lib.hid hrow
      have HANE := Lib.hid hAne
      clear k3 hX hY hV hlv HS1 K0 K8 hB hrow hAne
      go_wp2_with (go_at_call 81; refine HSS.out.mono ?_; rintro r w2 ⟨⟨B2, hBb2, rfl, hC2⟩, hb2⟩; have hs2 := hb2.size; have HC2 := Lib.hid hC2; have HB2 := Lib.hid hb2; clear hC2 hb2)
      refine name_world ?_
      intro w4 e4
      have hN4 : w2.heap.size < w4.heap.size := by rw [e4]; simp
      have hb4 : Below w2.heap.size w2 w4 := by rw [e4]; exact (Below.refl _ _).alloc (Nat.le_refl _) _
      have hR4 := (HR.out.below HB2.out).below hb4
      have KN : Blk w4 w2.heap.size #[(.int .i64 ((stAt lk ht rc ts gs xs (k + 1)).h)), (.int .i64 ((V : Int))), .slice (some B2) Q Q] := by rw [e4]; exact Blk.new _ _ _
      have HK04 := Lib.hid ((HK0.out.below HB2.out).below hb4)
      have HK84 := Lib.hid ((HK8.out.below HB2.out).below hb4)
      have HC4 := Lib.hid (HC2.out.below hb4)
      have HCL : Hid (0 < Q → B2.block < w4.heap.size) := Lib.hid (fun h0 => by
        obtain ⟨b, off, hA, hl, _⟩ := HC4.out (by rw [HQ.out]; exact h0)
        cases hA; exact hl)
      have HBA4 := Lib.hid (HB.out.trans ((HB2.out.trans (hb4.mono hs2)).mono hsz))
      have hsb : w1.heap.size + 1 ≤ w4.heap.size := by omega
      obtain ⟨T, R1, R2, t0, t1, t2, p1, p2, pf⟩ := pair_grw (w1.heap.size + 1) u6 u7 _ _ [] Y (V : Int) w4 hR4 hsb (by rw [outsK_len]; omega) (by rw [lvsK_len]; omega)
      have T0 := Lib.hid t0
      have T1 := Lib.hid t1
      have T2 := Lib.hid t2
      have P1 := Lib.hid p1
      have P2 := Lib.hid p2
      have PF := Lib.hid pf
      clear t0 t1 t2 p1 p2 pf hR4
      have hnT : ∀ j, wr.heap.size ≤ j → ∀ o, ¬ T j o := fun j hj o ho => by
        have := HROW.out j (T0.out j o ho).2
        omega
      have HNT := Lib.hid hnT
      have hTC : Hid (∀ W, Grw T w4 W → (∀ o, W.cell? ⟨w2.heap.size, o, none⟩ = w4.cell? ⟨w2.heap.size, o, none⟩) ∧ True) := Lib.hid (fun W hS => ⟨fun o => World.cell?_of_block (w := w4) (a := ⟨w2.heap.size, o, none⟩) (hS.same hN4 (hnT _ hs2)), trivial⟩)
      obtain ⟨n0, n1, n2, nl, nf⟩ := KN.o3
      clear e4 hb4 KN hnT HK0 HK8 HC2 HB2 HB HR HSS c00 c01 c02 c03 c04 l0 f0 c10 c11 c12 l10 f1 x3
      refine RelL.region3 (S := Grw T) Grw.trans Grw.drawn 12 (by kernel_rfl) (by kernel_rfl) (by kernel_rfl) ?_
      simp only [List.take_succ_cons, List.take_zero, List.drop_succ_cons, List.drop_zero, List.filterMap_cons, List.filterMap_nil]
      refine RelL.late3 Grw.refl 6 u6 rfl (by kernel_rfl) rfl (RelL.gno rfl) ?_
      (try simp only [List.nil_append, List.cons_append])
      iterate 1 (apply RelL.op3 Grw.refl; (focus (first | exact RelL.gno rfl | exact RelL.gyes _ true _ rfl rfl rfl | exact RelL.gyes _ false _ rfl rfl rfl)); (focus (intro a W x hb hd hbase; obtain ⟨hc, hf⟩ := hTC.out W hb; clear hb hf; simp [RelL.deps, RelL.dep1, Rel.ons, Region.binds, Act.eval] at hd; simp only [Act.eval, List.mem_cons, List.not_mem_nil, not_or, and_imp, or_false, Array.getD_eq_getD_getElem?] at hbase; go_simp; (try go_bits); (try rfl); done)); (try simp only [List.nil_append, List.cons_append]))
      (apply RelL.build3 (fun k o h => (T0.out k o h).1.2); (focus (first | exact RelL.gno rfl | exact RelL.gyes _ true _ rfl rfl rfl | exact RelL.gyes _ false _ rfl rfl rfl)); (focus (intro a W x hb hd hbase; obtain ⟨hc, hf⟩ := hTC.out W hb; clear hb hf; simp [RelL.deps, RelL.dep1, Rel.ons, Region.binds, Act.eval] at hd; simp only [Act.eval, List.mem_cons, List.not_mem_nil, not_or, and_imp, or_false, Array.getD_eq_getD_getElem?] at hbase; go_simp; (first | rfl | (refine ⟨⟨?_, ?_⟩, ?_⟩; rfl; rfl; rfl) | (refine ⟨?_, ?_⟩; rfl; rfl)))); (try simp only [List.nil_append, List.cons_append]))
      refine RelL.app3 (fun _ => R1) (fun _ => T1.out) RelL.loc_const (.tmp 28) (.tmp 30) 22 rfl (RelL.gno rfl) ?_ ?_
      · intro a W x hb hd hbase
        simp [RelL.deps, RelL.dep1, Rel.ons, Region.binds] at hd
        obtain ⟨⟨_, hs⟩, ⟨_, hx⟩⟩ := hd
        obtain ⟨g, hxv, _, hxk⟩ := hx
        rw [hs, hxv]
        exact P1.out W hb g 1 (hxk.cell 0 _ rfl)
      (try simp only [List.nil_append, List.cons_append])
      refine RelL.late3 Grw.refl 7 u7 rfl (by kernel_rfl) rfl (RelL.gno rfl) ?_
      (try simp only [List.nil_append, List.cons_append])
      iterate 2 (apply RelL.op3 Grw.refl; (focus (first | exact RelL.gno rfl | exact RelL.gyes _ true _ rfl rfl rfl | exact RelL.gyes _ false _ rfl rfl rfl)); (focus (intro a W x hb hd hbase; obtain ⟨hc, hf⟩ := hTC.out W hb; clear hb hf; simp [RelL.deps, RelL.dep1, Rel.ons, Region.binds, Act.eval] at hd; simp only [Act.eval, List.mem_cons, List.not_mem_nil, not_or, and_imp, or_false, Array.getD_eq_getD_getElem?] at hbase; go_simp; (try go_bits); (try rfl); done)); (try simp only [List.nil_append, List.cons_append]))
      (apply RelL.build3 (fun k o h => (T0.out k o h).1.2); (focus (first | exact RelL.gno rfl | exact RelL.gyes _ true _ rfl rfl rfl | exact RelL.gyes _ false _ rfl rfl rfl)); (focus (intro a W x hb hd hbase; obtain ⟨hc, hf⟩ := hTC.out W hb; clear hb hf; simp [RelL.deps, RelL.dep1, Rel.ons, Region.binds, Act.eval] at hd; simp only [Act.eval, List.mem_cons, List.not_mem_nil, not_or, and_imp, or_false, Array.getD_eq_getD_getElem?] at hbase; go_simp; (first | rfl | (refine ⟨⟨?_, ?_⟩, ?_⟩; rfl; rfl; rfl) | (refine ⟨?_, ?_⟩; rfl; rfl)))); (try simp only [List.nil_append, List.cons_append]))
      refine RelL.app3 (fun x => R2 (x 3)) (fun x => T2.out (x 3)) (fun x y h v W hr => by have e8 : x 3 = y 3 := h { on := 3, ground := .chain } (by simp) rfl; exact (show R2 (y 3) v W from e8 ▸ (show R2 (x 3) v W from hr))) (.tmp 32) (.tmp 35) 22 rfl (RelL.gno rfl) ?_ ?_
      · intro a W x hb hd hbase
        simp [RelL.deps, RelL.dep1, Rel.ons, Region.binds] at hd
        obtain ⟨⟨_, hs⟩, ⟨_, hx⟩, h8, hv1⟩ := hd
        obtain ⟨g, hxv, _, hxk⟩ := hx
        rw [hs, hxv, h8]
        exact P2.out W _ hb hv1 g 1 (hxk.cell 0 _ rfl)
      (try simp only [List.nil_append, List.cons_append])
      iterate 1 (apply RelL.op3 Grw.refl; (focus (first | exact RelL.gno rfl | exact RelL.gyes _ true _ rfl rfl rfl | exact RelL.gyes _ false _ rfl rfl rfl)); (focus (intro a W x hb hd hbase; obtain ⟨hc, hf⟩ := hTC.out W hb; clear hb hf; simp [RelL.deps, RelL.dep1, Rel.ons, Region.binds, Act.eval] at hd; simp only [Act.eval, List.mem_cons, List.not_mem_nil, not_or, and_imp, or_false, Array.getD_eq_getD_getElem?] at hbase; go_simp; (try go_bits); (try rfl); done)); (try simp only [List.nil_append, List.cons_append]))
      refine RelL.opW3 (fun x u _ => u = x 3) (fun _ _ _ _ h _ => h) (fun x y h v W hr => hr.trans (h { on := 3, ground := .data } (by simp) rfl)) (RelL.gno rfl) ?_ ?_
      · intro a W x hb hd hbase
        simp [RelL.deps, RelL.dep1, Rel.ons, Region.binds, Act.eval] at hd
        refine ⟨x 3, W, ?_, rfl, Grw.refl W⟩
        obtain ⟨⟨h3, _⟩, _⟩ := hd
        unfold execOp
        simp [Act.eval, h3]
      (try simp only [List.nil_append, List.cons_append])
      refine RelL.opW3 (fun x u _ => u = x 8) (fun _ _ _ _ h _ => h) (fun x y h v W hr => hr.trans (h { on := 8, ground := .data } (by simp) rfl)) (RelL.gno rfl) ?_ ?_
      · intro a W x hb hd hbase
        simp [RelL.deps, RelL.dep1, Rel.ons, Region.binds, Act.eval] at hd
        refine ⟨x 8, W, ?_, rfl, Grw.refl W⟩
        obtain ⟨⟨h3, _⟩, _⟩ := hd
        unfold execOp
        simp [Act.eval, h3]
      (try simp only [List.nil_append, List.cons_append])
      refine RelL.done3 ?_
      intro x WR hRR hx
      simp only [RelL.facts, Nat.zero_add, Nat.reduceAdd] at hx
      obtain ⟨e0, e1, e2, r1, e4, e5, e6, e7, r2, e9, e10, e11, _⟩ := hx
      simp only [RelL.fill, Nat.zero_add, Nat.reduceAdd, e0, e1, e4, e5, e6, e9, e10, e11]
      simp only [Act.put, List.setIfInBounds_toArray, List.set_cons_zero, List.set_cons_succ]
      have hbR : Below (w1.heap.size + 1) w4 WR := hRR.below (fun k o hk => (T0.out k o hk).1.1) hsb
      have hRN := Lib.hid (PF.out WR _ _ hRR r1 r2)
      have K8 := HK84.out.upto hbR (by omega)
      have K0 := HK04.out.upto hbR (by omega)
      have HBAR : Hid (Below w.heap.size w WR) := Lib.hid (HBA4.out.trans (hbR.mono (by omega)))
      have HCR : Hid (Cells WR (some B2) (stAt lk ht rc ts gs xs (k + 1)).ps) := Lib.hid (by
        intro h0
        have hl := HCL.out (by rw [← HQ.out (k + 1)]; exact h0)
        obtain ⟨b, off, hA, _, hc⟩ := HC4.out h0
        cases hA
        have e := hRR.same hl (HNT.out _ hBb2)
        exact ⟨b, off, rfl, Nat.lt_of_lt_of_le hl hRR.size, fun j hj => (World.cell?_of_block (w := w4) (a := ⟨b, off + j, none⟩) e).trans (hc j hj)⟩)
      clear e0 e1 e2 r1 e4 e5 e6 e7 r2 e9 e10 e11 hRR hbR T0 T1 T2 P1 P2 PF HNT hTC n0 n1 n2 nl nf HK84 HK04 HBA4 HC4 HCL HROW
      obtain ⟨v1, hv1⟩ : ∃ v, v = x 3 := ⟨_, rfl⟩
      obtain ⟨v2, hv2⟩ : ∃ v, v = x 8 := ⟨_, rfl⟩
      rw [← hv1, ← hv2] at hRN
      simp only [← hv1, ← hv2]
      clear hv1 hv2
      obtain ⟨d10, d11, d12, m1, g1⟩ := K8.o3
      have HK8 := Lib.hid K8
      have HK0 := Lib.hid K0
      clear K8 K0
      go_wp2
      go_roundw
      case rel =>
        have q1 : 0 < (stAt lk ht rc ts gs xs (k + 1)).ps.length → ∀ p, some B2 = some p → p.block ≠ w1.heap.size := fun _ p hp => by cases hp; omega
        exact ⟨k + 1, some B2, Q, by omega, by go_num, by rw [HO.out, HLV.out, ← HY.out, ← HV.out]; exact ((hRN.out.setCell (by simp) _).setCell (by simp) _).setCell (by simp) _,
          ((HK0.out.far (by simp; omega) _).far (by simp; omega) _).far (by simp; omega) _, by rw [HLVE.out, ← HV.out]; exact HK8.out.set3 _ _ _, ((HCR.out.sets q1 _ _).sets q1 _ _).sets q1 _ _, fun _ p hp => by cases hp; omega,
          ((HBAR.out.setCell (by simp; omega) _).setCell (by simp; omega) _).setCell (by simp; omega) _⟩
      case measure => simp [intOf]; omega
    · obtain rfl : k = N := by omega
      have hr1 := HR.out.1 (u6, outsK lk ht rc ts gs xs k) (by simp)
      have hr2 := HR.out.1 (u7, lvsK lk ht rc ts gs xs k) (by simp)
      unfold OwnI at hr1 hr2
      rw [outsK_len] at hr1
      rw [lvsK_len] at hr2
      obtain ⟨B1, d1, rfl, _, hc1⟩ := own_ints hr1 (outsK_len _ _ _ _ _ _ _).symm
      have hcap := Lib.hid (own_cap hr1)
      obtain ⟨B2, d2, rfl, _, hc2⟩ := own_ints hr2 (lvsK_len _ _ _ _ _ _ _).symm
      have H1 := Lib.hid hc1
      have H2 := Lib.hid hc2
      clear hr1 hr2 hc1 hc2 hB K0 K8
      go_wp2
      exact bodyPost_ret (v := .tuple #[.slice B1 k d1, .slice B2 k d2]) (by simp [results, Tryd.results87, go_sem]) rfl (by first | exact ⟨⟨B1, d1, B2, ⟨d2, rfl⟩, H1.out, H2.out, hcap.out⟩, HB.out⟩ | exact ⟨⟨B1, d1, B2, d2, rfl, H1.out, H2.out, hcap.out⟩, HB.out⟩ | (refine ⟨⟨B1, d1, ⟨B2, d2, rfl⟩, H1.out, H2.out, hcap.out⟩, HB.out⟩))
theorem run_okc (lk ht rc : Int) (ts gs xs : List Int) (A1 A2 A3 : Option Addr) (c1 c2 c3 : Nat) (w : World) (hL : Lim w) (hV : Valid lk ht rc ts gs) (hT : Cells w A1 ts) (hG : Cells w A2 gs) (hX : Cells w A3 xs) (hx : inB 2048 xs) (h1 : ts.length ≤ 5000) (h2 : gs.length ≤ 5000) (h3 : xs.length ≤ 5000)
    (he : runErr lk ht rc ts gs xs = 0) :
    Calls Tryd.prog 40 #[.agg #[(.int .i64 lk), (.int .i64 ht), .slice A1 ts.length c1, (.int .i64 rc), .slice A2 gs.length c2], .slice A3 xs.length c3] w fun r w' => (∃ B d, r = .returned (.tuple #[.slice B xs.length d, (.int .i64 0)]) ∧ Cells w' B (outsK lk ht rc ts gs xs xs.length) ∧ xs.length ≤ d ∧ d ≤ maxLen) ∧ Below w.heap.size w w' := by
  have HCR : Hid (∀ W, Cells W A1 ts → Cells W A2 gs → Cells W A3 xs → Calls Tryd.prog 86 #[.agg #[(.int .i64 lk), (.int .i64 ht), .slice A1 ts.length c1, (.int .i64 rc), .slice A2 gs.length c2], .slice A3 xs.length c3] W fun r w' => r = .returned (.int .i64 0) ∧ Below W.heap.size W w') := Lib.hid (fun W q1 q2 q3 => by
    have := checkRun_any lk ht rc ts gs xs A1 A2 A3 c1 c2 c3 W q1 q2 q3 h1 h2 h3
    rwa [he] at this)
  have HR : Hid (∀ W, Lim W → Cells W A1 ts → Cells W A2 gs → Cells W A3 xs → Calls Tryd.prog 87 #[.agg #[(.int .i64 lk), (.int .i64 ht), .slice A1 ts.length c1, (.int .i64 rc), .slice A2 gs.length c2], .slice A3 xs.length c3] W fun r w' => (∃ B1 d1 B2 d2, r = .returned (.tuple #[.slice B1 xs.length d1, .slice B2 xs.length d2]) ∧ Cells w' B1 (outsK lk ht rc ts gs xs xs.length) ∧ Cells w' B2 (lvsK lk ht rc ts gs xs xs.length) ∧ xs.length ≤ d1 ∧ d1 ≤ maxLen) ∧ Below W.heap.size W w') :=
    Lib.hid (fun W q0 q1 q2 q3 => run_cap lk ht rc ts gs xs A1 A2 A3 c1 c2 c3 W q0 hV q1 q2 q3 hx h3)
  have HT := Lib.hid hT
  have HG := Lib.hid hG
  have HX := Lib.hid hX
  have HL := Lib.hid hL
  generalize xs.length = N at *
  generalize ts.length = M at *
  generalize gs.length = L at *
  clear hT hG hX hL hV hx he
  go_enter Tryd.func40, Tryd.ntmps40
  go_wp2_with (first
    | (go_at_call 86; refine (HCR.out _ (HT.out.below (by (repeat (first | (with_reducible exact Below.refl _ _) | ((with_reducible refine Below.setCell ?_ ?_ _); rotate_left 1; focus (first | (simp; done) | (simp; omega) | (simp at *; omega))) | ((with_reducible refine Below.alloc ?_ ?_ _); rotate_left 1; focus (first | (simp; done) | (simp; omega) | (simp at *; omega))) | (with_reducible refine Below.drew ?_) | ((with_reducible refine Calm.step (by assumption) ?_ ?_); rotate_left 1; focus (first | (simp; done) | (simp; omega) | (simp at *; omega))))))) (HG.out.below (by (repeat (first | (with_reducible exact Below.refl _ _) | ((with_reducible refine Below.setCell ?_ ?_ _); rotate_left 1; focus (first | (simp; done) | (simp; omega) | (simp at *; omega))) | ((with_reducible refine Below.alloc ?_ ?_ _); rotate_left 1; focus (first | (simp; done) | (simp; omega) | (simp at *; omega))) | (with_reducible refine Below.drew ?_) | ((with_reducible refine Calm.step (by assumption) ?_ ?_); rotate_left 1; focus (first | (simp; done) | (simp; omega) | (simp at *; omega))))))) (HX.out.below (by (repeat (first | (with_reducible exact Below.refl _ _) | ((with_reducible refine Below.setCell ?_ ?_ _); rotate_left 1; focus (first | (simp; done) | (simp; omega) | (simp at *; omega))) | ((with_reducible refine Below.alloc ?_ ?_ _); rotate_left 1; focus (first | (simp; done) | (simp; omega) | (simp at *; omega))) | (with_reducible refine Below.drew ?_) | ((with_reducible refine Calm.step (by assumption) ?_ ?_); rotate_left 1; focus (first | (simp; done) | (simp; omega) | (simp at *; omega)))))))).mono ?_; rintro r w1 ⟨rfl, hb1⟩; have HB1 := Lib.hid (show Below w.heap.size w w1 from Below.trans (by (repeat (first | (with_reducible exact Below.refl _ _) | ((with_reducible refine Below.setCell ?_ ?_ _); rotate_left 1; focus (first | (simp; done) | (simp; omega) | (simp at *; omega))) | ((with_reducible refine Below.alloc ?_ ?_ _); rotate_left 1; focus (first | (simp; done) | (simp; omega) | (simp at *; omega))) | (with_reducible refine Below.drew ?_) | ((with_reducible refine Calm.step (by assumption) ?_ ?_); rotate_left 1; focus (first | (simp; done) | (simp; omega) | (simp at *; omega)))))) (hb1.mono (by simp))); have K0 : Blk w1 w.heap.size #[(.int .i64 lk), (.int .i64 ht), .slice A1 M c1, (.int .i64 rc), .slice A2 L c2] := Blk.below (by (repeat (first | ((with_reducible refine Blk.at_ ?_); focus (first | rfl | (simp; done) | (simp; omega))) | (with_reducible refine Blk.alloc ?_ _) | (with_reducible refine Blk.below ?_ (by with_reducible assumption)) | (with_reducible refine Blk.drew ?_)))) hb1; obtain ⟨c00, c01, c02, c03, c04, l0, f0⟩ := K0.o5; clear hb1 K0)
    | (go_at_call 87; refine (HR.out _ (HL.out.below HB1.out) (HT.out.below HB1.out) (HG.out.below HB1.out) (HX.out.below HB1.out)).mono ?_; rintro r w2 ⟨⟨B1, d1, B2, d2, rfl, hc1, _, hcp⟩, hb2⟩; have HC1 := Lib.hid hc1; have HCP := Lib.hid hcp; have HB2 := Lib.hid (HB1.out.trans (hb2.mono HB1.out.size)); clear hb2 hc1 hcp))
  exact bodyPost_ret (v := .tuple #[.slice B1 N d1, (.int .i64 0)]) (by simp [results, Tryd.results40, go_sem]) rfl (by first | exact ⟨⟨B1, d1, rfl, HC1.out, HCP.out⟩, HB2.out⟩ | exact ⟨⟨B1, ⟨d1, rfl⟩, HC1.out, HCP.out⟩, HB2.out⟩)
end Go.Proofs.YtdeapbihbhoefaaDoor

/- The reference's Steady, Quiet, Cool. -/
namespace Go.Proofs.YtdeapbihbhoefaaDoor
open Go.RowKit
open Calm (bcell Blk)

end Go.Proofs.YtdeapbihbhoefaaDoor

/- The reference's Behind. -/
namespace Go.Proofs.YtdeapbihbhoefaaDoor
open Go.RowKit
open Calm (bcell Blk)

theorem Cells.takeN {w : World} {A : Option Addr} {zs : List Int} (h : Cells w A zs) (n : Nat) : Cells w A (zs.take n) := by
  intro h0
  obtain ⟨b, o, hA, hl, hc⟩ := h (by simp at h0; omega)
  refine ⟨b, o, hA, hl, fun k hk => ?_⟩
  have hk2 : k < n ∧ k < zs.length := by simp at hk; omega
  rw [hc k hk2.2]
  simp [List.getD, hk2.1]
namespace RelH
open Rel (ons Know)
variable {DS : List Tmp} {w0 : World} {a0 : Act} {T : Ctx → Prop} {Γ : Ctx} {o : Oper} {rest : List Oper}
end RelH

end Go.Proofs.YtdeapbihbhoefaaDoor

/- Contracts of the program as ProtectOpposite wants them. -/
namespace Go.Proofs.YtdeapbihbhoefaaDoor
open Go.RowKit
open Calm (bcell Blk)
theorem xSignal_K {n : Nat} {l : List Int} {u : Value} {W : World} (hn : n = l.length) (h5 : n ≤ 5000) (hu : KS n l u W) : Calls Tryd.prog 44 #[u] W (KP (KV (.int .i64 (sigErr l))) W) := by
  obtain ⟨A, c, rfl, hC⟩ := hu
  subst hn
  exact (pSignal_any l A c W hC h5).mono fun e W' ⟨k1, k2⟩ => ⟨_, k1, rfl, k2 ▸ Below.refl _ _⟩
theorem runErr_ok {lk ht rc : Int} {ts gs xs : List Int} (h1 : guardErr lk ht rc ts gs = 0) (h2 : sigErr xs = 0) : runErr lk ht rc ts gs xs = 0 := by
  unfold runErr
  exact firstOf_eq_zero.2 (by simp [h1, h2])
section
variable {lk ht rc : Int} {ts gs xs : List Int} {M L N : Nat} {a y : Value} {W : World} (hM : M = ts.length) (hL : L = gs.length) (hN : N = xs.length) (h1 : M ≤ 1000) (h2 : L ≤ 1000) (h3 : N ≤ 5000) (hLim : Lim W) (hu : KG lk ht rc M ts L gs a W) (hv : KS N xs y W) (g1 : guardErr lk ht rc ts gs = 0) (g2 : sigErr xs = 0)
include hM hL hN h1 h2 h3 hLim hu hv g1 g2
theorem xLevels_ok : Calls Tryd.prog 42 #[a, y] W (KP (K2 (KS N (lvsK lk ht rc ts gs xs N)) (KV (.int .i64 0))) W) := by
  have e0 := runErr_ok (lk := lk) (ht := ht) (rc := rc) (ts := ts) (gs := gs) g1 g2
  have e : lvsR lk ht rc ts gs xs = lvsK lk ht rc ts gs xs N := by rw [hN]; exact if_pos e0
  have := cLevels (N2 := N) hM hL hN h1 h2 h3 hLim hu hv (by rw [e]; exact (lvsK_len _ _ _ _ _ _ _).symm)
  rwa [e, e0] at this
end
/-- a slice with room for what it holds. -/
def KSC (n : Nat) (l : List Int) : Rel.Know := fun u W => ∃ B c, u = .slice B n c ∧ Cells W B l ∧ n ≤ c ∧ c ≤ maxLen
theorem xRun_cap {lk ht rc : Int} {ts gs xs : List Int} {M L N : Nat} {a y : Value} {W : World} (hM : M = ts.length) (hL : L = gs.length) (hN : N = xs.length) (h1 : M ≤ 1000) (h2 : L ≤ 1000) (h3 : N ≤ 5000) (hLim : Lim W) (hu : KG lk ht rc M ts L gs a W) (hv : KS N xs y W) (g1 : guardErr lk ht rc ts gs = 0) (g2 : sigErr xs = 0) :
    Calls Tryd.prog 40 #[a, y] W (KP (K2 (KSC N (outsK lk ht rc ts gs xs N)) (KV (.int .i64 0))) W) := by
  obtain ⟨A1, c1, A2, c2, rfl, hT, hG⟩ := hu
  obtain ⟨A3, c3, rfl, hX⟩ := hv
  subst hM hL hN
  exact (run_okc lk ht rc ts gs xs A1 A2 A3 c1 c2 c3 W hLim (guard_valid g1) hT hG hX (sigErr_in g2) (by omega) (by omega) h3 (runErr_ok g1 g2)).mono fun e W' ⟨⟨B, d, h, hc, hd1, hd2⟩, hb⟩ => ⟨_, h, ⟨_, _, rfl, ⟨_, _, rfl, hc, hd1, hd2⟩, rfl⟩, hb⟩
section
variable {lk ht rc : Int} {ts gs xs os : List Int} {M L N : Nat} {a y z : Value} {W : World} (hM : M = ts.length) (hL : L = gs.length) (hN : N = xs.length) (hN2 : N = os.length) (h1 : M ≤ 1000) (h2 : L ≤ 1000) (h3 : N ≤ 5000) (hLim : Lim W) (hu : KG lk ht rc M ts L gs a W) (hv : KS N xs y W) (hz : KS N os z W) (g1 : guardErr lk ht rc ts gs = 0) (g2 : sigErr xs = 0) (g3 : sigErr os = 0)
include hM hL hN hN2 h1 h2 h3 hLim hu hv hz g1 g2 g3
end
end Go.Proofs.YtdeapbihbhoefaaDoor

/- The law's helper keeps: the limits at some outputs. -/
namespace Go.Proofs.YtdeapbihbhoefaaDoor
open Go.RowKit
open Calm (bcell Blk)
theorem revD_in {os : List Int} (h : inB 2048 os) (j : Nat) : -2048 ≤ revD os j ∧ revD os j ≤ 2048 := by
  unfold revD
  split
  · exact inB_get h (by omega) _
  · omega
theorem latK_bd {ts os : List Int} (h1 : inB 64 ts) (h2 : inB 2048 os) (later : Nat) : ∀ m : Nat, -(131072 * (m : Int)) ≤ latK ts os later m ∧ latK ts os later m ≤ 131072 * (m : Int)
  | 0 => by simp [latK]
  | m + 1 => by
    have h3 := latK_bd h1 h2 later m
    have h4 := mul_bd (inB_get h1 (by omega) (later + m)) (revD_in h2 m)
    simp only [latK]
    push_cast
    omega
set_option maxRecDepth 100000 in
set_option maxHeartbeats 4000000 in
theorem keeps_walk {lk ht rc h : Int} {ts os gs : List Int} {M L q : Nat} {A1 A2 A3 : Option Addr} {c1 c2 c3 : Nat} {w : World} (hlk : 1 ≤ lk ∧ lk ≤ 8) (hh : 0 ≤ h ∧ h ≤ 1099511627776) (hM : M = ts.length) (hq : os.length = q + 1) (hM8 : M ≤ 1000) (hq8 : q ≤ 10000) (htb : inB 64 ts) (hob : inB 2048 os)
    (hT : Cells w A1 ts) (hO : Cells w A3 os) :
    Calls Tryd.prog 62 #[.agg #[(.int .i64 lk), (.int .i64 ht), .slice A1 M c1, (.int .i64 rc), .slice A2 L c2], (.int .i64 h), .slice A3 (q + 1) c3] w (KP (KV (.bool (keepsF lk ht rc h ts os))) w) := by
  have HT := Lib.hid hT
  have HO := Lib.hid hO
  have HM := Lib.hid hM
  have HQ := Lib.hid hq
  have HTB : Hid (∀ k : Nat, -64 ≤ ts.getD k 0 ∧ ts.getD k 0 ≤ 64) := Lib.hid (fun k => inB_get htb (by omega) k)
  have HOB : Hid (∀ k : Nat, -2048 ≤ os.getD k 0 ∧ os.getD k 0 ≤ 2048) := Lib.hid (fun k => inB_get hob (by omega) k)
  have HLB := Lib.hid (latK_bd htb hob)
  obtain ⟨Rr, hRr⟩ : ∃ Rr, Rr = keepsF lk ht rc h ts os := ⟨_, rfl⟩
  obtain ⟨y, hy⟩ : ∃ y, y = os.getD q 0 := ⟨_, rfl⟩
  have hyr : revD os 0 = y := by unfold revD; rw [if_pos (by omega), hq, hy]; rfl
  have HRR : Hid (Rr = (decide (coolF lk h + y * y ≤ ht) && (List.range M).all fun later => decide (absI (latK ts os later (M - later)) ≤ rc))) := Lib.hid (by rw [hRr]; unfold keepsF; rw [hyr, hM])
  have HY := Lib.hid hy
  rw [← hRr]
  obtain ⟨h1, h2⟩ := hh
  obtain ⟨h5, h6⟩ := shr_bd lk h1
  obtain ⟨lk1, lk2⟩ := hlk
  obtain ⟨t1, t2⟩ := HOB.out q
  rw [← hy] at t1 t2
  have hsq := sq_bd (y := y) ⟨t1, t2⟩
  obtain ⟨p, hp⟩ : ∃ p, y * y = p := ⟨_, rfl⟩
  rw [hp] at hsq HRR
  obtain ⟨p1, p2⟩ := hsq
  have HDC := Lib.hid (show coolF lk h = h - h / 2 ^ lk.toNat from rfl)
  obtain ⟨b1, o1, hA, hbl, hcell⟩ := hO (by omega)
  subst hA
  have hck := hcell q (by omega)
  rw [← hy] at hck


  clear hT hO hM hq htb hob hRr hy hyr hcell
  go_enter Tryd.func62, Tryd.ntmps62
  have HB0 := Lib.hid (Below.refl w.heap.size w)
  go_wp2
  refine name_world ?_
  intro w1 e1
  have h1 : Below w.heap.size w w1 := by rw [e1]; exact bel
  have HB1 := Lib.hid (HB0.out.trans (h1.mono HB0.out.size))
  have bg_1 := Lib.hid (show Blk w1 w.heap.size #[(.int .i64 lk), (.int .i64 ht), .slice A1 M c1, (.int .i64 rc), .slice A2 L c2] from by rw [e1]; (repeat (first | ((with_reducible refine Blk.at_ ?_); focus (first | rfl | (simp; done) | (simp; omega))) | (with_reducible refine Blk.alloc ?_ _) | (with_reducible refine Blk.below ?_ (by with_reducible assumption)) | (with_reducible refine Blk.drew ?_))))
  clear e1 h1
  obtain ⟨fbg_0, fbg_1, fbg_2, fbg_3, fbg_4, fbg_l, -⟩ := bg_1.out.o5
  refine Rel.region3 12 (by kernel_rfl) (by kernel_rfl) (by kernel_rfl) ?_
  simp only [List.take_succ_cons, List.take_zero, List.drop_succ_cons, List.drop_zero, List.filterMap_cons, List.filterMap_nil]
  iterate 12 (refine Rel.opz (hn := ?_); (try simp only [List.nil_append, List.cons_append]))
  refine Rel.done3 ?_
  intro x w2 h2 hx
  simp only [Rel.facts, Nat.zero_add, Nat.reduceAdd] at hx
  obtain ⟨e0, e1, e2, e3, e4, e5, e6, e7, e8, e9, e10, e11, _⟩ := hx
  simp only [Rel.fill, Nat.zero_add, Nat.reduceAdd, e0, e1, e2, e3, e4, e5, e6, e7, e8, e9, e10, e11]
  simp only [Act.put, List.setIfInBounds_toArray, List.set_cons_zero, List.set_cons_succ]
  clear e0 e1 e2 e3 e4 e5 e6 e7 e8 e9 e10 e11
  have bg_2 := Lib.hid (bg_1.out.below h2)
  have HB2 := Lib.hid (HB1.out.trans (h2.mono HB1.out.size))
  clear h2
  clear fbg_0 fbg_1 fbg_2 fbg_3 fbg_4 fbg_l
  by_cases hc : h - h / 2 ^ lk.toNat + p ≤ ht
  rotate_left
  · have HNC := Lib.hid hc
    go_wp2
    go_ret
    exact ⟨_, by first | rfl | (simp; done), by show (Value.bool false) = _; rw [HRR.out, HDC.out, decide_eq_false (by have := HNC.out; omega)]; rfl, HB2.out⟩
  have HCC := Lib.hid hc
  obtain ⟨fbg_0, fbg_1, fbg_2, fbg_3, fbg_4, fbg_l, -⟩ := bg_2.out.o5
  go_wp2
  clear fbg_0 fbg_1 fbg_2 fbg_3 fbg_4 fbg_l
  clear hc
  go_loopw [34] (fun i wr => ∃ j : Nat, j ≤ M ∧ i = (.int .i64 ((j : Int))) ∧ (∀ l, l < j → absI (latK ts os l (M - l)) ≤ rc) ∧ Below w.heap.size w wr ∧ Blk wr w.heap.size #[(.int .i64 lk), (.int .i64 ht), .slice A1 M c1, (.int .i64 rc), .slice A2 L c2]) (fun i _ => M - (intOf i).toNat)
  case atStart => exact ⟨0, Nat.zero_le _, rfl, fun l hl => absurd hl (Nat.not_lt_zero l), HB2.out, bg_2.out⟩
  case round =>
    obtain ⟨j, hj, rfl, hall, kb, kg⟩ := hrel
    have HALL := Lib.hid hall
    have KB := Lib.hid kb
    have KG := Lib.hid kg
    obtain ⟨g0, g1, g2, g3, g4, gl, -⟩ := kg.o5
    clear hall kb kg
    by_cases hlt : j < M
    · have hlj : (j : Int) < (M : Int) := by omega
      go_wp2
      clear g0 g1 g2 g3 g4 gl
      go_loopw [9, 10] (fun s k wq => ∃ m : Nat, j + m ≤ M ∧ k = (.int .i64 (((j + m : Nat) : Int))) ∧ s = (.int .i64 (latK ts os j m)) ∧ Below w.heap.size w wq ∧ Blk wq w.heap.size #[(.int .i64 lk), (.int .i64 ht), .slice A1 M c1, (.int .i64 rc), .slice A2 L c2]) (fun _ k _ => M - (intOf k).toNat)
      case atStart => exact ⟨0, by omega, rfl, rfl, KB.out, KG.out⟩
      case round =>
        obtain ⟨m, hm, rfl, rfl, kb, kg⟩ := hrel
        have KB2 := Lib.hid kb
        have KG2 := Lib.hid kg
        obtain ⟨g0, g1, g2, g3, g4, gl, -⟩ := kg.o5
        clear kb kg
        obtain ⟨l1, l2⟩ := HLB.out j m
        have HS2 := Lib.hid (show latK ts os j (m + 1) = latK ts os j m + ts.getD (j + m) 0 * revD os m from rfl)
        obtain ⟨s, hs⟩ : ∃ s, s = latK ts os j m := ⟨_, rfl⟩
        rw [← hs] at l1 l2 HS2 ⊢
        have HS := Lib.hid hs
        clear hs
        by_cases hlm : j + m < M
        · have hlk2 : (j : Int) + (m : Int) < (M : Int) := by omega
          by_cases hmq : m ≤ q
          · obtain ⟨r, rfl⟩ : ∃ r, q = m + r := ⟨q - m, by omega⟩
            obtain ⟨bt, ot, hA2, htl, htc⟩ := (HT.out.below KB2.out) (by rw [← HM.out]; omega)
            subst hA2
            have htk := htc (j + m) (by rw [← HM.out]; exact hlm)
            obtain ⟨bo, oo, hA3, hol, hoc⟩ := (HO.out.below KB2.out) (by rw [HQ.out]; omega)
            cases hA3
            have hok := hoc r (by rw [HQ.out]; omega)
            have HRV := Lib.hid (show revD os m = os.getD r 0 by unfold revD; rw [if_pos (by rw [HQ.out]; omega), HQ.out, show m + r + 1 - 1 - m = r by omega])
            rw [HRV.out] at HS2
            obtain ⟨a1, a2⟩ := HTB.out (j + m)
            obtain ⟨a3, a4⟩ := HOB.out r
            obtain ⟨x, hx⟩ : ∃ x, x = ts.getD (j + m) 0 := ⟨_, rfl⟩
            obtain ⟨z, hz⟩ : ∃ z, z = os.getD r 0 := ⟨_, rfl⟩
            rw [← hx] at htk a1 a2 HS2
            rw [← hz] at hok a3 a4 HS2
            have hmb := mul_bd ⟨a1, a2⟩ ⟨a3, a4⟩
            obtain ⟨pp, hpp⟩ : ∃ pp, x * z = pp := ⟨_, rfl⟩
            rw [hpp] at hmb HS2
            obtain ⟨m1, m2⟩ := hmb
            clear hx hz htc hoc
            have hatr : (m : Int) + (r : Int) - ((j : Int) + (m : Int) - (j : Int)) = (r : Int) := by omega
            go_wp2
            clear hatr
            have hrl : (r : Int) < (m : Int) + (r : Int) + 1 := by omega
            refine Rel.region3 11 (by kernel_rfl) (by kernel_rfl) (by kernel_rfl) ?_
            simp only [List.take_succ_cons, List.take_zero, List.drop_succ_cons, List.drop_zero, List.filterMap_cons, List.filterMap_nil]
            iterate 11 (refine Rel.opz (hn := ?_); (try simp only [List.nil_append, List.cons_append]))
            refine Rel.done3 ?_
            intro x w3 h3 hx
            simp only [Rel.facts, Nat.zero_add, Nat.reduceAdd] at hx
            obtain ⟨e0, e1, e2, e3, e4, e5, e6, e7, e8, e9, e10, _⟩ := hx
            simp only [Rel.fill, Nat.zero_add, Nat.reduceAdd, e0, e1, e2, e3, e4, e5, e6, e7, e8, e9, e10]
            simp only [Act.put, List.setIfInBounds_toArray, List.set_cons_zero, List.set_cons_succ]
            clear e0 e1 e2 e3 e4 e5 e6 e7 e8 e9 e10
            have kg_3 := Lib.hid (KG2.out.below h3)
            have HB3 := Lib.hid (KB2.out.trans (h3.mono KB2.out.size))
            clear h3 g0 g1 g2 g3 g4 gl
            go_wp2
            go_roundw
            case rel => exact ⟨m + 1, by omega, by go_num, by rw [HS2.out], HB3.out, kg_3.out⟩
            case measure => simp [intOf]; omega
          · have hn0 : (q : Int) < (m : Int) := by omega
            have HRV := Lib.hid (show revD os m = 0 by unfold revD; rw [if_neg (by rw [HQ.out]; omega)])
            rw [HRV.out, Int.mul_zero, Int.add_zero] at HS2
            go_wp2
            go_roundw
            case rel => exact ⟨m + 1, by omega, by go_num, by rw [HS2.out], KB2.out, KG2.out⟩
            case measure => simp [intOf]; omega
        · obtain ⟨d, hd⟩ : ∃ d, M = j + d := ⟨M - j, by omega⟩
          obtain rfl : m = d := by omega
          have HMD := Lib.hid hd
          clear hd
          have HABS := Lib.hid (show mx s (-s) = absI s by rw [mx_eq]; rfl)
          obtain ⟨ab, hab⟩ : ∃ ab, ab = absI s := ⟨_, rfl⟩
          have hmx : ∀ (a : Array TypeId) (t : TypeId) (W : World), (Builtin.max_ a t #[(.int .i64 s), (.int .i64 (-s))]).run Tryd.prog W = .ok (.int .i64 ab) W := fun a t W => by rw [max2_any, HABS.out, hab]
          have HAB := Lib.hid hab
          clear hab
          have hmm : ¬ (j : Int) + (m : Int) < (M : Int) := by omega
          by_cases hok : ab ≤ rc
          · go_wp2
            go_roundw
            case rel => exact ⟨j + 1, by omega, by go_num, fun l hl => (Nat.lt_succ_iff_lt_or_eq.1 hl).elim (HALL.out l) (fun e => by rw [e, show M - j = m by rw [HMD.out]; omega, ← HS.out, ← HAB.out]; exact hok), KB2.out, KG2.out⟩
            case measure => simp [intOf]; omega
          · go_wp2
            go_ret
            refine ⟨_, by first | rfl | (simp; done), ?_, KB2.out⟩
            show (Value.bool false) = _
            rw [HRR.out, show ((List.range M).all fun later => decide (absI (latK ts os later (M - later)) ≤ rc)) = false from List.all_eq_false.2 ⟨j, List.mem_range.2 hlt, by rw [show M - j = m by rw [HMD.out]; omega, ← HS.out, ← HAB.out]; simpa using hok⟩, Bool.and_false]
    · obtain rfl : j = M := by omega
      go_wp2
      go_ret
      refine ⟨_, by first | rfl | (simp; done), ?_, KB.out⟩
      show (Value.bool true) = _
      rw [HRR.out, HDC.out, decide_eq_true (by have := HCC.out; omega), Bool.true_and]
      exact congrArg Value.bool (List.all_eq_true.2 (fun l hl => decide_eq_true (HALL.out l (List.mem_range.1 hl)))).symm
theorem keeps_K {lk ht rc h : Int} {ts os gs : List Int} {M L n : Nat} {u v : Value} {W : World} (hlk : 1 ≤ lk ∧ lk ≤ 8) (hh : 0 ≤ h ∧ h ≤ 1099511627776) (hM : M = ts.length) (hn : n = os.length) (hn0 : 0 < n) (hM8 : M ≤ 1000) (hn8 : n ≤ 10000) (htb : inB 64 ts) (hob : inB 2048 os) (hu : KG lk ht rc M ts L gs u W) (hv : KS n os v W) :
    Calls Tryd.prog 62 #[u, (.int .i64 h), v] W (KP (KV (.bool (keepsF lk ht rc h ts os))) W) := by
  obtain ⟨A1, c1, A2, c2, rfl, hT, _⟩ := hu
  obtain ⟨A3, c3, rfl, hO⟩ := hv
  obtain ⟨q, rfl⟩ : ∃ q, n = q + 1 := ⟨n - 1, by omega⟩
  exact keeps_walk (gs := gs) hlk hh hM hn.symm hM8 (by omega) htb hob hT hO
end Go.Proofs.YtdeapbihbhoefaaDoor

/- The law's helper scaled. -/
namespace Go.Proofs.YtdeapbihbhoefaaDoor
open Go.RowKit
open Calm (bcell Blk)
theorem scaled_K {x g : Int} {W : World} (hx : -2048 ≤ x ∧ x ≤ 2048) (hg : 0 ≤ g ∧ g ≤ 16) : Calls Tryd.prog 61 #[(.int .i64 x), (.int .i64 g)] W (KP (KV (.int .i64 (byF x g))) W) := by
  have h1 := mul_bd (a := x) (b := g) (A := 2048) (B := 16) hx ⟨by omega, hg.2⟩
  obtain ⟨p, hp⟩ : ∃ p, x * g = p := ⟨_, rfl⟩
  have hb : byF x g = p.tdiv 16 := by rw [← hp]; rfl
  rw [hp] at h1
  obtain ⟨h2, h3⟩ := h1
  have HB := Lib.hid hb
  clear hb hx hg
  go_enter Tryd.func61, Tryd.ntmps61
  go_wp2
  go_ret
  exact ⟨_, by first | rfl | (simp; done), by rw [HB.out]; rfl, Below.refl _ _⟩
end Go.Proofs.YtdeapbihbhoefaaDoor

/- Contract of dustAmp: its three examples hold. -/
namespace Go.Proofs.YtdeapbihbhoefaaDoor
open Go.RowKit
open Calm (bcell Blk)

end Go.Proofs.YtdeapbihbhoefaaDoor

/- What TopDustPlayed says, as plain laws: outputs keep all limits; a section with the tails as taps gives the excursions; halves warm no more. No walk. -/
namespace Go.Proofs.YtdeapbihbhoefaaDoor
open Go.RowKit

end Go.Proofs.YtdeapbihbhoefaaDoor

/- What ProtectKeeps' walk takes: a round told plainly; a copy of integers as a row of its own. -/
namespace Go.Proofs.YtdeapbihbhoefaaDoor
open Go.RowKit
open Calm (bcell Blk)
set_option maxHeartbeats 1000000 in
theorem ints_R {n : Nat} {xs : List Int} {A : Option Addr} {c : Nat} {W : World} (hn : n = xs.length) (h5 : n ≤ 100000) (hC : Cells W A xs) :
    Calls Tryd.prog 41 #[.slice A n c] W fun e W' => ∃ v, e = .returned v ∧ W'.ownsRow W.heap.size 3 1 v n (xs.map (Value.int .i64)) ∧ Below W.heap.size W W' := by
  have HC := Lib.hid hC
  have HN := Lib.hid hn
  clear hC hn
  go_enter Tryd.func41, Tryd.ntmps41
  go_wp2_with (at_builtin; refine wpList_appC rfl _ _ rfl W.heap.size n c A xs HN.out rfl rfl ⟨by simp, .inr ⟨_, 0, #[], rfl, Nat.le_refl _, by show (W.heap.push _)[W.heap.size]? = _; simp, Nat.le_refl _, Nat.zero_le _, by simp, by simp⟩⟩ h5 (HC.out.below ((Below.refl _ _).alloc (Nat.le_refl _) _)) ?_; intro B d w1 hb1 hown; have HB1 := Lib.hid (((Below.refl W.heap.size W).alloc (Nat.le_refl _) (.cells #[] 3)).trans (hb1.mono (by simp))); have HK := Lib.hid hown; clear hb1 hown)
  go_ret
  exact ⟨_, rfl, HK.out, HB1.out⟩
/-- what a round of the law looks at. -/
structure Round (lk ht rc : Int) (ts gs xs : List Int) (N i : Nat) (h x y gk : Int) (lv k : Nat) : Prop where
  hh : h = (stAt lk ht rc ts gs xs i).h
  hlv : lv = (stAt lk ht rc ts gs xs i).lv
  hx : x = xs.getD i 0
  hy : y = (outsK lk ht rc ts gs xs N).getD i 0
  hk : (k : Int) = (lvsK lk ht rc ts gs xs N).getD i 0
  hgk : gk = gs.getD k 0
  hb : 0 ≤ h ∧ h ≤ 536870912
  xb : -2048 ≤ x ∧ x ≤ 2048
  yb : -2048 ≤ y ∧ y ≤ 2048
  gkb : 0 ≤ gk ∧ gk ≤ 16
  yby : y = byF x gk
  kl : k < gs.length
  kv : k ≤ lv + 1
  ab : absI y ≤ absI x
  sg : 0 ≤ y * x
  h1 : (stAt lk ht rc ts gs xs (i + 1)).h = h - h / 2 ^ lk.toNat + y * y
  l1 : (stAt lk ht rc ts gs xs (i + 1)).lv = k
  yes : keepsF lk ht rc h ts ((outsK lk ht rc ts gs xs N).take i ++ [y]) = true
  no : ∀ n, k < n → n < gs.length → n ≤ lv + 1 → keepsF lk ht rc h ts ((outsK lk ht rc ts gs xs N).take i ++ [byF x (gs.getD n 0)]) = false
theorem keeps_round {lk ht rc : Int} {ts gs xs : List Int} (hV : Valid lk ht rc ts gs) (hx : inB 2048 xs) {N i : Nat} (hi : i < N) : ∃ h x y gk lv k, Round lk ht rc ts gs xs N i h x y gk lv k := by
  obtain ⟨k1, k2, k3, k4⟩ := keeps_run hV hx i
  have hg := good_at hV hx i
  have hxb := inB_get hx (by omega) i
  have hs := step_good hV hg hxb
  have hgb := hV.gb (lvAt lk ht rc ts gs xs i)
  have hab := byF_abs (x := xs.getD i 0) hgb
  have hht := hV.ht
  have hgh := hg.h
  refine ⟨_, _, _, _, _, lvAt lk ht rc ts gs xs i, ⟨rfl, rfl, rfl, rfl, by rw [lvsK_getD _ _ _ _ _ _ hi], rfl, ?_, hxb, ?_, hgb, ?_, k3, k4, ?_, ?_, ?_, rfl, ?_, ?_⟩⟩
  · omega
  · rw [outsK_getD _ _ _ _ _ _ hi]; exact hs.2.1
  · rw [outsK_getD _ _ _ _ _ _ hi]; rfl
  · rw [outsK_getD _ _ _ _ _ _ hi]; exact hab.1
  · rw [outsK_getD _ _ _ _ _ _ hi]; exact hab.2
  · rw [outsK_getD _ _ _ _ _ _ hi]; rfl
  · rw [outsK_getD _ _ _ _ _ _ hi, outsK_begin _ _ _ _ _ _ (by omega)]; exact k1
  · intro n q1 q2 q3
    rw [outsK_begin _ _ _ _ _ _ (by omega)]
    exact k2 n q1 q2 q3
end Go.Proofs.YtdeapbihbhoefaaDoor

/- ProtectKeeps, case 0. -/
namespace Go.Proofs.YtdeapbihbhoefaaDoor
open Go.RowKit
open Calm (bcell Blk)
set_option maxRecDepth 100000 in
set_option maxHeartbeats 8000000 in
theorem keeps_0 (lk ht rc : Int) (M L N : Nat) (ts gs xs : List Int) (u v : Value) (w : World) (hTab : PTab w) (hM : M = ts.length) (hL : L = gs.length) (hN : N = xs.length) (b0 : ¬ (M ≤ 9 ∧ L ≤ 9)) (hu : KG lk ht rc M ts L gs u w) (hv : KS N xs v w) :
    Calls Tryd.prog 8 #[u, v] w fun r w' => r = .returned (.bool true) ∧ Below w.heap.size w w' := by
  obtain ⟨A1, c1, A2, c2, rfl, hT, hG⟩ := hu
  obtain ⟨A3, c3, rfl, hP⟩ := hv
  have HU := Lib.hid (show KG lk ht rc M ts L gs (.agg #[(.int .i64 lk), (.int .i64 ht), .slice A1 M c1, (.int .i64 rc), .slice A2 L c2]) w from ⟨_, _, _, _, rfl, hT, hG⟩)
  have HX := Lib.hid (show KS N xs (.slice A3 N c3) w from ⟨_, _, rfl, hP⟩)
  have HSH : Hid (∀ W, KG lk ht rc M ts L gs (.agg #[(.int .i64 lk), (.int .i64 ht), .slice A1 M c1, (.int .i64 rc), .slice A2 L c2]) W → Calls Tryd.prog 13 #[.agg #[(.int .i64 lk), (.int .i64 ht), .slice A1 M c1, (.int .i64 rc), .slice A2 L c2]] W (KP (KV (.bool false)) W)) := Lib.hid (fun W q => by have := Short_K q; rwa [decide_eq_false b0] at this)
  have HTab := Lib.hid hTab
  clear hTab hM hL hN hT hG hP b0
  go_enter Tryd.func8, Tryd.ntmps8
  have HB0 := Lib.hid (Below.refl w.heap.size w)
  go_wp2_with (go_at_call 13; refine name_calls ?_; intro w1 e1; refine Hid.out ?_)
  unfold Hid
  have h1 : Below w.heap.size w w1 := by rw [e1]; exact bel
  have HB1 := Lib.hid (HB0.out.trans (h1.mono HB0.out.size))
  have bg_1 := Lib.hid (show Blk w1 w.heap.size #[(.int .i64 lk), (.int .i64 ht), .slice A1 M c1, (.int .i64 rc), .slice A2 L c2] from by rw [e1]; (repeat (first | ((with_reducible refine Blk.at_ ?_); focus (first | rfl | (simp; done) | (simp; omega))) | (with_reducible refine Blk.alloc ?_ _) | (with_reducible refine Blk.below ?_ (by with_reducible assumption)) | (with_reducible refine Blk.drew ?_))))
  clear e1 h1
  refine (HSH.out _ (KG.st _ _ _ _ _ _ _ _ _ _ HU.out HB1.out)).mono ?_
  rintro r w2 ⟨v2, rfl, k2, h2⟩
  have bg_2 := Lib.hid (bg_1.out.below h2)
  have HB2 := Lib.hid (HB1.out.trans (h2.mono HB1.out.size))
  obtain rfl := k2
  clear h2
  have ug_rw2 := Lib.hid (KG.st _ _ _ _ _ _ _ _ _ _ HU.out HB2.out)
  have ux_rw2 := Lib.hid (KS.st _ _ _ _ _ HX.out HB2.out)
  have HTabw2 := Lib.hid (HTab.out.below HB2.out)
  have HZw2 := Lib.hid (Below.refl w2.heap.size w2)
  clear HU HX HTab
  go_wp2_with (go_at_call 15; refine name_calls ?_; intro w3 e3; refine Hid.out ?_)
  unfold Hid
  have h3 : Below w2.heap.size w2 w3 := by rw [e3]; exact bel
  have HB3 := Lib.hid (HZw2.out.trans (h3.mono HZw2.out.size))
  clear e3 h3
  refine (awake_any _ (HTabw2.out.below HB3.out)).mono ?_
  rintro r w4 ⟨rfl, h4⟩
  have HB4 := Lib.hid (HB3.out.trans (h4.mono HB3.out.size))
  clear h4
  go_wp2
  go_ret
  exact ⟨by first | rfl | (simp; done), HB2.out.trans (HB4.out.mono HB2.out.size)⟩
end Go.Proofs.YtdeapbihbhoefaaDoor

/- ProtectKeeps, case 1. -/
namespace Go.Proofs.YtdeapbihbhoefaaDoor
open Go.RowKit
open Calm (bcell Blk)
set_option maxRecDepth 100000 in
set_option maxHeartbeats 8000000 in
theorem keeps_1 (lk ht rc : Int) (M L N : Nat) (ts gs xs : List Int) (u v : Value) (w : World) (hTab : PTab w) (hM : M = ts.length) (hL : L = gs.length) (hN : N = xs.length) (b0 : M ≤ 9 ∧ L ≤ 9) (b1 : ¬ N ≤ 40) (hu : KG lk ht rc M ts L gs u w) (hv : KS N xs v w) :
    Calls Tryd.prog 8 #[u, v] w fun r w' => r = .returned (.bool true) ∧ Below w.heap.size w w' := by
  obtain ⟨A1, c1, A2, c2, rfl, hT, hG⟩ := hu
  obtain ⟨A3, c3, rfl, hP⟩ := hv
  have HU := Lib.hid (show KG lk ht rc M ts L gs (.agg #[(.int .i64 lk), (.int .i64 ht), .slice A1 M c1, (.int .i64 rc), .slice A2 L c2]) w from ⟨_, _, _, _, rfl, hT, hG⟩)
  have HX := Lib.hid (show KS N xs (.slice A3 N c3) w from ⟨_, _, rfl, hP⟩)
  have HSH : Hid (∀ W, KG lk ht rc M ts L gs (.agg #[(.int .i64 lk), (.int .i64 ht), .slice A1 M c1, (.int .i64 rc), .slice A2 L c2]) W → Calls Tryd.prog 13 #[.agg #[(.int .i64 lk), (.int .i64 ht), .slice A1 M c1, (.int .i64 rc), .slice A2 L c2]] W (KP (KV (.bool true)) W)) := Lib.hid (fun W q => by have := Short_K q; rwa [decide_eq_true b0] at this)
  have hlen : (40 : Int) < (N : Int) := by omega
  have HTab := Lib.hid hTab
  clear hTab hM hL hN hT hG hP b1
  go_enter Tryd.func8, Tryd.ntmps8
  have HB0 := Lib.hid (Below.refl w.heap.size w)
  go_wp2_with (go_at_call 13; refine name_calls ?_; intro w1 e1; refine Hid.out ?_)
  unfold Hid
  have h1 : Below w.heap.size w w1 := by rw [e1]; exact bel
  have HB1 := Lib.hid (HB0.out.trans (h1.mono HB0.out.size))
  have bg_1 := Lib.hid (show Blk w1 w.heap.size #[(.int .i64 lk), (.int .i64 ht), .slice A1 M c1, (.int .i64 rc), .slice A2 L c2] from by rw [e1]; (repeat (first | ((with_reducible refine Blk.at_ ?_); focus (first | rfl | (simp; done) | (simp; omega))) | (with_reducible refine Blk.alloc ?_ _) | (with_reducible refine Blk.below ?_ (by with_reducible assumption)) | (with_reducible refine Blk.drew ?_))))
  clear e1 h1
  refine (HSH.out _ (KG.st _ _ _ _ _ _ _ _ _ _ HU.out HB1.out)).mono ?_
  rintro r w2 ⟨v2, rfl, k2, h2⟩
  have bg_2 := Lib.hid (bg_1.out.below h2)
  have HB2 := Lib.hid (HB1.out.trans (h2.mono HB1.out.size))
  obtain rfl := k2
  clear h2
  have ug_rw2 := Lib.hid (KG.st _ _ _ _ _ _ _ _ _ _ HU.out HB2.out)
  have ux_rw2 := Lib.hid (KS.st _ _ _ _ _ HX.out HB2.out)
  have HTabw2 := Lib.hid (HTab.out.below HB2.out)
  have HZw2 := Lib.hid (Below.refl w2.heap.size w2)
  clear HU HX HTab
  go_wp2_with (go_at_call 15; refine name_calls ?_; intro w3 e3; refine Hid.out ?_)
  unfold Hid
  have h3 : Below w2.heap.size w2 w3 := by rw [e3]; exact bel
  have HB3 := Lib.hid (HZw2.out.trans (h3.mono HZw2.out.size))
  clear e3 h3
  refine (awake_any _ (HTabw2.out.below HB3.out)).mono ?_
  rintro r w4 ⟨rfl, h4⟩
  have HB4 := Lib.hid (HB3.out.trans (h4.mono HB3.out.size))
  clear h4
  go_wp2
  go_ret
  exact ⟨by first | rfl | (simp; done), HB2.out.trans (HB4.out.mono HB2.out.size)⟩
end Go.Proofs.YtdeapbihbhoefaaDoor

/- ProtectKeeps, case 2. -/
namespace Go.Proofs.YtdeapbihbhoefaaDoor
open Go.RowKit
open Calm (bcell Blk)
set_option maxRecDepth 100000 in
set_option maxHeartbeats 8000000 in
theorem keeps_2 (lk ht rc : Int) (M L N : Nat) (ts gs xs : List Int) (u v : Value) (w : World) (hTab : PTab w) (hM : M = ts.length) (hL : L = gs.length) (hN : N = xs.length) (b0 : M ≤ 9 ∧ L ≤ 9) (b1 : N ≤ 40) (b2 : ¬ guardErr lk ht rc ts gs = 0) (hu : KG lk ht rc M ts L gs u w) (hv : KS N xs v w) :
    Calls Tryd.prog 8 #[u, v] w fun r w' => r = .returned (.bool true) ∧ Below w.heap.size w w' := by
  obtain ⟨A1, c1, A2, c2, rfl, hT, hG⟩ := hu
  obtain ⟨A3, c3, rfl, hP⟩ := hv
  have HU := Lib.hid (show KG lk ht rc M ts L gs (.agg #[(.int .i64 lk), (.int .i64 ht), .slice A1 M c1, (.int .i64 rc), .slice A2 L c2]) w from ⟨_, _, _, _, rfl, hT, hG⟩)
  have HX := Lib.hid (show KS N xs (.slice A3 N c3) w from ⟨_, _, rfl, hP⟩)
  have HSH : Hid (∀ W, KG lk ht rc M ts L gs (.agg #[(.int .i64 lk), (.int .i64 ht), .slice A1 M c1, (.int .i64 rc), .slice A2 L c2]) W → Calls Tryd.prog 13 #[.agg #[(.int .i64 lk), (.int .i64 ht), .slice A1 M c1, (.int .i64 rc), .slice A2 L c2]] W (KP (KV (.bool true)) W)) := Lib.hid (fun W q => by have := Short_K q; rwa [decide_eq_true b0] at this)
  obtain ⟨b01, b02⟩ := b0
  have hlen : (N : Int) ≤ 40 := by omega
  obtain ⟨GE, hGE⟩ : ∃ GE, GE = guardErr lk ht rc ts gs := ⟨_, rfl⟩
  have HCG : Hid (∀ {x : Value} (W : World), KG lk ht rc M ts L gs x W → Calls Tryd.prog 18 #[x] W (KP (KV (.int .i64 GE)) W)) := Lib.hid (fun W q => by rw [hGE]; exact rGuard_K hM hL (by omega) (by omega) q)
  rw [← hGE] at b2
  have HTab := Lib.hid hTab
  clear hTab hM hL hN hT hG hP hGE
  go_enter Tryd.func8, Tryd.ntmps8
  have HB0 := Lib.hid (Below.refl w.heap.size w)
  go_wp2_with (go_at_call 13; refine name_calls ?_; intro w1 e1; refine Hid.out ?_)
  unfold Hid
  have h1 : Below w.heap.size w w1 := by rw [e1]; exact bel
  have HB1 := Lib.hid (HB0.out.trans (h1.mono HB0.out.size))
  have bg_1 := Lib.hid (show Blk w1 w.heap.size #[(.int .i64 lk), (.int .i64 ht), .slice A1 M c1, (.int .i64 rc), .slice A2 L c2] from by rw [e1]; (repeat (first | ((with_reducible refine Blk.at_ ?_); focus (first | rfl | (simp; done) | (simp; omega))) | (with_reducible refine Blk.alloc ?_ _) | (with_reducible refine Blk.below ?_ (by with_reducible assumption)) | (with_reducible refine Blk.drew ?_))))
  clear e1 h1
  refine (HSH.out _ (KG.st _ _ _ _ _ _ _ _ _ _ HU.out HB1.out)).mono ?_
  rintro r w2 ⟨v2, rfl, k2, h2⟩
  have bg_2 := Lib.hid (bg_1.out.below h2)
  have HB2 := Lib.hid (HB1.out.trans (h2.mono HB1.out.size))
  obtain rfl := k2
  clear h2
  have ug_rw2 := Lib.hid (KG.st _ _ _ _ _ _ _ _ _ _ HU.out HB2.out)
  have ux_rw2 := Lib.hid (KS.st _ _ _ _ _ HX.out HB2.out)
  have HTabw2 := Lib.hid (HTab.out.below HB2.out)
  have HZw2 := Lib.hid (Below.refl w2.heap.size w2)
  clear HU HX HTab
  obtain ⟨fbg_0, fbg_1, fbg_2, fbg_3, fbg_4, fbg_l, -⟩ := (bg_2.out.below HZw2.out).o5
  go_wp2_with (go_at_call 18; refine name_calls ?_; intro w3 e3; refine Hid.out ?_)
  unfold Hid
  have h3 : Below w2.heap.size w2 w3 := by rw [e3]; exact bel
  have HB3 := Lib.hid (HZw2.out.trans (h3.mono HZw2.out.size))
  clear e3 h3
  refine (HCG.out _ (KG.st _ _ _ _ _ _ _ _ _ _ ug_rw2.out HB3.out)).mono ?_
  rintro r w4 ⟨v4, rfl, k4, h4⟩
  have HB4 := Lib.hid (HB3.out.trans (h4.mono HB3.out.size))
  obtain rfl := k4
  clear h4
  clear fbg_0 fbg_1 fbg_2 fbg_3 fbg_4 fbg_l
  go_wp2_with (go_at_call 15; refine name_calls ?_; intro w5 e5; refine Hid.out ?_)
  unfold Hid
  have h5 : Below w4.heap.size w4 w5 := by rw [e5]; exact bel
  have HB5 := Lib.hid (HB4.out.trans (h5.mono HB4.out.size))
  clear e5 h5
  refine (awake_any _ (HTabw2.out.below HB5.out)).mono ?_
  rintro r w6 ⟨rfl, h6⟩
  have HB6 := Lib.hid (HB5.out.trans (h6.mono HB5.out.size))
  clear h6
  go_wp2
  go_ret
  exact ⟨by first | rfl | (simp; done), HB2.out.trans (HB6.out.mono HB2.out.size)⟩
end Go.Proofs.YtdeapbihbhoefaaDoor
