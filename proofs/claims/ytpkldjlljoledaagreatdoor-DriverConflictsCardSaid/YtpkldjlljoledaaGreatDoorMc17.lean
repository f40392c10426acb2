/- Part 17 of the texts of the claim: R4, R5, D1, B9. -/
import Derived.Test.YtpkldjlljoledaaGreatDoorMc13
import Derived.Test.YtpkldjlljoledaaGreatDoorMc16
import Derived.Test.YtpkldjlljoledaaGreatDoorMc8
import Derived.Test.YtpkldjlljoledaaGreatDoorMc10
import Derived.Test.YtpkldjlljoledaaGreatDoorMc9
import Derived.Test.YtpkldjlljoledaaGreatDoorMc1
import Derived.Test.YtpkldjlljoledaaGreatDoorMc7

/- Contracts of the reference's Sweep, and of Sweep's errors. %still -/
namespace Go.Proofs.YtpkldjlljoledaaGreatDoor
open Go.RowKit
open Calm (bcell Blk)

theorem blk_put4 {W : World} {g : Nat} {x y z u : Value} (h : Blk W g #[x, y, z, u]) (a b c d : Value) : Blk ((((W.setCell ⟨g, 0, none⟩ a).setCell ⟨g, 1, none⟩ b).setCell ⟨g, 2, none⟩ c).setCell ⟨g, 3, none⟩ d) g #[a, b, c, d] := by
  have := (((h.set (i := 0) (by simp) a).set (i := 1) (by simp) b).set (i := 2) (by simp) c).set (i := 3) (by simp) d
  simpa using this
theorem below_put4 {B : Nat} {w0 W : World} (h : Below B w0 W) {g : Nat} (hg : B ≤ g) (a b c d : Value) : Below B w0 ((((W.setCell ⟨g, 0, none⟩ a).setCell ⟨g, 1, none⟩ b).setCell ⟨g, 2, none⟩ c).setCell ⟨g, 3, none⟩ d) :=
  (((h.setCell (p := ⟨g, 0, none⟩) hg _).setCell (p := ⟨g, 1, none⟩) hg _).setCell (p := ⟨g, 2, none⟩) hg _).setCell (p := ⟨g, 3, none⟩) hg _
theorem name_world2 {C : Code} {P : Program} {Q : Exit → Act → World → Prop} {a : Act} {W : World} (h : ∀ W', W' = W → C.wp P Q a W') : C.wp P Q a W := h W rfl

set_option maxRecDepth 100000 in
set_option maxHeartbeats 8000000 in
theorem refSweep_any (re le bl ma st lo p : Int) (A : Option Addr) (zs : List Int) (c : Nat) (w : World) (hC : Cells w A zs) (hd : drvErr re le bl ma st lo = 0) (hn : zs.length ≤ 32) (hz : ∀ x ∈ zs, 1 ≤ x ∧ x ≤ 8) (hp : 0 ≤ p ∧ p ≤ 50) :
    Calls Tryz.prog 30 #[.agg #[(.int .i64 (re)), (.int .i64 (le)), (.int .i64 (bl)), (.int .i64 (ma)), (.int .i64 (st)), (.int .i64 (lo))], .slice A zs.length c, (.int .i64 (p))] w fun r w' => ∃ B e, r = .returned (.slice B zs.length e) ∧ RCells w' B (sweepL re le bl ma st lo p zs) ∧ Below w.heap.size w w' := by
  obtain ⟨i0, hi, iz0, iz1, iz2⟩ := info_parts Tryz.infoQ
  have HZ := Lib.hid hz
  have HC := Lib.hid hC
  have HP := Lib.hid hp
  obtain ⟨N, hN⟩ : ∃ N, N = zs.length := ⟨_, rfl⟩
  have HN := Lib.hid hN
  rw [← hN] at hn ⊢
  have HD := Lib.hid hd
  clear hz hC hp hN hd
  go_enter Tryz.func30, Tryz.ntmps30
  go_wp2
  go_loopw [7, 8] (fun v i wr => ∃ k : Nat, k ≤ N ∧ i = (.int .i64 (k)) ∧ wr.ownsRow (w.heap.size + 1) 120 3 v k (flat3 (sweepL re le bl ma st lo p (zs.take k))) ∧ Below w.heap.size w wr ∧ Blk wr w.heap.size #[(.int .i64 (re)), (.int .i64 (le)), (.int .i64 (bl)), (.int .i64 (ma)), (.int .i64 (st)), (.int .i64 (lo))]) (fun _ i _ => N - (intOf i).toNat)
  case atStart => exact ⟨0, Nat.zero_le _, rfl, World.ownsRow_nil _ _ _ _, by (repeat (first | (with_reducible exact Below.refl _ _) | ((with_reducible refine Below.setCell ?_ ?_ _); rotate_left 1; focus (first | (simp; done) | (simp; omega) | (simp at *; omega))) | ((with_reducible refine Below.alloc ?_ ?_ _); rotate_left 1; focus (first | (simp; done) | (simp; omega) | (simp at *; omega))) | (with_reducible refine Below.drew ?_) | ((with_reducible refine Calm.step (by assumption) ?_ ?_); rotate_left 1; focus (first | (simp; done) | (simp; omega) | (simp at *; omega))))), by (repeat (first | ((with_reducible refine Blk.at_ ?_); focus (first | rfl | (simp; done) | (simp; omega))) | (with_reducible refine Blk.alloc ?_ _) | (with_reducible refine Blk.below ?_ (by with_reducible assumption)) | (with_reducible refine Blk.drew ?_)))⟩
  case round =>
    obtain ⟨k, hk, rfl, hown, hB, K⟩ := hrel
    have hsz := hB.size
    obtain ⟨d0, d1, d2, d3, d4, d5, dl, -⟩ := K.o6
    have HO := Lib.hid hown
    have HK := Lib.hid K
    have HB := Lib.hid hB
    clear hown K
    by_cases hlt : k < N
    · have hlt2 : k < zs.length := by rw [← HN.out]; exact hlt
      obtain ⟨b, o, rfl, l1, k1⟩ := HC.out (by omega)
      have x1 := (hB.cell (p := ⟨b, o + k, none⟩) l1).trans (k1 k hlt2)
      have hx8 := HZ.out _ (getD_mem hlt2)
      have HS := Lib.hid (sweepL_succ re le bl ma st lo p hlt2)
      have hbl : b < wr.heap.size := by omega
      clear k1 hlt2 hB
      obtain ⟨x, hx⟩ : ∃ x, x = zs.getD k 0 := ⟨_, rfl⟩
      rw [← hx] at x1 hx8
      have HX := Lib.hid hx
      clear hx
      have hF := fit_of HD.out hx8
      obtain ⟨⟨v1, v2⟩, v3, v4⟩ := v_bds hF
      obtain ⟨p1, p2⟩ := HP.out
      have q1 : Bd 34426880000000000 (vN re le bl ma st lo x) := ⟨by omega, by omega⟩
      obtain ⟨u1, u2⟩ := q1.mul (show Bd 100 (100 - p) from ⟨by omega, by omega⟩) (by omega)
      obtain ⟨u3, u4⟩ := q1.mul (show Bd 150 (100 + p) from ⟨by omega, by omega⟩) (by omega)
      have u5 : 0 ≤ vN re le bl ma st lo x * (100 + p) := Int.mul_nonneg v1 (by omega)
      have u6 : 0 ≤ vN re le bl ma st lo x * (100 - p) := Int.mul_nonneg v1 (by omega)
      have HI : Hid (∀ W : World, Calls Tryz.prog 72 #[.agg #[(.int .i64 (re)), (.int .i64 (le)), (.int .i64 (bl)), (.int .i64 (ma)), (.int .i64 (st)), (.int .i64 (lo))], (.int .i64 (x))] W fun r w' => r = .returned (.agg #[(.int .i64 (nRe re le bl ma st lo x)), (.int .i64 (nIm re le bl ma st lo x)), (.int .i64 (mRe st ma x)), (.int .i64 (mIm lo x))]) ∧ Below W.heap.size W w') := Lib.hid (fun W => refImpedance_any re le bl ma st lo x W hF)
      have HS1 := Lib.hid (square_vN hF)
      have HS2 := Lib.hid (square_vD hF)
      obtain ⟨Nn, hNn⟩ : ∃ Nn, Nn = vN re le bl ma st lo x := ⟨_, rfl⟩
      obtain ⟨Dd, hDd⟩ : ∃ Dd, Dd = vD ma st lo x := ⟨_, rfl⟩
      obtain ⟨n1, hn1⟩ : ∃ n1, n1 = nRe re le bl ma st lo x := ⟨_, rfl⟩
      obtain ⟨n2, hn2⟩ : ∃ n2, n2 = nIm re le bl ma st lo x := ⟨_, rfl⟩
      obtain ⟨m1, hm1⟩ : ∃ m1, m1 = mRe st ma x := ⟨_, rfl⟩
      obtain ⟨m2, hm2⟩ : ∃ m2, m2 = mIm lo x := ⟨_, rfl⟩
      rw [← hn1, ← hn2, ← hm1, ← hm2] at HI
      rw [← hn1, ← hn2, ← hNn] at HS1
      rw [← hm1, ← hm2, ← hDd] at HS2
      rw [← hNn] at v1 v2 u1 u2 u3 u4 u5 u6
      rw [← hDd] at v3 v4
      have HNn := Lib.hid hNn
      have HDd := Lib.hid hDd
      clear hNn hDd hn1 hn2 hm1 hm2 q1 hF hx8
      obtain ⟨E, hE⟩ : ∃ E, 100 * Dd = E := ⟨_, rfl⟩
      have hE1 : 100 ≤ E := by omega
      have hE2 : E ≤ 80000000000 := by omega
      have z1 : ¬ E = 0 := by omega
      obtain ⟨y1, y2⟩ := IntWalk.tdiv_le (Nn * (100 - p)) E (by omega) (by omega)
      obtain ⟨y3, y4⟩ := IntWalk.tdiv_le (Nn * (100 + p) + E - 1) E (by omega) (by omega)
      have HEE := Lib.hid hE
      go_wp2
      refine Rel.region3 7 (by kernel_rfl) (by kernel_rfl) (by kernel_rfl) ?_
      simp only [List.take_succ_cons, List.take_zero, List.drop_succ_cons, List.drop_zero, List.filterMap_cons, List.filterMap_nil]
      iterate 5 (apply Rel.op3; (focus (first | exact Rel.gno rfl | exact Rel.gyes _ true _ rfl rfl rfl | exact Rel.gyes _ false _ rfl rfl rfl)); (focus (intro a W hb hd hbase; obtain ⟨hc, hf⟩ := bcell hb; clear hb hf; simp [Rel.deps, Rel.dep1, Rel.ons, Region.binds, Act.eval] at hd; simp only [Act.eval, List.mem_cons, List.not_mem_nil, not_or, and_imp, or_false, Array.getD_eq_getD_getElem?] at hbase; go_simp; (try go_bits); (try rfl); done)); (try simp only [List.nil_append, List.cons_append]))
      (apply Rel.call3; (focus (first | exact Rel.gno rfl | exact Rel.gyes _ true _ rfl rfl rfl | exact Rel.gyes _ false _ rfl rfl rfl)); (focus (intro a W hb hd hbase; obtain ⟨hc, hf⟩ := bcell hb; clear hb hf; simp [Rel.deps, Rel.dep1, Rel.ons, Region.binds, Act.eval] at hd; simp only [Act.eval, List.mem_cons, List.not_mem_nil, not_or, and_imp, or_false, Array.getD_eq_getD_getElem?] at hbase; go_simp; refine ⟨?_, ?_⟩; rfl; rfl)); (focus (intro W hb; go_at_call 72; exact HI.out _)); (try simp only [List.nil_append, List.cons_append]))
      (apply Rel.alloc3; (focus (exact Rel.gno rfl)); (focus (intro a W; go_simp; (first | done | rfl | (refine ⟨?_, ?_⟩ <;> rfl)))); (try simp only [List.nil_append, List.cons_append]))
      refine Rel.done3 ?_
      intro xx w5 hb5 hxx
      simp only [Rel.facts, Nat.zero_add, Nat.reduceAdd] at hxx
      obtain ⟨e0, e1, e2, e3, e4, e5, ⟨g, e6, hg, hG⟩, _⟩ := hxx
      simp only [Rel.fill, Nat.zero_add, Nat.reduceAdd, e0, e1, e2, e3, e4, e5, e6]
      simp only [Act.put, List.setIfInBounds_toArray, List.set_cons_zero, List.set_cons_succ]
      clear e0 e1 e2 e3 e4 e5 e6
      have KZ := blk_put4 hG (.int .i64 (n1)) (.int .i64 (n2)) (.int .i64 (m1)) (.int .i64 (m2))
      have hb6 := below_put4 hb5 hg (.int .i64 (n1)) (.int .i64 (n2)) (.int .i64 (m1)) (.int .i64 (m2))
      obtain ⟨g0, g1, g2, g3, gl, gf⟩ := hG.o4
      clear hb5 hG
      go_wp2
      refine name_world2 ?_
      intro w6 hw6
      rw [← hw6] at KZ hb6
      clear hw6 g0 g1 g2 g3 gl gf d0 d1 d2 d3 d4 d5 dl
      obtain ⟨g0, g1, g2, g3, gl, -⟩ := KZ.o4
      have x1 := (hb6.cell (p := ⟨b, o + k, none⟩) hbl).trans x1
      have hbl6 : b < w6.heap.size := Nat.lt_of_lt_of_le hbl hb6.size
      refine Calm.still_tail 8 (by kernel_rfl) (by kernel_rfl) ?_
      simp only [List.take_succ_cons, List.take_zero, List.drop_succ_cons, List.drop_zero]
      (first | (apply Calm.still_op_move; (focus rfl); (focus (first | exact .inl rfl | exact .inr rfl)); (focus ((try simp only [Act.eval, Array.getD_eq_getD_getElem?, List.getElem?_toArray, List.getElem?_cons_succ, List.getElem?_cons_zero, Option.getD_some]); rfl)); (try simp only [Act.put, List.setIfInBounds_toArray, List.set_cons_zero, List.set_cons_succ])) | (apply Calm.still_op_not; (focus rfl); (try simp only [Act.put, List.setIfInBounds_toArray, List.set_cons_zero, List.set_cons_succ])) | (apply Calm.still_op; (focus rfl); (focus (intro W hb; obtain ⟨hc, hf⟩ := bcell hb; clear hb hf; go_simp; (try go_bits); (try rfl); done)); (try simp only [Act.put, List.setIfInBounds_toArray, List.set_cons_zero, List.set_cons_succ])))
      (first | (apply Calm.still_op_move; (focus rfl); (focus (first | exact .inl rfl | exact .inr rfl)); (focus ((try simp only [Act.eval, Array.getD_eq_getD_getElem?, List.getElem?_toArray, List.getElem?_cons_succ, List.getElem?_cons_zero, Option.getD_some]); rfl)); (try simp only [Act.put, List.setIfInBounds_toArray, List.set_cons_zero, List.set_cons_succ])) | (apply Calm.still_op_not; (focus rfl); (try simp only [Act.put, List.setIfInBounds_toArray, List.set_cons_zero, List.set_cons_succ])) | (apply Calm.still_op; (focus rfl); (focus (intro W hb; obtain ⟨hc, hf⟩ := bcell hb; clear hb hf; go_simp; (try go_bits); (try rfl); done)); (try simp only [Act.put, List.setIfInBounds_toArray, List.set_cons_zero, List.set_cons_succ])))
      apply Calm.still_op_call
      focus rfl
      focus (intro W hb; obtain ⟨hc, hf⟩ := bcell hb; clear hb hf; go_simp; refine ⟨?_, ?_⟩; rfl; rfl)
      focus (intro W hb; exact Calm.call_below hb (HS1.out _))
      (try simp only [Act.put, List.setIfInBounds_toArray, List.set_cons_zero, List.set_cons_succ])
      (first | (apply Calm.still_op_move; (focus rfl); (focus (first | exact .inl rfl | exact .inr rfl)); (focus ((try simp only [Act.eval, Array.getD_eq_getD_getElem?, List.getElem?_toArray, List.getElem?_cons_succ, List.getElem?_cons_zero, Option.getD_some]); rfl)); (try simp only [Act.put, List.setIfInBounds_toArray, List.set_cons_zero, List.set_cons_succ])) | (apply Calm.still_op_not; (focus rfl); (try simp only [Act.put, List.setIfInBounds_toArray, List.set_cons_zero, List.set_cons_succ])) | (apply Calm.still_op; (focus rfl); (focus (intro W hb; obtain ⟨hc, hf⟩ := bcell hb; clear hb hf; go_simp; (try go_bits); (try rfl); done)); (try simp only [Act.put, List.setIfInBounds_toArray, List.set_cons_zero, List.set_cons_succ])))
      (first | (apply Calm.still_op_move; (focus rfl); (focus (first | exact .inl rfl | exact .inr rfl)); (focus ((try simp only [Act.eval, Array.getD_eq_getD_getElem?, List.getElem?_toArray, List.getElem?_cons_succ, List.getElem?_cons_zero, Option.getD_some]); rfl)); (try simp only [Act.put, List.setIfInBounds_toArray, List.set_cons_zero, List.set_cons_succ])) | (apply Calm.still_op_not; (focus rfl); (try simp only [Act.put, List.setIfInBounds_toArray, List.set_cons_zero, List.set_cons_succ])) | (apply Calm.still_op; (focus rfl); (focus (intro W hb; obtain ⟨hc, hf⟩ := bcell hb; clear hb hf; go_simp; (try go_bits); (try rfl); done)); (try simp only [Act.put, List.setIfInBounds_toArray, List.set_cons_zero, List.set_cons_succ])))
      apply Calm.still_op_call
      focus rfl
      focus (intro W hb; obtain ⟨hc, hf⟩ := bcell hb; clear hb hf; go_simp; refine ⟨?_, ?_⟩; rfl; rfl)
      focus (intro W hb; exact Calm.call_below hb (HS2.out _))
      (try simp only [Act.put, List.setIfInBounds_toArray, List.set_cons_zero, List.set_cons_succ])
      (first | (apply Calm.still_op_move; (focus rfl); (focus (first | exact .inl rfl | exact .inr rfl)); (focus ((try simp only [Act.eval, Array.getD_eq_getD_getElem?, List.getElem?_toArray, List.getElem?_cons_succ, List.getElem?_cons_zero, Option.getD_some]); rfl)); (try simp only [Act.put, List.setIfInBounds_toArray, List.set_cons_zero, List.set_cons_succ])) | (apply Calm.still_op_not; (focus rfl); (try simp only [Act.put, List.setIfInBounds_toArray, List.set_cons_zero, List.set_cons_succ])) | (apply Calm.still_op; (focus rfl); (focus (intro W hb; obtain ⟨hc, hf⟩ := bcell hb; clear hb hf; go_simp; (try go_bits); (try rfl); done)); (try simp only [Act.put, List.setIfInBounds_toArray, List.set_cons_zero, List.set_cons_succ])))
      (first | (apply Calm.still_op_move; (focus rfl); (focus (first | exact .inl rfl | exact .inr rfl)); (focus ((try simp only [Act.eval, Array.getD_eq_getD_getElem?, List.getElem?_toArray, List.getElem?_cons_succ, List.getElem?_cons_zero, Option.getD_some]); rfl)); (try simp only [Act.put, List.setIfInBounds_toArray, List.set_cons_zero, List.set_cons_succ])) | (apply Calm.still_op_not; (focus rfl); (try simp only [Act.put, List.setIfInBounds_toArray, List.set_cons_zero, List.set_cons_succ])) | (apply Calm.still_op; (focus rfl); (focus (intro W hb; obtain ⟨hc, hf⟩ := bcell hb; clear hb hf; go_simp; (try go_bits); (try rfl); done)); (try simp only [Act.put, List.setIfInBounds_toArray, List.set_cons_zero, List.set_cons_succ])))
      refine Calm.still_nil ?_
      intro w7 hb7
      obtain ⟨hb7c, hb7f⟩ := bcell hb7
      have hb7z := hb7.size
      (try simp at hb7z)
      (try have hb7z0 : w.heap.size < w7.heap.size := by omega)
      (try have hb7z1 : w.heap.size + 1 < w7.heap.size := by omega)
      (try have hb7z2 : w.heap.size + 1 + 1 < w7.heap.size := by omega)
      (try have hb7z3 : w.heap.size + 1 + 1 + 1 < w7.heap.size := by omega)
      (try have hb7z4 : w.heap.size + 1 + 1 + 1 + 1 < w7.heap.size := by omega)
      (try have hb7z5 : w.heap.size + 1 + 1 + 1 + 1 + 1 < w7.heap.size := by omega)
      have x1 := (hb7.cell (p := ⟨b, o + k, none⟩) hbl6).trans x1
      have hbl7 : b < w7.heap.size := Nat.lt_of_lt_of_le hbl6 hb7.size
      clear hb7c hb7f g0 g1 g2 g3 gl
      go_wp2
      refine Rel.region2 22 (by kernel_rfl) (by kernel_rfl) (by kernel_rfl) (by kernel_rfl) ?_
      simp only [List.take_succ_cons, List.take_zero, List.drop_succ_cons, List.drop_zero, List.filterMap_cons, List.filterMap_nil]
      repeat (first | (apply Rel.op; (focus rfl); (focus (intro a W hb hd hbase; obtain ⟨hc, hf⟩ := bcell hb; clear hb hf; simp [Rel.deps, Rel.dep1, Act.eval] at hd; simp only [Act.eval, List.mem_cons, List.not_mem_nil, not_or, and_imp, or_false, Array.getD_eq_getD_getElem?] at hbase; go_simp; (try go_bits); (try rfl); done)); (try simp only [List.nil_append, List.cons_append])) | (apply Rel.alloc; (focus rfl); (focus (intro a W; go_simp; refine ⟨?_, ?_⟩; rfl; rfl)); (try simp only [List.nil_append, List.cons_append])) | (apply Rel.alloc; (focus rfl); (focus (intro a W; go_simp; rfl)); (try simp only [List.nil_append, List.cons_append])) | (apply Rel.build; (focus rfl); (focus (intro a W hb hd hbase; obtain ⟨hc, hf⟩ := bcell hb; clear hb hf; simp [Rel.deps, Rel.dep1, Act.eval] at hd; simp only [Act.eval, List.mem_cons, List.not_mem_nil, not_or, and_imp, or_false, Array.getD_eq_getD_getElem?] at hbase; go_simp; (first | rfl | (refine ⟨⟨?_, ?_⟩, ?_⟩; rfl; rfl; rfl) | (refine ⟨?_, ?_⟩; rfl; rfl)))); (try simp only [List.nil_append, List.cons_append])))
      refine Rel.done ?_
      intro x w8 hb8 hx
      simp only [Rel.facts, Nat.zero_add, Nat.reduceAdd] at hx
      obtain ⟨e0, e1, e2, e3, e4, e5, e6, e7, e8, e9, e10, e11, e12, e13, e14, e15, e16, e17, e18, e19, e20, ⟨sl, e21, slB, slk⟩, _⟩ := hx
      simp only [Rel.fill, Nat.zero_add, Nat.reduceAdd, e0, e1, e2, e3, e4, e5, e6, e7, e8, e9, e10, e11, e12, e13, e14, e15, e16, e17, e18, e19, e20, e21]
      simp only [Act.put, List.setIfInBounds_toArray, List.set_cons_zero, List.set_cons_succ]
      clear e0 e1 e2 e3 e4 e5 e6 e7 e8 e9 e10 e11 e12 e13 e14 e15 e16 e17 e18 e19 e20 e21
      clear x
      obtain ⟨hb8c, hb8f⟩ := bcell hb8
      have hb8z := hb8.size
      (try simp at hb8z)
      (try have hb8z0 : w.heap.size < w8.heap.size := by omega)
      (try have hb8z1 : w.heap.size + 1 < w8.heap.size := by omega)
      (try have hb8z2 : w.heap.size + 1 + 1 < w8.heap.size := by omega)
      (try have hb8z3 : w.heap.size + 1 + 1 + 1 < w8.heap.size := by omega)
      (try have hb8z4 : w.heap.size + 1 + 1 + 1 + 1 < w8.heap.size := by omega)
      (try have hb8z5 : w.heap.size + 1 + 1 + 1 + 1 + 1 < w8.heap.size := by omega)
      have hb68 := hb6.trans ((hb7.mono hb6.size).trans (hb8.mono (Nat.le_trans hb6.size hb7.size)))
      have ho1 := ownsRow_below HO.out hb68
      have s0 := slk.cell 0 (.int .i64 (x)) rfl
      have s1 := slk.cell 1 (.int .i64 (Nn * (100 - p) / E)) rfl
      have s2 := slk.cell 2 (.int .i64 ((Nn * (100 + p) + E - 1) / E)) rfl
      refine wpList_append_own _ rfl _ _ 26 rfl (w.heap.size + 1) 120 i0 _ 3 24 Tryz.underlying26 hi iz0 iz1 iz2 rfl (by decide) _ _ _ rfl ho1 ⟨sl, 0, none⟩ 1 1 [(.int .i64 (x)), (.int .i64 (Nn * (100 - p) / E)), (.int .i64 ((Nn * (100 + p) + E - 1) / E))] rfl rfl ?c1 ?c2 ?c3 ?c4 ?c5 ?_
      case c1 =>
        intro j u hj
        match j, hj with
        | 0, hj => simp at hj; subst hj; exact s0
        | 1, hj => simp at hj; subst hj; exact s1
        | 2, hj => simp at hj; subst hj; exact s2
      case c2 => intro u hu; simp at hu; rcases hu with rfl | rfl | rfl <;> rfl
      case c3 => unfold maxLen; omega
      case c4 => omega
      case c5 => have := hb68.size; omega
      intro v' w9 hown' hgrow _
      have hB8 : Below w.heap.size w w8 := HB.out.trans (hb68.mono hsz)
      have hB9 : Below (w.heap.size + 1) w8 w9 := (Below.refl _ _).grown hgrow (by have := hb68.size; omega) (fun j hj => (HO.out.lt j hj).1)
      have K9 := (HK.out.below hb68).of (Nat.lt_succ_self _) hB9
      clear hgrow
      have HO9 := Lib.hid hown'
      clear hown'
      go_wp2
      go_roundw
      case rel => exact ⟨k + 1, by omega, by go_num, by
        rw [HS.out, flat3_append, ← HX.out]
        have e1 : sweep1 re le bl ma st lo p x = (x, Nn * (100 - p) / E, (Nn * (100 + p) + E - 1) / E) := by
          unfold sweep1
          rw [← HNn.out, ← HDd.out, ← HEE.out, Int.mul_comm 100 Dd]
        rw [e1]
        simpa [flat3] using HO9.out, hB8.trans (Below.mono hB9 (by omega)), K9⟩
      case measure => simp [intOf]; omega
    · obtain rfl : k = N := by omega
      have e : zs.take k = zs := by rw [HN.out]; exact List.take_length
      have hown := HO.out
      rw [e] at hown
      obtain ⟨B, cc, rfl, _, hr⟩ := own_reads hown (by rw [sweepL_len]; exact HN.out)
      have HR := Lib.hid hr
      clear hown e hr hB
      go_wp2
      go_ret
      exact ⟨B, cc, rfl, HR.out, HB.out⟩

end Go.Proofs.YtpkldjlljoledaaGreatDoor

/- Contract of Sweep's errors. %still -/
namespace Go.Proofs.YtpkldjlljoledaaGreatDoor
open Go.RowKit
open Calm (bcell Blk)

/-- the first error of a sweep. -/
def swpErr (re le bl ma st lo : Int) (zs : List Int) (p : Int) : Int := firstOf [drvErr re le bl ma st lo, swErr zs, rangeErr p 0 50]
theorem keptBad_zero {zs : List Int} : (keptBad zs).length = 0 ↔ firstOf (zs.map fun x => rangeErr x 1 8) = 0 := by
  rw [firstOf_eq_zero]
  constructor
  · intro h x hx
    obtain ⟨y, hy, rfl⟩ := List.mem_map.1 hx
    have h2 := List.filter_eq_nil_iff.1 (List.eq_nil_of_length_eq_zero h) y hy
    simpa using h2
  · intro h
    have : keptBad zs = [] := List.filter_eq_nil_iff.2 fun y hy => by
      have := h _ (List.mem_map.2 ⟨y, hy, rfl⟩)
      simp [this]
    rw [this]; rfl
theorem firstOf_three {l : List Int} (h : ∀ x ∈ l, x = 0 ∨ x = 3) : firstOf l = 0 ∨ firstOf l = 3 := by
  induction l with
  | nil => exact .inl rfl
  | cons a l ih =>
    rcases h a (by simp) with rfl | rfl
    · have := ih (fun x hx => h x (by simp [hx]))
      simpa [firstOf] using this
    · exact .inr rfl
set_option maxRecDepth 100000 in
set_option maxHeartbeats 4000000 in
theorem Sweep_bad (re le bl ma st lo p : Int) (A : Option Addr) (zs : List Int) (c : Nat) (w : World) (hL : Lim w) (hC : Cells w A zs) (hn : zs.length ≤ 100000) (h : swpErr re le bl ma st lo zs p ≠ 0) :
    Calls Tryz.prog 25 #[.agg #[(.int .i64 (re)), (.int .i64 (le)), (.int .i64 (bl)), (.int .i64 (ma)), (.int .i64 (st)), (.int .i64 (lo))], .slice A zs.length c, (.int .i64 (p))] w fun r w' => r = .returned (.tuple #[.slice none 0 0, (.int .i64 (swpErr re le bl ma st lo zs p))]) ∧ Below w.heap.size w w' := by
  obtain ⟨R, hR⟩ : ∃ R, R = swpErr re le bl ma st lo zs p := ⟨_, rfl⟩
  rw [← hR] at h ⊢
  unfold swpErr swErr at hR
  have hKB0 : ∀ W : World, Cells W A zs → Calls Tryz.prog 67 #[.slice A zs.length c, .func (.func 68) #[] #[]] W (SomeLen (keptBad zs).length W) := fun W k1 => keptBad_any A zs c W k1 hn
  obtain ⟨M, hM⟩ : ∃ M, M = (keptBad zs).length := ⟨_, rfl⟩
  have hMz : M = 0 ↔ firstOf (zs.map fun x => rangeErr x 1 8) = 0 := by rw [hM]; exact keptBad_zero
  have hM3 : firstOf (zs.map fun x => rangeErr x 1 8) = 0 ∨ firstOf (zs.map fun x => rangeErr x 1 8) = 3 := firstOf_three fun x hx => by
    obtain ⟨y, _, rfl⟩ := List.mem_map.1 hx
    rcases rangeErr_cases y 1 8 with ⟨e, _⟩ | ⟨e, _⟩
    · exact .inl e
    · exact .inr e
  have hMle : M ≤ 100000 := by rw [hM]; exact Nat.le_trans (List.length_filter_le _ _) hn
  rw [← hM] at hKB0
  generalize firstOf (zs.map fun x => rangeErr x 1 8) = F at hR hMz hM3
  obtain ⟨N, hN⟩ : ∃ N, N = zs.length := ⟨_, rfl⟩
  rw [← hN] at hn hR hKB0 ⊢
  have HC := Lib.hid hC
  have HKB := Lib.hid hKB0
  clear hC hKB0 hM hN
  obtain ⟨DE, hDE⟩ : ∃ DE, DE = drvErr re le bl ma st lo := ⟨_, rfl⟩
  have HDE : Hid (∀ W : World, Lim W → Calls Tryz.prog 60 #[.agg #[(.int .i64 (re)), (.int .i64 (le)), (.int .i64 (bl)), (.int .i64 (ma)), (.int .i64 (st)), (.int .i64 (lo))]] W fun r w' => r = .returned (.int .i64 (DE)) ∧ Below W.heap.size W w') := Lib.hid (fun W hL => by rw [hDE]; exact checkDriver_any _ _ _ _ _ _ _ hL)
  rw [← hDE] at hR
  clear hDE
  by_cases h0 : DE = 0
  · subst h0
    by_cases hlong : 32 < N
    · have e1 : firstOf [0, 5] = 5 := rfl
      rw [if_pos hlong] at hR
      have hR5 : R = 5 := by rw [hR]; rfl
      subst hR5
      clear hMz hM3 hR
      go_enter Tryz.func25, Tryz.ntmps25
      go_wp2_with (first
        | (go_at_call 60; refine (HDE.out _ (hL.below (by repeat (first | (with_reducible exact Below.refl _ _) | ((with_reducible refine Below.setCell ?_ ?_ _); rotate_left 1; focus (first | (simp; done) | (simp; omega) | (simp at *; omega))) | ((with_reducible refine Below.alloc ?_ ?_ _); rotate_left 1; focus (first | (simp; done) | (simp; omega) | (simp at *; omega))) | (with_reducible refine Below.drew ?_) | ((with_reducible refine Calm.step (by assumption) ?_ ?_); rotate_left 1; focus (first | (simp; done) | (simp; omega) | (simp at *; omega))))))).mono ?_; rintro r w1 ⟨rfl, hb⟩; obtain ⟨hc, hf⟩ := bcell hb; have hz := hb.size; (try simp at hz); have hz0 : w.heap.size < w1.heap.size := by omega)
        | (go_at_call 62; refine (when_any _ _ _).mono ?_; rintro r w2 ⟨rfl, rfl⟩)
        | (go_at_call 54; refine (first2_any _ _ _).mono ?_; rintro r w3 ⟨rfl, rfl⟩))
      go_ret2
      refine ⟨by first | rfl | (simp; done), ?_⟩
      repeat (first | (with_reducible exact Below.refl _ _) | ((with_reducible refine Below.setCell ?_ ?_ _); rotate_left 1; focus (first | (simp; done) | (simp; omega) | (simp at *; omega))) | ((with_reducible refine Below.alloc ?_ ?_ _); rotate_left 1; focus (first | (simp; done) | (simp; omega) | (simp at *; omega))) | (with_reducible refine Below.drew ?_) | ((with_reducible refine Calm.step (by assumption) ?_ ?_); rotate_left 1; focus (first | (simp; done) | (simp; omega) | (simp at *; omega))))
    · rw [if_neg hlong] at hR
      have e1 : firstOf [0, 0] = 0 := rfl
      rcases rangeErr_cases p 0 50 with ⟨ep, _⟩ | ⟨ep, _⟩
      · have hF3 : F = 3 := by
          rcases hM3 with hF | hF
          · subst hF; rw [ep] at hR; exact absurd hR h
          · exact hF
        have hMp : ¬ M = 0 := fun hh => by have := hMz.1 hh; omega
        have hMp2 : 0 < M := by omega
        subst hF3
        have hR3 : R = 3 := by rw [hR]; rfl
        subst hR3
        have e2 : firstOf [3, 0] = 3 := rfl
        clear hMz hM3 hR h
        go_enter Tryz.func25, Tryz.ntmps25
        go_wp2_with (first
          | (go_at_call 60; refine (HDE.out _ (hL.below (by repeat (first | (with_reducible exact Below.refl _ _) | ((with_reducible refine Below.setCell ?_ ?_ _); rotate_left 1; focus (first | (simp; done) | (simp; omega) | (simp at *; omega))) | ((with_reducible refine Below.alloc ?_ ?_ _); rotate_left 1; focus (first | (simp; done) | (simp; omega) | (simp at *; omega))) | (with_reducible refine Below.drew ?_) | ((with_reducible refine Calm.step (by assumption) ?_ ?_); rotate_left 1; focus (first | (simp; done) | (simp; omega) | (simp at *; omega))))))).mono ?_; rintro r w1 ⟨rfl, hb⟩; obtain ⟨hc, hf⟩ := bcell hb; have hz := hb.size; (try simp at hz); have hz0 : w.heap.size < w1.heap.size := by omega)
          | (go_at_call 62; refine (when_any _ _ _).mono ?_; rintro r w2 ⟨rfl, rfl⟩)
          | (go_at_call 54; refine (first2_any _ _ _).mono ?_; rintro r w3 ⟨rfl, rfl⟩)
          | (go_at_call 61; refine (within_any _ _ _ _).mono ?_; rintro r w4 ⟨rfl, rfl⟩)
          | (go_at_call 67; refine (HKB.out _ (HC.out.below (by (repeat (first | (with_reducible exact Below.refl _ _) | ((with_reducible refine Below.setCell ?_ ?_ _); rotate_left 1; focus (first | (simp; done) | (simp; omega) | (simp at *; omega))) | ((with_reducible refine Below.alloc ?_ ?_ _); rotate_left 1; focus (first | (simp; done) | (simp; omega) | (simp at *; omega))) | (with_reducible refine Below.drew ?_) | ((with_reducible refine Calm.step (by assumption) ?_ ?_); rotate_left 1; focus (first | (simp; done) | (simp; omega) | (simp at *; omega)))))))).mono ?_; rintro r w5 ⟨A5, c5, rfl, hb5⟩; obtain ⟨hc5, hf5⟩ := bcell hb5; have hz5 := hb5.size; (try simp at hz5); have hz50 : w.heap.size < w5.heap.size := by omega))
        go_ret2
        refine ⟨by first | rfl | (simp; done), ?_⟩
        repeat (first | (with_reducible exact Below.refl _ _) | ((with_reducible refine Below.setCell ?_ ?_ _); rotate_left 1; focus (first | (simp; done) | (simp; omega) | (simp at *; omega))) | ((with_reducible refine Below.alloc ?_ ?_ _); rotate_left 1; focus (first | (simp; done) | (simp; omega) | (simp at *; omega))) | (with_reducible refine Below.drew ?_) | ((with_reducible refine Calm.step (by assumption) ?_ ?_); rotate_left 1; focus (first | (simp; done) | (simp; omega) | (simp at *; omega))))
      · rw [ep] at hR
        have hR3 : R = 3 := by rcases hM3 with rfl | rfl <;> (rw [hR]; rfl)
        subst hR3
        have e2 : firstOf [3, 3] = 3 := rfl
        have e3 : firstOf [0, 3] = 3 := rfl
        clear hR h hM3
        by_cases hMp : M = 0
        · subst hMp
          clear hMz
          go_enter Tryz.func25, Tryz.ntmps25
          go_wp2_with (first
            | (go_at_call 60; refine (HDE.out _ (hL.below (by repeat (first | (with_reducible exact Below.refl _ _) | ((with_reducible refine Below.setCell ?_ ?_ _); rotate_left 1; focus (first | (simp; done) | (simp; omega) | (simp at *; omega))) | ((with_reducible refine Below.alloc ?_ ?_ _); rotate_left 1; focus (first | (simp; done) | (simp; omega) | (simp at *; omega))) | (with_reducible refine Below.drew ?_) | ((with_reducible refine Calm.step (by assumption) ?_ ?_); rotate_left 1; focus (first | (simp; done) | (simp; omega) | (simp at *; omega))))))).mono ?_; rintro r w1 ⟨rfl, hb⟩; obtain ⟨hc, hf⟩ := bcell hb; have hz := hb.size; (try simp at hz); have hz0 : w.heap.size < w1.heap.size := by omega)
            | (go_at_call 62; refine (when_any _ _ _).mono ?_; rintro r w2 ⟨rfl, rfl⟩)
            | (go_at_call 54; refine (first2_any _ _ _).mono ?_; rintro r w3 ⟨rfl, rfl⟩)
            | (go_at_call 61; refine (within_any _ _ _ _).mono ?_; rintro r w4 ⟨rfl, rfl⟩)
            | (go_at_call 67; refine (HKB.out _ (HC.out.below (by (repeat (first | (with_reducible exact Below.refl _ _) | ((with_reducible refine Below.setCell ?_ ?_ _); rotate_left 1; focus (first | (simp; done) | (simp; omega) | (simp at *; omega))) | ((with_reducible refine Below.alloc ?_ ?_ _); rotate_left 1; focus (first | (simp; done) | (simp; omega) | (simp at *; omega))) | (with_reducible refine Below.drew ?_) | ((with_reducible refine Calm.step (by assumption) ?_ ?_); rotate_left 1; focus (first | (simp; done) | (simp; omega) | (simp at *; omega)))))))).mono ?_; rintro r w5 ⟨A5, c5, rfl, hb5⟩; obtain ⟨hc5, hf5⟩ := bcell hb5; have hz5 := hb5.size; (try simp at hz5); have hz50 : w.heap.size < w5.heap.size := by omega))
          go_ret2
          refine ⟨by first | rfl | (simp; done), ?_⟩
          repeat (first | (with_reducible exact Below.refl _ _) | ((with_reducible refine Below.setCell ?_ ?_ _); rotate_left 1; focus (first | (simp; done) | (simp; omega) | (simp at *; omega))) | ((with_reducible refine Below.alloc ?_ ?_ _); rotate_left 1; focus (first | (simp; done) | (simp; omega) | (simp at *; omega))) | (with_reducible refine Below.drew ?_) | ((with_reducible refine Calm.step (by assumption) ?_ ?_); rotate_left 1; focus (first | (simp; done) | (simp; omega) | (simp at *; omega))))
        · have hMp2 : 0 < M := by omega
          clear hMz
          go_enter Tryz.func25, Tryz.ntmps25
          go_wp2_with (first
            | (go_at_call 60; refine (HDE.out _ (hL.below (by repeat (first | (with_reducible exact Below.refl _ _) | ((with_reducible refine Below.setCell ?_ ?_ _); rotate_left 1; focus (first | (simp; done) | (simp; omega) | (simp at *; omega))) | ((with_reducible refine Below.alloc ?_ ?_ _); rotate_left 1; focus (first | (simp; done) | (simp; omega) | (simp at *; omega))) | (with_reducible refine Below.drew ?_) | ((with_reducible refine Calm.step (by assumption) ?_ ?_); rotate_left 1; focus (first | (simp; done) | (simp; omega) | (simp at *; omega))))))).mono ?_; rintro r w1 ⟨rfl, hb⟩; obtain ⟨hc, hf⟩ := bcell hb; have hz := hb.size; (try simp at hz); have hz0 : w.heap.size < w1.heap.size := by omega)
            | (go_at_call 62; refine (when_any _ _ _).mono ?_; rintro r w2 ⟨rfl, rfl⟩)
            | (go_at_call 54; refine (first2_any _ _ _).mono ?_; rintro r w3 ⟨rfl, rfl⟩)
            | (go_at_call 61; refine (within_any _ _ _ _).mono ?_; rintro r w4 ⟨rfl, rfl⟩)
            | (go_at_call 67; refine (HKB.out _ (HC.out.below (by (repeat (first | (with_reducible exact Below.refl _ _) | ((with_reducible refine Below.setCell ?_ ?_ _); rotate_left 1; focus (first | (simp; done) | (simp; omega) | (simp at *; omega))) | ((with_reducible refine Below.alloc ?_ ?_ _); rotate_left 1; focus (first | (simp; done) | (simp; omega) | (simp at *; omega))) | (with_reducible refine Below.drew ?_) | ((with_reducible refine Calm.step (by assumption) ?_ ?_); rotate_left 1; focus (first | (simp; done) | (simp; omega) | (simp at *; omega)))))))).mono ?_; rintro r w5 ⟨A5, c5, rfl, hb5⟩; obtain ⟨hc5, hf5⟩ := bcell hb5; have hz5 := hb5.size; (try simp at hz5); have hz50 : w.heap.size < w5.heap.size := by omega))
          go_ret2
          refine ⟨by first | rfl | (simp; done), ?_⟩
          repeat (first | (with_reducible exact Below.refl _ _) | ((with_reducible refine Below.setCell ?_ ?_ _); rotate_left 1; focus (first | (simp; done) | (simp; omega) | (simp at *; omega))) | ((with_reducible refine Below.alloc ?_ ?_ _); rotate_left 1; focus (first | (simp; done) | (simp; omega) | (simp at *; omega))) | (with_reducible refine Below.drew ?_) | ((with_reducible refine Calm.step (by assumption) ?_ ?_); rotate_left 1; focus (first | (simp; done) | (simp; omega) | (simp at *; omega))))
  · have hRD : R = DE := by rw [hR]; unfold firstOf; simp [h0]
    subst hRD
    by_cases hlong : 32 < N
    · have e1 : firstOf [R, 5] = R := by unfold firstOf; simp [h0]
      clear hMz hM3 hR h
      go_enter Tryz.func25, Tryz.ntmps25
      go_wp2_with (first
        | (go_at_call 60; refine (HDE.out _ (hL.below (by repeat (first | (with_reducible exact Below.refl _ _) | ((with_reducible refine Below.setCell ?_ ?_ _); rotate_left 1; focus (first | (simp; done) | (simp; omega) | (simp at *; omega))) | ((with_reducible refine Below.alloc ?_ ?_ _); rotate_left 1; focus (first | (simp; done) | (simp; omega) | (simp at *; omega))) | (with_reducible refine Below.drew ?_) | ((with_reducible refine Calm.step (by assumption) ?_ ?_); rotate_left 1; focus (first | (simp; done) | (simp; omega) | (simp at *; omega))))))).mono ?_; rintro r w1 ⟨rfl, hb⟩; obtain ⟨hc, hf⟩ := bcell hb; have hz := hb.size; (try simp at hz); have hz0 : w.heap.size < w1.heap.size := by omega)
        | (go_at_call 62; refine (when_any _ _ _).mono ?_; rintro r w2 ⟨rfl, rfl⟩)
        | (go_at_call 54; refine (first2_any _ _ _).mono ?_; rintro r w3 ⟨rfl, rfl⟩))
      go_ret2
      refine ⟨by first | rfl | (simp; done), ?_⟩
      repeat (first | (with_reducible exact Below.refl _ _) | ((with_reducible refine Below.setCell ?_ ?_ _); rotate_left 1; focus (first | (simp; done) | (simp; omega) | (simp at *; omega))) | ((with_reducible refine Below.alloc ?_ ?_ _); rotate_left 1; focus (first | (simp; done) | (simp; omega) | (simp at *; omega))) | (with_reducible refine Below.drew ?_) | ((with_reducible refine Calm.step (by assumption) ?_ ?_); rotate_left 1; focus (first | (simp; done) | (simp; omega) | (simp at *; omega))))
    · have e1 : firstOf [R, 0] = R := by unfold firstOf; simp [h0]
      clear hMz hM3 hR h
      go_enter Tryz.func25, Tryz.ntmps25
      go_wp2_with (first
        | (go_at_call 60; refine (HDE.out _ (hL.below (by repeat (first | (with_reducible exact Below.refl _ _) | ((with_reducible refine Below.setCell ?_ ?_ _); rotate_left 1; focus (first | (simp; done) | (simp; omega) | (simp at *; omega))) | ((with_reducible refine Below.alloc ?_ ?_ _); rotate_left 1; focus (first | (simp; done) | (simp; omega) | (simp at *; omega))) | (with_reducible refine Below.drew ?_) | ((with_reducible refine Calm.step (by assumption) ?_ ?_); rotate_left 1; focus (first | (simp; done) | (simp; omega) | (simp at *; omega))))))).mono ?_; rintro r w1 ⟨rfl, hb⟩; obtain ⟨hc, hf⟩ := bcell hb; have hz := hb.size; (try simp at hz); have hz0 : w.heap.size < w1.heap.size := by omega)
        | (go_at_call 62; refine (when_any _ _ _).mono ?_; rintro r w2 ⟨rfl, rfl⟩)
        | (go_at_call 54; refine (first2_any _ _ _).mono ?_; rintro r w3 ⟨rfl, rfl⟩))
      go_ret2
      refine ⟨by first | rfl | (simp; done), ?_⟩
      repeat (first | (with_reducible exact Below.refl _ _) | ((with_reducible refine Below.setCell ?_ ?_ _); rotate_left 1; focus (first | (simp; done) | (simp; omega) | (simp at *; omega))) | ((with_reducible refine Below.alloc ?_ ?_ _); rotate_left 1; focus (first | (simp; done) | (simp; omega) | (simp at *; omega))) | (with_reducible refine Below.drew ?_) | ((with_reducible refine Calm.step (by assumption) ?_ ?_); rotate_left 1; focus (first | (simp; done) | (simp; omega) | (simp at *; omega))))
end Go.Proofs.YtpkldjlljoledaaGreatDoor

/- Contracts of the statements' helpers. %still -/
namespace Go.Proofs.YtpkldjlljoledaaGreatDoor
open Go.RowKit
open Calm (bcell Blk)

theorem sample_any (w : World) : Calls Tryz.prog 39 #[] w fun r w' => r = .returned (.agg #[(.int .i64 (6)), (.int .i64 (0)), (.int .i64 (2)), (.int .i64 (1)), (.int .i64 (4)), (.int .i64 (1))]) ∧ Below w.heap.size w w' := by
  go_enter Tryz.func39, Tryz.ntmps39
  go_wp2
  refine bodyPost_ret (v := .agg #[(.int .i64 (6)), (.int .i64 (0)), (.int .i64 (2)), (.int .i64 (1)), (.int .i64 (4)), (.int .i64 (1))]) (by simp [results, Tryz.results39, go_sem, *]) rfl ⟨rfl, ?_⟩
  repeat (first | (with_reducible exact Below.refl _ _) | ((with_reducible refine Below.setCell ?_ ?_ _); rotate_left 1; focus (first | (simp; done) | (simp; omega) | (simp at *; omega))) | ((with_reducible refine Below.alloc ?_ ?_ _); rotate_left 1; focus (first | (simp; done) | (simp; omega) | (simp at *; omega))) | (with_reducible refine Below.drew ?_) | ((with_reducible refine Calm.step (by assumption) ?_ ?_); rotate_left 1; focus (first | (simp; done) | (simp; omega) | (simp at *; omega))))
theorem vented_any (w : World) : Calls Tryz.prog 46 #[] w fun r w' => r = .returned (.agg #[(.int .i64 (2)), (.int .i64 (1)), (.int .i64 (0)), (.int .i64 (1))]) ∧ Below w.heap.size w w' := by
  go_enter Tryz.func46, Tryz.ntmps46
  go_wp2
  refine bodyPost_ret (v := .agg #[(.int .i64 (2)), (.int .i64 (1)), (.int .i64 (0)), (.int .i64 (1))]) (by simp [results, Tryz.results46, go_sem, *]) rfl ⟨rfl, ?_⟩
  repeat (first | (with_reducible exact Below.refl _ _) | ((with_reducible refine Below.setCell ?_ ?_ _); rotate_left 1; focus (first | (simp; done) | (simp; omega) | (simp at *; omega))) | ((with_reducible refine Below.alloc ?_ ?_ _); rotate_left 1; focus (first | (simp; done) | (simp; omega) | (simp at *; omega))) | (with_reducible refine Below.drew ?_) | ((with_reducible refine Calm.step (by assumption) ?_ ?_); rotate_left 1; focus (first | (simp; done) | (simp; omega) | (simp at *; omega))))
theorem pair_any (a b c d : Int) (w : World) : Calls Tryz.prog 51 #[(.int .i64 (a)), (.int .i64 (b)), (.int .i64 (c)), (.int .i64 (d))] w fun r w' => r = .returned (.agg #[(.int .i64 (a)), (.int .i64 (b)), (.int .i64 (c)), (.int .i64 (d))]) ∧ Below w.heap.size w w' := by
  go_enter Tryz.func51, Tryz.ntmps51
  go_wp2
  refine bodyPost_ret (v := .agg #[(.int .i64 (a)), (.int .i64 (b)), (.int .i64 (c)), (.int .i64 (d))]) (by simp [results, Tryz.results51, go_sem, *]) rfl ⟨rfl, ?_⟩
  repeat (first | (with_reducible exact Below.refl _ _) | ((with_reducible refine Below.setCell ?_ ?_ _); rotate_left 1; focus (first | (simp; done) | (simp; omega) | (simp at *; omega))) | ((with_reducible refine Below.alloc ?_ ?_ _); rotate_left 1; focus (first | (simp; done) | (simp; omega) | (simp at *; omega))) | (with_reducible refine Below.drew ?_) | ((with_reducible refine Calm.step (by assumption) ?_ ?_); rotate_left 1; focus (first | (simp; done) | (simp; omega) | (simp at *; omega))))
end Go.Proofs.YtpkldjlljoledaaGreatDoor

/- Contract of the condition in Linear. %still -/
namespace Go.Proofs.YtpkldjlljoledaaGreatDoor
open Go.RowKit
open Calm (bcell Blk)

/-- is a curve fine at an index. -/
def fineB (xs ys : List Int) (n : Nat) (fo st : Int) (i : Nat) : Bool := decide (fo * xs.getD n 0 ≤ 100 * xs.getD i 0) && decide (100 * ys.getD i 0 ≤ st * ys.getD n 0)
set_option maxHeartbeats 4000000 in
set_option maxRecDepth 100000 in
theorem fine_any (xs ys : List Int) (i n : Nat) (fo st : Int) (q1 q2 q3 q4 : Nat) (A1 A2 : Option Addr) (c1 c2 : Nat) (w : World)
    (k1 : Blk w q1 #[.slice A1 xs.length c1, .slice A2 ys.length c2]) (k2 : Blk w q2 #[(.int .i64 (fo))]) (k3 : Blk w q3 #[(.int .i64 (n))]) (k4 : Blk w q4 #[(.int .i64 (st))]) (hC1 : Cells w A1 xs) (hC2 : Cells w A2 ys) (hl : ys.length = xs.length) (hi : i < xs.length) (hn : n < xs.length)
    (h1 : ∀ x ∈ xs, 1 ≤ x ∧ x ≤ 999999999) (h2 : ∀ y ∈ ys, 1 ≤ y ∧ y ≤ 999999999) (hf : 1 ≤ fo ∧ fo ≤ 100) (hs : 100 ≤ st ∧ st ≤ 1000) :
    Calls Tryz.prog 97 #[(.int .i64 (i)), .pointer (some ⟨q1, 0, none⟩), .pointer (some ⟨q2, 0, none⟩), .pointer (some ⟨q3, 0, none⟩), .pointer (some ⟨q4, 0, none⟩)] w fun r w' => r = .returned (.bool (fineB xs ys n fo st i)) ∧ Below w.heap.size w w' := by
  obtain ⟨b1, o1, rfl, l1, m1⟩ := hC1 (by omega)
  obtain ⟨b2, o2, rfl, l2, m2⟩ := hC2 (by omega)
  have d1 := k1.cell 0 _ rfl
  have d2 := k1.cell 1 _ rfl
  have d3 := k2.cell 0 _ rfl
  have d4 := k3.cell 0 _ rfl
  have d5 := k4.cell 0 _ rfl
  have t1 := k1.lt
  have t2 := k2.lt
  have t3 := k3.lt
  have t4 := k4.lt
  rw [hl] at d2 m2
  have x1 := m1 i hi
  have x2 := m1 n hn
  have y1 := m2 i hi
  have y2 := m2 n hn
  have a1 := h1 _ (getD_mem hi)
  have a2 := h1 _ (getD_mem hn)
  have e1 := h2 _ (getD_mem (k := i) (by omega))
  have e2 := h2 _ (getD_mem (k := n) (by omega))
  unfold fineB
  clear m1 m2 hC1 hC2 h1 h2 k1 k2 k3 k4
  generalize xs.getD i 0 = x at *
  generalize xs.getD n 0 = x' at *
  generalize ys.getD i 0 = y at *
  generalize ys.getD n 0 = y' at *
  have p1 : Bd 100 fo := ⟨by omega, by omega⟩
  have p2 : Bd 999999999 x' := ⟨by omega, by omega⟩
  have p3 : Bd 1000 st := ⟨by omega, by omega⟩
  have p4 : Bd 999999999 y' := ⟨by omega, by omega⟩
  obtain ⟨u1, u2⟩ := p1.mul p2 (by omega)
  obtain ⟨u3, u4⟩ := p3.mul p4 (by omega)
  clear p1 p2 p3 p4
  by_cases v1 : fo * x' ≤ 100 * x
  · rw [decide_eq_true v1]
    by_cases v2 : 100 * y ≤ st * y'
    · rw [decide_eq_true v2]
      go_enter Tryz.func97, Tryz.ntmps97
      go_wp2
      refine Calm.still_tail 29 (by kernel_rfl) (by kernel_rfl) ?_
      simp only [List.take_succ_cons, List.take_zero, List.drop_succ_cons, List.drop_zero]
      repeat (first | (apply Calm.still_op_move; (focus rfl); (focus (first | exact .inl rfl | exact .inr rfl)); (focus ((try simp only [Act.eval, Array.getD_eq_getD_getElem?, List.getElem?_toArray, List.getElem?_cons_succ, List.getElem?_cons_zero, Option.getD_some]); rfl)); (try simp only [Act.put, List.setIfInBounds_toArray, List.set_cons_zero, List.set_cons_succ])) | (apply Calm.still_op_not; (focus rfl); (try simp only [Act.put, List.setIfInBounds_toArray, List.set_cons_zero, List.set_cons_succ])) | (apply Calm.still_op; (focus rfl); (focus (intro W hb; obtain ⟨hc, hf⟩ := bcell hb; clear hb hf; go_simp; (try go_bits); (try rfl); done)); (try simp only [Act.put, List.setIfInBounds_toArray, List.set_cons_zero, List.set_cons_succ])))
      refine Calm.still_nil ?_
      intro w1 hb
      obtain ⟨hbc, hbf⟩ := bcell hb
      have hbz := hb.size
      (try simp at hbz)
      (try have hbz0 : w.heap.size < w1.heap.size := by omega)
      (try have hbz1 : w.heap.size + 1 < w1.heap.size := by omega)
      (try have hbz2 : w.heap.size + 1 + 1 < w1.heap.size := by omega)
      (try have hbz3 : w.heap.size + 1 + 1 + 1 < w1.heap.size := by omega)
      (try have hbz4 : w.heap.size + 1 + 1 + 1 + 1 < w1.heap.size := by omega)
      (try have hbz5 : w.heap.size + 1 + 1 + 1 + 1 + 1 < w1.heap.size := by omega)
      go_wp2
      go_ret
      refine ⟨by first | rfl | (simp; done) | (simp; omega), ?_⟩
      repeat (first | (with_reducible exact Below.refl _ _) | ((with_reducible refine Below.setCell ?_ ?_ _); rotate_left 1; focus (first | (simp; done) | (simp; omega) | (simp at *; omega))) | ((with_reducible refine Below.alloc ?_ ?_ _); rotate_left 1; focus (first | (simp; done) | (simp; omega) | (simp at *; omega))) | (with_reducible refine Below.drew ?_) | ((with_reducible refine Calm.step (by assumption) ?_ ?_); rotate_left 1; focus (first | (simp; done) | (simp; omega) | (simp at *; omega))))
    · rw [decide_eq_false v2]
      go_enter Tryz.func97, Tryz.ntmps97
      go_wp2
      refine Calm.still_tail 29 (by kernel_rfl) (by kernel_rfl) ?_
      simp only [List.take_succ_cons, List.take_zero, List.drop_succ_cons, List.drop_zero]
      repeat (first | (apply Calm.still_op_move; (focus rfl); (focus (first | exact .inl rfl | exact .inr rfl)); (focus ((try simp only [Act.eval, Array.getD_eq_getD_getElem?, List.getElem?_toArray, List.getElem?_cons_succ, List.getElem?_cons_zero, Option.getD_some]); rfl)); (try simp only [Act.put, List.setIfInBounds_toArray, List.set_cons_zero, List.set_cons_succ])) | (apply Calm.still_op_not; (focus rfl); (try simp only [Act.put, List.setIfInBounds_toArray, List.set_cons_zero, List.set_cons_succ])) | (apply Calm.still_op; (focus rfl); (focus (intro W hb; obtain ⟨hc, hf⟩ := bcell hb; clear hb hf; go_simp; (try go_bits); (try rfl); done)); (try simp only [Act.put, List.setIfInBounds_toArray, List.set_cons_zero, List.set_cons_succ])))
      refine Calm.still_nil ?_
      intro w1 hb
      obtain ⟨hbc, hbf⟩ := bcell hb
      have hbz := hb.size
      (try simp at hbz)
      (try have hbz0 : w.heap.size < w1.heap.size := by omega)
      (try have hbz1 : w.heap.size + 1 < w1.heap.size := by omega)
      (try have hbz2 : w.heap.size + 1 + 1 < w1.heap.size := by omega)
      (try have hbz3 : w.heap.size + 1 + 1 + 1 < w1.heap.size := by omega)
      (try have hbz4 : w.heap.size + 1 + 1 + 1 + 1 < w1.heap.size := by omega)
      (try have hbz5 : w.heap.size + 1 + 1 + 1 + 1 + 1 < w1.heap.size := by omega)
      go_wp2
      go_ret
      refine ⟨by first | rfl | (simp; done) | (simp; omega), ?_⟩
      repeat (first | (with_reducible exact Below.refl _ _) | ((with_reducible refine Below.setCell ?_ ?_ _); rotate_left 1; focus (first | (simp; done) | (simp; omega) | (simp at *; omega))) | ((with_reducible refine Below.alloc ?_ ?_ _); rotate_left 1; focus (first | (simp; done) | (simp; omega) | (simp at *; omega))) | (with_reducible refine Below.drew ?_) | ((with_reducible refine Calm.step (by assumption) ?_ ?_); rotate_left 1; focus (first | (simp; done) | (simp; omega) | (simp at *; omega))))
  · rw [decide_eq_false v1]
    go_enter Tryz.func97, Tryz.ntmps97
    go_wp2
    refine Calm.still_tail 29 (by kernel_rfl) (by kernel_rfl) ?_
    simp only [List.take_succ_cons, List.take_zero, List.drop_succ_cons, List.drop_zero]
    (first | (apply Calm.still_op_move; (focus rfl); (focus (first | exact .inl rfl | exact .inr rfl)); (focus ((try simp only [Act.eval, Array.getD_eq_getD_getElem?, List.getElem?_toArray, List.getElem?_cons_succ, List.getElem?_cons_zero, Option.getD_some]); rfl)); (try simp only [Act.put, List.setIfInBounds_toArray, List.set_cons_zero, List.set_cons_succ])) | (apply Calm.still_op_not; (focus rfl); (try simp only [Act.put, List.setIfInBounds_toArray, List.set_cons_zero, List.set_cons_succ])) | (apply Calm.still_op; (focus rfl); (focus (intro W hb; obtain ⟨hc, hf⟩ := bcell hb; clear hb hf; go_simp; (try go_bits); (try rfl); done)); (try simp only [Act.put, List.setIfInBounds_toArray, List.set_cons_zero, List.set_cons_succ])))
    (first | (apply Calm.still_op_move; (focus rfl); (focus (first | exact .inl rfl | exact .inr rfl)); (focus ((try simp only [Act.eval, Array.getD_eq_getD_getElem?, List.getElem?_toArray, List.getElem?_cons_succ, List.getElem?_cons_zero, Option.getD_some]); rfl)); (try simp only [Act.put, List.setIfInBounds_toArray, List.set_cons_zero, List.set_cons_succ])) | (apply Calm.still_op_not; (focus rfl); (try simp only [Act.put, List.setIfInBounds_toArray, List.set_cons_zero, List.set_cons_succ])) | (apply Calm.still_op; (focus rfl); (focus (intro W hb; obtain ⟨hc, hf⟩ := bcell hb; clear hb hf; go_simp; (try go_bits); (try rfl); done)); (try simp only [Act.put, List.setIfInBounds_toArray, List.set_cons_zero, List.set_cons_succ])))
    (first | (apply Calm.still_op_move; (focus rfl); (focus (first | exact .inl rfl | exact .inr rfl)); (focus ((try simp only [Act.eval, Array.getD_eq_getD_getElem?, List.getElem?_toArray, List.getElem?_cons_succ, List.getElem?_cons_zero, Option.getD_some]); rfl)); (try simp only [Act.put, List.setIfInBounds_toArray, List.set_cons_zero, List.set_cons_succ])) | (apply Calm.still_op_not; (focus rfl); (try simp only [Act.put, List.setIfInBounds_toArray, List.set_cons_zero, List.set_cons_succ])) | (apply Calm.still_op; (focus rfl); (focus (intro W hb; obtain ⟨hc, hf⟩ := bcell hb; clear hb hf; go_simp; (try go_bits); (try rfl); done)); (try simp only [Act.put, List.setIfInBounds_toArray, List.set_cons_zero, List.set_cons_succ])))
    (first | (apply Calm.still_op_move; (focus rfl); (focus (first | exact .inl rfl | exact .inr rfl)); (focus ((try simp only [Act.eval, Array.getD_eq_getD_getElem?, List.getElem?_toArray, List.getElem?_cons_succ, List.getElem?_cons_zero, Option.getD_some]); rfl)); (try simp only [Act.put, List.setIfInBounds_toArray, List.set_cons_zero, List.set_cons_succ])) | (apply Calm.still_op_not; (focus rfl); (try simp only [Act.put, List.setIfInBounds_toArray, List.set_cons_zero, List.set_cons_succ])) | (apply Calm.still_op; (focus rfl); (focus (intro W hb; obtain ⟨hc, hf⟩ := bcell hb; clear hb hf; go_simp; (try go_bits); (try rfl); done)); (try simp only [Act.put, List.setIfInBounds_toArray, List.set_cons_zero, List.set_cons_succ])))
    (first | (apply Calm.still_op_move; (focus rfl); (focus (first | exact .inl rfl | exact .inr rfl)); (focus ((try simp only [Act.eval, Array.getD_eq_getD_getElem?, List.getElem?_toArray, List.getElem?_cons_succ, List.getElem?_cons_zero, Option.getD_some]); rfl)); (try simp only [Act.put, List.setIfInBounds_toArray, List.set_cons_zero, List.set_cons_succ])) | (apply Calm.still_op_not; (focus rfl); (try simp only [Act.put, List.setIfInBounds_toArray, List.set_cons_zero, List.set_cons_succ])) | (apply Calm.still_op; (focus rfl); (focus (intro W hb; obtain ⟨hc, hf⟩ := bcell hb; clear hb hf; go_simp; (try go_bits); (try rfl); done)); (try simp only [Act.put, List.setIfInBounds_toArray, List.set_cons_zero, List.set_cons_succ])))
    (first | (apply Calm.still_op_move; (focus rfl); (focus (first | exact .inl rfl | exact .inr rfl)); (focus ((try simp only [Act.eval, Array.getD_eq_getD_getElem?, List.getElem?_toArray, List.getElem?_cons_succ, List.getElem?_cons_zero, Option.getD_some]); rfl)); (try simp only [Act.put, List.setIfInBounds_toArray, List.set_cons_zero, List.set_cons_succ])) | (apply Calm.still_op_not; (focus rfl); (try simp only [Act.put, List.setIfInBounds_toArray, List.set_cons_zero, List.set_cons_succ])) | (apply Calm.still_op; (focus rfl); (focus (intro W hb; obtain ⟨hc, hf⟩ := bcell hb; clear hb hf; go_simp; (try go_bits); (try rfl); done)); (try simp only [Act.put, List.setIfInBounds_toArray, List.set_cons_zero, List.set_cons_succ])))
    (first | (apply Calm.still_op_move; (focus rfl); (focus (first | exact .inl rfl | exact .inr rfl)); (focus ((try simp only [Act.eval, Array.getD_eq_getD_getElem?, List.getElem?_toArray, List.getElem?_cons_succ, List.getElem?_cons_zero, Option.getD_some]); rfl)); (try simp only [Act.put, List.setIfInBounds_toArray, List.set_cons_zero, List.set_cons_succ])) | (apply Calm.still_op_not; (focus rfl); (try simp only [Act.put, List.setIfInBounds_toArray, List.set_cons_zero, List.set_cons_succ])) | (apply Calm.still_op; (focus rfl); (focus (intro W hb; obtain ⟨hc, hf⟩ := bcell hb; clear hb hf; go_simp; (try go_bits); (try rfl); done)); (try simp only [Act.put, List.setIfInBounds_toArray, List.set_cons_zero, List.set_cons_succ])))
    (first | (apply Calm.still_op_move; (focus rfl); (focus (first | exact .inl rfl | exact .inr rfl)); (focus ((try simp only [Act.eval, Array.getD_eq_getD_getElem?, List.getElem?_toArray, List.getElem?_cons_succ, List.getElem?_cons_zero, Option.getD_some]); rfl)); (try simp only [Act.put, List.setIfInBounds_toArray, List.set_cons_zero, List.set_cons_succ])) | (apply Calm.still_op_not; (focus rfl); (try simp only [Act.put, List.setIfInBounds_toArray, List.set_cons_zero, List.set_cons_succ])) | (apply Calm.still_op; (focus rfl); (focus (intro W hb; obtain ⟨hc, hf⟩ := bcell hb; clear hb hf; go_simp; (try go_bits); (try rfl); done)); (try simp only [Act.put, List.setIfInBounds_toArray, List.set_cons_zero, List.set_cons_succ])))
    (first | (apply Calm.still_op_move; (focus rfl); (focus (first | exact .inl rfl | exact .inr rfl)); (focus ((try simp only [Act.eval, Array.getD_eq_getD_getElem?, List.getElem?_toArray, List.getElem?_cons_succ, List.getElem?_cons_zero, Option.getD_some]); rfl)); (try simp only [Act.put, List.setIfInBounds_toArray, List.set_cons_zero, List.set_cons_succ])) | (apply Calm.still_op_not; (focus rfl); (try simp only [Act.put, List.setIfInBounds_toArray, List.set_cons_zero, List.set_cons_succ])) | (apply Calm.still_op; (focus rfl); (focus (intro W hb; obtain ⟨hc, hf⟩ := bcell hb; clear hb hf; go_simp; (try go_bits); (try rfl); done)); (try simp only [Act.put, List.setIfInBounds_toArray, List.set_cons_zero, List.set_cons_succ])))
    (first | (apply Calm.still_op_move; (focus rfl); (focus (first | exact .inl rfl | exact .inr rfl)); (focus ((try simp only [Act.eval, Array.getD_eq_getD_getElem?, List.getElem?_toArray, List.getElem?_cons_succ, List.getElem?_cons_zero, Option.getD_some]); rfl)); (try simp only [Act.put, List.setIfInBounds_toArray, List.set_cons_zero, List.set_cons_succ])) | (apply Calm.still_op_not; (focus rfl); (try simp only [Act.put, List.setIfInBounds_toArray, List.set_cons_zero, List.set_cons_succ])) | (apply Calm.still_op; (focus rfl); (focus (intro W hb; obtain ⟨hc, hf⟩ := bcell hb; clear hb hf; go_simp; (try go_bits); (try rfl); done)); (try simp only [Act.put, List.setIfInBounds_toArray, List.set_cons_zero, List.set_cons_succ])))
    (first | (apply Calm.still_op_move; (focus rfl); (focus (first | exact .inl rfl | exact .inr rfl)); (focus ((try simp only [Act.eval, Array.getD_eq_getD_getElem?, List.getElem?_toArray, List.getElem?_cons_succ, List.getElem?_cons_zero, Option.getD_some]); rfl)); (try simp only [Act.put, List.setIfInBounds_toArray, List.set_cons_zero, List.set_cons_succ])) | (apply Calm.still_op_not; (focus rfl); (try simp only [Act.put, List.setIfInBounds_toArray, List.set_cons_zero, List.set_cons_succ])) | (apply Calm.still_op; (focus rfl); (focus (intro W hb; obtain ⟨hc, hf⟩ := bcell hb; clear hb hf; go_simp; (try go_bits); (try rfl); done)); (try simp only [Act.put, List.setIfInBounds_toArray, List.set_cons_zero, List.set_cons_succ])))
    (first | (apply Calm.still_op_move; (focus rfl); (focus (first | exact .inl rfl | exact .inr rfl)); (focus ((try simp only [Act.eval, Array.getD_eq_getD_getElem?, List.getElem?_toArray, List.getElem?_cons_succ, List.getElem?_cons_zero, Option.getD_some]); rfl)); (try simp only [Act.put, List.setIfInBounds_toArray, List.set_cons_zero, List.set_cons_succ])) | (apply Calm.still_op_not; (focus rfl); (try simp only [Act.put, List.setIfInBounds_toArray, List.set_cons_zero, List.set_cons_succ])) | (apply Calm.still_op; (focus rfl); (focus (intro W hb; obtain ⟨hc, hf⟩ := bcell hb; clear hb hf; go_simp; (try go_bits); (try rfl); done)); (try simp only [Act.put, List.setIfInBounds_toArray, List.set_cons_zero, List.set_cons_succ])))
    (first | (apply Calm.still_op_move; (focus rfl); (focus (first | exact .inl rfl | exact .inr rfl)); (focus ((try simp only [Act.eval, Array.getD_eq_getD_getElem?, List.getElem?_toArray, List.getElem?_cons_succ, List.getElem?_cons_zero, Option.getD_some]); rfl)); (try simp only [Act.put, List.setIfInBounds_toArray, List.set_cons_zero, List.set_cons_succ])) | (apply Calm.still_op_not; (focus rfl); (try simp only [Act.put, List.setIfInBounds_toArray, List.set_cons_zero, List.set_cons_succ])) | (apply Calm.still_op; (focus rfl); (focus (intro W hb; obtain ⟨hc, hf⟩ := bcell hb; clear hb hf; go_simp; (try go_bits); (try rfl); done)); (try simp only [Act.put, List.setIfInBounds_toArray, List.set_cons_zero, List.set_cons_succ])))
    apply Calm.still_op (.bool false)
    focus rfl
    focus (intro W hb; obtain ⟨hc, hf⟩ := bcell hb; clear hb hf; go_simp; (try (first | (simp; done) | (simp; omega) | omega)))
    (try simp only [Act.put, List.setIfInBounds_toArray, List.set_cons_zero, List.set_cons_succ])
    repeat (first | (apply Calm.still_op_move; (focus rfl); (focus (first | exact .inl rfl | exact .inr rfl)); (focus ((try simp only [Act.eval, Array.getD_eq_getD_getElem?, List.getElem?_toArray, List.getElem?_cons_succ, List.getElem?_cons_zero, Option.getD_some]); rfl)); (try simp only [Act.put, List.setIfInBounds_toArray, List.set_cons_zero, List.set_cons_succ])) | (apply Calm.still_op_not; (focus rfl); (try simp only [Act.put, List.setIfInBounds_toArray, List.set_cons_zero, List.set_cons_succ])) | (apply Calm.still_op; (focus rfl); (focus (intro W hb; obtain ⟨hc, hf⟩ := bcell hb; clear hb hf; go_simp; (try go_bits); (try rfl); done)); (try simp only [Act.put, List.setIfInBounds_toArray, List.set_cons_zero, List.set_cons_succ])))
    refine Calm.still_nil ?_
    intro w1 hb
    obtain ⟨hbc, hbf⟩ := bcell hb
    have hbz := hb.size
    (try simp at hbz)
    (try have hbz0 : w.heap.size < w1.heap.size := by omega)
    (try have hbz1 : w.heap.size + 1 < w1.heap.size := by omega)
    (try have hbz2 : w.heap.size + 1 + 1 < w1.heap.size := by omega)
    (try have hbz3 : w.heap.size + 1 + 1 + 1 < w1.heap.size := by omega)
    (try have hbz4 : w.heap.size + 1 + 1 + 1 + 1 < w1.heap.size := by omega)
    (try have hbz5 : w.heap.size + 1 + 1 + 1 + 1 + 1 < w1.heap.size := by omega)
    go_wp2
    go_ret
    refine ⟨by first | rfl | (simp; done) | (simp; omega), ?_⟩
    repeat (first | (with_reducible exact Below.refl _ _) | ((with_reducible refine Below.setCell ?_ ?_ _); rotate_left 1; focus (first | (simp; done) | (simp; omega) | (simp at *; omega))) | ((with_reducible refine Below.alloc ?_ ?_ _); rotate_left 1; focus (first | (simp; done) | (simp; omega) | (simp at *; omega))) | (with_reducible refine Below.drew ?_) | ((with_reducible refine Calm.step (by assumption) ?_ ?_); rotate_left 1; focus (first | (simp; done) | (simp; omega) | (simp at *; omega))))
end Go.Proofs.YtpkldjlljoledaaGreatDoor
