/- Part 19 of the texts of the claim: Ev1, EvAll, EvRow. -/
import Derived.Test.YtpkldjlljoledaaDoorMe12
import Derived.Test.YtpkldjlljoledaaDoorMe18
import Derived.Test.YtpkldjlljoledaaDoorMe2
import Derived.Test.YtpkldjlljoledaaDoorMe8

/- DriverEven on a valid curve answers yes. -/
namespace Go.Proofs.YtpkldjlljoledaaDoor
open Go.RowKit
open Calm (bcell Blk)

/-- the contracts of curve and Linear at two lists. -/
def CurC (n : Nat) (p q : List Int) : Prop := ∀ (W : World) (A1 A2 : Option Addr) (c1 c2 : Nat), Cells W A1 p → Cells W A2 q → Calls Tryd.prog 47 #[.agg #[.slice A1 n c1, .slice A2 n c2]] W fun r w' => ∃ B1 e1 B2 e2, r = .returned (.agg #[.slice B1 n e1, .slice B2 n e2]) ∧ Cells w' B1 p ∧ Cells w' B2 q ∧ Below W.heap.size W w'
def LinC (n : Nat) (p q : List Int) (f s : Int) (v : Nat) : Prop := ∀ (W : World) (A1 A2 : Option Addr) (c1 c2 : Nat), Cells W A1 p → Cells W A2 q → Calls Tryd.prog 46 #[.agg #[.slice A1 n c1, .slice A2 n c2], (.int .i64 (f)), (.int .i64 (s))] W fun r w' => r = .returned (.tuple #[(.int .i64 (v)), (.int .i64 (0))]) ∧ Below W.heap.size W w'
set_option maxRecDepth 100000 in
set_option maxHeartbeats 16000000 in
theorem even_ok (xs ys : List Int) (n : Nat) (fo st x0 y0 f2 s2 : Int) (vv vw m : Nat) (b1 o1 b2 o2 c1 c2 : Nat) (w : World) (hL : Lim w) (hn : 3 ≤ n ∧ n ≤ 15) (hb1 : b1 < w.heap.size) (hb2 : b2 < w.heap.size)
    (HN : Hid (xs.length = n)) (HM : Hid (ys.length = n)) (HX0 : Hid (x0 = xs.getD 0 0)) (HY0 : Hid (y0 = ys.getD 0 0)) (hfo : 1 ≤ fo ∧ fo ≤ 100) (hst : 100 ≤ st ∧ st ≤ 1000) (e0 : rangeErr fo 1 100 = 0) (e1 : rangeErr st 100 1000 = 0)
    (HC1 : Hid (∀ j, j < n → w.cell? ⟨b1, o1 + j, none⟩ = some (.int .i64 (xs.getD j 0)))) (HC2 : Hid (∀ j, j < n → w.cell? ⟨b2, o2 + j, none⟩ = some (.int .i64 (ys.getD j 0))))
    (HP1 : Hid (∀ j, j < n → 1 ≤ xs.getD j 0)) (HP2 : Hid (∀ j, j < n → 1 ≤ ys.getD j 0))
    (HRC : Hid (∀ W : World, Below w.heap.size w W → Calls Tryd.prog 48 #[.agg #[.slice (some ⟨b1, o1, none⟩) n c1, .slice (some ⟨b2, o2, none⟩) n c2]] W fun r w' => r = .returned (.int .i64 (0)) ∧ Below W.heap.size W w'))
    (HL1 : Hid (Cells w (some ⟨b1, o1, none⟩) xs)) (HL2 : Hid (Cells w (some ⟨b2, o2, none⟩) ys)) (HCur : Hid (CurC n xs ys ∧ CurC n (backL xs n) (backL ys n) ∧ CurC n (twL xs n) (twL ys n) ∧ CurC n (List.replicate n (xs.getD 0 0)) (List.replicate n (ys.getD 0 0)))) (hvw : vv ≤ vw) (hwm : vw ≤ m) (hm : (n : Int) / 2 = (m : Int))
    (hmax : ∀ W, (Builtin.max_ #[3, 3] 3 #[(.int .i64 (1)), (.int .i64 (fo - 1))]).run Tryd.prog W = .ok (.int .i64 (f2)) W) (hmin : ∀ W, (Builtin.min_ #[3, 3] 3 #[(.int .i64 (1000)), (.int .i64 (st + 1))]).run Tryd.prog W = .ok (.int .i64 (s2)) W)
    (HLIN : Hid ((∀ j, j < n → xs.getD j 0 ≤ 100000000 ∧ ys.getD j 0 ≤ 100000000) → LinC n xs ys fo st vv ∧ LinC n (backL xs n) (backL ys n) fo st vv ∧ LinC n (twL xs n) (twL ys n) fo st vv ∧ LinC n (List.replicate n (xs.getD 0 0)) (List.replicate n (ys.getD 0 0)) fo st m ∧ LinC n xs ys f2 s2 vw))
    : Calls Tryd.prog 9 #[.agg #[.slice (some ⟨b1, o1, none⟩) n c1, .slice (some ⟨b2, o2, none⟩) n c2], (.int .i64 (fo)), (.int .i64 (st))] w fun r w' => r = .returned (.bool true) ∧ Below w.heap.size w w' := by
  have hB0 := Below.refl w.heap.size w
  go_enter Tryd.func9, Tryd.ntmps9
  go_wp2_with (go_at_call 11; refine (awake_any _ (hL.below (hB0.alloc hB0.size _))).mono ?_; rintro r w1 ⟨rfl, h1⟩; refine Hid.out ?_)
  unfold Hid
  have hB1 := (hB0.alloc hB0.size _).trans (h1.mono (by simp))
  have K1 := Lib.hid ((Calm.Blk.new w _ #[.slice (some ⟨b1, o1, none⟩) n c1, .slice (some ⟨b2, o2, none⟩) n c2]).below h1)
  clear h1 hB0
  obtain ⟨f_0, f_1, f_l, f_f⟩ := K1.out.o2
  go_wp2_with (go_at_call 48; refine (HRC.out _ hB1).mono ?_; rintro r w2 ⟨rfl, h2⟩; refine Hid.out ?_)
  unfold Hid
  have hB2 := hB1.trans (h2.mono hB1.size)
  have K2 := Lib.hid (K1.out.below h2)
  clear h2 hB1 K1 f_0 f_1 f_l f_f
  obtain ⟨f_0, f_1, f_l, f_f⟩ := K2.out.o2
  have f_l1 : w.heap.size < w2.heap.size + 1 := by omega
  have f_l2 : w.heap.size < w2.heap.size + 1 + 1 := by omega
  have f_l3 : w.heap.size < w2.heap.size + 1 + 1 + 1 := by omega
  have f15 : decide ((15 : Int) < (n : Int)) = false := by rw [decide_eq_false_iff_not]; omega
  go_wp2_with (go_at_call 40; refine (checkRange_any _ _ _ _).mono ?_; rintro r wq ⟨rfl, rfl⟩)
  have E0 : EvW w #[.slice (some ⟨b1, o1, none⟩) n c1, .slice (some ⟨b2, o2, none⟩) n c2] (w2.heap.size + 3) w2.heap.size (w2.heap.size + 1) (w2.heap.size + 1 + 1) (.slice none 0 0) (.slice none 0 0) (.slice none 0 0) (.slice none 0 0) (.slice none 0 0) (.slice none 0 0) (backL xs 0) (backL ys 0) (twL xs 0) (twL ys 0) (List.replicate 0 (xs.getD 0 0)) (List.replicate 0 (ys.getD 0 0)) (((w2.alloc (.cells #[.slice none 0 0, .slice none 0 0] 85)).alloc (.cells #[.slice none 0 0, .slice none 0 0] 85)).alloc (.cells #[.slice none 0 0, .slice none 0 0] 85)) := by
    refine ⟨((hB2.alloc hB2.size _).alloc (Nat.le_trans hB2.size (by simp)) _).alloc (Nat.le_trans hB2.size (by simp; omega)) _, ((K2.out.alloc _).alloc _).alloc _, ((Calm.Blk.new _ _ _).alloc _).alloc _, (Calm.Blk.at_ (by simp)).alloc _, Calm.Blk.at_ (by simp), Rows.nil _ _, by simp, ⟨by omega, by omega, by omega⟩, ⟨by omega, by omega, by omega⟩, ⟨by omega, by omega, by omega⟩⟩
  go_loopw [49] (fun i wr => ∃ k : Nat, k ≤ n ∧ i = (.int .i64 (k)) ∧ (∀ j, j < k → xs.getD j 0 ≤ 100000000 ∧ ys.getD j 0 ≤ 100000000) ∧ ∃ a1 a2 a3 a4 a5 a6, EvW w #[.slice (some ⟨b1, o1, none⟩) n c1, .slice (some ⟨b2, o2, none⟩) n c2] (w2.heap.size + 3) w2.heap.size (w2.heap.size + 1) (w2.heap.size + 1 + 1) a1 a2 a3 a4 a5 a6 (backL xs k) (backL ys k) (twL xs k) (twL ys k) (List.replicate k (xs.getD 0 0)) (List.replicate k (ys.getD 0 0)) wr) (fun i _ => n - (intOf i).toNat)
  case atStart => exact ⟨0, Nat.zero_le _, rfl, fun j hj => by omega, _, _, _, _, _, _, E0⟩
  case round =>
    clear E0 f_0 f_1 f_f f_l1 f_l2 f_l3 f15
    obtain ⟨k, hk, rfl, hz, a1, a2, a3, a4, a5, a6, hE⟩ := hrel
    have HZ := Lib.hid hz
    have EE := Lib.hid hE
    clear hz
    have hBr := hE.below
    obtain ⟨f_0, f_1, f_l2, f_f⟩ := hE.hX.o2
    have hXB : w.heap.size < w2.heap.size + 3 := by omega
    have hb1B : b1 < w2.heap.size + 3 := by omega
    have hb2B : b2 < w2.heap.size + 3 := by omega
    have hsz := hE.hB
    have hGB : w2.heap.size < w2.heap.size + 3 := by omega
    have hG1B : w2.heap.size + 1 < w2.heap.size + 3 := by omega
    have hG2B : w2.heap.size + 2 < w2.heap.size + 3 := by omega
    have cell1 : ∀ j, j < n → wr.cell? ⟨b1, o1 + j, none⟩ = some (.int .i64 (xs.getD j 0)) := fun j hj => (hBr.cell (p := ⟨b1, o1 + j, none⟩) hb1).trans (HC1.out j hj)
    have cell2 : ∀ j, j < n → wr.cell? ⟨b2, o2 + j, none⟩ = some (.int .i64 (ys.getD j 0)) := fun j hj => (hBr.cell (p := ⟨b2, o2 + j, none⟩) hb2).trans (HC2.out j hj)
    have CC1 := Lib.hid cell1; have CC2 := Lib.hid cell2
    have HBR := Lib.hid hBr
    clear cell1 cell2 hE hBr
    by_cases hlt : k < n
    · have x1 := CC1.out k hlt
      have y1 := CC2.out k hlt
      have y1p := HP2.out k hlt
      have x1p := HP1.out k hlt
      have hl1 : b1 < wr.heap.size := by omega
      have hl2 : b2 < wr.heap.size := by omega
      obtain ⟨xk, hxk⟩ : ∃ xk, xk = xs.getD k 0 := ⟨_, rfl⟩
      obtain ⟨yk, hyk⟩ : ∃ yk, yk = ys.getD k 0 := ⟨_, rfl⟩
      rw [← hxk] at x1 x1p
      rw [← hyk] at y1 y1p
      have HXK := Lib.hid hxk; have HYK := Lib.hid hyk
      clear hxk hyk
      by_cases hxb : 100000000 < xk
      · go_wp2_with (go_at_call 11; refine (awake_any _ (hL.below HBR.out)).mono ?_; rintro r w3 ⟨rfl, h3⟩)
        go_ret
        exact ⟨by first | rfl | (simp; done), HBR.out.trans (h3.mono HBR.out.size)⟩
      · by_cases hyb : 100000000 < yk
        · go_wp2_with (go_at_call 11; refine (awake_any _ (hL.below HBR.out)).mono ?_; rintro r w3 ⟨rfl, h3⟩)
          go_ret
          exact ⟨by first | rfl | (simp; done), HBR.out.trans (h3.mono HBR.out.size)⟩
        · have hx8 : xk ≤ 100000000 := by omega
          have hy8 : yk ≤ 100000000 := by omega
          obtain ⟨J, hJ0⟩ : ∃ J : Nat, J = n - 1 - k := ⟨_, rfl⟩
          have hJ : (n : Int) - 1 - (k : Int) = (J : Int) := by omega
          have hJn : J < n := by omega
          have HJ0 := Lib.hid hJ0
          clear hJ0
          have xj := CC1.out J hJn
          have yj := CC2.out J hJn
          obtain ⟨xJ, hxJ⟩ : ∃ xJ, xJ = xs.getD J 0 := ⟨_, rfl⟩
          obtain ⟨yJ, hyJ⟩ : ∃ yJ, yJ = ys.getD J 0 := ⟨_, rfl⟩
          rw [← hxJ] at xj
          rw [← hyJ] at yj
          have HXJ := Lib.hid hxJ; have HYJ := Lib.hid hyJ
          clear hxJ hyJ
          go_wp2
          obtain ⟨T, R1, R2, t0, t1, t2, p1, p2, pf⟩ := pair_grw (w2.heap.size + 3) a1 a2 _ _ _ xJ yJ wr EE.out.rows EE.out.hB (by rw [backL_len]; omega) (by rw [backL_len]; omega)
          have T0 := Lib.hid t0; have T1 := Lib.hid t1; have T2 := Lib.hid t2; have P1 := Lib.hid p1; have P2 := Lib.hid p2; have PF := Lib.hid pf
          clear t0 t1 t2 p1 p2 pf
          have hTC := Lib.hid (fun (W : World) (hS : Grw T wr W) => hS.look T0.out EE.out.hB)
          obtain ⟨k_0, k_1, k_l, k_f⟩ := EE.out.k1.o2
          refine RelH.region3 (S := Grw T) Grw.trans Grw.drawn 19 (by kernel_rfl) (by kernel_rfl) (by kernel_rfl) ?_
          simp only [List.take_succ_cons, List.take_zero, List.drop_succ_cons, List.drop_zero, List.filterMap_cons, List.filterMap_nil]
          iterate 7 (apply RelH.op3 Grw.refl; (focus (first | exact RelH.gno rfl | exact RelH.gyes _ true _ rfl rfl rfl | exact RelH.gyes _ false _ rfl rfl rfl)); (focus (intro a W x hb hd hbase; obtain ⟨hc, hf⟩ := hTC.out W hb; clear hb hf; simp [RelH.deps, RelH.dep1, Rel.ons, Region.binds, Act.eval] at hd; simp only [Act.eval, List.mem_cons, List.not_mem_nil, not_or, and_imp, or_false, Array.getD_eq_getD_getElem?] at hbase; go_simp; (try go_bits); (try rfl); done)); (try simp only [List.nil_append, List.cons_append]))
          (apply RelH.build3 (fun k o h => (T0.out k o h).2); (focus (first | exact RelH.gno rfl | exact RelH.gyes _ true _ rfl rfl rfl | exact RelH.gyes _ false _ rfl rfl rfl)); (focus (intro a W x hb hd hbase; obtain ⟨hc, hf⟩ := hTC.out W hb; clear hb hf; simp [RelH.deps, RelH.dep1, Rel.ons, Region.binds, Act.eval] at hd; simp only [Act.eval, List.mem_cons, List.not_mem_nil, not_or, and_imp, or_false, Array.getD_eq_getD_getElem?] at hbase; go_simp; (first | rfl | (refine ⟨⟨?_, ?_⟩, ?_⟩; rfl; rfl; rfl) | (refine ⟨?_, ?_⟩; rfl; rfl)))); (try simp only [List.nil_append, List.cons_append]))
          refine RelH.app3 (fun _ => R1) (fun _ => T1.out) RelH.loc_const (.tmp 74) (.tmp 80) 38 rfl (RelH.gno rfl) ?_ ?_
          · intro a W x hb hd hbase
            simp [RelH.deps, RelH.dep1, Rel.ons, Region.binds] at hd
            obtain ⟨⟨_, hs⟩, ⟨_, hx⟩⟩ := hd
            obtain ⟨g, hxv, _, hxk⟩ := hx
            rw [hs, hxv]
            exact P1.out W hb g 1 (hxk.cell 0 _ rfl)
          (try simp only [List.nil_append, List.cons_append])
          iterate 7 (apply RelH.op3 Grw.refl; (focus (first | exact RelH.gno rfl | exact RelH.gyes _ true _ rfl rfl rfl | exact RelH.gyes _ false _ rfl rfl rfl)); (focus (intro a W x hb hd hbase; obtain ⟨hc, hf⟩ := hTC.out W hb; clear hb hf; simp [RelH.deps, RelH.dep1, Rel.ons, Region.binds, Act.eval] at hd; simp only [Act.eval, List.mem_cons, List.not_mem_nil, not_or, and_imp, or_false, Array.getD_eq_getD_getElem?] at hbase; go_simp; (try go_bits); (try rfl); done)); (try simp only [List.nil_append, List.cons_append]))
          (apply RelH.build3 (fun k o h => (T0.out k o h).2); (focus (first | exact RelH.gno rfl | exact RelH.gyes _ true _ rfl rfl rfl | exact RelH.gyes _ false _ rfl rfl rfl)); (focus (intro a W x hb hd hbase; obtain ⟨hc, hf⟩ := hTC.out W hb; clear hb hf; simp [RelH.deps, RelH.dep1, Rel.ons, Region.binds, Act.eval] at hd; simp only [Act.eval, List.mem_cons, List.not_mem_nil, not_or, and_imp, or_false, Array.getD_eq_getD_getElem?] at hbase; go_simp; (first | rfl | (refine ⟨⟨?_, ?_⟩, ?_⟩; rfl; rfl; rfl) | (refine ⟨?_, ?_⟩; rfl; rfl)))); (try simp only [List.nil_append, List.cons_append]))
          refine RelH.app3 (fun x => R2 (x 8)) (fun x => T2.out (x 8)) (fun x y h v W hr => by have e8 : x 8 = y 8 := h { on := 8, ground := .chain } (by simp) rfl; exact (show R2 (y 8) v W from e8 ▸ (show R2 (x 8) v W from hr))) (.tmp 83) (.tmp 89) 38 rfl (RelH.gno rfl) ?_ ?_
          · intro a W x hb hd hbase
            simp [RelH.deps, RelH.dep1, Rel.ons, Region.binds] at hd
            obtain ⟨⟨_, hs⟩, ⟨_, hx⟩, h8, hv1⟩ := hd
            obtain ⟨g, hxv, _, hxk⟩ := hx
            rw [hs, hxv, h8]
            exact P2.out W _ hb hv1 g 1 (hxk.cell 0 _ rfl)
          (try simp only [List.nil_append, List.cons_append])
          iterate 1 (apply RelH.op3 Grw.refl; (focus (first | exact RelH.gno rfl | exact RelH.gyes _ true _ rfl rfl rfl | exact RelH.gyes _ false _ rfl rfl rfl)); (focus (intro a W x hb hd hbase; obtain ⟨hc, hf⟩ := hTC.out W hb; clear hb hf; simp [RelH.deps, RelH.dep1, Rel.ons, Region.binds, Act.eval] at hd; simp only [Act.eval, List.mem_cons, List.not_mem_nil, not_or, and_imp, or_false, Array.getD_eq_getD_getElem?] at hbase; go_simp; (try go_bits); (try rfl); done)); (try simp only [List.nil_append, List.cons_append]))
          refine RelH.done3 ?_
          intro x WR hR hx
          simp only [RelH.facts, Nat.zero_add, Nat.reduceAdd] at hx
          obtain ⟨e0, e1, e2, e3, e4, e5, e6, e7, r1, e9, e10, e11, e12, e13, e14, e15, e16, r2, e18, _⟩ := hx
          simp only [RelH.fill, Nat.zero_add, Nat.reduceAdd, e0, e1, e2, e3, e4, e5, e6, e9, e10, e11, e12, e13, e14, e15, e18]
          simp only [Act.put, List.setIfInBounds_toArray, List.set_cons_zero, List.set_cons_succ]
          have E2' := Lib.hid (EE.out.step hR T0.out (PF.out WR _ _ hR r1 r2))
          have hbR := hR.below (fun k o hk => (T0.out k o hk).1) EE.out.hB
          have KR := EE.out.k1.of EE.out.hi.1 hbR
          obtain ⟨q_0, q_1, q_l, q_f⟩ := KR.o2
          clear e0 e1 e2 e3 e4 e5 e6 e9 e10 e11 e12 e13 e14 e15 e18 e7 e16 r1 r2 hR hbR KR T0 T1 T2 P1 P2 PF hTC k_0 k_1 k_l k_f
          obtain ⟨v1, hv1⟩ : ∃ v, v = x 8 := ⟨_, rfl⟩
          obtain ⟨v2, hv2⟩ : ∃ v, v = x 17 := ⟨_, rfl⟩
          rw [← hv1, ← hv2] at E2'
          simp only [← hv1, ← hv2]
          clear hv1 hv2
          obtain ⟨sa101, sm101, sc101, rfl⟩ : ∃ a m c, v1 = .slice a m c := by obtain ⟨a, c, h⟩ := own_slice (E2'.out.rows.1 (v1, backL xs k ++ [xJ]) (by simp)); exact ⟨a, _, c, h⟩
          obtain ⟨sa102, sm102, sc102, rfl⟩ : ∃ a m c, v2 = .slice a m c := by obtain ⟨a, c, h⟩ := own_slice (E2'.out.rows.1 (v2, backL ys k ++ [yJ]) (by simp)); exact ⟨a, _, c, h⟩
          go_wp2
          refine name_world ?_
          intro W3 eW
          rw [← eW] at E2'
          clear eW q_0 q_1 q_l q_f f_0 f_1 f_f f_l2 hsz x1 y1 hl1 hl2 xj yj
          obtain ⟨f_0, f_1, f_l2, f_f⟩ := E2'.out.hX.o2
          have hsz := E2'.out.hB
          have hl1 : b1 < W3.heap.size := by omega
          have hl2 : b2 < W3.heap.size := by omega
          have hBr := E2'.out.below
          have x1 : W3.cell? ⟨b1, o1 + k, none⟩ = some (.int .i64 (xk)) := by rw [HXK.out]; exact (hBr.cell (p := ⟨b1, o1 + k, none⟩) hb1).trans (HC1.out k (by omega))
          have y1 : W3.cell? ⟨b2, o2 + k, none⟩ = some (.int .i64 (yk)) := by rw [HYK.out]; exact (hBr.cell (p := ⟨b2, o2 + k, none⟩) hb2).trans (HC2.out k (by omega))
          clear hBr
          obtain ⟨T, R1, R2, t0, t1, t2, p1, p2, pf⟩ := pair_grw (w2.heap.size + 3) a3 a4 _ _ _ (2 * xk) (2 * yk) W3 E2'.out.rows E2'.out.hB (by rw [twL_len (by rw [HN.out]; omega)]; omega) (by rw [twL_len (by rw [HM.out]; omega)]; omega)
          have T0 := Lib.hid t0; have T1 := Lib.hid t1; have T2 := Lib.hid t2; have P1 := Lib.hid p1; have P2 := Lib.hid p2; have PF := Lib.hid pf
          clear t0 t1 t2 p1 p2 pf
          have hTC := Lib.hid (fun (W : World) (hS : Grw T W3 W) => hS.look T0.out E2'.out.hB)
          obtain ⟨k_0, k_1, k_l, k_f⟩ := E2'.out.k1.o2
          refine RelH.region3 (S := Grw T) Grw.trans Grw.drawn 21 (by kernel_rfl) (by kernel_rfl) (by kernel_rfl) ?_
          simp only [List.take_succ_cons, List.take_zero, List.drop_succ_cons, List.drop_zero, List.filterMap_cons, List.filterMap_nil]
          iterate 8 (apply RelH.op3 Grw.refl; (focus (first | exact RelH.gno rfl | exact RelH.gyes _ true _ rfl rfl rfl | exact RelH.gyes _ false _ rfl rfl rfl)); (focus (intro a W x hb hd hbase; obtain ⟨hc, hf⟩ := hTC.out W hb; clear hb hf; simp [RelH.deps, RelH.dep1, Rel.ons, Region.binds, Act.eval] at hd; simp only [Act.eval, List.mem_cons, List.not_mem_nil, not_or, and_imp, or_false, Array.getD_eq_getD_getElem?] at hbase; go_simp; (try go_bits); (try rfl); done)); (try simp only [List.nil_append, List.cons_append]))
          (apply RelH.build3 (fun k o h => (T0.out k o h).2); (focus (first | exact RelH.gno rfl | exact RelH.gyes _ true _ rfl rfl rfl | exact RelH.gyes _ false _ rfl rfl rfl)); (focus (intro a W x hb hd hbase; obtain ⟨hc, hf⟩ := hTC.out W hb; clear hb hf; simp [RelH.deps, RelH.dep1, Rel.ons, Region.binds, Act.eval] at hd; simp only [Act.eval, List.mem_cons, List.not_mem_nil, not_or, and_imp, or_false, Array.getD_eq_getD_getElem?] at hbase; go_simp; (first | rfl | (refine ⟨⟨?_, ?_⟩, ?_⟩; rfl; rfl; rfl) | (refine ⟨?_, ?_⟩; rfl; rfl)))); (try simp only [List.nil_append, List.cons_append]))
          refine RelH.app3 (fun _ => R1) (fun _ => T1.out) RelH.loc_const (.tmp 94) (.tmp 101) 38 rfl (RelH.gno rfl) ?_ ?_
          · intro a W x hb hd hbase
            simp [RelH.deps, RelH.dep1, Rel.ons, Region.binds] at hd
            obtain ⟨⟨_, hs⟩, ⟨_, hx⟩⟩ := hd
            obtain ⟨g, hxv, _, hxk⟩ := hx
            rw [hs, hxv]
            exact P1.out W hb g 1 (hxk.cell 0 _ rfl)
          (try simp only [List.nil_append, List.cons_append])
          iterate 8 (apply RelH.op3 Grw.refl; (focus (first | exact RelH.gno rfl | exact RelH.gyes _ true _ rfl rfl rfl | exact RelH.gyes _ false _ rfl rfl rfl)); (focus (intro a W x hb hd hbase; obtain ⟨hc, hf⟩ := hTC.out W hb; clear hb hf; simp [RelH.deps, RelH.dep1, Rel.ons, Region.binds, Act.eval] at hd; simp only [Act.eval, List.mem_cons, List.not_mem_nil, not_or, and_imp, or_false, Array.getD_eq_getD_getElem?] at hbase; go_simp; (try go_bits); (try rfl); done)); (try simp only [List.nil_append, List.cons_append]))
          (apply RelH.build3 (fun k o h => (T0.out k o h).2); (focus (first | exact RelH.gno rfl | exact RelH.gyes _ true _ rfl rfl rfl | exact RelH.gyes _ false _ rfl rfl rfl)); (focus (intro a W x hb hd hbase; obtain ⟨hc, hf⟩ := hTC.out W hb; clear hb hf; simp [RelH.deps, RelH.dep1, Rel.ons, Region.binds, Act.eval] at hd; simp only [Act.eval, List.mem_cons, List.not_mem_nil, not_or, and_imp, or_false, Array.getD_eq_getD_getElem?] at hbase; go_simp; (first | rfl | (refine ⟨⟨?_, ?_⟩, ?_⟩; rfl; rfl; rfl) | (refine ⟨?_, ?_⟩; rfl; rfl)))); (try simp only [List.nil_append, List.cons_append]))
          refine RelH.app3 (fun x => R2 (x 9)) (fun x => T2.out (x 9)) (fun x y h v W hr => by have e8 : x 9 = y 9 := h { on := 9, ground := .chain } (by simp) rfl; exact (show R2 (y 9) v W from e8 ▸ (show R2 (x 9) v W from hr))) (.tmp 104) (.tmp 111) 38 rfl (RelH.gno rfl) ?_ ?_
          · intro a W x hb hd hbase
            simp [RelH.deps, RelH.dep1, Rel.ons, Region.binds] at hd
            obtain ⟨⟨_, hs⟩, ⟨_, hx⟩, h8, hv1⟩ := hd
            obtain ⟨g, hxv, _, hxk⟩ := hx
            rw [hs, hxv, h8]
            exact P2.out W _ hb hv1 g 1 (hxk.cell 0 _ rfl)
          (try simp only [List.nil_append, List.cons_append])
          iterate 1 (apply RelH.op3 Grw.refl; (focus (first | exact RelH.gno rfl | exact RelH.gyes _ true _ rfl rfl rfl | exact RelH.gyes _ false _ rfl rfl rfl)); (focus (intro a W x hb hd hbase; obtain ⟨hc, hf⟩ := hTC.out W hb; clear hb hf; simp [RelH.deps, RelH.dep1, Rel.ons, Region.binds, Act.eval] at hd; simp only [Act.eval, List.mem_cons, List.not_mem_nil, not_or, and_imp, or_false, Array.getD_eq_getD_getElem?] at hbase; go_simp; (try go_bits); (try rfl); done)); (try simp only [List.nil_append, List.cons_append]))
          refine RelH.done3 ?_
          intro x WR hR hx
          simp only [RelH.facts, Nat.zero_add, Nat.reduceAdd] at hx
          obtain ⟨e0, e1, e2, e3, e4, e5, e6, e7, e8, r1, e10, e11, e12, e13, e14, e15, e16, e17, e18, r2, e20, _⟩ := hx
          simp only [RelH.fill, Nat.zero_add, Nat.reduceAdd, e0, e1, e2, e3, e4, e5, e6, e7, e10, e11, e12, e13, e14, e15, e16, e17, e20]
          simp only [Act.put, List.setIfInBounds_toArray, List.set_cons_zero, List.set_cons_succ]
          have E3' := Lib.hid (E2'.out.step hR T0.out (PF.out WR _ _ hR r1 r2))
          have hbR := hR.below (fun k o hk => (T0.out k o hk).1) E2'.out.hB
          have KR := E2'.out.k1.of E2'.out.hi.1 hbR
          obtain ⟨q_0, q_1, q_l, q_f⟩ := KR.o2
          clear e0 e1 e2 e3 e4 e5 e6 e7 e10 e11 e12 e13 e14 e15 e16 e17 e20 e8 e18 r1 r2 hR hbR KR T0 T1 T2 P1 P2 PF hTC k_0 k_1 k_l k_f
          obtain ⟨v1, hv1⟩ : ∃ v, v = x 9 := ⟨_, rfl⟩
          obtain ⟨v2, hv2⟩ : ∃ v, v = x 19 := ⟨_, rfl⟩
          rw [← hv1, ← hv2] at E3'
          simp only [← hv1, ← hv2]
          clear hv1 hv2
          obtain ⟨sa111, sm111, sc111, rfl⟩ : ∃ a m c, v1 = .slice a m c := by obtain ⟨a, c, h⟩ := own_slice (E3'.out.rows.1 (v1, twL xs k ++ [(2 * xk)]) (by simp)); exact ⟨a, _, c, h⟩
          obtain ⟨sa112, sm112, sc112, rfl⟩ : ∃ a m c, v2 = .slice a m c := by obtain ⟨a, c, h⟩ := own_slice (E3'.out.rows.1 (v2, twL ys k ++ [(2 * yk)]) (by simp)); exact ⟨a, _, c, h⟩
          go_wp2
          refine name_world ?_
          intro W4 eW
          rw [← eW] at E3'
          clear eW q_0 q_1 q_l q_f f_0 f_1 f_f f_l2 hsz x1 y1 hl1 hl2
          obtain ⟨f_0, f_1, f_l2, f_f⟩ := E3'.out.hX.o2
          have hsz := E3'.out.hB
          have hl1 : b1 < W4.heap.size := by omega
          have hl2 : b2 < W4.heap.size := by omega
          have hBr := E3'.out.below
          have h0n : 0 < n := by omega
          have x1 : W4.cell? ⟨b1, o1, none⟩ = some (.int .i64 (x0)) := by rw [HX0.out]; exact (hBr.cell (p := ⟨b1, o1, none⟩) hb1).trans (HC1.out 0 (by omega))
          have y1 : W4.cell? ⟨b2, o2, none⟩ = some (.int .i64 (y0)) := by rw [HY0.out]; exact (hBr.cell (p := ⟨b2, o2, none⟩) hb2).trans (HC2.out 0 (by omega))
          clear hBr
          obtain ⟨T, R1, R2, t0, t1, t2, p1, p2, pf⟩ := pair_grw (w2.heap.size + 3) a5 a6 _ _ _ x0 y0 W4 E3'.out.rows E3'.out.hB (by rw [List.length_replicate]; omega) (by rw [List.length_replicate]; omega)
          have T0 := Lib.hid t0; have T1 := Lib.hid t1; have T2 := Lib.hid t2; have P1 := Lib.hid p1; have P2 := Lib.hid p2; have PF := Lib.hid pf
          clear t0 t1 t2 p1 p2 pf
          have hTC := Lib.hid (fun (W : World) (hS : Grw T W4 W) => hS.look T0.out E3'.out.hB)
          obtain ⟨k_0, k_1, k_l, k_f⟩ := E3'.out.k1.o2
          refine RelH.region3 (S := Grw T) Grw.trans Grw.drawn 17 (by kernel_rfl) (by kernel_rfl) (by kernel_rfl) ?_
          simp only [List.take_succ_cons, List.take_zero, List.drop_succ_cons, List.drop_zero, List.filterMap_cons, List.filterMap_nil]
          iterate 6 (apply RelH.op3 Grw.refl; (focus (first | exact RelH.gno rfl | exact RelH.gyes _ true _ rfl rfl rfl | exact RelH.gyes _ false _ rfl rfl rfl)); (focus (intro a W x hb hd hbase; obtain ⟨hc, hf⟩ := hTC.out W hb; clear hb hf; simp [RelH.deps, RelH.dep1, Rel.ons, Region.binds, Act.eval] at hd; simp only [Act.eval, List.mem_cons, List.not_mem_nil, not_or, and_imp, or_false, Array.getD_eq_getD_getElem?] at hbase; go_simp; (try go_bits); (try rfl); done)); (try simp only [List.nil_append, List.cons_append]))
          (apply RelH.build3 (fun k o h => (T0.out k o h).2); (focus (first | exact RelH.gno rfl | exact RelH.gyes _ true _ rfl rfl rfl | exact RelH.gyes _ false _ rfl rfl rfl)); (focus (intro a W x hb hd hbase; obtain ⟨hc, hf⟩ := hTC.out W hb; clear hb hf; simp [RelH.deps, RelH.dep1, Rel.ons, Region.binds, Act.eval] at hd; simp only [Act.eval, List.mem_cons, List.not_mem_nil, not_or, and_imp, or_false, Array.getD_eq_getD_getElem?] at hbase; go_simp; (first | rfl | (refine ⟨⟨?_, ?_⟩, ?_⟩; rfl; rfl; rfl) | (refine ⟨?_, ?_⟩; rfl; rfl)))); (try simp only [List.nil_append, List.cons_append]))
          refine RelH.app3 (fun _ => R1) (fun _ => T1.out) RelH.loc_const (.tmp 116) (.tmp 121) 38 rfl (RelH.gno rfl) ?_ ?_
          · intro a W x hb hd hbase
            simp [RelH.deps, RelH.dep1, Rel.ons, Region.binds] at hd
            obtain ⟨⟨_, hs⟩, ⟨_, hx⟩⟩ := hd
            obtain ⟨g, hxv, _, hxk⟩ := hx
            rw [hs, hxv]
            exact P1.out W hb g 1 (hxk.cell 0 _ rfl)
          (try simp only [List.nil_append, List.cons_append])
          iterate 6 (apply RelH.op3 Grw.refl; (focus (first | exact RelH.gno rfl | exact RelH.gyes _ true _ rfl rfl rfl | exact RelH.gyes _ false _ rfl rfl rfl)); (focus (intro a W x hb hd hbase; obtain ⟨hc, hf⟩ := hTC.out W hb; clear hb hf; simp [RelH.deps, RelH.dep1, Rel.ons, Region.binds, Act.eval] at hd; simp only [Act.eval, List.mem_cons, List.not_mem_nil, not_or, and_imp, or_false, Array.getD_eq_getD_getElem?] at hbase; go_simp; (try go_bits); (try rfl); done)); (try simp only [List.nil_append, List.cons_append]))
          (apply RelH.build3 (fun k o h => (T0.out k o h).2); (focus (first | exact RelH.gno rfl | exact RelH.gyes _ true _ rfl rfl rfl | exact RelH.gyes _ false _ rfl rfl rfl)); (focus (intro a W x hb hd hbase; obtain ⟨hc, hf⟩ := hTC.out W hb; clear hb hf; simp [RelH.deps, RelH.dep1, Rel.ons, Region.binds, Act.eval] at hd; simp only [Act.eval, List.mem_cons, List.not_mem_nil, not_or, and_imp, or_false, Array.getD_eq_getD_getElem?] at hbase; go_simp; (first | rfl | (refine ⟨⟨?_, ?_⟩, ?_⟩; rfl; rfl; rfl) | (refine ⟨?_, ?_⟩; rfl; rfl)))); (try simp only [List.nil_append, List.cons_append]))
          refine RelH.app3 (fun x => R2 (x 7)) (fun x => T2.out (x 7)) (fun x y h v W hr => by have e8 : x 7 = y 7 := h { on := 7, ground := .chain } (by simp) rfl; exact (show R2 (y 7) v W from e8 ▸ (show R2 (x 7) v W from hr))) (.tmp 124) (.tmp 129) 38 rfl (RelH.gno rfl) ?_ ?_
          · intro a W x hb hd hbase
            simp [RelH.deps, RelH.dep1, Rel.ons, Region.binds] at hd
            obtain ⟨⟨_, hs⟩, ⟨_, hx⟩, h8, hv1⟩ := hd
            obtain ⟨g, hxv, _, hxk⟩ := hx
            rw [hs, hxv, h8]
            exact P2.out W _ hb hv1 g 1 (hxk.cell 0 _ rfl)
          (try simp only [List.nil_append, List.cons_append])
          iterate 1 (apply RelH.op3 Grw.refl; (focus (first | exact RelH.gno rfl | exact RelH.gyes _ true _ rfl rfl rfl | exact RelH.gyes _ false _ rfl rfl rfl)); (focus (intro a W x hb hd hbase; obtain ⟨hc, hf⟩ := hTC.out W hb; clear hb hf; simp [RelH.deps, RelH.dep1, Rel.ons, Region.binds, Act.eval] at hd; simp only [Act.eval, List.mem_cons, List.not_mem_nil, not_or, and_imp, or_false, Array.getD_eq_getD_getElem?] at hbase; go_simp; (try go_bits); (try rfl); done)); (try simp only [List.nil_append, List.cons_append]))
          refine RelH.done3 ?_
          intro x WR hR hx
          simp only [RelH.facts, Nat.zero_add, Nat.reduceAdd] at hx
          obtain ⟨e0, e1, e2, e3, e4, e5, e6, r1, e8, e9, e10, e11, e12, e13, e14, r2, e16, _⟩ := hx
          simp only [RelH.fill, Nat.zero_add, Nat.reduceAdd, e0, e1, e2, e3, e4, e5, e8, e9, e10, e11, e12, e13, e16]
          simp only [Act.put, List.setIfInBounds_toArray, List.set_cons_zero, List.set_cons_succ]
          have E4' := Lib.hid (E3'.out.step hR T0.out (PF.out WR _ _ hR r1 r2))
          have hbR := hR.below (fun k o hk => (T0.out k o hk).1) E3'.out.hB
          have KR := E3'.out.k1.of E3'.out.hi.1 hbR
          obtain ⟨q_0, q_1, q_l, q_f⟩ := KR.o2
          clear e0 e1 e2 e3 e4 e5 e8 e9 e10 e11 e12 e13 e16 e6 e14 r1 r2 hR hbR KR T0 T1 T2 P1 P2 PF hTC k_0 k_1 k_l k_f
          obtain ⟨v1, hv1⟩ : ∃ v, v = x 7 := ⟨_, rfl⟩
          obtain ⟨v2, hv2⟩ : ∃ v, v = x 15 := ⟨_, rfl⟩
          rw [← hv1, ← hv2] at E4'
          simp only [← hv1, ← hv2]
          clear hv1 hv2
          obtain ⟨sa121, sm121, sc121, rfl⟩ : ∃ a m c, v1 = .slice a m c := by obtain ⟨a, c, h⟩ := own_slice (E4'.out.rows.1 (v1, List.replicate k (xs.getD 0 0) ++ [x0]) (by simp)); exact ⟨a, _, c, h⟩
          obtain ⟨sa122, sm122, sc122, rfl⟩ : ∃ a m c, v2 = .slice a m c := by obtain ⟨a, c, h⟩ := own_slice (E4'.out.rows.1 (v2, List.replicate k (ys.getD 0 0) ++ [y0]) (by simp)); exact ⟨a, _, c, h⟩
          go_wp2
          go_roundw
          case rel =>
            refine ⟨k + 1, by omega, by go_num, fun j hj => ?_, .slice sa101 sm101 sc101, .slice sa102 sm102 sc102, .slice sa111 sm111 sc111, .slice sa112 sm112 sc112, .slice sa121 sm121 sc121, .slice sa122 sm122 sc122, ?_⟩
            · rcases Nat.lt_or_ge j k with h | h
              · exact HZ.out j h
              · obtain rfl : j = k := by omega
                exact ⟨by rw [← HXK.out]; exact hx8, by rw [← HYK.out]; exact hy8⟩
            · have := E4'.out
              rw [HXJ.out, HYJ.out, HXK.out, HYK.out, HX0.out, HY0.out, HJ0.out] at this
              rw [backL_succ, backL_succ, twL_succ (by rw [HN.out]; exact hlt), twL_succ (by rw [HM.out]; exact hlt), rep_succ, rep_succ, HN.out, HM.out]
              exact this
          case measure => simp [intOf]; omega
    · obtain rfl : k = n := by omega
      obtain ⟨z1, z2, z3, z4, z5⟩ := HLIN.out HZ.out
      obtain ⟨k1, k2, k3, k4⟩ := HCur.out
      have U1 := Lib.hid k1; have U2 := Lib.hid k2; have U3 := Lib.hid k3; have U4 := Lib.hid k4; clear k1 k2 k3 k4 HCur
      have R0 := EE.out.rows.1
      obtain ⟨C0, d0, rfl, _, s0⟩ := own_ints (show wr.ownsRow (w2.heap.size + 3) 3 1 a1 k ((backL xs k).map fun z => (.int .i64 (z))) by simpa only [OwnI, backL_len] using R0 (a1, backL xs k) (by simp)) (by simp only [backL_len])
      obtain ⟨C1, d1, rfl, _, s1⟩ := own_ints (show wr.ownsRow (w2.heap.size + 3) 3 1 a2 k ((backL ys k).map fun z => (.int .i64 (z))) by simpa only [OwnI, backL_len] using R0 (a2, backL ys k) (by simp)) (by simp only [backL_len])
      obtain ⟨C2, d2, rfl, _, s2⟩ := own_ints (show wr.ownsRow (w2.heap.size + 3) 3 1 a3 k ((twL xs k).map fun z => (.int .i64 (z))) by simpa only [OwnI, twL_len (show k ≤ xs.length by rw [HN.out]; exact Nat.le_refl _)] using R0 (a3, twL xs k) (by simp)) (by simp only [twL_len (show k ≤ xs.length by rw [HN.out]; exact Nat.le_refl _)])
      obtain ⟨C3, d3, rfl, _, s3⟩ := own_ints (show wr.ownsRow (w2.heap.size + 3) 3 1 a4 k ((twL ys k).map fun z => (.int .i64 (z))) by simpa only [OwnI, twL_len (show k ≤ ys.length by rw [HM.out]; exact Nat.le_refl _)] using R0 (a4, twL ys k) (by simp)) (by simp only [twL_len (show k ≤ ys.length by rw [HM.out]; exact Nat.le_refl _)])
      obtain ⟨C4, d4, rfl, _, s4⟩ := own_ints (show wr.ownsRow (w2.heap.size + 3) 3 1 a5 k ((List.replicate k (xs.getD 0 0)).map fun z => (.int .i64 (z))) by simpa only [OwnI, List.length_replicate] using R0 (a5, List.replicate k (xs.getD 0 0)) (by simp)) (by simp only [List.length_replicate])
      obtain ⟨C5, d5, rfl, _, s5⟩ := own_ints (show wr.ownsRow (w2.heap.size + 3) 3 1 a6 k ((List.replicate k (ys.getD 0 0)).map fun z => (.int .i64 (z))) by simpa only [OwnI, List.length_replicate] using R0 (a6, List.replicate k (ys.getD 0 0)) (by simp)) (by simp only [List.length_replicate])
      have Z1 := Lib.hid z1; have Z2 := Lib.hid z2; have Z3 := Lib.hid z3; have Z4 := Lib.hid z4; have Z5 := Lib.hid z5
      have S0 := Lib.hid s0
      have S1 := Lib.hid s1
      have S2 := Lib.hid s2
      have S3 := Lib.hid s3
      have S4 := Lib.hid s4
      have S5 := Lib.hid s5
      clear z1 z2 z3 z4 z5 s0 s1 s2 s3 s4 s5 R0 CC1 CC2 HC1 HC2 hXB hb1B hb2B hsz hGB hG1B hG2B HZ
      have HCX := Lib.hid (HL1.out.below HBR.out); have HCY := Lib.hid (HL2.out.below HBR.out)
      clear HBR
      clear f_0 f_1 f_f f_l2
      obtain ⟨f_0, f_1, f_l2, f_f⟩ := EE.out.hX.o2
      go_wp2_with (go_at_call 47; refine (U1.out _ _ _ _ _ HCX.out HCY.out).mono ?_; rintro r u0 ⟨D1, e1, D2, e2, rfl, y1, y2, h⟩; refine Hid.out ?_)
      unfold Hid
      have EU0 := Lib.hid (EE.out.mono h)
      have S0_u0 := Lib.hid (S0.out.below h)
      have S1_u0 := Lib.hid (S1.out.below h)
      have S2_u0 := Lib.hid (S2.out.below h)
      have S3_u0 := Lib.hid (S3.out.below h)
      have S4_u0 := Lib.hid (S4.out.below h)
      have S5_u0 := Lib.hid (S5.out.below h)
      have HCX_u0 := Lib.hid (HCX.out.below h)
      have HCY_u0 := Lib.hid (HCY.out.below h)
      clear S0 S1 S2 S3 S4 S5 HCX HCY EE h
      have Y1 := Lib.hid y1; have Y2 := Lib.hid y2; clear y1 y2
      go_wp2_with (go_at_call 46; refine (Z1.out _ _ _ _ _ Y1.out Y2.out).mono ?_; rintro r t0 ⟨rfl, h⟩; refine Hid.out ?_)
      unfold Hid
      have ET0 := Lib.hid (EU0.out.mono h)
      have S0_t0 := Lib.hid (S0_u0.out.below h)
      have S1_t0 := Lib.hid (S1_u0.out.below h)
      have S2_t0 := Lib.hid (S2_u0.out.below h)
      have S3_t0 := Lib.hid (S3_u0.out.below h)
      have S4_t0 := Lib.hid (S4_u0.out.below h)
      have S5_t0 := Lib.hid (S5_u0.out.below h)
      have HCX_t0 := Lib.hid (HCX_u0.out.below h)
      have HCY_t0 := Lib.hid (HCY_u0.out.below h)
      clear S0_u0 S1_u0 S2_u0 S3_u0 S4_u0 S5_u0 HCX_u0 HCY_u0 EU0 h
      clear Y1 Y2
      clear f_0 f_1 f_f f_l2
      obtain ⟨f_0, f_1, f_l2, f_f⟩ := ET0.out.k1.o2
      go_wp2_with (go_at_call 47; refine (U2.out _ _ _ _ _ S0_t0.out S1_t0.out).mono ?_; rintro r u1 ⟨D1, e1, D2, e2, rfl, y1, y2, h⟩; refine Hid.out ?_)
      unfold Hid
      have EU1 := Lib.hid (ET0.out.mono h)
      have S0_u1 := Lib.hid (S0_t0.out.below h)
      have S1_u1 := Lib.hid (S1_t0.out.below h)
      have S2_u1 := Lib.hid (S2_t0.out.below h)
      have S3_u1 := Lib.hid (S3_t0.out.below h)
      have S4_u1 := Lib.hid (S4_t0.out.below h)
      have S5_u1 := Lib.hid (S5_t0.out.below h)
      have HCX_u1 := Lib.hid (HCX_t0.out.below h)
      have HCY_u1 := Lib.hid (HCY_t0.out.below h)
      clear S0_t0 S1_t0 S2_t0 S3_t0 S4_t0 S5_t0 HCX_t0 HCY_t0 ET0 h
      have Y1 := Lib.hid y1; have Y2 := Lib.hid y2; clear y1 y2
      go_wp2_with (go_at_call 46; refine (Z2.out _ _ _ _ _ Y1.out Y2.out).mono ?_; rintro r t1 ⟨rfl, h⟩; refine Hid.out ?_)
      unfold Hid
      have ET1 := Lib.hid (EU1.out.mono h)
      have S2_t1 := Lib.hid (S2_u1.out.below h)
      have S3_t1 := Lib.hid (S3_u1.out.below h)
      have S4_t1 := Lib.hid (S4_u1.out.below h)
      have S5_t1 := Lib.hid (S5_u1.out.below h)
      have HCX_t1 := Lib.hid (HCX_u1.out.below h)
      have HCY_t1 := Lib.hid (HCY_u1.out.below h)
      clear S2_u1 S3_u1 S4_u1 S5_u1 HCX_u1 HCY_u1 EU1 h
      clear Y1 Y2
      clear f_0 f_1 f_f f_l2
      obtain ⟨f_0, f_1, f_l2, f_f⟩ := ET1.out.k2.o2
      go_wp2_with (go_at_call 47; refine (U3.out _ _ _ _ _ S2_t1.out S3_t1.out).mono ?_; rintro r u2 ⟨D1, e1, D2, e2, rfl, y1, y2, h⟩; refine Hid.out ?_)
      unfold Hid
      have EU2 := Lib.hid (ET1.out.mono h)
      have S2_u2 := Lib.hid (S2_t1.out.below h)
      have S3_u2 := Lib.hid (S3_t1.out.below h)
      have S4_u2 := Lib.hid (S4_t1.out.below h)
      have S5_u2 := Lib.hid (S5_t1.out.below h)
      have HCX_u2 := Lib.hid (HCX_t1.out.below h)
      have HCY_u2 := Lib.hid (HCY_t1.out.below h)
      clear S2_t1 S3_t1 S4_t1 S5_t1 HCX_t1 HCY_t1 ET1 h
      have Y1 := Lib.hid y1; have Y2 := Lib.hid y2; clear y1 y2
      go_wp2_with (go_at_call 46; refine (Z3.out _ _ _ _ _ Y1.out Y2.out).mono ?_; rintro r t2 ⟨rfl, h⟩; refine Hid.out ?_)
      unfold Hid
      have ET2 := Lib.hid (EU2.out.mono h)
      have S4_t2 := Lib.hid (S4_u2.out.below h)
      have S5_t2 := Lib.hid (S5_u2.out.below h)
      have HCX_t2 := Lib.hid (HCX_u2.out.below h)
      have HCY_t2 := Lib.hid (HCY_u2.out.below h)
      clear S4_u2 S5_u2 HCX_u2 HCY_u2 EU2 h
      clear Y1 Y2
      clear f_0 f_1 f_f f_l2
      obtain ⟨f_0, f_1, f_l2, f_f⟩ := ET2.out.k3.o2
      go_wp2_with (go_at_call 47; refine (U4.out _ _ _ _ _ S4_t2.out S5_t2.out).mono ?_; rintro r u3 ⟨D1, e1, D2, e2, rfl, y1, y2, h⟩; refine Hid.out ?_)
      unfold Hid
      have EU3 := Lib.hid (ET2.out.mono h)
      have S4_u3 := Lib.hid (S4_t2.out.below h)
      have S5_u3 := Lib.hid (S5_t2.out.below h)
      have HCX_u3 := Lib.hid (HCX_t2.out.below h)
      have HCY_u3 := Lib.hid (HCY_t2.out.below h)
      clear S4_t2 S5_t2 HCX_t2 HCY_t2 ET2 h
      have Y1 := Lib.hid y1; have Y2 := Lib.hid y2; clear y1 y2
      go_wp2_with (go_at_call 46; refine (Z4.out _ _ _ _ _ Y1.out Y2.out).mono ?_; rintro r t3 ⟨rfl, h⟩; refine Hid.out ?_)
      unfold Hid
      have ET3 := Lib.hid (EU3.out.mono h)
      have HCX_t3 := Lib.hid (HCX_u3.out.below h)
      have HCY_t3 := Lib.hid (HCY_u3.out.below h)
      clear HCX_u3 HCY_u3 EU3 h
      clear Y1 Y2
      clear f_0 f_1 f_f f_l2
      obtain ⟨f_0, f_1, f_l2, f_f⟩ := ET3.out.hX.o2
      go_wp2_with (go_at_call 47; refine (U1.out _ _ _ _ _ HCX_t3.out HCY_t3.out).mono ?_; rintro r u4 ⟨D1, e1, D2, e2, rfl, y1, y2, h⟩; refine Hid.out ?_)
      unfold Hid
      have EU4 := Lib.hid (ET3.out.mono h)
      have HCX_u4 := Lib.hid (HCX_t3.out.below h)
      have HCY_u4 := Lib.hid (HCY_t3.out.below h)
      clear HCX_t3 HCY_t3 ET3 h
      have Y1 := Lib.hid y1; have Y2 := Lib.hid y2; clear y1 y2
      go_wp2_with (go_at_call 46; refine (Z5.out _ _ _ _ _ Y1.out Y2.out).mono ?_; rintro r t4 ⟨rfl, h⟩; refine Hid.out ?_)
      unfold Hid
      have ET4 := Lib.hid (EU4.out.mono h)
      have HCX_t4 := Lib.hid (HCX_u4.out.below h)
      have HCY_t4 := Lib.hid (HCY_u4.out.below h)
      clear HCX_u4 HCY_u4 EU4 h
      clear Y1 Y2
      clear f_0 f_1 f_f f_l2
      obtain ⟨f_0, f_1, f_l2, f_f⟩ := ET4.out.hX.o2
      go_wp2
      go_ret
      exact ⟨by first | rfl | (simp; done), ET4.out.below⟩
end Go.Proofs.YtpkldjlljoledaaDoor

/- DriverEven answers yes, whatever its arguments. -/
namespace Go.Proofs.YtpkldjlljoledaaDoor
open Go.RowKit
open Calm (bcell Blk)

set_option maxHeartbeats 1000000 in
theorem refCheckCurve_odd (A1 A2 : Option Addr) (n m c1 c2 : Nat) (w : World) (h : n % 2 = 0 ∨ n < 3 ∨ 33 < n ∨ m ≠ n) :
    Calls Tryd.prog 48 #[.agg #[.slice A1 n c1, .slice A2 m c2]] w fun r w' => r = .returned (.int .i64 (2)) ∧ Below w.heap.size w w' := by
  by_cases e1 : n % 2 = 0
  · clear h
    have f1 : ((n : Int) % 2 == 0) = true := by rw [beq_iff_eq]; omega
    go_enter Tryd.func48, Tryd.ntmps48
    go_wp2
    go_ret
    refine ⟨rfl, ?_⟩
    repeat (first | (with_reducible exact Below.refl _ _) | ((with_reducible refine Below.setCell ?_ ?_ _); rotate_left 1; focus (first | (simp; done) | (simp; omega) | (simp at *; omega))) | ((with_reducible refine Below.alloc ?_ ?_ _); rotate_left 1; focus (first | (simp; done) | (simp; omega) | (simp at *; omega))) | (with_reducible refine Below.drew ?_) | ((with_reducible refine Calm.step (by assumption) ?_ ?_); rotate_left 1; focus (first | (simp; done) | (simp; omega) | (simp at *; omega))))
  · have f1 : ((n : Int) % 2 == 0) = false := by rw [beq_eq_false_iff_ne]; omega
    by_cases e2 : n < 3
    · clear h e1
      go_enter Tryd.func48, Tryd.ntmps48
      go_wp2
      go_ret
      refine ⟨rfl, ?_⟩
      repeat (first | (with_reducible exact Below.refl _ _) | ((with_reducible refine Below.setCell ?_ ?_ _); rotate_left 1; focus (first | (simp; done) | (simp; omega) | (simp at *; omega))) | ((with_reducible refine Below.alloc ?_ ?_ _); rotate_left 1; focus (first | (simp; done) | (simp; omega) | (simp at *; omega))) | (with_reducible refine Below.drew ?_) | ((with_reducible refine Calm.step (by assumption) ?_ ?_); rotate_left 1; focus (first | (simp; done) | (simp; omega) | (simp at *; omega))))
    · by_cases e3 : 33 < n
      · clear h e1
        go_enter Tryd.func48, Tryd.ntmps48
        go_wp2
        go_ret
        refine ⟨rfl, ?_⟩
        repeat (first | (with_reducible exact Below.refl _ _) | ((with_reducible refine Below.setCell ?_ ?_ _); rotate_left 1; focus (first | (simp; done) | (simp; omega) | (simp at *; omega))) | ((with_reducible refine Below.alloc ?_ ?_ _); rotate_left 1; focus (first | (simp; done) | (simp; omega) | (simp at *; omega))) | (with_reducible refine Below.drew ?_) | ((with_reducible refine Calm.step (by assumption) ?_ ?_); rotate_left 1; focus (first | (simp; done) | (simp; omega) | (simp at *; omega))))
      · have e4 : ¬ m = n := by omega
        have f4 : ((m : Int) != n) = true := by rw [bne_iff_ne]; omega
        clear h e1
        go_enter Tryd.func48, Tryd.ntmps48
        go_wp2
        go_ret
        refine ⟨rfl, ?_⟩
        repeat (first | (with_reducible exact Below.refl _ _) | ((with_reducible refine Below.setCell ?_ ?_ _); rotate_left 1; focus (first | (simp; done) | (simp; omega) | (simp at *; omega))) | ((with_reducible refine Below.alloc ?_ ?_ _); rotate_left 1; focus (first | (simp; done) | (simp; omega) | (simp at *; omega))) | (with_reducible refine Below.drew ?_) | ((with_reducible refine Calm.step (by assumption) ?_ ?_); rotate_left 1; focus (first | (simp; done) | (simp; omega) | (simp at *; omega))))

set_option maxRecDepth 100000 in
set_option maxHeartbeats 4000000 in
theorem even_no (n m : Nat) (fo st ce : Int) (A1 A2 : Option Addr) (c1 c2 : Nat) (w : World) (hL : Lim w)
    (HRC : Hid (∀ W : World, Below w.heap.size w W → Calls Tryd.prog 48 #[.agg #[.slice A1 n c1, .slice A2 m c2]] W fun r w' => r = .returned (.int .i64 (ce)) ∧ Below W.heap.size W w'))
    (h : ¬ ce = 0 ∨ ce = 0 ∧ 15 < n ∨ ce = 0 ∧ n ≤ 15 ∧ rangeErr fo 1 100 = 3 ∨ ce = 0 ∧ n ≤ 15 ∧ rangeErr fo 1 100 = 0 ∧ rangeErr st 100 1000 = 3) :
    Calls Tryd.prog 9 #[.agg #[.slice A1 n c1, .slice A2 m c2], (.int .i64 (fo)), (.int .i64 (st))] w fun r w' => r = .returned (.bool true) ∧ Below w.heap.size w w' := by
  rcases h with h | ⟨h0, h⟩ | ⟨h0, h, h3⟩ | ⟨h0, h, h3, h4⟩
  all_goals
    (try subst h0)
    have hB0 := Below.refl w.heap.size w
    go_enter Tryd.func9, Tryd.ntmps9
    go_wp2_with (go_at_call 11; refine (awake_any _ (hL.below (hB0.alloc hB0.size _))).mono ?_; rintro r w1 ⟨rfl, h1⟩; refine Hid.out ?_)
    unfold Hid
    have hB1 := (hB0.alloc hB0.size _).trans (h1.mono (by simp))
    have K1 := Lib.hid ((Calm.Blk.new w _ #[.slice A1 n c1, .slice A2 m c2]).below h1)
    clear h1 hB0
    obtain ⟨f_0, f_1, f_l, f_f⟩ := K1.out.o2
    go_wp2_with (go_at_call 48; refine (HRC.out _ hB1).mono ?_; rintro r w2 ⟨rfl, h2⟩; refine Hid.out ?_)
    unfold Hid
    have hB2 := hB1.trans (h2.mono hB1.size)
    have K2 := Lib.hid (K1.out.below h2)
    clear h2 hB1 K1 f_0 f_1 f_l f_f
    obtain ⟨f_0, f_1, f_l, f_f⟩ := K2.out.o2
    go_wp2_with (first
      | (go_at_call 40; refine (checkRange_any _ _ _ _).mono ?_; rintro r wq ⟨rfl, rfl⟩)
      | (go_at_call 11; refine (awake_any _ (hL.below hB2)).mono ?_; rintro r w3 ⟨rfl, h3'⟩))
    go_ret
    exact ⟨by first | rfl | (simp; done), hB2.trans (h3'.mono hB2.size)⟩

theorem LinC_of {n : Nat} {p q : List Int} {f s : Int} {v : Nat} (h1 : p.length = n) (h2 : q.length = n) (hn : n ≤ 100000) (h : linErr p q f s = 0) (hv : linD p q f s = v) : LinC n p q f s v := by
  intro W A1 A2 c1 c2 k1 k2
  have := Linear_ok p q f s A1 A2 c1 c2 W k1 k2 (by omega) (by omega) h
  rwa [h1, h2, hv] at this
theorem CurC_of {n : Nat} (hn : n ≤ 100000) (p q : List Int) (h1 : p.length = n) (h2 : q.length = n) : CurC n p q := by
  intro W A1 A2 c1 c2 k1 k2
  have := curve_any p q A1 A2 c1 c2 W k1 k2 (by omega) (by omega)
  rwa [h1, h2] at this
theorem linErr_mk {p q : List Int} {f s : Int} (h : p.length % 2 = 1 ∧ 3 ≤ p.length ∧ p.length ≤ 33 ∧ q.length = p.length) (hp : ∀ x ∈ p, 1 ≤ x ∧ x ≤ 999999999) (hq : ∀ x ∈ q, 1 ≤ x ∧ x ≤ 999999999) (hf : 1 ≤ f ∧ f ≤ 100) (hs : 100 ≤ s ∧ s ≤ 1000) : linErr p q f s = 0 := by
  unfold linErr
  refine firstOf_eq_zero.2 ?_
  simp only [List.mem_cons, List.not_mem_nil, or_false, forall_eq_or_imp, forall_eq, rangeErr_zero]
  refine ⟨?_, hf, hs⟩
  unfold curveErr
  rw [if_neg (by omega), if_pos ⟨hp, hq⟩]
theorem mem_of_getD {l : List Int} {P : Int → Prop} (h : ∀ j, j < l.length → P (l.getD j 0)) : ∀ x ∈ l, P x := by
  intro x hx
  obtain ⟨j, hj, rfl⟩ := List.mem_iff_getElem.1 hx
  have := h j hj
  rwa [List.getD_eq_getElem?_getD, List.getElem?_eq_getElem hj, Option.getD_some] at this

theorem even_lin {xs ys : List Int} {n : Nat} {fo st f2 s2 : Int} (hx : xs.length = n) (hy : ys.length = n) (hn : n % 2 = 1 ∧ 3 ≤ n ∧ n ≤ 15) (p1 : ∀ x ∈ xs, 1 ≤ x ∧ x ≤ 999999999) (p2 : ∀ x ∈ ys, 1 ≤ x ∧ x ≤ 999999999)
    (hf : 1 ≤ fo ∧ fo ≤ 100) (hs : 100 ≤ st ∧ st ≤ 1000) (hf2 : 1 ≤ f2 ∧ f2 ≤ 100) (hs2 : 100 ≤ s2 ∧ s2 ≤ 1000) (hP : ∀ j, j < n → xs.getD j 0 ≤ 100000000 ∧ ys.getD j 0 ≤ 100000000) :
    LinC n xs ys fo st (linD xs ys fo st) ∧ LinC n (backL xs n) (backL ys n) fo st (linD xs ys fo st) ∧ LinC n (twL xs n) (twL ys n) fo st (linD xs ys fo st) ∧ LinC n (List.replicate n (xs.getD 0 0)) (List.replicate n (ys.getD 0 0)) fo st (n / 2) ∧ LinC n xs ys f2 s2 (linD xs ys f2 s2) := by
  have q1 : ∀ x ∈ xs, x ≤ 100000000 := mem_of_getD (fun j hj => (hP j (by omega)).1)
  have q2 : ∀ x ∈ ys, x ≤ 100000000 := mem_of_getD (fun j hj => (hP j (by omega)).2)
  have m1 : xs.getD 0 0 ∈ xs := by
    rw [List.getD_eq_getElem?_getD, List.getElem?_eq_getElem (by omega : 0 < xs.length), Option.getD_some]; exact List.getElem_mem _
  have m2 : ys.getD 0 0 ∈ ys := by
    rw [List.getD_eq_getElem?_getD, List.getElem?_eq_getElem (by omega : 0 < ys.length), Option.getD_some]; exact List.getElem_mem _
  have b1 : backL xs n = xs.reverse := hx ▸ backL_all xs
  have b2 : backL ys n = ys.reverse := hy ▸ backL_all ys
  have t1 : twL xs n = xs.map (2 * ·) := hx ▸ twL_all xs
  have t2 : twL ys n = ys.map (2 * ·) := hy ▸ twL_all ys
  refine ⟨LinC_of hx hy (by omega) (linErr_mk (by omega) p1 p2 hf hs) rfl, ?_, ?_, ?_, LinC_of hx hy (by omega) (linErr_mk (by omega) p1 p2 hf2 hs2) rfl⟩
  · rw [b1, b2]
    exact LinC_of (by simpa using hx) (by simpa using hy) (by omega) (linErr_mk (by simp only [List.length_reverse]; omega) (fun x h => p1 x (List.mem_reverse.1 h)) (fun x h => p2 x (List.mem_reverse.1 h)) hf hs) (linD_back (by omega) (by omega))
  · rw [t1, t2]
    refine LinC_of (by simpa using hx) (by simpa using hy) (by omega) (linErr_mk (by simp only [List.length_map]; omega) (fun x h => ?_) (fun x h => ?_) hf hs) (linD_twice _ _ _ _)
    · obtain ⟨y, hy', rfl⟩ := List.mem_map.1 h
      have := p1 y hy'; have := q1 y hy'; omega
    · obtain ⟨y, hy', rfl⟩ := List.mem_map.1 h
      have := p2 y hy'; have := q2 y hy'; omega
  · refine LinC_of (by simp) (by simp) (by omega) (linErr_mk (by simp only [List.length_replicate, and_true]; omega) (fun x h => ?_) (fun x h => ?_) hf hs) (linD_flat hn.1 (by have := p1 _ m1; omega) (by have := p2 _ m2; omega) hf.2 hs.1)
    · rw [(List.mem_replicate.1 h).2]; exact p1 _ m1
    · rw [(List.mem_replicate.1 h).2]; exact p2 _ m2

theorem DriverEven_any (xs ys : List Int) (fo st : Int) (A1 A2 : Option Addr) (c1 c2 : Nat) (w : World) (hL : Lim w) (hC1 : Cells w A1 xs) (hC2 : Cells w A2 ys) :
    Calls Tryd.prog 9 #[.agg #[.slice A1 xs.length c1, .slice A2 ys.length c2], (.int .i64 (fo)), (.int .i64 (st))] w fun r w' => r = .returned (.bool true) ∧ Below w.heap.size w w' := by
  by_cases hs : xs.length % 2 = 0 ∨ xs.length < 3 ∨ 33 < xs.length ∨ ys.length ≠ xs.length
  · exact even_no _ _ fo st 2 A1 A2 c1 c2 w hL (Lib.hid (fun W _ => refCheckCurve_odd A1 A2 _ _ c1 c2 W hs)) (.inl (by decide))
  · have HR : Hid (∀ W : World, Below w.heap.size w W → Calls Tryd.prog 48 #[.agg #[.slice A1 xs.length c1, .slice A2 ys.length c2]] W fun r w' => r = .returned (.int .i64 (curveErr xs ys)) ∧ Below W.heap.size W w') :=
      Lib.hid (fun W hb => refCheckCurve_any A1 A2 xs ys c1 c2 W (hC1.below hb) (hC2.below hb) (by omega) (by omega))
    by_cases hce : curveErr xs ys = 0
    · rw [hce] at HR
      rcases rangeErr_cases fo 1 100 with ⟨e0, hf1, hf2⟩ | ⟨e0, _⟩
      · rcases rangeErr_cases st 100 1000 with ⟨e1, hs1, hs2⟩ | ⟨e1, _⟩
        · by_cases hn : xs.length ≤ 15
          · obtain ⟨g1, g2, g3⟩ := curve_zero hce
            have hy : ys.length = xs.length := g1.2.2.2
            obtain ⟨b1, o1, rfl, l1, k1⟩ := hC1 (by omega)
            obtain ⟨b2, o2, rfl, l2, k2⟩ := hC2 (by omega)
            have hv := linD_less (xs := xs) (ys := ys) (fo := fo) (st := st) (fo' := if fo - 1 > 1 then fo - 1 else 1) (st' := if st + 1 < 1000 then st + 1 else 1000) (fun x hx => by have := g2 x hx; omega) (fun x hx => by have := g3 x hx; omega) (by split <;> omega) (by split <;> omega)
            have hw := linD_le xs ys (if fo - 1 > 1 then fo - 1 else 1) (if st + 1 < 1000 then st + 1 else 1000)
            have pos : ∀ {l : List Int}, (∀ x ∈ l, 1 ≤ x ∧ x ≤ 999999999) → ∀ j, j < l.length → 1 ≤ l.getD j 0 := fun {l} h j hj => by
              rw [List.getD_eq_getElem?_getD, List.getElem?_eq_getElem hj, Option.getD_some]; exact (h _ (List.getElem_mem hj)).1
            have k2' := k2
            rw [hy] at k2' HR ⊢
            exact even_ok xs ys xs.length fo st (xs.getD 0 0) (ys.getD 0 0) (if fo - 1 > 1 then fo - 1 else 1) (if st + 1 < 1000 then st + 1 else 1000) (linD xs ys fo st) (linD xs ys (if fo - 1 > 1 then fo - 1 else 1) (if st + 1 < 1000 then st + 1 else 1000)) (xs.length / 2)
              b1 o1 b2 o2 c1 c2 w hL ⟨by omega, hn⟩ l1 l2 (Lib.hid rfl) (Lib.hid hy) (Lib.hid rfl) (Lib.hid rfl) ⟨hf1, hf2⟩ ⟨hs1, hs2⟩ e0 e1 (Lib.hid k1) (Lib.hid k2') (Lib.hid (pos g2)) (Lib.hid (by have := pos g3; rwa [hy] at this)) HR
              (Lib.hid hC1) (Lib.hid hC2) (Lib.hid ⟨CurC_of (by omega) _ _ rfl hy, CurC_of (by omega) _ _ (backL_len _ _) (backL_len _ _), CurC_of (by omega) _ _ (twL_len (Nat.le_refl _)) (twL_len (by omega)), CurC_of (by omega) _ _ List.length_replicate List.length_replicate⟩) hv hw (by omega) (fun W => by simp [Builtin.max_, Builtin.max2]) (fun W => by simp [Builtin.min_, Builtin.min2])
              (Lib.hid (fun hP => even_lin rfl hy (by omega) g2 g3 ⟨hf1, hf2⟩ ⟨hs1, hs2⟩ (by split <;> omega) (by split <;> omega) hP))
          · exact even_no _ _ fo st 0 A1 A2 c1 c2 w hL HR (.inr (.inl ⟨rfl, by omega⟩))
        · by_cases hn : xs.length ≤ 15
          · exact even_no _ _ fo st 0 A1 A2 c1 c2 w hL HR (.inr (.inr (.inr ⟨rfl, hn, e0, e1⟩)))
          · exact even_no _ _ fo st 0 A1 A2 c1 c2 w hL HR (.inr (.inl ⟨rfl, by omega⟩))
      · by_cases hn : xs.length ≤ 15
        · exact even_no _ _ fo st 0 A1 A2 c1 c2 w hL HR (.inr (.inr (.inl ⟨rfl, hn, e0⟩)))
        · exact even_no _ _ fo st 0 A1 A2 c1 c2 w hL HR (.inr (.inl ⟨rfl, by omega⟩))
    · exact even_no _ _ fo st _ A1 A2 c1 c2 w hL HR (.inl hce)
end Go.Proofs.YtpkldjlljoledaaDoor

/- DriverEven: the row and its card. -/
namespace Go.Proofs.YtpkldjlljoledaaDoor.driverEven
open Go.ChangeShapes Go.WideShapes Go.ChangeAt Go.RowKit Go.Flat
open Calm (bcell)

set_option maxRecDepth 100000 in
/-- a curve, opened: two slices of integers. -/
theorem open_curve {H : Type} {enc : TypeId × Value → H} {w : World} {base : Nat} {r : Reach} {b0 : Nat} {sp : Nat → Bool} {held : Bool} {v : Value} {d : DataW H} {p : List MemPlace}
    (hv : Value.okWide Tryd.prog w r b0 85 v) (hd : DataW.Trod enc Tryd.prog w base sp held 85 v d p) :
    ∃ (A1 A2 : Option Addr) (c1 c2 : Nat) (xs ys : List Int), v = .agg #[.slice A1 xs.length c1, .slice A2 ys.length c2] ∧ Cells w A1 xs ∧ Cells w A2 ys := by
  obtain ⟨cs, rfl, hsz⟩ := okWide_struct Tryd.underlying85 hv
  obtain ⟨fuel, hf⟩ := hd
  obtain ⟨y0, y1, n, _, hl, h0, h1⟩ := trod_struct2 Tryd.underlying85 hf
  rw [show Tryd.prog.cellsOf 85 = 2 by kernel_rfl] at hsz
  obtain ⟨l⟩ := cs
  match l, hsz with
  | [u0, u1], _ =>
  have hi : Flat.intsB Tryd.prog 3 3 = true := by kernel_rfl
  have h0' : DataW.trod enc Tryd.prog w base sp held n 38 [u0] = some y0 := h0
  have h1' : DataW.trod enc Tryd.prog w base sp held n 38 [u1] = some y1 := h1
  obtain ⟨A1, c1, xs, e1, _, _, k1⟩ := open_cells 3 Tryd.underlying38 hi (by kernel_rfl) h0'
  obtain ⟨A2, c2, ys, e2, _, _, k2⟩ := open_cells 3 Tryd.underlying38 hi (by kernel_rfl) h1'
  obtain rfl : u0 = _ := by simpa using e1
  obtain rfl : u1 = _ := by simpa using e2
  exact ⟨A1, A2, c1, c2, xs, ys, rfl, k1, k2⟩

set_option maxRecDepth 100000 in
theorem contract (H : Type) (enc : TypeId × Value → H) (W : World) (base : Nat) (args : Array Value) (ds gs : List (DataW H)) (before : List MemPlace)
    (hval : ∀ (j : Nat) t v, Tryd.f9.params[j]? = some t → args[j]? = some v → Value.okWide Tryd.prog W .any base t v)
    (hW : DataW.Whole enc Tryd.prog Tryd.f9.params.toList Rows.driverEvenSpec.vars false W args.toList ds gs before) (hL : laidMetH Tryd.prog laidList W) :
    Calls Tryd.prog 9 args W fun e W' => ∃ v, e = .returned v ∧ Rows.driverEvenSpec.post enc Tryd.prog Tryd.f9 false true false false W args v W' := by
  have hW' := hW
  have hlt : ∀ p ∈ before, p.block < W.heap.size := fun p hp => hW.lt p hp
  obtain ⟨p, q, hA0, hV, rfl, hfz, hnd⟩ := hW
  have hA : DataW.TrodAll enc Tryd.prog W 0 (fun _ => true) true Tryd.f9.params.toList args.toList ds p := hA0
  rw [Tryd.params9] at hA hval
  obtain ⟨v0, v1, v2, d0, d1, d2, p0, p1, p2, rfl, rfl, rfl, h0, h1, h2⟩ := trodAll_three hA
  obtain ⟨rfl, rfl⟩ := trodVars_none hV
  obtain ⟨A1, A2, c1, c2, xs, ys, rfl, k1, k2⟩ := open_curve (hval 0 _ _ rfl rfl) h0
  obtain ⟨z1, rfl, rfl, rfl, _⟩ := open_int Tryd.underlying3 (hval 1 _ _ rfl rfl) h1
  obtain ⟨z2, rfl, rfl, rfl, _⟩ := open_int Tryd.underlying3 (hval 2 _ _ rfl rfl) h2
  refine (DriverEven_any xs ys z1 z2 A1 A2 c1 c2 W (lim_of_laid hL) k1 k2).mono fun e W' ⟨he, hb⟩ => ?_
  subst he
  refine ⟨_, rfl, post_of_below (pa := p0 ++ [] ++ []) (pv := []) hW' (fun _ _ _ => trodAll_cons_mk (shut_bool Tryd.underlying4 _) trodAll_mk0) (fun sp hs => ?_) (fun _ _ => rfl) rfl hb (ok_one (by kernel_rfl) rfl (okWide_bool_mk Tryd.underlying4 _))⟩
  exact trodAll_below laidOut hb (by rw [Tryd.params9]; exact of_decide_eq_true (by kernel_rfl)) hA0 (fun x hx => hlt x (List.mem_append_left _ hx)) (fun x hx => hs x (List.mem_append_left _ hx))

/-- the witness: nothing. -/
noncomputable def wit : Array Value := #[.agg #[.slice none 0 0, .slice none 0 0], (.int .i64 (0)), (.int .i64 (0))]
theorem reads (os : Os) {H : Type} (enc : TypeId × Value → H) : ∃ ds places, DataW.whole enc Tryd.prog ((World.doorLaid Tryd.prog 35 os).forCall (fun _ _ => 0) ⟨#[], wit, []⟩).memory Tryd.f9.params.toList Rows.driverEvenSpec.vars false wit.toList 8 = some (ds, [], places) :=
  ⟨[.agg [.nil, .nil], .lit (.int .i64 0), .lit (.int .i64 0)], [], by kernel_rfl⟩

set_option maxRecDepth 100000 in
theorem lifted (os : Os) (started : os.Started) (H : Type) (enc : TypeId × Value → H) (F : Stop.Interp) :
    ReturnsInHanded {} Tryd.checked os 9 .any ((OpenSpec.ofChange Rows.driverEvenSpec).preRow enc Tryd.prog Tryd.f9 Rows.driverEvenRow.domain false Rows.driverEvenRow.laid) (((OpenSpec.ofChange Rows.driverEvenSpec).at F).post enc Tryd.prog Tryd.f9 false true false false) := by
  obtain ⟨ds, places, hx⟩ := reads os enc
  refine returnsInHanded_of_row (C := Tryd.checked) (s := OpenSpec.ofChange Rows.driverEvenSpec) own started (by kernel_rfl) Tryd.func9
    (witness_row_at (enc := enc) (C := Tryd.checked) false (World.doorLaid Tryd.prog 35 os) wit rfl (door_vars os _) (door_rest os _) (by kernel_rfl)
      (OpenSpec.preRow_of_cond 8 hx (by kernel_rfl) (fun k hk => by cases hk) (by kernel_rfl) (laid_met os _))) ?_
  intro W base args ds gs before hval hW _ _ _ hL _ _
  exact contract H enc W base args ds gs before hval hW hL

theorem said : Rows.DriverEvenSaid :=
  OpenClaim.holds_of_cond 9 Tryd.f9 rfl rfl rfl rfl rfl rfl rfl ⟨rfl, rfl, rfl, rfl, rfl⟩ rfl rfl rfl rfl rfl (by kernel_rfl) Tryd.func9 (by kernel_rfl)
    (of_decide_eq_true (by kernel_rfl)) (by unfold Func.isWrapper; first | (rw [if_pos (by decide +kernel)]; kernel_rfl) | (rw [if_neg (by decide +kernel)]; exact ⟨rfl, rfl⟩))
    (fun os started H enc _ F => by rw [OpenClaim.pre_eq_preRow]; exact lifted os started H enc F)

theorem plain (f : FuncId) (fn : Func) (hf : Tryd.pinned.checked.prog.funcNamed "woofer/wooferlaw03.DriverEven" = some f) (hfn : Tryd.pinned.checked.prog.funcs[f]? = some fn) :
    false = Tryd.pinned.checked.prog.looks [] ∧ ∀ (j : Nat) t, fn.params[j]? = some t → Tryd.pinned.checked.prog.wantsStandIn t = false := by
  obtain rfl : f = 9 := Option.some.inj ((show Tryd.prog.funcNamed "woofer/wooferlaw03.DriverEven" = some 9 by kernel_rfl).symm.trans hf) |>.symm
  obtain rfl : fn = Tryd.f9 := (Option.some.inj (Tryd.func9.symm.trans hfn)).symm
  refine ⟨by kernel_rfl, fun j t ht => ?_⟩
  rw [Tryd.params9] at ht
  have hall : ∀ t ∈ (#[85, 3, 3] : Array TypeId), Tryd.prog.wantsStandIn t = false := of_decide_eq_true (by kernel_rfl)
  exact hall t (Array.mem_of_getElem? ht)

theorem card : Rows.DriverEvenCardSaid :=
  Claim7.holds_tied_plain_at .later [] _ _ _ _ said (fun _ h => by cases h) (by kernel_rfl) (fun _ h => by cases h) driverEven_row_tie rfl ⟨rfl, rfl⟩ (by kernel_rfl) rfl plain (by kernel_rfl)
end Go.Proofs.YtpkldjlljoledaaDoor.driverEven
