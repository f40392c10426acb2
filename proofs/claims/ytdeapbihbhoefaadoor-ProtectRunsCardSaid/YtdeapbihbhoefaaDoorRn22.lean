/- Part 22 of the texts of the claim: N8, Opz, Ap1, N9, LStP, N14. -/
import Derived.Test.YtdeapbihbhoefaaDoorRn21
import Derived.Test.YtdeapbihbhoefaaDoorRn17
import Derived.Test.YtdeapbihbhoefaaDoorRn13
import Derived.Test.YtdeapbihbhoefaaDoorRn19
import Derived.Test.YtdeapbihbhoefaaDoorRn7

/- The reference's Step. -/
namespace Go.Proofs.YtdeapbihbhoefaaDoor
open Go.RowKit
open Calm (bcell Blk)
theorem bestK_le (lk ht rc : Int) (ts gs : List Int) (s : St) (x : Int) : ∀ n, bestK lk ht rc ts gs s x n ≤ n - 1
  | 0 => Nat.le_refl _
  | n + 1 => by
    have := bestK_le lk ht rc ts gs s x n
    unfold bestK
    split <;> omega

set_option maxRecDepth 100000 in
set_option maxHeartbeats 4000000 in
theorem rStep_walk {lk ht rc h x : Int} {lv : Nat} {ts gs ps : List Int} {M L N : Nat} {A1 A2 A3 : Option Addr} {c1 c2 c3 : Nat} {w : World} (hV : Valid lk ht rc ts gs) (hh : 0 ≤ h ∧ h ≤ 549755813888) (hlv : lv ≤ 1000) (hM : M = ts.length) (hL : L = gs.length) (hN : N = ps.length) (hMN : M = N + 1) (hpb : inB 2048 ps) (hx : -2048 ≤ x ∧ x ≤ 2048)
    (hT : Cells w A1 ts) (hG : Cells w A2 gs) (hP : Cells w A3 ps) :
    Calls Tryd.prog 37 #[.agg #[(.int .i64 lk), (.int .i64 ht), .slice A1 M c1, (.int .i64 rc), .slice A2 L c2], .agg #[(.int .i64 h), (.int .i64 ((lv : Int))), .slice A3 N c3], (.int .i64 x)] w (KP (K2 (KV (.int .i64 (outF lk ht rc ts gs ⟨h, lv, ps⟩ x))) (KTN w.heap.size (stF lk ht rc ts gs ⟨h, lv, ps⟩ x).h ((stF lk ht rc ts gs ⟨h, lv, ps⟩ x).lv : Int) N (stF lk ht rc ts gs ⟨h, lv, ps⟩ x).ps)) w) := by
  have HU := Lib.hid (show KG lk ht rc M ts L gs (.agg #[(.int .i64 lk), (.int .i64 ht), .slice A1 M c1, (.int .i64 rc), .slice A2 L c2]) w from ⟨_, _, _, _, rfl, hT, hG⟩)
  have HVV := Lib.hid (show KT h (lv : Int) N ps (.agg #[(.int .i64 h), (.int .i64 ((lv : Int))), .slice A3 N c3]) w from ⟨_, _, rfl, hP⟩)
  have HGG := Lib.hid hG
  obtain ⟨BF, hBF⟩ : ∃ BF : Nat → Nat, BF = bestK lk ht rc ts gs ⟨h, lv, ps⟩ x := ⟨_, rfl⟩
  obtain ⟨PF, hPF⟩ : ∃ PF : Nat → Bool, PF = permB lk ht rc ts gs ⟨h, lv, ps⟩ x := ⟨_, rfl⟩
  have HPM : Hid (∀ {u v : Value} (i : Nat) (W : World), i < L → KG lk ht rc M ts L gs u W → KT h (lv : Int) N ps v W → Calls Tryd.prog 84 #[u, v, (.int .i64 x), (.int .i64 ((i : Int)))] W (KP (KV (.bool (PF i))) W)) := Lib.hid (fun i W hi q1 q2 => by rw [hPF]; exact rPerm_K hV hh hlv hM hL hN hMN hi hpb hx q1 q2)
  have HBF : Hid (∀ k, BF (k + 1) = if PF k then k else BF k) := Lib.hid (fun k => by rw [hBF, hPF]; rfl)
  have HB0 : Hid (BF 0 = 0) := Lib.hid (by rw [hBF]; rfl)
  have HBL : Hid (∀ k, BF k ≤ k - 1) := Lib.hid (fun k => by rw [hBF]; exact bestK_le _ _ _ _ _ _ _ k)
  have hL1 := hV.gl
  obtain ⟨V, hVL⟩ : ∃ V, V = lvF lk ht rc ts gs ⟨h, lv, ps⟩ x := ⟨_, rfl⟩
  have HBV : Hid (BF L = V) := Lib.hid (by rw [hBF, hVL, hL]; exact bestK_lv lk ht rc ts gs _ x hL1.1)
  obtain ⟨g, hg⟩ : ∃ g, g = gs.getD V 0 := ⟨_, rfl⟩
  obtain ⟨Y, hY⟩ : ∃ Y, Y = byF x g := ⟨_, rfl⟩
  have hgb : 0 ≤ g ∧ g ≤ 16 := by rw [hg]; exact hV.gb V
  have hyb := byF_bd hx hgb
  rw [← hY] at hyb
  have HBY : Hid (∀ W, Calls Tryd.prog 85 #[(.int .i64 x), (.int .i64 g)] W fun r w' => r = .returned (.int .i64 Y) ∧ W = w') := Lib.hid (fun W => by rw [hY]; exact rBy_any x g W hx hgb)
  obtain ⟨H1, hH1⟩ : ∃ H1, H1 = coolF lk h + Y * Y := ⟨_, rfl⟩
  have hM8 : M ≤ 8 := by rw [hM]; exact hV.tl.2
  have HBH : Hid (∀ {u v : Value} (W : World), KG lk ht rc M ts L gs u W → KT h (lv : Int) N ps v W → Calls Tryd.prog 36 #[u, v, (.int .i64 Y)] W (KP (K2 (KTN W.heap.size H1 (lv : Int) N (pushL ps Y)) (KV (.int .i64 (exF ts ps Y)))) W)) := Lib.hid (fun W q1 q2 => by rw [hH1]; exact rBehind_N hV.lk ⟨hh.1, by omega⟩ hM hN hMN (by omega) hV.tb hpb hyb q1 q2)
  have e1 : outF lk ht rc ts gs ⟨h, lv, ps⟩ x = Y := by unfold outF; rw [← hVL, ← hg, ← hY]
  have e2 : stF lk ht rc ts gs ⟨h, lv, ps⟩ x = ⟨H1, V, pushL ps Y⟩ := by unfold stF; rw [e1, ← hVL, hH1]
  rw [e1, e2]
  have HGV := Lib.hid hg
  have HL := Lib.hid hL
  have hL8 : 1 ≤ L ∧ L ≤ 8 := by rw [hL]; exact hL1
  obtain ⟨l1, l2⟩ := hL8
  obtain ⟨X, hX⟩ : ∃ X, X = exF ts ps Y := ⟨_, rfl⟩
  rw [← hX] at HBH
  clear hT hG hP hM hN hMN hpb hV hY hH1 hL hg hBF hPF hVL e1 e2 hyb hgb hX hL1
  go_enter Tryd.func37, Tryd.ntmps37
  go_wp2
  refine name_world ?_
  intro w1 e1
  have hb1 : Below w.heap.size w w1 := by rw [e1]; (repeat (first | (with_reducible exact Below.refl _ _) | ((with_reducible refine Below.setCell ?_ ?_ _); rotate_left 1; focus (first | (simp; done) | (simp; omega) | (simp at *; omega))) | ((with_reducible refine Below.alloc ?_ ?_ _); rotate_left 1; focus (first | (simp; done) | (simp; omega) | (simp at *; omega))) | (with_reducible refine Below.drew ?_) | ((with_reducible refine Calm.step (by assumption) ?_ ?_); rotate_left 1; focus (first | (simp; done) | (simp; omega) | (simp at *; omega)))))
  have bg := Lib.hid (show Blk w1 w.heap.size #[(.int .i64 lk), (.int .i64 ht), .slice A1 M c1, (.int .i64 rc), .slice A2 L c2] by rw [e1]; (repeat (first | ((with_reducible refine Blk.at_ ?_); focus (first | rfl | (simp; done) | (simp; omega))) | (with_reducible refine Blk.alloc ?_ _) | (with_reducible refine Blk.below ?_ (by with_reducible assumption)) | (with_reducible refine Blk.drew ?_))))
  have bs := Lib.hid (show Blk w1 (w.heap.size + 1) #[(.int .i64 h), (.int .i64 ((lv : Int))), .slice A3 N c3] by rw [e1]; (repeat (first | ((with_reducible refine Blk.at_ ?_); focus (first | rfl | (simp; done) | (simp; omega))) | (with_reducible refine Blk.alloc ?_ _) | (with_reducible refine Blk.below ?_ (by with_reducible assumption)) | (with_reducible refine Blk.drew ?_))))
  have br := Lib.hid (show Blk w1 (w.heap.size + 2) #[(.int .i64 0), (.int .i64 0), .slice none 0 0] by rw [e1]; (repeat (first | ((with_reducible refine Blk.at_ ?_); focus (first | rfl | (simp; done) | (simp; omega))) | (with_reducible refine Blk.alloc ?_ _) | (with_reducible refine Blk.below ?_ (by with_reducible assumption)) | (with_reducible refine Blk.drew ?_))))
  have HB1 := Lib.hid hb1
  have HU1 := Lib.hid (KG.st _ _ _ _ _ _ _ _ _ _ HU.out hb1)
  have HV1 := Lib.hid (KT.st _ _ _ _ _ _ _ HVV.out hb1)
  have G1 := Lib.hid (HGG.out.below hb1)
  clear e1 hb1 HU HVV HGG
  go_loopw [8, 9] (fun b i wr => ∃ k : Nat, k ≤ L ∧ i = (.int .i64 ((k : Int))) ∧ b = (.int .i64 ((BF k : Int))) ∧ Below w1.heap.size w1 wr) (fun _ i _ => L - (intOf i).toNat)
  case atStart => exact ⟨0, Nat.zero_le _, rfl, by rw [HB0.out]; rfl, by (repeat (first | (with_reducible exact Below.refl _ _) | ((with_reducible refine Below.setCell ?_ ?_ _); rotate_left 1; focus (first | (simp; done) | (simp; omega) | (simp at *; omega))) | ((with_reducible refine Below.alloc ?_ ?_ _); rotate_left 1; focus (first | (simp; done) | (simp; omega) | (simp at *; omega))) | (with_reducible refine Below.drew ?_) | ((with_reducible refine Calm.step (by assumption) ?_ ?_); rotate_left 1; focus (first | (simp; done) | (simp; omega) | (simp at *; omega)))))⟩
  case round =>
    obtain ⟨k, hk, rfl, rfl, hbr⟩ := hrel
    have HBr := Lib.hid hbr
    have bgr := Lib.hid (bg.out.below hbr)
    have bsr := Lib.hid (bs.out.below hbr)
    have HUr := Lib.hid (KG.st _ _ _ _ _ _ _ _ _ _ HU1.out hbr)
    have HVr := Lib.hid (KT.st _ _ _ _ _ _ _ HV1.out hbr)
    obtain ⟨g0, g1, g2, g3, g4, gl, -⟩ := bgr.out.o5
    obtain ⟨s0, s1, s2, sl, -⟩ := bsr.out.o3
    have hbl := HBL.out k
    clear hbr
    by_cases hlt : k < L
    · have hstep := HBF.out k
      obtain ⟨pb, hpb⟩ : ∃ pb, pb = PF k := ⟨_, rfl⟩
      have HPK : Hid (∀ {u v : Value} (W : World), KG lk ht rc M ts L gs u W → KT h (lv : Int) N ps v W → Calls Tryd.prog 84 #[u, v, (.int .i64 x), (.int .i64 ((k : Int)))] W (KP (KV (.bool pb)) W)) := Lib.hid (fun W q1 q2 => by rw [hpb]; exact HPM.out k W hlt q1 q2)
      rw [← hpb] at hstep
      clear hpb
      cases pb
      · go_wp2_with (go_at_call 84; refine (HPK.out _ HUr.out HVr.out).mono ?_; rintro r w2 ⟨v2, rfl, hk2, hb2⟩; obtain rfl := hk2; have HB2 := Lib.hid (HBr.out.trans (hb2.mono HBr.out.size)); clear hb2)
        go_roundw
        case rel => exact ⟨k + 1, by omega, by go_num, by rw [hstep]; rfl, HB2.out⟩
        case measure => simp [intOf]; omega
      · go_wp2_with (go_at_call 84; refine (HPK.out _ HUr.out HVr.out).mono ?_; rintro r w2 ⟨v2, rfl, hk2, hb2⟩; obtain rfl := hk2; have HB2 := Lib.hid (HBr.out.trans (hb2.mono HBr.out.size)); clear hb2)
        go_roundw
        case rel => exact ⟨k + 1, by omega, by go_num, by rw [hstep]; rfl, HB2.out⟩
        case measure => simp [intOf]; omega
    · obtain rfl : k = L := by omega
      rw [HBV.out] at hbl ⊢
      have hVk : V < k := by omega
      obtain ⟨b, o, hA, hbl2, hcell⟩ := (G1.out.below HBr.out) (by rw [← HL.out]; omega)
      subst hA
      have hck := hcell V (by rw [← HL.out]; exact hVk)
      rw [← HGV.out] at hck
      clear hcell
      go_wp2_with (first
        | (go_at_call 85; refine (HBY.out _).mono ?_; rintro r w2 ⟨rfl, rfl⟩)
        | (go_at_call 36; refine (HBH.out _ HUr.out HVr.out).mono ?_; rintro r w3 ⟨v3, rfl, ⟨_, _, rfl, ⟨B3, d3, rfl, hc3, hi3, hf3⟩, rfl⟩, hb3⟩; refine Hid.out ?_))
      have HB3 := Lib.hid (HBr.out.trans (hb3.mono HBr.out.size))
      have br3 := Lib.hid (br.out.below HB3.out)
      have HC3 := Lib.hid hc3
      have HI3 := Lib.hid hi3
      have HF3 := Lib.hid hf3
      have hz3 := hb3.size
      have hzr := HBr.out.size
      have hz1 := br.out.lt
      clear hc3 hi3 hf3 hb3 g0 g1 g2 g3 g4 gl s0 s1 s2 sl hck
      unfold Hid
      obtain ⟨r0, r1, r2, rl, -⟩ := br3.out.o3
      go_wp2
      refine name_world ?_
      intro w4 e4
      have hb4 : Below w3.heap.size w3 w4 := by rw [e4]; exact (Below.refl _ _).alloc (Nat.le_refl _) _
      have bn4 := Lib.hid (show Blk w4 w3.heap.size #[(.int .i64 H1), (.int .i64 ((V : Int))), .slice B3 N d3] by rw [e4]; exact Calm.Blk.new _ _ _)
      have br4 := Lib.hid (br3.out.below hb4)
      have HB4 := Lib.hid (HB3.out.trans (hb4.mono HB3.out.size))
      have HC4 := Lib.hid (HC3.out.below hb4)
      have HI4 := Lib.hid (fun p hp => (HI3.out p hp).below hb4)
      have hz4 := hb4.size
      clear e4 hb4 r0 r1 r2 rl
      obtain ⟨n0, n1, n2, nl, -⟩ := bn4.out.o3
      refine Calm.tail_below 3 (by kernel_rfl) (by kernel_rfl) ?_
      simp only [List.take_succ_cons, List.take_zero, List.drop_succ_cons, List.drop_zero]
      repeat (first | (apply Calm.op_move; (focus rfl); (focus (first | exact .inl rfl | exact .inr rfl)); (focus ((try simp only [Act.eval, Array.getD_eq_getD_getElem?, List.getElem?_toArray, List.getElem?_cons_succ, List.getElem?_cons_zero, Option.getD_some]); rfl)); (try simp only [Act.put, List.setIfInBounds_toArray, List.set_cons_zero, List.set_cons_succ])) | (apply Calm.op_not; (focus rfl); (try simp only [Act.put, List.setIfInBounds_toArray, List.set_cons_zero, List.set_cons_succ])) | (apply Calm.op; (focus rfl); (focus (intro W hb; obtain ⟨hc, hf⟩ := bcell hb; clear hb hf; go_simp; (try go_bits); (try rfl); done)); (try simp only [Act.put, List.setIfInBounds_toArray, List.set_cons_zero, List.set_cons_succ])))
      refine wpQuiet_nil ?_
      intro w5 hb5
      obtain ⟨hb5c, hb5f⟩ := bcell hb5
      have hb5z := hb5.size
      (try simp at hb5z)
      (try have hb5z0 : w.heap.size < w5.heap.size := by omega)
      (try have hb5z1 : w.heap.size + 1 < w5.heap.size := by omega)
      (try have hb5z2 : w.heap.size + 1 + 1 < w5.heap.size := by omega)
      (try have hb5z3 : w.heap.size + 1 + 1 + 1 < w5.heap.size := by omega)
      (try have hb5z4 : w.heap.size + 1 + 1 + 1 + 1 < w5.heap.size := by omega)
      (try have hb5z5 : w.heap.size + 1 + 1 + 1 + 1 + 1 < w5.heap.size := by omega)
      have br5 := Lib.hid (br4.out.below hb5)
      have HB5 := Lib.hid (HB4.out.trans (hb5.mono HB4.out.size))
      have HC5 := Lib.hid (HC4.out.below hb5)
      have HI5 := Lib.hid (fun p hp => (HI4.out p hp).below hb5)
      have hw := HB1.out.size
      clear n0 n1 n2 nl
      obtain ⟨r0, r1, r2, rl, rf⟩ := br5.out.o3
      go_wp2
      have KR := br5.out.set3 (.int .i64 H1) (.int .i64 ((V : Int))) (.slice B3 N d3)
      obtain ⟨y0, y1, y2, yl, yf⟩ := KR.o3
      have q : ∀ p, B3 = some p → p.block ≠ w.heap.size + 2 ∧ w.heap.size ≤ p.block := fun p hp => by have h1 : wr.heap.size ≤ p.block := HF3.out p hp; omega
      have HBz := HB1.out.trans (HB5.out.mono hw)
      clear r0 r1 r2 rl rf KR
      exact bodyPost_ret (v := .tuple #[(.int .i64 Y), .agg #[(.int .i64 H1), (.int .i64 ((V : Int))), .slice B3 N d3]]) (by simp [results, Tryd.results37, go_sem, y0, y1, y2]) rfl
        ⟨_, rfl, ⟨_, _, rfl, rfl, ⟨_, _, rfl, ((HC5.out.sets (fun _ p hp => (q p hp).1) 0 _).sets (fun _ p hp => (q p hp).1) 1 _).sets (fun _ p hp => (q p hp).1) 2 _, fun p hp => (((HI5.out p hp).sets (q p hp).1 0 _).sets (q p hp).1 1 _).sets (q p hp).1 2 _, fun p hp => (q p hp).2⟩⟩, ((HBz.setCell (by simp; omega) _).setCell (by simp; omega) _).setCell (by simp; omega) _⟩
theorem rStep_N {lk ht rc h x : Int} {lv : Nat} {ts gs ps : List Int} {M L N : Nat} {u v : Value} {W : World} (hV : Valid lk ht rc ts gs) (hh : 0 ≤ h ∧ h ≤ 549755813888) (hlv : lv ≤ 1000) (hM : M = ts.length) (hL : L = gs.length) (hN : N = ps.length) (hMN : M = N + 1) (hpb : inB 2048 ps) (hx : -2048 ≤ x ∧ x ≤ 2048) (hu : KG lk ht rc M ts L gs u W) (hv : KT h (lv : Int) N ps v W) :
    Calls Tryd.prog 37 #[u, v, (.int .i64 x)] W (KP (K2 (KV (.int .i64 (outF lk ht rc ts gs ⟨h, lv, ps⟩ x))) (KTN W.heap.size (stF lk ht rc ts gs ⟨h, lv, ps⟩ x).h ((stF lk ht rc ts gs ⟨h, lv, ps⟩ x).lv : Int) N (stF lk ht rc ts gs ⟨h, lv, ps⟩ x).ps)) W) := by
  obtain ⟨A1, c1, A2, c2, rfl, hT, hG⟩ := hu
  obtain ⟨A3, c3, rfl, hP⟩ := hv
  exact rStep_walk hV hh hlv hM hL hN hMN hpb hx hT hG hP
end Go.Proofs.YtdeapbihbhoefaaDoor

/- Steps of drawn regions whose side conditions are found by themselves. -/
namespace Go.Proofs.YtdeapbihbhoefaaDoor
open Go.RowKit
open Calm (bcell Blk)
namespace Rel
section
variable {P : Program} {DS : List Tmp} {w0 : World} {a0 : Act} {T : Ctx → Prop} {Γ : Ctx} {o : Oper} {rest : List Oper}
theorem opz {v : Value} (hg : GOK3 Γ o := by (first | exact Rel.gno rfl | exact Rel.gyes _ true _ rfl rfl rfl | exact Rel.gyes _ false _ rfl rfl rfl)) (h : (∀ (a : Act) (W : World), Below w0.heap.size w0 W → deps Γ a W (ons o) → (∀ t, t ∉ DS → a.eval (.tmp t) = a0.eval (.tmp t)) → (execOp a.eval o).run P W = .ok (.value v) W) := by intro a W hb hd hbase; obtain ⟨hc, hf⟩ := bcell hb; clear hb hf; simp [Rel.deps, Rel.dep1, Rel.ons, Region.binds, Act.eval, KV] at hd; simp only [Act.eval, List.mem_cons, List.not_mem_nil, not_or, and_imp, or_false, Array.getD_eq_getD_getElem?] at hbase; go_simp; (try go_bits); (try rfl); done)
    (hn : walk3 P DS w0 a0 T (Γ ++ [(o.dst, fun u _ => u = v)]) rest) : walk3 P DS w0 a0 T Γ (o :: rest) := op3 v hg h hn
end
end Rel
namespace RelH
open Rel (ons)
section
variable {S : World → World → Prop} {P : Program} {DS : List Tmp} {w0 : World} {a0 : Act} {T : Ctx → Prop} {Γ : Ctx} {o : Oper} {rest : List Oper}
theorem opz (hr : ∀ W, S W W) {v : Value} (hg : GOK3 Γ o := by (first | exact RelH.gno rfl | exact RelH.gyes _ true _ rfl rfl rfl | exact RelH.gyes _ false _ rfl rfl rfl)) (h : (∀ (a : Act) (W : World) (x : Nat → Value), S w0 W → deps x Γ a W (ons o) → (∀ t, t ∉ DS → a.eval (.tmp t) = a0.eval (.tmp t)) → (execOp a.eval o).run P W = .ok (.value v) W) := by intro a W x hS hd hbase; have hb := hS.below (Nat.le_refl _); clear hS; obtain ⟨hc, hf⟩ := bcell hb; clear hb hf; simp [RelH.deps, RelH.dep1, Rel.ons, Region.binds, Act.eval, KV] at hd; simp only [Act.eval, List.mem_cons, List.not_mem_nil, not_or, and_imp, or_false, Array.getD_eq_getD_getElem?] at hbase; go_simp; (try go_bits); (try rfl); done)
    (hn : walk3 S P DS w0 a0 T (Γ ++ [(o.dst, fun _ u _ => u = v)]) rest) : walk3 S P DS w0 a0 T Γ (o :: rest) := op3 hr v hg h hn
end
end RelH
/-- nothing old turns, as can be seen. -/
theorem bel {b : Nat} {W W' : World} (h : Below b W W' := by (repeat (first | (with_reducible exact Below.refl _ _) | ((with_reducible refine Below.setCell ?_ ?_ _); rotate_left 1; (focus (first | (simp; done) | (simp; omega) | (simp at *; omega)))) | ((with_reducible refine Below.alloc ?_ ?_ _); rotate_left 1; (focus (first | (simp; done) | (simp; omega) | (simp at *; omega))))))) : Below b W W' := h
end Go.Proofs.YtdeapbihbhoefaaDoor

/- append(l, x) onto a row of one's own: where the result lies. The result of Step in a drawn region, told with its place. -/
namespace Go.Proofs.YtdeapbihbhoefaaDoor
open Go.RowKit
open Calm (bcell Blk)
theorem wpList_app1 {w : World} {ops : Array Oper} {rest : List Oper} {o : Oper} {a : Act} {Q : Exit → Act → World → Prop} (hgd : o.guard = none) (s x : Operand)
    (ho : o.op = .call { callee := .builtin .append, args := #[s, x], argTypes := #[22, 22] }) (base : Nat) (u : Value) (n : Nat) (xs : List Value) (hs : a.eval s = u) (hown : w.ownsRow base 3 1 u n xs) (b c : Nat) (z : Int)
    (hx : a.eval x = .slice (some ⟨b, 0, none⟩) 1 c) (hc : w.cell? ⟨b, 0, none⟩ = some (.int .i64 z)) (h5 : n ≤ 100000) (hb : base ≤ w.heap.size)
    (h : ∀ v' w', w'.ownsRow base 3 1 v' (n + 1) (xs ++ [(.int .i64 z)]) → w.grownBy w' u.ownBlock → (v'.ownBlock = u.ownBlock ∨ v'.ownBlock = some w.heap.size) → wpList Tryd.prog ops Q rest (a.put o.dst v') w') : wpList Tryd.prog ops Q (o :: rest) a w := by
  obtain ⟨i0, hi, hz0, hz1, hz2⟩ := info_parts Tryd.infoI
  refine wpList_plain hgd fun K hK => ?_
  obtain ⟨v', w', hrun, r2, r3, _, r5⟩ := run_append_own_at (P := Tryd.prog) w base 22 o.type 3 i0 _ 1 8 Tryd.underlying22 hi hz0 hz1 hz2 rfl (by decide) u n xs hown ⟨b, 0, none⟩ 1 c [(.int .i64 z)] rfl
    (by intro j v hj; match j, hj with | 0, hj => simp at hj; subst hj; simpa [Addr.add] using hc) (by intro v hv; simp at hv; subst hv; rfl) (by unfold maxLen; omega) (by omega) hb
  unfold Oper.wp
  simp [execOp, ho, resolve, invoke, builtin, hs, hx, hrun, Result.andThen]
  exact hK _ _ (h v' w' r2 r3 r5)
theorem KTN.mono {b b' : Nat} {h lv : Int} {n : Nat} {l : List Int} {u : Value} {W : World} (q : KTN b h lv n l u W) (hb : b' ≤ b) : KTN b' h lv n l u W := by
  obtain ⟨B, c, h1, h2, h3, h4⟩ := q
  exact ⟨B, c, h1, h2, h3, fun p hp => Nat.le_trans hb (h4 p hp)⟩
namespace RelH
open Rel (ons)
section
variable {DS : List Tmp} {w0 : World} {a0 : Act} {T : Ctx → Prop} {Γ : Ctx} {o : Oper} {rest : List Oper}
theorem storeHN {b : Nat} {h lv : Int} {n : Nat} {l : List Int} (p v : Tmp) (jp jv : Nat) (hop : o.op = .store 26 (.tmp p) (.tmp v)) (hp : (ons o).contains jp = true) (hv : (ons o).contains jv = true)
    (hΓp : Γ[jp]? = some (some p, NewY 26 3 w0.heap.size)) (hΓv : Γ[jv]? = some (some v, fun _ => KTN b h lv n l)) (hg : GOK3 Γ o)
    (hn : walk3 (Sty 26 (KTN b h lv n l) w0.heap.size) Tryd.prog DS w0 a0 T (Γ ++ [(o.dst, DoneY 26 (KTN b h lv n l) jp w0.heap.size)]) rest) : walk3 (Sty 26 (KTN b h lv n l) w0.heap.size) Tryd.prog DS w0 a0 T Γ (o :: rest) :=
  ⟨_, DoneY.st (KTN.ik b h lv n l), fun x y he v W ⟨g, h1, h2⟩ => ⟨g, by
      obtain ⟨e, he1, rfl⟩ := List.mem_map.1 (show jp ∈ ons o by simpa using hp)
      obtain ⟨he2, he3⟩ := List.mem_filter.1 he1
      rw [← he e (by simpa using he2) he3]
      exact h1, h2⟩, hg, fun a W x hb hd hbase K Q hK => by
    obtain ⟨e1, g, h1, h2, cs, h3, h4⟩ := dep_at hd jp hp hΓp
    obtain ⟨B, c, h5, h6, h7, h8⟩ := dep_k hd jv hv hΓv
    obtain ⟨cl⟩ := cs
    match cl, h4 with
    | [u0, u1, u2], _ =>
    have hrun := run_storeR h3 hop h1 h5
    have hne : ∀ p, B = some p → p.block ≠ g := fun p hp => (h7 p hp).ne h3 (by decide)
    have hg' := set3_heap (.int .i64 h) (.int .i64 lv) (.slice B n c) h3
    have hkt : KTN b h lv n l (.agg #[(.int .i64 h), (.int .i64 lv), .slice B n c]) (((W.setCell ⟨g, 0, none⟩ (.int .i64 h)).setCell ⟨g, 1, none⟩ (.int .i64 lv)).setCell ⟨g, 2, none⟩ (.slice B n c)) :=
      ⟨B, c, rfl, ((h6.sets (fun _ => hne) 0 _).sets (fun _ => hne) 1 _).sets (fun _ => hne) 2 _, fun p hp => (((h7 p hp).sets (hne p hp) 0 _).sets (hne p hp) 1 _).sets (hne p hp) 2 _, h8⟩
    unfold Oper.wp
    rw [hrun]
    refine hK undef _ ⟨g, e1.trans h1, h2, _, hg', hkt⟩ ⟨rfl, rfl, rfl, by simp [World.setCell], by decide, fun k hk => ?_⟩
    rcases Nat.decEq k g with hkg | rfl
    · exact .inl (by rw [Below.heap_setCell _ _ _ _ hkg, Below.heap_setCell _ _ _ _ hkg, Below.heap_setCell _ _ _ _ hkg])
    · exact .inr ⟨h2, ⟨_, h3⟩, _, hg', hkt⟩, hn⟩
end
end RelH
end Go.Proofs.YtdeapbihbhoefaaDoor

/- The reference's Release. -/
namespace Go.Proofs.YtdeapbihbhoefaaDoor
open Go.RowKit
open Calm (bcell Blk)

end Go.Proofs.YtdeapbihbhoefaaDoor

/- Contracts of the program and of the reference as the cases of ProtectStates want them. -/
namespace Go.Proofs.YtdeapbihbhoefaaDoor
open Go.RowKit
open Calm (bcell Blk)
theorem IsTy.far {W : World} {g : Nat} {t : TypeId} {p : Addr} (h : IsTy W g t) (hp : p.block ≠ g) (v : Value) : IsTy (W.setCell p v) g t := by
  obtain ⟨cs, h⟩ := h
  exact ⟨cs, (Below.heap_setCell _ _ _ _ (Ne.symm hp)).trans h⟩
theorem xFirst2_K {a b : Int} {g : Nat} {W : World} (h : W.heap[g]? = some (.cells #[(.int .i64 a), (.int .i64 b)] 3 (0, 0))) : Calls Tryd.prog 31 #[.slice (some ⟨g, 0, none⟩) 2 2] W (KP (KV (.int .i64 (firstOf [a, b]))) W) :=
  (qFirst_any [a, b] _ 2 W (by simp) (Cells.row h)).mono fun e W' ⟨k1, k2⟩ => ⟨_, k1, rfl, k2 ▸ Below.refl _ _⟩
section
variable {lk ht rc h lv x : Int} {ts gs l : List Int} {M L n : Nat} {a y : Value} {W : World} (hM : M = ts.length) (hL : L = gs.length) (hn : n = l.length) (h1 : M ≤ 1000) (h2 : L ≤ 1000) (h3 : n ≤ 1000) (hLim : Lim W) (hu : KG lk ht rc M ts L gs a W) (hv : KT h lv n l y W)
include hM hL hn h1 h2 h3 hLim hu hv
end
end Go.Proofs.YtdeapbihbhoefaaDoor

/- The reference's Peaks. -/
namespace Go.Proofs.YtdeapbihbhoefaaDoor
open Go.RowKit
open Calm (bcell Blk)
set_option maxRecDepth 100000 in
set_option maxHeartbeats 8000000 in
theorem rPeaks_walk {lk ht rc : Int} {ts gs xs : List Int} {M L N Q : Nat} {A1 A2 A3 : Option Addr} {c1 c2 c3 : Nat} {w : World} (hV : Valid lk ht rc ts gs) (hM : M = ts.length) (hL : L = gs.length) (hN : N = xs.length) (hQ : Q = M - 1) (h5 : N ≤ 5000) (hx : inB 2048 xs)
    (hT : Cells w A1 ts) (hG : Cells w A2 gs) (hP : Cells w A3 xs) :
    Calls Tryd.prog 47 #[.agg #[(.int .i64 lk), (.int .i64 ht), .slice A1 M c1, (.int .i64 rc), .slice A2 L c2], .slice A3 N c3] w (KP (KV (.agg #[(.int .i64 (pkH lk xs N)), (.int .i64 (pkX ts xs N))])) w) := by
  have HU := Lib.hid (show KG lk ht rc M ts L gs (.agg #[(.int .i64 lk), (.int .i64 ht), .slice A1 M c1, (.int .i64 rc), .slice A2 L c2]) w from ⟨_, _, _, _, rfl, hT, hG⟩)
  have HX := Lib.hid (show KS N xs (.slice A3 N c3) w from ⟨_, _, rfl, hP⟩)
  have htl := hV.tl
  have hgl := hV.gl
  have HBH : Hid (∀ {u v : Value} (k b : Nat) (W : World), k < N → b ≤ W.heap.size → KG lk ht rc M ts L gs u W → KT (bhAt lk xs k) ((L - 1 : Nat) : Int) Q (bpAt Q xs k) v W → Calls Tryd.prog 36 #[u, v, (.int .i64 (xs.getD k 0))] W (KP (K2 (KTN b (bhAt lk xs (k + 1)) ((L - 1 : Nat) : Int) Q (bpAt Q xs (k + 1))) (KV (.int .i64 (exAt ts xs k)))) W)) := Lib.hid (fun k b W hk hb q1 q2 => by
    have g := bhAt_bd (lk := lk) hx k
    have e : exAt ts xs k = exF ts (bpAt Q xs k) (xs.getD k 0) := by rw [hQ, hM]; rfl
    rw [e]
    exact (rBehind_N hV.lk ⟨g.1, by omega⟩ hM (bpAt_len _ _ _).symm (by omega) (by omega) hV.tb (bpAt_in hx k) (inB_get hx (by omega) k) q1 q2).mono fun e W' ⟨v, k1, ⟨u1, u2, k2, k3, k4⟩, k5⟩ => ⟨v, k1, ⟨u1, u2, k2, k3.mono hb, k4⟩, k5⟩)
  have HEX : Hid (∀ k : Nat, -4611686018427387904 ≤ exAt ts xs k ∧ exAt ts xs k ≤ 4611686018427387904) := Lib.hid (fun k => by have := exAt_bd hV.tb hx htl.2 k; omega)
  have HBE : Hid (∀ {u : Value} (W : World), KG lk ht rc M ts L gs u W → Calls Tryd.prog 19 #[u] W (KP (KTI 0 ((L - 1 : Nat) : Int) Q (List.replicate Q 0)) W)) := Lib.hid (fun W q => by rw [hQ]; exact rBegin_K (by omega) (by omega) q)
  have HN := Lib.hid hN
  have hN5 : N ≤ 5000 := h5
  clear hT hG hP hV hM hL hN hQ htl hgl hx
  go_enter Tryd.func47, Tryd.ntmps47
  have HB0 := Lib.hid (Below.refl w.heap.size w)
  go_wp2_with (go_at_call 19; refine name_calls ?_; intro w1 e1; refine Hid.out ?_)
  unfold Hid
  have h1 : Below w.heap.size w w1 := by rw [e1]; exact bel
  have HB1 := Lib.hid (HB0.out.trans (h1.mono HB0.out.size))
  have bg_1 := Lib.hid (show Blk w1 w.heap.size #[(.int .i64 lk), (.int .i64 ht), .slice A1 M c1, (.int .i64 rc), .slice A2 L c2] from by rw [e1]; (repeat (first | ((with_reducible refine Blk.at_ ?_); focus (first | rfl | (simp; done) | (simp; omega))) | (with_reducible refine Blk.alloc ?_ _) | (with_reducible refine Blk.below ?_ (by with_reducible assumption)) | (with_reducible refine Blk.drew ?_))))
  have b4_1 := Lib.hid (show Blk w1 (w.heap.size + 1) #[(.int .i64 0), (.int .i64 0)] from by rw [e1]; (repeat (first | ((with_reducible refine Blk.at_ ?_); focus (first | rfl | (simp; done) | (simp; omega))) | (with_reducible refine Blk.alloc ?_ _) | (with_reducible refine Blk.below ?_ (by with_reducible assumption)) | (with_reducible refine Blk.drew ?_))))
  clear e1 h1
  refine (HBE.out _ (KG.st _ _ _ _ _ _ _ _ _ _ HU.out HB1.out)).mono ?_
  rintro r w2 ⟨v2, rfl, ⟨SB, SD, rfl, hSc, hSi⟩, h2⟩
  have bg_2 := Lib.hid (bg_1.out.below h2)
  have b4_2 := Lib.hid (b4_1.out.below h2)
  have HB2 := Lib.hid (HB1.out.trans (h2.mono HB1.out.size))
  have HS0 := Lib.hid (show KTI 0 ((L - 1 : Nat) : Int) Q (List.replicate Q 0) (.agg #[(.int .i64 0), (.int .i64 (((L - 1 : Nat) : Int))), .slice SB Q SD]) w2 from ⟨_, _, rfl, hSc, hSi⟩)
  clear hSc hSi h2
  obtain ⟨gs7, hg7⟩ : ∃ gs7, gs7 = w2.heap.size := ⟨_, rfl⟩
  go_wp2
  refine name_world ?_
  intro w3 e3
  have h3 : Below w2.heap.size w2 w3 := by rw [e3]; exact bel
  have bg_3 := Lib.hid (bg_2.out.below h3)
  have b4_3 := Lib.hid (b4_2.out.below h3)
  have HB3 := Lib.hid (HB2.out.trans (h3.mono HB2.out.size))
  have b5_3 := Lib.hid (show Blk w3 gs7 #[(.int .i64 0), (.int .i64 (((L - 1 : Nat) : Int))), .slice SB Q SD] from by rw [e3, hg7]; exact (Calm.Blk.new _ _ _).alloc _)
  have b6_3 := Lib.hid (show Blk w3 (gs7 + 1) #[(.int .i64 0), (.int .i64 0)] from by rw [e3, hg7]; exact Calm.Blk.at_ (by simp))
  have ty5 := Lib.hid (show IsTy w3 gs7 26 from by rw [e3, hg7]; exact IsTy.new.old)
  have hzs : gs7 + 2 ≤ w3.heap.size := by rw [e3, hg7]; simp
  have HS1 := Lib.hid (KTI.st _ _ _ _ _ _ _ HS0.out h3)
  have hg6 : w.heap.size + 1 < gs7 := by rw [hg7]; exact b4_2.out.lt
  have hS7 : ∀ p, SB = some p → 0 < Q → p.block ≠ gs7 ∧ p.block ≠ gs7 + 1 := fun p hp h0 => by
    obtain ⟨_, _, ee, hcc, _⟩ := HS0.out
    cases ee
    obtain ⟨b, o, e2, hl, _⟩ := hcc (by simpa using h0)
    rw [hp] at e2
    cases e2
    rw [hg7]
    exact ⟨Nat.ne_of_lt hl, Nat.ne_of_lt (Nat.lt_succ_of_lt hl)⟩
  clear e3 h3
  rw [← hg7]
  clear hg7
  go_loopw [7] (fun i wr => ∃ (k : Nat) (B : Option Addr) (c : Nat), k ≤ N ∧ i = (.int .i64 ((k : Int))) ∧ Blk wr w.heap.size #[(.int .i64 lk), (.int .i64 ht), .slice A1 M c1, (.int .i64 rc), .slice A2 L c2] ∧ Blk wr (w.heap.size + 1) #[(.int .i64 0), (.int .i64 0)] ∧ Blk wr gs7 #[(.int .i64 (bhAt lk xs k)), (.int .i64 (((L - 1 : Nat) : Int))), .slice B Q c] ∧ Blk wr (gs7 + 1) #[(.int .i64 (pkH lk xs k)), (.int .i64 (pkX ts xs k))] ∧ Cells wr B (bpAt Q xs k) ∧ (∀ p, B = some p → 0 < Q → p.block ≠ gs7 ∧ p.block ≠ gs7 + 1) ∧ IsTy wr gs7 26 ∧ Below w.heap.size w wr ∧ gs7 + 2 ≤ wr.heap.size) (fun i _ => N - (intOf i).toNat)
  case atStart => exact ⟨0, SB, SD, Nat.zero_le _, rfl, bg_3.out, b4_3.out, b5_3.out, b6_3.out, (by obtain ⟨_, _, ee, hcc, _⟩ := HS1.out; cases ee; exact hcc), hS7, ty5.out, HB3.out, hzs⟩
  case round =>
    obtain ⟨k, B, c, hk, rfl, kg, k4, ks, kp, kc, kne, kt, kb, kz⟩ := hrel
    have KGB := Lib.hid kg
    have K4B := Lib.hid k4
    have KSB := Lib.hid ks
    have KPB := Lib.hid kp
    have KC := Lib.hid kc
    have KNE := Lib.hid kne
    have KTY := Lib.hid kt
    have KB := Lib.hid kb
    obtain ⟨g0, g1, g2, g3, g4, gl, -⟩ := kg.o5
    obtain ⟨s0, s1, s2, sl, -⟩ := ks.o3
    clear kg k4 ks kp kc kne kt kb
    by_cases hlt : k < N
    · have HUW := Lib.hid (KG.st _ _ _ _ _ _ _ _ _ _ HU.out KB.out)
      have HXW := Lib.hid (KS.st _ _ _ _ _ HX.out KB.out)
      obtain ⟨_, _, ee, hxc⟩ := HXW.out
      cases ee
      obtain ⟨bx, ox, hAx, hxl, hxcell⟩ := hxc (by rw [← HN.out]; omega)
      subst hAx
      have hck := hxcell k (by rw [← HN.out]; exact hlt)
      clear hxc hxcell
      obtain ⟨X, hX⟩ : ∃ X, X = exAt ts xs k := ⟨_, rfl⟩
      obtain ⟨H1, hH1⟩ : ∃ H1, H1 = bhAt lk xs (k + 1) := ⟨_, rfl⟩
      obtain ⟨P1, hP1⟩ : ∃ P1, P1 = bpAt Q xs (k + 1) := ⟨_, rfl⟩
      obtain ⟨x, hx⟩ : ∃ x, x = xs.getD k 0 := ⟨_, rfl⟩
      obtain ⟨h0, hh0⟩ : ∃ h0, h0 = bhAt lk xs k := ⟨_, rfl⟩
      obtain ⟨p0, hp0⟩ : ∃ p0, p0 = bpAt Q xs k := ⟨_, rfl⟩
      obtain ⟨q1, hq1⟩ : ∃ q1, q1 = pkH lk xs k := ⟨_, rfl⟩
      obtain ⟨q2, hq2⟩ : ∃ q2, q2 = pkX ts xs k := ⟨_, rfl⟩
      have HBHK : Hid (∀ {u v : Value} (W : World), wr.heap.size ≤ W.heap.size → KG lk ht rc M ts L gs u W → KT h0 ((L - 1 : Nat) : Int) Q p0 v W → Calls Tryd.prog 36 #[u, v, (.int .i64 x)] W (KP (K2 (KTN wr.heap.size H1 ((L - 1 : Nat) : Int) Q P1) (KV (.int .i64 X))) W)) := Lib.hid (fun W hb q1 q2 => by rw [hX, hH1, hP1, hx]; exact HBH.out k _ W hlt hb q1 (by rw [← hh0, ← hp0]; exact q2))
      have HXB := Lib.hid (HEX.out k)
      rw [← hX] at HXB
      obtain ⟨ax, hax⟩ : ∃ ax, ax = absI X := ⟨_, rfl⟩
      have HABS : Hid (∀ W : World, Calls Tryd.prog 82 #[(.int .i64 X)] W (KP (KV (.int .i64 ax)) W)) := Lib.hid (fun W => by rw [hax]; exact (rAbs_any X W HXB.out).mono fun e W' ⟨k1, k2⟩ => ⟨_, k1, rfl, k2 ▸ Below.refl _ _⟩)
      have HPH := Lib.hid (show pkH lk xs (k + 1) = mx q1 H1 by rw [hq1, hH1]; rfl)
      have HPX := Lib.hid (show pkX ts xs (k + 1) = mx q2 ax by rw [hq2, hax, hX]; rfl)
      have HH1 := Lib.hid hH1
      have HP1 := Lib.hid hP1
      rw [← hx] at hck
      rw [← hh0] at s0
      have KC0 := Lib.hid (show Cells wr B p0 by rw [hp0]; exact KC.out)
      have KPB2 := Lib.hid (show Blk wr (gs7 + 1) #[(.int .i64 q1), (.int .i64 q2)] by rw [hq1, hq2]; exact KPB.out)
      clear hX hH1 hP1 hx hh0 hp0 hq1 hq2 hax
      have hkN : (k : Int) < (N : Int) := by omega
      go_wp2
      refine RelH.region3 (S := Sty 26 (KTN wr.heap.size H1 ((L - 1 : Nat) : Int) Q P1) wr.heap.size) (Sty.trans (KTN.ik _ _ _ _ _)) (Sty.drawn (by decide)) 12 (by kernel_rfl) (by kernel_rfl) (by kernel_rfl) ?_
      simp only [List.take_succ_cons, List.take_zero, List.drop_succ_cons, List.drop_zero, List.filterMap_cons, List.filterMap_nil]
      iterate 6 (refine RelH.opz (Sty.refl (by decide)) (hn := ?_); (try simp only [List.nil_append, List.cons_append]))
      refine RelH.callH (fun _ _ h => h.keep) (fun _ _ h => Sty.of (by decide) h) 36 (K2 (KTN wr.heap.size H1 ((L - 1 : Nat) : Int) Q P1) (KV (.int .i64 X))) ((K2.ik (KTN.ik _ _ _ _ _) (KV.ik _))) (RelH.gno rfl) ?_ ?_
      · intro a W x hS hd hbase
        have hb := hS.below (Nat.le_refl _)
        have q1 : a.eval (.tmp 19) = _ := (RelH.dep_k hd 0 rfl rfl)
        have q2 : a.eval (.tmp 20) = _ := (RelH.dep_k hd 1 rfl rfl)
        have q3 : a.eval (.tmp 24) = _ := (RelH.dep_k hd 5 rfl rfl)
        refine ⟨#[a.eval (.tmp 19), a.eval (.tmp 20), a.eval (.tmp 24)], ?_, by rw [q1, q2, q3]; exact HBHK.out _ hb.size (KG.st _ _ _ _ _ _ _ _ _ _ HUW.out hb) ⟨_, _, rfl, KC0.out.below hb⟩⟩
        clear hd hbase hb hS
        go_simp
        (first | done | rfl | (refine ⟨?_, ?_⟩ <;> rfl))
      (try simp only [List.nil_append, List.cons_append])
      refine RelH.mvH (Sty.refl (by decide)) (fun _ _ h => h.keep) 25 6 rfl rfl rfl ((K2.ik (KTN.ik _ _ _ _ _) (KV.ik _))) (RelH.gno rfl) ?_
      (try simp only [List.nil_append, List.cons_append])
      refine RelH.ext20H (Sty.refl (by decide)) (fun _ _ h => h.keep) 18 7 rfl rfl rfl ((KTN.ik _ _ _ _ _)) (RelH.gno rfl) ?_
      (try simp only [List.nil_append, List.cons_append])
      refine RelH.ext21H (Sty.refl (by decide)) (fun _ _ h => h.keep) 18 7 rfl rfl rfl ((KV.ik _)) (RelH.gno rfl) ?_
      (try simp only [List.nil_append, List.cons_append])
      (refine RelH.allocH (by decide) (n := 3) (fun cs W h => by obtain ⟨_, _, e, _⟩ := h; cases e; rfl) #[(.int .i64 0), (.int .i64 0), .slice none 0 0] rfl (RelH.gno rfl) (by intro a W; go_simp) ?_; (try simp only [List.nil_append, List.cons_append]))
      refine RelH.storeHN 8 26 10 8 rfl rfl rfl rfl rfl (RelH.gno rfl) ?_
      (try simp only [List.nil_append, List.cons_append])
      refine RelH.done3 ?_
      intro x w4 hS4 hx
      have h4 := hS4.below (Nat.le_refl _)
      clear hS4
      simp only [RelH.facts, Nat.zero_add, Nat.reduceAdd] at hx
      obtain ⟨e0, e1, e2, e3, e4, e5, _, _, _, e9, _, ⟨gb4, e10, hg4, cs4, hG4, B4, c4, ec4, hc4, hi4⟩, _⟩ := hx
      have e9 : x 9 = _ := e9
      cases ec4
      simp only [RelH.fill, Nat.zero_add, Nat.reduceAdd, e0, e1, e2, e3, e4, e5, e9, e10]
      simp only [Act.put, List.setIfInBounds_toArray, List.set_cons_zero, List.set_cons_succ]
      clear e0 e1 e2 e3 e4 e5 e9 e10
      have bg_4 := Lib.hid (KGB.out.below h4)
      have b4_4 := Lib.hid (K4B.out.below h4)
      have b5_4 := Lib.hid (KSB.out.below h4)
      have b6_4 := Lib.hid (KPB2.out.below h4)
      have HB4 := Lib.hid (KB.out.trans (h4.mono KB.out.size))
      have bn_4 := Lib.hid (show Blk w4 gb4 #[(.int .i64 H1), (.int .i64 (((L - 1 : Nat) : Int))), .slice B4 Q c4] from Calm.Blk.row hG4)
      have HCN := Lib.hid hc4
      have HFN := Lib.hid hi4.2
      have TY2 := Lib.hid (KTY.out.below h4)
      have hs2 := h4.size
      clear hc4 hi4 hG4 h4 g0 g1 g2 g3 g4 gl s0 s1 s2 sl
      obtain ⟨fb6_0, fb6_1, fb6_l, -⟩ := b6_4.out.o2
      obtain ⟨fbn_0, fbn_1, fbn_2, fbn_l, -⟩ := bn_4.out.o3
      have hmax := max2_any
      go_wp2
      refine Rel.region3 11 (by kernel_rfl) (by kernel_rfl) (by kernel_rfl) ?_
      simp only [List.take_succ_cons, List.take_zero, List.drop_succ_cons, List.drop_zero, List.filterMap_cons, List.filterMap_nil]
      iterate 8 (refine Rel.opz (hn := ?_); (try simp only [List.nil_append, List.cons_append]))
      refine Rel.callK 82 (KV (.int .i64 ax)) (KV.st _) (Rel.gno rfl) ?_ ?_
      · intro a W hb hd hbase
        have q1 : a.eval (.tmp 35) = _ := (Rel.dep_at hd 7 rfl rfl)
        refine ⟨#[a.eval (.tmp 35)], ?_, by rw [q1]; exact HABS.out _⟩
        clear hd hbase hb
        go_simp
        (first | done | rfl | (refine ⟨?_, ?_⟩ <;> rfl))
      (try simp only [List.nil_append, List.cons_append])
      iterate 2 (refine Rel.opz (hn := ?_); (try simp only [List.nil_append, List.cons_append]))
      refine Rel.done3 ?_
      intro x w5 h5 hx
      simp only [Rel.facts, Nat.zero_add, Nat.reduceAdd] at hx
      clear fb6_0 fb6_1 fb6_l
      clear fbn_0 fbn_1 fbn_2 fbn_l
      obtain ⟨e0, e1, e2, e3, e4, e5, e6, e7, e8, e9, e10, _⟩ := hx
      have e8 : x 8 = _ := e8
      simp only [Rel.fill, Nat.zero_add, Nat.reduceAdd, e0, e1, e2, e3, e4, e5, e6, e7, e8, e9, e10]
      simp only [Act.put, List.setIfInBounds_toArray, List.set_cons_zero, List.set_cons_succ]
      clear e0 e1 e2 e3 e4 e5 e6 e7 e8 e9 e10
      have bg_5 := Lib.hid (bg_4.out.below h5)
      have b4_5 := Lib.hid (b4_4.out.below h5)
      have b5_5 := Lib.hid (b5_4.out.below h5)
      have b6_5 := Lib.hid (b6_4.out.below h5)
      have bn_5 := Lib.hid (bn_4.out.below h5)
      have HB5 := Lib.hid (HB4.out.trans (h5.mono HB4.out.size))
      have HC7 := Lib.hid (HCN.out.below h5)
      have TY7 := Lib.hid (TY2.out.below h5)
      have hs7 := h5.size
      clear h5 hmax
      obtain ⟨n0, n1, n2, nl, -⟩ := bn_5.out.o3
      obtain ⟨s0, s1, s2, sl, sf⟩ := b5_5.out.o3
      obtain ⟨z0, z1, zl, zf⟩ := b6_5.out.o2
      have hg0 : gs7 + 2 ≤ gb4 := Nat.le_trans kz hg4
      go_wp2
      go_roundw
      case rel =>
        have q : ∀ p : Addr, B4 = some p → p.block ≠ gs7 ∧ p.block ≠ gs7 + 1 := fun p hp => by have h1 : wr.heap.size ≤ p.block := HFN.out p hp; omega
        refine ⟨k + 1, B4, c4, by omega, by go_num, ?_, ?_, ?_, ?_, ?_, fun p hp _ => q p hp, ?_, ?_, by simp; omega⟩
        · exact (((((bg_5.out.far (by show gs7 + 1 ≠ _; omega) _).far (by show gs7 + 1 ≠ _; omega) _).far (by show gs7 ≠ _; omega) _).far (by show gs7 ≠ _; omega) _).far (by show gs7 ≠ _; omega) _)
        · exact (((((b4_5.out.far (by show gs7 + 1 ≠ _; omega) _).far (by show gs7 + 1 ≠ _; omega) _).far (by show gs7 ≠ _; omega) _).far (by show gs7 ≠ _; omega) _).far (by show gs7 ≠ _; omega) _)
        · rw [← HH1.out]; exact ((b5_5.out.far (by show gs7 + 1 ≠ _; omega) _).far (by show gs7 + 1 ≠ _; omega) _).set3 (.int .i64 H1) (.int .i64 (((L - 1 : Nat) : Int))) (.slice B4 Q c4)
        · rw [HPH.out, HPX.out]; exact ((((b6_5.out.set (i := 0) (by simp) (.int .i64 (mx q1 H1))).set (i := 1) (by simp) (.int .i64 (mx q2 ax))).far (by show gs7 ≠ _; omega) _).far (by show gs7 ≠ _; omega) _).far (by show gs7 ≠ _; omega) _
        · rw [← HP1.out]; exact ((((HC7.out.sets (fun _ p hp => (q p hp).2) 0 _).sets (fun _ p hp => (q p hp).2) 1 _).sets (fun _ p hp => (q p hp).1) 0 _).sets (fun _ p hp => (q p hp).1) 1 _).sets (fun _ p hp => (q p hp).1) 2 _
        · exact (((((TY7.out.far (by show gs7 + 1 ≠ _; omega) _).far (by show gs7 + 1 ≠ _; omega) _).put 0 _).put 1 _).put 2 _)
        · exact (((((HB5.out.setCell (by simp; omega) _).setCell (by simp; omega) _).setCell (by simp; omega) _).setCell (by simp; omega) _).setCell (by simp; omega) _)
      case measure => simp [intOf]; omega
    · obtain rfl : k = N := by omega
      obtain ⟨z0, z1, zl, -⟩ := KPB.out.o2
      obtain ⟨y0, y1, yl, yf⟩ := K4B.out.o2
      go_wp2
      obtain ⟨k0, k1, -, -⟩ := ((K4B.out.set (i := 0) (by simp) (.int .i64 (pkH lk xs k))).set (i := 1) (by simp) (.int .i64 (pkX ts xs k))).o2
      refine bodyPost_ret (v := .agg #[(.int .i64 (pkH lk xs k)), (.int .i64 (pkX ts xs k))]) (by simp [results, Tryd.results47, go_sem, k0, k1]) rfl ⟨_, rfl, rfl, ?_⟩
      exact (KB.out.setCell (by simp) _).setCell (by simp) _
theorem rPeaks_K {lk ht rc : Int} {ts gs xs : List Int} {M L N : Nat} {u v : Value} {w : World} (hV : Valid lk ht rc ts gs) (hM : M = ts.length) (hL : L = gs.length) (hN : N = xs.length) (h5 : N ≤ 5000) (hx : inB 2048 xs) (hu : KG lk ht rc M ts L gs u w) (hv : KS N xs v w) :
    Calls Tryd.prog 47 #[u, v] w (KP (KV (.agg #[(.int .i64 (pkH lk xs N)), (.int .i64 (pkX ts xs N))])) w) := by
  obtain ⟨A1, c1, A2, c2, rfl, hT, hG⟩ := hu
  obtain ⟨A3, c3, rfl, hP⟩ := hv
  exact rPeaks_walk hV hM hL hN rfl h5 hx hT hG hP
end Go.Proofs.YtdeapbihbhoefaaDoor
