/- Part 23 of the texts of the claim: N8, N9, Opz, LStP, LSt_0, LSt_1. -/
import Derived.Test.YtdeapbihbhoefaaDoorSt22
import Derived.Test.YtdeapbihbhoefaaDoorSt13
import Derived.Test.YtdeapbihbhoefaaDoorSt17

/- The reference's Step. -/
namespace Go.Proofs.YtdeapbihbhoefaaDoor
open Go.RowKit
open Calm (bcell Blk)
theorem bestK_le (lk ht rc : Int) (ts gs : List Int) (s : St) (x : Int) : ∀ n, bestK lk ht rc ts gs s x n ≤ n - 1
  | 0 => Nat.le_refl _
  | n + 1 => by
    have := bestK_le lk ht rc ts gs s x n
    unfold bestK
    split <;> omega

set_option maxRecDepth 100000 in
set_option maxHeartbeats 4000000 in
theorem rStep_walk {lk ht rc h x : Int} {lv : Nat} {ts gs ps : List Int} {M L N : Nat} {A1 A2 A3 : Option Addr} {c1 c2 c3 : Nat} {w : World} (hV : Valid lk ht rc ts gs) (hh : 0 ≤ h ∧ h ≤ 549755813888) (hlv : lv ≤ 1000) (hM : M = ts.length) (hL : L = gs.length) (hN : N = ps.length) (hMN : M = N + 1) (hpb : inB 2048 ps) (hx : -2048 ≤ x ∧ x ≤ 2048)
    (hT : Cells w A1 ts) (hG : Cells w A2 gs) (hP : Cells w A3 ps) :
    Calls Tryd.prog 37 #[.agg #[(.int .i64 lk), (.int .i64 ht), .slice A1 M c1, (.int .i64 rc), .slice A2 L c2], .agg #[(.int .i64 h), (.int .i64 ((lv : Int))), .slice A3 N c3], (.int .i64 x)] w (KP (K2 (KV (.int .i64 (outF lk ht rc ts gs ⟨h, lv, ps⟩ x))) (KTN w.heap.size (stF lk ht rc ts gs ⟨h, lv, ps⟩ x).h ((stF lk ht rc ts gs ⟨h, lv, ps⟩ x).lv : Int) N (stF lk ht rc ts gs ⟨h, lv, ps⟩ x).ps)) w) := by
  have HU := Lib.hid (show KG lk ht rc M ts L gs (.agg #[(.int .i64 lk), (.int .i64 ht), .slice A1 M c1, (.int .i64 rc), .slice A2 L c2]) w from ⟨_, _, _, _, rfl, hT, hG⟩)
  have HVV := Lib.hid (show KT h (lv : Int) N ps (.agg #[(.int .i64 h), (.int .i64 ((lv : Int))), .slice A3 N c3]) w from ⟨_, _, rfl, hP⟩)
  have HGG := Lib.hid hG
  obtain ⟨BF, hBF⟩ : ∃ BF : Nat → Nat, BF = bestK lk ht rc ts gs ⟨h, lv, ps⟩ x := ⟨_, rfl⟩
  obtain ⟨PF, hPF⟩ : ∃ PF : Nat → Bool, PF = permB lk ht rc ts gs ⟨h, lv, ps⟩ x := ⟨_, rfl⟩
  have HPM : Hid (∀ {u v : Value} (i : Nat) (W : World), i < L → KG lk ht rc M ts L gs u W → KT h (lv : Int) N ps v W → Calls Tryd.prog 84 #[u, v, (.int .i64 x), (.int .i64 ((i : Int)))] W (KP (KV (.bool (PF i))) W)) := Lib.hid (fun i W hi q1 q2 => by rw [hPF]; exact rPerm_K hV hh hlv hM hL hN hMN hi hpb hx q1 q2)
  have HBF : Hid (∀ k, BF (k + 1) = if PF k then k else BF k) := Lib.hid (fun k => by rw [hBF, hPF]; rfl)
  have HB0 : Hid (BF 0 = 0) := Lib.hid (by rw [hBF]; rfl)
  have HBL : Hid (∀ k, BF k ≤ k - 1) := Lib.hid (fun k => by rw [hBF]; exact bestK_le _ _ _ _ _ _ _ k)
  have hL1 := hV.gl
  obtain ⟨V, hVL⟩ : ∃ V, V = lvF lk ht rc ts gs ⟨h, lv, ps⟩ x := ⟨_, rfl⟩
  have HBV : Hid (BF L = V) := Lib.hid (by rw [hBF, hVL, hL]; exact bestK_lv lk ht rc ts gs _ x hL1.1)
  obtain ⟨g, hg⟩ : ∃ g, g = gs.getD V 0 := ⟨_, rfl⟩
  obtain ⟨Y, hY⟩ : ∃ Y, Y = byF x g := ⟨_, rfl⟩
  have hgb : 0 ≤ g ∧ g ≤ 16 := by rw [hg]; exact hV.gb V
  have hyb := byF_bd hx hgb
  rw [← hY] at hyb
  have HBY : Hid (∀ W, Calls Tryd.prog 85 #[(.int .i64 x), (.int .i64 g)] W fun r w' => r = .returned (.int .i64 Y) ∧ W = w') := Lib.hid (fun W => by rw [hY]; exact rBy_any x g W hx hgb)
  obtain ⟨H1, hH1⟩ : ∃ H1, H1 = coolF lk h + Y * Y := ⟨_, rfl⟩
  have hM8 : M ≤ 8 := by rw [hM]; exact hV.tl.2
  have HBH : Hid (∀ {u v : Value} (W : World), KG lk ht rc M ts L gs u W → KT h (lv : Int) N ps v W → Calls Tryd.prog 36 #[u, v, (.int .i64 Y)] W (KP (K2 (KTN W.heap.size H1 (lv : Int) N (pushL ps Y)) (KV (.int .i64 (exF ts ps Y)))) W)) := Lib.hid (fun W q1 q2 => by rw [hH1]; exact rBehind_N hV.lk ⟨hh.1, by omega⟩ hM hN hMN (by omega) hV.tb hpb hyb q1 q2)
  have e1 : outF lk ht rc ts gs ⟨h, lv, ps⟩ x = Y := by unfold outF; rw [← hVL, ← hg, ← hY]
  have e2 : stF lk ht rc ts gs ⟨h, lv, ps⟩ x = ⟨H1, V, pushL ps Y⟩ := by unfold stF; rw [e1, ← hVL, hH1]
  rw [e1, e2]
  have HGV := Lib.hid hg
  have HL := Lib.hid hL
  have hL8 : 1 ≤ L ∧ L ≤ 8 := by rw [hL]; exact hL1
  obtain ⟨l1, l2⟩ := hL8
  obtain ⟨X, hX⟩ : ∃ X, X = exF ts ps Y := ⟨_, rfl⟩
  rw [← hX] at HBH
  clear hT hG hP hM hN hMN hpb hV hY hH1 hL hg hBF hPF hVL e1 e2 hyb hgb hX hL1
  go_enter Tryd.func37, Tryd.ntmps37
  go_wp2
  refine name_world ?_
  intro w1 e1
  have hb1 : Below w.heap.size w w1 := by rw [e1]; (repeat (first | (with_reducible exact Below.refl _ _) | ((with_reducible refine Below.setCell ?_ ?_ _); rotate_left 1; focus (first | (simp; done) | (simp; omega) | (simp at *; omega))) | ((with_reducible refine Below.alloc ?_ ?_ _); rotate_left 1; focus (first | (simp; done) | (simp; omega) | (simp at *; omega))) | (with_reducible refine Below.drew ?_) | ((with_reducible refine Calm.step (by assumption) ?_ ?_); rotate_left 1; focus (first | (simp; done) | (simp; omega) | (simp at *; omega)))))
  have bg := Lib.hid (show Blk w1 w.heap.size #[(.int .i64 lk), (.int .i64 ht), .slice A1 M c1, (.int .i64 rc), .slice A2 L c2] by rw [e1]; (repeat (first | ((with_reducible refine Blk.at_ ?_); focus (first | rfl | (simp; done) | (simp; omega))) | (with_reducible refine Blk.alloc ?_ _) | (with_reducible refine Blk.below ?_ (by with_reducible assumption)) | (with_reducible refine Blk.drew ?_))))
  have bs := Lib.hid (show Blk w1 (w.heap.size + 1) #[(.int .i64 h), (.int .i64 ((lv : Int))), .slice A3 N c3] by rw [e1]; (repeat (first | ((with_reducible refine Blk.at_ ?_); focus (first | rfl | (simp; done) | (simp; omega))) | (with_reducible refine Blk.alloc ?_ _) | (with_reducible refine Blk.below ?_ (by with_reducible assumption)) | (with_reducible refine Blk.drew ?_))))
  have br := Lib.hid (show Blk w1 (w.heap.size + 2) #[(.int .i64 0), (.int .i64 0), .slice none 0 0] by rw [e1]; (repeat (first | ((with_reducible refine Blk.at_ ?_); focus (first | rfl | (simp; done) | (simp; omega))) | (with_reducible refine Blk.alloc ?_ _) | (with_reducible refine Blk.below ?_ (by with_reducible assumption)) | (with_reducible refine Blk.drew ?_))))
  have HB1 := Lib.hid hb1
  have HU1 := Lib.hid (KG.st _ _ _ _ _ _ _ _ _ _ HU.out hb1)
  have HV1 := Lib.hid (KT.st _ _ _ _ _ _ _ HVV.out hb1)
  have G1 := Lib.hid (HGG.out.below hb1)
  clear e1 hb1 HU HVV HGG
  go_loopw [8, 9] (fun b i wr => ∃ k : Nat, k ≤ L ∧ i = (.int .i64 ((k : Int))) ∧ b = (.int .i64 ((BF k : Int))) ∧ Below w1.heap.size w1 wr) (fun _ i _ => L - (intOf i).toNat)
  case atStart => exact ⟨0, Nat.zero_le _, rfl, by rw [HB0.out]; rfl, by (repeat (first | (with_reducible exact Below.refl _ _) | ((with_reducible refine Below.setCell ?_ ?_ _); rotate_left 1; focus (first | (simp; done) | (simp; omega) | (simp at *; omega))) | ((with_reducible refine Below.alloc ?_ ?_ _); rotate_left 1; focus (first | (simp; done) | (simp; omega) | (simp at *; omega))) | (with_reducible refine Below.drew ?_) | ((with_reducible refine Calm.step (by assumption) ?_ ?_); rotate_left 1; focus (first | (simp; done) | (simp; omega) | (simp at *; omega)))))⟩
  case round =>
    obtain ⟨k, hk, rfl, rfl, hbr⟩ := hrel
    have HBr := Lib.hid hbr
    have bgr := Lib.hid (bg.out.below hbr)
    have bsr := Lib.hid (bs.out.below hbr)
    have HUr := Lib.hid (KG.st _ _ _ _ _ _ _ _ _ _ HU1.out hbr)
    have HVr := Lib.hid (KT.st _ _ _ _ _ _ _ HV1.out hbr)
    obtain ⟨g0, g1, g2, g3, g4, gl, -⟩ := bgr.out.o5
    obtain ⟨s0, s1, s2, sl, -⟩ := bsr.out.o3
    have hbl := HBL.out k
    clear hbr
    by_cases hlt : k < L
    · have hstep := HBF.out k
      obtain ⟨pb, hpb⟩ : ∃ pb, pb = PF k := ⟨_, rfl⟩
      have HPK : Hid (∀ {u v : Value} (W : World), KG lk ht rc M ts L gs u W → KT h (lv : Int) N ps v W → Calls Tryd.prog 84 #[u, v, (.int .i64 x), (.int .i64 ((k : Int)))] W (KP (KV (.bool pb)) W)) := Lib.hid (fun W q1 q2 => by rw [hpb]; exact HPM.out k W hlt q1 q2)
      rw [← hpb] at hstep
      clear hpb
      cases pb
      · go_wp2_with (go_at_call 84; refine (HPK.out _ HUr.out HVr.out).mono ?_; rintro r w2 ⟨v2, rfl, hk2, hb2⟩; obtain rfl := hk2; have HB2 := Lib.hid (HBr.out.trans (hb2.mono HBr.out.size)); clear hb2)
        go_roundw
        case rel => exact ⟨k + 1, by omega, by go_num, by rw [hstep]; rfl, HB2.out⟩
        case measure => simp [intOf]; omega
      · go_wp2_with (go_at_call 84; refine (HPK.out _ HUr.out HVr.out).mono ?_; rintro r w2 ⟨v2, rfl, hk2, hb2⟩; obtain rfl := hk2; have HB2 := Lib.hid (HBr.out.trans (hb2.mono HBr.out.size)); clear hb2)
        go_roundw
        case rel => exact ⟨k + 1, by omega, by go_num, by rw [hstep]; rfl, HB2.out⟩
        case measure => simp [intOf]; omega
    · obtain rfl : k = L := by omega
      rw [HBV.out] at hbl ⊢
      have hVk : V < k := by omega
      obtain ⟨b, o, hA, hbl2, hcell⟩ := (G1.out.below HBr.out) (by rw [← HL.out]; omega)
      subst hA
      have hck := hcell V (by rw [← HL.out]; exact hVk)
      rw [← HGV.out] at hck
      clear hcell
      go_wp2_with (first
        | (go_at_call 85; refine (HBY.out _).mono ?_; rintro r w2 ⟨rfl, rfl⟩)
        | (go_at_call 36; refine (HBH.out _ HUr.out HVr.out).mono ?_; rintro r w3 ⟨v3, rfl, ⟨_, _, rfl, ⟨B3, d3, rfl, hc3, hi3, hf3⟩, rfl⟩, hb3⟩; refine Hid.out ?_))
      have HB3 := Lib.hid (HBr.out.trans (hb3.mono HBr.out.size))
      have br3 := Lib.hid (br.out.below HB3.out)
      have HC3 := Lib.hid hc3
      have HI3 := Lib.hid hi3
      have HF3 := Lib.hid hf3
      have hz3 := hb3.size
      have hzr := HBr.out.size
      have hz1 := br.out.lt
      clear hc3 hi3 hf3 hb3 g0 g1 g2 g3 g4 gl s0 s1 s2 sl hck
      unfold Hid
      obtain ⟨r0, r1, r2, rl, -⟩ := br3.out.o3
      go_wp2
      refine name_world ?_
      intro w4 e4
      have hb4 : Below w3.heap.size w3 w4 := by rw [e4]; exact (Below.refl _ _).alloc (Nat.le_refl _) _
      have bn4 := Lib.hid (show Blk w4 w3.heap.size #[(.int .i64 H1), (.int .i64 ((V : Int))), .slice B3 N d3] by rw [e4]; exact Calm.Blk.new _ _ _)
      have br4 := Lib.hid (br3.out.below hb4)
      have HB4 := Lib.hid (HB3.out.trans (hb4.mono HB3.out.size))
      have HC4 := Lib.hid (HC3.out.below hb4)
      have HI4 := Lib.hid (fun p hp => (HI3.out p hp).below hb4)
      have hz4 := hb4.size
      clear e4 hb4 r0 r1 r2 rl
      obtain ⟨n0, n1, n2, nl, -⟩ := bn4.out.o3
      refine Calm.tail_below 3 (by kernel_rfl) (by kernel_rfl) ?_
      simp only [List.take_succ_cons, List.take_zero, List.drop_succ_cons, List.drop_zero]
      repeat (first | (apply Calm.op_move; (focus rfl); (focus (first | exact .inl rfl | exact .inr rfl)); (focus ((try simp only [Act.eval, Array.getD_eq_getD_getElem?, List.getElem?_toArray, List.getElem?_cons_succ, List.getElem?_cons_zero, Option.getD_some]); rfl)); (try simp only [Act.put, List.setIfInBounds_toArray, List.set_cons_zero, List.set_cons_succ])) | (apply Calm.op_not; (focus rfl); (try simp only [Act.put, List.setIfInBounds_toArray, List.set_cons_zero, List.set_cons_succ])) | (apply Calm.op; (focus rfl); (focus (intro W hb; obtain ⟨hc, hf⟩ := bcell hb; clear hb hf; go_simp; (try go_bits); (try rfl); done)); (try simp only [Act.put, List.setIfInBounds_toArray, List.set_cons_zero, List.set_cons_succ])))
      refine wpQuiet_nil ?_
      intro w5 hb5
      obtain ⟨hb5c, hb5f⟩ := bcell hb5
      have hb5z := hb5.size
      (try simp at hb5z)
      (try have hb5z0 : w.heap.size < w5.heap.size := by omega)
      (try have hb5z1 : w.heap.size + 1 < w5.heap.size := by omega)
      (try have hb5z2 : w.heap.size + 1 + 1 < w5.heap.size := by omega)
      (try have hb5z3 : w.heap.size + 1 + 1 + 1 < w5.heap.size := by omega)
      (try have hb5z4 : w.heap.size + 1 + 1 + 1 + 1 < w5.heap.size := by omega)
      (try have hb5z5 : w.heap.size + 1 + 1 + 1 + 1 + 1 < w5.heap.size := by omega)
      have br5 := Lib.hid (br4.out.below hb5)
      have HB5 := Lib.hid (HB4.out.trans (hb5.mono HB4.out.size))
      have HC5 := Lib.hid (HC4.out.below hb5)
      have HI5 := Lib.hid (fun p hp => (HI4.out p hp).below hb5)
      have hw := HB1.out.size
      clear n0 n1 n2 nl
      obtain ⟨r0, r1, r2, rl, rf⟩ := br5.out.o3
      go_wp2
      have KR := br5.out.set3 (.int .i64 H1) (.int .i64 ((V : Int))) (.slice B3 N d3)
      obtain ⟨y0, y1, y2, yl, yf⟩ := KR.o3
      have q : ∀ p, B3 = some p → p.block ≠ w.heap.size + 2 ∧ w.heap.size ≤ p.block := fun p hp => by have h1 : wr.heap.size ≤ p.block := HF3.out p hp; omega
      have HBz := HB1.out.trans (HB5.out.mono hw)
      clear r0 r1 r2 rl rf KR
      exact bodyPost_ret (v := .tuple #[(.int .i64 Y), .agg #[(.int .i64 H1), (.int .i64 ((V : Int))), .slice B3 N d3]]) (by simp [results, Tryd.results37, go_sem, y0, y1, y2]) rfl
        ⟨_, rfl, ⟨_, _, rfl, rfl, ⟨_, _, rfl, ((HC5.out.sets (fun _ p hp => (q p hp).1) 0 _).sets (fun _ p hp => (q p hp).1) 1 _).sets (fun _ p hp => (q p hp).1) 2 _, fun p hp => (((HI5.out p hp).sets (q p hp).1 0 _).sets (q p hp).1 1 _).sets (q p hp).1 2 _, fun p hp => (q p hp).2⟩⟩, ((HBz.setCell (by simp; omega) _).setCell (by simp; omega) _).setCell (by simp; omega) _⟩
theorem rStep_N {lk ht rc h x : Int} {lv : Nat} {ts gs ps : List Int} {M L N : Nat} {u v : Value} {W : World} (hV : Valid lk ht rc ts gs) (hh : 0 ≤ h ∧ h ≤ 549755813888) (hlv : lv ≤ 1000) (hM : M = ts.length) (hL : L = gs.length) (hN : N = ps.length) (hMN : M = N + 1) (hpb : inB 2048 ps) (hx : -2048 ≤ x ∧ x ≤ 2048) (hu : KG lk ht rc M ts L gs u W) (hv : KT h (lv : Int) N ps v W) :
    Calls Tryd.prog 37 #[u, v, (.int .i64 x)] W (KP (K2 (KV (.int .i64 (outF lk ht rc ts gs ⟨h, lv, ps⟩ x))) (KTN W.heap.size (stF lk ht rc ts gs ⟨h, lv, ps⟩ x).h ((stF lk ht rc ts gs ⟨h, lv, ps⟩ x).lv : Int) N (stF lk ht rc ts gs ⟨h, lv, ps⟩ x).ps)) W) := by
  obtain ⟨A1, c1, A2, c2, rfl, hT, hG⟩ := hu
  obtain ⟨A3, c3, rfl, hP⟩ := hv
  exact rStep_walk hV hh hlv hM hL hN hMN hpb hx hT hG hP
end Go.Proofs.YtdeapbihbhoefaaDoor

/- The reference's Release. -/
namespace Go.Proofs.YtdeapbihbhoefaaDoor
open Go.RowKit
open Calm (bcell Blk)

set_option maxRecDepth 100000 in
set_option maxHeartbeats 4000000 in
theorem rRelease_walk {lk ht rc h : Int} {lv : Nat} {ts gs ps : List Int} {M L N : Nat} {A1 A2 A3 : Option Addr} {c1 c2 c3 : Nat} {w : World} (hV : Valid lk ht rc ts gs) (hS : Good ht rc ts gs ⟨h, lv, ps⟩) (hM : M = ts.length) (hL : L = gs.length) (hN : N = ps.length)
    (hT : Cells w A1 ts) (hG : Cells w A2 gs) (hP : Cells w A3 ps) :
    Calls Tryd.prog 35 #[.agg #[(.int .i64 lk), (.int .i64 ht), .slice A1 M c1, (.int .i64 rc), .slice A2 L c2], .agg #[(.int .i64 h), (.int .i64 ((lv : Int))), .slice A3 N c3]] w (KP (KV (.int .i64 (((L - 1 - lv : Nat) : Int)))) w) := by
  have HU := Lib.hid (show KG lk ht rc M ts L gs (.agg #[(.int .i64 lk), (.int .i64 ht), .slice A1 M c1, (.int .i64 rc), .slice A2 L c2]) w from ⟨_, _, _, _, rfl, hT, hG⟩)
  obtain ⟨F, hF⟩ : ∃ F : Nat → St, F = rlAt lk ht rc ts gs ⟨h, lv, ps⟩ := ⟨_, rfl⟩
  have HF0 : Hid (F 0 = ⟨h, lv, ps⟩) := Lib.hid (by rw [hF]; rfl)
  have hgd : ∀ k, Good ht rc ts gs (F k) := fun k => by rw [hF]; exact rl_good hV hS k
  have hlvl := hS.lv
  have hgl := hV.gl
  have HLV : Hid (∀ k, lv + k ≤ L - 1 → (F k).lv = lv + k) := Lib.hid (fun k hk => by rw [hF]; exact rl_lv hV hS k (by rw [← hL]; exact hk))
  have hMN : M = N + 1 := by rw [hM, hN]; exact hS.pl
  have HST : Hid (∀ {u v : Value} (k : Nat) (W : World), lv + k ≤ L - 1 → KG lk ht rc M ts L gs u W → KT (F k).h ((F k).lv : Int) N (F k).ps v W → Calls Tryd.prog 37 #[u, v, (.int .i64 0)] W (KP (K2 (KV (.int .i64 0)) (KTN W.heap.size (F (k + 1)).h ((F (k + 1)).lv : Int) N (F (k + 1)).ps)) W)) := Lib.hid (fun k W hk q1 q2 => by
    have g := hgd k
    have e : F (k + 1) = stF lk ht rc ts gs (F k) 0 := by rw [hF]; rfl
    have e0 := outF_zero (lk := lk) (ht := ht) (rc := rc) (ts := ts) (gs := gs) (s := F k)
    have := rStep_N (x := 0) (h := (F k).h) (lv := (F k).lv) (ps := (F k).ps) hV ⟨g.h.1, by have h1 := g.h.2; have h2 := hV.ht.2; omega⟩ (by have h1 := g.lv; have h2 := hV.gl.2; omega) hM hL (by have h1 := g.pl; omega) hMN g.pb (by omega) q1 q2
    rw [show outF lk ht rc ts gs ⟨(F k).h, (F k).lv, (F k).ps⟩ 0 = 0 from e0] at this
    rw [e]
    exact this)
  have HP := Lib.hid (show Cells w A3 (F 0).ps by rw [HF0.out]; exact hP)
  have hF0h : (F 0).h = h := by rw [HF0.out]
  have hF0l : (F 0).lv = lv := by rw [HF0.out]
  have HN0 : Hid (N = (F 0).ps.length) := Lib.hid (by rw [HF0.out]; exact hN)
  have hlL : lv < L := by rw [hL]; exact hlvl
  have hL8 : L ≤ 8 := by rw [hL]; exact hgl.2
  have h3lt : ∀ p, A3 = some p → 0 < N → p.block < w.heap.size := fun p hp h0 => by
    obtain ⟨b, o, e, hl, _⟩ := HP.out (by rw [← HN0.out]; exact h0)
    rw [hp] at e
    cases e
    exact hl
  rw [← hF0h]
  rw [show ((.int .i64 ((lv : Int))) : Value) = (.int .i64 (((F 0).lv : Int))) by rw [hF0l]]
  clear hT hG hP hM hL hN hV hS hF hgd hlvl hgl hMN hF0h hF0l HF0
  go_enter Tryd.func35, Tryd.ntmps35
  go_wp2
  refine name_world ?_
  intro w1 e1
  have bg := Lib.hid (show Blk w1 w.heap.size #[(.int .i64 lk), (.int .i64 ht), .slice A1 M c1, (.int .i64 rc), .slice A2 L c2] by rw [e1]; (repeat (first | ((with_reducible refine Blk.at_ ?_); focus (first | rfl | (simp; done) | (simp; omega))) | (with_reducible refine Blk.alloc ?_ _) | (with_reducible refine Blk.below ?_ (by with_reducible assumption)) | (with_reducible refine Blk.drew ?_))))
  have bs := Lib.hid (show Blk w1 (w.heap.size + 1) #[(.int .i64 ((F 0).h)), (.int .i64 (((F 0).lv : Int))), .slice A3 N c3] by rw [e1]; (repeat (first | ((with_reducible refine Blk.at_ ?_); focus (first | rfl | (simp; done) | (simp; omega))) | (with_reducible refine Blk.alloc ?_ _) | (with_reducible refine Blk.below ?_ (by with_reducible assumption)) | (with_reducible refine Blk.drew ?_))))
  have ty := Lib.hid (show IsTy w1 (w.heap.size + 1) 26 by rw [e1]; exact ⟨_, heap_new (by simp)⟩)
  have HB1 := Lib.hid (show Below w.heap.size w w1 by rw [e1]; (repeat (first | (with_reducible exact Below.refl _ _) | ((with_reducible refine Below.setCell ?_ ?_ _); rotate_left 1; focus (first | (simp; done) | (simp; omega) | (simp at *; omega))) | ((with_reducible refine Below.alloc ?_ ?_ _); rotate_left 1; focus (first | (simp; done) | (simp; omega) | (simp at *; omega))) | (with_reducible refine Below.drew ?_) | ((with_reducible refine Calm.step (by assumption) ?_ ?_); rotate_left 1; focus (first | (simp; done) | (simp; omega) | (simp at *; omega))))))
  have P1 := Lib.hid (HP.out.below HB1.out)
  clear e1
  go_loopw [5] (fun i wr => ∃ (k : Nat) (B : Option Addr) (c : Nat), lv + k ≤ L - 1 ∧ i = (.int .i64 ((k : Int))) ∧ Blk wr w.heap.size #[(.int .i64 lk), (.int .i64 ht), .slice A1 M c1, (.int .i64 rc), .slice A2 L c2] ∧ Blk wr (w.heap.size + 1) #[(.int .i64 ((F k).h)), (.int .i64 (((F k).lv : Int))), .slice B N c] ∧ Cells wr B (F k).ps ∧ IsTy wr (w.heap.size + 1) 26 ∧ Below w.heap.size w wr ∧ w.heap.size + 2 ≤ wr.heap.size) (fun i _ => L - (intOf i).toNat)
  case atStart => exact ⟨0, A3, c3, by omega, rfl, bg.out, bs.out, P1.out, ty.out, HB1.out, by have := bs.out.lt; omega⟩
  case round =>
    obtain ⟨k, B, c, hk, rfl, kg, ks, kc, kt, kb, kz⟩ := hrel
    have hlk := HLV.out k hk
    rw [hlk] at ks
    have KGB := Lib.hid kg
    have KSB := Lib.hid ks
    have KC := Lib.hid kc
    have KTY := Lib.hid kt
    have KB := Lib.hid kb
    have HUW := Lib.hid (KG.st _ _ _ _ _ _ _ _ _ _ HU.out kb)
    obtain ⟨g0, g1, g2, g3, g4, gl, -⟩ := kg.o5
    obtain ⟨s0, s1, s2, sl, -⟩ := ks.o3
    have HSK : Hid (∀ {u v : Value} (W : World), KG lk ht rc M ts L gs u W → KT (F k).h ((lv + k : Nat) : Int) N (F k).ps v W → Calls Tryd.prog 37 #[u, v, (.int .i64 0)] W (KP (K2 (KV (.int .i64 0)) (KTN W.heap.size (F (k + 1)).h ((F (k + 1)).lv : Int) N (F (k + 1)).ps)) W)) := Lib.hid (fun W q1 q2 => by
      rw [← hlk] at q2
      exact HST.out k W hk q1 q2)
    obtain ⟨H0, hH0⟩ : ∃ H0, H0 = (F k).h := ⟨_, rfl⟩
    rw [← hH0] at s0 HSK
    clear kg ks kc kt kb HST hH0
    by_cases hlt : lv + k < L - 1
    · have hz1 : ((lv + k : Nat) : Int) < (L : Int) - 1 := by omega
      push_cast at s1 hz1
      obtain ⟨H1, hH1⟩ : ∃ H1, H1 = (F (k + 1)).h := ⟨_, rfl⟩
      obtain ⟨V1, hV1⟩ : ∃ V1, V1 = ((F (k + 1)).lv : Int) := ⟨_, rfl⟩
      have HH1 := Lib.hid hH1
      have HV1 := Lib.hid hV1
      rw [← hH1, ← hV1] at HSK
      clear hH1 hV1
      go_wp2_with (go_at_call 37; refine (HSK.out _ HUW.out ⟨_, _, by first | rfl | (push_cast; rfl), KC.out⟩).mono ?_; rintro r w2 ⟨v2, rfl, ⟨_, _, rfl, rfl, ⟨B2, d2, rfl, hc2, hi2, hf2⟩⟩, hb2⟩; refine Hid.out ?_)
      have bg4 := Lib.hid (KGB.out.below hb2)
      have bs4 := Lib.hid (KSB.out.below hb2)
      have TY4 := Lib.hid (KTY.out.below hb2)
      have HB4 := Lib.hid (KB.out.trans (hb2.mono KB.out.size))
      have hz2 := hb2.size
      have HF2 := Lib.hid hf2
      have HC4 := Lib.hid hc2
      clear hc2 hi2 hf2 hb2 g0 g1 g2 g3 g4 gl s0 s1 s2 sl
      unfold Hid
      obtain ⟨s0, s1, s2, sl, sf⟩ := bs4.out.o3
      go_wp2
      go_roundw
      case rel =>
        have q : ∀ p : Addr, B2 = some p → p.block ≠ w.heap.size + 1 := fun p hp => by have h1 : wr.heap.size ≤ p.block := HF2.out p hp; omega
        refine ⟨k + 1, B2, d2, by omega, by go_num, ?_, ?_, ?_, ((TY4.out.put 0 _).put 1 _).put 2 _, ((HB4.out.setCell (by simp) _).setCell (by simp) _).setCell (by simp) _, by simp; omega⟩
        · exact ((bg4.out.far (by simp) _).far (by simp) _).far (by simp) _
        · rw [← HH1.out, ← HV1.out]; exact bs4.out.set3 (.int .i64 H1) (.int .i64 V1) (.slice B2 N d2)
        · exact ((HC4.out.sets (fun _ => q) 0 _).sets (fun _ => q) 1 _).sets (fun _ => q) 2 _
      case measure => simp [intOf]; omega
    · have hkk : L - 1 - lv = k := by omega
      have hz1 : ¬ ((lv + k : Nat) : Int) < (L : Int) - 1 := by omega
      push_cast at s1 hz1
      go_wp2
      go_ret
      exact ⟨(.int .i64 ((k : Int))), by first | rfl | (simp; done), by first | rfl | (show ((.int .i64 ((k : Int))) : Value) = _; rw [hkk]), KB.out⟩
theorem rRelease_K {lk ht rc h : Int} {lv : Nat} {ts gs ps : List Int} {M L N : Nat} {u v : Value} {W : World} (hV : Valid lk ht rc ts gs) (hS : Good ht rc ts gs ⟨h, lv, ps⟩) (hM : M = ts.length) (hL : L = gs.length) (hN : N = ps.length) (hu : KG lk ht rc M ts L gs u W) (hv : KT h (lv : Int) N ps v W) :
    Calls Tryd.prog 35 #[u, v] W (KP (KV (.int .i64 (((L - 1 - lv : Nat) : Int)))) W) := by
  obtain ⟨A1, c1, A2, c2, rfl, hT, hG⟩ := hu
  obtain ⟨A3, c3, rfl, hP⟩ := hv
  exact rRelease_walk hV hS hM hL hN hT hG hP
end Go.Proofs.YtdeapbihbhoefaaDoor

/- Steps of drawn regions whose side conditions are found by themselves. -/
namespace Go.Proofs.YtdeapbihbhoefaaDoor
open Go.RowKit
open Calm (bcell Blk)
namespace Rel
section
variable {P : Program} {DS : List Tmp} {w0 : World} {a0 : Act} {T : Ctx → Prop} {Γ : Ctx} {o : Oper} {rest : List Oper}
theorem opz {v : Value} (hg : GOK3 Γ o := by (first | exact Rel.gno rfl | exact Rel.gyes _ true _ rfl rfl rfl | exact Rel.gyes _ false _ rfl rfl rfl)) (h : (∀ (a : Act) (W : World), Below w0.heap.size w0 W → deps Γ a W (ons o) → (∀ t, t ∉ DS → a.eval (.tmp t) = a0.eval (.tmp t)) → (execOp a.eval o).run P W = .ok (.value v) W) := by intro a W hb hd hbase; obtain ⟨hc, hf⟩ := bcell hb; clear hb hf; simp [Rel.deps, Rel.dep1, Rel.ons, Region.binds, Act.eval, KV] at hd; simp only [Act.eval, List.mem_cons, List.not_mem_nil, not_or, and_imp, or_false, Array.getD_eq_getD_getElem?] at hbase; go_simp; (try go_bits); (try rfl); done)
    (hn : walk3 P DS w0 a0 T (Γ ++ [(o.dst, fun u _ => u = v)]) rest) : walk3 P DS w0 a0 T Γ (o :: rest) := op3 v hg h hn
end
end Rel
namespace RelH
open Rel (ons)
section
variable {S : World → World → Prop} {P : Program} {DS : List Tmp} {w0 : World} {a0 : Act} {T : Ctx → Prop} {Γ : Ctx} {o : Oper} {rest : List Oper}
theorem opz (hr : ∀ W, S W W) {v : Value} (hg : GOK3 Γ o := by (first | exact RelH.gno rfl | exact RelH.gyes _ true _ rfl rfl rfl | exact RelH.gyes _ false _ rfl rfl rfl)) (h : (∀ (a : Act) (W : World) (x : Nat → Value), S w0 W → deps x Γ a W (ons o) → (∀ t, t ∉ DS → a.eval (.tmp t) = a0.eval (.tmp t)) → (execOp a.eval o).run P W = .ok (.value v) W) := by intro a W x hS hd hbase; have hb := hS.below (Nat.le_refl _); clear hS; obtain ⟨hc, hf⟩ := bcell hb; clear hb hf; simp [RelH.deps, RelH.dep1, Rel.ons, Region.binds, Act.eval, KV] at hd; simp only [Act.eval, List.mem_cons, List.not_mem_nil, not_or, and_imp, or_false, Array.getD_eq_getD_getElem?] at hbase; go_simp; (try go_bits); (try rfl); done)
    (hn : walk3 S P DS w0 a0 T (Γ ++ [(o.dst, fun _ u _ => u = v)]) rest) : walk3 S P DS w0 a0 T Γ (o :: rest) := op3 hr v hg h hn
end
end RelH
/-- nothing old turns, as can be seen. -/
theorem bel {b : Nat} {W W' : World} (h : Below b W W' := by (repeat (first | (with_reducible exact Below.refl _ _) | ((with_reducible refine Below.setCell ?_ ?_ _); rotate_left 1; (focus (first | (simp; done) | (simp; omega) | (simp at *; omega)))) | ((with_reducible refine Below.alloc ?_ ?_ _); rotate_left 1; (focus (first | (simp; done) | (simp; omega) | (simp at *; omega))))))) : Below b W W' := h
end Go.Proofs.YtdeapbihbhoefaaDoor

/- Contracts of the program and of the reference as the cases of ProtectStates want them. -/
namespace Go.Proofs.YtdeapbihbhoefaaDoor
open Go.RowKit
open Calm (bcell Blk)
theorem IsTy.far {W : World} {g : Nat} {t : TypeId} {p : Addr} (h : IsTy W g t) (hp : p.block ≠ g) (v : Value) : IsTy (W.setCell p v) g t := by
  obtain ⟨cs, h⟩ := h
  exact ⟨cs, (Below.heap_setCell _ _ _ _ (Ne.symm hp)).trans h⟩
theorem fine_good' {lk ht rc h lv : Int} {ts gs ps : List Int} (s : StV lk ht rc ts gs h lv ps) (e : fineF ht rc h 0 ts ps = true) : Good ht rc ts gs ⟨h, lv.toNat, ps⟩ :=
  fine_good (lv := lv.toNat) (by have := s.lv.1; rwa [Int.toNat_of_nonneg this]) e
theorem fine_safeB {ht rc h : Int} {ts ps : List Int} (h0 : 0 ≤ rc) : fineF ht rc h 0 ts ps = safeB ht rc h ts ps := by
  unfold fineF safeB
  rw [absI_zero, decide_eq_false (show ¬ rc < 0 by omega)]
  simp
theorem xValue_K (x : Int) (W : World) : Calls Tryd.prog 32 #[(.int .i64 x)] W (KP (KV (.int .i64 (rangeErr x (-2048) 2048))) W) := (pValue_any x W).mono fun e W' ⟨k1, k2⟩ => ⟨_, k1, rfl, k2 ▸ Below.refl _ _⟩
theorem xFirst2_K {a b : Int} {g : Nat} {W : World} (h : W.heap[g]? = some (.cells #[(.int .i64 a), (.int .i64 b)] 3 (0, 0))) : Calls Tryd.prog 31 #[.slice (some ⟨g, 0, none⟩) 2 2] W (KP (KV (.int .i64 (firstOf [a, b]))) W) :=
  (qFirst_any [a, b] _ 2 W (by simp) (Cells.row h)).mono fun e W' ⟨k1, k2⟩ => ⟨_, k1, rfl, k2 ▸ Below.refl _ _⟩
section
variable {lk ht rc h lv x : Int} {ts gs l : List Int} {M L n : Nat} {a y : Value} {W : World} (hM : M = ts.length) (hL : L = gs.length) (hn : n = l.length) (h1 : M ≤ 1000) (h2 : L ≤ 1000) (h3 : n ≤ 1000) (hLim : Lim W) (hu : KG lk ht rc M ts L gs a W) (hv : KT h lv n l y W)
include hM hL hn h1 h2 h3 hLim hu hv
theorem xTails_bad (d0 : ¬ stErr lk ht rc ts gs h lv l = 0) : Calls Tryd.prog 26 #[a, y] W (KP (K2 (KS 0 []) (KV (.int .i64 (stErr lk ht rc ts gs h lv l)))) W) := by
  have e : tailR lk ht rc ts gs h lv l = [] := if_neg d0
  have := cTails (N2 := 0) hM hL hn h1 h2 h3 hLim hu hv (by rw [e]; rfl)
  rwa [e] at this
theorem xTails_ok (d0 : stErr lk ht rc ts gs h lv l = 0) : Calls Tryd.prog 26 #[a, y] W (KP (K2 (KS n (tailsF ts l)) (KV (.int .i64 0))) W) := by
  have e : tailR lk ht rc ts gs h lv l = tailsF ts l := if_pos d0
  have := cTails (N2 := n) hM hL hn h1 h2 h3 hLim hu hv (by rw [e, hn]; exact (tailsL_len _ _ _).symm)
  rwa [e, d0] at this
theorem xSafe_bad (d0 : ¬ stErr lk ht rc ts gs h lv l = 0) : Calls Tryd.prog 27 #[a, y] W (KP (K2 (KV (.bool false)) (KV (.int .i64 (stErr lk ht rc ts gs h lv l)))) W) := by
  have := cSafe hM hL hn h1 h2 h3 hLim hu hv
  rwa [show safeR lk ht rc ts gs h lv l = false from if_neg d0] at this
theorem xSafe_ok (d0 : stErr lk ht rc ts gs h lv l = 0) : Calls Tryd.prog 27 #[a, y] W (KP (K2 (KV (.bool (fineF ht rc h 0 ts l))) (KV (.int .i64 0))) W) := by
  have := cSafe hM hL hn h1 h2 h3 hLim hu hv
  rwa [show safeR lk ht rc ts gs h lv l = fineF ht rc h 0 ts l from if_pos d0, d0] at this
theorem xBehind_bad (d1 : ¬ bothErr lk ht rc ts gs h lv l x = 0) : Calls Tryd.prog 28 #[a, y, (.int .i64 x)] W (KP (K3 (KTI 0 0 0 []) (KV (.int .i64 0)) (KV (.int .i64 (bothErr lk ht rc ts gs h lv l x)))) W) := by
  have e : behR lk ht rc ts gs h lv l x = ⟨0, 0, [], 0, bothErr lk ht rc ts gs h lv l x⟩ := if_neg d1
  have := cBehind (y := x) (N2 := 0) hM hL hn h1 h2 h3 hLim hu hv (by rw [e]; rfl)
  rwa [e] at this
theorem xBehind_large (d1 : bothErr lk ht rc ts gs h lv l x = 0) (d3 : 536870912 < coolF lk h + x * x) : Calls Tryd.prog 28 #[a, y, (.int .i64 x)] W (KP (K3 (KTI 0 0 0 []) (KV (.int .i64 0)) (KV (.int .i64 4))) W) := by
  have e : behR lk ht rc ts gs h lv l x = ⟨0, 0, [], 0, 4⟩ := by unfold behR; rw [if_pos d1, if_pos d3]
  have := cBehind (y := x) (N2 := 0) hM hL hn h1 h2 h3 hLim hu hv (by rw [e]; rfl)
  rwa [e] at this
theorem xBehind_ok (d1 : bothErr lk ht rc ts gs h lv l x = 0) (d3 : ¬ 536870912 < coolF lk h + x * x) : Calls Tryd.prog 28 #[a, y, (.int .i64 x)] W (KP (K3 (KTI (coolF lk h + x * x) lv n (pushL l x)) (KV (.int .i64 (exF ts l x))) (KV (.int .i64 0))) W) := by
  have e : behR lk ht rc ts gs h lv l x = ⟨coolF lk h + x * x, lv, pushL l x, exF ts l x, 0⟩ := by unfold behR; rw [if_pos d1, if_neg d3]
  have := cBehind (y := x) (N2 := n) hM hL hn h1 h2 h3 hLim hu hv (by rw [e, hn]; exact (pushL_len _ _).symm)
  rwa [e] at this
theorem xStep_bad (d1 : ¬ bothErr lk ht rc ts gs h lv l x = 0) : Calls Tryd.prog 29 #[a, y, (.int .i64 x)] W (KP (K3 (KV (.int .i64 0)) (KTI 0 0 0 []) (KV (.int .i64 (bothErr lk ht rc ts gs h lv l x)))) W) := by
  have e : stepR lk ht rc ts gs h lv l x = ⟨0, 0, 0, [], bothErr lk ht rc ts gs h lv l x⟩ := if_neg d1
  have := cStep (y := x) (N2 := 0) hM hL hn h1 h2 h3 hLim hu hv (by rw [e]; rfl)
  rwa [e] at this
theorem xStep_unsafe (d1 : bothErr lk ht rc ts gs h lv l x = 0) (d2 : fineF ht rc h 0 ts l = false) : Calls Tryd.prog 29 #[a, y, (.int .i64 x)] W (KP (K3 (KV (.int .i64 0)) (KTI 0 0 0 []) (KV (.int .i64 20))) W) := by
  have e : stepR lk ht rc ts gs h lv l x = ⟨0, 0, 0, [], 20⟩ := by unfold stepR; rw [if_pos d1, if_neg (by rw [d2]; decide)]
  have := cStep (y := x) (N2 := 0) hM hL hn h1 h2 h3 hLim hu hv (by rw [e]; rfl)
  rwa [e] at this
theorem xStep_ok (d1 : bothErr lk ht rc ts gs h lv l x = 0) (d2 : fineF ht rc h 0 ts l = true) : Calls Tryd.prog 29 #[a, y, (.int .i64 x)] W (KP (K3 (KV (.int .i64 (outF lk ht rc ts gs ⟨h, lv.toNat, l⟩ x))) (KTI (stF lk ht rc ts gs ⟨h, lv.toNat, l⟩ x).h ((stF lk ht rc ts gs ⟨h, lv.toNat, l⟩ x).lv : Int) n (stF lk ht rc ts gs ⟨h, lv.toNat, l⟩ x).ps) (KV (.int .i64 0))) W) := by
  have e : stepR lk ht rc ts gs h lv l x = ⟨outF lk ht rc ts gs ⟨h, lv.toNat, l⟩ x, (stF lk ht rc ts gs ⟨h, lv.toNat, l⟩ x).h, ((stF lk ht rc ts gs ⟨h, lv.toNat, l⟩ x).lv : Int), (stF lk ht rc ts gs ⟨h, lv.toNat, l⟩ x).ps, 0⟩ := by unfold stepR; rw [if_pos d1, if_pos d2]
  have := cStep (y := x) (N2 := n) hM hL hn h1 h2 h3 hLim hu hv (by rw [e, hn]; exact (pushL_len _ _).symm)
  rwa [e] at this
theorem xRelease_bad (d0 : ¬ stErr lk ht rc ts gs h lv l = 0) : Calls Tryd.prog 30 #[a, y] W (KP (K2 (KV (.int .i64 0)) (KV (.int .i64 (stErr lk ht rc ts gs h lv l)))) W) := by
  have e : relR lk ht rc ts gs h lv l = (0, stErr lk ht rc ts gs h lv l) := if_neg d0
  have := cRelease hM hL hn h1 h2 h3 hLim hu hv
  rwa [e] at this
theorem xRelease_unsafe (d0 : stErr lk ht rc ts gs h lv l = 0) (d2 : fineF ht rc h 0 ts l = false) : Calls Tryd.prog 30 #[a, y] W (KP (K2 (KV (.int .i64 0)) (KV (.int .i64 20))) W) := by
  have e : relR lk ht rc ts gs h lv l = (0, 20) := by unfold relR; rw [if_pos d0, if_neg (by rw [d2]; decide)]
  have := cRelease hM hL hn h1 h2 h3 hLim hu hv
  rwa [e] at this
theorem xRelease_ok (d0 : stErr lk ht rc ts gs h lv l = 0) (d2 : fineF ht rc h 0 ts l = true) : Calls Tryd.prog 30 #[a, y] W (KP (K2 (KV (.int .i64 (((L - 1 - lv.toNat : Nat) : Int)))) (KV (.int .i64 0))) W) := by
  have e : relR lk ht rc ts gs h lv l = (((gs.length - 1 - lv.toNat : Nat) : Int), 0) := by unfold relR; rw [if_pos d0, if_pos d2]
  have := cRelease hM hL hn h1 h2 h3 hLim hu hv
  rw [hL]
  rwa [e] at this
end
theorem xReleaseR_K {lk ht rc h lv : Int} {ts gs l : List Int} {M L n : Nat} {a y : Value} {W : World} (hV : Valid lk ht rc ts gs) (hlv : 0 ≤ lv) (hS : Good ht rc ts gs ⟨h, lv.toNat, l⟩) (hM : M = ts.length) (hL : L = gs.length) (hn : n = l.length) (hu : KG lk ht rc M ts L gs a W) (hv : KT h lv n l y W) :
    Calls Tryd.prog 35 #[a, y] W (KP (KV (.int .i64 (((L - 1 - lv.toNat : Nat) : Int)))) W) :=
  rRelease_K hV hS hM hL hn hu (by rwa [Int.toNat_of_nonneg hlv])
theorem xStepR_K {lk ht rc h lv x : Int} {ts gs l : List Int} {M L n : Nat} {a y : Value} {W : World} (hV : Valid lk ht rc ts gs) (hlv : 0 ≤ lv) (hS : Good ht rc ts gs ⟨h, lv.toNat, l⟩) (hM : M = ts.length) (hL : L = gs.length) (hn : n = l.length) (hx : -2048 ≤ x ∧ x ≤ 2048) (hu : KG lk ht rc M ts L gs a W) (hv : KT h lv n l y W) :
    Calls Tryd.prog 37 #[a, y, (.int .i64 x)] W (KP (K2 (KV (.int .i64 (outF lk ht rc ts gs ⟨h, lv.toNat, l⟩ x))) (KTI (stF lk ht rc ts gs ⟨h, lv.toNat, l⟩ x).h ((stF lk ht rc ts gs ⟨h, lv.toNat, l⟩ x).lv : Int) n (stF lk ht rc ts gs ⟨h, lv.toNat, l⟩ x).ps)) W) := by
  have hl := hS.lv
  have hp := hS.pl
  have hh := hS.h
  have ht := hV.ht
  have hg := hV.gl
  simp only at hl hp hh
  refine (rStep_N hV ⟨hh.1, by omega⟩ (by omega) hM hL hn (by omega) hS.pb hx hu (by rwa [Int.toNat_of_nonneg hlv])).mono fun e W' ⟨v, k1, ⟨u1, u2, k2, k3, k4⟩, k5⟩ => ⟨v, k1, ⟨u1, u2, k2, k3, k4.kti⟩, k5⟩
end Go.Proofs.YtdeapbihbhoefaaDoor

/- ProtectStates, case 0. -/
namespace Go.Proofs.YtdeapbihbhoefaaDoor
open Go.RowKit
open Calm (bcell Blk)
set_option maxRecDepth 100000 in
set_option maxHeartbeats 8000000 in
theorem states_0 (lk ht rc h lv x : Int) (M L n : Nat) (ts gs l : List Int) (u v : Value) (w : World) (hTab : PTab w) (hM : M = ts.length) (hL : L = gs.length) (hn : n = l.length) (b0 : ¬ (M ≤ 9 ∧ L ≤ 9)) (hu : KG lk ht rc M ts L gs u w) (hv : KT h lv n l v w) :
    Calls Tryd.prog 4 #[u, v, (.int .i64 x)] w fun r w' => r = .returned (.bool true) ∧ Below w.heap.size w w' := by
  obtain ⟨A1, c1, A2, c2, rfl, hT, hG⟩ := hu
  obtain ⟨A3, c3, rfl, hP⟩ := hv
  have HU := Lib.hid (show KG lk ht rc M ts L gs (.agg #[(.int .i64 lk), (.int .i64 ht), .slice A1 M c1, (.int .i64 rc), .slice A2 L c2]) w from ⟨_, _, _, _, rfl, hT, hG⟩)
  have HS := Lib.hid (show KT h lv n l (.agg #[(.int .i64 h), (.int .i64 lv), .slice A3 n c3]) w from ⟨_, _, rfl, hP⟩)
  have HSH : Hid (∀ W, KG lk ht rc M ts L gs (.agg #[(.int .i64 lk), (.int .i64 ht), .slice A1 M c1, (.int .i64 rc), .slice A2 L c2]) W → Calls Tryd.prog 13 #[.agg #[(.int .i64 lk), (.int .i64 ht), .slice A1 M c1, (.int .i64 rc), .slice A2 L c2]] W (KP (KV (.bool false)) W)) := Lib.hid (fun W q => by have := Short_K q; rwa [decide_eq_false b0] at this)
  have HTab := Lib.hid hTab
  clear hTab hM hL hn hT hG hP b0
  go_enter Tryd.func4, Tryd.ntmps4
  have HB0 := Lib.hid (Below.refl w.heap.size w)
  go_wp2_with (go_at_call 13; refine name_calls ?_; intro w1 e1; refine Hid.out ?_)
  unfold Hid
  have h1 : Below w.heap.size w w1 := by rw [e1]; exact bel
  have HB1 := Lib.hid (HB0.out.trans (h1.mono HB0.out.size))
  have bg_1 := Lib.hid (show Blk w1 w.heap.size #[(.int .i64 lk), (.int .i64 ht), .slice A1 M c1, (.int .i64 rc), .slice A2 L c2] from by rw [e1]; (repeat (first | ((with_reducible refine Blk.at_ ?_); focus (first | rfl | (simp; done) | (simp; omega))) | (with_reducible refine Blk.alloc ?_ _) | (with_reducible refine Blk.below ?_ (by with_reducible assumption)) | (with_reducible refine Blk.drew ?_))))
  have bs_1 := Lib.hid (show Blk w1 (w.heap.size + 1) #[(.int .i64 h), (.int .i64 lv), .slice A3 n c3] from by rw [e1]; (repeat (first | ((with_reducible refine Blk.at_ ?_); focus (first | rfl | (simp; done) | (simp; omega))) | (with_reducible refine Blk.alloc ?_ _) | (with_reducible refine Blk.below ?_ (by with_reducible assumption)) | (with_reducible refine Blk.drew ?_))))
  clear e1 h1
  refine (HSH.out _ (KG.st _ _ _ _ _ _ _ _ _ _ HU.out HB1.out)).mono ?_
  rintro r w2 ⟨v2, rfl, k2, h2⟩
  have bg_2 := Lib.hid (bg_1.out.below h2)
  have bs_2 := Lib.hid (bs_1.out.below h2)
  have HB2 := Lib.hid (HB1.out.trans (h2.mono HB1.out.size))
  obtain rfl := k2
  clear h2
  go_wp2_with (go_at_call 15; refine name_calls ?_; intro w3 e3; refine Hid.out ?_)
  unfold Hid
  have h3 : Below w2.heap.size w2 w3 := by rw [e3]; exact bel
  have bg_3 := Lib.hid (bg_2.out.below h3)
  have bs_3 := Lib.hid (bs_2.out.below h3)
  have HB3 := Lib.hid (HB2.out.trans (h3.mono HB2.out.size))
  clear e3 h3
  refine (awake_any _ (HTab.out.below HB3.out)).mono ?_
  rintro r w4 ⟨rfl, h4⟩
  have HB4 := Lib.hid (HB3.out.trans (h4.mono HB3.out.size))
  clear h4
  go_wp2
  go_ret
  exact ⟨by first | rfl | (simp; done), HB4.out⟩
end Go.Proofs.YtdeapbihbhoefaaDoor

/- ProtectStates, case 1. -/
namespace Go.Proofs.YtdeapbihbhoefaaDoor
open Go.RowKit
open Calm (bcell Blk)
set_option maxRecDepth 100000 in
set_option maxHeartbeats 8000000 in
theorem states_1 (lk ht rc h lv x : Int) (M L n : Nat) (ts gs l : List Int) (u v : Value) (w : World) (hTab : PTab w) (hM : M = ts.length) (hL : L = gs.length) (hn : n = l.length) (b0 : M ≤ 9 ∧ L ≤ 9) (b1 : ¬ n ≤ 9) (hu : KG lk ht rc M ts L gs u w) (hv : KT h lv n l v w) :
    Calls Tryd.prog 4 #[u, v, (.int .i64 x)] w fun r w' => r = .returned (.bool true) ∧ Below w.heap.size w w' := by
  obtain ⟨A1, c1, A2, c2, rfl, hT, hG⟩ := hu
  obtain ⟨A3, c3, rfl, hP⟩ := hv
  have HU := Lib.hid (show KG lk ht rc M ts L gs (.agg #[(.int .i64 lk), (.int .i64 ht), .slice A1 M c1, (.int .i64 rc), .slice A2 L c2]) w from ⟨_, _, _, _, rfl, hT, hG⟩)
  have HS := Lib.hid (show KT h lv n l (.agg #[(.int .i64 h), (.int .i64 lv), .slice A3 n c3]) w from ⟨_, _, rfl, hP⟩)
  have HSH : Hid (∀ W, KG lk ht rc M ts L gs (.agg #[(.int .i64 lk), (.int .i64 ht), .slice A1 M c1, (.int .i64 rc), .slice A2 L c2]) W → Calls Tryd.prog 13 #[.agg #[(.int .i64 lk), (.int .i64 ht), .slice A1 M c1, (.int .i64 rc), .slice A2 L c2]] W (KP (KV (.bool true)) W)) := Lib.hid (fun W q => by have := Short_K q; rwa [decide_eq_true b0] at this)
  have HSS : Hid (∀ W, KT h lv n l (.agg #[(.int .i64 h), (.int .i64 lv), .slice A3 n c3]) W → Calls Tryd.prog 14 #[.agg #[(.int .i64 h), (.int .i64 lv), .slice A3 n c3]] W (KP (KV (.bool false)) W)) := Lib.hid (fun W q => by have := ShortState_K q; rwa [decide_eq_false b1] at this)
  have HTab := Lib.hid hTab
  clear hTab hM hL hn hT hG hP b1
  go_enter Tryd.func4, Tryd.ntmps4
  have HB0 := Lib.hid (Below.refl w.heap.size w)
  go_wp2_with (go_at_call 13; refine name_calls ?_; intro w1 e1; refine Hid.out ?_)
  unfold Hid
  have h1 : Below w.heap.size w w1 := by rw [e1]; exact bel
  have HB1 := Lib.hid (HB0.out.trans (h1.mono HB0.out.size))
  have bg_1 := Lib.hid (show Blk w1 w.heap.size #[(.int .i64 lk), (.int .i64 ht), .slice A1 M c1, (.int .i64 rc), .slice A2 L c2] from by rw [e1]; (repeat (first | ((with_reducible refine Blk.at_ ?_); focus (first | rfl | (simp; done) | (simp; omega))) | (with_reducible refine Blk.alloc ?_ _) | (with_reducible refine Blk.below ?_ (by with_reducible assumption)) | (with_reducible refine Blk.drew ?_))))
  have bs_1 := Lib.hid (show Blk w1 (w.heap.size + 1) #[(.int .i64 h), (.int .i64 lv), .slice A3 n c3] from by rw [e1]; (repeat (first | ((with_reducible refine Blk.at_ ?_); focus (first | rfl | (simp; done) | (simp; omega))) | (with_reducible refine Blk.alloc ?_ _) | (with_reducible refine Blk.below ?_ (by with_reducible assumption)) | (with_reducible refine Blk.drew ?_))))
  clear e1 h1
  refine (HSH.out _ (KG.st _ _ _ _ _ _ _ _ _ _ HU.out HB1.out)).mono ?_
  rintro r w2 ⟨v2, rfl, k2, h2⟩
  have bg_2 := Lib.hid (bg_1.out.below h2)
  have bs_2 := Lib.hid (bs_1.out.below h2)
  have HB2 := Lib.hid (HB1.out.trans (h2.mono HB1.out.size))
  obtain rfl := k2
  clear h2
  obtain ⟨fbs_0, fbs_1, fbs_2, fbs_l, -⟩ := bs_2.out.o3
  go_wp2_with (go_at_call 14; refine name_calls ?_; intro w3 e3; refine Hid.out ?_)
  unfold Hid
  have h3 : Below w2.heap.size w2 w3 := by rw [e3]; exact bel
  have bg_3 := Lib.hid (bg_2.out.below h3)
  have bs_3 := Lib.hid (bs_2.out.below h3)
  have HB3 := Lib.hid (HB2.out.trans (h3.mono HB2.out.size))
  clear e3 h3
  refine (HSS.out _ (KT.st _ _ _ _ _ _ _ HS.out HB3.out)).mono ?_
  rintro r w4 ⟨v4, rfl, k4, h4⟩
  have bg_4 := Lib.hid (bg_3.out.below h4)
  have bs_4 := Lib.hid (bs_3.out.below h4)
  have HB4 := Lib.hid (HB3.out.trans (h4.mono HB3.out.size))
  obtain rfl := k4
  clear h4
  clear fbs_0 fbs_1 fbs_2 fbs_l
  go_wp2_with (go_at_call 15; refine name_calls ?_; intro w5 e5; refine Hid.out ?_)
  unfold Hid
  have h5 : Below w4.heap.size w4 w5 := by rw [e5]; exact bel
  have bg_5 := Lib.hid (bg_4.out.below h5)
  have bs_5 := Lib.hid (bs_4.out.below h5)
  have HB5 := Lib.hid (HB4.out.trans (h5.mono HB4.out.size))
  clear e5 h5
  refine (awake_any _ (HTab.out.below HB5.out)).mono ?_
  rintro r w6 ⟨rfl, h6⟩
  have HB6 := Lib.hid (HB5.out.trans (h6.mono HB5.out.size))
  clear h6
  go_wp2
  go_ret
  exact ⟨by first | rfl | (simp; done), HB6.out⟩
end Go.Proofs.YtdeapbihbhoefaaDoor
