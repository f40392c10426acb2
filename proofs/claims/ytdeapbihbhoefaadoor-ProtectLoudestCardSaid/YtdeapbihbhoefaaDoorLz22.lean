/- Part 22 of the texts of the claim: LLo_i, LLo_n. -/
import Derived.Test.YtdeapbihbhoefaaDoorLz21

/- ProtectLoudest, case i. -/
namespace Go.Proofs.YtdeapbihbhoefaaDoor
open Go.RowKit
open Calm (bcell Blk)
set_option maxRecDepth 100000 in
set_option maxHeartbeats 8000000 in
theorem loudest_i (lk ht rc n : Int) (M L N : Nat) (ts gs xs : List Int) (u v : Value) (w : World) (hTab : PTab w) (hM : M = ts.length) (hL : L = gs.length) (hN : N = xs.length) (hn8 : 0 ≤ n ∧ n ≤ 255) (b0 : M ≤ 9 ∧ L ≤ 9) (b1 : guardErr lk ht rc ts gs = 0) (b2 : firstOf [someErr (xs.length : Int) 6, ascErr xs (-2048) 2048] = 0) (b3 : N ≤ 4) (k : Nat) (hk3 : k ≤ 3) (hk : n % 4 = (k : Int)) (b4 : loudF lk ht rc ts gs xs k = none) (hu : KG lk ht rc M ts L gs u w) (hv : KS N xs v w) :
    Calls Tryd.prog 10 #[u, v, .int .u8 n] w fun r w' => r = .returned (.bool true) ∧ Below w.heap.size w w' := by
  obtain ⟨A1, c1, A2, c2, rfl, hT, hG⟩ := hu
  obtain ⟨A3, c3, rfl, hP⟩ := hv
  have HU := Lib.hid (show KG lk ht rc M ts L gs (.agg #[(.int .i64 lk), (.int .i64 ht), .slice A1 M c1, (.int .i64 rc), .slice A2 L c2]) w from ⟨_, _, _, _, rfl, hT, hG⟩)
  have HX := Lib.hid (show KS N xs (.slice A3 N c3) w from ⟨_, _, rfl, hP⟩)
  have HSH : Hid (∀ W, KG lk ht rc M ts L gs (.agg #[(.int .i64 lk), (.int .i64 ht), .slice A1 M c1, (.int .i64 rc), .slice A2 L c2]) W → Calls Tryd.prog 13 #[.agg #[(.int .i64 lk), (.int .i64 ht), .slice A1 M c1, (.int .i64 rc), .slice A2 L c2]] W (KP (KV (.bool true)) W)) := Lib.hid (fun W q => by have := Short_K q; rwa [decide_eq_true b0] at this)
  obtain ⟨b01, b02⟩ := b0
  obtain ⟨GE, hGE⟩ : ∃ GE, GE = guardErr lk ht rc ts gs := ⟨_, rfl⟩
  have HCG : Hid (∀ {x : Value} (W : World), KG lk ht rc M ts L gs x W → Calls Tryd.prog 18 #[x] W (KP (KV (.int .i64 GE)) W)) := Lib.hid (fun W q => by rw [hGE]; exact rGuard_K hM hL (by omega) (by omega) q)
  have b1' := b1
  rw [← hGE] at b1
  subst b1
  obtain ⟨LE, hLE⟩ : ∃ LE, LE = firstOf [someErr (xs.length : Int) 6, ascErr xs (-2048) 2048] := ⟨_, rfl⟩
  have HCL : Hid (∀ {x : Value} (W : World), KS N xs x W → Calls Tryd.prog 57 #[x] W (KP (KV (.int .i64 LE)) W)) := Lib.hid (fun W q => by rw [hLE]; exact rCheckLevels_L hN q)
  have b2' := b2
  rw [← hLE] at b2
  subst b2
  have hd4 : decide ((4 : Int) < (N : Int)) = false := decide_eq_false (by omega)
  have hV := guard_valid b1'
  have hlz := lev_zero b2'
  have hxs := hlz.2.2.2
  have hNN : 1 ≤ N ∧ N ≤ 4 := ⟨by omega, b3⟩
  have HNN := Lib.hid hNN
  have HN := Lib.hid hN
  have HXS := Lib.hid hxs
  have he := loudErr_of (k := k) (gs := gs) b1' b2' (by omega)
  have HPW : Hid (∀ i, i ≤ 3 → N ^ i ≤ 64) := Lib.hid (fun i hi => pow_small b3 i hi)
  have HGU : Hid (∀ {x : Value} (W : World), KG lk ht rc M ts L gs x W → Calls Tryd.prog 17 #[x] W (KP (KGI lk ht rc M ts L gs) W)) := Lib.hid (fun W q => guard_K hM hL (by omega) (by omega) q)
  have HIN : Hid (∀ {x : Value} (W : World), KS N xs x W → Calls Tryd.prog 41 #[x] W (KP (KSI N xs) W)) := Lib.hid (fun W q => ints_K hN (by omega) q)
  have HAL : Hid (∀ {u v : Value} (ys : List Int) (W : World), k = ys.length → inB 2048 ys → KG lk ht rc M ts L gs u W → KSC k ys v W → Calls Tryd.prog 63 #[u, v] W (KP (KV (.bool (allowF lk ht rc ts ys))) W)) := Lib.hid (fun ys W q1 q2 q3 q4 => allowed_K hV hM q1 (by omega) q2 q3 q4)
  have HHI : Hid (∀ {u : Value} (y : Int) (W : World), KS N xs u W → Calls Tryd.prog 64 #[u, (.int .i64 y)] W (KP (KV (.bool (decide (y ∈ xs)))) W)) := Lib.hid (fun y W q => hasInt_K hN (by omega) q)
  have HEN : Hid (∀ {u : Value} (m : Nat) (ys : List Int) (W : World), m = ys.length → m ≤ 10 → inB 2048 ys → KS m ys u W → Calls Tryd.prog 60 #[u] W (KP (KV (.int .i64 (enF ys))) W)) := Lib.hid (fun m ys W q1 q2 q3 q4 => rEnergy_K q1 (by omega) q3 q4)
  obtain ⟨hn1, hn2⟩ := hn8
  have HL1 : Hid (∀ {a y : Value} (W : World), Lim W → KG lk ht rc M ts L gs a W → KS N xs y W → Calls Tryd.prog 55 #[a, y, (.int .i64 ((k : Int)))] W (KP (K2 (KS 0 []) (KV (.int .i64 24))) W)) := Lib.hid (fun W q0 q q2 => xLoudest_none hM hL hN q0 q q2 he b4)
  have HNO : Hid (∀ c, c < xs.length ^ k → allowF lk ht rc ts (codeL xs k c) = false) := Lib.hid (by
    rcases loud_code (gs := gs) (ls := xs) hV.tl.1 k with ⟨_, h⟩ | ⟨r, e, _⟩
    · exact h
    · rw [b4] at e; cases e)
  have HTab := Lib.hid hTab
  clear hTab hM hL hN hT hG hP hGE b1' b01 b02 hLE b2' hV hxs hlz he hNN b4
  go_enter Tryd.func10, Tryd.ntmps10
  have HB0 := Lib.hid (Below.refl w.heap.size w)
  go_wp2_with (go_at_call 13; refine name_calls ?_; intro w1 e1; refine Hid.out ?_)
  unfold Hid
  have h1 : Below w.heap.size w w1 := by rw [e1]; exact bel
  have HB1 := Lib.hid (HB0.out.trans (h1.mono HB0.out.size))
  have bg_1 := Lib.hid (show Blk w1 w.heap.size #[(.int .i64 lk), (.int .i64 ht), .slice A1 M c1, (.int .i64 rc), .slice A2 L c2] from by rw [e1]; (repeat (first | ((with_reducible refine Blk.at_ ?_); focus (first | rfl | (simp; done) | (simp; omega))) | (with_reducible refine Blk.alloc ?_ _) | (with_reducible refine Blk.below ?_ (by with_reducible assumption)) | (with_reducible refine Blk.drew ?_))))
  clear e1 h1
  refine (HSH.out _ (KG.st _ _ _ _ _ _ _ _ _ _ HU.out HB1.out)).mono ?_
  rintro r w2 ⟨v2, rfl, k2, h2⟩
  have bg_2 := Lib.hid (bg_1.out.below h2)
  have HB2 := Lib.hid (HB1.out.trans (h2.mono HB1.out.size))
  obtain rfl := k2
  clear h2
  have ug_rw2 := Lib.hid (KG.st _ _ _ _ _ _ _ _ _ _ HU.out HB2.out)
  have ux_rw2 := Lib.hid (KS.st _ _ _ _ _ HX.out HB2.out)
  have HTabw2 := Lib.hid (HTab.out.below HB2.out)
  have HZw2 := Lib.hid (Below.refl w2.heap.size w2)
  clear HU HX HTab
  obtain ⟨fbg_0, fbg_1, fbg_2, fbg_3, fbg_4, fbg_l, -⟩ := (bg_2.out.below HZw2.out).o5
  go_wp2_with (go_at_call 18; refine name_calls ?_; intro w3 e3; refine Hid.out ?_)
  unfold Hid
  have h3 : Below w2.heap.size w2 w3 := by rw [e3]; exact bel
  have HB3 := Lib.hid (HZw2.out.trans (h3.mono HZw2.out.size))
  clear e3 h3
  refine (HCG.out _ (KG.st _ _ _ _ _ _ _ _ _ _ ug_rw2.out HB3.out)).mono ?_
  rintro r w4 ⟨v4, rfl, k4, h4⟩
  have HB4 := Lib.hid (HB3.out.trans (h4.mono HB3.out.size))
  obtain rfl := k4
  clear h4
  clear fbg_0 fbg_1 fbg_2 fbg_3 fbg_4 fbg_l
  go_wp2_with (go_at_call 57; refine name_calls ?_; intro w5 e5; refine Hid.out ?_)
  unfold Hid
  have h5 : Below w4.heap.size w4 w5 := by rw [e5]; exact bel
  have HB5 := Lib.hid (HB4.out.trans (h5.mono HB4.out.size))
  clear e5 h5
  refine (HCL.out _ (KS.st _ _ _ _ _ ux_rw2.out HB5.out)).mono ?_
  rintro r w6 ⟨v6, rfl, k6, h6⟩
  have HB6 := Lib.hid (HB5.out.trans (h6.mono HB5.out.size))
  obtain rfl := k6
  clear h6
  have ug_rw6 := Lib.hid (KG.st _ _ _ _ _ _ _ _ _ _ ug_rw2.out HB6.out)
  have ux_rw6 := Lib.hid (KS.st _ _ _ _ _ ux_rw2.out HB6.out)
  have bg_rw6 := Lib.hid (bg_2.out.below HB6.out)
  have HTabw6 := Lib.hid (HTabw2.out.below HB6.out)
  have HOw6 := Lib.hid (HB2.out.trans (HB6.out.mono HB2.out.size))
  have HZw6 := Lib.hid (Below.refl w6.heap.size w6)
  clear HB6 ug_rw2 ux_rw2 bg_2 HTabw2 HB2
  obtain ⟨fbg_0, fbg_1, fbg_2, fbg_3, fbg_4, fbg_l, -⟩ := (bg_rw6.out.below HZw6.out).o5
  go_wp2_with (go_at_call 17; refine name_calls ?_; intro w7 e7; refine Hid.out ?_)
  unfold Hid
  have h7 : Below w6.heap.size w6 w7 := by rw [e7]; exact bel
  have HB7 := Lib.hid (HZw6.out.trans (h7.mono HZw6.out.size))
  clear e7 h7
  refine (HGU.out _ (KG.st _ _ _ _ _ _ _ _ _ _ ug_rw6.out HB7.out)).mono ?_
  rintro r w8 ⟨v8, rfl, k8, h8⟩
  have HB8 := Lib.hid (HB7.out.trans (h8.mono HB7.out.size))
  have g_8 := Lib.hid k8
  clear k8 h8
  clear fbg_0 fbg_1 fbg_2 fbg_3 fbg_4 fbg_l
  go_wp2_with (go_at_call 41; refine name_calls ?_; intro w9 e9; refine Hid.out ?_)
  unfold Hid
  have h9 : Below w8.heap.size w8 w9 := by rw [e9]; exact bel
  have g_9 := Lib.hid ((KGI.ik _ _ _ _ _ _ _).st _ _ _ g_8.out h9)
  have HB9 := Lib.hid (HB8.out.trans (h9.mono HB8.out.size))
  clear e9 h9
  refine (HIN.out _ (KS.st _ _ _ _ _ ux_rw6.out HB9.out)).mono ?_
  rintro r w10 ⟨v10, rfl, k10, h10⟩
  have g_10 := Lib.hid ((KGI.ik _ _ _ _ _ _ _).st _ _ _ g_9.out h10)
  have HB10 := Lib.hid (HB9.out.trans (h10.mono HB9.out.size))
  have i_10 := Lib.hid k10
  clear k10 h10
  go_wp2_with (go_at_call 55; refine name_calls ?_; intro w11 e11; refine Hid.out ?_)
  unfold Hid
  have h11 : Below w10.heap.size w10 w11 := by rw [e11]; exact bel
  have g_11 := Lib.hid ((KGI.ik _ _ _ _ _ _ _).st _ _ _ g_10.out h11)
  have i_11 := Lib.hid ((KSI.ik N xs).st _ _ _ i_10.out h11)
  have HB11 := Lib.hid (HB10.out.trans (h11.mono HB10.out.size))
  clear e11 h11
  refine (HL1.out _ (HTabw6.out.below HB11.out).lim g_11.out.kg i_11.out.ks).mono ?_
  rintro r w12 ⟨v12, rfl, k12, h12⟩
  have g_12 := Lib.hid ((KGI.ik _ _ _ _ _ _ _).st _ _ _ g_11.out h12)
  have i_12 := Lib.hid ((KSI.ik N xs).st _ _ _ i_11.out h12)
  have HB12 := Lib.hid (HB11.out.trans (h12.mono HB11.out.size))
  obtain ⟨_, _, rfl, ⟨QA, QAc, rfl, q12⟩, rfl⟩ := k12
  have a_12 := Lib.hid (show KS 0 [] (.slice QA 0 QAc) w12 from ⟨_, _, rfl, q12⟩)
  clear q12 h12
  have ug_rw12 := Lib.hid (KG.st _ _ _ _ _ _ _ _ _ _ ug_rw6.out HB12.out)
  have ux_rw12 := Lib.hid (KS.st _ _ _ _ _ ux_rw6.out HB12.out)
  have bg_rw12 := Lib.hid (bg_rw6.out.below HB12.out)
  have HTabw12 := Lib.hid (HTabw6.out.below HB12.out)
  have HOw12 := Lib.hid (HOw6.out.trans (HB12.out.mono HOw6.out.size))
  have HZw12 := Lib.hid (Below.refl w12.heap.size w12)
  clear HB12 ug_rw6 ux_rw6 bg_rw6 HTabw6 HOw6
  go_wp2
  go_loopw [74] (fun i wr => i = (.int .i64 0) ∧ Below w12.heap.size w12 wr) (fun i _ => 0)
  case atStart => exact ⟨rfl, HZw12.out⟩
  case round =>
    obtain ⟨rfl, kb⟩ := hrel
    rename World => wA
    have KB := Lib.hid kb
    clear kb
    have ug_rwA := Lib.hid (KG.st _ _ _ _ _ _ _ _ _ _ ug_rw12.out KB.out)
    have ux_rwA := Lib.hid (KS.st _ _ _ _ _ ux_rw12.out KB.out)
    have a_rwA := Lib.hid (KS.st _ _ _ _ _ a_12.out KB.out)
    have bg_rwA := Lib.hid (bg_rw12.out.below KB.out)
    have HTabwA := Lib.hid (HTabw12.out.below KB.out)
    have HOwA := Lib.hid (HOw12.out.trans (KB.out.mono HOw12.out.size))
    have HZwA := Lib.hid (Below.refl wA.heap.size wA)
    clear KB ug_rw12 ux_rw12 a_12 bg_rw12 HTabw12 HOw12
    go_wp2
    go_loopw [12, 84] (fun t i wr => ∃ e : Nat, e ≤ k ∧ i = (.int .i64 ((e : Int))) ∧ t = (.int .i64 (((N ^ e : Nat) : Int))) ∧ Below wA.heap.size wA wr) (fun _ i _ => k - (intOf i).toNat)
    case atStart => exact ⟨0, Nat.zero_le _, rfl, rfl, HZwA.out⟩
    case round =>
      obtain ⟨m, hm, rfl, rfl, kb⟩ := hrel
      rename World => wT
      have KB := Lib.hid kb
      clear kb
      by_cases hlt : m < k
      · have hp1 := HPW.out (m + 1) (by omega)
        have hp0 := HPW.out m (by omega)
        have hps : N ^ (m + 1) = N ^ m * N := Nat.pow_succ ..
        obtain ⟨p, hp⟩ : ∃ p, p = N ^ m := ⟨_, rfl⟩
        obtain ⟨p2, hp2⟩ : ∃ p2, p2 = N ^ (m + 1) := ⟨_, rfl⟩
        rw [← hp] at hp0 hps ⊢
        rw [← hp2] at hp1 hps
        have HP2 := Lib.hid hp2
        have hpm : (p : Int) * (N : Int) = (p2 : Int) := by rw [hps]; push_cast; rfl
        have hmk : (m : Int) < (k : Int) := by omega
        clear hp hp2 hps
        go_wp2
        go_roundw
        case rel => exact ⟨m + 1, by omega, by go_num, by rw [← HP2.out], KB.out⟩
        case measure => simp [intOf]; omega
      · obtain rfl : m = k := by omega
        have hT64 := HPW.out m (by omega)
        obtain ⟨T, hT⟩ : ∃ T, T = N ^ m := ⟨_, rfl⟩
        rw [← hT] at hT64 ⊢
        have HT := Lib.hid hT
        clear hT
        have ug_rwT := Lib.hid (KG.st _ _ _ _ _ _ _ _ _ _ ug_rwA.out KB.out)
        have ux_rwT := Lib.hid (KS.st _ _ _ _ _ ux_rwA.out KB.out)
        have a_rwT := Lib.hid (KS.st _ _ _ _ _ a_rwA.out KB.out)
        have bg_rwT := Lib.hid (bg_rwA.out.below KB.out)
        have HTabwT := Lib.hid (HTabwA.out.below KB.out)
        have HOwT := Lib.hid (HOwA.out.trans (KB.out.mono HOwA.out.size))
        have HZwT := Lib.hid (Below.refl wT.heap.size wT)
        clear KB ug_rwA ux_rwA a_rwA bg_rwA HTabwA HOwA
        have hnon := HNO.out
        have hT0 : T = N ^ m := HT.out
        rw [← HN.out, ← hT0] at hnon
        have HNON := Lib.hid hnon
        clear hnon hT0
        have hmkm := mk_ints m (by omega)
        go_wp2
        go_loopw [92] (fun i wr => ∃ c : Nat, c ≤ T ∧ i = (.int .i64 ((c : Int))) ∧ Below wT.heap.size wT wr) (fun i _ => T + 1 - (intOf i).toNat)
        case atStart => exact ⟨0, Nat.zero_le _, rfl, HZwT.out⟩
        case round =>
          obtain ⟨c, hc, rfl, kb⟩ := hrel
          rename World => wC
          have KB := Lib.hid kb
          clear kb
          by_cases hltC : c < T
          · have hcT : (c : Int) < (T : Int) := by omega
            obtain ⟨gb, hgb⟩ : ∃ gb, gb = wC.heap.size := ⟨_, rfl⟩
            have hgb0 : wT.heap.size ≤ gb := by rw [hgb]; exact KB.out.size
            go_wp2
            refine name_world ?_
            intro wm em
            have hbm : Below wT.heap.size wT wm := by rw [em]; exact KB.out.alloc KB.out.size _
            have KBm := Lib.hid hbm
            have hkm : Blk wm gb (zerosA m).toArray := by rw [em, hgb]; exact Calm.Blk.new _ _ _
            have HCm := Lib.hid (cells_zeros hkm)
            have HFm := Lib.hid hkm.f
            have hgl := hkm.lt
            rw [← hgb]
            clear em hbm hkm hgb
            go_loopw [15, 16] (fun i z wr => ∃ j r : Nat, j + r = m ∧ i = (.int .i64 ((r : Int) - 1)) ∧ z = (.int .i64 (((c / N ^ j : Nat) : Int))) ∧ Below wT.heap.size wT wr ∧ gb < wr.heap.size ∧ (∀ q, wr.frozen? ⟨gb, q, none⟩ = false) ∧ Cells wr (some ⟨gb, 0, none⟩) (codeM xs m c j)) (fun i _ _ => (intOf i + 1).toNat)
            case atStart => exact ⟨0, m, Nat.zero_add _, by first | rfl | go_num, by simp, KBm.out, hgl, HFm.out, by rw [codeM_zero]; exact HCm.out⟩
            case round =>
              obtain ⟨j, r, hjr, rfl, rfl, kb, kl, kf, kc⟩ := hrel
              rename World => wD
              have KB := Lib.hid kb
              have KF := Lib.hid kf
              have KC := Lib.hid kc
              clear kb kf kc
              cases r with
              | succ r =>
                have hp0 := HPW.out j (by omega)
                have hpp : 0 < N ^ j := Nat.pow_pos (by have := HNN.out; omega)
                have hdd : c / N ^ (j + 1) = c / N ^ j / N := by rw [Nat.pow_succ, Nat.div_div_eq_div_mul]
                have hcs := codeM_succ xs (n := m) (c := c) (k := j) (by omega)
                rw [show m - 1 - j = r by omega, ← HN.out] at hcs
                have hab : c / N ^ j ≤ c := Nat.div_le_self _ _
                obtain ⟨a, ha⟩ : ∃ a, a = c / N ^ j := ⟨_, rfl⟩
                rw [← ha] at hdd hcs hab ⊢
                have hnn := HNN.out
                have hqN : a % N < N := Nat.mod_lt _ (by omega)
                have hqI : (a : Int) % (N : Int) = ((a % N : Nat) : Int) := by push_cast; rfl
                have hdI : (a : Int) / (N : Int) = ((a / N : Nat) : Int) := by push_cast; rfl
                rw [← hdd] at hdI
                have hd64 : c / N ^ (j + 1) ≤ a := by rw [hdd]; exact Nat.div_le_self _ _
                obtain ⟨q, hq⟩ : ∃ q, q = a % N := ⟨_, rfl⟩
                obtain ⟨d, hd⟩ : ∃ d, d = c / N ^ (j + 1) := ⟨_, rfl⟩
                rw [← hq] at hqN hqI hcs
                rw [← hd] at hdI hd64
                have HD := Lib.hid hd
                have HCS := Lib.hid hcs
                have hcX := (KS.st _ _ _ _ _ ux_rwT.out KB.out)
                obtain ⟨_, _, ee, hcX'⟩ := hcX
                cases ee
                obtain ⟨bX, oX, hA', hblX, hcell⟩ := hcX' (by rw [← HN.out]; omega)
                subst hA'
                have hxk := hcell q (by rw [← HN.out]; exact hqN)
                obtain ⟨x1, hx1⟩ : ∃ x1, x1 = xs.getD q 0 := ⟨_, rfl⟩
                rw [← hx1] at hxk hcs
                have HCS' := Lib.hid hcs
                obtain ⟨b5, o5, hA', hbl5, hcell5⟩ := KC.out (by rw [codeM_len]; omega)
                cases hA'
                have hgk := hcell5 r (by rw [codeM_len]; omega)
                rw [Nat.zero_add] at hgk
                have hfr := KF.out r
                have hr1 : (r : Int) < (m : Int) := by omega
                have hN0 : ¬ (N : Int) = 0 := by omega
                obtain ⟨y1, y2⟩ := IntWalk.tdiv_le (a : Int) (N : Int) (by omega) (by omega)
                have hqN' : (q : Int) < (N : Int) := by omega
                clear hp0 hpp hdd hcs hcell hcX' hcell5 ha hq hd hx1 hbl5
                obtain ⟨u, hu⟩ : ∃ u, u = (codeM xs m c j).getD r 0 := ⟨_, rfl⟩
                rw [← hu] at hgk
                clear hu
                go_wp2
                go_roundw
                case rel => exact ⟨j + 1, r, by omega, by go_num, by rw [← HD.out], KB.out.setCell (p := ⟨gb, r, none⟩) hgb0 _, by simpa using kl, (fun q => by rw [World.frozen?_setCell]; exact KF.out q), by have h := Cells.setAt KC.out (k := r) (by rw [codeM_len]; omega) x1; rw [Nat.zero_add, HCS'.out] at h; exact h⟩
                case measure => first | (simp [intOf]; done) | (simp [intOf]; omega)
              | zero =>
                obtain rfl : j = m := by omega
                have HLL := Lib.hid (show KSC j (codeL xs j c) (.slice (some ⟨gb, 0, none⟩) j j) wD from ⟨_, _, rfl, by rw [← codeM_all]; exact KC.out, Nat.le_refl _, by unfold maxLen; omega⟩)
                clear KC KF kl hgl HCm HFm KBm
                have HAL1 : Hid (∀ {u v : Value} (W : World), KG lk ht rc M ts L gs u W → KSC j (codeL xs j c) v W → Calls Tryd.prog 63 #[u, v] W (KP (KV (.bool (allowF lk ht rc ts (codeL xs j c)))) W)) := Lib.hid (fun W q1 q2 => HAL.out (codeL xs j c) W (codeL_len _ _ _).symm (codeL_in HXS.out _ _) q1 q2)
                have hno := HNON.out c hltC
                have HAL2 : Hid (∀ {u v : Value} (W : World), KG lk ht rc M ts L gs u W → KSC j (codeL xs j c) v W → Calls Tryd.prog 63 #[u, v] W (KP (KV (.bool false)) W)) := Lib.hid (fun W q1 q2 => by have := HAL1.out W q1 q2; rwa [hno] at this)
                clear hno
                obtain ⟨fbg_0, fbg_1, fbg_2, fbg_3, fbg_4, fbg_l, -⟩ := (bg_rwT.out.below KB.out).o5
                go_wp2_with (go_at_call 63; refine name_calls ?_; intro w13 e13; refine Hid.out ?_)
                unfold Hid
                have h13 : Below wD.heap.size wD w13 := by rw [e13]; exact bel
                have l_13 := Lib.hid (KSC.st _ _ _ _ _ HLL.out h13)
                have HB13 := Lib.hid (KB.out.trans (h13.mono KB.out.size))
                clear e13 h13
                refine (HAL2.out _ (KG.st _ _ _ _ _ _ _ _ _ _ ug_rwT.out HB13.out) l_13.out).mono ?_
                rintro r w14 ⟨v14, rfl, rfl, h14⟩
                have l_14 := Lib.hid (KSC.st _ _ _ _ _ l_13.out h14)
                have HB14 := Lib.hid (HB13.out.trans (h14.mono HB13.out.size))
                clear h14
                clear fbg_0 fbg_1 fbg_2 fbg_3 fbg_4 fbg_l
                go_wp2
                go_roundw
                case rel => exact ⟨c + 1, by omega, by go_num, HB14.out⟩
                case measure => simp [intOf]; omega
          · obtain rfl : c = T := by omega
            go_wp2_with (go_at_call 15; refine name_calls ?_; intro w15 e15; refine Hid.out ?_)
            unfold Hid
            have h15 : Below wC.heap.size wC w15 := by rw [e15]; exact bel
            have HB15 := Lib.hid (KB.out.trans (h15.mono KB.out.size))
            clear e15 h15
            refine (awake_any _ (HTabwT.out.below HB15.out)).mono ?_
            rintro r w16 ⟨rfl, h16⟩
            have HB16 := Lib.hid (HB15.out.trans (h16.mono HB15.out.size))
            clear h16
            go_wp2
            go_ret
            exact ⟨by first | rfl | (simp; done), HOwT.out.trans (HB16.out.mono HOwT.out.size)⟩
end Go.Proofs.YtdeapbihbhoefaaDoor

/- ProtectLoudest, case n. -/
namespace Go.Proofs.YtdeapbihbhoefaaDoor
open Go.RowKit
open Calm (bcell Blk)
set_option maxRecDepth 100000 in
set_option maxHeartbeats 8000000 in
theorem loudest_n (lk ht rc n : Int) (M L N : Nat) (ts gs xs : List Int) (u v : Value) (w : World) (hTab : PTab w) (hM : M = ts.length) (hL : L = gs.length) (hN : N = xs.length) (hn8 : 0 ≤ n ∧ n ≤ 255) (b0 : M ≤ 9 ∧ L ≤ 9) (b1 : guardErr lk ht rc ts gs = 0) (b2 : firstOf [someErr (xs.length : Int) 6, ascErr xs (-2048) 2048] = 0) (b3 : N ≤ 4) (k : Nat) (hk3 : k ≤ 3) (hk : n % 4 = (k : Int)) (LR : List Int) (b4 : loudF lk ht rc ts gs xs k = some LR) (b5 : (0 : Int) ∉ xs) (hu : KG lk ht rc M ts L gs u w) (hv : KS N xs v w) :
    Calls Tryd.prog 10 #[u, v, .int .u8 n] w fun r w' => r = .returned (.bool true) ∧ Below w.heap.size w w' := by
  obtain ⟨A1, c1, A2, c2, rfl, hT, hG⟩ := hu
  obtain ⟨A3, c3, rfl, hP⟩ := hv
  have HU := Lib.hid (show KG lk ht rc M ts L gs (.agg #[(.int .i64 lk), (.int .i64 ht), .slice A1 M c1, (.int .i64 rc), .slice A2 L c2]) w from ⟨_, _, _, _, rfl, hT, hG⟩)
  have HX := Lib.hid (show KS N xs (.slice A3 N c3) w from ⟨_, _, rfl, hP⟩)
  have HSH : Hid (∀ W, KG lk ht rc M ts L gs (.agg #[(.int .i64 lk), (.int .i64 ht), .slice A1 M c1, (.int .i64 rc), .slice A2 L c2]) W → Calls Tryd.prog 13 #[.agg #[(.int .i64 lk), (.int .i64 ht), .slice A1 M c1, (.int .i64 rc), .slice A2 L c2]] W (KP (KV (.bool true)) W)) := Lib.hid (fun W q => by have := Short_K q; rwa [decide_eq_true b0] at this)
  obtain ⟨b01, b02⟩ := b0
  obtain ⟨GE, hGE⟩ : ∃ GE, GE = guardErr lk ht rc ts gs := ⟨_, rfl⟩
  have HCG : Hid (∀ {x : Value} (W : World), KG lk ht rc M ts L gs x W → Calls Tryd.prog 18 #[x] W (KP (KV (.int .i64 GE)) W)) := Lib.hid (fun W q => by rw [hGE]; exact rGuard_K hM hL (by omega) (by omega) q)
  have b1' := b1
  rw [← hGE] at b1
  subst b1
  obtain ⟨LE, hLE⟩ : ∃ LE, LE = firstOf [someErr (xs.length : Int) 6, ascErr xs (-2048) 2048] := ⟨_, rfl⟩
  have HCL : Hid (∀ {x : Value} (W : World), KS N xs x W → Calls Tryd.prog 57 #[x] W (KP (KV (.int .i64 LE)) W)) := Lib.hid (fun W q => by rw [hLE]; exact rCheckLevels_L hN q)
  have b2' := b2
  rw [← hLE] at b2
  subst b2
  have hd4 : decide ((4 : Int) < (N : Int)) = false := decide_eq_false (by omega)
  have hV := guard_valid b1'
  have hlz := lev_zero b2'
  have hxs := hlz.2.2.2
  have hNN : 1 ≤ N ∧ N ≤ 4 := ⟨by omega, b3⟩
  have HNN := Lib.hid hNN
  have HN := Lib.hid hN
  have HXS := Lib.hid hxs
  have he := loudErr_of (k := k) (gs := gs) b1' b2' (by omega)
  have HPW : Hid (∀ i, i ≤ 3 → N ^ i ≤ 64) := Lib.hid (fun i hi => pow_small b3 i hi)
  have HGU : Hid (∀ {x : Value} (W : World), KG lk ht rc M ts L gs x W → Calls Tryd.prog 17 #[x] W (KP (KGI lk ht rc M ts L gs) W)) := Lib.hid (fun W q => guard_K hM hL (by omega) (by omega) q)
  have HIN : Hid (∀ {x : Value} (W : World), KS N xs x W → Calls Tryd.prog 41 #[x] W (KP (KSI N xs) W)) := Lib.hid (fun W q => ints_K hN (by omega) q)
  have HAL : Hid (∀ {u v : Value} (ys : List Int) (W : World), k = ys.length → inB 2048 ys → KG lk ht rc M ts L gs u W → KSC k ys v W → Calls Tryd.prog 63 #[u, v] W (KP (KV (.bool (allowF lk ht rc ts ys))) W)) := Lib.hid (fun ys W q1 q2 q3 q4 => allowed_K hV hM q1 (by omega) q2 q3 q4)
  have HHI : Hid (∀ {u : Value} (y : Int) (W : World), KS N xs u W → Calls Tryd.prog 64 #[u, (.int .i64 y)] W (KP (KV (.bool (decide (y ∈ xs)))) W)) := Lib.hid (fun y W q => hasInt_K hN (by omega) q)
  have HEN : Hid (∀ {u : Value} (m : Nat) (ys : List Int) (W : World), m = ys.length → m ≤ 10 → inB 2048 ys → KS m ys u W → Calls Tryd.prog 60 #[u] W (KP (KV (.int .i64 (enF ys))) W)) := Lib.hid (fun m ys W q1 q2 q3 q4 => rEnergy_K q1 (by omega) q3 q4)
  obtain ⟨hn1, hn2⟩ := hn8
  have HL1 : Hid (∀ {a y : Value} (W : World), Lim W → KG lk ht rc M ts L gs a W → KS N xs y W → Calls Tryd.prog 55 #[a, y, (.int .i64 ((k : Int)))] W (KP (K2 (KSC k LR) (KV (.int .i64 0))) W)) := Lib.hid (fun W q0 q q2 => xLoudest_some hM hL hN q0 q q2 he b4)
  obtain ⟨hlr1, hlr2, hlr3, hlr4, hlr5⟩ := loud_best hV hxs b4
  have HLR : Hid (k = LR.length) := Lib.hid hlr1.symm
  have HMEM := Lib.hid hlr3
  have HALR := Lib.hid hlr4
  have HCO := Lib.hid hlr5
  have HAB : Hid (∀ {u v : Value} (W : World), KG lk ht rc M ts L gs u W → KSC k LR v W → Calls Tryd.prog 63 #[u, v] W (KP (KV (.bool true)) W)) := Lib.hid (fun W q1 q2 => by have := HAL.out LR W hlr1.symm hlr2 q1 q2; rwa [hlr4] at this)
  obtain ⟨EB, hEB⟩ : ∃ EB, EB = enF LR := ⟨_, rfl⟩
  have HEB : Hid (enF LR = EB) := Lib.hid hEB.symm
  have HE1 : Hid (∀ {u : Value} (W : World), KS k LR u W → Calls Tryd.prog 60 #[u] W (KP (KV (.int .i64 EB)) W)) := Lib.hid (fun W q => by rw [hEB]; exact HEN.out k LR W hlr1.symm (by omega) hlr2 q)
  have HSI : Hid (∀ {x y : Value} (W : World), KS k LR x W → KS k LR y W → Calls Tryd.prog 38 #[x, y] W (KP (KV (.bool true)) W)) := Lib.hid (fun W q q2 => same_T rfl hlr1.symm hlr1.symm (by omega) q q2)
  have HH0 : Hid (∀ {u : Value} (W : World), KS N xs u W → Calls Tryd.prog 64 #[u, (.int .i64 0)] W (KP (KV (.bool false)) W)) := Lib.hid (fun W q => by have := HHI.out 0 W q; rwa [decide_eq_false b5] at this)
  have HTab := Lib.hid hTab
  clear hTab hM hL hN hT hG hP hGE b1' b01 b02 hLE b2' hV hxs hlz he hNN b4 b5 hlr1 hlr2 hlr3 hlr4 hlr5 hEB
  go_enter Tryd.func10, Tryd.ntmps10
  have HB0 := Lib.hid (Below.refl w.heap.size w)
  go_wp2_with (go_at_call 13; refine name_calls ?_; intro w1 e1; refine Hid.out ?_)
  unfold Hid
  have h1 : Below w.heap.size w w1 := by rw [e1]; exact bel
  have HB1 := Lib.hid (HB0.out.trans (h1.mono HB0.out.size))
  have bg_1 := Lib.hid (show Blk w1 w.heap.size #[(.int .i64 lk), (.int .i64 ht), .slice A1 M c1, (.int .i64 rc), .slice A2 L c2] from by rw [e1]; (repeat (first | ((with_reducible refine Blk.at_ ?_); focus (first | rfl | (simp; done) | (simp; omega))) | (with_reducible refine Blk.alloc ?_ _) | (with_reducible refine Blk.below ?_ (by with_reducible assumption)) | (with_reducible refine Blk.drew ?_))))
  clear e1 h1
  refine (HSH.out _ (KG.st _ _ _ _ _ _ _ _ _ _ HU.out HB1.out)).mono ?_
  rintro r w2 ⟨v2, rfl, k2, h2⟩
  have bg_2 := Lib.hid (bg_1.out.below h2)
  have HB2 := Lib.hid (HB1.out.trans (h2.mono HB1.out.size))
  obtain rfl := k2
  clear h2
  have ug_rw2 := Lib.hid (KG.st _ _ _ _ _ _ _ _ _ _ HU.out HB2.out)
  have ux_rw2 := Lib.hid (KS.st _ _ _ _ _ HX.out HB2.out)
  have HTabw2 := Lib.hid (HTab.out.below HB2.out)
  have HZw2 := Lib.hid (Below.refl w2.heap.size w2)
  clear HU HX HTab
  obtain ⟨fbg_0, fbg_1, fbg_2, fbg_3, fbg_4, fbg_l, -⟩ := (bg_2.out.below HZw2.out).o5
  go_wp2_with (go_at_call 18; refine name_calls ?_; intro w3 e3; refine Hid.out ?_)
  unfold Hid
  have h3 : Below w2.heap.size w2 w3 := by rw [e3]; exact bel
  have HB3 := Lib.hid (HZw2.out.trans (h3.mono HZw2.out.size))
  clear e3 h3
  refine (HCG.out _ (KG.st _ _ _ _ _ _ _ _ _ _ ug_rw2.out HB3.out)).mono ?_
  rintro r w4 ⟨v4, rfl, k4, h4⟩
  have HB4 := Lib.hid (HB3.out.trans (h4.mono HB3.out.size))
  obtain rfl := k4
  clear h4
  clear fbg_0 fbg_1 fbg_2 fbg_3 fbg_4 fbg_l
  go_wp2_with (go_at_call 57; refine name_calls ?_; intro w5 e5; refine Hid.out ?_)
  unfold Hid
  have h5 : Below w4.heap.size w4 w5 := by rw [e5]; exact bel
  have HB5 := Lib.hid (HB4.out.trans (h5.mono HB4.out.size))
  clear e5 h5
  refine (HCL.out _ (KS.st _ _ _ _ _ ux_rw2.out HB5.out)).mono ?_
  rintro r w6 ⟨v6, rfl, k6, h6⟩
  have HB6 := Lib.hid (HB5.out.trans (h6.mono HB5.out.size))
  obtain rfl := k6
  clear h6
  have ug_rw6 := Lib.hid (KG.st _ _ _ _ _ _ _ _ _ _ ug_rw2.out HB6.out)
  have ux_rw6 := Lib.hid (KS.st _ _ _ _ _ ux_rw2.out HB6.out)
  have bg_rw6 := Lib.hid (bg_2.out.below HB6.out)
  have HTabw6 := Lib.hid (HTabw2.out.below HB6.out)
  have HOw6 := Lib.hid (HB2.out.trans (HB6.out.mono HB2.out.size))
  have HZw6 := Lib.hid (Below.refl w6.heap.size w6)
  clear HB6 ug_rw2 ux_rw2 bg_2 HTabw2 HB2
  obtain ⟨fbg_0, fbg_1, fbg_2, fbg_3, fbg_4, fbg_l, -⟩ := (bg_rw6.out.below HZw6.out).o5
  go_wp2_with (go_at_call 17; refine name_calls ?_; intro w7 e7; refine Hid.out ?_)
  unfold Hid
  have h7 : Below w6.heap.size w6 w7 := by rw [e7]; exact bel
  have HB7 := Lib.hid (HZw6.out.trans (h7.mono HZw6.out.size))
  clear e7 h7
  refine (HGU.out _ (KG.st _ _ _ _ _ _ _ _ _ _ ug_rw6.out HB7.out)).mono ?_
  rintro r w8 ⟨v8, rfl, k8, h8⟩
  have HB8 := Lib.hid (HB7.out.trans (h8.mono HB7.out.size))
  have g_8 := Lib.hid k8
  clear k8 h8
  clear fbg_0 fbg_1 fbg_2 fbg_3 fbg_4 fbg_l
  go_wp2_with (go_at_call 41; refine name_calls ?_; intro w9 e9; refine Hid.out ?_)
  unfold Hid
  have h9 : Below w8.heap.size w8 w9 := by rw [e9]; exact bel
  have g_9 := Lib.hid ((KGI.ik _ _ _ _ _ _ _).st _ _ _ g_8.out h9)
  have HB9 := Lib.hid (HB8.out.trans (h9.mono HB8.out.size))
  clear e9 h9
  refine (HIN.out _ (KS.st _ _ _ _ _ ux_rw6.out HB9.out)).mono ?_
  rintro r w10 ⟨v10, rfl, k10, h10⟩
  have g_10 := Lib.hid ((KGI.ik _ _ _ _ _ _ _).st _ _ _ g_9.out h10)
  have HB10 := Lib.hid (HB9.out.trans (h10.mono HB9.out.size))
  have i_10 := Lib.hid k10
  clear k10 h10
  go_wp2_with (go_at_call 55; refine name_calls ?_; intro w11 e11; refine Hid.out ?_)
  unfold Hid
  have h11 : Below w10.heap.size w10 w11 := by rw [e11]; exact bel
  have g_11 := Lib.hid ((KGI.ik _ _ _ _ _ _ _).st _ _ _ g_10.out h11)
  have i_11 := Lib.hid ((KSI.ik N xs).st _ _ _ i_10.out h11)
  have HB11 := Lib.hid (HB10.out.trans (h11.mono HB10.out.size))
  clear e11 h11
  refine (HL1.out _ (HTabw6.out.below HB11.out).lim g_11.out.kg i_11.out.ks).mono ?_
  rintro r w12 ⟨v12, rfl, k12, h12⟩
  have g_12 := Lib.hid ((KGI.ik _ _ _ _ _ _ _).st _ _ _ g_11.out h12)
  have i_12 := Lib.hid ((KSI.ik N xs).st _ _ _ i_11.out h12)
  have HB12 := Lib.hid (HB11.out.trans (h12.mono HB11.out.size))
  obtain ⟨_, _, rfl, ⟨QA, QAc, rfl, q12, qa1, qa2⟩, rfl⟩ := k12
  have a_12 := Lib.hid (show KSC k LR (.slice QA k QAc) w12 from ⟨_, _, rfl, q12, qa1, qa2⟩)
  clear q12 h12 qa1 qa2
  have ug_rw12 := Lib.hid (KG.st _ _ _ _ _ _ _ _ _ _ ug_rw6.out HB12.out)
  have ux_rw12 := Lib.hid (KS.st _ _ _ _ _ ux_rw6.out HB12.out)
  have bg_rw12 := Lib.hid (bg_rw6.out.below HB12.out)
  have HTabw12 := Lib.hid (HTabw6.out.below HB12.out)
  have HOw12 := Lib.hid (HOw6.out.trans (HB12.out.mono HOw6.out.size))
  have HZw12 := Lib.hid (Below.refl w12.heap.size w12)
  clear HB12 ug_rw6 ux_rw6 bg_rw6 HTabw6 HOw6
  obtain ⟨fbg_0, fbg_1, fbg_2, fbg_3, fbg_4, fbg_l, -⟩ := (bg_rw12.out.below HZw12.out).o5
  go_wp2_with (go_at_call 63; refine name_calls ?_; intro w13 e13; refine Hid.out ?_)
  unfold Hid
  have h13 : Below w12.heap.size w12 w13 := by rw [e13]; exact bel
  have HB13 := Lib.hid (HZw12.out.trans (h13.mono HZw12.out.size))
  clear e13 h13
  refine (HAB.out _ (KG.st _ _ _ _ _ _ _ _ _ _ ug_rw12.out HB13.out) (KSC.st _ _ _ _ _ a_12.out HB13.out)).mono ?_
  rintro r w14 ⟨v14, rfl, k14, h14⟩
  have HB14 := Lib.hid (HB13.out.trans (h14.mono HB13.out.size))
  obtain rfl := k14
  clear h14
  clear fbg_0 fbg_1 fbg_2 fbg_3 fbg_4 fbg_l
  have ug_rw14 := Lib.hid (KG.st _ _ _ _ _ _ _ _ _ _ ug_rw12.out HB14.out)
  have ux_rw14 := Lib.hid (KS.st _ _ _ _ _ ux_rw12.out HB14.out)
  have a_rw14 := Lib.hid (KSC.st _ _ _ _ _ a_12.out HB14.out)
  have bg_rw14 := Lib.hid (bg_rw12.out.below HB14.out)
  have HTabw14 := Lib.hid (HTabw12.out.below HB14.out)
  have HOw14 := Lib.hid (HOw12.out.trans (HB14.out.mono HOw12.out.size))
  have HZw14 := Lib.hid (Below.refl w14.heap.size w14)
  clear HB14 ug_rw12 ux_rw12 a_12 bg_rw12 HTabw12 HOw12
  go_wp2
  go_loopw [74] (fun i wr => ∃ j : Nat, j ≤ k ∧ i = (.int .i64 ((j : Int))) ∧ Below w14.heap.size w14 wr) (fun i _ => k - (intOf i).toNat)
  case atStart => exact ⟨0, Nat.zero_le _, rfl, HZw14.out⟩
  case round =>
    obtain ⟨j, hj, rfl, kb⟩ := hrel
    rename World => wA
    have KB := Lib.hid kb
    clear kb
    by_cases hlt : j < k
    · have HCA := Lib.hid (KSC.st _ _ _ _ _ a_rw14.out KB.out)
      obtain ⟨_, _, ee, hcA, _⟩ := HCA.out
      cases ee
      obtain ⟨bA, oA, hA', hbl, hcell⟩ := hcA (by rw [← HLR.out]; omega)
      subst hA'
      have hck := hcell j (by rw [← HLR.out]; exact hlt)
      clear hcell hbl hcA
      have hmem := HMEM.out j hlt
      obtain ⟨x1, hx1⟩ : ∃ x1, x1 = LR.getD j 0 := ⟨_, rfl⟩
      rw [← hx1] at hck hmem
      have HH1 : Hid (∀ {u : Value} (W : World), KS N xs u W → Calls Tryd.prog 64 #[u, (.int .i64 x1)] W (KP (KV (.bool true)) W)) := Lib.hid (fun W q => by have := HHI.out x1 W q; rwa [decide_eq_true hmem] at this)
      clear hx1 hmem
      have hjk : (j : Int) < (k : Int) := by omega
      go_wp2_with (go_at_call 64; refine (HH1.out _ (KS.st _ _ _ _ _ ux_rw14.out KB.out)).mono ?_; rintro r w90 ⟨v90, rfl, rfl, h90⟩; refine Hid.out ?_)
      unfold Hid
      have KB9 := Lib.hid (KB.out.trans (h90.mono KB.out.size))
      clear h90 hck
      go_wp2
      go_roundw
      case rel => exact ⟨j + 1, by omega, by go_num, KB9.out⟩
      case measure => simp [intOf]; omega
    · obtain rfl : j = k := by omega
      have ug_rwA := Lib.hid (KG.st _ _ _ _ _ _ _ _ _ _ ug_rw14.out KB.out)
      have ux_rwA := Lib.hid (KS.st _ _ _ _ _ ux_rw14.out KB.out)
      have a_rwA := Lib.hid (KSC.st _ _ _ _ _ a_rw14.out KB.out)
      have bg_rwA := Lib.hid (bg_rw14.out.below KB.out)
      have HTabwA := Lib.hid (HTabw14.out.below KB.out)
      have HOwA := Lib.hid (HOw14.out.trans (KB.out.mono HOw14.out.size))
      have HZwA := Lib.hid (Below.refl wA.heap.size wA)
      clear KB ug_rw14 ux_rw14 a_rw14 bg_rw14 HTabw14 HOw14
      go_wp2
      go_loopw [12, 84] (fun t i wr => ∃ e : Nat, e ≤ j ∧ i = (.int .i64 ((e : Int))) ∧ t = (.int .i64 (((N ^ e : Nat) : Int))) ∧ Below wA.heap.size wA wr) (fun _ i _ => j - (intOf i).toNat)
      case atStart => exact ⟨0, Nat.zero_le _, rfl, rfl, HZwA.out⟩
      case round =>
        obtain ⟨m, hm, rfl, rfl, kb⟩ := hrel
        rename World => wT
        have KB := Lib.hid kb
        clear kb
        by_cases hlt : m < j
        · have hp1 := HPW.out (m + 1) (by omega)
          have hp0 := HPW.out m (by omega)
          have hps : N ^ (m + 1) = N ^ m * N := Nat.pow_succ ..
          obtain ⟨p, hp⟩ : ∃ p, p = N ^ m := ⟨_, rfl⟩
          obtain ⟨p2, hp2⟩ : ∃ p2, p2 = N ^ (m + 1) := ⟨_, rfl⟩
          rw [← hp] at hp0 hps ⊢
          rw [← hp2] at hp1 hps
          have HP2 := Lib.hid hp2
          have hpm : (p : Int) * (N : Int) = (p2 : Int) := by rw [hps]; push_cast; rfl
          have hmk : (m : Int) < (j : Int) := by omega
          clear hp hp2 hps
          go_wp2
          go_roundw
          case rel => exact ⟨m + 1, by omega, by go_num, by rw [← HP2.out], KB.out⟩
          case measure => simp [intOf]; omega
        · obtain rfl : m = j := by omega
          have hT64 := HPW.out m (by omega)
          obtain ⟨T, hT⟩ : ∃ T, T = N ^ m := ⟨_, rfl⟩
          rw [← hT] at hT64 ⊢
          have HT := Lib.hid hT
          clear hT
          have ug_rwT := Lib.hid (KG.st _ _ _ _ _ _ _ _ _ _ ug_rwA.out KB.out)
          have ux_rwT := Lib.hid (KS.st _ _ _ _ _ ux_rwA.out KB.out)
          have a_rwT := Lib.hid (KSC.st _ _ _ _ _ a_rwA.out KB.out)
          have bg_rwT := Lib.hid (bg_rwA.out.below KB.out)
          have HTabwT := Lib.hid (HTabwA.out.below KB.out)
          have HOwT := Lib.hid (HOwA.out.trans (KB.out.mono HOwA.out.size))
          have HZwT := Lib.hid (Below.refl wT.heap.size wT)
          clear KB ug_rwA ux_rwA a_rwA bg_rwA HTabwA HOwA
          obtain ⟨c0, hc0, hce, hcl⟩ := HCO.out
          have hT0 : T = N ^ m := HT.out
          rw [← HN.out, ← hT0] at hc0
          have HCE := Lib.hid hce
          have HCLT := Lib.hid hcl
          clear hce hcl hT0
          have hmkm := mk_ints m (by omega)
          go_wp2
          go_loopw [92] (fun i wr => ∃ c : Nat, c ≤ c0 ∧ i = (.int .i64 ((c : Int))) ∧ Below wT.heap.size wT wr) (fun i _ => T + 1 - (intOf i).toNat)
          case atStart => exact ⟨0, Nat.zero_le _, rfl, HZwT.out⟩
          case round =>
            obtain ⟨c, hc, rfl, kb⟩ := hrel
            rename World => wC
            have KB := Lib.hid kb
            clear kb
            by_cases hltC : c < T
            · have hcT : (c : Int) < (T : Int) := by omega
              obtain ⟨gb, hgb⟩ : ∃ gb, gb = wC.heap.size := ⟨_, rfl⟩
              have hgb0 : wT.heap.size ≤ gb := by rw [hgb]; exact KB.out.size
              go_wp2
              refine name_world ?_
              intro wm em
              have hbm : Below wT.heap.size wT wm := by rw [em]; exact KB.out.alloc KB.out.size _
              have KBm := Lib.hid hbm
              have hkm : Blk wm gb (zerosA m).toArray := by rw [em, hgb]; exact Calm.Blk.new _ _ _
              have HCm := Lib.hid (cells_zeros hkm)
              have HFm := Lib.hid hkm.f
              have hgl := hkm.lt
              rw [← hgb]
              clear em hbm hkm hgb
              go_loopw [15, 16] (fun i z wr => ∃ j r : Nat, j + r = m ∧ i = (.int .i64 ((r : Int) - 1)) ∧ z = (.int .i64 (((c / N ^ j : Nat) : Int))) ∧ Below wT.heap.size wT wr ∧ gb < wr.heap.size ∧ (∀ q, wr.frozen? ⟨gb, q, none⟩ = false) ∧ Cells wr (some ⟨gb, 0, none⟩) (codeM xs m c j)) (fun i _ _ => (intOf i + 1).toNat)
              case atStart => exact ⟨0, m, Nat.zero_add _, by first | rfl | go_num, by simp, KBm.out, hgl, HFm.out, by rw [codeM_zero]; exact HCm.out⟩
              case round =>
                obtain ⟨j, r, hjr, rfl, rfl, kb, kl, kf, kc⟩ := hrel
                rename World => wD
                have KB := Lib.hid kb
                have KF := Lib.hid kf
                have KC := Lib.hid kc
                clear kb kf kc
                cases r with
                | succ r =>
                  have hp0 := HPW.out j (by omega)
                  have hpp : 0 < N ^ j := Nat.pow_pos (by have := HNN.out; omega)
                  have hdd : c / N ^ (j + 1) = c / N ^ j / N := by rw [Nat.pow_succ, Nat.div_div_eq_div_mul]
                  have hcs := codeM_succ xs (n := m) (c := c) (k := j) (by omega)
                  rw [show m - 1 - j = r by omega, ← HN.out] at hcs
                  have hab : c / N ^ j ≤ c := Nat.div_le_self _ _
                  obtain ⟨a, ha⟩ : ∃ a, a = c / N ^ j := ⟨_, rfl⟩
                  rw [← ha] at hdd hcs hab ⊢
                  have hnn := HNN.out
                  have hqN : a % N < N := Nat.mod_lt _ (by omega)
                  have hqI : (a : Int) % (N : Int) = ((a % N : Nat) : Int) := by push_cast; rfl
                  have hdI : (a : Int) / (N : Int) = ((a / N : Nat) : Int) := by push_cast; rfl
                  rw [← hdd] at hdI
                  have hd64 : c / N ^ (j + 1) ≤ a := by rw [hdd]; exact Nat.div_le_self _ _
                  obtain ⟨q, hq⟩ : ∃ q, q = a % N := ⟨_, rfl⟩
                  obtain ⟨d, hd⟩ : ∃ d, d = c / N ^ (j + 1) := ⟨_, rfl⟩
                  rw [← hq] at hqN hqI hcs
                  rw [← hd] at hdI hd64
                  have HD := Lib.hid hd
                  have HCS := Lib.hid hcs
                  have hcX := (KS.st _ _ _ _ _ ux_rwT.out KB.out)
                  obtain ⟨_, _, ee, hcX'⟩ := hcX
                  cases ee
                  obtain ⟨bX, oX, hA', hblX, hcell⟩ := hcX' (by rw [← HN.out]; omega)
                  subst hA'
                  have hxk := hcell q (by rw [← HN.out]; exact hqN)
                  obtain ⟨x1, hx1⟩ : ∃ x1, x1 = xs.getD q 0 := ⟨_, rfl⟩
                  rw [← hx1] at hxk hcs
                  have HCS' := Lib.hid hcs
                  obtain ⟨b5, o5, hA', hbl5, hcell5⟩ := KC.out (by rw [codeM_len]; omega)
                  cases hA'
                  have hgk := hcell5 r (by rw [codeM_len]; omega)
                  rw [Nat.zero_add] at hgk
                  have hfr := KF.out r
                  have hr1 : (r : Int) < (m : Int) := by omega
                  have hN0 : ¬ (N : Int) = 0 := by omega
                  obtain ⟨y1, y2⟩ := IntWalk.tdiv_le (a : Int) (N : Int) (by omega) (by omega)
                  have hqN' : (q : Int) < (N : Int) := by omega
                  clear hp0 hpp hdd hcs hcell hcX' hcell5 ha hq hd hx1 hbl5
                  obtain ⟨u, hu⟩ : ∃ u, u = (codeM xs m c j).getD r 0 := ⟨_, rfl⟩
                  rw [← hu] at hgk
                  clear hu
                  go_wp2
                  go_roundw
                  case rel => exact ⟨j + 1, r, by omega, by go_num, by rw [← HD.out], KB.out.setCell (p := ⟨gb, r, none⟩) hgb0 _, by simpa using kl, (fun q => by rw [World.frozen?_setCell]; exact KF.out q), by have h := Cells.setAt KC.out (k := r) (by rw [codeM_len]; omega) x1; rw [Nat.zero_add, HCS'.out] at h; exact h⟩
                  case measure => first | (simp [intOf]; done) | (simp [intOf]; omega)
                | zero =>
                  obtain rfl : j = m := by omega
                  have HLL := Lib.hid (show KSC j (codeL xs j c) (.slice (some ⟨gb, 0, none⟩) j j) wD from ⟨_, _, rfl, by rw [← codeM_all]; exact KC.out, Nat.le_refl _, by unfold maxLen; omega⟩)
                  clear KC KF kl hgl HCm HFm KBm
                  have HAL1 : Hid (∀ {u v : Value} (W : World), KG lk ht rc M ts L gs u W → KSC j (codeL xs j c) v W → Calls Tryd.prog 63 #[u, v] W (KP (KV (.bool (allowF lk ht rc ts (codeL xs j c)))) W)) := Lib.hid (fun W q1 q2 => HAL.out (codeL xs j c) W (codeL_len _ _ _).symm (codeL_in HXS.out _ _) q1 q2)
                  by_cases hal : allowF lk ht rc ts (codeL xs j c) = true
                  · have HAL2 : Hid (∀ {u v : Value} (W : World), KG lk ht rc M ts L gs u W → KSC j (codeL xs j c) v W → Calls Tryd.prog 63 #[u, v] W (KP (KV (.bool true)) W)) := Lib.hid (fun W q1 q2 => by have := HAL1.out W q1 q2; rwa [hal] at this)
                    have HEL : Hid (∀ {u : Value} (W : World), KSC j (codeL xs j c) u W → Calls Tryd.prog 60 #[u] W (KP (KV (.int .i64 (enF (codeL xs j c)))) W)) := Lib.hid (fun W q => HEN.out j (codeL xs j c) W (codeL_len _ _ _).symm (by omega) (codeL_in HXS.out _ _) q.ks)
                    obtain ⟨fbg_0, fbg_1, fbg_2, fbg_3, fbg_4, fbg_l, -⟩ := (bg_rwT.out.below KB.out).o5
                    go_wp2_with (go_at_call 63; refine name_calls ?_; intro w15 e15; refine Hid.out ?_)
                    unfold Hid
                    have h15 : Below wD.heap.size wD w15 := by rw [e15]; exact bel
                    have l_15 := Lib.hid (KSC.st _ _ _ _ _ HLL.out h15)
                    have HB15 := Lib.hid (KB.out.trans (h15.mono KB.out.size))
                    clear e15 h15
                    refine (HAL2.out _ (KG.st _ _ _ _ _ _ _ _ _ _ ug_rwT.out HB15.out) l_15.out).mono ?_
                    rintro r w16 ⟨v16, rfl, rfl, h16⟩
                    have l_16 := Lib.hid (KSC.st _ _ _ _ _ l_15.out h16)
                    have HB16 := Lib.hid (HB15.out.trans (h16.mono HB15.out.size))
                    clear h16
                    clear fbg_0 fbg_1 fbg_2 fbg_3 fbg_4 fbg_l
                    by_cases hcc : c = c0
                    · subst hcc
                      rw [HCE.out] at HEL
                      have HL9 := Lib.hid (show KSC j LR (.slice (some ⟨gb, 0, none⟩) j j) w16 by rw [← HCE.out]; exact l_16.out)
                      have HELc : Hid (∀ {u : Value} (W : World), KSC j LR u W → Calls Tryd.prog 60 #[u] W (KP (KV (.int .i64 EB)) W)) := Lib.hid (fun W q => HE1.out W q.ks)
                      clear HEL
                      go_wp2_with (go_at_call 60; refine name_calls ?_; intro w17 e17; refine Hid.out ?_)
                      unfold Hid
                      have h17 : Below w16.heap.size w16 w17 := by rw [e17]; exact bel
                      have l_17 := Lib.hid (KSC.st _ _ _ _ _ HL9.out h17)
                      have HB17 := Lib.hid (HB16.out.trans (h17.mono HB16.out.size))
                      clear e17 h17
                      refine (HELc.out _ l_17.out).mono ?_
                      rintro r w18 ⟨v18, rfl, rfl, h18⟩
                      have l_18 := Lib.hid (KSC.st _ _ _ _ _ l_17.out h18)
                      have HB18 := Lib.hid (HB17.out.trans (h18.mono HB17.out.size))
                      clear h18
                      go_wp2_with (go_at_call 60; refine name_calls ?_; intro w19 e19; refine Hid.out ?_)
                      unfold Hid
                      have h19 : Below w18.heap.size w18 w19 := by rw [e19]; exact bel
                      have l_19 := Lib.hid (KSC.st _ _ _ _ _ l_18.out h19)
                      have HB19 := Lib.hid (HB18.out.trans (h19.mono HB18.out.size))
                      clear e19 h19
                      refine (HELc.out _ (KSC.st _ _ _ _ _ a_rwT.out HB19.out)).mono ?_
                      rintro r w20 ⟨v20, rfl, rfl, h20⟩
                      have l_20 := Lib.hid (KSC.st _ _ _ _ _ l_19.out h20)
                      have HB20 := Lib.hid (HB19.out.trans (h20.mono HB19.out.size))
                      clear h20
                      go_wp2_with (go_at_call 60; refine name_calls ?_; intro w21 e21; refine Hid.out ?_)
                      unfold Hid
                      have h21 : Below w20.heap.size w20 w21 := by rw [e21]; exact bel
                      have l_21 := Lib.hid (KSC.st _ _ _ _ _ l_20.out h21)
                      have HB21 := Lib.hid (HB20.out.trans (h21.mono HB20.out.size))
                      clear e21 h21
                      refine (HELc.out _ l_21.out).mono ?_
                      rintro r w22 ⟨v22, rfl, rfl, h22⟩
                      have l_22 := Lib.hid (KSC.st _ _ _ _ _ l_21.out h22)
                      have HB22 := Lib.hid (HB21.out.trans (h22.mono HB21.out.size))
                      clear h22
                      go_wp2_with (go_at_call 60; refine name_calls ?_; intro w23 e23; refine Hid.out ?_)
                      unfold Hid
                      have h23 : Below w22.heap.size w22 w23 := by rw [e23]; exact bel
                      have l_23 := Lib.hid (KSC.st _ _ _ _ _ l_22.out h23)
                      have HB23 := Lib.hid (HB22.out.trans (h23.mono HB22.out.size))
                      clear e23 h23
                      refine (HELc.out _ (KSC.st _ _ _ _ _ a_rwT.out HB23.out)).mono ?_
                      rintro r w24 ⟨v24, rfl, rfl, h24⟩
                      have l_24 := Lib.hid (KSC.st _ _ _ _ _ l_23.out h24)
                      have HB24 := Lib.hid (HB23.out.trans (h24.mono HB23.out.size))
                      clear h24
                      go_wp2_with (go_at_call 38; refine name_calls ?_; intro w25 e25; refine Hid.out ?_)
                      unfold Hid
                      have h25 : Below w24.heap.size w24 w25 := by rw [e25]; exact bel
                      have l_25 := Lib.hid (KSC.st _ _ _ _ _ l_24.out h25)
                      have HB25 := Lib.hid (HB24.out.trans (h25.mono HB24.out.size))
                      clear e25 h25
                      refine (HSI.out _ l_25.out.ks (KSC.st _ _ _ _ _ a_rwT.out HB25.out).ks).mono ?_
                      rintro r w26 ⟨v26, rfl, rfl, h26⟩
                      have l_26 := Lib.hid (KSC.st _ _ _ _ _ l_25.out h26)
                      have HB26 := Lib.hid (HB25.out.trans (h26.mono HB25.out.size))
                      clear h26
                      go_wp2_with (go_at_call 64; refine name_calls ?_; intro w27 e27; refine Hid.out ?_)
                      unfold Hid
                      have h27 : Below w26.heap.size w26 w27 := by rw [e27]; exact bel
                      have HB27 := Lib.hid (HB26.out.trans (h27.mono HB26.out.size))
                      clear e27 h27
                      refine (HH0.out _ (KS.st _ _ _ _ _ ux_rwT.out HB27.out)).mono ?_
                      rintro r w28 ⟨v28, rfl, k28, h28⟩
                      have HB28 := Lib.hid (HB27.out.trans (h28.mono HB27.out.size))
                      obtain rfl := k28
                      clear h28
                      go_wp2_with (go_at_call 15; refine name_calls ?_; intro w29 e29; refine Hid.out ?_)
                      unfold Hid
                      have h29 : Below w28.heap.size w28 w29 := by rw [e29]; exact bel
                      have HB29 := Lib.hid (HB28.out.trans (h29.mono HB28.out.size))
                      clear e29 h29
                      refine (awake_any _ (HTabwT.out.below HB29.out)).mono ?_
                      rintro r w30 ⟨rfl, h30⟩
                      have HB30 := Lib.hid (HB29.out.trans (h30.mono HB29.out.size))
                      clear h30
                      go_wp2
                      go_ret
                      exact ⟨by first | rfl | (simp; done), HOwT.out.trans (HB30.out.mono HOwT.out.size)⟩
                    · have hcc' : c < c0 := by omega
                      have hen := HCLT.out c hcc' hal
                      rw [HEB.out] at hen
                      obtain ⟨e1, he1⟩ : ∃ e1, e1 = enF (codeL xs j c) := ⟨_, rfl⟩
                      rw [← he1] at hen HEL
                      have HELc : Hid (∀ {u : Value} (W : World), KSC j LR u W → Calls Tryd.prog 60 #[u] W (KP (KV (.int .i64 EB)) W)) := Lib.hid (fun W q => HE1.out W q.ks)
                      have hne : (e1 == EB) = false := beq_eq_false_iff_ne.2 (by omega)
                      have hdl : decide (EB < e1) = false := decide_eq_false (by omega)
                      clear he1 hal
                      go_wp2_with (go_at_call 60; refine name_calls ?_; intro w31 e31; refine Hid.out ?_)
                      unfold Hid
                      have h31 : Below w16.heap.size w16 w31 := by rw [e31]; exact bel
                      have l_31 := Lib.hid (KSC.st _ _ _ _ _ l_16.out h31)
                      have HB31 := Lib.hid (HB16.out.trans (h31.mono HB16.out.size))
                      clear e31 h31
                      refine (HEL.out _ l_31.out).mono ?_
                      rintro r w32 ⟨v32, rfl, rfl, h32⟩
                      have l_32 := Lib.hid (KSC.st _ _ _ _ _ l_31.out h32)
                      have HB32 := Lib.hid (HB31.out.trans (h32.mono HB31.out.size))
                      clear h32
                      go_wp2_with (go_at_call 60; refine name_calls ?_; intro w33 e33; refine Hid.out ?_)
                      unfold Hid
                      have h33 : Below w32.heap.size w32 w33 := by rw [e33]; exact bel
                      have l_33 := Lib.hid (KSC.st _ _ _ _ _ l_32.out h33)
                      have HB33 := Lib.hid (HB32.out.trans (h33.mono HB32.out.size))
                      clear e33 h33
                      refine (HELc.out _ (KSC.st _ _ _ _ _ a_rwT.out HB33.out)).mono ?_
                      rintro r w34 ⟨v34, rfl, rfl, h34⟩
                      have l_34 := Lib.hid (KSC.st _ _ _ _ _ l_33.out h34)
                      have HB34 := Lib.hid (HB33.out.trans (h34.mono HB33.out.size))
                      clear h34
                      go_wp2_with (go_at_call 60; refine name_calls ?_; intro w35 e35; refine Hid.out ?_)
                      unfold Hid
                      have h35 : Below w34.heap.size w34 w35 := by rw [e35]; exact bel
                      have l_35 := Lib.hid (KSC.st _ _ _ _ _ l_34.out h35)
                      have HB35 := Lib.hid (HB34.out.trans (h35.mono HB34.out.size))
                      clear e35 h35
                      refine (HEL.out _ l_35.out).mono ?_
                      rintro r w36 ⟨v36, rfl, rfl, h36⟩
                      have l_36 := Lib.hid (KSC.st _ _ _ _ _ l_35.out h36)
                      have HB36 := Lib.hid (HB35.out.trans (h36.mono HB35.out.size))
                      clear h36
                      go_wp2_with (go_at_call 60; refine name_calls ?_; intro w37 e37; refine Hid.out ?_)
                      unfold Hid
                      have h37 : Below w36.heap.size w36 w37 := by rw [e37]; exact bel
                      have l_37 := Lib.hid (KSC.st _ _ _ _ _ l_36.out h37)
                      have HB37 := Lib.hid (HB36.out.trans (h37.mono HB36.out.size))
                      clear e37 h37
                      refine (HELc.out _ (KSC.st _ _ _ _ _ a_rwT.out HB37.out)).mono ?_
                      rintro r w38 ⟨v38, rfl, rfl, h38⟩
                      have l_38 := Lib.hid (KSC.st _ _ _ _ _ l_37.out h38)
                      have HB38 := Lib.hid (HB37.out.trans (h38.mono HB37.out.size))
                      clear h38
                      go_wp2
                      go_roundw
                      case rel => exact ⟨c + 1, by omega, by go_num, HB38.out⟩
                      case measure => simp [intOf]; omega
                  · rw [Bool.not_eq_true] at hal
                    have HAL2 : Hid (∀ {u v : Value} (W : World), KG lk ht rc M ts L gs u W → KSC j (codeL xs j c) v W → Calls Tryd.prog 63 #[u, v] W (KP (KV (.bool false)) W)) := Lib.hid (fun W q1 q2 => by have := HAL1.out W q1 q2; rwa [hal] at this)
                    have hcc : c ≠ c0 := fun e => by rw [e, HCE.out, HALR.out] at hal; cases hal
                    obtain ⟨fbg_0, fbg_1, fbg_2, fbg_3, fbg_4, fbg_l, -⟩ := (bg_rwT.out.below KB.out).o5
                    go_wp2_with (go_at_call 63; refine name_calls ?_; intro w39 e39; refine Hid.out ?_)
                    unfold Hid
                    have h39 : Below wD.heap.size wD w39 := by rw [e39]; exact bel
                    have l_39 := Lib.hid (KSC.st _ _ _ _ _ HLL.out h39)
                    have HB39 := Lib.hid (KB.out.trans (h39.mono KB.out.size))
                    clear e39 h39
                    refine (HAL2.out _ (KG.st _ _ _ _ _ _ _ _ _ _ ug_rwT.out HB39.out) l_39.out).mono ?_
                    rintro r w40 ⟨v40, rfl, rfl, h40⟩
                    have l_40 := Lib.hid (KSC.st _ _ _ _ _ l_39.out h40)
                    have HB40 := Lib.hid (HB39.out.trans (h40.mono HB39.out.size))
                    clear h40
                    clear fbg_0 fbg_1 fbg_2 fbg_3 fbg_4 fbg_l
                    go_wp2
                    go_roundw
                    case rel => exact ⟨c + 1, by omega, by go_num, HB40.out⟩
                    case measure => simp [intOf]; omega
            · omega
end Go.Proofs.YtdeapbihbhoefaaDoor
