/- Part 27 of the texts of the claim: LOp_b, LOpAll, OpRow. -/
import Derived.Test.YtdeapbihbhoefaaDoorOp24
import Derived.Test.YtdeapbihbhoefaaDoorOp25
import Derived.Test.YtdeapbihbhoefaaDoorOp26
import Derived.Test.YtdeapbihbhoefaaDoorOp17

/- ProtectOpposite, case b. -/
namespace Go.Proofs.YtdeapbihbhoefaaDoor
open Go.RowKit
open Calm (bcell Blk)
set_option maxRecDepth 100000 in
set_option maxHeartbeats 8000000 in
theorem opposite_b (lk ht rc at' : Int) (M L N : Nat) (ts gs xs : List Int) (n0 : Nat) (k0 : Nat) (u : Value) (A3 : Option Addr) (c3 : Nat) (w : World) (hTab : PTab w) (hM : M = ts.length) (hL : L = gs.length) (hN : N = xs.length) (hat : 0 ≤ at' ∧ at' ≤ 255) (b0 : M ≤ 9 ∧ L ≤ 9) (b1 : N ≤ 40) (b2 : guardErr lk ht rc ts gs = 0) (b3 : sigErr xs = 0) (hn0 : at' % ((N : Int) + 1) = (n0 : Int)) (hn1 : n0 ≤ N) (b4 : 0 < N) (hk0 : (n0 : Int) % (N : Int) = (k0 : Int)) (hk1 : k0 < N) (b5 : ¬ (outsK lk ht rc ts gs xs N).getD k0 0 < 2048) (hu : KG lk ht rc M ts L gs u w) (hP : Cells w A3 xs) (hc3 : N ≤ c3 ∧ c3 ≤ maxLen) :
    Calls Tryd.prog 12 #[u, .slice A3 N c3, .int .u8 at'] w fun r w' => r = .returned (.bool true) ∧ Below w.heap.size w w' := by
  obtain ⟨A1, c1, A2, c2, rfl, hT, hG⟩ := hu
  have HU := Lib.hid (show KG lk ht rc M ts L gs (.agg #[(.int .i64 (lk)), (.int .i64 (ht)), .slice A1 M c1, (.int .i64 (rc)), .slice A2 L c2]) w from ⟨_, _, _, _, rfl, hT, hG⟩)
  have HX := Lib.hid (show KS N xs (.slice A3 N c3) w from ⟨_, _, rfl, hP⟩)
  have HSH : Hid (∀ W, KG lk ht rc M ts L gs (.agg #[(.int .i64 (lk)), (.int .i64 (ht)), .slice A1 M c1, (.int .i64 (rc)), .slice A2 L c2]) W → Calls Tryd.prog 13 #[.agg #[(.int .i64 (lk)), (.int .i64 (ht)), .slice A1 M c1, (.int .i64 (rc)), .slice A2 L c2]] W (KP (KV (.bool true)) W)) := Lib.hid (fun W q => by have := Short_K q; rwa [decide_eq_true b0] at this)
  obtain ⟨b01, b02⟩ := b0
  have hlen : (N : Int) ≤ 40 := by omega
  obtain ⟨GE, hGE⟩ : ∃ GE, GE = guardErr lk ht rc ts gs := ⟨_, rfl⟩
  have HCG : Hid (∀ {x : Value} (W : World), KG lk ht rc M ts L gs x W → Calls Tryd.prog 18 #[x] W (KP (KV (.int .i64 (GE))) W)) := Lib.hid (fun W q => by rw [hGE]; exact rGuard_K hM hL (by omega) (by omega) q)
  rw [← hGE] at b2
  obtain ⟨SE, hSE⟩ : ∃ SE, SE = sigErr xs := ⟨_, rfl⟩
  have HCX : Hid (∀ {x : Value} (W : World), KS N xs x W → Calls Tryd.prog 44 #[x] W (KP (KV (.int .i64 (SE))) W)) := Lib.hid (fun W q => by rw [hSE]; exact xSignal_K hN (by omega) q)
  rw [← hSE] at b3
  have b2' := b2
  have b3' := b3
  rw [hGE] at b2'
  rw [hSE] at b3'
  subst b2 b3
  have hV := guard_valid b2'
  have hX := sigErr_in b3'
  have HXB : Hid (∀ k : Nat, -2048 ≤ xs.getD k 0 ∧ xs.getD k 0 ≤ 2048) := Lib.hid (fun k => inB_get hX (by omega) k)
  have HN := Lib.hid hN
  have HGU : Hid (∀ {x : Value} (W : World), KG lk ht rc M ts L gs x W → Calls Tryd.prog 17 #[x] W (KP (KGI lk ht rc M ts L gs) W)) := Lib.hid (fun W q => guard_K hM hL (by omega) (by omega) q)
  have HIN : Hid (∀ {x : Value} {n : Nat} {l : List Int} (W : World) (_ : n = l.length) (_ : n ≤ 1000), KS n l x W → Calls Tryd.prog 41 #[x] W (KP (KSI n l) W)) := Lib.hid (fun W q1 q2 q => ints_K q1 (by omega) q)
  obtain ⟨A, hA⟩ : ∃ A, A = outsK lk ht rc ts gs xs N := ⟨_, rfl⟩
  obtain ⟨B, hB⟩ : ∃ B, B = negL A := ⟨_, rfl⟩
  have hAin := outs_in hV hX N
  rw [← hA] at hAin
  have HAB : Hid (∀ k : Nat, -2048 ≤ A.getD k 0 ∧ A.getD k 0 ≤ 2048) := Lib.hid (fun k => inB_get hAin (by omega) k)
  have HBG : Hid (∀ k : Nat, B.getD k 0 = -(A.getD k 0)) := Lib.hid (fun k => by rw [hB]; exact negL_getD A k)
  have HC3 := Lib.hid hc3
  have HXT := Lib.hid (show KS n0 (xs.take n0) (.slice A3 n0 c3) w from ⟨_, _, rfl, Cells.takeN hP n0⟩)
  have HNT := Lib.hid (show n0 = (xs.take n0).length by rw [List.length_take]; omega)
  have HNA := Lib.hid (show N = A.length by rw [hA]; exact (outsK_len _ _ _ _ _ _ _).symm)
  have HNB := Lib.hid (show N = B.length by rw [hB, negL_len]; exact HNA.out)
  have hsA : sigErr A = 0 := sigErr_ok hAin (by rw [← HNA.out]; omega)
  have hBin : inB 2048 B := by rw [hB]; exact negL_in hAin
  have hsB : sigErr B = 0 := sigErr_ok hBin (by rw [← HNB.out]; omega)
  obtain ⟨PH, hPH⟩ : ∃ PH, PH = pkH lk A N := ⟨_, rfl⟩
  obtain ⟨PX, hPX⟩ : ∃ PX, PX = pkX ts A N := ⟨_, rfl⟩
  have hpk := peaks_keep hV hX N N (Nat.le_refl _)
  rw [← hA, ← hPH, ← hPX] at hpk
  obtain ⟨hpk1, hpk2⟩ := hpk
  have HPA : Hid (∀ {a y : Value} (W : World), KG lk ht rc M ts L gs a W → KS N A y W → Calls Tryd.prog 43 #[a, y] W (KP (K2 (KV (.agg #[(.int .i64 (PH)), (.int .i64 (PX))])) (KV (.int .i64 (0)))) W)) := Lib.hid (fun W q q2 => by rw [hPH, hPX]; exact xPeaks_ok hM hL HNA.out (by omega) (by omega) (by omega) q q2 b2' hsA)
  have HPB : Hid (∀ {a y : Value} (W : World), KG lk ht rc M ts L gs a W → KS N B y W → Calls Tryd.prog 43 #[a, y] W (KP (K2 (KV (.agg #[(.int .i64 (PH)), (.int .i64 (PX))])) (KV (.int .i64 (0)))) W)) := Lib.hid (fun W q q2 => by rw [hPH, hPX, ← pkH_neg lk A, ← pkX_neg ts A, ← hB]; exact xPeaks_ok hM hL HNB.out (by omega) (by omega) (by omega) q q2 b2' hsB)
  have HCA : Hid (∀ {x : Value} (W : World), KS N A x W → Calls Tryd.prog 44 #[x] W (KP (KV (.int .i64 (0))) W)) := Lib.hid (fun W q => by rw [← hsA]; exact xSignal_K HNA.out (by omega) q)
  have HCK : Hid (∀ {a y z : Value} (W : World), Lim W → KG lk ht rc M ts L gs a W → KS N xs y W → KS N A z W → Calls Tryd.prog 65 #[a, y, z] W (KP (KV (.int .i64 (0))) W)) := Lib.hid (fun W q0 q q2 q3 => xCheckRun_ok hM hL hN HNA.out (by omega) (by omega) (by omega) q0 q q2 q3 b2' b3' hsA hA.symm)
  obtain ⟨LV, hLV⟩ : ∃ LV, LV = lvsK lk ht rc ts gs xs N := ⟨_, rfl⟩
  obtain ⟨i0, hii, hz0, hz1, hz2⟩ := info_parts Tryd.infoI
  have HR1 : Hid (∀ {a y : Value} (W : World), Lim W → KG lk ht rc M ts L gs a W → KS N xs y W → Calls Tryd.prog 40 #[a, y] W (KP (K2 (KSC N A) (KV (.int .i64 (0)))) W)) := Lib.hid (fun W q0 q q2 => by rw [hA]; exact xRun_cap hM hL hN (by omega) (by omega) (by omega) q0 q q2 b2' b3')
  have HR3 : Hid (∀ {a y : Value} (W : World), Lim W → KG lk ht rc M ts L gs a W → KS n0 (xs.take n0) y W → Calls Tryd.prog 40 #[a, y] W (KP (K2 (KS n0 (A.take n0)) (KV (.int .i64 (0)))) W)) := Lib.hid (fun W q0 q q2 => by rw [hA, outsK_begin lk ht rc ts gs xs hn1, ← outsK_take]; exact xRun_ok hM hL HNT.out (by omega) (by omega) (by omega) q0 q q2 b2' (sigErr_ok (fun z hz => hX z (List.mem_of_mem_take hz)) (by rw [← HNT.out]; omega)))
  have HR2 : Hid (∀ {a y : Value} (W : World), Lim W → KG lk ht rc M ts L gs a W → KS N (negL xs) y W → Calls Tryd.prog 40 #[a, y] W (KP (K2 (KS N B) (KV (.int .i64 (0)))) W)) := Lib.hid (fun W q0 q q2 => by rw [hB, hA, ← outsK_neg]; exact xRun_ok hM hL (by rw [negL_len]; exact hN) (by omega) (by omega) (by omega) q0 q q2 b2' (sigErr_ok (negL_in hX) (by rw [negL_len]; omega)))
  have HL1 : Hid (∀ {a y : Value} (W : World), Lim W → KG lk ht rc M ts L gs a W → KS N xs y W → Calls Tryd.prog 42 #[a, y] W (KP (K2 (KS N LV) (KV (.int .i64 (0)))) W)) := Lib.hid (fun W q0 q q2 => by rw [hLV]; exact xLevels_ok hM hL hN (by omega) (by omega) (by omega) q0 q q2 b2' b3')
  have HL2 : Hid (∀ {a y : Value} (W : World), Lim W → KG lk ht rc M ts L gs a W → KS N (negL xs) y W → Calls Tryd.prog 42 #[a, y] W (KP (K2 (KS N LV) (KV (.int .i64 (0)))) W)) := Lib.hid (fun W q0 q q2 => by rw [hLV, ← lvsK_neg]; exact xLevels_ok hM hL (by rw [negL_len]; exact hN) (by omega) (by omega) (by omega) q0 q q2 b2' (sigErr_ok (negL_in hX) (by rw [negL_len]; omega)))
  have HSI : Hid (∀ {x y : Value} (W : World), KS N LV x W → KS N LV y W → Calls Tryd.prog 38 #[x, y] W (KP (KV (.bool true)) W)) := Lib.hid (fun W q q2 => same_T rfl (by rw [hLV]; exact (lvsK_len _ _ _ _ _ _ _).symm) (by rw [hLV]; exact (lvsK_len _ _ _ _ _ _ _).symm) (by omega) q q2)
  have HSJ : Hid (∀ {x y : Value} (W : World), KS n0 (A.take n0) x W → KS n0 (A.take n0) y W → Calls Tryd.prog 38 #[x, y] W (KP (KV (.bool true)) W)) := Lib.hid (fun W q q2 => same_T rfl (by rw [List.length_take, ← HNA.out]; omega) (by rw [List.length_take, ← HNA.out]; omega) (by omega) q q2)
  have HZ := Lib.hid (show ((N : Int) == 0) = false ∧ ¬ (N : Int) = 0 from ⟨by simp; omega, by omega⟩)
  have HK0 := Lib.hid hk0
  rw [← hA] at b5
  obtain ⟨V, hV'⟩ : ∃ V, V = A.getD k0 0 := ⟨_, rfl⟩
  have HVK := Lib.hid hV'
  have hVb := HAB.out k0
  rw [← hV'] at hVb b5
  obtain ⟨VW, hVW⟩ : ∃ VW, VW = V + 1 - 2 := ⟨_, rfl⟩
  have HVW := Lib.hid hVW
  have hWin := wrong_in (k := k0) hAin VW (by omega)
  have hsW : sigErr (A.set k0 VW) = 0 := sigErr_ok hWin (by rw [List.length_set, ← HNA.out]; omega)
  have hne := wrong_ne (l := A) (k := k0) (by rw [← HNA.out]; exact hk1) (v := VW) (by rw [← hV']; omega)
  have HCN : Hid (∀ {a y z : Value} (W : World), Lim W → KG lk ht rc M ts L gs a W → KS N xs y W → KS N (A.set k0 VW) z W → Calls Tryd.prog 65 #[a, y, z] W (KP (KV (.int .i64 (22))) W)) := Lib.hid (fun W q0 q q2 q3 => xCheckRun_no hM hL hN (by rw [List.length_set]; exact HNA.out) (by omega) (by omega) (by omega) q0 q q2 q3 b2' b3' hsW (by rw [← hA]; exact hne))
  have HIO : Hid (∀ {x : Value} (W : World), KS N A x W → Calls Tryd.prog 41 #[x] W fun e W' => ∃ g c, e = .returned (.slice (some ⟨g, 0, none⟩) N c) ∧ W.heap.size ≤ g ∧ g < W'.heap.size ∧ (∀ i, W'.frozen? ⟨g, i, none⟩ = false) ∧ Cells W' (some ⟨g, 0, none⟩) A ∧ Below W.heap.size W W') := Lib.hid (fun W q => ints_O HNA.out (by omega) b4 q)
  have hV1 : 2048 < V + 1 := by omega
  clear hV' hVW hWin hsW hne b5 hk0
  have HTab := Lib.hid hTab
  clear hTab hM hL hN hT hG hP hV hX hA hB hLV hPH hPX hAin hBin hsA hsB hc3 hGE hSE b2' b3'
  go_enter Tryd.func12, Tryd.ntmps12
  have HB0 := Lib.hid (Below.refl w.heap.size w)
  go_wp2_with (go_at_call 13; refine name_calls ?_; intro w1 e1; refine Hid.out ?_)
  unfold Hid
  have h1 : Below w.heap.size w w1 := by rw [e1]; exact bel
  have HB1 := Lib.hid (HB0.out.trans (h1.mono HB0.out.size))
  have bg_1 := Lib.hid (show Blk w1 w.heap.size #[(.int .i64 (lk)), (.int .i64 (ht)), .slice A1 M c1, (.int .i64 (rc)), .slice A2 L c2] from by rw [e1]; (repeat (first | ((with_reducible refine Blk.at_ ?_); focus (first | rfl | (simp; done) | (simp; omega))) | (with_reducible refine Blk.alloc ?_ _) | (with_reducible refine Blk.below ?_ (by with_reducible assumption)) | (with_reducible refine Blk.drew ?_))))
  clear e1 h1
  refine (HSH.out _ (KG.st _ _ _ _ _ _ _ _ _ _ HU.out HB1.out)).mono ?_
  rintro r w2 ⟨v2, rfl, k2, h2⟩
  have bg_2 := Lib.hid (bg_1.out.below h2)
  have HB2 := Lib.hid (HB1.out.trans (h2.mono HB1.out.size))
  obtain rfl := k2
  clear h2
  have ug_rw2 := Lib.hid (KG.st _ _ _ _ _ _ _ _ _ _ HU.out HB2.out)
  have ux_rw2 := Lib.hid (KS.st _ _ _ _ _ HX.out HB2.out)
  have xt_rw2 := Lib.hid (KS.st _ _ _ _ _ HXT.out HB2.out)
  have HTabw2 := Lib.hid (HTab.out.below HB2.out)
  have HZw2 := Lib.hid (Below.refl w2.heap.size w2)
  clear HU HX HXT HTab
  obtain ⟨fbg_0, fbg_1, fbg_2, fbg_3, fbg_4, fbg_l, -⟩ := (bg_2.out.below HZw2.out).o5
  go_wp2_with (go_at_call 18; refine name_calls ?_; intro w3 e3; refine Hid.out ?_)
  unfold Hid
  have h3 : Below w2.heap.size w2 w3 := by rw [e3]; exact bel
  have HB3 := Lib.hid (HZw2.out.trans (h3.mono HZw2.out.size))
  clear e3 h3
  refine (HCG.out _ (KG.st _ _ _ _ _ _ _ _ _ _ ug_rw2.out HB3.out)).mono ?_
  rintro r w4 ⟨v4, rfl, k4, h4⟩
  have HB4 := Lib.hid (HB3.out.trans (h4.mono HB3.out.size))
  obtain rfl := k4
  clear h4
  clear fbg_0 fbg_1 fbg_2 fbg_3 fbg_4 fbg_l
  go_wp2_with (go_at_call 44; refine name_calls ?_; intro w5 e5; refine Hid.out ?_)
  unfold Hid
  have h5 : Below w4.heap.size w4 w5 := by rw [e5]; exact bel
  have HB5 := Lib.hid (HB4.out.trans (h5.mono HB4.out.size))
  clear e5 h5
  refine (HCX.out _ (KS.st _ _ _ _ _ ux_rw2.out HB5.out)).mono ?_
  rintro r w6 ⟨v6, rfl, k6, h6⟩
  have HB6 := Lib.hid (HB5.out.trans (h6.mono HB5.out.size))
  obtain rfl := k6
  clear h6
  have ug_rw6 := Lib.hid (KG.st _ _ _ _ _ _ _ _ _ _ ug_rw2.out HB6.out)
  have ux_rw6 := Lib.hid (KS.st _ _ _ _ _ ux_rw2.out HB6.out)
  have xt_rw6 := Lib.hid (KS.st _ _ _ _ _ xt_rw2.out HB6.out)
  have bg_rw6 := Lib.hid (bg_2.out.below HB6.out)
  have HTabw6 := Lib.hid (HTabw2.out.below HB6.out)
  have HOw6 := Lib.hid (HB2.out.trans (HB6.out.mono HB2.out.size))
  have HZw6 := Lib.hid (Below.refl w6.heap.size w6)
  clear HB6 ug_rw2 ux_rw2 xt_rw2 bg_2 HTabw2 HB2
  go_wp2
  go_loopw [50, 7] (fun i o wr => ∃ k : Nat, k ≤ N ∧ i = (.int .i64 ((k : Int))) ∧ wr.ownsRow w6.heap.size 3 1 o k ((negL (xs.take k)).map (Value.int .i64)) ∧ Below w6.heap.size w6 wr) (fun i _ _ => N - (intOf i).toNat)
  case atStart => exact ⟨0, Nat.zero_le _, rfl, World.ownsRow_nil _ _ _ _, HZw6.out⟩
  case round =>
    obtain ⟨k, hk, rfl, ho, kb⟩ := hrel
    obtain ⟨C, d, rfl⟩ := own_slice ho
    have HO := Lib.hid ho
    have KB := Lib.hid kb
    clear ho kb
    by_cases hlt : k < N
    · have HC := Lib.hid (KS.st _ _ _ _ _ ux_rw6.out KB.out)
      obtain ⟨_, _, ee, hcc⟩ := HC.out
      cases ee
      obtain ⟨b1, o1, hA, hbl, hcell⟩ := hcc (by rw [← HN.out]; omega)
      subst hA
      have hck := hcell k (by rw [← HN.out]; exact hlt)
      obtain ⟨t1, t2⟩ := HXB.out k
      obtain ⟨x, hx⟩ : ∃ x, x = xs.getD k 0 := ⟨_, rfl⟩
      rw [← hx] at hck t1 t2
      have HNX := Lib.hid (show negL (xs.take (k + 1)) = negL (xs.take k) ++ [-x] by rw [hx]; exact negL_succ (by rw [← HN.out]; exact hlt))
      clear hcell hx hcc
      go_wp2_with (at_builtin; refine name_list ?_; intro w3 e3; refine Hid.out ?_)
      have hb3 : Below wr.heap.size wr w3 := by rw [e3]; exact bel
      have KR3 := Lib.hid (show Blk w3 wr.heap.size #[(.int .i64 (-x))] by rw [e3]; exact Calm.Blk.new _ _ _)
      have HO3 := Lib.hid (ownsRow_below HO.out hb3)
      have KB3 := Lib.hid (KB.out.trans (hb3.mono KB.out.size))
      have hlt0 := HO.out.lt
      have hzw := KB.out.size
      have hz3 := KB3.out.size
      clear e3 hb3
      unfold Hid
      refine wpList_append_own _ rfl _ _ 22 rfl (w6.heap.size) 3 i0 _ 1 8 Tryd.underlying22 hii hz0 hz1 hz2 rfl (by decide) _ _ _ rfl HO3.out ⟨wr.heap.size, 0, none⟩ 1 1 [(.int .i64 (-x))] rfl rfl ?c1 ?c2 ?c3 ?c4 ?c5 ?_
      case c1 =>
        intro j u hj
        match j, hj with
        | 0, hj => simp at hj; subst hj; exact KR3.out.cell 0 _ rfl
      case c2 => intro u hu; simp at hu; subst hu; rfl
      case c3 => unfold maxLen; omega
      case c4 => omega
      case c5 => omega
      intro v4 w4 hown' hgrow _
      obtain ⟨C4, d4, rfl⟩ := own_slice hown'
      have hne : ∀ j, (Value.slice C k d).ownBlock = some j → w6.heap.size ≤ j := fun j hj => (hlt0 j hj).1
      have HB4 := Lib.hid (KB3.out.grown hgrow KB3.out.size (fun j hj => hne j hj))
      have HO4 := Lib.hid hown'
      clear hown' hgrow hlt0 hne
      go_wp2
      go_roundw
      case rel => exact ⟨k + 1, by omega, by go_num, by rw [HNX.out, List.map_append]; exact HO4.out, HB4.out⟩
      case measure => simp [intOf]; omega
    · obtain rfl : k = N := by omega
      have mi_r := Lib.hid (show KS k (negL xs) (.slice C k d) wr from (own_ksi (by rw [negL_len]; exact HN.out) (by have h := HO.out; rwa [show xs.take k = xs by rw [HN.out]; exact List.take_length] at h)).ks)
      clear HO
      have ug_rwr := Lib.hid (KG.st _ _ _ _ _ _ _ _ _ _ ug_rw6.out KB.out)
      have ux_rwr := Lib.hid (KS.st _ _ _ _ _ ux_rw6.out KB.out)
      have xt_rwr := Lib.hid (KS.st _ _ _ _ _ xt_rw6.out KB.out)
      have bg_rwr := Lib.hid (bg_rw6.out.below KB.out)
      have HTabwr := Lib.hid (HTabw6.out.below KB.out)
      have HOwr := Lib.hid (HOw6.out.trans (KB.out.mono HOw6.out.size))
      have HZwr := Lib.hid (Below.refl wr.heap.size wr)
      clear KB ug_rw6 ux_rw6 xt_rw6 bg_rw6 HTabw6 HOw6
      obtain ⟨fbg_0, fbg_1, fbg_2, fbg_3, fbg_4, fbg_l, -⟩ := (bg_rwr.out.below HZwr.out).o5
      go_wp2_with (go_at_call 17; refine name_calls ?_; intro w7 e7; refine Hid.out ?_)
      unfold Hid
      have h7 : Below wr.heap.size wr w7 := by rw [e7]; exact bel
      have HB7 := Lib.hid (HZwr.out.trans (h7.mono HZwr.out.size))
      clear e7 h7
      refine (HGU.out _ (KG.st _ _ _ _ _ _ _ _ _ _ ug_rwr.out HB7.out)).mono ?_
      rintro r w8 ⟨v8, rfl, k8, h8⟩
      have HB8 := Lib.hid (HB7.out.trans (h8.mono HB7.out.size))
      have g_8 := Lib.hid k8
      clear k8 h8
      clear fbg_0 fbg_1 fbg_2 fbg_3 fbg_4 fbg_l
      go_wp2_with (go_at_call 41; refine name_calls ?_; intro w9 e9; refine Hid.out ?_)
      unfold Hid
      have h9 : Below w8.heap.size w8 w9 := by rw [e9]; exact bel
      have g_9 := Lib.hid ((KGI.ik _ _ _ _ _ _ _).st _ _ _ g_8.out h9)
      have HB9 := Lib.hid (HB8.out.trans (h9.mono HB8.out.size))
      clear e9 h9
      refine (HIN.out _ HN.out (by omega) (KS.st _ _ _ _ _ ux_rwr.out HB9.out)).mono ?_
      rintro r w10 ⟨v10, rfl, k10, h10⟩
      have g_10 := Lib.hid ((KGI.ik _ _ _ _ _ _ _).st _ _ _ g_9.out h10)
      have HB10 := Lib.hid (HB9.out.trans (h10.mono HB9.out.size))
      have i_10 := Lib.hid k10
      clear k10 h10
      go_wp2_with (go_at_call 40; refine name_calls ?_; intro w11 e11; refine Hid.out ?_)
      unfold Hid
      have h11 : Below w10.heap.size w10 w11 := by rw [e11]; exact bel
      have g_11 := Lib.hid ((KGI.ik _ _ _ _ _ _ _).st _ _ _ g_10.out h11)
      have i_11 := Lib.hid ((KSI.ik k xs).st _ _ _ i_10.out h11)
      have HB11 := Lib.hid (HB10.out.trans (h11.mono HB10.out.size))
      clear e11 h11
      refine (HR1.out _ (HTabwr.out.below HB11.out).lim g_11.out.kg i_11.out.ks).mono ?_
      rintro r w12 ⟨v12, rfl, k12, h12⟩
      have g_12 := Lib.hid ((KGI.ik _ _ _ _ _ _ _).st _ _ _ g_11.out h12)
      have i_12 := Lib.hid ((KSI.ik k xs).st _ _ _ i_11.out h12)
      have HB12 := Lib.hid (HB11.out.trans (h12.mono HB11.out.size))
      obtain ⟨_, _, rfl, ⟨QA, QAc, rfl, q12, qa1, qa2⟩, rfl⟩ := k12
      have a_12 := Lib.hid (show KS k A (.slice QA k QAc) w12 from ⟨_, _, rfl, q12⟩)
      have at_12 := Lib.hid (show KS n0 (A.take n0) (.slice QA n0 QAc) w12 from ⟨_, _, rfl, Cells.takeN q12 n0⟩)
      have HQA := Lib.hid (show k ≤ QAc ∧ QAc ≤ maxLen from ⟨qa1, qa2⟩)
      clear q12 h12 qa1 qa2
      obtain ⟨fbg_0, fbg_1, fbg_2, fbg_3, fbg_4, fbg_l, -⟩ := (bg_rwr.out.below HB12.out).o5
      go_wp2_with (go_at_call 17; refine name_calls ?_; intro w13 e13; refine Hid.out ?_)
      unfold Hid
      have h13 : Below w12.heap.size w12 w13 := by rw [e13]; exact bel
      have a_13 := Lib.hid (KS.st _ _ _ _ _ a_12.out h13)
      have at_13 := Lib.hid (KS.st _ _ _ _ _ at_12.out h13)
      have HB13 := Lib.hid (HB12.out.trans (h13.mono HB12.out.size))
      clear e13 h13
      refine (HGU.out _ (KG.st _ _ _ _ _ _ _ _ _ _ ug_rwr.out HB13.out)).mono ?_
      rintro r w14 ⟨v14, rfl, k14, h14⟩
      have a_14 := Lib.hid (KS.st _ _ _ _ _ a_13.out h14)
      have at_14 := Lib.hid (KS.st _ _ _ _ _ at_13.out h14)
      have HB14 := Lib.hid (HB13.out.trans (h14.mono HB13.out.size))
      have g_14 := Lib.hid k14
      clear k14 h14
      clear fbg_0 fbg_1 fbg_2 fbg_3 fbg_4 fbg_l
      go_wp2_with (go_at_call 41; refine name_calls ?_; intro w15 e15; refine Hid.out ?_)
      unfold Hid
      have h15 : Below w14.heap.size w14 w15 := by rw [e15]; exact bel
      have a_15 := Lib.hid (KS.st _ _ _ _ _ a_14.out h15)
      have at_15 := Lib.hid (KS.st _ _ _ _ _ at_14.out h15)
      have g_15 := Lib.hid ((KGI.ik _ _ _ _ _ _ _).st _ _ _ g_14.out h15)
      have HB15 := Lib.hid (HB14.out.trans (h15.mono HB14.out.size))
      clear e15 h15
      refine (HIN.out _ (by rw [negL_len]; exact HN.out) (by omega) (KS.st _ _ _ _ _ mi_r.out HB15.out)).mono ?_
      rintro r w16 ⟨v16, rfl, k16, h16⟩
      have a_16 := Lib.hid (KS.st _ _ _ _ _ a_15.out h16)
      have at_16 := Lib.hid (KS.st _ _ _ _ _ at_15.out h16)
      have g_16 := Lib.hid ((KGI.ik _ _ _ _ _ _ _).st _ _ _ g_15.out h16)
      have HB16 := Lib.hid (HB15.out.trans (h16.mono HB15.out.size))
      have i_16 := Lib.hid k16
      clear k16 h16
      go_wp2_with (go_at_call 40; refine name_calls ?_; intro w17 e17; refine Hid.out ?_)
      unfold Hid
      have h17 : Below w16.heap.size w16 w17 := by rw [e17]; exact bel
      have a_17 := Lib.hid (KS.st _ _ _ _ _ a_16.out h17)
      have at_17 := Lib.hid (KS.st _ _ _ _ _ at_16.out h17)
      have g_17 := Lib.hid ((KGI.ik _ _ _ _ _ _ _).st _ _ _ g_16.out h17)
      have i_17 := Lib.hid ((KSI.ik k (negL xs)).st _ _ _ i_16.out h17)
      have HB17 := Lib.hid (HB16.out.trans (h17.mono HB16.out.size))
      clear e17 h17
      refine (HR2.out _ (HTabwr.out.below HB17.out).lim g_17.out.kg i_17.out.ks).mono ?_
      rintro r w18 ⟨v18, rfl, k18, h18⟩
      have a_18 := Lib.hid (KS.st _ _ _ _ _ a_17.out h18)
      have at_18 := Lib.hid (KS.st _ _ _ _ _ at_17.out h18)
      have g_18 := Lib.hid ((KGI.ik _ _ _ _ _ _ _).st _ _ _ g_17.out h18)
      have i_18 := Lib.hid ((KSI.ik k (negL xs)).st _ _ _ i_17.out h18)
      have HB18 := Lib.hid (HB17.out.trans (h18.mono HB17.out.size))
      obtain ⟨_, _, rfl, ⟨QB, QBc, rfl, q18⟩, rfl⟩ := k18
      have b_18 := Lib.hid (show KS k B (.slice QB k QBc) w18 from ⟨_, _, rfl, q18⟩)
      clear q18 h18
      have ug_rw18 := Lib.hid (KG.st _ _ _ _ _ _ _ _ _ _ ug_rwr.out HB18.out)
      have ux_rw18 := Lib.hid (KS.st _ _ _ _ _ ux_rwr.out HB18.out)
      have xt_rw18 := Lib.hid (KS.st _ _ _ _ _ xt_rwr.out HB18.out)
      have mi_rw18 := Lib.hid (KS.st _ _ _ _ _ mi_r.out HB18.out)
      have bg_rw18 := Lib.hid (bg_rwr.out.below HB18.out)
      have HTabw18 := Lib.hid (HTabwr.out.below HB18.out)
      have HOw18 := Lib.hid (HOwr.out.trans (HB18.out.mono HOwr.out.size))
      have HZw18 := Lib.hid (Below.refl w18.heap.size w18)
      clear HB18 ug_rwr ux_rwr xt_rwr mi_r bg_rwr HTabwr HOwr
      obtain ⟨fbg_0, fbg_1, fbg_2, fbg_3, fbg_4, fbg_l, -⟩ := (bg_rw18.out.below HZw18.out).o5
      go_wp2_with (go_at_call 17; refine name_calls ?_; intro w19 e19; refine Hid.out ?_)
      unfold Hid
      have h19 : Below w18.heap.size w18 w19 := by rw [e19]; exact bel
      have HB19 := Lib.hid (HZw18.out.trans (h19.mono HZw18.out.size))
      clear e19 h19
      refine (HGU.out _ (KG.st _ _ _ _ _ _ _ _ _ _ ug_rw18.out HB19.out)).mono ?_
      rintro r w20 ⟨v20, rfl, k20, h20⟩
      have HB20 := Lib.hid (HB19.out.trans (h20.mono HB19.out.size))
      have g_20 := Lib.hid k20
      clear k20 h20
      clear fbg_0 fbg_1 fbg_2 fbg_3 fbg_4 fbg_l
      go_wp2_with (go_at_call 41; refine name_calls ?_; intro w21 e21; refine Hid.out ?_)
      unfold Hid
      have h21 : Below w20.heap.size w20 w21 := by rw [e21]; exact bel
      have g_21 := Lib.hid ((KGI.ik _ _ _ _ _ _ _).st _ _ _ g_20.out h21)
      have HB21 := Lib.hid (HB20.out.trans (h21.mono HB20.out.size))
      clear e21 h21
      refine (HIN.out _ HN.out (by omega) (KS.st _ _ _ _ _ ux_rw18.out HB21.out)).mono ?_
      rintro r w22 ⟨v22, rfl, k22, h22⟩
      have g_22 := Lib.hid ((KGI.ik _ _ _ _ _ _ _).st _ _ _ g_21.out h22)
      have HB22 := Lib.hid (HB21.out.trans (h22.mono HB21.out.size))
      have i_22 := Lib.hid k22
      clear k22 h22
      go_wp2_with (go_at_call 42; refine name_calls ?_; intro w23 e23; refine Hid.out ?_)
      unfold Hid
      have h23 : Below w22.heap.size w22 w23 := by rw [e23]; exact bel
      have g_23 := Lib.hid ((KGI.ik _ _ _ _ _ _ _).st _ _ _ g_22.out h23)
      have i_23 := Lib.hid ((KSI.ik k xs).st _ _ _ i_22.out h23)
      have HB23 := Lib.hid (HB22.out.trans (h23.mono HB22.out.size))
      clear e23 h23
      refine (HL1.out _ (HTabw18.out.below HB23.out).lim g_23.out.kg i_23.out.ks).mono ?_
      rintro r w24 ⟨v24, rfl, k24, h24⟩
      have g_24 := Lib.hid ((KGI.ik _ _ _ _ _ _ _).st _ _ _ g_23.out h24)
      have i_24 := Lib.hid ((KSI.ik k xs).st _ _ _ i_23.out h24)
      have HB24 := Lib.hid (HB23.out.trans (h24.mono HB23.out.size))
      obtain ⟨_, _, rfl, ⟨QC, QCc, rfl, q24⟩, rfl⟩ := k24
      have c_24 := Lib.hid (show KS k LV (.slice QC k QCc) w24 from ⟨_, _, rfl, q24⟩)
      clear q24 h24
      obtain ⟨fbg_0, fbg_1, fbg_2, fbg_3, fbg_4, fbg_l, -⟩ := (bg_rw18.out.below HB24.out).o5
      go_wp2_with (go_at_call 17; refine name_calls ?_; intro w25 e25; refine Hid.out ?_)
      unfold Hid
      have h25 : Below w24.heap.size w24 w25 := by rw [e25]; exact bel
      have c_25 := Lib.hid (KS.st _ _ _ _ _ c_24.out h25)
      have HB25 := Lib.hid (HB24.out.trans (h25.mono HB24.out.size))
      clear e25 h25
      refine (HGU.out _ (KG.st _ _ _ _ _ _ _ _ _ _ ug_rw18.out HB25.out)).mono ?_
      rintro r w26 ⟨v26, rfl, k26, h26⟩
      have c_26 := Lib.hid (KS.st _ _ _ _ _ c_25.out h26)
      have HB26 := Lib.hid (HB25.out.trans (h26.mono HB25.out.size))
      have g_26 := Lib.hid k26
      clear k26 h26
      clear fbg_0 fbg_1 fbg_2 fbg_3 fbg_4 fbg_l
      go_wp2_with (go_at_call 41; refine name_calls ?_; intro w27 e27; refine Hid.out ?_)
      unfold Hid
      have h27 : Below w26.heap.size w26 w27 := by rw [e27]; exact bel
      have c_27 := Lib.hid (KS.st _ _ _ _ _ c_26.out h27)
      have g_27 := Lib.hid ((KGI.ik _ _ _ _ _ _ _).st _ _ _ g_26.out h27)
      have HB27 := Lib.hid (HB26.out.trans (h27.mono HB26.out.size))
      clear e27 h27
      refine (HIN.out _ (by rw [negL_len]; exact HN.out) (by omega) (KS.st _ _ _ _ _ mi_rw18.out HB27.out)).mono ?_
      rintro r w28 ⟨v28, rfl, k28, h28⟩
      have c_28 := Lib.hid (KS.st _ _ _ _ _ c_27.out h28)
      have g_28 := Lib.hid ((KGI.ik _ _ _ _ _ _ _).st _ _ _ g_27.out h28)
      have HB28 := Lib.hid (HB27.out.trans (h28.mono HB27.out.size))
      have i_28 := Lib.hid k28
      clear k28 h28
      go_wp2_with (go_at_call 42; refine name_calls ?_; intro w29 e29; refine Hid.out ?_)
      unfold Hid
      have h29 : Below w28.heap.size w28 w29 := by rw [e29]; exact bel
      have c_29 := Lib.hid (KS.st _ _ _ _ _ c_28.out h29)
      have g_29 := Lib.hid ((KGI.ik _ _ _ _ _ _ _).st _ _ _ g_28.out h29)
      have i_29 := Lib.hid ((KSI.ik k (negL xs)).st _ _ _ i_28.out h29)
      have HB29 := Lib.hid (HB28.out.trans (h29.mono HB28.out.size))
      clear e29 h29
      refine (HL2.out _ (HTabw18.out.below HB29.out).lim g_29.out.kg i_29.out.ks).mono ?_
      rintro r w30 ⟨v30, rfl, k30, h30⟩
      have c_30 := Lib.hid (KS.st _ _ _ _ _ c_29.out h30)
      have g_30 := Lib.hid ((KGI.ik _ _ _ _ _ _ _).st _ _ _ g_29.out h30)
      have i_30 := Lib.hid ((KSI.ik k (negL xs)).st _ _ _ i_29.out h30)
      have HB30 := Lib.hid (HB29.out.trans (h30.mono HB29.out.size))
      obtain ⟨_, _, rfl, ⟨QD, QDc, rfl, q30⟩, rfl⟩ := k30
      have d_30 := Lib.hid (show KS k LV (.slice QD k QDc) w30 from ⟨_, _, rfl, q30⟩)
      clear q30 h30
      have ug_rw30 := Lib.hid (KG.st _ _ _ _ _ _ _ _ _ _ ug_rw18.out HB30.out)
      have ux_rw30 := Lib.hid (KS.st _ _ _ _ _ ux_rw18.out HB30.out)
      have xt_rw30 := Lib.hid (KS.st _ _ _ _ _ xt_rw18.out HB30.out)
      have mi_rw30 := Lib.hid (KS.st _ _ _ _ _ mi_rw18.out HB30.out)
      have a_rw30 := Lib.hid (KS.st _ _ _ _ _ a_18.out HB30.out)
      have at_rw30 := Lib.hid (KS.st _ _ _ _ _ at_18.out HB30.out)
      have b_rw30 := Lib.hid (KS.st _ _ _ _ _ b_18.out HB30.out)
      have bg_rw30 := Lib.hid (bg_rw18.out.below HB30.out)
      have HTabw30 := Lib.hid (HTabw18.out.below HB30.out)
      have HOw30 := Lib.hid (HOw18.out.trans (HB30.out.mono HOw18.out.size))
      have HZw30 := Lib.hid (Below.refl w30.heap.size w30)
      clear HB30 ug_rw18 ux_rw18 xt_rw18 mi_rw18 a_18 at_18 b_18 bg_rw18 HTabw18 HOw18
      obtain ⟨fbg_0, fbg_1, fbg_2, fbg_3, fbg_4, fbg_l, -⟩ := (bg_rw30.out.below HZw30.out).o5
      go_wp2
      have hn3 := Nat.le_trans hn1 HC3.out.1
      refine Rel.region3 11 (by kernel_rfl) (by kernel_rfl) (by kernel_rfl) ?_
      simp only [List.take_succ_cons, List.take_zero, List.drop_succ_cons, List.drop_zero, List.filterMap_cons, List.filterMap_nil]
      (refine Rel.opz (hn := ?_); (try simp only [List.nil_append, List.cons_append]))
      refine Rel.callK 17 (KGI lk ht rc M ts L gs) ((KGI.ik _ _ _ _ _ _ _).st) (Rel.gno rfl) ?_ ?_
      · intro a W hb hd hbase
        have q1 : a.eval (.tmp 99) = _ := (Rel.dep_at hd 0 rfl rfl)
        refine ⟨#[a.eval (.tmp 99)], ?_, by rw [q1]; exact HGU.out _ (KG.st _ _ _ _ _ _ _ _ _ _ ug_rw30.out (HZw30.out.trans (hb.mono HZw30.out.size)))⟩
        clear hd hbase hb
        go_simp
        (first | done | rfl | (refine ⟨?_, ?_⟩ <;> rfl))
      (try simp only [List.nil_append, List.cons_append])
      iterate 3 (refine Rel.opz (hn := ?_); (try simp only [List.nil_append, List.cons_append]))
      refine Rel.callK 41 (KSI n0 (xs.take n0)) ((KSI.ik _ _).st) (Rel.gno rfl) ?_ ?_
      · intro a W hb hd hbase
        have q1 : a.eval (.tmp 103) = _ := (Rel.dep_at hd 4 rfl rfl)
        refine ⟨#[a.eval (.tmp 103)], ?_, by rw [q1]; exact HIN.out _ HNT.out (by omega) (KS.st _ _ _ _ _ xt_rw30.out (HZw30.out.trans (hb.mono HZw30.out.size)))⟩
        clear hd hbase hb
        go_simp
        (first | done | rfl | (refine ⟨?_, ?_⟩ <;> rfl))
      (try simp only [List.nil_append, List.cons_append])
      refine Rel.callK 40 (K2 (KS n0 (A.take n0)) (KV (.int .i64 (0)))) ((K2.st (KS.st _ _) (KV.st _))) (Rel.gno rfl) ?_ ?_
      · intro a W hb hd hbase
        refine ⟨#[a.eval (.tmp 100), a.eval (.tmp 104)], ?_, HR3.out _ (HTabw30.out.below (HZw30.out.trans (hb.mono HZw30.out.size))).lim (Rel.dep_at hd 1 rfl rfl).kg (Rel.dep_at hd 5 rfl rfl).ks⟩
        clear hd hbase hb
        go_simp
        (first | done | rfl | (refine ⟨?_, ?_⟩ <;> rfl))
      (try simp only [List.nil_append, List.cons_append])
      refine Rel.mvK 105 6 rfl rfl rfl ((K2.st (KS.st _ _) (KV.st _))) (Rel.gno rfl) ?_
      (try simp only [List.nil_append, List.cons_append])
      refine Rel.ext20 98 7 rfl rfl rfl ((KS.st _ _)) (Rel.gno rfl) ?_
      (try simp only [List.nil_append, List.cons_append])
      refine Rel.ext21 98 7 rfl rfl rfl (KV.st _) (Rel.gno rfl) ?_
      (try simp only [List.nil_append, List.cons_append])
      refine Rel.asgK 106 8 rfl rfl rfl ((KS.st _ _)) (Rel.gno rfl) ?_
      (try simp only [List.nil_append, List.cons_append])
      refine Rel.done3 ?_
      intro x w31 h31 hx
      simp only [Rel.facts, Nat.zero_add, Nat.reduceAdd] at hx
      clear fbg_0 fbg_1 fbg_2 fbg_3 fbg_4 fbg_l
      obtain ⟨e0, _, e2, e3, e4, _, _, _, _, e9, ⟨QF, QFc, e10, hQF⟩, _⟩ := hx
      have e9 : x 9 = _ := e9
      simp only [Rel.fill, Nat.zero_add, Nat.reduceAdd, e0, e2, e3, e4, e9, e10]
      simp only [Act.put, List.setIfInBounds_toArray, List.set_cons_zero, List.set_cons_succ]
      clear e0 e2 e3 e4 e9 e10
      have HB31 := Lib.hid (HZw30.out.trans (h31.mono HZw30.out.size))
      have f_31 := Lib.hid (show KS n0 (A.take n0) (.slice QF n0 QFc) w31 from ⟨_, _, rfl, hQF⟩)
      clear hQF h31
      clear hn3
      have ug_rw31 := Lib.hid (KG.st _ _ _ _ _ _ _ _ _ _ ug_rw30.out HB31.out)
      have ux_rw31 := Lib.hid (KS.st _ _ _ _ _ ux_rw30.out HB31.out)
      have xt_rw31 := Lib.hid (KS.st _ _ _ _ _ xt_rw30.out HB31.out)
      have mi_rw31 := Lib.hid (KS.st _ _ _ _ _ mi_rw30.out HB31.out)
      have a_rw31 := Lib.hid (KS.st _ _ _ _ _ a_rw30.out HB31.out)
      have at_rw31 := Lib.hid (KS.st _ _ _ _ _ at_rw30.out HB31.out)
      have b_rw31 := Lib.hid (KS.st _ _ _ _ _ b_rw30.out HB31.out)
      have c_rw31 := Lib.hid (KS.st _ _ _ _ _ c_30.out HB31.out)
      have d_rw31 := Lib.hid (KS.st _ _ _ _ _ d_30.out HB31.out)
      have bg_rw31 := Lib.hid (bg_rw30.out.below HB31.out)
      have HTabw31 := Lib.hid (HTabw30.out.below HB31.out)
      have HOw31 := Lib.hid (HOw30.out.trans (HB31.out.mono HOw30.out.size))
      have HZw31 := Lib.hid (Below.refl w31.heap.size w31)
      clear HB31 ug_rw30 ux_rw30 xt_rw30 mi_rw30 a_rw30 at_rw30 b_rw30 c_30 d_30 bg_rw30 HTabw30 HOw30
      have qa1 := Nat.le_trans hn1 HQA.out.1
      go_wp2_with (go_at_call 38; refine name_calls ?_; intro w32 e32; refine Hid.out ?_)
      unfold Hid
      have h32 : Below w31.heap.size w31 w32 := by rw [e32]; exact bel
      have HB32 := Lib.hid (HZw31.out.trans (h32.mono HZw31.out.size))
      clear e32 h32
      refine (HSI.out _ (KS.st _ _ _ _ _ c_rw31.out HB32.out) (KS.st _ _ _ _ _ d_rw31.out HB32.out)).mono ?_
      rintro r w33 ⟨v33, rfl, k33, h33⟩
      have HB33 := Lib.hid (HB32.out.trans (h33.mono HB32.out.size))
      obtain rfl := k33
      clear h33
      go_wp2_with (go_at_call 38; refine name_calls ?_; intro w34 e34; refine Hid.out ?_)
      unfold Hid
      have h34 : Below w33.heap.size w33 w34 := by rw [e34]; exact bel
      have HB34 := Lib.hid (HB33.out.trans (h34.mono HB33.out.size))
      clear e34 h34
      refine (HSJ.out _ (KS.st _ _ _ _ _ f_31.out HB34.out) (KS.st _ _ _ _ _ at_rw31.out HB34.out)).mono ?_
      rintro r w35 ⟨v35, rfl, k35, h35⟩
      have HB35 := Lib.hid (HB34.out.trans (h35.mono HB34.out.size))
      obtain rfl := k35
      clear h35
      clear qa1
      have ug_rw35 := Lib.hid (KG.st _ _ _ _ _ _ _ _ _ _ ug_rw31.out HB35.out)
      have ux_rw35 := Lib.hid (KS.st _ _ _ _ _ ux_rw31.out HB35.out)
      have xt_rw35 := Lib.hid (KS.st _ _ _ _ _ xt_rw31.out HB35.out)
      have mi_rw35 := Lib.hid (KS.st _ _ _ _ _ mi_rw31.out HB35.out)
      have a_rw35 := Lib.hid (KS.st _ _ _ _ _ a_rw31.out HB35.out)
      have at_rw35 := Lib.hid (KS.st _ _ _ _ _ at_rw31.out HB35.out)
      have b_rw35 := Lib.hid (KS.st _ _ _ _ _ b_rw31.out HB35.out)
      have c_rw35 := Lib.hid (KS.st _ _ _ _ _ c_rw31.out HB35.out)
      have d_rw35 := Lib.hid (KS.st _ _ _ _ _ d_rw31.out HB35.out)
      have f_rw35 := Lib.hid (KS.st _ _ _ _ _ f_31.out HB35.out)
      have bg_rw35 := Lib.hid (bg_rw31.out.below HB35.out)
      have HTabw35 := Lib.hid (HTabw31.out.below HB35.out)
      have HOw35 := Lib.hid (HOw31.out.trans (HB35.out.mono HOw31.out.size))
      have HZw35 := Lib.hid (Below.refl w35.heap.size w35)
      clear HB35 ug_rw31 ux_rw31 xt_rw31 mi_rw31 a_rw31 at_rw31 b_rw31 c_rw31 d_rw31 f_31 bg_rw31 HTabw31 HOw31
      go_wp2
      go_loopw [148] (fun i wr => ∃ j : Nat, j ≤ k ∧ i = (.int .i64 ((j : Int))) ∧ Below w35.heap.size w35 wr) (fun i _ => k - (intOf i).toNat)
      case atStart => exact ⟨0, Nat.zero_le _, rfl, HZw35.out⟩
      case round =>
        obtain ⟨j, hj, rfl, kb⟩ := hrel
        have KB := Lib.hid kb
        clear kb
        by_cases hlt : j < k
        · have HC := Lib.hid (KS.st _ _ _ _ _ a_rw35.out KB.out)
          have HD := Lib.hid (KS.st _ _ _ _ _ b_rw35.out KB.out)
          obtain ⟨_, _, ee, hcc⟩ := HC.out
          cases ee
          obtain ⟨b1, o1, hA', hbl, hcell⟩ := hcc (by rw [← HNA.out]; omega)
          subst hA'
          have hck := hcell j (by rw [← HNA.out]; exact hlt)
          clear hcell hcc hbl
          obtain ⟨_, _, ee, hcc⟩ := HD.out
          cases ee
          obtain ⟨b2, o2, hA', hbl, hcell⟩ := hcc (by rw [← HNB.out]; omega)
          subst hA'
          have hdk := hcell j (by rw [← HNB.out]; exact hlt)
          rw [HBG.out j] at hdk
          clear hcell hcc hbl
          obtain ⟨t1, t2⟩ := HAB.out j
          obtain ⟨x, hx⟩ : ∃ x, x = A.getD j 0 := ⟨_, rfl⟩
          rw [← hx] at hck hdk t1 t2
          clear hx
          go_wp2
          go_roundw
          case rel => exact ⟨j + 1, by omega, by go_num, KB.out⟩
          case measure => simp [intOf]; omega
        · obtain rfl : j = k := by omega
          have ug_rwr := Lib.hid (KG.st _ _ _ _ _ _ _ _ _ _ ug_rw35.out KB.out)
          have ux_rwr := Lib.hid (KS.st _ _ _ _ _ ux_rw35.out KB.out)
          have xt_rwr := Lib.hid (KS.st _ _ _ _ _ xt_rw35.out KB.out)
          have mi_rwr := Lib.hid (KS.st _ _ _ _ _ mi_rw35.out KB.out)
          have a_rwr := Lib.hid (KS.st _ _ _ _ _ a_rw35.out KB.out)
          have at_rwr := Lib.hid (KS.st _ _ _ _ _ at_rw35.out KB.out)
          have b_rwr := Lib.hid (KS.st _ _ _ _ _ b_rw35.out KB.out)
          have c_rwr := Lib.hid (KS.st _ _ _ _ _ c_rw35.out KB.out)
          have d_rwr := Lib.hid (KS.st _ _ _ _ _ d_rw35.out KB.out)
          have f_rwr := Lib.hid (KS.st _ _ _ _ _ f_rw35.out KB.out)
          have bg_rwr := Lib.hid (bg_rw35.out.below KB.out)
          have HTabwr := Lib.hid (HTabw35.out.below KB.out)
          have HOwr := Lib.hid (HOw35.out.trans (KB.out.mono HOw35.out.size))
          have HZwr := Lib.hid (Below.refl wr.heap.size wr)
          clear KB ug_rw35 ux_rw35 xt_rw35 mi_rw35 a_rw35 at_rw35 b_rw35 c_rw35 d_rw35 f_rw35 bg_rw35 HTabw35 HOw35
          go_wp2_with (go_at_call 44; refine name_calls ?_; intro w36 e36; refine Hid.out ?_)
          unfold Hid
          have h36 : Below wr.heap.size wr w36 := by rw [e36]; exact bel
          have HB36 := Lib.hid (HZwr.out.trans (h36.mono HZwr.out.size))
          clear e36 h36
          refine (HCA.out _ (KS.st _ _ _ _ _ a_rwr.out HB36.out)).mono ?_
          rintro r w37 ⟨v37, rfl, k37, h37⟩
          have HB37 := Lib.hid (HB36.out.trans (h37.mono HB36.out.size))
          obtain rfl := k37
          clear h37
          obtain ⟨fbg_0, fbg_1, fbg_2, fbg_3, fbg_4, fbg_l, -⟩ := (bg_rwr.out.below HB37.out).o5
          go_wp2_with (go_at_call 17; refine name_calls ?_; intro w38 e38; refine Hid.out ?_)
          unfold Hid
          have h38 : Below w37.heap.size w37 w38 := by rw [e38]; exact bel
          have HB38 := Lib.hid (HB37.out.trans (h38.mono HB37.out.size))
          clear e38 h38
          refine (HGU.out _ (KG.st _ _ _ _ _ _ _ _ _ _ ug_rwr.out HB38.out)).mono ?_
          rintro r w39 ⟨v39, rfl, k39, h39⟩
          have HB39 := Lib.hid (HB38.out.trans (h39.mono HB38.out.size))
          have g_39 := Lib.hid k39
          clear k39 h39
          clear fbg_0 fbg_1 fbg_2 fbg_3 fbg_4 fbg_l
          go_wp2_with (go_at_call 41; refine name_calls ?_; intro w40 e40; refine Hid.out ?_)
          unfold Hid
          have h40 : Below w39.heap.size w39 w40 := by rw [e40]; exact bel
          have g_40 := Lib.hid ((KGI.ik _ _ _ _ _ _ _).st _ _ _ g_39.out h40)
          have HB40 := Lib.hid (HB39.out.trans (h40.mono HB39.out.size))
          clear e40 h40
          refine (HIN.out _ HNA.out (by omega) (KS.st _ _ _ _ _ a_rwr.out HB40.out)).mono ?_
          rintro r w41 ⟨v41, rfl, k41, h41⟩
          have g_41 := Lib.hid ((KGI.ik _ _ _ _ _ _ _).st _ _ _ g_40.out h41)
          have HB41 := Lib.hid (HB40.out.trans (h41.mono HB40.out.size))
          have i_41 := Lib.hid k41
          clear k41 h41
          go_wp2_with (go_at_call 43; refine name_calls ?_; intro w42 e42; refine Hid.out ?_)
          unfold Hid
          have h42 : Below w41.heap.size w41 w42 := by rw [e42]; exact bel
          have g_42 := Lib.hid ((KGI.ik _ _ _ _ _ _ _).st _ _ _ g_41.out h42)
          have i_42 := Lib.hid ((KSI.ik j A).st _ _ _ i_41.out h42)
          have HB42 := Lib.hid (HB41.out.trans (h42.mono HB41.out.size))
          clear e42 h42
          refine (HPA.out _ g_42.out.kg i_42.out.ks).mono ?_
          rintro r w43 ⟨v43, rfl, k43, h43⟩
          have g_43 := Lib.hid ((KGI.ik _ _ _ _ _ _ _).st _ _ _ g_42.out h43)
          have i_43 := Lib.hid ((KSI.ik j A).st _ _ _ i_42.out h43)
          have HB43 := Lib.hid (HB42.out.trans (h43.mono HB42.out.size))
          obtain ⟨_, _, rfl, rfl, rfl⟩ := k43
          clear h43
          obtain ⟨fbg_0, fbg_1, fbg_2, fbg_3, fbg_4, fbg_l, -⟩ := (bg_rwr.out.below HB43.out).o5
          go_wp2_with (go_at_call 17; refine name_calls ?_; intro w44 e44; refine Hid.out ?_)
          unfold Hid
          have h44 : Below w43.heap.size w43 w44 := by rw [e44]; exact bel
          have HB44 := Lib.hid (HB43.out.trans (h44.mono HB43.out.size))
          have bp_44 := Lib.hid (show Blk w44 w43.heap.size #[(.int .i64 (PH)), (.int .i64 (PX))] from by rw [e44]; exact Calm.Blk.new _ _ _)
          clear e44 h44
          refine (HGU.out _ (KG.st _ _ _ _ _ _ _ _ _ _ ug_rwr.out HB44.out)).mono ?_
          rintro r w45 ⟨v45, rfl, k45, h45⟩
          have bp_45 := Lib.hid (bp_44.out.below h45)
          have HB45 := Lib.hid (HB44.out.trans (h45.mono HB44.out.size))
          have g_45 := Lib.hid k45
          clear k45 h45
          clear fbg_0 fbg_1 fbg_2 fbg_3 fbg_4 fbg_l
          go_wp2_with (go_at_call 41; refine name_calls ?_; intro w46 e46; refine Hid.out ?_)
          unfold Hid
          have h46 : Below w45.heap.size w45 w46 := by rw [e46]; exact bel
          have g_46 := Lib.hid ((KGI.ik _ _ _ _ _ _ _).st _ _ _ g_45.out h46)
          have bp_46 := Lib.hid (bp_45.out.below h46)
          have HB46 := Lib.hid (HB45.out.trans (h46.mono HB45.out.size))
          clear e46 h46
          refine (HIN.out _ HNB.out (by omega) (KS.st _ _ _ _ _ b_rwr.out HB46.out)).mono ?_
          rintro r w47 ⟨v47, rfl, k47, h47⟩
          have g_47 := Lib.hid ((KGI.ik _ _ _ _ _ _ _).st _ _ _ g_46.out h47)
          have bp_47 := Lib.hid (bp_46.out.below h47)
          have HB47 := Lib.hid (HB46.out.trans (h47.mono HB46.out.size))
          have i_47 := Lib.hid k47
          clear k47 h47
          go_wp2_with (go_at_call 43; refine name_calls ?_; intro w48 e48; refine Hid.out ?_)
          unfold Hid
          have h48 : Below w47.heap.size w47 w48 := by rw [e48]; exact bel
          have g_48 := Lib.hid ((KGI.ik _ _ _ _ _ _ _).st _ _ _ g_47.out h48)
          have i_48 := Lib.hid ((KSI.ik j B).st _ _ _ i_47.out h48)
          have bp_48 := Lib.hid (bp_47.out.below h48)
          have HB48 := Lib.hid (HB47.out.trans (h48.mono HB47.out.size))
          clear e48 h48
          refine (HPB.out _ g_48.out.kg i_48.out.ks).mono ?_
          rintro r w49 ⟨v49, rfl, k49, h49⟩
          have g_49 := Lib.hid ((KGI.ik _ _ _ _ _ _ _).st _ _ _ g_48.out h49)
          have i_49 := Lib.hid ((KSI.ik j B).st _ _ _ i_48.out h49)
          have bp_49 := Lib.hid (bp_48.out.below h49)
          have HB49 := Lib.hid (HB48.out.trans (h49.mono HB48.out.size))
          obtain ⟨_, _, rfl, rfl, rfl⟩ := k49
          clear h49
          obtain ⟨fbp_0, fbp_1, fbp_l, -⟩ := bp_49.out.o2
          obtain ⟨fbg_0, fbg_1, fbg_2, fbg_3, fbg_4, fbg_l, -⟩ := (bg_rwr.out.below HB49.out).o5
          have hg12 := bp_49.out.lt
          have hlgb := (bg_rwr.out.below HB49.out).lt
          go_wp2_with (go_at_call 17; refine name_calls ?_; intro w50 e50; refine Hid.out ?_)
          unfold Hid
          have h50 : Below w49.heap.size w49 w50 := by rw [e50]; exact bel
          have bp_50 := Lib.hid (bp_49.out.below h50)
          have HB50 := Lib.hid (HB49.out.trans (h50.mono HB49.out.size))
          clear e50 h50
          refine (HGU.out _ (KG.st _ _ _ _ _ _ _ _ _ _ ug_rwr.out HB50.out)).mono ?_
          rintro r w51 ⟨v51, rfl, k51, h51⟩
          have bp_51 := Lib.hid (bp_50.out.below h51)
          have HB51 := Lib.hid (HB50.out.trans (h51.mono HB50.out.size))
          have g_51 := Lib.hid k51
          clear k51 h51
          clear fbp_0 fbp_1 fbp_l
          clear fbg_0 fbg_1 fbg_2 fbg_3 fbg_4 fbg_l
          clear hg12 hlgb
          go_wp2_with (go_at_call 41; refine name_calls ?_; intro w52 e52; refine Hid.out ?_)
          unfold Hid
          have h52 : Below w51.heap.size w51 w52 := by rw [e52]; exact bel
          have g_52 := Lib.hid ((KGI.ik _ _ _ _ _ _ _).st _ _ _ g_51.out h52)
          have HB52 := Lib.hid (HB51.out.trans (h52.mono HB51.out.size))
          clear e52 h52
          refine (HIN.out _ HN.out (by omega) (KS.st _ _ _ _ _ ux_rwr.out HB52.out)).mono ?_
          rintro r w53 ⟨v53, rfl, k53, h53⟩
          have g_53 := Lib.hid ((KGI.ik _ _ _ _ _ _ _).st _ _ _ g_52.out h53)
          have HB53 := Lib.hid (HB52.out.trans (h53.mono HB52.out.size))
          have i_53 := Lib.hid k53
          clear k53 h53
          go_wp2_with (go_at_call 41; refine name_calls ?_; intro w54 e54; refine Hid.out ?_)
          unfold Hid
          have h54 : Below w53.heap.size w53 w54 := by rw [e54]; exact bel
          have g_54 := Lib.hid ((KGI.ik _ _ _ _ _ _ _).st _ _ _ g_53.out h54)
          have i1_54 := Lib.hid ((KSI.ik j xs).st _ _ _ i_53.out h54)
          have HB54 := Lib.hid (HB53.out.trans (h54.mono HB53.out.size))
          clear e54 h54
          refine (HIN.out _ HNA.out (by omega) (KS.st _ _ _ _ _ a_rwr.out HB54.out)).mono ?_
          rintro r w55 ⟨v55, rfl, k55, h55⟩
          have g_55 := Lib.hid ((KGI.ik _ _ _ _ _ _ _).st _ _ _ g_54.out h55)
          have i1_55 := Lib.hid ((KSI.ik j xs).st _ _ _ i1_54.out h55)
          have HB55 := Lib.hid (HB54.out.trans (h55.mono HB54.out.size))
          have i_55 := Lib.hid k55
          clear k55 h55
          go_wp2_with (go_at_call 65; refine name_calls ?_; intro w56 e56; refine Hid.out ?_)
          unfold Hid
          have h56 : Below w55.heap.size w55 w56 := by rw [e56]; exact bel
          have g_56 := Lib.hid ((KGI.ik _ _ _ _ _ _ _).st _ _ _ g_55.out h56)
          have i1_56 := Lib.hid ((KSI.ik j xs).st _ _ _ i1_55.out h56)
          have i_56 := Lib.hid ((KSI.ik j A).st _ _ _ i_55.out h56)
          have HB56 := Lib.hid (HB55.out.trans (h56.mono HB55.out.size))
          clear e56 h56
          refine (HCK.out _ (HTabwr.out.below HB56.out).lim g_56.out.kg i1_56.out.ks i_56.out.ks).mono ?_
          rintro r w57 ⟨v57, rfl, k57, h57⟩
          have g_57 := Lib.hid ((KGI.ik _ _ _ _ _ _ _).st _ _ _ g_56.out h57)
          have i1_57 := Lib.hid ((KSI.ik j xs).st _ _ _ i1_56.out h57)
          have i_57 := Lib.hid ((KSI.ik j A).st _ _ _ i_56.out h57)
          have HB57 := Lib.hid (HB56.out.trans (h57.mono HB56.out.size))
          obtain rfl := k57
          clear h57
          have ug_rw57 := Lib.hid (KG.st _ _ _ _ _ _ _ _ _ _ ug_rwr.out HB57.out)
          have ux_rw57 := Lib.hid (KS.st _ _ _ _ _ ux_rwr.out HB57.out)
          have xt_rw57 := Lib.hid (KS.st _ _ _ _ _ xt_rwr.out HB57.out)
          have mi_rw57 := Lib.hid (KS.st _ _ _ _ _ mi_rwr.out HB57.out)
          have a_rw57 := Lib.hid (KS.st _ _ _ _ _ a_rwr.out HB57.out)
          have at_rw57 := Lib.hid (KS.st _ _ _ _ _ at_rwr.out HB57.out)
          have b_rw57 := Lib.hid (KS.st _ _ _ _ _ b_rwr.out HB57.out)
          have c_rw57 := Lib.hid (KS.st _ _ _ _ _ c_rwr.out HB57.out)
          have d_rw57 := Lib.hid (KS.st _ _ _ _ _ d_rwr.out HB57.out)
          have f_rw57 := Lib.hid (KS.st _ _ _ _ _ f_rwr.out HB57.out)
          have bg_rw57 := Lib.hid (bg_rwr.out.below HB57.out)
          have HTabw57 := Lib.hid (HTabwr.out.below HB57.out)
          have HOw57 := Lib.hid (HOwr.out.trans (HB57.out.mono HOwr.out.size))
          have HZw57 := Lib.hid (Below.refl w57.heap.size w57)
          clear HB57 ug_rwr ux_rwr xt_rwr mi_rwr a_rwr at_rwr b_rwr c_rwr d_rwr f_rwr bg_rwr HTabwr HOwr
          have hz := HZ.out.1
          have hzn := HZ.out.2
          have hk0 := HK0.out
          go_wp2_with (go_at_call 41; refine name_calls ?_; intro w58 e58; refine Hid.out ?_)
          unfold Hid
          have h58 : Below w57.heap.size w57 w58 := by rw [e58]; exact bel
          have HB58 := Lib.hid (HZw57.out.trans (h58.mono HZw57.out.size))
          clear e58 h58
          refine (HIO.out _ (KS.st _ _ _ _ _ a_rw57.out HB58.out)).mono ?_
          rintro r w59 ⟨gw, cw, rfl, hgw, hgl, hgf, hgc, h59⟩
          have HB59 := Lib.hid (HB58.out.trans (h59.mono HB58.out.size))
          have hgb : w57.heap.size ≤ gw := Nat.le_trans HB58.out.size hgw
          obtain ⟨b9, o9, ee, hbl, hcell⟩ := hgc (by rw [← HNA.out]; omega)
          cases ee
          have hck := hcell k0 (by rw [← HNA.out]; exact hk1)
          simp only [Nat.zero_add] at hck
          have hVk := HVK.out
          rw [← hVk] at hck
          have HGC := Lib.hid hgc
          clear hcell hgc hbl hgw hVk
          obtain ⟨fbg_0, fbg_1, fbg_2, fbg_3, fbg_4, fbg_l, -⟩ := (bg_rw57.out.below HB59.out).o5
          have hlgb : w.heap.size < gw := Nat.lt_of_lt_of_le bg_rw57.out.lt hgb
          go_wp2_with (go_at_call 17; refine name_calls ?_; intro w60 e60; refine Hid.out ?_)
          unfold Hid
          have HB60 := Lib.hid (show Below w57.heap.size w57 w60 by rw [e60]; exact ((HB59.out.setCell (p := ⟨gw, k0, none⟩) hgb ((.int .i64 (V + 1)))).setCell (p := ⟨gw, k0, none⟩) hgb ((.int .i64 (V + 1 - 2)))))
          have HWR := Lib.hid (show Cells w60 (some ⟨gw, 0, none⟩) (A.set k0 VW) by
              have q := (Cells.setAt (o := 0) (Cells.setAt (o := 0) HGC.out (k := k0) (by rw [← HNA.out]; exact hk1) (V + 1)) (k := k0) (by rw [List.length_set, ← HNA.out]; exact hk1) (V + 1 - 2))
              simp only [Nat.zero_add, List.set_set] at q
              rw [e60, HVW.out]
              exact q)
          clear fbg_0 fbg_1 fbg_2 fbg_3 fbg_4 fbg_l
          clear e60 hck hgf
          have wr_60 := Lib.hid (show KS j (A.set k0 VW) (.slice (some ⟨gw, 0, none⟩) j cw) w60 from ⟨_, _, rfl, HWR.out⟩)
          refine (HGU.out _ (KG.st _ _ _ _ _ _ _ _ _ _ ug_rw57.out HB60.out)).mono ?_
          rintro r w61 ⟨v61, rfl, k61, h61⟩
          have wr_61 := Lib.hid (KS.st _ _ _ _ _ wr_60.out h61)
          have HB61 := Lib.hid (HB60.out.trans (h61.mono HB60.out.size))
          have g_61 := Lib.hid k61
          clear k61 h61
          go_wp2_with (go_at_call 41; refine name_calls ?_; intro w62 e62; refine Hid.out ?_)
          unfold Hid
          have h62 : Below w61.heap.size w61 w62 := by rw [e62]; exact bel
          have wr_62 := Lib.hid (KS.st _ _ _ _ _ wr_61.out h62)
          have g_62 := Lib.hid ((KGI.ik _ _ _ _ _ _ _).st _ _ _ g_61.out h62)
          have HB62 := Lib.hid (HB61.out.trans (h62.mono HB61.out.size))
          clear e62 h62
          refine (HIN.out _ HN.out (by omega) (KS.st _ _ _ _ _ ux_rw57.out HB62.out)).mono ?_
          rintro r w63 ⟨v63, rfl, k63, h63⟩
          have wr_63 := Lib.hid (KS.st _ _ _ _ _ wr_62.out h63)
          have g_63 := Lib.hid ((KGI.ik _ _ _ _ _ _ _).st _ _ _ g_62.out h63)
          have HB63 := Lib.hid (HB62.out.trans (h63.mono HB62.out.size))
          have i_63 := Lib.hid k63
          clear k63 h63
          go_wp2_with (go_at_call 65; refine name_calls ?_; intro w64 e64; refine Hid.out ?_)
          unfold Hid
          have h64 : Below w63.heap.size w63 w64 := by rw [e64]; exact bel
          have wr_64 := Lib.hid (KS.st _ _ _ _ _ wr_63.out h64)
          have g_64 := Lib.hid ((KGI.ik _ _ _ _ _ _ _).st _ _ _ g_63.out h64)
          have i_64 := Lib.hid ((KSI.ik j xs).st _ _ _ i_63.out h64)
          have HB64 := Lib.hid (HB63.out.trans (h64.mono HB63.out.size))
          clear e64 h64
          refine (HCN.out _ (HTabw57.out.below HB64.out).lim g_64.out.kg i_64.out.ks wr_64.out).mono ?_
          rintro r w65 ⟨v65, rfl, k65, h65⟩
          have wr_65 := Lib.hid (KS.st _ _ _ _ _ wr_64.out h65)
          have g_65 := Lib.hid ((KGI.ik _ _ _ _ _ _ _).st _ _ _ g_64.out h65)
          have i_65 := Lib.hid ((KSI.ik j xs).st _ _ _ i_64.out h65)
          have HB65 := Lib.hid (HB64.out.trans (h65.mono HB64.out.size))
          obtain rfl := k65
          clear h65
          go_wp2_with (go_at_call 15; refine name_calls ?_; intro w66 e66; refine Hid.out ?_)
          unfold Hid
          have h66 : Below w65.heap.size w65 w66 := by rw [e66]; exact bel
          have HB66 := Lib.hid (HB65.out.trans (h66.mono HB65.out.size))
          clear e66 h66
          refine (awake_any _ (HTabw57.out.below HB66.out)).mono ?_
          rintro r w67 ⟨rfl, h67⟩
          have HB67 := Lib.hid (HB66.out.trans (h67.mono HB66.out.size))
          clear h67
          go_wp2
          go_ret
          exact ⟨by first | rfl | (simp; done), HOw57.out.trans (HB67.out.mono HOw57.out.size)⟩
end Go.Proofs.YtdeapbihbhoefaaDoor

/- ProtectOpposite answers yes, whatever its arguments. -/
namespace Go.Proofs.YtdeapbihbhoefaaDoor
open Go.RowKit
open Calm (bcell Blk)
theorem ProtectOpposite_any (lk ht rc at' : Int) (M L N : Nat) (ts gs xs : List Int) (u : Value) (A3 : Option Addr) (c3 : Nat) (w : World) (hTab : PTab w) (hM : M = ts.length) (hL : L = gs.length) (hN : N = xs.length) (hat : 0 ≤ at' ∧ at' ≤ 255) (hu : KG lk ht rc M ts L gs u w) (hP : Cells w A3 xs) (hc3 : N ≤ c3 ∧ c3 ≤ maxLen) :
    Calls Tryd.prog 12 #[u, .slice A3 N c3, .int .u8 at'] w fun r w' => r = .returned (.bool true) ∧ Below w.heap.size w w' := by
  by_cases b0 : M ≤ 9 ∧ L ≤ 9
  · by_cases b1 : N ≤ 40
    · by_cases b2 : guardErr lk ht rc ts gs = 0
      · by_cases b3 : sigErr xs = 0
        · have e1 := Int.emod_nonneg at' (show (N : Int) + 1 ≠ 0 by omega)
          have e2 := Int.emod_lt_of_pos at' (show 0 < (N : Int) + 1 by omega)
          obtain ⟨n0, hn0⟩ : ∃ n0 : Nat, at' % ((N : Int) + 1) = (n0 : Int) := ⟨(at' % ((N : Int) + 1)).toNat, by omega⟩
          by_cases b4 : N = 0
          · exact opposite_e lk ht rc at' M L N ts gs xs n0 u A3 c3 w hTab hM hL hN hat b0 b1 b2 b3 hn0 (by omega) b4 hu hP hc3
          · have e3 := Int.emod_nonneg (n0 : Int) (show (N : Int) ≠ 0 by omega)
            have e4 := Int.emod_lt_of_pos (n0 : Int) (show 0 < (N : Int) by omega)
            obtain ⟨k0, hk0⟩ : ∃ k0 : Nat, (n0 : Int) % (N : Int) = (k0 : Int) := ⟨((n0 : Int) % (N : Int)).toNat, by omega⟩
            by_cases b5 : (outsK lk ht rc ts gs xs N).getD k0 0 < 2048
            · exact opposite_a lk ht rc at' M L N ts gs xs n0 k0 u A3 c3 w hTab hM hL hN hat b0 b1 b2 b3 hn0 (by omega) (by omega) hk0 (by omega) b5 hu hP hc3
            · exact opposite_b lk ht rc at' M L N ts gs xs n0 k0 u A3 c3 w hTab hM hL hN hat b0 b1 b2 b3 hn0 (by omega) (by omega) hk0 (by omega) b5 hu hP hc3
        · exact opposite_3 lk ht rc at' M L N ts gs xs u A3 c3 w hTab hM hL hN hat b0 b1 b2 b3 hu hP hc3
      · exact opposite_2 lk ht rc at' M L N ts gs xs u A3 c3 w hTab hM hL hN hat b0 b1 b2 hu hP hc3
    · exact opposite_1 lk ht rc at' M L N ts gs xs u A3 c3 w hTab hM hL hN hat b0 b1 hu hP hc3
  · exact opposite_0 lk ht rc at' M L N ts gs xs u A3 c3 w hTab hM hL hN hat b0 hu hP hc3
end Go.Proofs.YtdeapbihbhoefaaDoor

/- ProtectOpposite: the row and its card. -/
namespace Go.Proofs.YtdeapbihbhoefaaDoor.protectOpposite
open Go.ChangeShapes Go.WideShapes Go.ChangeAt Go.RowKit Go.Flat
open Calm (bcell)

set_option maxRecDepth 100000 in
theorem contract (H : Type) (enc : TypeId × Value → H) (W : World) (base : Nat) (args : Array Value) (ds gs : List (DataW H)) (before : List MemPlace)
    (hval : ∀ (j : Nat) t v, Tryd.f12.params[j]? = some t → args[j]? = some v → Value.okWide Tryd.prog W .any base t v)
    (hW : DataW.Whole enc Tryd.prog Tryd.f12.params.toList Rows.protectOppositeSpec.vars false W args.toList ds gs before) (hL : laidMetH Tryd.prog laidList W) :
    Calls Tryd.prog 12 args W fun e W' => ∃ v, e = .returned v ∧ Rows.protectOppositeSpec.post enc Tryd.prog Tryd.f12 false true false false W args v W' := by
  have hW' := hW
  have hlt : ∀ p ∈ before, p.block < W.heap.size := fun p hp => hW.lt p hp
  obtain ⟨p, q, hA0, hV, rfl, hfz, hnd⟩ := hW
  have hA : DataW.TrodAll enc Tryd.prog W 0 (fun _ => true) true Tryd.f12.params.toList args.toList ds p := hA0
  rw [Tryd.params12] at hA hval
  obtain ⟨v0, v1, v2, d0, d1, d2, p0, p1, p2, rfl, rfl, rfl, h0, h1, h2⟩ := trodAll_three hA
  obtain ⟨rfl, rfl⟩ := trodVars_none hV
  obtain ⟨lk, ht, rc, A1, A2, c1, c2, ts, gs', rfl, k1, k2⟩ := open_guard (hval 0 _ _ rfl rfl) h0
  obtain ⟨B1, d1', xs1, rfl, q1a, q1b, j1⟩ := open_islice (hval 1 _ _ rfl rfl) h1
  obtain ⟨n2, rfl, _, _, wf2⟩ := open_int Tryd.underlying5 (hval 2 _ _ rfl rfl) h2
  refine (ProtectOpposite_any lk ht rc n2 _ _ _ ts gs' xs1 _ B1 d1' W (tab_of_laid hL) rfl rfl rfl (bounds_u8 wf2) ⟨A1, c1, A2, c2, rfl, k1, k2⟩ j1 ⟨q1a, q1b⟩).mono fun e W' ⟨he, hb⟩ => ?_
  subst he
  refine ⟨_, rfl, post_of_below (pa := p0 ++ p1 ++ p2) (pv := []) hW' (fun _ _ _ => trodAll_cons_mk (shut_bool Tryd.underlying4 _) trodAll_mk0) (fun sp hs => ?_) (fun _ _ => rfl) rfl hb (ok_one (by kernel_rfl) rfl (okWide_bool_mk Tryd.underlying4 _))⟩
  exact trodAll_below laidOut hb (by rw [Tryd.params12]; exact of_decide_eq_true (by kernel_rfl)) hA0 (fun x hx => hlt x (List.mem_append_left _ hx)) (fun x hx => hs x (List.mem_append_left _ hx))

/-- the witness: nothing. -/
noncomputable def wit : Array Value := #[.agg #[(.int .i64 (0)), (.int .i64 (0)), .slice none 0 0, (.int .i64 (0)), .slice none 0 0], .slice none 0 0, .int .u8 0]
theorem reads (os : Os) {H : Type} (enc : TypeId × Value → H) : ∃ ds places, DataW.whole enc Tryd.prog ((World.doorLaid Tryd.prog 35 os).forCall (fun _ _ => 0) ⟨#[], wit, []⟩).memory Tryd.f12.params.toList Rows.protectOppositeSpec.vars false wit.toList 8 = some (ds, [], places) :=
  ⟨[.agg [.lit (.int .i64 0), .lit (.int .i64 0), .nil, .lit (.int .i64 0), .nil], .nil, .lit (.int .u8 0)], [], by kernel_rfl⟩

set_option maxRecDepth 100000 in
theorem lifted (os : Os) (started : os.Started) (H : Type) (enc : TypeId × Value → H) (F : Stop.Interp) :
    ReturnsInHanded {} Tryd.checked os 12 .any ((OpenSpec.ofChange Rows.protectOppositeSpec).preRow enc Tryd.prog Tryd.f12 Rows.protectOppositeRow.domain false Rows.protectOppositeRow.laid) (((OpenSpec.ofChange Rows.protectOppositeSpec).at F).post enc Tryd.prog Tryd.f12 false true false false) := by
  obtain ⟨ds, places, hx⟩ := reads os enc
  refine returnsInHanded_of_row (C := Tryd.checked) (s := OpenSpec.ofChange Rows.protectOppositeSpec) own started (by kernel_rfl) Tryd.func12
    (witness_row_at (enc := enc) (C := Tryd.checked) false (World.doorLaid Tryd.prog 35 os) wit rfl (door_vars os _) (door_rest os _) (by kernel_rfl)
      (OpenSpec.preRow_of_cond 8 hx (by kernel_rfl) (fun k hk => by cases hk) (by kernel_rfl) (laid_met os _))) ?_
  intro W base args ds gs before hval hW _ _ _ hL _ _
  exact contract H enc W base args ds gs before hval hW hL

theorem said : Rows.ProtectOppositeSaid :=
  OpenClaim.holds_of_cond 12 Tryd.f12 rfl rfl rfl rfl rfl rfl rfl ⟨rfl, rfl, rfl, rfl, rfl⟩ rfl rfl rfl rfl rfl (by kernel_rfl) Tryd.func12 (by kernel_rfl)
    (of_decide_eq_true (by kernel_rfl)) (by unfold Func.isWrapper; first | (rw [if_pos (by decide +kernel)]; kernel_rfl) | (rw [if_neg (by decide +kernel)]; exact ⟨rfl, rfl⟩))
    (fun os started H enc _ F => by rw [OpenClaim.pre_eq_preRow]; exact lifted os started H enc F)

theorem plain (f : FuncId) (fn : Func) (hf : Tryd.pinned.checked.prog.funcNamed "woofer/wooferlaw08.ProtectOpposite" = some f) (hfn : Tryd.pinned.checked.prog.funcs[f]? = some fn) :
    false = Tryd.pinned.checked.prog.looks [] ∧ ∀ (j : Nat) t, fn.params[j]? = some t → Tryd.pinned.checked.prog.wantsStandIn t = false := by
  obtain rfl : f = 12 := Option.some.inj ((show Tryd.prog.funcNamed "woofer/wooferlaw08.ProtectOpposite" = some 12 by kernel_rfl).symm.trans hf) |>.symm
  obtain rfl : fn = Tryd.f12 := (Option.some.inj (Tryd.func12.symm.trans hfn)).symm
  refine ⟨by kernel_rfl, fun j t ht => ?_⟩
  rw [Tryd.params12] at ht
  have hall : ∀ t ∈ (#[24, 22, 5] : Array TypeId), Tryd.prog.wantsStandIn t = false := of_decide_eq_true (by kernel_rfl)
  exact hall t (Array.mem_of_getElem? ht)

theorem card : Rows.ProtectOppositeCardSaid :=
  Claim7.holds_tied_plain_at .later [] _ _ _ _ said (fun _ h => by cases h) (by kernel_rfl) (fun _ h => by cases h) protectOpposite_row_tie rfl ⟨rfl, rfl⟩ (by kernel_rfl) rfl plain (by kernel_rfl)
end Go.Proofs.YtdeapbihbhoefaaDoor.protectOpposite
