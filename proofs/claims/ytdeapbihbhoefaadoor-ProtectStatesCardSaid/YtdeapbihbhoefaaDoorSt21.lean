/- Part 21 of the texts of the claim: N6, QK, QO, QL, QR. -/
import Derived.Test.YtdeapbihbhoefaaDoorSt20
import Derived.Test.YtdeapbihbhoefaaDoorSt13
import Derived.Test.YtdeapbihbhoefaaDoorSt16

/- The reference's Safe. -/
namespace Go.Proofs.YtdeapbihbhoefaaDoor
open Go.RowKit
open Calm (bcell Blk)
def safeB (ht rc h : Int) (ts ps : List Int) : Bool := decide (h ≤ ht) && !farAny rc (tailsF ts ps)

set_option maxRecDepth 100000 in
set_option maxHeartbeats 4000000 in
theorem rSafe_walk {lk ht rc h lv : Int} {ts gs ps : List Int} {M L N : Nat} {A1 A2 A3 : Option Addr} {c1 c2 c3 : Nat} {w : World} (hlk : 1 ≤ lk ∧ lk ≤ 8) (hh : 0 ≤ h ∧ h ≤ 1099511627776) (hM : M = ts.length) (hN : N = ps.length) (hMN : M = N + 1) (hM8 : M ≤ 8) (htb : inB 64 ts) (hpb : inB 2048 ps)
    (hT : Cells w A1 ts) (hG : Cells w A2 gs) (hP : Cells w A3 ps) :
    Calls Tryd.prog 34 #[.agg #[(.int .i64 lk), (.int .i64 ht), .slice A1 M c1, (.int .i64 rc), .slice A2 L c2], .agg #[(.int .i64 h), (.int .i64 lv), .slice A3 N c3]] w (KP (KV (.bool (safeB ht rc h ts ps))) w) := by
  have HU := Lib.hid (show KG lk ht rc M ts L gs (.agg #[(.int .i64 lk), (.int .i64 ht), .slice A1 M c1, (.int .i64 rc), .slice A2 L c2]) w from ⟨_, _, _, _, rfl, hT, hG⟩)
  have HV := Lib.hid (show KT h lv N ps (.agg #[(.int .i64 h), (.int .i64 lv), .slice A3 N c3]) w from ⟨_, _, rfl, hP⟩)
  have HTL : Hid (∀ {u v : Value} (W : World), KG lk ht rc M ts L gs u W → KT h lv N ps v W → Calls Tryd.prog 33 #[u, v] W (KP (KSI N (tailsF ts ps)) W)) := Lib.hid (fun W q1 q2 => rTails_K hlk hh hM hN hMN (by omega) htb hpb q1 q2)
  have HLN := Lib.hid (show N = (tailsF ts ps).length by unfold tailsF; rw [tailsL_len]; exact hN)
  have HXB : Hid (∀ k, k < N → -1099511627776 ≤ (tailsF ts ps).getD k 0 ∧ (tailsF ts ps).getD k 0 ≤ 1099511627776) := Lib.hid (fun k hk => by
    have e : (tailsF ts ps).getD k 0 = exF ts (psK ps k) 0 := by
      unfold tailsF tailsL
      rw [List.getD_eq_getElem?_getD, List.getElem?_map, List.getElem?_range (by omega)]
      rfl
    rw [e]
    exact exF_bd htb (psK_in hpb (by omega) k) (by omega) (by rw [psK_len]; omega))
  obtain ⟨R, hR⟩ : ∃ R, R = safeB ht rc h ts ps := ⟨_, rfl⟩
  have HR1 : Hid ((∀ k, k < N → absI ((tailsF ts ps).getD k 0) ≤ rc) → R = decide (h ≤ ht)) := Lib.hid (fun q => by
    rw [hR]
    unfold safeB
    rw [farAny_false.2 (fun x hx => by
      obtain ⟨j, hj, e⟩ := List.mem_iff_getElem.1 hx
      have := q j (by rw [HLN.out]; exact hj)
      rwa [List.getD_eq_getElem?_getD, List.getElem?_eq_getElem hj, Option.getD_some, e] at this)]
    simp)
  have HR2 : Hid (∀ k, k < N → rc < absI ((tailsF ts ps).getD k 0) → R = false) := Lib.hid (fun k hk q => by
    rw [hR]
    unfold safeB
    have : farAny rc (tailsF ts ps) = true := by
      rcases Bool.eq_false_or_eq_true (farAny rc (tailsF ts ps)) with e | e
      · exact e
      · have h1 := farAny_false.1 e ((tailsF ts ps).getD k 0) (by
          rw [List.getD_eq_getElem?_getD, List.getElem?_eq_getElem (by rw [← HLN.out]; exact hk), Option.getD_some]
          exact List.getElem_mem _)
        omega
    rw [this]
    simp)
  rw [← hR]
  have hN1 : N ≤ 8 := by omega
  clear hT hG hP hM hN hMN htb hpb hlk hR
  go_enter Tryd.func34, Tryd.ntmps34
  go_wp2_with (go_at_call 33; refine name_calls ?_; intro w1 e1; refine Hid.out ?_)
  unfold Hid
  have hb1 : Below w.heap.size w w1 := by rw [e1]; (repeat (first | (with_reducible exact Below.refl _ _) | ((with_reducible refine Below.setCell ?_ ?_ _); rotate_left 1; focus (first | (simp; done) | (simp; omega) | (simp at *; omega))) | ((with_reducible refine Below.alloc ?_ ?_ _); rotate_left 1; focus (first | (simp; done) | (simp; omega) | (simp at *; omega))) | (with_reducible refine Below.drew ?_) | ((with_reducible refine Calm.step (by assumption) ?_ ?_); rotate_left 1; focus (first | (simp; done) | (simp; omega) | (simp at *; omega)))))
  have bg := Lib.hid (show Blk w1 w.heap.size #[(.int .i64 lk), (.int .i64 ht), .slice A1 M c1, (.int .i64 rc), .slice A2 L c2] by rw [e1]; (repeat (first | ((with_reducible refine Blk.at_ ?_); focus (first | rfl | (simp; done) | (simp; omega))) | (with_reducible refine Blk.alloc ?_ _) | (with_reducible refine Blk.below ?_ (by with_reducible assumption)) | (with_reducible refine Blk.drew ?_))))
  have bs := Lib.hid (show Blk w1 (w.heap.size + 1) #[(.int .i64 h), (.int .i64 lv), .slice A3 N c3] by rw [e1]; (repeat (first | ((with_reducible refine Blk.at_ ?_); focus (first | rfl | (simp; done) | (simp; omega))) | (with_reducible refine Blk.alloc ?_ _) | (with_reducible refine Blk.below ?_ (by with_reducible assumption)) | (with_reducible refine Blk.drew ?_))))
  refine (HTL.out _ (KG.st _ _ _ _ _ _ _ _ _ _ HU.out hb1) (KT.st _ _ _ _ _ _ _ HV.out hb1)).mono ?_
  rintro r w2 ⟨v2, rfl, hk2, hb2⟩
  obtain ⟨B, d, rfl, hc2, hi2⟩ := hk2
  have HK1 := Lib.hid (show KSI N (tailsF ts ps) (.slice B N d) w2 from ⟨_, _, rfl, hc2, hi2⟩)
  have bg2 := Lib.hid (bg.out.below hb2)
  have bs2 := Lib.hid (bs.out.below hb2)
  have HB2 := Lib.hid (hb1.trans (hb2.mono hb1.size))
  clear e1 hb1 hb2 hc2 hi2 HU HV HTL
  go_wp2
  go_loopw [6] (fun i wr => ∃ k : Nat, k ≤ N ∧ i = (.int .i64 ((k : Int))) ∧ (∀ j, j < k → absI ((tailsF ts ps).getD j 0) ≤ rc) ∧ Below w2.heap.size w2 wr) (fun i _ => N - (intOf i).toNat)
  case atStart => exact ⟨0, Nat.zero_le _, rfl, fun j hj => by omega, by (repeat (first | (with_reducible exact Below.refl _ _) | ((with_reducible refine Below.setCell ?_ ?_ _); rotate_left 1; focus (first | (simp; done) | (simp; omega) | (simp at *; omega))) | ((with_reducible refine Below.alloc ?_ ?_ _); rotate_left 1; focus (first | (simp; done) | (simp; omega) | (simp at *; omega))) | (with_reducible refine Below.drew ?_) | ((with_reducible refine Calm.step (by assumption) ?_ ?_); rotate_left 1; focus (first | (simp; done) | (simp; omega) | (simp at *; omega)))))⟩
  case round =>
    obtain ⟨k, hk, rfl, hfar, hbr⟩ := hrel
    have HBr := Lib.hid hbr
    have HFA := Lib.hid hfar
    have bgr := Lib.hid (bg2.out.below hbr)
    have bsr := Lib.hid (bs2.out.below hbr)
    clear hfar hbr
    obtain ⟨g0, g1, g2, g3, g4, gl, -⟩ := bgr.out.o5
    obtain ⟨s0, s1, s2, sl, -⟩ := bsr.out.o3
    by_cases hlt : k < N
    · skip
      obtain ⟨B', d', hB', hKC, hKR⟩ := (KSI.ik _ _).st _ _ _ HK1.out HBr.out
      cases hB'
      obtain ⟨b2, o2, hA, hbl2, hcell2⟩ := hKC (by rw [← HLN.out]; omega)
      subst hA
      have hck := hcell2 k (by rw [← HLN.out]; exact hlt)
      obtain ⟨x1, x2⟩ := HXB.out k hlt
      obtain ⟨x, hx⟩ : ∃ x, x = (tailsF ts ps).getD k 0 := ⟨_, rfl⟩
      rw [← hx] at hck x1 x2
      obtain ⟨X, hX⟩ : ∃ X, X = absI x := ⟨_, rfl⟩
      have HAX : Hid (∀ W, Calls Tryd.prog 82 #[(.int .i64 x)] W (KP (KV (.int .i64 X)) W)) := Lib.hid (fun W => by rw [hX]; exact (rAbs_any x W ⟨by omega, by omega⟩).mono fun e W' ⟨k1, k2⟩ => ⟨_, k1, rfl, k2 ▸ Below.refl _ _⟩)
      have HXX := Lib.hid (show X = absI ((tailsF ts ps).getD k 0) by rw [hX, hx])
      clear hcell2 hKC hKR hx hX
      by_cases hfx : X ≤ rc
      · go_wp2
        refine Rel.region3 7 (by kernel_rfl) (by kernel_rfl) (by kernel_rfl) ?_
        simp only [List.take_succ_cons, List.take_zero, List.drop_succ_cons, List.drop_zero, List.filterMap_cons, List.filterMap_nil]
        iterate 4 (apply Rel.op3; (focus (first | exact Rel.gno rfl | exact Rel.gyes _ true _ rfl rfl rfl | exact Rel.gyes _ false _ rfl rfl rfl)); (focus (intro a W hb hd hbase; obtain ⟨hc, hf⟩ := bcell hb; clear hb hf; simp [Rel.deps, Rel.dep1, Rel.ons, Region.binds, Act.eval, KV] at hd; simp only [Act.eval, List.mem_cons, List.not_mem_nil, not_or, and_imp, or_false, Array.getD_eq_getD_getElem?] at hbase; go_simp; (try go_bits); (try rfl); done)); (try simp only [List.nil_append, List.cons_append]))
        refine Rel.callK 82 (KV (.int .i64 X)) (KV.st _) (Rel.gno rfl) ?_ ?_
        · intro a W hb hd hbase
          have q1 : a.eval (.tmp 19) = _ := (Rel.dep_at hd 3 rfl rfl)
          refine ⟨#[a.eval (.tmp 19)], ?_, by rw [q1]; exact HAX.out _⟩
          clear hd hbase hb
          go_simp
          (first | done | rfl | (refine ⟨?_, ?_⟩ <;> rfl))
        (try simp only [List.nil_append, List.cons_append])
        iterate 2 (apply Rel.op3; (focus (first | exact Rel.gno rfl | exact Rel.gyes _ true _ rfl rfl rfl | exact Rel.gyes _ false _ rfl rfl rfl)); (focus (intro a W hb hd hbase; obtain ⟨hc, hf⟩ := bcell hb; clear hb hf; simp [Rel.deps, Rel.dep1, Rel.ons, Region.binds, Act.eval, KV] at hd; simp only [Act.eval, List.mem_cons, List.not_mem_nil, not_or, and_imp, or_false, Array.getD_eq_getD_getElem?] at hbase; go_simp; (try go_bits); (try rfl); done)); (try simp only [List.nil_append, List.cons_append]))
        refine Rel.done3 ?_
        intro x w21 h21 hx
        simp only [Rel.facts, Nat.zero_add, Nat.reduceAdd] at hx
        obtain ⟨e0, e1, e2, e3, e4, e5, e6, _⟩ := hx
        have e4 : x 4 = _ := e4
        simp only [Rel.fill, Nat.zero_add, Nat.reduceAdd, e0, e1, e2, e3, e4, e5, e6]
        simp only [Act.put, List.setIfInBounds_toArray, List.set_cons_zero, List.set_cons_succ]
        clear e0 e1 e2 e3 e4 e5 e6
        have HB21 := Lib.hid (HBr.out.trans (h21.mono HBr.out.size))
        go_wp2
        go_roundw
        case rel => exact ⟨k + 1, by omega, by go_num, fun j hj => by
          rcases Nat.lt_or_ge j k with q | q
          · exact HFA.out j q
          · obtain rfl : j = k := by omega
            rw [← HXX.out]; exact hfx, HB21.out⟩
        case measure => simp [intOf]; omega
      · have hRf := HR2.out k hlt (by rw [← HXX.out]; omega)
        subst hRf
        go_wp2
        refine Rel.region3 7 (by kernel_rfl) (by kernel_rfl) (by kernel_rfl) ?_
        simp only [List.take_succ_cons, List.take_zero, List.drop_succ_cons, List.drop_zero, List.filterMap_cons, List.filterMap_nil]
        iterate 4 (apply Rel.op3; (focus (first | exact Rel.gno rfl | exact Rel.gyes _ true _ rfl rfl rfl | exact Rel.gyes _ false _ rfl rfl rfl)); (focus (intro a W hb hd hbase; obtain ⟨hc, hf⟩ := bcell hb; clear hb hf; simp [Rel.deps, Rel.dep1, Rel.ons, Region.binds, Act.eval, KV] at hd; simp only [Act.eval, List.mem_cons, List.not_mem_nil, not_or, and_imp, or_false, Array.getD_eq_getD_getElem?] at hbase; go_simp; (try go_bits); (try rfl); done)); (try simp only [List.nil_append, List.cons_append]))
        refine Rel.callK 82 (KV (.int .i64 X)) (KV.st _) (Rel.gno rfl) ?_ ?_
        · intro a W hb hd hbase
          have q1 : a.eval (.tmp 19) = _ := (Rel.dep_at hd 3 rfl rfl)
          refine ⟨#[a.eval (.tmp 19)], ?_, by rw [q1]; exact HAX.out _⟩
          clear hd hbase hb
          go_simp
          (first | done | rfl | (refine ⟨?_, ?_⟩ <;> rfl))
        (try simp only [List.nil_append, List.cons_append])
        iterate 2 (apply Rel.op3; (focus (first | exact Rel.gno rfl | exact Rel.gyes _ true _ rfl rfl rfl | exact Rel.gyes _ false _ rfl rfl rfl)); (focus (intro a W hb hd hbase; obtain ⟨hc, hf⟩ := bcell hb; clear hb hf; simp [Rel.deps, Rel.dep1, Rel.ons, Region.binds, Act.eval, KV] at hd; simp only [Act.eval, List.mem_cons, List.not_mem_nil, not_or, and_imp, or_false, Array.getD_eq_getD_getElem?] at hbase; go_simp; (try go_bits); (try rfl); done)); (try simp only [List.nil_append, List.cons_append]))
        refine Rel.done3 ?_
        intro x w21 h21 hx
        simp only [Rel.facts, Nat.zero_add, Nat.reduceAdd] at hx
        obtain ⟨e0, e1, e2, e3, e4, e5, e6, _⟩ := hx
        have e4 : x 4 = _ := e4
        simp only [Rel.fill, Nat.zero_add, Nat.reduceAdd, e0, e1, e2, e3, e4, e5, e6]
        simp only [Act.put, List.setIfInBounds_toArray, List.set_cons_zero, List.set_cons_succ]
        clear e0 e1 e2 e3 e4 e5 e6
        have HB21 := Lib.hid (HBr.out.trans (h21.mono HBr.out.size))
        go_wp2
        go_ret
        exact ⟨_, by first | rfl | (simp; done), rfl, HB2.out.trans (HB21.out.mono HB2.out.size)⟩
    · obtain rfl : k = N := by omega
      have hRt := Lib.hid (HR1.out HFA.out)
      go_wp2
      go_ret
      exact ⟨_, by rw [hRt.out] <;> rfl, rfl, HB2.out.trans (HBr.out.mono HB2.out.size)⟩
theorem rSafe_K {lk ht rc h lv : Int} {ts gs ps : List Int} {M L N : Nat} {u v : Value} {W : World} (hlk : 1 ≤ lk ∧ lk ≤ 8) (hh : 0 ≤ h ∧ h ≤ 1099511627776) (hM : M = ts.length) (hN : N = ps.length) (hMN : M = N + 1) (hM8 : M ≤ 8) (htb : inB 64 ts) (hpb : inB 2048 ps) (hu : KG lk ht rc M ts L gs u W) (hv : KT h lv N ps v W) :
    Calls Tryd.prog 34 #[u, v] W (KP (KV (.bool (safeB ht rc h ts ps))) W) := by
  obtain ⟨A1, c1, A2, c2, rfl, hT, hG⟩ := hu
  obtain ⟨A3, c3, rfl, hP⟩ := hv
  exact rSafe_walk hlk hh hM hN hMN hM8 htb hpb hT hG hP
end Go.Proofs.YtdeapbihbhoefaaDoor

/- Plain laws of ProtectKeeps: the limits as sums of the taps. -/
namespace Go.Proofs.YtdeapbihbhoefaaDoor
open Go.RowKit

end Go.Proofs.YtdeapbihbhoefaaDoor

/- Plain laws of ProtectOpposite. -/
namespace Go.Proofs.YtdeapbihbhoefaaDoor
open Go.RowKit

end Go.Proofs.YtdeapbihbhoefaaDoor

/- Plain laws of ProtectLoudest: the search goes through all lists in their order. -/
namespace Go.Proofs.YtdeapbihbhoefaaDoor
open Go.RowKit

end Go.Proofs.YtdeapbihbhoefaaDoor

/- Plain laws: what the reference computes is what the program computes. -/
namespace Go.Proofs.YtdeapbihbhoefaaDoor
open Go.RowKit

theorem enK_cons (y : Int) (l : List Int) : ∀ k, enK (y :: l) (k + 1) = y * y + enK l k
  | 0 => by simp [enK]
  | k + 1 => by
    show enK (y :: l) (k + 1) + (y :: l).getD (k + 1) 0 * (y :: l).getD (k + 1) 0 = _
    rw [enK_cons y l k, List.getD_cons_succ]
    simp only [enK]
    omega
/-- the better one of two lists, the first one where both are as good. -/
def updO (b o : Option (List Int)) : Option (List Int) := match o with
  | none => b
  | some x => updB b x
/-- the search of the reference: n further outputs from a heat and last outputs on. -/
def refK (lk ht rc : Int) (ts ls : List Int) (rec : Int → List Int → Option (List Int)) (h : Int) (ps : List Int) : Nat → Option (List Int)
  | 0 => none
  | k + 1 => if fineF ht rc (coolF lk h + ls.getD k 0 * ls.getD k 0) (exF ts ps (ls.getD k 0)) ts (pushL ps (ls.getD k 0))
      then updO (refK lk ht rc ts ls rec h ps k) ((rec (coolF lk h + ls.getD k 0 * ls.getD k 0) (pushL ps (ls.getD k 0))).map (ls.getD k 0 :: ·)) else refK lk ht rc ts ls rec h ps k
/-- the greatest permitted gain among the first ones, 0 where none is. -/
def permB (lk ht rc : Int) (ts gs : List Int) (s : St) (x : Int) (i : Nat) : Bool := decide (i ≤ s.lv + 1) && okAt lk ht rc s.h x ts s.ps gs i
def bestK (lk ht rc : Int) (ts gs : List Int) (s : St) (x : Int) : Nat → Nat
  | 0 => 0
  | i + 1 => if permB lk ht rc ts gs s x i then i else bestK lk ht rc ts gs s x i
theorem bestK_low (lk ht rc : Int) (ts gs : List Int) (s : St) (x : Int) : ∀ n, n ≤ s.lv + 2 → bestK lk ht rc ts gs s x n = (stepK lk ht rc s.h x ts s.ps gs n).getD 0
  | 0, _ => rfl
  | n + 1, h => by
    have e : permB lk ht rc ts gs s x n = okAt lk ht rc s.h x ts s.ps gs n := by unfold permB; rw [decide_eq_true (by omega), Bool.true_and]
    simp only [bestK, stepK]
    rw [e]
    split
    · rfl
    · exact bestK_low lk ht rc ts gs s x n (by omega)
theorem bestK_high (lk ht rc : Int) (ts gs : List Int) (s : St) (x : Int) : ∀ m, bestK lk ht rc ts gs s x (s.lv + 2 + m) = bestK lk ht rc ts gs s x (s.lv + 2)
  | 0 => rfl
  | m + 1 => by
    show (if permB lk ht rc ts gs s x (s.lv + 2 + m) then s.lv + 2 + m else bestK lk ht rc ts gs s x (s.lv + 2 + m)) = _
    have : permB lk ht rc ts gs s x (s.lv + 2 + m) = false := by unfold permB; rw [decide_eq_false (by omega)]; rfl
    rw [this]
    exact bestK_high lk ht rc ts gs s x m
theorem bestK_lv (lk ht rc : Int) (ts gs : List Int) (s : St) (x : Int) (h : 1 ≤ gs.length) : bestK lk ht rc ts gs s x gs.length = lvF lk ht rc ts gs s x := by
  unfold lvF
  rcases Nat.lt_or_ge (s.lv + 2) gs.length with h1 | h1
  · have e := bestK_high lk ht rc ts gs s x (gs.length - (s.lv + 2))
    rw [show s.lv + 2 + (gs.length - (s.lv + 2)) = gs.length by omega] at e
    rw [e, bestK_low _ _ _ _ _ _ _ _ (Nat.le_refl _), show min (s.lv + 1) (gs.length - 1) + 1 = s.lv + 2 by omega]
  · rw [bestK_low _ _ _ _ _ _ _ _ h1, show min (s.lv + 1) (gs.length - 1) + 1 = gs.length by omega]
end Go.Proofs.YtdeapbihbhoefaaDoor
