/- Part 24 of the texts of the claim: N6, QK, QO, QL. -/
import Derived.Test.YtdeapbihbhoefaaDoorPr23
import Derived.Test.YtdeapbihbhoefaaDoorPr14
import Derived.Test.YtdeapbihbhoefaaDoorPr18

/- The reference's Safe. -/
namespace Go.Proofs.YtdeapbihbhoefaaDoor
open Go.RowKit
open Calm (bcell Blk)
def safeB (ht rc h : Int) (ts ps : List Int) : Bool := decide (h ≤ ht) && !farAny rc (tailsF ts ps)

set_option maxRecDepth 100000 in
set_option maxHeartbeats 4000000 in
theorem rSafe_walk {lk ht rc h lv : Int} {ts gs ps : List Int} {M L N : Nat} {A1 A2 A3 : Option Addr} {c1 c2 c3 : Nat} {w : World} (hlk : 1 ≤ lk ∧ lk ≤ 8) (hh : 0 ≤ h ∧ h ≤ 1099511627776) (hM : M = ts.length) (hN : N = ps.length) (hMN : M = N + 1) (hM8 : M ≤ 8) (htb : inB 64 ts) (hpb : inB 2048 ps)
    (hT : Cells w A1 ts) (hG : Cells w A2 gs) (hP : Cells w A3 ps) :
    Calls Tryd.prog 34 #[.agg #[(.int .i64 (lk)), (.int .i64 (ht)), .slice A1 M c1, (.int .i64 (rc)), .slice A2 L c2], .agg #[(.int .i64 (h)), (.int .i64 (lv)), .slice A3 N c3]] w (KP (KV (.bool (safeB ht rc h ts ps))) w) := by
  have HU := Lib.hid (show KG lk ht rc M ts L gs (.agg #[(.int .i64 (lk)), (.int .i64 (ht)), .slice A1 M c1, (.int .i64 (rc)), .slice A2 L c2]) w from ⟨_, _, _, _, rfl, hT, hG⟩)
  have HV := Lib.hid (show KT h lv N ps (.agg #[(.int .i64 (h)), (.int .i64 (lv)), .slice A3 N c3]) w from ⟨_, _, rfl, hP⟩)
  have HTL : Hid (∀ {u v : Value} (W : World), KG lk ht rc M ts L gs u W → KT h lv N ps v W → Calls Tryd.prog 33 #[u, v] W (KP (KSI N (tailsF ts ps)) W)) := Lib.hid (fun W q1 q2 => rTails_K hlk hh hM hN hMN (by omega) htb hpb q1 q2)
  have HLN := Lib.hid (show N = (tailsF ts ps).length by unfold tailsF; rw [tailsL_len]; exact hN)
  have HXB : Hid (∀ k, k < N → -1099511627776 ≤ (tailsF ts ps).getD k 0 ∧ (tailsF ts ps).getD k 0 ≤ 1099511627776) := Lib.hid (fun k hk => by
    have e : (tailsF ts ps).getD k 0 = exF ts (psK ps k) 0 := by
      unfold tailsF tailsL
      rw [List.getD_eq_getElem?_getD, List.getElem?_map, List.getElem?_range (by omega)]
      rfl
    rw [e]
    exact exF_bd htb (psK_in hpb (by omega) k) (by omega) (by rw [psK_len]; omega))
  obtain ⟨R, hR⟩ : ∃ R, R = safeB ht rc h ts ps := ⟨_, rfl⟩
  have HR1 : Hid ((∀ k, k < N → absI ((tailsF ts ps).getD k 0) ≤ rc) → R = decide (h ≤ ht)) := Lib.hid (fun q => by
    rw [hR]
    unfold safeB
    rw [farAny_false.2 (fun x hx => by
      obtain ⟨j, hj, e⟩ := List.mem_iff_getElem.1 hx
      have := q j (by rw [HLN.out]; exact hj)
      rwa [List.getD_eq_getElem?_getD, List.getElem?_eq_getElem hj, Option.getD_some, e] at this)]
    simp)
  have HR2 : Hid (∀ k, k < N → rc < absI ((tailsF ts ps).getD k 0) → R = false) := Lib.hid (fun k hk q => by
    rw [hR]
    unfold safeB
    have : farAny rc (tailsF ts ps) = true := by
      rcases Bool.eq_false_or_eq_true (farAny rc (tailsF ts ps)) with e | e
      · exact e
      · have h1 := farAny_false.1 e ((tailsF ts ps).getD k 0) (by
          rw [List.getD_eq_getElem?_getD, List.getElem?_eq_getElem (by rw [← HLN.out]; exact hk), Option.getD_some]
          exact List.getElem_mem _)
        omega
    rw [this]
    simp)
  rw [← hR]
  have hN1 : N ≤ 8 := by omega
  clear hT hG hP hM hN hMN htb hpb hlk hR
  go_enter Tryd.func34, Tryd.ntmps34
  go_wp2_with (go_at_call 33; refine name_calls ?_; intro w1 e1; refine Hid.out ?_)
  unfold Hid
  have hb1 : Below w.heap.size w w1 := by rw [e1]; (repeat (first | (with_reducible exact Below.refl _ _) | ((with_reducible refine Below.setCell ?_ ?_ _); rotate_left 1; focus (first | (simp; done) | (simp; omega) | (simp at *; omega))) | ((with_reducible refine Below.alloc ?_ ?_ _); rotate_left 1; focus (first | (simp; done) | (simp; omega) | (simp at *; omega))) | (with_reducible refine Below.drew ?_) | ((with_reducible refine Calm.step (by assumption) ?_ ?_); rotate_left 1; focus (first | (simp; done) | (simp; omega) | (simp at *; omega)))))
  have bg := Lib.hid (show Blk w1 w.heap.size #[(.int .i64 (lk)), (.int .i64 (ht)), .slice A1 M c1, (.int .i64 (rc)), .slice A2 L c2] by rw [e1]; (repeat (first | ((with_reducible refine Blk.at_ ?_); focus (first | rfl | (simp; done) | (simp; omega))) | (with_reducible refine Blk.alloc ?_ _) | (with_reducible refine Blk.below ?_ (by with_reducible assumption)) | (with_reducible refine Blk.drew ?_))))
  have bs := Lib.hid (show Blk w1 (w.heap.size + 1) #[(.int .i64 (h)), (.int .i64 (lv)), .slice A3 N c3] by rw [e1]; (repeat (first | ((with_reducible refine Blk.at_ ?_); focus (first | rfl | (simp; done) | (simp; omega))) | (with_reducible refine Blk.alloc ?_ _) | (with_reducible refine Blk.below ?_ (by with_reducible assumption)) | (with_reducible refine Blk.drew ?_))))
  refine (HTL.out _ (KG.st _ _ _ _ _ _ _ _ _ _ HU.out hb1) (KT.st _ _ _ _ _ _ _ HV.out hb1)).mono ?_
  rintro r w2 ⟨v2, rfl, hk2, hb2⟩
  obtain ⟨B, d, rfl, hc2, hi2⟩ := hk2
  have HK1 := Lib.hid (show KSI N (tailsF ts ps) (.slice B N d) w2 from ⟨_, _, rfl, hc2, hi2⟩)
  have bg2 := Lib.hid (bg.out.below hb2)
  have bs2 := Lib.hid (bs.out.below hb2)
  have HB2 := Lib.hid (hb1.trans (hb2.mono hb1.size))
  clear e1 hb1 hb2 hc2 hi2 HU HV HTL
  go_wp2
  go_loopw [6] (fun i wr => ∃ k : Nat, k ≤ N ∧ i = (.int .i64 ((k : Int))) ∧ (∀ j, j < k → absI ((tailsF ts ps).getD j 0) ≤ rc) ∧ Below w2.heap.size w2 wr) (fun i _ => N - (intOf i).toNat)
  case atStart => exact ⟨0, Nat.zero_le _, rfl, fun j hj => by omega, by (repeat (first | (with_reducible exact Below.refl _ _) | ((with_reducible refine Below.setCell ?_ ?_ _); rotate_left 1; focus (first | (simp; done) | (simp; omega) | (simp at *; omega))) | ((with_reducible refine Below.alloc ?_ ?_ _); rotate_left 1; focus (first | (simp; done) | (simp; omega) | (simp at *; omega))) | (with_reducible refine Below.drew ?_) | ((with_reducible refine Calm.step (by assumption) ?_ ?_); rotate_left 1; focus (first | (simp; done) | (simp; omega) | (simp at *; omega)))))⟩
  case round =>
    obtain ⟨k, hk, rfl, hfar, hbr⟩ := hrel
    have HBr := Lib.hid hbr
    have HFA := Lib.hid hfar
    have bgr := Lib.hid (bg2.out.below hbr)
    have bsr := Lib.hid (bs2.out.below hbr)
    clear hfar hbr
    obtain ⟨g0, g1, g2, g3, g4, gl, -⟩ := bgr.out.o5
    obtain ⟨s0, s1, s2, sl, -⟩ := bsr.out.o3
    by_cases hlt : k < N
    · skip
      obtain ⟨B', d', hB', hKC, hKR⟩ := (KSI.ik _ _).st _ _ _ HK1.out HBr.out
      cases hB'
      obtain ⟨b2, o2, hA, hbl2, hcell2⟩ := hKC (by rw [← HLN.out]; omega)
      subst hA
      have hck := hcell2 k (by rw [← HLN.out]; exact hlt)
      obtain ⟨x1, x2⟩ := HXB.out k hlt
      obtain ⟨x, hx⟩ : ∃ x, x = (tailsF ts ps).getD k 0 := ⟨_, rfl⟩
      rw [← hx] at hck x1 x2
      obtain ⟨X, hX⟩ : ∃ X, X = absI x := ⟨_, rfl⟩
      have HAX : Hid (∀ W, Calls Tryd.prog 82 #[(.int .i64 (x))] W (KP (KV (.int .i64 (X))) W)) := Lib.hid (fun W => by rw [hX]; exact (rAbs_any x W ⟨by omega, by omega⟩).mono fun e W' ⟨k1, k2⟩ => ⟨_, k1, rfl, k2 ▸ Below.refl _ _⟩)
      have HXX := Lib.hid (show X = absI ((tailsF ts ps).getD k 0) by rw [hX, hx])
      clear hcell2 hKC hKR hx hX
      by_cases hfx : X ≤ rc
      · go_wp2
        refine Rel.region3 7 (by kernel_rfl) (by kernel_rfl) (by kernel_rfl) ?_
        simp only [List.take_succ_cons, List.take_zero, List.drop_succ_cons, List.drop_zero, List.filterMap_cons, List.filterMap_nil]
        (apply Rel.op3; (focus (first | exact Rel.gno rfl | exact Rel.gyes _ true _ rfl rfl rfl | exact Rel.gyes _ false _ rfl rfl rfl)); (focus (intro a W hb hd hbase; obtain ⟨hc, hf⟩ := bcell hb; clear hb hf; simp [Rel.deps, Rel.dep1, Rel.ons, Region.binds, Act.eval, KV] at hd; simp only [Act.eval, List.mem_cons, List.not_mem_nil, not_or, and_imp, or_false, Array.getD_eq_getD_getElem?] at hbase; go_simp; (try go_bits); (try rfl); done)); (try simp only [List.nil_append, List.cons_append]))
        (apply Rel.op3; (focus (first | exact Rel.gno rfl | exact Rel.gyes _ true _ rfl rfl rfl | exact Rel.gyes _ false _ rfl rfl rfl)); (focus (intro a W hb hd hbase; obtain ⟨hc, hf⟩ := bcell hb; clear hb hf; simp [Rel.deps, Rel.dep1, Rel.ons, Region.binds, Act.eval, KV] at hd; simp only [Act.eval, List.mem_cons, List.not_mem_nil, not_or, and_imp, or_false, Array.getD_eq_getD_getElem?] at hbase; go_simp; (try go_bits); (try rfl); done)); (try simp only [List.nil_append, List.cons_append]))
        (apply Rel.op3; (focus (first | exact Rel.gno rfl | exact Rel.gyes _ true _ rfl rfl rfl | exact Rel.gyes _ false _ rfl rfl rfl)); (focus (intro a W hb hd hbase; obtain ⟨hc, hf⟩ := bcell hb; clear hb hf; simp [Rel.deps, Rel.dep1, Rel.ons, Region.binds, Act.eval, KV] at hd; simp only [Act.eval, List.mem_cons, List.not_mem_nil, not_or, and_imp, or_false, Array.getD_eq_getD_getElem?] at hbase; go_simp; (try go_bits); (try rfl); done)); (try simp only [List.nil_append, List.cons_append]))
        (apply Rel.op3; (focus (first | exact Rel.gno rfl | exact Rel.gyes _ true _ rfl rfl rfl | exact Rel.gyes _ false _ rfl rfl rfl)); (focus (intro a W hb hd hbase; obtain ⟨hc, hf⟩ := bcell hb; clear hb hf; simp [Rel.deps, Rel.dep1, Rel.ons, Region.binds, Act.eval, KV] at hd; simp only [Act.eval, List.mem_cons, List.not_mem_nil, not_or, and_imp, or_false, Array.getD_eq_getD_getElem?] at hbase; go_simp; (try go_bits); (try rfl); done)); (try simp only [List.nil_append, List.cons_append]))
        refine Rel.callK 82 (KV (.int .i64 (X))) (KV.st _) (Rel.gno rfl) ?_ ?_
        · intro a W hb hd hbase
          have q1 : a.eval (.tmp 19) = _ := (Rel.dep_at hd 3 rfl rfl)
          refine ⟨#[a.eval (.tmp 19)], ?_, by rw [q1]; exact HAX.out _⟩
          clear hd hbase hb
          go_simp
          (first | done | rfl | (refine ⟨?_, ?_⟩ <;> rfl))
        (try simp only [List.nil_append, List.cons_append])
        (apply Rel.op3; (focus (first | exact Rel.gno rfl | exact Rel.gyes _ true _ rfl rfl rfl | exact Rel.gyes _ false _ rfl rfl rfl)); (focus (intro a W hb hd hbase; obtain ⟨hc, hf⟩ := bcell hb; clear hb hf; simp [Rel.deps, Rel.dep1, Rel.ons, Region.binds, Act.eval, KV] at hd; simp only [Act.eval, List.mem_cons, List.not_mem_nil, not_or, and_imp, or_false, Array.getD_eq_getD_getElem?] at hbase; go_simp; (try go_bits); (try rfl); done)); (try simp only [List.nil_append, List.cons_append]))
        (apply Rel.op3; (focus (first | exact Rel.gno rfl | exact Rel.gyes _ true _ rfl rfl rfl | exact Rel.gyes _ false _ rfl rfl rfl)); (focus (intro a W hb hd hbase; obtain ⟨hc, hf⟩ := bcell hb; clear hb hf; simp [Rel.deps, Rel.dep1, Rel.ons, Region.binds, Act.eval, KV] at hd; simp only [Act.eval, List.mem_cons, List.not_mem_nil, not_or, and_imp, or_false, Array.getD_eq_getD_getElem?] at hbase; go_simp; (try go_bits); (try rfl); done)); (try simp only [List.nil_append, List.cons_append]))
        refine Rel.done3 ?_
        intro x w21 h21 hx
        simp only [Rel.facts, Nat.zero_add, Nat.reduceAdd] at hx
        obtain ⟨e0, e1, e2, e3, e4, e5, e6, _⟩ := hx
        have e4 : x 4 = _ := e4
        simp only [Rel.fill, Nat.zero_add, Nat.reduceAdd, e0, e1, e2, e3, e4, e5, e6]
        simp only [Act.put, List.setIfInBounds_toArray, List.set_cons_zero, List.set_cons_succ]
        clear e0 e1 e2 e3 e4 e5 e6
        have HB21 := Lib.hid (HBr.out.trans (h21.mono HBr.out.size))
        go_wp2
        go_roundw
        case rel => exact ⟨k + 1, by omega, by go_num, fun j hj => by
          rcases Nat.lt_or_ge j k with q | q
          · exact HFA.out j q
          · obtain rfl : j = k := by omega
            rw [← HXX.out]; exact hfx, HB21.out⟩
        case measure => simp [intOf]; omega
      · have hRf := HR2.out k hlt (by rw [← HXX.out]; omega)
        subst hRf
        go_wp2
        refine Rel.region3 7 (by kernel_rfl) (by kernel_rfl) (by kernel_rfl) ?_
        simp only [List.take_succ_cons, List.take_zero, List.drop_succ_cons, List.drop_zero, List.filterMap_cons, List.filterMap_nil]
        (apply Rel.op3; (focus (first | exact Rel.gno rfl | exact Rel.gyes _ true _ rfl rfl rfl | exact Rel.gyes _ false _ rfl rfl rfl)); (focus (intro a W hb hd hbase; obtain ⟨hc, hf⟩ := bcell hb; clear hb hf; simp [Rel.deps, Rel.dep1, Rel.ons, Region.binds, Act.eval, KV] at hd; simp only [Act.eval, List.mem_cons, List.not_mem_nil, not_or, and_imp, or_false, Array.getD_eq_getD_getElem?] at hbase; go_simp; (try go_bits); (try rfl); done)); (try simp only [List.nil_append, List.cons_append]))
        (apply Rel.op3; (focus (first | exact Rel.gno rfl | exact Rel.gyes _ true _ rfl rfl rfl | exact Rel.gyes _ false _ rfl rfl rfl)); (focus (intro a W hb hd hbase; obtain ⟨hc, hf⟩ := bcell hb; clear hb hf; simp [Rel.deps, Rel.dep1, Rel.ons, Region.binds, Act.eval, KV] at hd; simp only [Act.eval, List.mem_cons, List.not_mem_nil, not_or, and_imp, or_false, Array.getD_eq_getD_getElem?] at hbase; go_simp; (try go_bits); (try rfl); done)); (try simp only [List.nil_append, List.cons_append]))
        (apply Rel.op3; (focus (first | exact Rel.gno rfl | exact Rel.gyes _ true _ rfl rfl rfl | exact Rel.gyes _ false _ rfl rfl rfl)); (focus (intro a W hb hd hbase; obtain ⟨hc, hf⟩ := bcell hb; clear hb hf; simp [Rel.deps, Rel.dep1, Rel.ons, Region.binds, Act.eval, KV] at hd; simp only [Act.eval, List.mem_cons, List.not_mem_nil, not_or, and_imp, or_false, Array.getD_eq_getD_getElem?] at hbase; go_simp; (try go_bits); (try rfl); done)); (try simp only [List.nil_append, List.cons_append]))
        (apply Rel.op3; (focus (first | exact Rel.gno rfl | exact Rel.gyes _ true _ rfl rfl rfl | exact Rel.gyes _ false _ rfl rfl rfl)); (focus (intro a W hb hd hbase; obtain ⟨hc, hf⟩ := bcell hb; clear hb hf; simp [Rel.deps, Rel.dep1, Rel.ons, Region.binds, Act.eval, KV] at hd; simp only [Act.eval, List.mem_cons, List.not_mem_nil, not_or, and_imp, or_false, Array.getD_eq_getD_getElem?] at hbase; go_simp; (try go_bits); (try rfl); done)); (try simp only [List.nil_append, List.cons_append]))
        refine Rel.callK 82 (KV (.int .i64 (X))) (KV.st _) (Rel.gno rfl) ?_ ?_
        · intro a W hb hd hbase
          have q1 : a.eval (.tmp 19) = _ := (Rel.dep_at hd 3 rfl rfl)
          refine ⟨#[a.eval (.tmp 19)], ?_, by rw [q1]; exact HAX.out _⟩
          clear hd hbase hb
          go_simp
          (first | done | rfl | (refine ⟨?_, ?_⟩ <;> rfl))
        (try simp only [List.nil_append, List.cons_append])
        (apply Rel.op3; (focus (first | exact Rel.gno rfl | exact Rel.gyes _ true _ rfl rfl rfl | exact Rel.gyes _ false _ rfl rfl rfl)); (focus (intro a W hb hd hbase; obtain ⟨hc, hf⟩ := bcell hb; clear hb hf; simp [Rel.deps, Rel.dep1, Rel.ons, Region.binds, Act.eval, KV] at hd; simp only [Act.eval, List.mem_cons, List.not_mem_nil, not_or, and_imp, or_false, Array.getD_eq_getD_getElem?] at hbase; go_simp; (try go_bits); (try rfl); done)); (try simp only [List.nil_append, List.cons_append]))
        (apply Rel.op3; (focus (first | exact Rel.gno rfl | exact Rel.gyes _ true _ rfl rfl rfl | exact Rel.gyes _ false _ rfl rfl rfl)); (focus (intro a W hb hd hbase; obtain ⟨hc, hf⟩ := bcell hb; clear hb hf; simp [Rel.deps, Rel.dep1, Rel.ons, Region.binds, Act.eval, KV] at hd; simp only [Act.eval, List.mem_cons, List.not_mem_nil, not_or, and_imp, or_false, Array.getD_eq_getD_getElem?] at hbase; go_simp; (try go_bits); (try rfl); done)); (try simp only [List.nil_append, List.cons_append]))
        refine Rel.done3 ?_
        intro x w21 h21 hx
        simp only [Rel.facts, Nat.zero_add, Nat.reduceAdd] at hx
        obtain ⟨e0, e1, e2, e3, e4, e5, e6, _⟩ := hx
        have e4 : x 4 = _ := e4
        simp only [Rel.fill, Nat.zero_add, Nat.reduceAdd, e0, e1, e2, e3, e4, e5, e6]
        simp only [Act.put, List.setIfInBounds_toArray, List.set_cons_zero, List.set_cons_succ]
        clear e0 e1 e2 e3 e4 e5 e6
        have HB21 := Lib.hid (HBr.out.trans (h21.mono HBr.out.size))
        go_wp2
        go_ret
        exact ⟨_, by first | rfl | (simp; done), rfl, HB2.out.trans (HB21.out.mono HB2.out.size)⟩
    · obtain rfl : k = N := by omega
      have hRt := Lib.hid (HR1.out HFA.out)
      go_wp2
      go_ret
      exact ⟨_, by rw [hRt.out] <;> rfl, rfl, HB2.out.trans (HBr.out.mono HB2.out.size)⟩
theorem rSafe_K {lk ht rc h lv : Int} {ts gs ps : List Int} {M L N : Nat} {u v : Value} {W : World} (hlk : 1 ≤ lk ∧ lk ≤ 8) (hh : 0 ≤ h ∧ h ≤ 1099511627776) (hM : M = ts.length) (hN : N = ps.length) (hMN : M = N + 1) (hM8 : M ≤ 8) (htb : inB 64 ts) (hpb : inB 2048 ps) (hu : KG lk ht rc M ts L gs u W) (hv : KT h lv N ps v W) :
    Calls Tryd.prog 34 #[u, v] W (KP (KV (.bool (safeB ht rc h ts ps))) W) := by
  obtain ⟨A1, c1, A2, c2, rfl, hT, hG⟩ := hu
  obtain ⟨A3, c3, rfl, hP⟩ := hv
  exact rSafe_walk hlk hh hM hN hMN hM8 htb hpb hT hG hP
end Go.Proofs.YtdeapbihbhoefaaDoor

/- Plain laws of ProtectKeeps: the limits as sums of the taps. -/
namespace Go.Proofs.YtdeapbihbhoefaaDoor
open Go.RowKit

/-- the output so many outputs before the last one of some. -/
def revD (os : List Int) (j : Nat) : Int := if j < os.length then os.getD (os.length - 1 - j) 0 else 0
/-- the last n outputs, the latest one first. -/
def pastL (n : Nat) (os : List Int) : List Int := (List.range n).map (revD os)
/-- the sum of m taps from one on, over the last outputs. -/
def latK (ts os : List Int) (later : Nat) : Nat → Int
  | 0 => 0
  | m + 1 => latK ts os later m + ts.getD (later + m) 0 * revD os m
/-- the heat behind the last one of some outputs, and the excursions at it and behind it, keep the limits. -/
def keepsF (lk ht rc h : Int) (ts os : List Int) : Bool :=
  decide (coolF lk h + revD os 0 * revD os 0 ≤ ht) && (List.range ts.length).all fun later => decide (absI (latK ts os later (ts.length - later)) ≤ rc)
theorem revD_snoc0 (os : List Int) (y : Int) : revD (os ++ [y]) 0 = y := by
  unfold revD
  rw [if_pos (by simp)]
  simp [List.getD_eq_getElem?_getD]
theorem revD_snoc (os : List Int) (y : Int) (j : Nat) : revD (os ++ [y]) (j + 1) = revD os j := by
  unfold revD
  simp only [List.length_append, List.length_cons, List.length_nil]
  by_cases h : j < os.length
  · rw [if_pos (by omega), if_pos h, List.getD_eq_getElem?_getD, List.getD_eq_getElem?_getD, List.getElem?_append_left (by omega)]
    congr 2
    omega
  · rw [if_neg (by omega), if_neg h]
theorem revD_nil (j : Nat) : revD [] j = 0 := rfl
theorem pastL_len (n : Nat) (os : List Int) : (pastL n os).length = n := by simp [pastL]
theorem pastL_getD (n : Nat) (os : List Int) (j : Nat) : (pastL n os).getD j 0 = if j < n then revD os j else 0 := by
  unfold pastL
  rw [List.getD_eq_getElem?_getD, List.getElem?_map]
  by_cases h : j < n
  · rw [if_pos h, List.getElem?_range h]; rfl
  · rw [if_neg h, List.getElem?_eq_none (by simpa using h)]; rfl
theorem pastL_nil (n : Nat) : pastL n [] = List.replicate n 0 := by
  apply List.ext_getElem
  · simp [pastL]
  · intro i h1 h2; simp [pastL, revD]
theorem pastL_snoc (n : Nat) (os : List Int) (y : Int) : pastL n (os ++ [y]) = pushL (pastL n os) y := by
  apply List.ext_getElem
  · rw [pushL_len, pastL_len, pastL_len]
  · intro i h1 h2
    rw [pastL_len] at h1
    have e1 : (pastL n (os ++ [y]))[i] = (pastL n (os ++ [y])).getD i 0 := by rw [List.getD_eq_getElem?_getD, List.getElem?_eq_getElem (by rw [pastL_len]; exact h1)]; rfl
    have e2 : (pushL (pastL n os) y)[i] = (pushL (pastL n os) y).getD i 0 := by rw [List.getD_eq_getElem?_getD, List.getElem?_eq_getElem h2]; rfl
    rw [e1, e2, pastL_getD, if_pos h1, pushL_getD, pastL_len, if_pos h1]
    cases i with
    | zero => rw [revD_snoc0]; rfl
    | succ j => rw [revD_snoc, List.getD_cons_succ, pastL_getD, if_pos (by omega)]
theorem st_past (lk ht rc : Int) (ts gs xs : List Int) : ∀ k, (stAt lk ht rc ts gs xs k).ps = pastL (ts.length - 1) (outsK lk ht rc ts gs xs k)
  | 0 => by rw [show outsK lk ht rc ts gs xs 0 = [] from rfl, pastL_nil]; rfl
  | k + 1 => by
    rw [outsK_succ, pastL_snoc, ← st_past lk ht rc ts gs xs k]
    rfl
theorem latK_now {ts os : List Int} {n : Nat} (y : Int) : ∀ k, k ≤ n → exK ts (pastL n os) y k = latK ts (os ++ [y]) 0 (k + 1)
  | 0, _ => by simp [exK, latK, revD_snoc0]
  | k + 1, h => by
    show exK ts (pastL n os) y k + ts.getD (k + 1) 0 * (pastL n os).getD k 0 = latK ts (os ++ [y]) 0 (k + 1) + ts.getD (0 + (k + 1)) 0 * revD (os ++ [y]) (k + 1)
    rw [latK_now y k (by omega), revD_snoc, pastL_getD, if_pos (by omega), Nat.zero_add]
theorem latK_later {ts os : List Int} {n k : Nat} : ∀ m, k + m ≤ n → exK ts (psK (pastL n os) k) 0 (k + m) = latK ts os (k + 1) m
  | 0, h => by
    rw [Nat.add_zero, latK]
    refine exK_zero (fun i hi => ?_)
    rw [psK_getD, pastL_len, if_pos (by omega), if_pos hi]
  | m + 1, h => by
    show exK ts (psK (pastL n os) k) 0 (k + m + 1) = _
    rw [exK, latK_later m (by omega), latK, psK_getD, pastL_len, if_pos (by omega), if_neg (by omega), pastL_getD, if_pos (by omega)]
    rw [show k + m - k = m by omega, show k + m + 1 = k + 1 + m by omega]
theorem keeps_fine {lk ht rc h y : Int} {ts os : List Int} (h1 : 1 ≤ ts.length) :
    keepsF lk ht rc h ts (os ++ [y]) = fineF ht rc (coolF lk h + y * y) (exF ts (pastL (ts.length - 1) os) y) ts (pushL (pastL (ts.length - 1) os) y) := by
  unfold keepsF fineF
  rw [revD_snoc0]
  rw [Bool.and_assoc]
  congr 1
  rw [Bool.eq_iff_iff, Bool.and_eq_true, List.all_eq_true, Bool.not_eq_true', Bool.not_eq_true', farAny_false, decide_eq_false_iff_not]
  have e0 : exF ts (pastL (ts.length - 1) os) y = latK ts (os ++ [y]) 0 ts.length := by
    unfold exF
    rw [pastL_len, latK_now y _ (Nat.le_refl _)]
    congr 1
    omega
  have e1 : ∀ k, k < ts.length - 1 → exF ts (psK (pushL (pastL (ts.length - 1) os) y) k) 0 = latK ts (os ++ [y]) (k + 1) (ts.length - (k + 1)) := by
    intro k hk
    rw [← pastL_snoc]
    unfold exF
    rw [psK_len, pastL_len]
    have := latK_later (ts := ts) (os := os ++ [y]) (n := ts.length - 1) (k := k) (ts.length - 1 - k) (by omega)
    rw [show k + (ts.length - 1 - k) = ts.length - 1 by omega, show ts.length - 1 - k = ts.length - (k + 1) by omega] at this
    exact this
  constructor
  · intro h
    refine ⟨?_, ?_⟩
    · have := of_decide_eq_true (h 0 (List.mem_range.2 (by omega)))
      rw [Nat.sub_zero, ← e0] at this
      omega
    · intro x hx
      unfold tailsF tailsL at hx
      obtain ⟨k, hk, rfl⟩ := List.mem_map.1 hx
      rw [List.mem_range, pushL_len, pastL_len] at hk
      rw [e1 k hk]
      exact of_decide_eq_true (h (k + 1) (List.mem_range.2 (by omega)))
  · rintro ⟨h0, h2⟩ later hl
    rw [List.mem_range] at hl
    refine decide_eq_true ?_
    cases later with
    | zero => rw [Nat.sub_zero, ← e0]; omega
    | succ k =>
      rw [← e1 k (by omega)]
      refine h2 _ ?_
      unfold tailsF tailsL
      exact List.mem_map.2 ⟨k, List.mem_range.2 (by rw [pushL_len, pastL_len]; omega), rfl⟩
theorem stepK_top {lk ht rc h x : Int} {ts ps gs : List Int} {k : Nat} : ∀ {n : Nat}, stepK lk ht rc h x ts ps gs n = some k → ∀ j, k < j → j < n → okAt lk ht rc h x ts ps gs j = false
  | 0, e, j, h1, h2 => by omega
  | n + 1, e, j, h1, h2 => by
    unfold stepK at e
    split at e
    · cases e; omega
    · rename_i h0
      rcases Nat.lt_or_ge j n with h3 | h3
      · exact stepK_top e j h1 h3
      · obtain rfl : j = n := by omega
        simpa using h0
/-- behind each output of a run the limits are kept, and a greater gain would not have kept them. -/
theorem keeps_run {lk ht rc : Int} {ts gs xs : List Int} (hV : Valid lk ht rc ts gs) (hx : inB 2048 xs) (k : Nat) :
    keepsF lk ht rc (stAt lk ht rc ts gs xs k).h ts (outsK lk ht rc ts gs xs k ++ [outAt lk ht rc ts gs xs k]) = true ∧
    (∀ n, lvAt lk ht rc ts gs xs k < n → n < gs.length → n ≤ (stAt lk ht rc ts gs xs k).lv + 1 → keepsF lk ht rc (stAt lk ht rc ts gs xs k).h ts (outsK lk ht rc ts gs xs k ++ [byF (xs.getD k 0) (gs.getD n 0)]) = false) ∧
    lvAt lk ht rc ts gs xs k < gs.length ∧ lvAt lk ht rc ts gs xs k ≤ (stAt lk ht rc ts gs xs k).lv + 1 := by
  have hs := lvF_some hV (good_at hV hx k) (xs.getD k 0)
  have hl := stepK_lt hs
  have hp := st_past lk ht rc ts gs xs k
  have ht := hV.tl
  have hg := hV.gl
  refine ⟨?_, ?_, ?_, ?_⟩
  · rw [keeps_fine ht.1, ← hp]
    exact hl.2
  · intro n h1 h2 h3
    rw [keeps_fine ht.1, ← hp]
    exact stepK_top hs n h1 (by omega)
  · have := hl.1
    unfold lvAt
    omega
  · have := hl.1
    unfold lvAt
    omega
theorem byF_abs {x g : Int} (hg : 0 ≤ g ∧ g ≤ 16) : absI (byF x g) ≤ absI x ∧ 0 ≤ byF x g * x := by
  unfold byF
  rcases Int.le_total 0 x with h | h
  · have h0 : 0 ≤ x * g := Int.mul_nonneg h hg.1
    rw [Int.tdiv_eq_ediv_of_nonneg h0]
    have h1 : 0 ≤ x * g / 16 := Int.ediv_nonneg h0 (by decide)
    have h2 : x * g ≤ x * 16 := Int.mul_le_mul_of_nonneg_left hg.2 h
    refine ⟨?_, Int.mul_nonneg h1 h⟩
    unfold absI
    omega
  · obtain ⟨m, rfl⟩ : ∃ m, x = -m := ⟨-x, by omega⟩
    have hm : 0 ≤ m := by omega
    have h0 : 0 ≤ m * g := Int.mul_nonneg hm hg.1
    rw [Int.neg_mul, Int.neg_tdiv, Int.tdiv_eq_ediv_of_nonneg h0]
    have h1 : 0 ≤ m * g / 16 := Int.ediv_nonneg h0 (by decide)
    have h2 : m * g ≤ m * 16 := Int.mul_le_mul_of_nonneg_left hg.2 hm
    refine ⟨?_, by rw [Int.neg_mul_neg]; exact Int.mul_nonneg h1 hm⟩
    unfold absI
    omega
end Go.Proofs.YtdeapbihbhoefaaDoor

/- Plain laws of ProtectOpposite. -/
namespace Go.Proofs.YtdeapbihbhoefaaDoor
open Go.RowKit

/-- the opposites. -/
def negL (l : List Int) : List Int := l.map fun x => -x
theorem negL_len (l : List Int) : (negL l).length = l.length := by simp [negL]
theorem negL_getD (l : List Int) (k : Nat) : (negL l).getD k 0 = -(l.getD k 0) := by
  unfold negL
  rw [List.getD_eq_getElem?_getD, List.getD_eq_getElem?_getD, List.getElem?_map]
  cases l[k]? <;> simp
theorem negL_push (ps : List Int) (y : Int) : pushL (negL ps) (-y) = negL (pushL ps y) := by
  unfold pushL negL
  rw [List.length_map, ← List.map_cons (f := fun x : Int => -x), List.map_take]
theorem negL_psK (ps : List Int) : ∀ k, psK (negL ps) k = negL (psK ps k)
  | 0 => rfl
  | k + 1 => by
    show pushL (psK (negL ps) k) 0 = negL (pushL (psK ps k) 0)
    rw [negL_psK ps k, ← negL_push]
    rfl
theorem exK_neg (ts ps : List Int) (y : Int) : ∀ k, exK ts (negL ps) (-y) k = -(exK ts ps y k)
  | 0 => by simp [exK, Int.mul_neg]
  | k + 1 => by rw [exK, exK, exK_neg ts ps y k, negL_getD, Int.mul_neg, Int.neg_add]
theorem exF_neg (ts ps : List Int) (y : Int) : exF ts (negL ps) (-y) = -(exF ts ps y) := by
  unfold exF
  rw [negL_len, exK_neg]
theorem absI_neg (x : Int) : absI (-x) = absI x := by unfold absI; omega
theorem tailsF_neg (ts ps : List Int) : tailsF ts (negL ps) = negL (tailsF ts ps) := by
  unfold tailsF tailsL
  rw [negL_len]
  unfold negL
  rw [List.map_map]
  refine List.map_congr_left (fun k _ => ?_)
  show exF ts (psK (negL ps) k) 0 = -(exF ts (psK ps k) 0)
  rw [negL_psK, ← exF_neg]
  rfl
theorem farAny_neg (rc : Int) (l : List Int) : farAny rc (negL l) = farAny rc l := by
  unfold farAny negL
  rw [List.any_map]
  congr 1
  funext x
  simp only [Function.comp, absI_neg]
theorem fineF_neg (ht rc h x : Int) (ts ps : List Int) : fineF ht rc h (-x) ts (negL ps) = fineF ht rc h x ts ps := by
  unfold fineF
  rw [absI_neg, tailsF_neg, farAny_neg]
theorem byF_neg (x g : Int) : byF (-x) g = -(byF x g) := by unfold byF; rw [Int.neg_mul, Int.neg_tdiv]
theorem okAt_neg (lk ht rc h x : Int) (ts ps gs : List Int) (k : Nat) : okAt lk ht rc h (-x) ts (negL ps) gs k = okAt lk ht rc h x ts ps gs k := by
  unfold okAt
  rw [byF_neg, exF_neg, negL_push, fineF_neg, Int.neg_mul_neg]
theorem stepK_neg (lk ht rc h x : Int) (ts ps gs : List Int) : ∀ n, stepK lk ht rc h (-x) ts (negL ps) gs n = stepK lk ht rc h x ts ps gs n
  | 0 => rfl
  | n + 1 => by unfold stepK; rw [okAt_neg, stepK_neg lk ht rc h x ts ps gs n]
theorem lvF_neg (lk ht rc : Int) (ts gs : List Int) (h x : Int) (lv : Nat) (ps : List Int) : lvF lk ht rc ts gs ⟨h, lv, negL ps⟩ (-x) = lvF lk ht rc ts gs ⟨h, lv, ps⟩ x := by
  unfold lvF
  rw [stepK_neg]
theorem outF_neg (lk ht rc : Int) (ts gs : List Int) (h x : Int) (lv : Nat) (ps : List Int) : outF lk ht rc ts gs ⟨h, lv, negL ps⟩ (-x) = -(outF lk ht rc ts gs ⟨h, lv, ps⟩ x) := by
  unfold outF
  rw [lvF_neg, byF_neg]
theorem stF_neg (lk ht rc : Int) (ts gs : List Int) (h x : Int) (lv : Nat) (ps : List Int) : stF lk ht rc ts gs ⟨h, lv, negL ps⟩ (-x) = ⟨(stF lk ht rc ts gs ⟨h, lv, ps⟩ x).h, (stF lk ht rc ts gs ⟨h, lv, ps⟩ x).lv, negL (stF lk ht rc ts gs ⟨h, lv, ps⟩ x).ps⟩ := by
  unfold stF
  simp only [outF_neg, lvF_neg, negL_push, Int.neg_mul_neg]
theorem stAt_neg (lk ht rc : Int) (ts gs xs : List Int) : ∀ k, stAt lk ht rc ts gs (negL xs) k = ⟨(stAt lk ht rc ts gs xs k).h, (stAt lk ht rc ts gs xs k).lv, negL (stAt lk ht rc ts gs xs k).ps⟩
  | 0 => by simp [stAt, negL]
  | k + 1 => by
    show stF lk ht rc ts gs (stAt lk ht rc ts gs (negL xs) k) ((negL xs).getD k 0) = _
    rw [stAt_neg lk ht rc ts gs xs k, negL_getD, stF_neg]
    rfl
theorem outAt_neg (lk ht rc : Int) (ts gs xs : List Int) (k : Nat) : outAt lk ht rc ts gs (negL xs) k = -(outAt lk ht rc ts gs xs k) := by
  unfold outAt
  rw [stAt_neg, negL_getD, outF_neg]
theorem lvAt_neg (lk ht rc : Int) (ts gs xs : List Int) (k : Nat) : lvAt lk ht rc ts gs (negL xs) k = lvAt lk ht rc ts gs xs k := by
  unfold lvAt
  rw [stAt_neg, negL_getD, lvF_neg]
theorem outsK_neg (lk ht rc : Int) (ts gs xs : List Int) (k : Nat) : outsK lk ht rc ts gs (negL xs) k = negL (outsK lk ht rc ts gs xs k) := by
  unfold outsK
  show _ = (List.map (fun i => outAt lk ht rc ts gs xs i) (List.range k)).map fun x => -x
  rw [List.map_map]
  exact List.map_congr_left (fun i _ => outAt_neg lk ht rc ts gs xs i)
theorem lvsK_neg (lk ht rc : Int) (ts gs xs : List Int) (k : Nat) : lvsK lk ht rc ts gs (negL xs) k = lvsK lk ht rc ts gs xs k := by
  unfold lvsK
  simp only [lvAt_neg]
theorem negL_in {b : Int} {l : List Int} (h : inB b l) : inB b (negL l) := by
  intro x hx
  obtain ⟨y, hy, rfl⟩ := List.mem_map.1 hx
  have := h y hy
  omega
theorem negL_succ {l : List Int} {k : Nat} (h : k < l.length) : negL (l.take (k + 1)) = negL (l.take k) ++ [-(l.getD k 0)] := by
  rw [List.take_succ_eq_append_getElem h]
  unfold negL
  rw [List.map_append]
  simp only [List.map_cons, List.map_nil, List.getD_eq_getElem?_getD, List.getElem?_eq_getElem h, Option.getD_some]
/-- a run of a begin. -/
theorem getD_take {l : List Int} {n k : Nat} (h : k < n) : (l.take n).getD k 0 = l.getD k 0 := by
  rw [List.getD_eq_getElem?_getD, List.getD_eq_getElem?_getD, List.getElem?_take_of_lt h]
theorem stAt_take (lk ht rc : Int) (ts gs xs : List Int) (n : Nat) : ∀ k, k ≤ n → stAt lk ht rc ts gs (xs.take n) k = stAt lk ht rc ts gs xs k
  | 0, _ => rfl
  | k + 1, h => by
    show stF lk ht rc ts gs (stAt lk ht rc ts gs (xs.take n) k) ((xs.take n).getD k 0) = _
    rw [stAt_take lk ht rc ts gs xs n k (by omega), getD_take (by omega)]
    rfl
theorem outsK_take (lk ht rc : Int) (ts gs xs : List Int) (n : Nat) : outsK lk ht rc ts gs (xs.take n) n = outsK lk ht rc ts gs xs n := by
  unfold outsK
  refine List.map_congr_left (fun k hk => ?_)
  rw [List.mem_range] at hk
  unfold outAt
  rw [stAt_take _ _ _ _ _ _ _ _ (by omega), getD_take hk]
theorem outsK_begin (lk ht rc : Int) (ts gs xs : List Int) {n m : Nat} (h : n ≤ m) : (outsK lk ht rc ts gs xs m).take n = outsK lk ht rc ts gs xs n := by
  unfold outsK
  rw [← List.map_take, List.take_range, Nat.min_eq_left h]
/-- peaks. -/
theorem bhAt_neg (lk : Int) (ys : List Int) : ∀ k, bhAt lk (negL ys) k = bhAt lk ys k
  | 0 => rfl
  | k + 1 => by rw [bhAt, bhAt, bhAt_neg lk ys k, negL_getD, Int.neg_mul_neg]
theorem bpAt_neg (n : Nat) (ys : List Int) : ∀ k, bpAt n (negL ys) k = negL (bpAt n ys k)
  | 0 => by simp [bpAt, negL]
  | k + 1 => by rw [bpAt, bpAt, bpAt_neg n ys k, negL_getD, negL_push]
theorem exAt_neg (ts ys : List Int) (k : Nat) : exAt ts (negL ys) k = -(exAt ts ys k) := by
  unfold exAt
  rw [bpAt_neg, negL_getD, exF_neg]
theorem pkH_neg (lk : Int) (ys : List Int) : ∀ k, pkH lk (negL ys) k = pkH lk ys k
  | 0 => rfl
  | k + 1 => by rw [pkH, pkH, pkH_neg lk ys k, bhAt_neg]
theorem pkX_neg (ts ys : List Int) : ∀ k, pkX ts (negL ys) k = pkX ts ys k
  | 0 => rfl
  | k + 1 => by rw [pkX, pkX, pkX_neg ts ys k, exAt_neg, absI_neg]
theorem outsK_getD (lk ht rc : Int) (ts gs xs : List Int) {m k : Nat} (h : k < m) : (outsK lk ht rc ts gs xs m).getD k 0 = outAt lk ht rc ts gs xs k := by
  unfold outsK
  rw [List.getD_eq_getElem?_getD, List.getElem?_map, List.getElem?_range h]
  rfl
theorem lvsK_getD (lk ht rc : Int) (ts gs xs : List Int) {m k : Nat} (h : k < m) : (lvsK lk ht rc ts gs xs m).getD k 0 = (lvAt lk ht rc ts gs xs k : Nat) := by
  unfold lvsK
  rw [List.getD_eq_getElem?_getD, List.getElem?_map, List.getElem?_range h]
  rfl
theorem outs_bh (lk ht rc : Int) (ts gs xs : List Int) (m : Nat) : ∀ k, k ≤ m → bhAt lk (outsK lk ht rc ts gs xs m) k = (stAt lk ht rc ts gs xs k).h
  | 0, _ => rfl
  | k + 1, h => by
    rw [bhAt, outs_bh lk ht rc ts gs xs m k (by omega), outsK_getD _ _ _ _ _ _ (by omega)]
    rfl
theorem outs_bp (lk ht rc : Int) (ts gs xs : List Int) (m : Nat) : ∀ k, k ≤ m → bpAt (ts.length - 1) (outsK lk ht rc ts gs xs m) k = (stAt lk ht rc ts gs xs k).ps
  | 0, _ => rfl
  | k + 1, h => by
    rw [bpAt, outs_bp lk ht rc ts gs xs m k (by omega), outsK_getD _ _ _ _ _ _ (by omega)]
    rfl
theorem peaks_keep {lk ht rc : Int} {ts gs xs : List Int} (hV : Valid lk ht rc ts gs) (hx : inB 2048 xs) (m : Nat) : ∀ k, k ≤ m → pkH lk (outsK lk ht rc ts gs xs m) k ≤ ht ∧ pkX ts (outsK lk ht rc ts gs xs m) k ≤ rc
  | 0, _ => ⟨hV.ht.1, hV.rc.1⟩
  | k + 1, h => by
    obtain ⟨h1, h2⟩ := peaks_keep hV hx m k (by omega)
    have hg := good_at hV hx (k + 1)
    have hs := step_good hV (good_at hV hx k) (inB_get hx (by omega) k)
    constructor
    · rw [pkH, mx_eq, outs_bh _ _ _ _ _ _ _ _ h]
      have := hg.h
      omega
    · rw [pkX, mx_eq]
      have : exAt ts (outsK lk ht rc ts gs xs m) k = exF ts (stAt lk ht rc ts gs xs k).ps (outF lk ht rc ts gs (stAt lk ht rc ts gs xs k) (xs.getD k 0)) := by
        unfold exAt
        rw [outs_bp _ _ _ _ _ _ _ _ (by omega), outsK_getD _ _ _ _ _ _ (by omega)]
        rfl
      rw [this]
      have := hs.2.2.1
      omega
theorem outs_in {lk ht rc : Int} {ts gs xs : List Int} (hV : Valid lk ht rc ts gs) (hx : inB 2048 xs) (m : Nat) : inB 2048 (outsK lk ht rc ts gs xs m) := by
  intro y hy
  unfold outsK at hy
  obtain ⟨k, _, rfl⟩ := List.mem_map.1 hy
  exact (step_good hV (good_at hV hx k) (inB_get hx (by omega) k)).2.1
theorem sigErr_ok {xs : List Int} (h : inB 2048 xs) (hn : xs.length ≤ 4096) : sigErr xs = 0 := by
  unfold sigErr
  rw [if_neg (by omega), eachErr_zero.2 h]
  rfl
/-- one output changed. -/
theorem wrong_in {l : List Int} (h : inB 2048 l) {k : Nat} (v : Int) (hv : -2048 ≤ v ∧ v ≤ 2048) : inB 2048 (l.set k v) := by
  intro x hx
  rcases List.mem_or_eq_of_mem_set hx with h1 | rfl
  · exact h x h1
  · exact hv
theorem wrong_ne {l : List Int} {k : Nat} (hk : k < l.length) {v : Int} (hv : v ≠ l.getD k 0) : l ≠ l.set k v := by
  intro e
  apply hv
  have h2 : l.getD k 0 = (l.set k v).getD k 0 := by rw [← e]
  rw [h2]
  simp [List.getD_eq_getElem?_getD, hk]
end Go.Proofs.YtdeapbihbhoefaaDoor

/- Plain laws of ProtectLoudest: the search goes through all lists in their order. -/
namespace Go.Proofs.YtdeapbihbhoefaaDoor
open Go.RowKit

/-- whether outputs from a state on keep all conditions. -/
def pathB (lk ht rc : Int) (ts : List Int) : Int → List Int → List Int → Bool
  | _, _, [] => true
  | h, ps, y :: ys => fineF ht rc (coolF lk h + y * y) (exF ts ps y) ts (pushL ps y) && pathB lk ht rc ts (coolF lk h + y * y) (pushL ps y) ys
/-- all lists of so many levels, in their order. -/
def allL (ls : List Int) : Nat → List (List Int)
  | 0 => [[]]
  | n + 1 => ls.flatMap fun y => (allL ls n).map (y :: ·)
theorem keptK_filter (lk ht rc : Int) (ts : List Int) (s : St) (ls : List Int) : ∀ k, k ≤ ls.length → keptK lk ht rc ts s ls k = ((ls.take k).filter (keepB lk ht rc ts s)).map fun y => (y, nextF lk s y)
  | 0, _ => by simp [keptK]
  | k + 1, h => by
    have e : ls.getD k 0 = ls[k] := by rw [List.getD_eq_getElem?_getD, List.getElem?_eq_getElem (by omega)]; rfl
    rw [List.take_succ_eq_append_getElem (by omega), List.filter_append, List.map_append, ← keptK_filter lk ht rc ts s ls k (by omega)]
    simp only [keptK]
    rw [e]
    congr 1
    by_cases hk : keepB lk ht rc ts s ls[k] = true
    · rw [if_pos hk]; simp [hk]
    · rw [if_neg hk]; simp [hk]
theorem foldl_if {α β : Type} (p : α → Bool) (f : β → α → β) : ∀ (l : List α) (b : β), (l.filter p).foldl f b = l.foldl (fun b x => if p x then f b x else b) b
  | [], _ => rfl
  | x :: l, b => by
    rw [List.filter_cons, List.foldl_cons]
    by_cases h : p x = true
    · rw [if_pos h, if_pos h, List.foldl_cons, foldl_if p f l]
    · rw [if_neg h, if_neg h, foldl_if p f l]
theorem foldl_flat {α β γ : Type} (g : α → List β) (f : γ → β → γ) : ∀ (l : List α) (b : γ), (l.flatMap g).foldl f b = l.foldl (fun b x => (g x).foldl f b) b
  | [], _ => rfl
  | x :: l, b => by rw [List.flatMap_cons, List.foldl_append, List.foldl_cons, foldl_flat g f l]
theorem vis_all (lk ht rc : Int) (ts ls : List Int) : ∀ (n : Nat) (l : List Int) (s : St) (b : Option (List Int)), visF lk ht rc ts ls n l s b = (allL ls n).foldl (fun b x => if pathB lk ht rc ts s.h s.ps x then updB b (l ++ x) else b) b
  | 0, l, s, b => by simp [visF, allL, pathB]
  | n + 1, l, s, b => by
    show (keptK lk ht rc ts s ls ls.length).foldl (fun b x => visF lk ht rc ts ls n (l ++ [x.1]) x.2 b) b = _
    rw [keptK_filter _ _ _ _ _ _ _ (Nat.le_refl _), List.take_length, List.foldl_map, foldl_if]
    show _ = (ls.flatMap fun y => (allL ls n).map (y :: ·)).foldl _ b
    rw [foldl_flat]
    congr 1
    funext b y
    rw [List.foldl_map]
    by_cases hk : keepB lk ht rc ts s y = true
    · rw [if_pos hk, vis_all lk ht rc ts ls n]
      congr 1
      funext b x
      have e : pathB lk ht rc ts s.h s.ps (y :: x) = pathB lk ht rc ts (nextF lk s y).h (nextF lk s y).ps x := by
        show (keepB lk ht rc ts s y && _) = _
        rw [hk]; rfl
      rw [e, List.append_assoc]
      rfl
    · rw [if_neg hk]
      have e : ∀ x, pathB lk ht rc ts s.h s.ps (y :: x) = false := by
        intro x
        show (keepB lk ht rc ts s y && _) = _
        rw [Bool.not_eq_true] at hk
        rw [hk]; rfl
      simp only [e, Bool.false_eq_true, if_false]
      have : ∀ (L : List (List Int)) (b : Option (List Int)), L.foldl (fun b _ => b) b = b := by
        intro L
        induction L with
        | nil => intro b; rfl
        | cons a L ih => intro b; rw [List.foldl_cons, ih]
      rw [this]
theorem upd_some {p : List Int → Bool} : ∀ (L : List (List Int)) (r0 r : List Int), L.foldl (fun b x => if p x then updB b x else b) (some r0) = some r → (r = r0 ∧ ∀ x ∈ L, p x = true → enF x ≤ enF r0) ∨ (∃ c : Nat, L[c]? = some r ∧ p r = true ∧ enF r0 < enF r ∧ (∀ j x, j < c → L[j]? = some x → p x = true → enF x < enF r) ∧ ∀ x ∈ L, p x = true → enF x ≤ enF r)
  | [], r0, r, e => by
    simp at e
    exact .inl ⟨e.symm, by simp⟩
  | a :: L, r0, r, e => by
    rw [List.foldl_cons] at e
    by_cases hp : p a = true
    · rw [if_pos hp] at e
      by_cases hlt : enF r0 < enF a
      · have e2 : updB (some r0) a = some a := by simp [updB, hlt]
        rw [e2] at e
        rcases upd_some L a r e with ⟨rfl, h⟩ | ⟨c, h1, h2, h3, h4, h5⟩
        · refine .inr ⟨0, rfl, hp, hlt, fun j x hj => by omega, fun x hx hpx => ?_⟩
          rcases List.mem_cons.1 hx with rfl | hx
          · exact Int.le_refl _
          · exact h x hx hpx
        · refine .inr ⟨c + 1, by simpa using h1, h2, by omega, fun j x hj hx hpx => ?_, fun x hx hpx => ?_⟩
          · cases j with
            | zero => simp at hx; subst hx; exact h3
            | succ j => exact h4 j x (by omega) (by simpa using hx) hpx
          · rcases List.mem_cons.1 hx with rfl | hx
            · omega
            · exact h5 x hx hpx
      · have e2 : updB (some r0) a = some r0 := by simp [updB, hlt]
        rw [e2] at e
        rcases upd_some L r0 r e with ⟨rfl, h⟩ | ⟨c, h1, h2, h3, h4, h5⟩
        · refine .inl ⟨rfl, fun x hx hpx => ?_⟩
          rcases List.mem_cons.1 hx with rfl | hx
          · omega
          · exact h x hx hpx
        · refine .inr ⟨c + 1, by simpa using h1, h2, h3, fun j x hj hx hpx => ?_, fun x hx hpx => ?_⟩
          · cases j with
            | zero => simp at hx; subst hx; omega
            | succ j => exact h4 j x (by omega) (by simpa using hx) hpx
          · rcases List.mem_cons.1 hx with rfl | hx
            · omega
            · exact h5 x hx hpx
    · rw [if_neg hp] at e
      rcases upd_some L r0 r e with ⟨rfl, h⟩ | ⟨c, h1, h2, h3, h4, h5⟩
      · refine .inl ⟨rfl, fun x hx hpx => ?_⟩
        rcases List.mem_cons.1 hx with rfl | hx
        · exact absurd hpx hp
        · exact h x hx hpx
      · refine .inr ⟨c + 1, by simpa using h1, h2, h3, fun j x hj hx hpx => ?_, fun x hx hpx => ?_⟩
        · cases j with
          | zero => simp at hx; subst hx; exact absurd hpx hp
          | succ j => exact h4 j x (by omega) (by simpa using hx) hpx
        · rcases List.mem_cons.1 hx with rfl | hx
          · exact absurd hpx hp
          · exact h5 x hx hpx
theorem upd_isSome {p : List Int → Bool} : ∀ (L : List (List Int)) (r0 : List Int), ∃ r, L.foldl (fun b x => if p x then updB b x else b) (some r0) = some r
  | [], r0 => ⟨r0, rfl⟩
  | a :: L, r0 => by
    rw [List.foldl_cons]
    by_cases hp : p a = true
    · rw [if_pos hp]
      simp only [updB]
      split <;> exact upd_isSome L _
    · rw [if_neg hp]
      exact upd_isSome L r0
theorem upd_none {p : List Int → Bool} : ∀ (L : List (List Int)), (L.foldl (fun b x => if p x then updB b x else b) none = none ∧ ∀ x ∈ L, p x = false) ∨ (∃ r, L.foldl (fun b x => if p x then updB b x else b) none = some r ∧ ∃ c : Nat, L[c]? = some r ∧ p r = true ∧ (∀ j x, j < c → L[j]? = some x → p x = true → enF x < enF r) ∧ ∀ x ∈ L, p x = true → enF x ≤ enF r)
  | [] => .inl ⟨rfl, by simp⟩
  | a :: L => by
    rw [List.foldl_cons]
    by_cases hp : p a = true
    · rw [if_pos hp]
      show _ ∨ (∃ r, L.foldl _ (some a) = some r ∧ _)
      obtain ⟨r, hr⟩ := upd_isSome (p := p) L a
      refine .inr ⟨r, hr, ?_⟩
      rcases upd_some L a r hr with ⟨rfl, h⟩ | ⟨c, h1, h2, h3, h4, h5⟩
      · refine ⟨0, rfl, hp, fun j x hj => by omega, fun x hx hpx => ?_⟩
        rcases List.mem_cons.1 hx with rfl | hx
        · exact Int.le_refl _
        · exact h x hx hpx
      · refine ⟨c + 1, by simpa using h1, h2, fun j x hj hx hpx => ?_, fun x hx hpx => ?_⟩
        · cases j with
          | zero => simp at hx; subst hx; exact h3
          | succ j => exact h4 j x (by omega) (by simpa using hx) hpx
        · rcases List.mem_cons.1 hx with rfl | hx
          · omega
          · exact h5 x hx hpx
    · rw [if_neg hp]
      rcases upd_none L with ⟨h1, h2⟩ | ⟨r, h1, c, h2, h3, h4, h5⟩
      · refine .inl ⟨h1, fun x hx => ?_⟩
        rcases List.mem_cons.1 hx with rfl | hx
        · simpa using hp
        · exact h2 x hx
      · refine .inr ⟨r, h1, c + 1, by simpa using h2, h3, fun j x hj hx hpx => ?_, fun x hx hpx => ?_⟩
        · cases j with
          | zero => simp at hx; subst hx; exact absurd hpx hp
          | succ j => exact h4 j x (by omega) (by simpa using hx) hpx
        · rcases List.mem_cons.1 hx with rfl | hx
          · exact absurd hpx hp
          · exact h5 x hx hpx
/-- the list with a number: its digits, the first one the greatest. -/
def codeL (ls : List Int) (n c : Nat) : List Int := (List.range n).map fun i => ls.getD (c / ls.length ^ (n - 1 - i) % ls.length) 0
theorem codeL_len (ls : List Int) (n c : Nat) : (codeL ls n c).length = n := by simp [codeL]
theorem codeL_getD (ls : List Int) {n i : Nat} (c : Nat) (h : i < n) : (codeL ls n c).getD i 0 = ls.getD (c / ls.length ^ (n - 1 - i) % ls.length) 0 := by
  unfold codeL
  rw [List.getD_eq_getElem?_getD, List.getElem?_map, List.getElem?_range h]
  rfl
theorem flat_get {α β : Type} (f : α → List β) (m : Nat) (hm : ∀ a, (f a).length = m) : ∀ (l : List α) (q r : Nat), r < m → (l.flatMap f)[q * m + r]? = (l[q]?).bind fun a => (f a)[r]?
  | [], q, r, _ => by simp
  | a :: l, q, r, hr => by
    rw [List.flatMap_cons]
    cases q with
    | zero => rw [Nat.zero_mul, Nat.zero_add, List.getElem?_append_left (by rw [hm]; exact hr)]; rfl
    | succ q =>
      rw [List.getElem?_append_right (by rw [hm, Nat.succ_mul]; omega), hm, show (q + 1) * m + r - m = q * m + r by rw [Nat.succ_mul]; omega, flat_get f m hm l q r hr]
      simp
theorem allL_len (ls : List Int) : ∀ n, (allL ls n).length = ls.length ^ n
  | 0 => rfl
  | n + 1 => by
    rw [allL, List.length_flatMap]
    simp only [List.length_map, allL_len ls n]
    rw [List.map_const', List.sum_replicate_nat, Nat.pow_succ, Nat.mul_comm]
theorem allL_get (ls : List Int) : ∀ (n c : Nat), c < ls.length ^ n → (allL ls n)[c]? = some (codeL ls n c)
  | 0, c, h => by
    have : c = 0 := by simpa using h
    subst this
    rfl
  | n + 1, c, h => by
    have hN : 0 < ls.length := by
      rcases Nat.eq_zero_or_pos ls.length with h0 | h0
      · rw [h0] at h; simp at h
      · exact h0
    have hp : 0 < ls.length ^ n := Nat.pow_pos hN
    have hq : c / ls.length ^ n < ls.length := by
      rw [Nat.div_lt_iff_lt_mul hp]
      rw [Nat.pow_succ, Nat.mul_comm] at h
      exact h
    have hr : c % ls.length ^ n < ls.length ^ n := Nat.mod_lt _ hp
    have hc : c / ls.length ^ n * ls.length ^ n + c % ls.length ^ n = c := by rw [Nat.mul_comm]; exact Nat.div_add_mod c _
    have := flat_get (fun y => (allL ls n).map (y :: ·)) (ls.length ^ n) (fun y => by rw [List.length_map, allL_len]) ls (c / ls.length ^ n) (c % ls.length ^ n) hr
    rw [hc] at this
    rw [allL, this, List.getElem?_eq_getElem hq, Option.bind_some, List.getElem?_map, allL_get ls n _ hr, Option.map_some]
    congr 1
    apply List.ext_getElem
    · simp [codeL_len]
    · intro i h1 h2
      have e1 : (codeL ls (n + 1) c)[i] = (codeL ls (n + 1) c).getD i 0 := by rw [List.getD_eq_getElem?_getD, List.getElem?_eq_getElem h2]; rfl
      rw [codeL_len] at h2
      rw [e1, codeL_getD ls c h2]
      cases i with
      | zero =>
        rw [List.getElem_cons_zero, show n + 1 - 1 - 0 = n by omega, Nat.mod_eq_of_lt hq, List.getD_eq_getElem?_getD, List.getElem?_eq_getElem hq]
        rfl
      | succ i =>
        rw [List.getElem_cons_succ]
        have e2 : (codeL ls n (c % ls.length ^ n))[i]'(by rw [codeL_len]; omega) = (codeL ls n (c % ls.length ^ n)).getD i 0 := by rw [List.getD_eq_getElem?_getD, List.getElem?_eq_getElem (by rw [codeL_len]; omega)]; rfl
        rw [e2, codeL_getD ls _ (by omega)]
        congr 1
        rw [show n + 1 - 1 - (i + 1) = n - 1 - i by omega]
        obtain ⟨j, hj⟩ : ∃ j, j = n - 1 - i := ⟨_, rfl⟩
        have hn : n = j + (i + 1) := by omega
        rw [← hj]
        have e3 : c / ls.length ^ j = (c / ls.length ^ n) * ls.length ^ (i + 1) + (c % ls.length ^ n) / ls.length ^ j := by
          have hpj : 0 < ls.length ^ j := Nat.pow_pos hN
          have e4 : c = ls.length ^ j * ((c / ls.length ^ n) * ls.length ^ (i + 1)) + c % ls.length ^ n := by
            have e5 : ls.length ^ j * ((c / ls.length ^ n) * ls.length ^ (i + 1)) = c / ls.length ^ n * ls.length ^ n := by
              rw [show ls.length ^ n = ls.length ^ j * ls.length ^ (i + 1) by rw [← Nat.pow_add, ← hn]]
              rw [Nat.mul_left_comm]
            rw [e5]
            exact hc.symm
          conv => lhs; rw [e4]
          rw [Nat.mul_add_div hpj]
        rw [e3, Nat.pow_succ, ← Nat.mul_assoc, Nat.mul_comm _ ls.length, Nat.mul_add_mod]
/-- the outputs keep the limits, one by one. -/
theorem path_keeps {lk ht rc : Int} {ts ys : List Int} (h1 : 1 ≤ ts.length) : ∀ m k, k + m = ys.length → (pathB lk ht rc ts (bhAt lk ys k) (bpAt (ts.length - 1) ys k) (ys.drop k) = true ↔ ∀ j, k ≤ j → j < ys.length → keepsF lk ht rc (bhAt lk ys j) ts (ys.take (j + 1)) = true)
  | 0, k, hk => by
    rw [List.drop_of_length_le (by omega)]
    exact ⟨fun _ j h2 h3 => by omega, fun _ => rfl⟩
  | m + 1, k, hk => by
    have hlt : k < ys.length := by omega
    have e : ys.getD k 0 = ys[k] := by rw [List.getD_eq_getElem?_getD, List.getElem?_eq_getElem hlt]; rfl
    have hp : ∀ k, k ≤ ys.length → bpAt (ts.length - 1) ys k = pastL (ts.length - 1) (ys.take k) := by
      intro k
      induction k with
      | zero => intro _; rw [List.take_zero, pastL_nil]; rfl
      | succ k ih =>
        intro hk
        rw [List.take_succ_eq_append_getElem (by omega), pastL_snoc, ← ih (by omega), bpAt, List.getD_eq_getElem?_getD, List.getElem?_eq_getElem (by omega)]
        rfl
    have hkeep : keepsF lk ht rc (bhAt lk ys k) ts (ys.take (k + 1)) = fineF ht rc (coolF lk (bhAt lk ys k) + ys.getD k 0 * ys.getD k 0) (exF ts (bpAt (ts.length - 1) ys k) (ys.getD k 0)) ts (pushL (bpAt (ts.length - 1) ys k) (ys.getD k 0)) := by
      rw [List.take_succ_eq_append_getElem hlt, keeps_fine h1, hp k (by omega), e]
    rw [List.drop_eq_getElem_cons hlt, ← e]
    show (fineF _ _ _ _ _ _ && pathB lk ht rc ts (bhAt lk ys (k + 1)) (bpAt (ts.length - 1) ys (k + 1)) (ys.drop (k + 1))) = true ↔ _
    rw [← hkeep, Bool.and_eq_true, path_keeps h1 m (k + 1) (by omega)]
    constructor
    · rintro ⟨h2, h3⟩ j h4 h5
      rcases Nat.lt_or_ge k j with h6 | h6
      · exact h3 j h6 h5
      · obtain rfl : j = k := by omega
        exact h2
    · intro h
      exact ⟨h k (Nat.le_refl _) hlt, fun j h2 h3 => h j (by omega) h3⟩
/-- all limits are kept from the state at rest on. -/
def allowF (lk ht rc : Int) (ts ys : List Int) : Bool := (List.range ys.length).all fun j => keepsF lk ht rc (bhAt lk ys j) ts (ys.take (j + 1))
theorem allow_path {lk ht rc : Int} {ts ys : List Int} (h1 : 1 ≤ ts.length) : allowF lk ht rc ts ys = pathB lk ht rc ts 0 (List.replicate (ts.length - 1) 0) ys := by
  rw [Bool.eq_iff_iff]
  have := path_keeps (lk := lk) (ht := ht) (rc := rc) h1 (ys := ys) ys.length 0 (by omega)
  rw [List.drop_zero] at this
  show _ ↔ pathB lk ht rc ts (bhAt lk ys 0) (bpAt (ts.length - 1) ys 0) ys = true
  rw [this]
  unfold allowF
  rw [List.all_eq_true]
  exact ⟨fun h j _ h2 => h j (List.mem_range.2 h2), fun h j h2 => h j (Nat.zero_le _) (List.mem_range.1 h2)⟩
theorem loud_code {lk ht rc : Int} {ts gs ls : List Int} (h1 : 1 ≤ ts.length) (n : Nat) :
    (loudF lk ht rc ts gs ls n = none ∧ ∀ c, c < ls.length ^ n → allowF lk ht rc ts (codeL ls n c) = false) ∨
    (∃ r, loudF lk ht rc ts gs ls n = some r ∧ allowF lk ht rc ts r = true ∧ ∃ c0, c0 < ls.length ^ n ∧ codeL ls n c0 = r ∧ ∀ c, c < c0 → allowF lk ht rc ts (codeL ls n c) = true → enF (codeL ls n c) < enF r) := by
  have e : loudF lk ht rc ts gs ls n = (allL ls n).foldl (fun b x => if allowF lk ht rc ts x then updB b x else b) none := by
    unfold loudF
    rw [vis_all]
    congr 1
    funext b x
    rw [allow_path h1, List.nil_append]
    rfl
  rw [e]
  rcases upd_none (p := allowF lk ht rc ts) (allL ls n) with ⟨h2, h3⟩ | ⟨r, h2, c, h3, h4, h5, _⟩
  · exact .inl ⟨h2, fun c hc => h3 _ (List.mem_of_getElem? (allL_get ls n c hc))⟩
  · have hc : c < ls.length ^ n := by
      rw [← allL_len]
      exact (List.getElem?_eq_some_iff.1 h3).1
    have h6 := allL_get ls n c hc
    rw [h3] at h6
    injection h6 with h6
    exact .inr ⟨r, h2, h4, c, hc, h6.symm, fun j hj hp => h5 j _ hj (allL_get ls n j (by omega)) hp⟩
end Go.Proofs.YtdeapbihbhoefaaDoor
