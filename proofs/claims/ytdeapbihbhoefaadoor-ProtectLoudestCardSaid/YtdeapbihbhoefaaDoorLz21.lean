/- Part 21 of the texts of the claim: Kp, Sc, Hi, Al, LLoP, LLo_0, LLo_1, LLo_2, LLo_3. -/
import Derived.Test.YtdeapbihbhoefaaDoorLz20
import Derived.Test.YtdeapbihbhoefaaDoorLz19

/- The law's helper keeps: the limits at some outputs. -/
namespace Go.Proofs.YtdeapbihbhoefaaDoor
open Go.RowKit
open Calm (bcell Blk)
theorem revD_in {os : List Int} (h : inB 2048 os) (j : Nat) : -2048 ≤ revD os j ∧ revD os j ≤ 2048 := by
  unfold revD
  split
  · exact inB_get h (by omega) _
  · omega
theorem latK_bd {ts os : List Int} (h1 : inB 64 ts) (h2 : inB 2048 os) (later : Nat) : ∀ m : Nat, -(131072 * (m : Int)) ≤ latK ts os later m ∧ latK ts os later m ≤ 131072 * (m : Int)
  | 0 => by simp [latK]
  | m + 1 => by
    have h3 := latK_bd h1 h2 later m
    have h4 := mul_bd (inB_get h1 (by omega) (later + m)) (revD_in h2 m)
    simp only [latK]
    push_cast
    omega
set_option maxRecDepth 100000 in
set_option maxHeartbeats 4000000 in
theorem keeps_walk {lk ht rc h : Int} {ts os gs : List Int} {M L q : Nat} {A1 A2 A3 : Option Addr} {c1 c2 c3 : Nat} {w : World} (hlk : 1 ≤ lk ∧ lk ≤ 8) (hh : 0 ≤ h ∧ h ≤ 1099511627776) (hM : M = ts.length) (hq : os.length = q + 1) (hM8 : M ≤ 1000) (hq8 : q ≤ 10000) (htb : inB 64 ts) (hob : inB 2048 os)
    (hT : Cells w A1 ts) (hO : Cells w A3 os) :
    Calls Tryd.prog 62 #[.agg #[(.int .i64 lk), (.int .i64 ht), .slice A1 M c1, (.int .i64 rc), .slice A2 L c2], (.int .i64 h), .slice A3 (q + 1) c3] w (KP (KV (.bool (keepsF lk ht rc h ts os))) w) := by
  have HT := Lib.hid hT
  have HO := Lib.hid hO
  have HM := Lib.hid hM
  have HQ := Lib.hid hq
  have HTB : Hid (∀ k : Nat, -64 ≤ ts.getD k 0 ∧ ts.getD k 0 ≤ 64) := Lib.hid (fun k => inB_get htb (by omega) k)
  have HOB : Hid (∀ k : Nat, -2048 ≤ os.getD k 0 ∧ os.getD k 0 ≤ 2048) := Lib.hid (fun k => inB_get hob (by omega) k)
  have HLB := Lib.hid (latK_bd htb hob)
  obtain ⟨Rr, hRr⟩ : ∃ Rr, Rr = keepsF lk ht rc h ts os := ⟨_, rfl⟩
  obtain ⟨y, hy⟩ : ∃ y, y = os.getD q 0 := ⟨_, rfl⟩
  have hyr : revD os 0 = y := by unfold revD; rw [if_pos (by omega), hq, hy]; rfl
  have HRR : Hid (Rr = (decide (coolF lk h + y * y ≤ ht) && (List.range M).all fun later => decide (absI (latK ts os later (M - later)) ≤ rc))) := Lib.hid (by rw [hRr]; unfold keepsF; rw [hyr, hM])
  have HY := Lib.hid hy
  rw [← hRr]
  obtain ⟨h1, h2⟩ := hh
  obtain ⟨h5, h6⟩ := shr_bd lk h1
  obtain ⟨lk1, lk2⟩ := hlk
  obtain ⟨t1, t2⟩ := HOB.out q
  rw [← hy] at t1 t2
  have hsq := sq_bd (y := y) ⟨t1, t2⟩
  obtain ⟨p, hp⟩ : ∃ p, y * y = p := ⟨_, rfl⟩
  rw [hp] at hsq HRR
  obtain ⟨p1, p2⟩ := hsq
  have HDC := Lib.hid (show coolF lk h = h - h / 2 ^ lk.toNat from rfl)
  obtain ⟨b1, o1, hA, hbl, hcell⟩ := hO (by omega)
  subst hA
  have hck := hcell q (by omega)
  rw [← hy] at hck


  clear hT hO hM hq htb hob hRr hy hyr hcell
  go_enter Tryd.func62, Tryd.ntmps62
  have HB0 := Lib.hid (Below.refl w.heap.size w)
  go_wp2
  refine name_world ?_
  intro w1 e1
  have h1 : Below w.heap.size w w1 := by rw [e1]; exact bel
  have HB1 := Lib.hid (HB0.out.trans (h1.mono HB0.out.size))
  have bg_1 := Lib.hid (show Blk w1 w.heap.size #[(.int .i64 lk), (.int .i64 ht), .slice A1 M c1, (.int .i64 rc), .slice A2 L c2] from by rw [e1]; (repeat (first | ((with_reducible refine Blk.at_ ?_); focus (first | rfl | (simp; done) | (simp; omega))) | (with_reducible refine Blk.alloc ?_ _) | (with_reducible refine Blk.below ?_ (by with_reducible assumption)) | (with_reducible refine Blk.drew ?_))))
  clear e1 h1
  obtain ⟨fbg_0, fbg_1, fbg_2, fbg_3, fbg_4, fbg_l, -⟩ := bg_1.out.o5
  refine Rel.region3 12 (by kernel_rfl) (by kernel_rfl) (by kernel_rfl) ?_
  simp only [List.take_succ_cons, List.take_zero, List.drop_succ_cons, List.drop_zero, List.filterMap_cons, List.filterMap_nil]
  iterate 12 (refine Rel.opz (hn := ?_); (try simp only [List.nil_append, List.cons_append]))
  refine Rel.done3 ?_
  intro x w2 h2 hx
  simp only [Rel.facts, Nat.zero_add, Nat.reduceAdd] at hx
  obtain ⟨e0, e1, e2, e3, e4, e5, e6, e7, e8, e9, e10, e11, _⟩ := hx
  simp only [Rel.fill, Nat.zero_add, Nat.reduceAdd, e0, e1, e2, e3, e4, e5, e6, e7, e8, e9, e10, e11]
  simp only [Act.put, List.setIfInBounds_toArray, List.set_cons_zero, List.set_cons_succ]
  clear e0 e1 e2 e3 e4 e5 e6 e7 e8 e9 e10 e11
  have bg_2 := Lib.hid (bg_1.out.below h2)
  have HB2 := Lib.hid (HB1.out.trans (h2.mono HB1.out.size))
  clear h2
  clear fbg_0 fbg_1 fbg_2 fbg_3 fbg_4 fbg_l
  by_cases hc : h - h / 2 ^ lk.toNat + p ≤ ht
  rotate_left
  · have HNC := Lib.hid hc
    go_wp2
    go_ret
    exact ⟨_, by first | rfl | (simp; done), by show (Value.bool false) = _; rw [HRR.out, HDC.out, decide_eq_false (by have := HNC.out; omega)]; rfl, HB2.out⟩
  have HCC := Lib.hid hc
  obtain ⟨fbg_0, fbg_1, fbg_2, fbg_3, fbg_4, fbg_l, -⟩ := bg_2.out.o5
  go_wp2
  clear fbg_0 fbg_1 fbg_2 fbg_3 fbg_4 fbg_l
  clear hc
  go_loopw [34] (fun i wr => ∃ j : Nat, j ≤ M ∧ i = (.int .i64 ((j : Int))) ∧ (∀ l, l < j → absI (latK ts os l (M - l)) ≤ rc) ∧ Below w.heap.size w wr ∧ Blk wr w.heap.size #[(.int .i64 lk), (.int .i64 ht), .slice A1 M c1, (.int .i64 rc), .slice A2 L c2]) (fun i _ => M - (intOf i).toNat)
  case atStart => exact ⟨0, Nat.zero_le _, rfl, fun l hl => absurd hl (Nat.not_lt_zero l), HB2.out, bg_2.out⟩
  case round =>
    obtain ⟨j, hj, rfl, hall, kb, kg⟩ := hrel
    have HALL := Lib.hid hall
    have KB := Lib.hid kb
    have KG := Lib.hid kg
    obtain ⟨g0, g1, g2, g3, g4, gl, -⟩ := kg.o5
    clear hall kb kg
    by_cases hlt : j < M
    · have hlj : (j : Int) < (M : Int) := by omega
      go_wp2
      clear g0 g1 g2 g3 g4 gl
      go_loopw [9, 10] (fun s k wq => ∃ m : Nat, j + m ≤ M ∧ k = (.int .i64 (((j + m : Nat) : Int))) ∧ s = (.int .i64 (latK ts os j m)) ∧ Below w.heap.size w wq ∧ Blk wq w.heap.size #[(.int .i64 lk), (.int .i64 ht), .slice A1 M c1, (.int .i64 rc), .slice A2 L c2]) (fun _ k _ => M - (intOf k).toNat)
      case atStart => exact ⟨0, by omega, rfl, rfl, KB.out, KG.out⟩
      case round =>
        obtain ⟨m, hm, rfl, rfl, kb, kg⟩ := hrel
        have KB2 := Lib.hid kb
        have KG2 := Lib.hid kg
        obtain ⟨g0, g1, g2, g3, g4, gl, -⟩ := kg.o5
        clear kb kg
        obtain ⟨l1, l2⟩ := HLB.out j m
        have HS2 := Lib.hid (show latK ts os j (m + 1) = latK ts os j m + ts.getD (j + m) 0 * revD os m from rfl)
        obtain ⟨s, hs⟩ : ∃ s, s = latK ts os j m := ⟨_, rfl⟩
        rw [← hs] at l1 l2 HS2 ⊢
        have HS := Lib.hid hs
        clear hs
        by_cases hlm : j + m < M
        · have hlk2 : (j : Int) + (m : Int) < (M : Int) := by omega
          by_cases hmq : m ≤ q
          · obtain ⟨r, rfl⟩ : ∃ r, q = m + r := ⟨q - m, by omega⟩
            obtain ⟨bt, ot, hA2, htl, htc⟩ := (HT.out.below KB2.out) (by rw [← HM.out]; omega)
            subst hA2
            have htk := htc (j + m) (by rw [← HM.out]; exact hlm)
            obtain ⟨bo, oo, hA3, hol, hoc⟩ := (HO.out.below KB2.out) (by rw [HQ.out]; omega)
            cases hA3
            have hok := hoc r (by rw [HQ.out]; omega)
            have HRV := Lib.hid (show revD os m = os.getD r 0 by unfold revD; rw [if_pos (by rw [HQ.out]; omega), HQ.out, show m + r + 1 - 1 - m = r by omega])
            rw [HRV.out] at HS2
            obtain ⟨a1, a2⟩ := HTB.out (j + m)
            obtain ⟨a3, a4⟩ := HOB.out r
            obtain ⟨x, hx⟩ : ∃ x, x = ts.getD (j + m) 0 := ⟨_, rfl⟩
            obtain ⟨z, hz⟩ : ∃ z, z = os.getD r 0 := ⟨_, rfl⟩
            rw [← hx] at htk a1 a2 HS2
            rw [← hz] at hok a3 a4 HS2
            have hmb := mul_bd ⟨a1, a2⟩ ⟨a3, a4⟩
            obtain ⟨pp, hpp⟩ : ∃ pp, x * z = pp := ⟨_, rfl⟩
            rw [hpp] at hmb HS2
            obtain ⟨m1, m2⟩ := hmb
            clear hx hz htc hoc
            have hatr : (m : Int) + (r : Int) - ((j : Int) + (m : Int) - (j : Int)) = (r : Int) := by omega
            go_wp2
            clear hatr
            have hrl : (r : Int) < (m : Int) + (r : Int) + 1 := by omega
            refine Rel.region3 11 (by kernel_rfl) (by kernel_rfl) (by kernel_rfl) ?_
            simp only [List.take_succ_cons, List.take_zero, List.drop_succ_cons, List.drop_zero, List.filterMap_cons, List.filterMap_nil]
            iterate 11 (refine Rel.opz (hn := ?_); (try simp only [List.nil_append, List.cons_append]))
            refine Rel.done3 ?_
            intro x w3 h3 hx
            simp only [Rel.facts, Nat.zero_add, Nat.reduceAdd] at hx
            obtain ⟨e0, e1, e2, e3, e4, e5, e6, e7, e8, e9, e10, _⟩ := hx
            simp only [Rel.fill, Nat.zero_add, Nat.reduceAdd, e0, e1, e2, e3, e4, e5, e6, e7, e8, e9, e10]
            simp only [Act.put, List.setIfInBounds_toArray, List.set_cons_zero, List.set_cons_succ]
            clear e0 e1 e2 e3 e4 e5 e6 e7 e8 e9 e10
            have kg_3 := Lib.hid (KG2.out.below h3)
            have HB3 := Lib.hid (KB2.out.trans (h3.mono KB2.out.size))
            clear h3 g0 g1 g2 g3 g4 gl
            go_wp2
            go_roundw
            case rel => exact ⟨m + 1, by omega, by go_num, by rw [HS2.out], HB3.out, kg_3.out⟩
            case measure => simp [intOf]; omega
          · have hn0 : (q : Int) < (m : Int) := by omega
            have HRV := Lib.hid (show revD os m = 0 by unfold revD; rw [if_neg (by rw [HQ.out]; omega)])
            rw [HRV.out, Int.mul_zero, Int.add_zero] at HS2
            go_wp2
            go_roundw
            case rel => exact ⟨m + 1, by omega, by go_num, by rw [HS2.out], KB2.out, KG2.out⟩
            case measure => simp [intOf]; omega
        · obtain ⟨d, hd⟩ : ∃ d, M = j + d := ⟨M - j, by omega⟩
          obtain rfl : m = d := by omega
          have HMD := Lib.hid hd
          clear hd
          have HABS := Lib.hid (show mx s (-s) = absI s by rw [mx_eq]; rfl)
          obtain ⟨ab, hab⟩ : ∃ ab, ab = absI s := ⟨_, rfl⟩
          have hmx : ∀ (a : Array TypeId) (t : TypeId) (W : World), (Builtin.max_ a t #[(.int .i64 s), (.int .i64 (-s))]).run Tryd.prog W = .ok (.int .i64 ab) W := fun a t W => by rw [max2_any, HABS.out, hab]
          have HAB := Lib.hid hab
          clear hab
          have hmm : ¬ (j : Int) + (m : Int) < (M : Int) := by omega
          by_cases hok : ab ≤ rc
          · go_wp2
            go_roundw
            case rel => exact ⟨j + 1, by omega, by go_num, fun l hl => (Nat.lt_succ_iff_lt_or_eq.1 hl).elim (HALL.out l) (fun e => by rw [e, show M - j = m by rw [HMD.out]; omega, ← HS.out, ← HAB.out]; exact hok), KB2.out, KG2.out⟩
            case measure => simp [intOf]; omega
          · go_wp2
            go_ret
            refine ⟨_, by first | rfl | (simp; done), ?_, KB2.out⟩
            show (Value.bool false) = _
            rw [HRR.out, show ((List.range M).all fun later => decide (absI (latK ts os later (M - later)) ≤ rc)) = false from List.all_eq_false.2 ⟨j, List.mem_range.2 hlt, by rw [show M - j = m by rw [HMD.out]; omega, ← HS.out, ← HAB.out]; simpa using hok⟩, Bool.and_false]
    · obtain rfl : j = M := by omega
      go_wp2
      go_ret
      refine ⟨_, by first | rfl | (simp; done), ?_, KB.out⟩
      show (Value.bool true) = _
      rw [HRR.out, HDC.out, decide_eq_true (by have := HCC.out; omega), Bool.true_and]
      exact congrArg Value.bool (List.all_eq_true.2 (fun l hl => decide_eq_true (HALL.out l (List.mem_range.1 hl)))).symm
theorem keeps_K {lk ht rc h : Int} {ts os gs : List Int} {M L n : Nat} {u v : Value} {W : World} (hlk : 1 ≤ lk ∧ lk ≤ 8) (hh : 0 ≤ h ∧ h ≤ 1099511627776) (hM : M = ts.length) (hn : n = os.length) (hn0 : 0 < n) (hM8 : M ≤ 1000) (hn8 : n ≤ 10000) (htb : inB 64 ts) (hob : inB 2048 os) (hu : KG lk ht rc M ts L gs u W) (hv : KS n os v W) :
    Calls Tryd.prog 62 #[u, (.int .i64 h), v] W (KP (KV (.bool (keepsF lk ht rc h ts os))) W) := by
  obtain ⟨A1, c1, A2, c2, rfl, hT, _⟩ := hu
  obtain ⟨A3, c3, rfl, hO⟩ := hv
  obtain ⟨q, rfl⟩ : ∃ q, n = q + 1 := ⟨n - 1, by omega⟩
  exact keeps_walk (gs := gs) hlk hh hM hn.symm hM8 (by omega) htb hob hT hO
end Go.Proofs.YtdeapbihbhoefaaDoor

/- The law's helper scaled. -/
namespace Go.Proofs.YtdeapbihbhoefaaDoor
open Go.RowKit
open Calm (bcell Blk)
end Go.Proofs.YtdeapbihbhoefaaDoor

/- The reference's HasInt. -/
namespace Go.Proofs.YtdeapbihbhoefaaDoor
open Go.RowKit
open Calm (bcell Blk)
set_option maxRecDepth 100000 in
set_option maxHeartbeats 2000000 in
theorem hasInt_K {n : Nat} {l : List Int} {v : Int} {u : Value} {W : World} (hn : n = l.length) (h5 : n ≤ 100000) (hu : KS n l u W) : Calls Tryd.prog 64 #[u, (.int .i64 v)] W (KP (KV (.bool (decide (v ∈ l)))) W) := by
  obtain ⟨A, c, rfl, hC⟩ := hu
  have HC := Lib.hid hC
  have HN := Lib.hid hn
  obtain ⟨R, hR⟩ : ∃ R, R = decide (v ∈ l) := ⟨_, rfl⟩
  have HR := Lib.hid hR
  rw [← hR]
  clear hC hn hR
  go_enter Tryd.func64, Tryd.ntmps64
  go_wp2
  go_loop [5] (fun i => ∃ k : Nat, k ≤ n ∧ i = (.int .i64 ((k : Int))) ∧ ∀ j, j < k → l.getD j 0 ≠ v) (fun i => n - (intOf i).toNat)
  case atStart => exact ⟨0, Nat.zero_le _, rfl, fun j hj => absurd hj (Nat.not_lt_zero j)⟩
  case round =>
    obtain ⟨k, hk, rfl, hall⟩ := hrel
    have HALL := Lib.hid hall
    clear hall
    by_cases hlt : k < n
    · obtain ⟨b, o, hA, hbl, hcell⟩ := HC.out (by rw [← HN.out]; omega)
      subst hA
      have hck := hcell k (by rw [← HN.out]; exact hlt)
      have hkn : (k : Int) < (n : Int) := by omega
      obtain ⟨x, hx⟩ : ∃ x, x = l.getD k 0 := ⟨_, rfl⟩
      rw [← hx] at hck
      have HX := Lib.hid hx
      clear hcell hx
      by_cases hxv : x = v
      · have HXV := Lib.hid hxv
        have hq : (x == v) = true := by simp [hxv]
        clear hxv
        go_wp2
        go_ret
        refine ⟨_, by first | rfl | (simp; done), ?_, Below.refl _ _⟩
        show (Value.bool true) = Value.bool R
        rw [HR.out, decide_eq_true]
        rw [← HXV.out, HX.out]
        have hl : k < l.length := by rw [← HN.out]; exact hlt
        rw [List.getD_eq_getElem?_getD, List.getElem?_eq_getElem hl]
        exact List.getElem_mem hl
      · have HXV := Lib.hid hxv
        have hq : (x == v) = false := by simpa using hxv
        clear hxv
        go_wp2
        go_round
        case rel => exact ⟨k + 1, by omega, by go_num, fun j hj => (Nat.lt_succ_iff_lt_or_eq.1 hj).elim (HALL.out j) (fun e => by rw [e, ← HX.out]; exact HXV.out)⟩
        case measure => simp [intOf]; omega
    · obtain rfl : k = n := by omega
      go_wp2
      go_ret
      refine ⟨_, by first | rfl | (simp; done), ?_, Below.refl _ _⟩
      show (Value.bool false) = Value.bool R
      rw [HR.out, decide_eq_false]
      intro hm
      obtain ⟨j, hj, e⟩ := List.mem_iff_getElem.1 hm
      refine HALL.out j (by rw [HN.out]; exact hj) ?_
      rw [List.getD_eq_getElem?_getD, List.getElem?_eq_getElem hj]
      exact e
end Go.Proofs.YtdeapbihbhoefaaDoor

/- The law's helper allowed. -/
namespace Go.Proofs.YtdeapbihbhoefaaDoor
open Go.RowKit
open Calm (bcell Blk)
set_option maxRecDepth 100000 in
set_option maxHeartbeats 4000000 in
theorem allowed_walk {lk ht rc : Int} {ts gs ys : List Int} {M L n : Nat} {A1 A2 A3 : Option Addr} {c1 c2 c3 : Nat} {w : World} (hV : Valid lk ht rc ts gs) (hM : M = ts.length) (hn : n = ys.length) (h5 : n ≤ 100) (hx : inB 2048 ys) (hc3 : n ≤ c3 ∧ c3 ≤ maxLen)
    (hT : Cells w A1 ts) (hG : Cells w A2 gs) (hP : Cells w A3 ys) :
    Calls Tryd.prog 63 #[.agg #[(.int .i64 lk), (.int .i64 ht), .slice A1 M c1, (.int .i64 rc), .slice A2 L c2], .slice A3 n c3] w (KP (KV (.bool (allowF lk ht rc ts ys))) w) := by
  have HU := Lib.hid (show KG lk ht rc M ts L gs (.agg #[(.int .i64 lk), (.int .i64 ht), .slice A1 M c1, (.int .i64 rc), .slice A2 L c2]) w from ⟨_, _, _, _, rfl, hT, hG⟩)
  have HO := Lib.hid hP
  have HN := Lib.hid hn
  have HC3 := Lib.hid hc3.1
  have HOB : Hid (∀ k : Nat, -2048 ≤ ys.getD k 0 ∧ ys.getD k 0 ≤ 2048) := Lib.hid (fun k => inB_get hx (by omega) k)
  have HHB := Lib.hid (bhAt_bd (lk := lk) hx)
  have htl := hV.tl
  obtain ⟨lk1, lk2⟩ := hV.lk
  have HKE : Hid (∀ {u v : Value} (k c : Nat) (W : World), k < n → KG lk ht rc M ts L gs u W → KS (k + 1) (ys.take (k + 1)) v W → Calls Tryd.prog 62 #[u, (.int .i64 (bhAt lk ys k)), v] W (KP (KV (.bool (keepsF lk ht rc (bhAt lk ys k) ts (ys.take (k + 1))))) W)) := Lib.hid (fun k c W hk q q2 => by
    have g := bhAt_bd (lk := lk) hx k
    exact keeps_K hV.lk ⟨g.1, by omega⟩ hM (by rw [List.length_take]; omega) (by omega) (by omega) (by omega) hV.tb (fun z hz => hx z (List.mem_of_mem_take hz)) q q2)
  have HR : Hid (allowF lk ht rc ts ys = (List.range n).all fun j => keepsF lk ht rc (bhAt lk ys j) ts (ys.take (j + 1))) := Lib.hid (by rw [hn]; rfl)
  clear hV hM hn hx hc3 hT hG hP htl
  go_enter Tryd.func63, Tryd.ntmps63
  have HB0 := Lib.hid (Below.refl w.heap.size w)
  have HB0 := Lib.hid (Below.refl w.heap.size w)
  skip
  go_wp2
  refine name_world ?_
  intro w1 e1
  have h1 : Below w.heap.size w w1 := by rw [e1]; exact bel
  have HB1 := Lib.hid (HB0.out.trans (h1.mono HB0.out.size))
  have bg_1 := Lib.hid (show Blk w1 w.heap.size #[(.int .i64 lk), (.int .i64 ht), .slice A1 M c1, (.int .i64 rc), .slice A2 L c2] from by rw [e1]; (repeat (first | ((with_reducible refine Blk.at_ ?_); focus (first | rfl | (simp; done) | (simp; omega))) | (with_reducible refine Blk.alloc ?_ _) | (with_reducible refine Blk.below ?_ (by with_reducible assumption)) | (with_reducible refine Blk.drew ?_))))
  clear e1 h1
  go_loopw [5, 10] (fun h i wr => ∃ k : Nat, k ≤ n ∧ i = (.int .i64 ((k : Int))) ∧ h = (.int .i64 (bhAt lk ys k)) ∧ (∀ j, j < k → keepsF lk ht rc (bhAt lk ys j) ts (ys.take (j + 1)) = true) ∧ Below w.heap.size w wr ∧ Blk wr w.heap.size #[(.int .i64 lk), (.int .i64 ht), .slice A1 M c1, (.int .i64 rc), .slice A2 L c2]) (fun _ i _ => n - (intOf i).toNat)
  case atStart => exact ⟨0, Nat.zero_le _, rfl, rfl, fun j hj => absurd hj (Nat.not_lt_zero j), HB1.out, bg_1.out⟩
  case round =>
    obtain ⟨k, hk, rfl, rfl, hall, kb, kg⟩ := hrel
    have HALL := Lib.hid hall
    have KB := Lib.hid kb
    have KGB := Lib.hid kg
    obtain ⟨g0, g1, g2, g3, g4, gl, -⟩ := kg.o5
    clear hall kb kg
    by_cases hlt : k < n
    · obtain ⟨b1, o1, hA, hol, hoc⟩ := (HO.out.below KB.out) (by rw [← HN.out]; omega)
      subst hA
      have hck := hoc k (by rw [← HN.out]; exact hlt)
      have hkn : (k : Int) < (n : Int) := by omega
      obtain ⟨t1, t2⟩ := HOB.out k
      obtain ⟨hb1, hb2⟩ := HHB.out k
      obtain ⟨d1, d2⟩ := shr_bd lk hb1
      have HH2 := Lib.hid (show bhAt lk ys (k + 1) = (bhAt lk ys k - bhAt lk ys k / 2 ^ lk.toNat) + ys.getD k 0 * ys.getD k 0 from rfl)
      have HKK : Hid (∀ {u : Value} (W : World), KG lk ht rc M ts L gs u W → KS (k + 1) (ys.take (k + 1)) (.slice (some ⟨b1, o1, none⟩) (k + 1) c3) W → Calls Tryd.prog 62 #[u, (.int .i64 (bhAt lk ys k)), .slice (some ⟨b1, o1, none⟩) (k + 1) c3] W (KP (KV (.bool (keepsF lk ht rc (bhAt lk ys k) ts (ys.take (k + 1))))) W)) := Lib.hid (fun W q q2 => HKE.out k 0 W hlt q q2)
      obtain ⟨KR, hKR⟩ : ∃ KR, KR = keepsF lk ht rc (bhAt lk ys k) ts (ys.take (k + 1)) := ⟨_, rfl⟩
      obtain ⟨y, hy⟩ : ∃ y, y = ys.getD k 0 := ⟨_, rfl⟩
      obtain ⟨h0, hh0⟩ : ∃ h0, h0 = bhAt lk ys k := ⟨_, rfl⟩
      rw [← hKR, ← hh0] at HKK
      rw [← hh0] at hb1 hb2 d1 d2 HH2 ⊢
      rw [← hy] at hck t1 t2 HH2
      have hsq := sq_bd (y := y) ⟨t1, t2⟩
      obtain ⟨p, hp⟩ : ∃ p, y * y = p := ⟨_, rfl⟩
      rw [hp] at hsq HH2
      obtain ⟨p1, p2⟩ := hsq
      have HKR := Lib.hid hKR
      have HP := Lib.hid hp
      have HOT := Lib.hid (show KS (k + 1) (ys.take (k + 1)) (.slice (some ⟨b1, o1, none⟩) (k + 1) c3) wr from ⟨_, _, rfl, Cells.takeN (HO.out.below KB.out) (k + 1)⟩)
      have HUW := Lib.hid (KG.st _ _ _ _ _ _ _ _ _ _ HU.out KB.out)
      have hc3 := HC3.out
      have hk1 : k + 1 ≤ c3 := by omega
      have hk0 : 0 ≤ (k : Int) + 1 := by omega
      have hk2 : (k : Int) + 1 ≤ (c3 : Int) := by omega
      clear hKR hy hh0 hp hoc
      go_wp2
      refine Rel.region3 7 (by kernel_rfl) (by kernel_rfl) (by kernel_rfl) ?_
      simp only [List.take_succ_cons, List.take_zero, List.drop_succ_cons, List.drop_zero, List.filterMap_cons, List.filterMap_nil]
      iterate 6 (refine Rel.opz (hn := ?_); (try simp only [List.nil_append, List.cons_append]))
      refine Rel.callK 62 (KV (.bool KR)) (KV.st _) (Rel.gno rfl) ?_ ?_
      · intro a W hb hd hbase
        have q1 : a.eval (.tmp 15) = _ := (Rel.dep_at hd 0 rfl rfl)
        have q2 : a.eval (.tmp 16) = _ := (Rel.dep_at hd 1 rfl rfl)
        have q3 : a.eval (.tmp 20) = _ := (Rel.dep_at hd 5 rfl rfl)
        refine ⟨#[a.eval (.tmp 15), a.eval (.tmp 16), a.eval (.tmp 20)], ?_, by rw [q1, q2, q3]; exact HKK.out _ (KG.st _ _ _ _ _ _ _ _ _ _ HUW.out hb) (KS.st _ _ _ _ _ HOT.out hb)⟩
        clear hd hbase hb
        go_simp
        (first | done | rfl | (refine ⟨?_, ?_⟩ <;> rfl))
      (try simp only [List.nil_append, List.cons_append])
      refine Rel.done3 ?_
      intro x w2 h2 hx
      simp only [Rel.facts, Nat.zero_add, Nat.reduceAdd] at hx
      obtain ⟨e0, e1, e2, e3, e4, e5, e6, _⟩ := hx
      have e6 : x 6 = _ := e6
      simp only [Rel.fill, Nat.zero_add, Nat.reduceAdd, e0, e1, e2, e3, e4, e5, e6]
      simp only [Act.put, List.setIfInBounds_toArray, List.set_cons_zero, List.set_cons_succ]
      clear e0 e1 e2 e3 e4 e5 e6
      have bg_2 := Lib.hid (KGB.out.below h2)
      have HB2 := Lib.hid (KB.out.trans (h2.mono KB.out.size))
      clear h2 g0 g1 g2 g3 g4 gl hck
      rcases Bool.eq_false_or_eq_true KR with hkr | hkr
      · subst hkr
        obtain ⟨fbg_0, fbg_1, fbg_2, fbg_3, fbg_4, fbg_l, -⟩ := bg_2.out.o5
        have hpp := HP.out
        go_wp2
        clear hpp
        clear fbg_0 fbg_1 fbg_2 fbg_3 fbg_4 fbg_l
        go_roundw
        case rel => exact ⟨k + 1, by omega, by go_num, by rw [HH2.out], fun j hj => (Nat.lt_succ_iff_lt_or_eq.1 hj).elim (HALL.out j) (fun e => by rw [e]; exact HKR.out.symm), HB2.out, bg_2.out⟩
        case measure => simp [intOf]; omega
      · subst hkr
        go_wp2
        go_ret
        refine ⟨_, by first | rfl | (simp; done), ?_, HB2.out⟩
        show (Value.bool false) = _
        rw [HR.out]
        exact congrArg Value.bool (List.all_eq_false.2 ⟨k, List.mem_range.2 hlt, by rw [← HKR.out]; simp⟩).symm
    · obtain rfl : k = n := by omega
      go_wp2
      go_ret
      refine ⟨_, by first | rfl | (simp; done), ?_, KB.out⟩
      show (Value.bool true) = _
      rw [HR.out]
      exact congrArg Value.bool (List.all_eq_true.2 (fun j hj => HALL.out j (List.mem_range.1 hj))).symm
end Go.Proofs.YtdeapbihbhoefaaDoor

/- What ProtectLoudest's walk takes. -/
namespace Go.Proofs.YtdeapbihbhoefaaDoor
open Go.RowKit
open Calm (bcell Blk)
theorem KSC.st (n : Nat) (l : List Int) : Rel.Stable (KSC n l) := fun _ _ _ ⟨B, c, h1, h2, h3⟩ hb => ⟨B, c, h1, h2.below hb, h3⟩
theorem KSC.ks {n : Nat} {l : List Int} {u : Value} {W : World} (h : KSC n l u W) : KS n l u W := by
  obtain ⟨B, c, h1, h2, _⟩ := h
  exact ⟨B, c, h1, h2⟩
theorem allowed_K {lk ht rc : Int} {ts gs ys : List Int} {M L n : Nat} {u v : Value} {W : World} (hV : Valid lk ht rc ts gs) (hM : M = ts.length) (hn : n = ys.length) (h5 : n ≤ 100) (hx : inB 2048 ys) (hu : KG lk ht rc M ts L gs u W) (hv : KSC n ys v W) :
    Calls Tryd.prog 63 #[u, v] W (KP (KV (.bool (allowF lk ht rc ts ys))) W) := by
  obtain ⟨A1, c1, A2, c2, rfl, hT, hG⟩ := hu
  obtain ⟨A3, c3, rfl, hP, hc⟩ := hv
  exact allowed_walk hV hM hn h5 hx hc hT hG hP
section
variable {lk ht rc : Int} {ts gs xs : List Int} {M L N k : Nat} {a y : Value} {W : World} (hM : M = ts.length) (hL : L = gs.length) (hN : N = xs.length) (hLim : Lim W) (hu : KG lk ht rc M ts L gs a W) (hv : KS N xs y W) (he : loudErr lk ht rc ts gs xs (k : Int) = 0)
include hM hL hN hLim hu hv he
theorem xLoudest_some {r : List Int} (hr : loudF lk ht rc ts gs xs k = some r) : Calls Tryd.prog 55 #[a, y, (.int .i64 ((k : Int)))] W (KP (K2 (KSC k r) (KV (.int .i64 0))) W) := by
  obtain ⟨A1, c1, A2, c2, rfl, hT, hG⟩ := hu
  obtain ⟨A3, c3, rfl, hX⟩ := hv
  obtain ⟨g1, g2, g3, g4, g5⟩ := loudErr_zero he
  have hrl := (loud_sound hr).2
  refine (Loudest_okc lk ht rc k ts gs xs A1 A2 A3 c1 c2 c3 M L N W hM hL hN hLim (guard_valid g1) hT hG hX (by omega) (by omega) (ascErr_in g3) he).mono fun e W' ⟨⟨B, d, h, hc, hd⟩, hb⟩ => ?_
  rw [hr] at h hc hd
  have hd' : k ≤ d ∧ d ≤ maxLen := ⟨by have := hd.1; rw [show (some r).getD [] = r from rfl] at this; omega, hd.2⟩
  exact ⟨_, h, ⟨_, _, by rw [show (some r).getD [] = r from rfl, hrl]; rfl, ⟨B, d, rfl, hc, hd'⟩, rfl⟩, hb⟩
theorem xLoudest_none (hr : loudF lk ht rc ts gs xs k = none) : Calls Tryd.prog 55 #[a, y, (.int .i64 ((k : Int)))] W (KP (K2 (KS 0 []) (KV (.int .i64 24))) W) := by
  have e1 : loudR lk ht rc ts gs xs (k : Int) = [] := by unfold loudR; rw [if_pos he, Int.toNat_natCast, hr]; rfl
  have e2 : loudE lk ht rc ts gs xs (k : Int) = 24 := by unfold loudE; rw [if_pos he, Int.toNat_natCast, hr]; rfl
  obtain ⟨g1, g2, g3, g4, g5⟩ := loudErr_zero he
  have hV := guard_valid g1
  have h1 := hV.tl
  have h2 := hV.gl
  have := cLoudest (n := (k : Int)) (N2 := 0) hM hL hN (by omega) (by omega) (by omega) hLim hu hv (by rw [e1]; rfl)
  rwa [e1, e2] at this
end
theorem loudErr_of {lk ht rc : Int} {ts gs xs : List Int} {k : Nat} (h1 : guardErr lk ht rc ts gs = 0) (h2 : firstOf [someErr (xs.length : Int) 6, ascErr xs (-2048) 2048] = 0) (h3 : k ≤ 6) : loudErr lk ht rc ts gs xs (k : Int) = 0 := by
  rw [loudErr_three, h1, h2, rangeErr_in (by omega) (by omega)]
  rfl
set_option maxRecDepth 100000 in
set_option maxHeartbeats 1000000 in
theorem rCheckLevels_L {n : Nat} {l : List Int} {u : Value} {w : World} (hn : n = l.length) (hu : KS n l u w) : Calls Tryd.prog 57 #[u] w (KP (KV (.int .i64 (firstOf [someErr (l.length : Int) 6, ascErr l (-2048) 2048]))) w) := by
  by_cases h5 : n ≤ 5000
  · exact rCheckLevels_K hn h5 hu
  obtain ⟨A, c, rfl, hC⟩ := hu
  have e : someErr (l.length : Int) 6 = 5 := by
    unfold someErr
    rw [if_neg (by omega), if_pos (by omega)]
    rfl
  rw [e, fo_consN (by decide)]
  have z1 : (6 : Int) < (n : Int) := by omega
  have z2 : ¬ (n : Int) = 0 := by omega
  clear hC hn e h5
  go_enter Tryd.func57, Tryd.ntmps57
  go_wp2
  go_ret
  exact ⟨_, by first | rfl | (simp; done), rfl, Below.refl _ _⟩
theorem pow_small {N : Nat} (hN : N ≤ 4) : ∀ i, i ≤ 3 → N ^ i ≤ 64 := by
  intro i hi
  calc N ^ i ≤ 4 ^ i := Nat.pow_le_pow_left hN i
    _ ≤ 4 ^ 3 := Nat.pow_le_pow_right (by decide) hi
/-- the best list, by its code. -/
theorem loud_best {lk ht rc : Int} {ts gs xs r : List Int} {k : Nat} (hV : Valid lk ht rc ts gs) (hxs : inB 2048 xs) (hr : loudF lk ht rc ts gs xs k = some r) : r.length = k ∧ inB 2048 r ∧ (∀ j, j < k → r.getD j 0 ∈ xs) ∧ allowF lk ht rc ts r = true ∧ ∃ c0, c0 < xs.length ^ k ∧ codeL xs k c0 = r ∧ ∀ c, c < c0 → allowF lk ht rc ts (codeL xs k c) = true → enF (codeL xs k c) < enF r := by
  obtain ⟨h1, h2⟩ := loud_sound hr
  have h3 := path_in h1
  rcases loud_code (gs := gs) (ls := xs) hV.tl.1 k with ⟨e, _⟩ | ⟨r', e, h4, c0, h5, h6, h7⟩
  · rw [hr] at e; cases e
  · rw [hr] at e
    cases e
    refine ⟨h2, fun z hz => hxs z (h3 z hz), fun j hj => h3 _ ?_, h4, c0, h5, h6, h7⟩
    rw [List.getD_eq_getElem?_getD, List.getElem?_eq_getElem (by omega)]
    exact List.getElem_mem _
end Go.Proofs.YtdeapbihbhoefaaDoor

/- ProtectLoudest, case 0. -/
namespace Go.Proofs.YtdeapbihbhoefaaDoor
open Go.RowKit
open Calm (bcell Blk)
set_option maxRecDepth 100000 in
set_option maxHeartbeats 8000000 in
theorem loudest_0 (lk ht rc n : Int) (M L N : Nat) (ts gs xs : List Int) (u v : Value) (w : World) (hTab : PTab w) (hM : M = ts.length) (hL : L = gs.length) (hN : N = xs.length) (hn8 : 0 ≤ n ∧ n ≤ 255) (b0 : ¬ (M ≤ 9 ∧ L ≤ 9)) (hu : KG lk ht rc M ts L gs u w) (hv : KS N xs v w) :
    Calls Tryd.prog 10 #[u, v, .int .u8 n] w fun r w' => r = .returned (.bool true) ∧ Below w.heap.size w w' := by
  obtain ⟨A1, c1, A2, c2, rfl, hT, hG⟩ := hu
  obtain ⟨A3, c3, rfl, hP⟩ := hv
  have HU := Lib.hid (show KG lk ht rc M ts L gs (.agg #[(.int .i64 lk), (.int .i64 ht), .slice A1 M c1, (.int .i64 rc), .slice A2 L c2]) w from ⟨_, _, _, _, rfl, hT, hG⟩)
  have HX := Lib.hid (show KS N xs (.slice A3 N c3) w from ⟨_, _, rfl, hP⟩)
  have HSH : Hid (∀ W, KG lk ht rc M ts L gs (.agg #[(.int .i64 lk), (.int .i64 ht), .slice A1 M c1, (.int .i64 rc), .slice A2 L c2]) W → Calls Tryd.prog 13 #[.agg #[(.int .i64 lk), (.int .i64 ht), .slice A1 M c1, (.int .i64 rc), .slice A2 L c2]] W (KP (KV (.bool false)) W)) := Lib.hid (fun W q => by have := Short_K q; rwa [decide_eq_false b0] at this)
  have HTab := Lib.hid hTab
  clear hTab hM hL hN hT hG hP b0
  go_enter Tryd.func10, Tryd.ntmps10
  have HB0 := Lib.hid (Below.refl w.heap.size w)
  go_wp2_with (go_at_call 13; refine name_calls ?_; intro w1 e1; refine Hid.out ?_)
  unfold Hid
  have h1 : Below w.heap.size w w1 := by rw [e1]; exact bel
  have HB1 := Lib.hid (HB0.out.trans (h1.mono HB0.out.size))
  have bg_1 := Lib.hid (show Blk w1 w.heap.size #[(.int .i64 lk), (.int .i64 ht), .slice A1 M c1, (.int .i64 rc), .slice A2 L c2] from by rw [e1]; (repeat (first | ((with_reducible refine Blk.at_ ?_); focus (first | rfl | (simp; done) | (simp; omega))) | (with_reducible refine Blk.alloc ?_ _) | (with_reducible refine Blk.below ?_ (by with_reducible assumption)) | (with_reducible refine Blk.drew ?_))))
  clear e1 h1
  refine (HSH.out _ (KG.st _ _ _ _ _ _ _ _ _ _ HU.out HB1.out)).mono ?_
  rintro r w2 ⟨v2, rfl, k2, h2⟩
  have bg_2 := Lib.hid (bg_1.out.below h2)
  have HB2 := Lib.hid (HB1.out.trans (h2.mono HB1.out.size))
  obtain rfl := k2
  clear h2
  have ug_rw2 := Lib.hid (KG.st _ _ _ _ _ _ _ _ _ _ HU.out HB2.out)
  have ux_rw2 := Lib.hid (KS.st _ _ _ _ _ HX.out HB2.out)
  have HTabw2 := Lib.hid (HTab.out.below HB2.out)
  have HZw2 := Lib.hid (Below.refl w2.heap.size w2)
  clear HU HX HTab
  go_wp2_with (go_at_call 15; refine name_calls ?_; intro w3 e3; refine Hid.out ?_)
  unfold Hid
  have h3 : Below w2.heap.size w2 w3 := by rw [e3]; exact bel
  have HB3 := Lib.hid (HZw2.out.trans (h3.mono HZw2.out.size))
  clear e3 h3
  refine (awake_any _ (HTabw2.out.below HB3.out)).mono ?_
  rintro r w4 ⟨rfl, h4⟩
  have HB4 := Lib.hid (HB3.out.trans (h4.mono HB3.out.size))
  clear h4
  go_wp2
  go_ret
  exact ⟨by first | rfl | (simp; done), HB2.out.trans (HB4.out.mono HB2.out.size)⟩
end Go.Proofs.YtdeapbihbhoefaaDoor

/- ProtectLoudest, case 1. -/
namespace Go.Proofs.YtdeapbihbhoefaaDoor
open Go.RowKit
open Calm (bcell Blk)
set_option maxRecDepth 100000 in
set_option maxHeartbeats 8000000 in
theorem loudest_1 (lk ht rc n : Int) (M L N : Nat) (ts gs xs : List Int) (u v : Value) (w : World) (hTab : PTab w) (hM : M = ts.length) (hL : L = gs.length) (hN : N = xs.length) (hn8 : 0 ≤ n ∧ n ≤ 255) (b0 : M ≤ 9 ∧ L ≤ 9) (b1 : ¬ guardErr lk ht rc ts gs = 0) (hu : KG lk ht rc M ts L gs u w) (hv : KS N xs v w) :
    Calls Tryd.prog 10 #[u, v, .int .u8 n] w fun r w' => r = .returned (.bool true) ∧ Below w.heap.size w w' := by
  obtain ⟨A1, c1, A2, c2, rfl, hT, hG⟩ := hu
  obtain ⟨A3, c3, rfl, hP⟩ := hv
  have HU := Lib.hid (show KG lk ht rc M ts L gs (.agg #[(.int .i64 lk), (.int .i64 ht), .slice A1 M c1, (.int .i64 rc), .slice A2 L c2]) w from ⟨_, _, _, _, rfl, hT, hG⟩)
  have HX := Lib.hid (show KS N xs (.slice A3 N c3) w from ⟨_, _, rfl, hP⟩)
  have HSH : Hid (∀ W, KG lk ht rc M ts L gs (.agg #[(.int .i64 lk), (.int .i64 ht), .slice A1 M c1, (.int .i64 rc), .slice A2 L c2]) W → Calls Tryd.prog 13 #[.agg #[(.int .i64 lk), (.int .i64 ht), .slice A1 M c1, (.int .i64 rc), .slice A2 L c2]] W (KP (KV (.bool true)) W)) := Lib.hid (fun W q => by have := Short_K q; rwa [decide_eq_true b0] at this)
  obtain ⟨b01, b02⟩ := b0
  obtain ⟨GE, hGE⟩ : ∃ GE, GE = guardErr lk ht rc ts gs := ⟨_, rfl⟩
  have HCG : Hid (∀ {x : Value} (W : World), KG lk ht rc M ts L gs x W → Calls Tryd.prog 18 #[x] W (KP (KV (.int .i64 GE)) W)) := Lib.hid (fun W q => by rw [hGE]; exact rGuard_K hM hL (by omega) (by omega) q)
  have b1' := b1
  rw [← hGE] at b1
  have b1x : (GE != 0) = true := by simp [b1]
  have HTab := Lib.hid hTab
  clear hTab hM hL hN hT hG hP hGE b1' b01 b02 b1
  go_enter Tryd.func10, Tryd.ntmps10
  have HB0 := Lib.hid (Below.refl w.heap.size w)
  go_wp2_with (go_at_call 13; refine name_calls ?_; intro w1 e1; refine Hid.out ?_)
  unfold Hid
  have h1 : Below w.heap.size w w1 := by rw [e1]; exact bel
  have HB1 := Lib.hid (HB0.out.trans (h1.mono HB0.out.size))
  have bg_1 := Lib.hid (show Blk w1 w.heap.size #[(.int .i64 lk), (.int .i64 ht), .slice A1 M c1, (.int .i64 rc), .slice A2 L c2] from by rw [e1]; (repeat (first | ((with_reducible refine Blk.at_ ?_); focus (first | rfl | (simp; done) | (simp; omega))) | (with_reducible refine Blk.alloc ?_ _) | (with_reducible refine Blk.below ?_ (by with_reducible assumption)) | (with_reducible refine Blk.drew ?_))))
  clear e1 h1
  refine (HSH.out _ (KG.st _ _ _ _ _ _ _ _ _ _ HU.out HB1.out)).mono ?_
  rintro r w2 ⟨v2, rfl, k2, h2⟩
  have bg_2 := Lib.hid (bg_1.out.below h2)
  have HB2 := Lib.hid (HB1.out.trans (h2.mono HB1.out.size))
  obtain rfl := k2
  clear h2
  have ug_rw2 := Lib.hid (KG.st _ _ _ _ _ _ _ _ _ _ HU.out HB2.out)
  have ux_rw2 := Lib.hid (KS.st _ _ _ _ _ HX.out HB2.out)
  have HTabw2 := Lib.hid (HTab.out.below HB2.out)
  have HZw2 := Lib.hid (Below.refl w2.heap.size w2)
  clear HU HX HTab
  obtain ⟨fbg_0, fbg_1, fbg_2, fbg_3, fbg_4, fbg_l, -⟩ := (bg_2.out.below HZw2.out).o5
  go_wp2_with (go_at_call 18; refine name_calls ?_; intro w3 e3; refine Hid.out ?_)
  unfold Hid
  have h3 : Below w2.heap.size w2 w3 := by rw [e3]; exact bel
  have HB3 := Lib.hid (HZw2.out.trans (h3.mono HZw2.out.size))
  clear e3 h3
  refine (HCG.out _ (KG.st _ _ _ _ _ _ _ _ _ _ ug_rw2.out HB3.out)).mono ?_
  rintro r w4 ⟨v4, rfl, k4, h4⟩
  have HB4 := Lib.hid (HB3.out.trans (h4.mono HB3.out.size))
  obtain rfl := k4
  clear h4
  clear fbg_0 fbg_1 fbg_2 fbg_3 fbg_4 fbg_l
  go_wp2_with (go_at_call 15; refine name_calls ?_; intro w5 e5; refine Hid.out ?_)
  unfold Hid
  have h5 : Below w4.heap.size w4 w5 := by rw [e5]; exact bel
  have HB5 := Lib.hid (HB4.out.trans (h5.mono HB4.out.size))
  clear e5 h5
  refine (awake_any _ (HTabw2.out.below HB5.out)).mono ?_
  rintro r w6 ⟨rfl, h6⟩
  have HB6 := Lib.hid (HB5.out.trans (h6.mono HB5.out.size))
  clear h6
  go_wp2
  go_ret
  exact ⟨by first | rfl | (simp; done), HB2.out.trans (HB6.out.mono HB2.out.size)⟩
end Go.Proofs.YtdeapbihbhoefaaDoor

/- ProtectLoudest, case 2. -/
namespace Go.Proofs.YtdeapbihbhoefaaDoor
open Go.RowKit
open Calm (bcell Blk)
set_option maxRecDepth 100000 in
set_option maxHeartbeats 8000000 in
theorem loudest_2 (lk ht rc n : Int) (M L N : Nat) (ts gs xs : List Int) (u v : Value) (w : World) (hTab : PTab w) (hM : M = ts.length) (hL : L = gs.length) (hN : N = xs.length) (hn8 : 0 ≤ n ∧ n ≤ 255) (b0 : M ≤ 9 ∧ L ≤ 9) (b1 : guardErr lk ht rc ts gs = 0) (b2 : ¬ firstOf [someErr (xs.length : Int) 6, ascErr xs (-2048) 2048] = 0) (hu : KG lk ht rc M ts L gs u w) (hv : KS N xs v w) :
    Calls Tryd.prog 10 #[u, v, .int .u8 n] w fun r w' => r = .returned (.bool true) ∧ Below w.heap.size w w' := by
  obtain ⟨A1, c1, A2, c2, rfl, hT, hG⟩ := hu
  obtain ⟨A3, c3, rfl, hP⟩ := hv
  have HU := Lib.hid (show KG lk ht rc M ts L gs (.agg #[(.int .i64 lk), (.int .i64 ht), .slice A1 M c1, (.int .i64 rc), .slice A2 L c2]) w from ⟨_, _, _, _, rfl, hT, hG⟩)
  have HX := Lib.hid (show KS N xs (.slice A3 N c3) w from ⟨_, _, rfl, hP⟩)
  have HSH : Hid (∀ W, KG lk ht rc M ts L gs (.agg #[(.int .i64 lk), (.int .i64 ht), .slice A1 M c1, (.int .i64 rc), .slice A2 L c2]) W → Calls Tryd.prog 13 #[.agg #[(.int .i64 lk), (.int .i64 ht), .slice A1 M c1, (.int .i64 rc), .slice A2 L c2]] W (KP (KV (.bool true)) W)) := Lib.hid (fun W q => by have := Short_K q; rwa [decide_eq_true b0] at this)
  obtain ⟨b01, b02⟩ := b0
  obtain ⟨GE, hGE⟩ : ∃ GE, GE = guardErr lk ht rc ts gs := ⟨_, rfl⟩
  have HCG : Hid (∀ {x : Value} (W : World), KG lk ht rc M ts L gs x W → Calls Tryd.prog 18 #[x] W (KP (KV (.int .i64 GE)) W)) := Lib.hid (fun W q => by rw [hGE]; exact rGuard_K hM hL (by omega) (by omega) q)
  have b1' := b1
  rw [← hGE] at b1
  subst b1
  obtain ⟨LE, hLE⟩ : ∃ LE, LE = firstOf [someErr (xs.length : Int) 6, ascErr xs (-2048) 2048] := ⟨_, rfl⟩
  have HCL : Hid (∀ {x : Value} (W : World), KS N xs x W → Calls Tryd.prog 57 #[x] W (KP (KV (.int .i64 LE)) W)) := Lib.hid (fun W q => by rw [hLE]; exact rCheckLevels_L hN q)
  have b2' := b2
  rw [← hLE] at b2
  have b2x : (LE != 0) = true := by simp [b2]
  have HTab := Lib.hid hTab
  clear hTab hM hL hN hT hG hP hGE b1' b01 b02 hLE b2' b2
  go_enter Tryd.func10, Tryd.ntmps10
  have HB0 := Lib.hid (Below.refl w.heap.size w)
  go_wp2_with (go_at_call 13; refine name_calls ?_; intro w1 e1; refine Hid.out ?_)
  unfold Hid
  have h1 : Below w.heap.size w w1 := by rw [e1]; exact bel
  have HB1 := Lib.hid (HB0.out.trans (h1.mono HB0.out.size))
  have bg_1 := Lib.hid (show Blk w1 w.heap.size #[(.int .i64 lk), (.int .i64 ht), .slice A1 M c1, (.int .i64 rc), .slice A2 L c2] from by rw [e1]; (repeat (first | ((with_reducible refine Blk.at_ ?_); focus (first | rfl | (simp; done) | (simp; omega))) | (with_reducible refine Blk.alloc ?_ _) | (with_reducible refine Blk.below ?_ (by with_reducible assumption)) | (with_reducible refine Blk.drew ?_))))
  clear e1 h1
  refine (HSH.out _ (KG.st _ _ _ _ _ _ _ _ _ _ HU.out HB1.out)).mono ?_
  rintro r w2 ⟨v2, rfl, k2, h2⟩
  have bg_2 := Lib.hid (bg_1.out.below h2)
  have HB2 := Lib.hid (HB1.out.trans (h2.mono HB1.out.size))
  obtain rfl := k2
  clear h2
  have ug_rw2 := Lib.hid (KG.st _ _ _ _ _ _ _ _ _ _ HU.out HB2.out)
  have ux_rw2 := Lib.hid (KS.st _ _ _ _ _ HX.out HB2.out)
  have HTabw2 := Lib.hid (HTab.out.below HB2.out)
  have HZw2 := Lib.hid (Below.refl w2.heap.size w2)
  clear HU HX HTab
  obtain ⟨fbg_0, fbg_1, fbg_2, fbg_3, fbg_4, fbg_l, -⟩ := (bg_2.out.below HZw2.out).o5
  go_wp2_with (go_at_call 18; refine name_calls ?_; intro w3 e3; refine Hid.out ?_)
  unfold Hid
  have h3 : Below w2.heap.size w2 w3 := by rw [e3]; exact bel
  have HB3 := Lib.hid (HZw2.out.trans (h3.mono HZw2.out.size))
  clear e3 h3
  refine (HCG.out _ (KG.st _ _ _ _ _ _ _ _ _ _ ug_rw2.out HB3.out)).mono ?_
  rintro r w4 ⟨v4, rfl, k4, h4⟩
  have HB4 := Lib.hid (HB3.out.trans (h4.mono HB3.out.size))
  obtain rfl := k4
  clear h4
  clear fbg_0 fbg_1 fbg_2 fbg_3 fbg_4 fbg_l
  go_wp2_with (go_at_call 57; refine name_calls ?_; intro w5 e5; refine Hid.out ?_)
  unfold Hid
  have h5 : Below w4.heap.size w4 w5 := by rw [e5]; exact bel
  have HB5 := Lib.hid (HB4.out.trans (h5.mono HB4.out.size))
  clear e5 h5
  refine (HCL.out _ (KS.st _ _ _ _ _ ux_rw2.out HB5.out)).mono ?_
  rintro r w6 ⟨v6, rfl, k6, h6⟩
  have HB6 := Lib.hid (HB5.out.trans (h6.mono HB5.out.size))
  obtain rfl := k6
  clear h6
  go_wp2_with (go_at_call 15; refine name_calls ?_; intro w7 e7; refine Hid.out ?_)
  unfold Hid
  have h7 : Below w6.heap.size w6 w7 := by rw [e7]; exact bel
  have HB7 := Lib.hid (HB6.out.trans (h7.mono HB6.out.size))
  clear e7 h7
  refine (awake_any _ (HTabw2.out.below HB7.out)).mono ?_
  rintro r w8 ⟨rfl, h8⟩
  have HB8 := Lib.hid (HB7.out.trans (h8.mono HB7.out.size))
  clear h8
  go_wp2
  go_ret
  exact ⟨by first | rfl | (simp; done), HB2.out.trans (HB8.out.mono HB2.out.size)⟩
end Go.Proofs.YtdeapbihbhoefaaDoor

/- ProtectLoudest, case 3. -/
namespace Go.Proofs.YtdeapbihbhoefaaDoor
open Go.RowKit
open Calm (bcell Blk)
set_option maxRecDepth 100000 in
set_option maxHeartbeats 8000000 in
theorem loudest_3 (lk ht rc n : Int) (M L N : Nat) (ts gs xs : List Int) (u v : Value) (w : World) (hTab : PTab w) (hM : M = ts.length) (hL : L = gs.length) (hN : N = xs.length) (hn8 : 0 ≤ n ∧ n ≤ 255) (b0 : M ≤ 9 ∧ L ≤ 9) (b1 : guardErr lk ht rc ts gs = 0) (b2 : firstOf [someErr (xs.length : Int) 6, ascErr xs (-2048) 2048] = 0) (b3 : ¬ N ≤ 4) (hu : KG lk ht rc M ts L gs u w) (hv : KS N xs v w) :
    Calls Tryd.prog 10 #[u, v, .int .u8 n] w fun r w' => r = .returned (.bool true) ∧ Below w.heap.size w w' := by
  obtain ⟨A1, c1, A2, c2, rfl, hT, hG⟩ := hu
  obtain ⟨A3, c3, rfl, hP⟩ := hv
  have HU := Lib.hid (show KG lk ht rc M ts L gs (.agg #[(.int .i64 lk), (.int .i64 ht), .slice A1 M c1, (.int .i64 rc), .slice A2 L c2]) w from ⟨_, _, _, _, rfl, hT, hG⟩)
  have HX := Lib.hid (show KS N xs (.slice A3 N c3) w from ⟨_, _, rfl, hP⟩)
  have HSH : Hid (∀ W, KG lk ht rc M ts L gs (.agg #[(.int .i64 lk), (.int .i64 ht), .slice A1 M c1, (.int .i64 rc), .slice A2 L c2]) W → Calls Tryd.prog 13 #[.agg #[(.int .i64 lk), (.int .i64 ht), .slice A1 M c1, (.int .i64 rc), .slice A2 L c2]] W (KP (KV (.bool true)) W)) := Lib.hid (fun W q => by have := Short_K q; rwa [decide_eq_true b0] at this)
  obtain ⟨b01, b02⟩ := b0
  obtain ⟨GE, hGE⟩ : ∃ GE, GE = guardErr lk ht rc ts gs := ⟨_, rfl⟩
  have HCG : Hid (∀ {x : Value} (W : World), KG lk ht rc M ts L gs x W → Calls Tryd.prog 18 #[x] W (KP (KV (.int .i64 GE)) W)) := Lib.hid (fun W q => by rw [hGE]; exact rGuard_K hM hL (by omega) (by omega) q)
  have b1' := b1
  rw [← hGE] at b1
  subst b1
  obtain ⟨LE, hLE⟩ : ∃ LE, LE = firstOf [someErr (xs.length : Int) 6, ascErr xs (-2048) 2048] := ⟨_, rfl⟩
  have HCL : Hid (∀ {x : Value} (W : World), KS N xs x W → Calls Tryd.prog 57 #[x] W (KP (KV (.int .i64 LE)) W)) := Lib.hid (fun W q => by rw [hLE]; exact rCheckLevels_L hN q)
  have b2' := b2
  rw [← hLE] at b2
  subst b2
  have hlen : (4 : Int) < (N : Int) := by omega
  have hd4 : decide ((4 : Int) < (N : Int)) = true := decide_eq_true hlen
  have HTab := Lib.hid hTab
  clear hTab hM hL hN hT hG hP hGE b1' b01 b02 hLE b2' b3
  go_enter Tryd.func10, Tryd.ntmps10
  have HB0 := Lib.hid (Below.refl w.heap.size w)
  go_wp2_with (go_at_call 13; refine name_calls ?_; intro w1 e1; refine Hid.out ?_)
  unfold Hid
  have h1 : Below w.heap.size w w1 := by rw [e1]; exact bel
  have HB1 := Lib.hid (HB0.out.trans (h1.mono HB0.out.size))
  have bg_1 := Lib.hid (show Blk w1 w.heap.size #[(.int .i64 lk), (.int .i64 ht), .slice A1 M c1, (.int .i64 rc), .slice A2 L c2] from by rw [e1]; (repeat (first | ((with_reducible refine Blk.at_ ?_); focus (first | rfl | (simp; done) | (simp; omega))) | (with_reducible refine Blk.alloc ?_ _) | (with_reducible refine Blk.below ?_ (by with_reducible assumption)) | (with_reducible refine Blk.drew ?_))))
  clear e1 h1
  refine (HSH.out _ (KG.st _ _ _ _ _ _ _ _ _ _ HU.out HB1.out)).mono ?_
  rintro r w2 ⟨v2, rfl, k2, h2⟩
  have bg_2 := Lib.hid (bg_1.out.below h2)
  have HB2 := Lib.hid (HB1.out.trans (h2.mono HB1.out.size))
  obtain rfl := k2
  clear h2
  have ug_rw2 := Lib.hid (KG.st _ _ _ _ _ _ _ _ _ _ HU.out HB2.out)
  have ux_rw2 := Lib.hid (KS.st _ _ _ _ _ HX.out HB2.out)
  have HTabw2 := Lib.hid (HTab.out.below HB2.out)
  have HZw2 := Lib.hid (Below.refl w2.heap.size w2)
  clear HU HX HTab
  obtain ⟨fbg_0, fbg_1, fbg_2, fbg_3, fbg_4, fbg_l, -⟩ := (bg_2.out.below HZw2.out).o5
  go_wp2_with (go_at_call 18; refine name_calls ?_; intro w3 e3; refine Hid.out ?_)
  unfold Hid
  have h3 : Below w2.heap.size w2 w3 := by rw [e3]; exact bel
  have HB3 := Lib.hid (HZw2.out.trans (h3.mono HZw2.out.size))
  clear e3 h3
  refine (HCG.out _ (KG.st _ _ _ _ _ _ _ _ _ _ ug_rw2.out HB3.out)).mono ?_
  rintro r w4 ⟨v4, rfl, k4, h4⟩
  have HB4 := Lib.hid (HB3.out.trans (h4.mono HB3.out.size))
  obtain rfl := k4
  clear h4
  clear fbg_0 fbg_1 fbg_2 fbg_3 fbg_4 fbg_l
  go_wp2_with (go_at_call 57; refine name_calls ?_; intro w5 e5; refine Hid.out ?_)
  unfold Hid
  have h5 : Below w4.heap.size w4 w5 := by rw [e5]; exact bel
  have HB5 := Lib.hid (HB4.out.trans (h5.mono HB4.out.size))
  clear e5 h5
  refine (HCL.out _ (KS.st _ _ _ _ _ ux_rw2.out HB5.out)).mono ?_
  rintro r w6 ⟨v6, rfl, k6, h6⟩
  have HB6 := Lib.hid (HB5.out.trans (h6.mono HB5.out.size))
  obtain rfl := k6
  clear h6
  go_wp2_with (go_at_call 15; refine name_calls ?_; intro w7 e7; refine Hid.out ?_)
  unfold Hid
  have h7 : Below w6.heap.size w6 w7 := by rw [e7]; exact bel
  have HB7 := Lib.hid (HB6.out.trans (h7.mono HB6.out.size))
  clear e7 h7
  refine (awake_any _ (HTabw2.out.below HB7.out)).mono ?_
  rintro r w8 ⟨rfl, h8⟩
  have HB8 := Lib.hid (HB7.out.trans (h8.mono HB7.out.size))
  clear h8
  go_wp2
  go_ret
  exact ⟨by first | rfl | (simp; done), HB2.out.trans (HB8.out.mono HB2.out.size)⟩
end Go.Proofs.YtdeapbihbhoefaaDoor
