/- Part 10 of the texts of the claim: Td2, Td3. -/
import Derived.Test.YtamldoidalnloaaMc8
import Derived.Test.YtamldoidalnloaaMc9
import Derived.Test.YtamldoidalnloaaMc4

/- CheckUnits of four units that are known. -/
namespace Go.Proofs.Ytamldoidalnloaa
open Go.RowKit
open Calm (bcell Blk)
/-- the four units: a 5, b 1, c 4, d 2. -/
structure US (W : World) (ub v0 v1 v2 v3 : Nat) : Prop where
  u : Blk W ub #[.string ⟨#[97]⟩, .slice (some ⟨v0, 0, none⟩) 1 1, .string ⟨#[98]⟩, .slice (some ⟨v1, 0, none⟩) 1 1, .string ⟨#[99]⟩, .slice (some ⟨v2, 0, none⟩) 1 1, .string ⟨#[100]⟩, .slice (some ⟨v3, 0, none⟩) 1 1]
  k0 : Blk W v0 #[(.int .i64 5)]
  k1 : Blk W v1 #[(.int .i64 1)]
  k2 : Blk W v2 #[(.int .i64 4)]
  k3 : Blk W v3 #[(.int .i64 2)]
theorem US.below {W W' : World} {ub v0 v1 v2 v3 : Nat} (h : US W ub v0 v1 v2 v3) (hb : Below W.heap.size W W') : US W' ub v0 v1 v2 v3 := ⟨h.u.below hb, h.k0.below hb, h.k1.below hb, h.k2.below hb, h.k3.below hb⟩
theorem US.cells {W : World} {ub v0 v1 v2 v3 : Nat} (h : US W ub v0 v1 v2 v3) : W.cell? ⟨ub, 0, none⟩ = some (.string ⟨#[97]⟩) ∧ W.cell? ⟨ub, 1, none⟩ = some (.slice (some ⟨v0, 0, none⟩) 1 1) ∧ W.cell? ⟨ub, 2, none⟩ = some (.string ⟨#[98]⟩) ∧ W.cell? ⟨ub, 3, none⟩ = some (.slice (some ⟨v1, 0, none⟩) 1 1) ∧ W.cell? ⟨ub, 4, none⟩ = some (.string ⟨#[99]⟩) ∧ W.cell? ⟨ub, 5, none⟩ = some (.slice (some ⟨v2, 0, none⟩) 1 1) ∧ W.cell? ⟨ub, 6, none⟩ = some (.string ⟨#[100]⟩) ∧ W.cell? ⟨ub, 7, none⟩ = some (.slice (some ⟨v3, 0, none⟩) 1 1) ∧ ub < W.heap.size :=
  ⟨h.u.c 0, h.u.c 1, h.u.c 2, h.u.c 3, h.u.c 4, h.u.c 5, h.u.c 6, h.u.c 7, h.u.lt⟩
theorem Try.keyS : Go.Maps.Keyed Try.prog 9 := Go.Maps.string_keyed Try.underlying9
theorem keyStr (s : ByteArray) (hs : s.size ≤ maxLen) : keyOf Try.prog 9 (.string s) = some (.string s.data.toList) := by
  rw [keyOf_string Try.underlying9]
  simp [mapKey, Try.underlying9]
  exact hs
def nmL : List (List UInt8) := [[97], [98], [99], [100]]
/-- a map of the first k names. -/
def NM (k B : Nat) (W : World) : Prop :=
  ∃ D : DataW Unit, W.ownsMap Try.prog 9 (plainElem Try.prog 4) B k D ∧ ∀ x : List UInt8, D.atKey (.string x) (.lit (.bool false)) = .lit (.bool (decide (x ∈ nmL.take k)))
theorem grownBy_below' {W W' : World} (h : Below W.heap.size W W') (row : Option Nat) : W.grownBy W' row := ⟨h.os, h.tape, h.output, h.size, fun k hk _ => h.block k hk⟩
theorem NM.below {k B : Nat} {W W' : World} (hs : NM k B W) (hb : Below W.heap.size W W') : NM k B W' := by
  obtain ⟨D, h1, h2⟩ := hs
  exact ⟨D, h1.kept (grownBy_below' hb none) (by simp), h2⟩
theorem NM.put {k B : Nat} {W : World} {D : DataW Unit} {y : List UInt8} (hk : nmL[k]? = some y) (h1 : W.ownsMap Try.prog 9 (plainElem Try.prog 4) B (k + 1) (D.put (.string y) (.lit (.bool true)))) (hD : Maps.IsMap D)
    (h2 : ∀ x : List UInt8, D.atKey (.string x) (.lit (.bool false)) = .lit (.bool (decide (x ∈ nmL.take k)))) : NM (k + 1) B W := by
  refine ⟨_, h1, fun x => ?_⟩
  have ht : nmL.take (k + 1) = nmL.take k ++ [y] := by rw [List.take_add_one, hk]; rfl
  by_cases hx : x = y
  · subst hx
    rw [Maps.atKey_put_same hD (by simp [WideAt.IsKeyLit]), decide_eq_true (by rw [ht]; simp)]
  · rw [Maps.atKey_put_other (by simpa using hx), h2, ht]
    congr 2
    rw [decide_eq_decide]
    simp [hx]
set_option maxRecDepth 100000 in
set_option maxHeartbeats 16000000 in
theorem checkUnits_ok (ub v0 v1 v2 v3 : Nat) (w : World) (hU : US w ub v0 v1 v2 v3) : Calls Try.prog 70 #[.slice (some ⟨ub, 0, none⟩) 4 4] w fun r w' => r = .returned (.int .i64 0) ∧ Below w.heap.size w w' := by
  have hmm := @run_makeMap Try.prog
  have HUC : Hid (∀ (c : UInt8) (v : Nat) (x : Int) (W : World), 97 ≤ c.toNat → c.toNat ≤ 122 → (-100000 ≤ x ∧ x ≤ 100000) → Blk W v #[(.int .i64 x)] → Calls Try.prog 93 #[.agg #[.string ⟨#[c]⟩, .slice (some ⟨v, 0, none⟩) 1 1]] W fun r w' => r = .returned (.int .i64 0) ∧ Below W.heap.size W w') := Lib.hid (fun c v x W h1 h2 hx hV => unitCheck c v x W h1 h2 hx hV)
  have HWH : Hid (∀ (e : Int) W, Calls Try.prog 71 #[.bool false, (.int .i64 e)] W fun r w' => r = .returned (.int .i64 0) ∧ Below W.heap.size W w') := Lib.hid (fun e W => (lnWhen_any false e W).mono fun _ _ ⟨he, h2⟩ => ⟨he, h2 ▸ Below.refl _ _⟩)
  have HWH2 : Hid (∀ (e : Int) W, Calls Try.prog 71 #[.bool false, (.int .i64 e)] W fun r w' => r = .returned (.int .i64 0) ∧ W = w') := Lib.hid (fun e W => lnWhen_any false e W)
  have HF3 : Hid (∀ (W : World), Calls Try.prog 69 #[.slice (some ⟨W.heap.size, 0, none⟩) 3 3] (W.alloc (.cells #[(.int .i64 0), (.int .i64 0), (.int .i64 0)] 24)) fun r w' => r = .returned (.int .i64 0) ∧ (W.alloc (.cells #[(.int .i64 0), (.int .i64 0), (.int .i64 0)] 24)) = w') := Lib.hid (fun W => lnFirst_cells [0, 0, 0] W (by simp))
  have HU := Lib.hid hU
  clear hU
  go_enter Try.func70, Try.ntmps70
  go_wp2
  refine name_world ?_
  intro w1 e1
  have HB1 := Lib.hid (show Below w.heap.size w w1 by rw [e1]; exact bel)
  have HM1 : Hid (NM 0 w.heap.size w1) := Lib.hid (by
    rw [e1]
    refine ⟨.map [], ?_, fun x => ?_⟩
    · have := World.ownsMap_made (H := Unit) w Try.prog 9 (plainElem Try.prog 4)
      simpa using this
    · rw [decide_eq_false (by simp)]
      rfl)
  clear e1 hmm
  go_loopw [13] (fun z wr => ∃ k : Nat, k ≤ 4 ∧ z = (.int .i64 ((k : Int))) ∧ NM k w.heap.size wr ∧ w.heap.size < wr.heap.size ∧ Below w.heap.size w wr) (fun z _ => 4 - (intOf z).toNat)
  case atStart => exact ⟨0, by omega, rfl, HM1.out, by obtain ⟨D, h1, _⟩ := HM1.out; exact h1.lt, HB1.out⟩
  case round =>
    obtain ⟨k, hk, rfl, hm, hwl, hb⟩ := hrel
    have HM := Lib.hid hm
    have HBR := Lib.hid hb
    have hus := HU.out.below hb
    have HUR := Lib.hid hus
    obtain ⟨a0, a1, a2, a3, a4, a5, a6, a7, al⟩ := hus.cells
    have hzr := hb.size
    clear hm hb hus
    rcases (by omega : k = 0 ∨ k = 1 ∨ k = 2 ∨ k = 3 ∨ k = 4) with rfl | rfl | rfl | rfl | rfl
    · have ek : ((0 : Nat) : Int) = 0 := rfl
      rw [ek]
      go_wp2
      refine name_world ?_
      intro w2 e2
      have h2 : Below wr.heap.size wr w2 := by rw [e2]; exact bel
      have K2 : Blk w2 wr.heap.size #[.string ⟨#[97]⟩, .slice (some ⟨v0, 0, none⟩) 1 1] := by rw [e2]; (repeat (first | ((with_reducible refine Blk.at_ ?_); focus (first | rfl | (simp; done) | (simp; omega))) | (with_reducible refine Blk.alloc ?_ _) | (with_reducible refine Blk.below ?_ (by with_reducible assumption)) | (with_reducible refine Blk.drew ?_)))
      have HB2 := Lib.hid (HBR.out.trans (h2.mono hzr))
      have HM2 := Lib.hid (HM.out.below h2)
      have hus := HUR.out.below h2
      have HU2 := Lib.hid hus
      have HK2 := Lib.hid K2
      clear a0 a1 a2 a3 a4 a5 a6 a7 al
      obtain ⟨a0, a1, a2, a3, a4, a5, a6, a7, al⟩ := hus.cells
      obtain ⟨c0, c1, cl, cf⟩ := K2.o2
      clear e2 h2 hus K2
      refine Rel.region3 16 (by kernel_rfl) (by kernel_rfl) (by kernel_rfl) ?_
      simp only [List.take_succ_cons, List.take_zero, List.drop_succ_cons, List.drop_zero, List.filterMap_cons, List.filterMap_nil]
      iterate 1 (apply Rel.op3; (focus (first | exact Rel.gno rfl | exact Rel.gyes _ true _ rfl rfl rfl | exact Rel.gyes _ false _ rfl rfl rfl)); (focus (intro a W hb hd hbase; obtain ⟨hc, hf⟩ := bcell hb; clear hb hf; simp [Rel.deps, Rel.dep1, Rel.ons, Region.binds, Act.eval] at hd; simp only [Act.eval, List.mem_cons, List.not_mem_nil, not_or, and_imp, or_false, Array.getD_eq_getD_getElem?] at hbase; go_simp; (try go_bits); (try rfl); done)); (try simp only [List.nil_append, List.cons_append]))
      (apply Rel.call3; (focus (first | exact Rel.gno rfl | exact Rel.gyes _ true _ rfl rfl rfl | exact Rel.gyes _ false _ rfl rfl rfl)); (focus (intro a W hb hd hbase; obtain ⟨hc, hf⟩ := bcell hb; clear hb hf; simp [Rel.deps, Rel.dep1, Rel.ons, Region.binds, Act.eval] at hd; simp only [Act.eval, List.mem_cons, List.not_mem_nil, not_or, and_imp, or_false, Array.getD_eq_getD_getElem?] at hbase; go_simp; refine ⟨?_, ?_⟩; rfl; rfl)); (focus (intro W hb; go_at_call 93; exact HUC.out 97 v0 5 W (by decide) (by decide) (by decide) (HU2.out.k0.below hb))); (try simp only [List.nil_append, List.cons_append]))
      iterate 9 (apply Rel.op3; (focus (first | exact Rel.gno rfl | exact Rel.gyes _ true _ rfl rfl rfl | exact Rel.gyes _ false _ rfl rfl rfl)); (focus (intro a W hb hd hbase; obtain ⟨hc, hf⟩ := bcell hb; clear hb hf; simp [Rel.deps, Rel.dep1, Rel.ons, Region.binds, Act.eval] at hd; simp only [Act.eval, List.mem_cons, List.not_mem_nil, not_or, and_imp, or_false, Array.getD_eq_getD_getElem?] at hbase; go_simp; (try go_bits); (try rfl); done)); (try simp only [List.nil_append, List.cons_append]))
      (apply Rel.call3; (focus (first | exact Rel.gno rfl | exact Rel.gyes _ true _ rfl rfl rfl | exact Rel.gyes _ false _ rfl rfl rfl)); (focus (intro a W hb hd hbase; obtain ⟨hc, hf⟩ := bcell hb; clear hb hf; simp [Rel.deps, Rel.dep1, Rel.ons, Region.binds, Act.eval] at hd; simp only [Act.eval, List.mem_cons, List.not_mem_nil, not_or, and_imp, or_false, Array.getD_eq_getD_getElem?] at hbase; go_simp; refine ⟨?_, ?_⟩; rfl; rfl)); (focus (intro W hb; go_at_call 71; exact HWH.out 2 W)); (try simp only [List.nil_append, List.cons_append]))
      iterate 3 (apply Rel.op3; (focus (first | exact Rel.gno rfl | exact Rel.gyes _ true _ rfl rfl rfl | exact Rel.gyes _ false _ rfl rfl rfl)); (focus (intro a W hb hd hbase; obtain ⟨hc, hf⟩ := bcell hb; clear hb hf; simp [Rel.deps, Rel.dep1, Rel.ons, Region.binds, Act.eval] at hd; simp only [Act.eval, List.mem_cons, List.not_mem_nil, not_or, and_imp, or_false, Array.getD_eq_getD_getElem?] at hbase; go_simp; (try go_bits); (try rfl); done)); (try simp only [List.nil_append, List.cons_append]))
      refine Rel.op3 (.bool false) (Rel.gno rfl) ?_ ?_
      · intro a W hb hd hbase
        obtain ⟨D, hown, hat⟩ := HM2.out.below hb
        obtain ⟨v, ps, hrun, hv⟩ := hown.lookup Try.keyS Try.underlying134 (zeroB _) (plainElem_bool Try.underlying4 false) (keyStr ⟨#[97]⟩ (by decide))
        obtain ⟨c, rfl, hc⟩ := plainElem_bool_inv Try.underlying4 hv
        obtain rfl : c = false := by
          have h1 := congrArg Prod.fst hc
          rw [show (D.atKey (.string (⟨#[97]⟩ : ByteArray).data.toList) (.lit (.bool false))) = _ from hat _] at h1
          simpa [nmL] using h1.symm
        clear hb hat hc hv hown
        simp [Rel.deps, Rel.dep1, Rel.ons, Region.binds, Act.eval] at hd
        simp only [Act.eval, List.mem_cons, List.not_mem_nil, not_or, and_imp, or_false, Array.getD_eq_getD_getElem?] at hbase
        go_simp
      simp only [List.nil_append, List.cons_append]
      refine Rel.done3 ?_
      intro x w3 hb3 hx
      simp only [Rel.facts, Nat.zero_add, Nat.reduceAdd] at hx
      obtain ⟨e0, e1, e2, e3, e4, e5, e6, e7, e8, e9, e10, e11, e12, e13, e14, e15, _⟩ := hx
      simp only [Rel.fill, Nat.zero_add, Nat.reduceAdd, e0, e1, e2, e3, e4, e5, e6, e7, e8, e9, e10, e11, e12, e13, e14, e15]
      simp only [Act.put, List.setIfInBounds_toArray, List.set_cons_zero, List.set_cons_succ]
      clear e0 e1 e2 e3 e4 e5 e6 e7 e8 e9 e10 e11 e12 e13 e14 e15
      have HB3 := Lib.hid (HB2.out.trans (hb3.mono HB2.out.size))
      have HK3 := Lib.hid (HK2.out.below hb3)
      have HM3 := HM2.out.below hb3
      obtain ⟨D, hown, hat⟩ := HM3
      have HOWN := Lib.hid hown
      have HAT := Lib.hid hat
      have hzw : w.heap.size < w3.heap.size := by have := hb3.size; have := HK2.out.lt; omega
      clear hb3 a0 a1 a2 a3 a4 a5 a6 a7 al c0 c1 cl cf hown hat
      go_wp2_with (first
        | (go_at_call 71; refine (HWH2.out _ _).mono ?_; rintro r wx ⟨rfl, rfl⟩)
        | (go_at_call 69; refine (HF3.out _).mono ?_; rintro r wx ⟨rfl, rfl⟩; refine Hid.out ?_))
      unfold Hid
      obtain ⟨c0, c1, cl, cf⟩ := (HK3.out.alloc (.cells #[(.int .i64 0), (.int .i64 0), (.int .i64 0)] 24)).o2
      have HOWN4 := Lib.hid (HOWN.out.kept (grownBy_below' ((Below.refl _ _).alloc (Nat.le_refl _) (.cells #[(.int .i64 0), (.int .i64 0), (.int .i64 0)] 24)) none) (by simp))
      go_wp2_with (at_mapUpdate; refine wpList_mapUpdate_own _ rfl _ _ _ 134 rfl 9 4 Try.keyS Try.underlying134 _ w.heap.size 0 _ rfl HOWN4.out (by decide) _ _ _ rfl rfl (keyStr ⟨#[97]⟩ (by decide)) _ [] (plainElem_bool Try.underlying4 true) ?_; intro w9 hown9 hgrow9; refine Hid.out ?_)
      unfold Hid
      have HM9 := Lib.hid (NM.put (y := [97]) rfl hown9 HOWN4.out.isMap HAT.out)
      have HB9 := Lib.hid ((HB3.out.alloc HB3.out.size _).grown hgrow9 (by simp; omega) (fun r e => by cases e; exact Nat.le_refl _))
      have hz9 : w.heap.size < w9.heap.size := by have := hgrow9.size; simp at this; omega
      clear hown9 hgrow9
      go_wp2
      go_roundw
      case rel => exact ⟨1, by omega, by go_num, HM9.out, hz9, HB9.out⟩
      case measure => simp [intOf]
    · have ek : ((1 : Nat) : Int) = 1 := rfl
      rw [ek]
      go_wp2
      refine name_world ?_
      intro w2 e2
      have h2 : Below wr.heap.size wr w2 := by rw [e2]; exact bel
      have K2 : Blk w2 wr.heap.size #[.string ⟨#[98]⟩, .slice (some ⟨v1, 0, none⟩) 1 1] := by rw [e2]; (repeat (first | ((with_reducible refine Blk.at_ ?_); focus (first | rfl | (simp; done) | (simp; omega))) | (with_reducible refine Blk.alloc ?_ _) | (with_reducible refine Blk.below ?_ (by with_reducible assumption)) | (with_reducible refine Blk.drew ?_)))
      have HB2 := Lib.hid (HBR.out.trans (h2.mono hzr))
      have HM2 := Lib.hid (HM.out.below h2)
      have hus := HUR.out.below h2
      have HU2 := Lib.hid hus
      have HK2 := Lib.hid K2
      clear a0 a1 a2 a3 a4 a5 a6 a7 al
      obtain ⟨a0, a1, a2, a3, a4, a5, a6, a7, al⟩ := hus.cells
      obtain ⟨c0, c1, cl, cf⟩ := K2.o2
      clear e2 h2 hus K2
      refine Rel.region3 16 (by kernel_rfl) (by kernel_rfl) (by kernel_rfl) ?_
      simp only [List.take_succ_cons, List.take_zero, List.drop_succ_cons, List.drop_zero, List.filterMap_cons, List.filterMap_nil]
      iterate 1 (apply Rel.op3; (focus (first | exact Rel.gno rfl | exact Rel.gyes _ true _ rfl rfl rfl | exact Rel.gyes _ false _ rfl rfl rfl)); (focus (intro a W hb hd hbase; obtain ⟨hc, hf⟩ := bcell hb; clear hb hf; simp [Rel.deps, Rel.dep1, Rel.ons, Region.binds, Act.eval] at hd; simp only [Act.eval, List.mem_cons, List.not_mem_nil, not_or, and_imp, or_false, Array.getD_eq_getD_getElem?] at hbase; go_simp; (try go_bits); (try rfl); done)); (try simp only [List.nil_append, List.cons_append]))
      (apply Rel.call3; (focus (first | exact Rel.gno rfl | exact Rel.gyes _ true _ rfl rfl rfl | exact Rel.gyes _ false _ rfl rfl rfl)); (focus (intro a W hb hd hbase; obtain ⟨hc, hf⟩ := bcell hb; clear hb hf; simp [Rel.deps, Rel.dep1, Rel.ons, Region.binds, Act.eval] at hd; simp only [Act.eval, List.mem_cons, List.not_mem_nil, not_or, and_imp, or_false, Array.getD_eq_getD_getElem?] at hbase; go_simp; refine ⟨?_, ?_⟩; rfl; rfl)); (focus (intro W hb; go_at_call 93; exact HUC.out 98 v1 1 W (by decide) (by decide) (by decide) (HU2.out.k1.below hb))); (try simp only [List.nil_append, List.cons_append]))
      iterate 9 (apply Rel.op3; (focus (first | exact Rel.gno rfl | exact Rel.gyes _ true _ rfl rfl rfl | exact Rel.gyes _ false _ rfl rfl rfl)); (focus (intro a W hb hd hbase; obtain ⟨hc, hf⟩ := bcell hb; clear hb hf; simp [Rel.deps, Rel.dep1, Rel.ons, Region.binds, Act.eval] at hd; simp only [Act.eval, List.mem_cons, List.not_mem_nil, not_or, and_imp, or_false, Array.getD_eq_getD_getElem?] at hbase; go_simp; (try go_bits); (try rfl); done)); (try simp only [List.nil_append, List.cons_append]))
      (apply Rel.call3; (focus (first | exact Rel.gno rfl | exact Rel.gyes _ true _ rfl rfl rfl | exact Rel.gyes _ false _ rfl rfl rfl)); (focus (intro a W hb hd hbase; obtain ⟨hc, hf⟩ := bcell hb; clear hb hf; simp [Rel.deps, Rel.dep1, Rel.ons, Region.binds, Act.eval] at hd; simp only [Act.eval, List.mem_cons, List.not_mem_nil, not_or, and_imp, or_false, Array.getD_eq_getD_getElem?] at hbase; go_simp; refine ⟨?_, ?_⟩; rfl; rfl)); (focus (intro W hb; go_at_call 71; exact HWH.out 2 W)); (try simp only [List.nil_append, List.cons_append]))
      iterate 3 (apply Rel.op3; (focus (first | exact Rel.gno rfl | exact Rel.gyes _ true _ rfl rfl rfl | exact Rel.gyes _ false _ rfl rfl rfl)); (focus (intro a W hb hd hbase; obtain ⟨hc, hf⟩ := bcell hb; clear hb hf; simp [Rel.deps, Rel.dep1, Rel.ons, Region.binds, Act.eval] at hd; simp only [Act.eval, List.mem_cons, List.not_mem_nil, not_or, and_imp, or_false, Array.getD_eq_getD_getElem?] at hbase; go_simp; (try go_bits); (try rfl); done)); (try simp only [List.nil_append, List.cons_append]))
      refine Rel.op3 (.bool false) (Rel.gno rfl) ?_ ?_
      · intro a W hb hd hbase
        obtain ⟨D, hown, hat⟩ := HM2.out.below hb
        obtain ⟨v, ps, hrun, hv⟩ := hown.lookup Try.keyS Try.underlying134 (zeroB _) (plainElem_bool Try.underlying4 false) (keyStr ⟨#[98]⟩ (by decide))
        obtain ⟨c, rfl, hc⟩ := plainElem_bool_inv Try.underlying4 hv
        obtain rfl : c = false := by
          have h1 := congrArg Prod.fst hc
          rw [show (D.atKey (.string (⟨#[98]⟩ : ByteArray).data.toList) (.lit (.bool false))) = _ from hat _] at h1
          simpa [nmL] using h1.symm
        clear hb hat hc hv hown
        simp [Rel.deps, Rel.dep1, Rel.ons, Region.binds, Act.eval] at hd
        simp only [Act.eval, List.mem_cons, List.not_mem_nil, not_or, and_imp, or_false, Array.getD_eq_getD_getElem?] at hbase
        go_simp
      simp only [List.nil_append, List.cons_append]
      refine Rel.done3 ?_
      intro x w3 hb3 hx
      simp only [Rel.facts, Nat.zero_add, Nat.reduceAdd] at hx
      obtain ⟨e0, e1, e2, e3, e4, e5, e6, e7, e8, e9, e10, e11, e12, e13, e14, e15, _⟩ := hx
      simp only [Rel.fill, Nat.zero_add, Nat.reduceAdd, e0, e1, e2, e3, e4, e5, e6, e7, e8, e9, e10, e11, e12, e13, e14, e15]
      simp only [Act.put, List.setIfInBounds_toArray, List.set_cons_zero, List.set_cons_succ]
      clear e0 e1 e2 e3 e4 e5 e6 e7 e8 e9 e10 e11 e12 e13 e14 e15
      have HB3 := Lib.hid (HB2.out.trans (hb3.mono HB2.out.size))
      have HK3 := Lib.hid (HK2.out.below hb3)
      have HM3 := HM2.out.below hb3
      obtain ⟨D, hown, hat⟩ := HM3
      have HOWN := Lib.hid hown
      have HAT := Lib.hid hat
      have hzw : w.heap.size < w3.heap.size := by have := hb3.size; have := HK2.out.lt; omega
      clear hb3 a0 a1 a2 a3 a4 a5 a6 a7 al c0 c1 cl cf hown hat
      go_wp2_with (first
        | (go_at_call 71; refine (HWH2.out _ _).mono ?_; rintro r wx ⟨rfl, rfl⟩)
        | (go_at_call 69; refine (HF3.out _).mono ?_; rintro r wx ⟨rfl, rfl⟩; refine Hid.out ?_))
      unfold Hid
      obtain ⟨c0, c1, cl, cf⟩ := (HK3.out.alloc (.cells #[(.int .i64 0), (.int .i64 0), (.int .i64 0)] 24)).o2
      have HOWN4 := Lib.hid (HOWN.out.kept (grownBy_below' ((Below.refl _ _).alloc (Nat.le_refl _) (.cells #[(.int .i64 0), (.int .i64 0), (.int .i64 0)] 24)) none) (by simp))
      go_wp2_with (at_mapUpdate; refine wpList_mapUpdate_own _ rfl _ _ _ 134 rfl 9 4 Try.keyS Try.underlying134 _ w.heap.size 1 _ rfl HOWN4.out (by decide) _ _ _ rfl rfl (keyStr ⟨#[98]⟩ (by decide)) _ [] (plainElem_bool Try.underlying4 true) ?_; intro w9 hown9 hgrow9; refine Hid.out ?_)
      unfold Hid
      have HM9 := Lib.hid (NM.put (y := [98]) rfl hown9 HOWN4.out.isMap HAT.out)
      have HB9 := Lib.hid ((HB3.out.alloc HB3.out.size _).grown hgrow9 (by simp; omega) (fun r e => by cases e; exact Nat.le_refl _))
      have hz9 : w.heap.size < w9.heap.size := by have := hgrow9.size; simp at this; omega
      clear hown9 hgrow9
      go_wp2
      go_roundw
      case rel => exact ⟨2, by omega, by go_num, HM9.out, hz9, HB9.out⟩
      case measure => simp [intOf]
    · have ek : ((2 : Nat) : Int) = 2 := rfl
      rw [ek]
      go_wp2
      refine name_world ?_
      intro w2 e2
      have h2 : Below wr.heap.size wr w2 := by rw [e2]; exact bel
      have K2 : Blk w2 wr.heap.size #[.string ⟨#[99]⟩, .slice (some ⟨v2, 0, none⟩) 1 1] := by rw [e2]; (repeat (first | ((with_reducible refine Blk.at_ ?_); focus (first | rfl | (simp; done) | (simp; omega))) | (with_reducible refine Blk.alloc ?_ _) | (with_reducible refine Blk.below ?_ (by with_reducible assumption)) | (with_reducible refine Blk.drew ?_)))
      have HB2 := Lib.hid (HBR.out.trans (h2.mono hzr))
      have HM2 := Lib.hid (HM.out.below h2)
      have hus := HUR.out.below h2
      have HU2 := Lib.hid hus
      have HK2 := Lib.hid K2
      clear a0 a1 a2 a3 a4 a5 a6 a7 al
      obtain ⟨a0, a1, a2, a3, a4, a5, a6, a7, al⟩ := hus.cells
      obtain ⟨c0, c1, cl, cf⟩ := K2.o2
      clear e2 h2 hus K2
      refine Rel.region3 16 (by kernel_rfl) (by kernel_rfl) (by kernel_rfl) ?_
      simp only [List.take_succ_cons, List.take_zero, List.drop_succ_cons, List.drop_zero, List.filterMap_cons, List.filterMap_nil]
      iterate 1 (apply Rel.op3; (focus (first | exact Rel.gno rfl | exact Rel.gyes _ true _ rfl rfl rfl | exact Rel.gyes _ false _ rfl rfl rfl)); (focus (intro a W hb hd hbase; obtain ⟨hc, hf⟩ := bcell hb; clear hb hf; simp [Rel.deps, Rel.dep1, Rel.ons, Region.binds, Act.eval] at hd; simp only [Act.eval, List.mem_cons, List.not_mem_nil, not_or, and_imp, or_false, Array.getD_eq_getD_getElem?] at hbase; go_simp; (try go_bits); (try rfl); done)); (try simp only [List.nil_append, List.cons_append]))
      (apply Rel.call3; (focus (first | exact Rel.gno rfl | exact Rel.gyes _ true _ rfl rfl rfl | exact Rel.gyes _ false _ rfl rfl rfl)); (focus (intro a W hb hd hbase; obtain ⟨hc, hf⟩ := bcell hb; clear hb hf; simp [Rel.deps, Rel.dep1, Rel.ons, Region.binds, Act.eval] at hd; simp only [Act.eval, List.mem_cons, List.not_mem_nil, not_or, and_imp, or_false, Array.getD_eq_getD_getElem?] at hbase; go_simp; refine ⟨?_, ?_⟩; rfl; rfl)); (focus (intro W hb; go_at_call 93; exact HUC.out 99 v2 4 W (by decide) (by decide) (by decide) (HU2.out.k2.below hb))); (try simp only [List.nil_append, List.cons_append]))
      iterate 9 (apply Rel.op3; (focus (first | exact Rel.gno rfl | exact Rel.gyes _ true _ rfl rfl rfl | exact Rel.gyes _ false _ rfl rfl rfl)); (focus (intro a W hb hd hbase; obtain ⟨hc, hf⟩ := bcell hb; clear hb hf; simp [Rel.deps, Rel.dep1, Rel.ons, Region.binds, Act.eval] at hd; simp only [Act.eval, List.mem_cons, List.not_mem_nil, not_or, and_imp, or_false, Array.getD_eq_getD_getElem?] at hbase; go_simp; (try go_bits); (try rfl); done)); (try simp only [List.nil_append, List.cons_append]))
      (apply Rel.call3; (focus (first | exact Rel.gno rfl | exact Rel.gyes _ true _ rfl rfl rfl | exact Rel.gyes _ false _ rfl rfl rfl)); (focus (intro a W hb hd hbase; obtain ⟨hc, hf⟩ := bcell hb; clear hb hf; simp [Rel.deps, Rel.dep1, Rel.ons, Region.binds, Act.eval] at hd; simp only [Act.eval, List.mem_cons, List.not_mem_nil, not_or, and_imp, or_false, Array.getD_eq_getD_getElem?] at hbase; go_simp; refine ⟨?_, ?_⟩; rfl; rfl)); (focus (intro W hb; go_at_call 71; exact HWH.out 2 W)); (try simp only [List.nil_append, List.cons_append]))
      iterate 3 (apply Rel.op3; (focus (first | exact Rel.gno rfl | exact Rel.gyes _ true _ rfl rfl rfl | exact Rel.gyes _ false _ rfl rfl rfl)); (focus (intro a W hb hd hbase; obtain ⟨hc, hf⟩ := bcell hb; clear hb hf; simp [Rel.deps, Rel.dep1, Rel.ons, Region.binds, Act.eval] at hd; simp only [Act.eval, List.mem_cons, List.not_mem_nil, not_or, and_imp, or_false, Array.getD_eq_getD_getElem?] at hbase; go_simp; (try go_bits); (try rfl); done)); (try simp only [List.nil_append, List.cons_append]))
      refine Rel.op3 (.bool false) (Rel.gno rfl) ?_ ?_
      · intro a W hb hd hbase
        obtain ⟨D, hown, hat⟩ := HM2.out.below hb
        obtain ⟨v, ps, hrun, hv⟩ := hown.lookup Try.keyS Try.underlying134 (zeroB _) (plainElem_bool Try.underlying4 false) (keyStr ⟨#[99]⟩ (by decide))
        obtain ⟨c, rfl, hc⟩ := plainElem_bool_inv Try.underlying4 hv
        obtain rfl : c = false := by
          have h1 := congrArg Prod.fst hc
          rw [show (D.atKey (.string (⟨#[99]⟩ : ByteArray).data.toList) (.lit (.bool false))) = _ from hat _] at h1
          simpa [nmL] using h1.symm
        clear hb hat hc hv hown
        simp [Rel.deps, Rel.dep1, Rel.ons, Region.binds, Act.eval] at hd
        simp only [Act.eval, List.mem_cons, List.not_mem_nil, not_or, and_imp, or_false, Array.getD_eq_getD_getElem?] at hbase
        go_simp
      simp only [List.nil_append, List.cons_append]
      refine Rel.done3 ?_
      intro x w3 hb3 hx
      simp only [Rel.facts, Nat.zero_add, Nat.reduceAdd] at hx
      obtain ⟨e0, e1, e2, e3, e4, e5, e6, e7, e8, e9, e10, e11, e12, e13, e14, e15, _⟩ := hx
      simp only [Rel.fill, Nat.zero_add, Nat.reduceAdd, e0, e1, e2, e3, e4, e5, e6, e7, e8, e9, e10, e11, e12, e13, e14, e15]
      simp only [Act.put, List.setIfInBounds_toArray, List.set_cons_zero, List.set_cons_succ]
      clear e0 e1 e2 e3 e4 e5 e6 e7 e8 e9 e10 e11 e12 e13 e14 e15
      have HB3 := Lib.hid (HB2.out.trans (hb3.mono HB2.out.size))
      have HK3 := Lib.hid (HK2.out.below hb3)
      have HM3 := HM2.out.below hb3
      obtain ⟨D, hown, hat⟩ := HM3
      have HOWN := Lib.hid hown
      have HAT := Lib.hid hat
      have hzw : w.heap.size < w3.heap.size := by have := hb3.size; have := HK2.out.lt; omega
      clear hb3 a0 a1 a2 a3 a4 a5 a6 a7 al c0 c1 cl cf hown hat
      go_wp2_with (first
        | (go_at_call 71; refine (HWH2.out _ _).mono ?_; rintro r wx ⟨rfl, rfl⟩)
        | (go_at_call 69; refine (HF3.out _).mono ?_; rintro r wx ⟨rfl, rfl⟩; refine Hid.out ?_))
      unfold Hid
      obtain ⟨c0, c1, cl, cf⟩ := (HK3.out.alloc (.cells #[(.int .i64 0), (.int .i64 0), (.int .i64 0)] 24)).o2
      have HOWN4 := Lib.hid (HOWN.out.kept (grownBy_below' ((Below.refl _ _).alloc (Nat.le_refl _) (.cells #[(.int .i64 0), (.int .i64 0), (.int .i64 0)] 24)) none) (by simp))
      go_wp2_with (at_mapUpdate; refine wpList_mapUpdate_own _ rfl _ _ _ 134 rfl 9 4 Try.keyS Try.underlying134 _ w.heap.size 2 _ rfl HOWN4.out (by decide) _ _ _ rfl rfl (keyStr ⟨#[99]⟩ (by decide)) _ [] (plainElem_bool Try.underlying4 true) ?_; intro w9 hown9 hgrow9; refine Hid.out ?_)
      unfold Hid
      have HM9 := Lib.hid (NM.put (y := [99]) rfl hown9 HOWN4.out.isMap HAT.out)
      have HB9 := Lib.hid ((HB3.out.alloc HB3.out.size _).grown hgrow9 (by simp; omega) (fun r e => by cases e; exact Nat.le_refl _))
      have hz9 : w.heap.size < w9.heap.size := by have := hgrow9.size; simp at this; omega
      clear hown9 hgrow9
      go_wp2
      go_roundw
      case rel => exact ⟨3, by omega, by go_num, HM9.out, hz9, HB9.out⟩
      case measure => simp [intOf]
    · have ek : ((3 : Nat) : Int) = 3 := rfl
      rw [ek]
      go_wp2
      refine name_world ?_
      intro w2 e2
      have h2 : Below wr.heap.size wr w2 := by rw [e2]; exact bel
      have K2 : Blk w2 wr.heap.size #[.string ⟨#[100]⟩, .slice (some ⟨v3, 0, none⟩) 1 1] := by rw [e2]; (repeat (first | ((with_reducible refine Blk.at_ ?_); focus (first | rfl | (simp; done) | (simp; omega))) | (with_reducible refine Blk.alloc ?_ _) | (with_reducible refine Blk.below ?_ (by with_reducible assumption)) | (with_reducible refine Blk.drew ?_)))
      have HB2 := Lib.hid (HBR.out.trans (h2.mono hzr))
      have HM2 := Lib.hid (HM.out.below h2)
      have hus := HUR.out.below h2
      have HU2 := Lib.hid hus
      have HK2 := Lib.hid K2
      clear a0 a1 a2 a3 a4 a5 a6 a7 al
      obtain ⟨a0, a1, a2, a3, a4, a5, a6, a7, al⟩ := hus.cells
      obtain ⟨c0, c1, cl, cf⟩ := K2.o2
      clear e2 h2 hus K2
      refine Rel.region3 16 (by kernel_rfl) (by kernel_rfl) (by kernel_rfl) ?_
      simp only [List.take_succ_cons, List.take_zero, List.drop_succ_cons, List.drop_zero, List.filterMap_cons, List.filterMap_nil]
      iterate 1 (apply Rel.op3; (focus (first | exact Rel.gno rfl | exact Rel.gyes _ true _ rfl rfl rfl | exact Rel.gyes _ false _ rfl rfl rfl)); (focus (intro a W hb hd hbase; obtain ⟨hc, hf⟩ := bcell hb; clear hb hf; simp [Rel.deps, Rel.dep1, Rel.ons, Region.binds, Act.eval] at hd; simp only [Act.eval, List.mem_cons, List.not_mem_nil, not_or, and_imp, or_false, Array.getD_eq_getD_getElem?] at hbase; go_simp; (try go_bits); (try rfl); done)); (try simp only [List.nil_append, List.cons_append]))
      (apply Rel.call3; (focus (first | exact Rel.gno rfl | exact Rel.gyes _ true _ rfl rfl rfl | exact Rel.gyes _ false _ rfl rfl rfl)); (focus (intro a W hb hd hbase; obtain ⟨hc, hf⟩ := bcell hb; clear hb hf; simp [Rel.deps, Rel.dep1, Rel.ons, Region.binds, Act.eval] at hd; simp only [Act.eval, List.mem_cons, List.not_mem_nil, not_or, and_imp, or_false, Array.getD_eq_getD_getElem?] at hbase; go_simp; refine ⟨?_, ?_⟩; rfl; rfl)); (focus (intro W hb; go_at_call 93; exact HUC.out 100 v3 2 W (by decide) (by decide) (by decide) (HU2.out.k3.below hb))); (try simp only [List.nil_append, List.cons_append]))
      iterate 9 (apply Rel.op3; (focus (first | exact Rel.gno rfl | exact Rel.gyes _ true _ rfl rfl rfl | exact Rel.gyes _ false _ rfl rfl rfl)); (focus (intro a W hb hd hbase; obtain ⟨hc, hf⟩ := bcell hb; clear hb hf; simp [Rel.deps, Rel.dep1, Rel.ons, Region.binds, Act.eval] at hd; simp only [Act.eval, List.mem_cons, List.not_mem_nil, not_or, and_imp, or_false, Array.getD_eq_getD_getElem?] at hbase; go_simp; (try go_bits); (try rfl); done)); (try simp only [List.nil_append, List.cons_append]))
      (apply Rel.call3; (focus (first | exact Rel.gno rfl | exact Rel.gyes _ true _ rfl rfl rfl | exact Rel.gyes _ false _ rfl rfl rfl)); (focus (intro a W hb hd hbase; obtain ⟨hc, hf⟩ := bcell hb; clear hb hf; simp [Rel.deps, Rel.dep1, Rel.ons, Region.binds, Act.eval] at hd; simp only [Act.eval, List.mem_cons, List.not_mem_nil, not_or, and_imp, or_false, Array.getD_eq_getD_getElem?] at hbase; go_simp; refine ⟨?_, ?_⟩; rfl; rfl)); (focus (intro W hb; go_at_call 71; exact HWH.out 2 W)); (try simp only [List.nil_append, List.cons_append]))
      iterate 3 (apply Rel.op3; (focus (first | exact Rel.gno rfl | exact Rel.gyes _ true _ rfl rfl rfl | exact Rel.gyes _ false _ rfl rfl rfl)); (focus (intro a W hb hd hbase; obtain ⟨hc, hf⟩ := bcell hb; clear hb hf; simp [Rel.deps, Rel.dep1, Rel.ons, Region.binds, Act.eval] at hd; simp only [Act.eval, List.mem_cons, List.not_mem_nil, not_or, and_imp, or_false, Array.getD_eq_getD_getElem?] at hbase; go_simp; (try go_bits); (try rfl); done)); (try simp only [List.nil_append, List.cons_append]))
      refine Rel.op3 (.bool false) (Rel.gno rfl) ?_ ?_
      · intro a W hb hd hbase
        obtain ⟨D, hown, hat⟩ := HM2.out.below hb
        obtain ⟨v, ps, hrun, hv⟩ := hown.lookup Try.keyS Try.underlying134 (zeroB _) (plainElem_bool Try.underlying4 false) (keyStr ⟨#[100]⟩ (by decide))
        obtain ⟨c, rfl, hc⟩ := plainElem_bool_inv Try.underlying4 hv
        obtain rfl : c = false := by
          have h1 := congrArg Prod.fst hc
          rw [show (D.atKey (.string (⟨#[100]⟩ : ByteArray).data.toList) (.lit (.bool false))) = _ from hat _] at h1
          simpa [nmL] using h1.symm
        clear hb hat hc hv hown
        simp [Rel.deps, Rel.dep1, Rel.ons, Region.binds, Act.eval] at hd
        simp only [Act.eval, List.mem_cons, List.not_mem_nil, not_or, and_imp, or_false, Array.getD_eq_getD_getElem?] at hbase
        go_simp
      simp only [List.nil_append, List.cons_append]
      refine Rel.done3 ?_
      intro x w3 hb3 hx
      simp only [Rel.facts, Nat.zero_add, Nat.reduceAdd] at hx
      obtain ⟨e0, e1, e2, e3, e4, e5, e6, e7, e8, e9, e10, e11, e12, e13, e14, e15, _⟩ := hx
      simp only [Rel.fill, Nat.zero_add, Nat.reduceAdd, e0, e1, e2, e3, e4, e5, e6, e7, e8, e9, e10, e11, e12, e13, e14, e15]
      simp only [Act.put, List.setIfInBounds_toArray, List.set_cons_zero, List.set_cons_succ]
      clear e0 e1 e2 e3 e4 e5 e6 e7 e8 e9 e10 e11 e12 e13 e14 e15
      have HB3 := Lib.hid (HB2.out.trans (hb3.mono HB2.out.size))
      have HK3 := Lib.hid (HK2.out.below hb3)
      have HM3 := HM2.out.below hb3
      obtain ⟨D, hown, hat⟩ := HM3
      have HOWN := Lib.hid hown
      have HAT := Lib.hid hat
      have hzw : w.heap.size < w3.heap.size := by have := hb3.size; have := HK2.out.lt; omega
      clear hb3 a0 a1 a2 a3 a4 a5 a6 a7 al c0 c1 cl cf hown hat
      go_wp2_with (first
        | (go_at_call 71; refine (HWH2.out _ _).mono ?_; rintro r wx ⟨rfl, rfl⟩)
        | (go_at_call 69; refine (HF3.out _).mono ?_; rintro r wx ⟨rfl, rfl⟩; refine Hid.out ?_))
      unfold Hid
      obtain ⟨c0, c1, cl, cf⟩ := (HK3.out.alloc (.cells #[(.int .i64 0), (.int .i64 0), (.int .i64 0)] 24)).o2
      have HOWN4 := Lib.hid (HOWN.out.kept (grownBy_below' ((Below.refl _ _).alloc (Nat.le_refl _) (.cells #[(.int .i64 0), (.int .i64 0), (.int .i64 0)] 24)) none) (by simp))
      go_wp2_with (at_mapUpdate; refine wpList_mapUpdate_own _ rfl _ _ _ 134 rfl 9 4 Try.keyS Try.underlying134 _ w.heap.size 3 _ rfl HOWN4.out (by decide) _ _ _ rfl rfl (keyStr ⟨#[100]⟩ (by decide)) _ [] (plainElem_bool Try.underlying4 true) ?_; intro w9 hown9 hgrow9; refine Hid.out ?_)
      unfold Hid
      have HM9 := Lib.hid (NM.put (y := [100]) rfl hown9 HOWN4.out.isMap HAT.out)
      have HB9 := Lib.hid ((HB3.out.alloc HB3.out.size _).grown hgrow9 (by simp; omega) (fun r e => by cases e; exact Nat.le_refl _))
      have hz9 : w.heap.size < w9.heap.size := by have := hgrow9.size; simp at this; omega
      clear hown9 hgrow9
      go_wp2
      go_roundw
      case rel => exact ⟨4, by omega, by go_num, HM9.out, hz9, HB9.out⟩
      case measure => simp [intOf]
    · go_wp2
      go_ret
      exact ⟨rfl, HBR.out⟩
end Go.Proofs.Ytamldoidalnloaa

/- Differences of the four units. -/
namespace Go.Proofs.Ytamldoidalnloaa
open Go.RowKit
open Calm (bcell Blk)
def diffV (x y : Int) : Int := mx (mx 0 (x - y)) (y - x)
theorem max3_any (ts : Array TypeId) (t : TypeId) (x y z : Int) (W : World) : (Builtin.max_ ts t #[(.int .i64 x), (.int .i64 y), (.int .i64 z)]).run Try.prog W = .ok (.int .i64 (mx (mx x y) z)) W := by
  simp [Builtin.max_, Builtin.max2, mx]
set_option maxRecDepth 100000 in
set_option maxHeartbeats 4000000 in
theorem difference_any (s1 s2 : ByteArray) (va vb : Nat) (x y : Int) (w : World) (hx : -100000 ≤ x ∧ x ≤ 100000) (hy : -100000 ≤ y ∧ y ≤ 100000) (hA : Blk w va #[(.int .i64 x)]) (hB : Blk w vb #[(.int .i64 y)]) :
    Calls Try.prog 111 #[.agg #[.string s1, .slice (some ⟨va, 0, none⟩) 1 1], .agg #[.string s2, .slice (some ⟨vb, 0, none⟩) 1 1]] w fun r w' => r = .returned (.int .i64 (diffV x y)) ∧ Below w.heap.size w w' := by
  obtain ⟨D, hD⟩ : ∃ D, D = diffV x y := ⟨_, rfl⟩
  have hmax : ∀ (ts : Array TypeId) (t : TypeId) (W : World), (Builtin.max_ ts t #[(.int .i64 0), (.int .i64 (x - y)), (.int .i64 (y - x))]).run Try.prog W = .ok (.int .i64 D) W := fun ts t W => by rw [hD]; exact max3_any ts t _ _ _ W
  have HA := Lib.hid hA
  have HB := Lib.hid hB
  rw [← hD]
  clear hD hA hB
  go_enter Try.func111, Try.ntmps111
  go_wp2
  refine name_world ?_
  intro w1 e1
  have h1 : Below w.heap.size w w1 := by rw [e1]; exact bel
  have K2 : Blk w1 w.heap.size #[.string s1, .slice (some ⟨va, 0, none⟩) 1 1] := by rw [e1]; (repeat (first | ((with_reducible refine Blk.at_ ?_); focus (first | rfl | (simp; done) | (simp; omega))) | (with_reducible refine Blk.alloc ?_ _) | (with_reducible refine Blk.below ?_ (by with_reducible assumption)) | (with_reducible refine Blk.drew ?_)))
  have K3 : Blk w1 (w.heap.size + 1) #[.string s2, .slice (some ⟨vb, 0, none⟩) 1 1] := by rw [e1]; (repeat (first | ((with_reducible refine Blk.at_ ?_); focus (first | rfl | (simp; done) | (simp; omega))) | (with_reducible refine Blk.alloc ?_ _) | (with_reducible refine Blk.below ?_ (by with_reducible assumption)) | (with_reducible refine Blk.drew ?_)))
  have HB1 := Lib.hid h1
  have HK2 := Lib.hid K2
  have HK3 := Lib.hid K3
  have HA1 := Lib.hid (HA.out.below h1)
  have HBB1 := Lib.hid (HB.out.below h1)
  obtain ⟨a0, a1, al, af⟩ := K2.o2
  clear e1 h1 K2 K3
  go_loopw [5, 11] (fun s z wr => ∃ k : Nat, k ≤ 1 ∧ z = (.int .i64 ((k : Int))) ∧ s = (.int .i64 (if k = 0 then 0 else D)) ∧ Below w1.heap.size w1 wr) (fun _ z _ => 1 - (intOf z).toNat)
  case atStart => exact ⟨0, by omega, rfl, rfl, Below.refl _ _⟩
  case round =>
    obtain ⟨k, hk, rfl, rfl, hb⟩ := hrel
    have HBR := Lib.hid hb
    have hzr := hb.size
    have qa := HA1.out.below hb
    have qb := HBB1.out.below hb
    have q3 := HK3.out.below hb
    clear hb a0 a1 al af
    rcases (by omega : k = 0 ∨ k = 1) with rfl | rfl
    · have ek : ((0 : Nat) : Int) = 0 := rfl
      rw [ek, if_pos rfl]
      obtain ⟨x0, xl, xf⟩ := qa.o1
      obtain ⟨y0, yl, yf⟩ := qb.o1
      obtain ⟨b0, b1, bl, bf⟩ := q3.o2
      clear qa qb q3
      go_wp2
      refine Rel.region3 16 (by kernel_rfl) (by kernel_rfl) (by kernel_rfl) ?_
      simp only [List.take_succ_cons, List.take_zero, List.drop_succ_cons, List.drop_zero, List.filterMap_cons, List.filterMap_nil]
      repeat (apply Rel.op3; (focus (first | exact Rel.gno rfl | exact Rel.gyes _ true _ rfl rfl rfl | exact Rel.gyes _ false _ rfl rfl rfl)); (focus (intro a W hb hd hbase; obtain ⟨hc, hf⟩ := bcell hb; clear hb hf; simp [Rel.deps, Rel.dep1, Rel.ons, Region.binds, Act.eval] at hd; simp only [Act.eval, List.mem_cons, List.not_mem_nil, not_or, and_imp, or_false, Array.getD_eq_getD_getElem?] at hbase; go_simp; (try go_bits); (try rfl); done)); (try simp only [List.nil_append, List.cons_append]))
      refine Rel.done3 ?_
      intro x w2 hb2 hx
      simp only [Rel.facts, Nat.zero_add, Nat.reduceAdd] at hx
      obtain ⟨e0, e1, e2, e3, e4, e5, e6, e7, e8, e9, e10, e11, e12, e13, e14, e15, _⟩ := hx
      simp only [Rel.fill, Nat.zero_add, Nat.reduceAdd, e0, e1, e2, e3, e4, e5, e6, e7, e8, e9, e10, e11, e12, e13, e14, e15]
      simp only [Act.put, List.setIfInBounds_toArray, List.set_cons_zero, List.set_cons_succ]
      clear e0 e1 e2 e3 e4 e5 e6 e7 e8 e9 e10 e11 e12 e13 e14 e15
      have HB2 := Lib.hid (HBR.out.trans (hb2.mono hzr))
      clear hb2 x0 xl xf y0 yl yf b0 b1 bl bf
      go_wp2
      go_roundw
      case rel => exact ⟨1, by omega, by go_num, by simp, HB2.out⟩
      case measure => simp [intOf]
    · clear qa qb q3
      go_wp2
      go_ret
      exact ⟨by first | rfl | (simp; done), HB1.out.trans (HBR.out.mono HB1.out.size)⟩
/-- pairs of the four units that the search looks at, and their differences. -/
def okP (p : Nat × Nat) : Prop := p = (0, 1) ∨ p = (2, 3) ∨ p = (0, 2) ∨ p = (1, 3) ∨ p = (0, 3) ∨ p = (1, 2)
def dV (p : Nat × Nat) : Int := if p = (0, 1) then 4 else if p = (2, 3) then 2 else if p = (0, 2) then 1 else if p = (1, 3) then 1 else 3
set_option maxRecDepth 100000 in
set_option maxHeartbeats 8000000 in
theorem worst1_any (p : Nat × Nat) (hp : okP p) (bx ub v0 v1 v2 v3 : Nat) (w : World) (hU : US w ub v0 v1 v2 v3) (hx : Blk w bx #[.slice (some ⟨ub, 0, none⟩) 4 4]) :
    Calls Try.prog 110 #[.agg #[(.int .i64 ((p.1 : Int))), (.int .i64 ((p.2 : Int)))], .pointer (some ⟨bx, 0, none⟩)] w fun r w' => r = .returned (.int .i64 (dV p)) ∧ Below w.heap.size w w' := by
  have HDI := Lib.hid (fun s1 s2 va vb x y W q1 q2 q3 q4 => difference_any s1 s2 va vb x y W q1 q2 q3 q4)
  have HU := Lib.hid hU
  have HX := Lib.hid hx
  clear hU hx
  rcases hp with rfl | rfl | rfl | rfl | rfl | rfl
  · show Calls Try.prog 110 #[.agg #[(.int .i64 0), (.int .i64 1)], .pointer (some ⟨bx, 0, none⟩)] w fun r w' => r = .returned (.int .i64 4) ∧ Below w.heap.size w w'
    go_enter Try.func110, Try.ntmps110
    go_wp2
    refine name_world ?_
    intro w1 e1
    have h1 : Below w.heap.size w w1 := by rw [e1]; exact bel
    have K2 : Blk w1 w.heap.size #[(.int .i64 0), (.int .i64 1)] := by rw [e1]; (repeat (first | ((with_reducible refine Blk.at_ ?_); focus (first | rfl | (simp; done) | (simp; omega))) | (with_reducible refine Blk.alloc ?_ _) | (with_reducible refine Blk.below ?_ (by with_reducible assumption)) | (with_reducible refine Blk.drew ?_)))
    have HB1 := Lib.hid h1
    have hus := HU.out.below h1
    have kx := HX.out.below h1
    have HU1 := Lib.hid hus
    obtain ⟨a0, a1, a2, a3, a4, a5, a6, a7, al⟩ := hus.cells
    obtain ⟨p0, p1, pl, pf⟩ := K2.o2
    obtain ⟨x0, xl, xf⟩ := kx.o1
    clear e1 h1 hus kx K2
    refine Rel.region3 10 (by kernel_rfl) (by kernel_rfl) (by kernel_rfl) ?_
    simp only [List.take_succ_cons, List.take_zero, List.drop_succ_cons, List.drop_zero, List.filterMap_cons, List.filterMap_nil]
    repeat (apply Rel.op3; (focus (first | exact Rel.gno rfl | exact Rel.gyes _ true _ rfl rfl rfl | exact Rel.gyes _ false _ rfl rfl rfl)); (focus (intro a W hb hd hbase; obtain ⟨hc, hf⟩ := bcell hb; clear hb hf; simp [Rel.deps, Rel.dep1, Rel.ons, Region.binds, Act.eval] at hd; simp only [Act.eval, List.mem_cons, List.not_mem_nil, not_or, and_imp, or_false, Array.getD_eq_getD_getElem?] at hbase; go_simp; (try go_bits); (try rfl); done)); (try simp only [List.nil_append, List.cons_append]))
    refine Rel.done3 ?_
    intro x w2 hb2 hx
    simp only [Rel.facts, Nat.zero_add, Nat.reduceAdd] at hx
    obtain ⟨e0, e1, e2, e3, e4, e5, e6, e7, e8, e9, _⟩ := hx
    simp only [Rel.fill, Nat.zero_add, Nat.reduceAdd, e0, e1, e2, e3, e4, e5, e6, e7, e8, e9]
    simp only [Act.put, List.setIfInBounds_toArray, List.set_cons_zero, List.set_cons_succ]
    clear e0 e1 e2 e3 e4 e5 e6 e7 e8 e9
    have HU2 := Lib.hid (HU1.out.below hb2)
    have HB2 := Lib.hid (HB1.out.trans (hb2.mono HB1.out.size))
    clear hb2 a0 a1 a2 a3 a4 a5 a6 a7 al p0 p1 pl pf x0 xl xf
    go_wp2_with (go_at_call 111; refine (HDI.out _ _ v0 v1 5 1 _ (by decide) (by decide) HU2.out.k0 HU2.out.k1).mono ?_; rintro r w3 ⟨rfl, h3⟩; refine Hid.out ?_)
    unfold Hid
    have HB3 := Lib.hid (HB2.out.trans (h3.mono HB2.out.size))
    clear h3
    go_wp2
    go_ret
    exact ⟨by first | rfl | (simp [diffV, mx]; done), HB3.out⟩
  · show Calls Try.prog 110 #[.agg #[(.int .i64 2), (.int .i64 3)], .pointer (some ⟨bx, 0, none⟩)] w fun r w' => r = .returned (.int .i64 2) ∧ Below w.heap.size w w'
    go_enter Try.func110, Try.ntmps110
    go_wp2
    refine name_world ?_
    intro w1 e1
    have h1 : Below w.heap.size w w1 := by rw [e1]; exact bel
    have K2 : Blk w1 w.heap.size #[(.int .i64 2), (.int .i64 3)] := by rw [e1]; (repeat (first | ((with_reducible refine Blk.at_ ?_); focus (first | rfl | (simp; done) | (simp; omega))) | (with_reducible refine Blk.alloc ?_ _) | (with_reducible refine Blk.below ?_ (by with_reducible assumption)) | (with_reducible refine Blk.drew ?_)))
    have HB1 := Lib.hid h1
    have hus := HU.out.below h1
    have kx := HX.out.below h1
    have HU1 := Lib.hid hus
    obtain ⟨a0, a1, a2, a3, a4, a5, a6, a7, al⟩ := hus.cells
    obtain ⟨p0, p1, pl, pf⟩ := K2.o2
    obtain ⟨x0, xl, xf⟩ := kx.o1
    clear e1 h1 hus kx K2
    refine Rel.region3 10 (by kernel_rfl) (by kernel_rfl) (by kernel_rfl) ?_
    simp only [List.take_succ_cons, List.take_zero, List.drop_succ_cons, List.drop_zero, List.filterMap_cons, List.filterMap_nil]
    repeat (apply Rel.op3; (focus (first | exact Rel.gno rfl | exact Rel.gyes _ true _ rfl rfl rfl | exact Rel.gyes _ false _ rfl rfl rfl)); (focus (intro a W hb hd hbase; obtain ⟨hc, hf⟩ := bcell hb; clear hb hf; simp [Rel.deps, Rel.dep1, Rel.ons, Region.binds, Act.eval] at hd; simp only [Act.eval, List.mem_cons, List.not_mem_nil, not_or, and_imp, or_false, Array.getD_eq_getD_getElem?] at hbase; go_simp; (try go_bits); (try rfl); done)); (try simp only [List.nil_append, List.cons_append]))
    refine Rel.done3 ?_
    intro x w2 hb2 hx
    simp only [Rel.facts, Nat.zero_add, Nat.reduceAdd] at hx
    obtain ⟨e0, e1, e2, e3, e4, e5, e6, e7, e8, e9, _⟩ := hx
    simp only [Rel.fill, Nat.zero_add, Nat.reduceAdd, e0, e1, e2, e3, e4, e5, e6, e7, e8, e9]
    simp only [Act.put, List.setIfInBounds_toArray, List.set_cons_zero, List.set_cons_succ]
    clear e0 e1 e2 e3 e4 e5 e6 e7 e8 e9
    have HU2 := Lib.hid (HU1.out.below hb2)
    have HB2 := Lib.hid (HB1.out.trans (hb2.mono HB1.out.size))
    clear hb2 a0 a1 a2 a3 a4 a5 a6 a7 al p0 p1 pl pf x0 xl xf
    go_wp2_with (go_at_call 111; refine (HDI.out _ _ v2 v3 4 2 _ (by decide) (by decide) HU2.out.k2 HU2.out.k3).mono ?_; rintro r w3 ⟨rfl, h3⟩; refine Hid.out ?_)
    unfold Hid
    have HB3 := Lib.hid (HB2.out.trans (h3.mono HB2.out.size))
    clear h3
    go_wp2
    go_ret
    exact ⟨by first | rfl | (simp [diffV, mx]; done), HB3.out⟩
  · show Calls Try.prog 110 #[.agg #[(.int .i64 0), (.int .i64 2)], .pointer (some ⟨bx, 0, none⟩)] w fun r w' => r = .returned (.int .i64 1) ∧ Below w.heap.size w w'
    go_enter Try.func110, Try.ntmps110
    go_wp2
    refine name_world ?_
    intro w1 e1
    have h1 : Below w.heap.size w w1 := by rw [e1]; exact bel
    have K2 : Blk w1 w.heap.size #[(.int .i64 0), (.int .i64 2)] := by rw [e1]; (repeat (first | ((with_reducible refine Blk.at_ ?_); focus (first | rfl | (simp; done) | (simp; omega))) | (with_reducible refine Blk.alloc ?_ _) | (with_reducible refine Blk.below ?_ (by with_reducible assumption)) | (with_reducible refine Blk.drew ?_)))
    have HB1 := Lib.hid h1
    have hus := HU.out.below h1
    have kx := HX.out.below h1
    have HU1 := Lib.hid hus
    obtain ⟨a0, a1, a2, a3, a4, a5, a6, a7, al⟩ := hus.cells
    obtain ⟨p0, p1, pl, pf⟩ := K2.o2
    obtain ⟨x0, xl, xf⟩ := kx.o1
    clear e1 h1 hus kx K2
    refine Rel.region3 10 (by kernel_rfl) (by kernel_rfl) (by kernel_rfl) ?_
    simp only [List.take_succ_cons, List.take_zero, List.drop_succ_cons, List.drop_zero, List.filterMap_cons, List.filterMap_nil]
    repeat (apply Rel.op3; (focus (first | exact Rel.gno rfl | exact Rel.gyes _ true _ rfl rfl rfl | exact Rel.gyes _ false _ rfl rfl rfl)); (focus (intro a W hb hd hbase; obtain ⟨hc, hf⟩ := bcell hb; clear hb hf; simp [Rel.deps, Rel.dep1, Rel.ons, Region.binds, Act.eval] at hd; simp only [Act.eval, List.mem_cons, List.not_mem_nil, not_or, and_imp, or_false, Array.getD_eq_getD_getElem?] at hbase; go_simp; (try go_bits); (try rfl); done)); (try simp only [List.nil_append, List.cons_append]))
    refine Rel.done3 ?_
    intro x w2 hb2 hx
    simp only [Rel.facts, Nat.zero_add, Nat.reduceAdd] at hx
    obtain ⟨e0, e1, e2, e3, e4, e5, e6, e7, e8, e9, _⟩ := hx
    simp only [Rel.fill, Nat.zero_add, Nat.reduceAdd, e0, e1, e2, e3, e4, e5, e6, e7, e8, e9]
    simp only [Act.put, List.setIfInBounds_toArray, List.set_cons_zero, List.set_cons_succ]
    clear e0 e1 e2 e3 e4 e5 e6 e7 e8 e9
    have HU2 := Lib.hid (HU1.out.below hb2)
    have HB2 := Lib.hid (HB1.out.trans (hb2.mono HB1.out.size))
    clear hb2 a0 a1 a2 a3 a4 a5 a6 a7 al p0 p1 pl pf x0 xl xf
    go_wp2_with (go_at_call 111; refine (HDI.out _ _ v0 v2 5 4 _ (by decide) (by decide) HU2.out.k0 HU2.out.k2).mono ?_; rintro r w3 ⟨rfl, h3⟩; refine Hid.out ?_)
    unfold Hid
    have HB3 := Lib.hid (HB2.out.trans (h3.mono HB2.out.size))
    clear h3
    go_wp2
    go_ret
    exact ⟨by first | rfl | (simp [diffV, mx]; done), HB3.out⟩
  · show Calls Try.prog 110 #[.agg #[(.int .i64 1), (.int .i64 3)], .pointer (some ⟨bx, 0, none⟩)] w fun r w' => r = .returned (.int .i64 1) ∧ Below w.heap.size w w'
    go_enter Try.func110, Try.ntmps110
    go_wp2
    refine name_world ?_
    intro w1 e1
    have h1 : Below w.heap.size w w1 := by rw [e1]; exact bel
    have K2 : Blk w1 w.heap.size #[(.int .i64 1), (.int .i64 3)] := by rw [e1]; (repeat (first | ((with_reducible refine Blk.at_ ?_); focus (first | rfl | (simp; done) | (simp; omega))) | (with_reducible refine Blk.alloc ?_ _) | (with_reducible refine Blk.below ?_ (by with_reducible assumption)) | (with_reducible refine Blk.drew ?_)))
    have HB1 := Lib.hid h1
    have hus := HU.out.below h1
    have kx := HX.out.below h1
    have HU1 := Lib.hid hus
    obtain ⟨a0, a1, a2, a3, a4, a5, a6, a7, al⟩ := hus.cells
    obtain ⟨p0, p1, pl, pf⟩ := K2.o2
    obtain ⟨x0, xl, xf⟩ := kx.o1
    clear e1 h1 hus kx K2
    refine Rel.region3 10 (by kernel_rfl) (by kernel_rfl) (by kernel_rfl) ?_
    simp only [List.take_succ_cons, List.take_zero, List.drop_succ_cons, List.drop_zero, List.filterMap_cons, List.filterMap_nil]
    repeat (apply Rel.op3; (focus (first | exact Rel.gno rfl | exact Rel.gyes _ true _ rfl rfl rfl | exact Rel.gyes _ false _ rfl rfl rfl)); (focus (intro a W hb hd hbase; obtain ⟨hc, hf⟩ := bcell hb; clear hb hf; simp [Rel.deps, Rel.dep1, Rel.ons, Region.binds, Act.eval] at hd; simp only [Act.eval, List.mem_cons, List.not_mem_nil, not_or, and_imp, or_false, Array.getD_eq_getD_getElem?] at hbase; go_simp; (try go_bits); (try rfl); done)); (try simp only [List.nil_append, List.cons_append]))
    refine Rel.done3 ?_
    intro x w2 hb2 hx
    simp only [Rel.facts, Nat.zero_add, Nat.reduceAdd] at hx
    obtain ⟨e0, e1, e2, e3, e4, e5, e6, e7, e8, e9, _⟩ := hx
    simp only [Rel.fill, Nat.zero_add, Nat.reduceAdd, e0, e1, e2, e3, e4, e5, e6, e7, e8, e9]
    simp only [Act.put, List.setIfInBounds_toArray, List.set_cons_zero, List.set_cons_succ]
    clear e0 e1 e2 e3 e4 e5 e6 e7 e8 e9
    have HU2 := Lib.hid (HU1.out.below hb2)
    have HB2 := Lib.hid (HB1.out.trans (hb2.mono HB1.out.size))
    clear hb2 a0 a1 a2 a3 a4 a5 a6 a7 al p0 p1 pl pf x0 xl xf
    go_wp2_with (go_at_call 111; refine (HDI.out _ _ v1 v3 1 2 _ (by decide) (by decide) HU2.out.k1 HU2.out.k3).mono ?_; rintro r w3 ⟨rfl, h3⟩; refine Hid.out ?_)
    unfold Hid
    have HB3 := Lib.hid (HB2.out.trans (h3.mono HB2.out.size))
    clear h3
    go_wp2
    go_ret
    exact ⟨by first | rfl | (simp [diffV, mx]; done), HB3.out⟩
  · show Calls Try.prog 110 #[.agg #[(.int .i64 0), (.int .i64 3)], .pointer (some ⟨bx, 0, none⟩)] w fun r w' => r = .returned (.int .i64 3) ∧ Below w.heap.size w w'
    go_enter Try.func110, Try.ntmps110
    go_wp2
    refine name_world ?_
    intro w1 e1
    have h1 : Below w.heap.size w w1 := by rw [e1]; exact bel
    have K2 : Blk w1 w.heap.size #[(.int .i64 0), (.int .i64 3)] := by rw [e1]; (repeat (first | ((with_reducible refine Blk.at_ ?_); focus (first | rfl | (simp; done) | (simp; omega))) | (with_reducible refine Blk.alloc ?_ _) | (with_reducible refine Blk.below ?_ (by with_reducible assumption)) | (with_reducible refine Blk.drew ?_)))
    have HB1 := Lib.hid h1
    have hus := HU.out.below h1
    have kx := HX.out.below h1
    have HU1 := Lib.hid hus
    obtain ⟨a0, a1, a2, a3, a4, a5, a6, a7, al⟩ := hus.cells
    obtain ⟨p0, p1, pl, pf⟩ := K2.o2
    obtain ⟨x0, xl, xf⟩ := kx.o1
    clear e1 h1 hus kx K2
    refine Rel.region3 10 (by kernel_rfl) (by kernel_rfl) (by kernel_rfl) ?_
    simp only [List.take_succ_cons, List.take_zero, List.drop_succ_cons, List.drop_zero, List.filterMap_cons, List.filterMap_nil]
    repeat (apply Rel.op3; (focus (first | exact Rel.gno rfl | exact Rel.gyes _ true _ rfl rfl rfl | exact Rel.gyes _ false _ rfl rfl rfl)); (focus (intro a W hb hd hbase; obtain ⟨hc, hf⟩ := bcell hb; clear hb hf; simp [Rel.deps, Rel.dep1, Rel.ons, Region.binds, Act.eval] at hd; simp only [Act.eval, List.mem_cons, List.not_mem_nil, not_or, and_imp, or_false, Array.getD_eq_getD_getElem?] at hbase; go_simp; (try go_bits); (try rfl); done)); (try simp only [List.nil_append, List.cons_append]))
    refine Rel.done3 ?_
    intro x w2 hb2 hx
    simp only [Rel.facts, Nat.zero_add, Nat.reduceAdd] at hx
    obtain ⟨e0, e1, e2, e3, e4, e5, e6, e7, e8, e9, _⟩ := hx
    simp only [Rel.fill, Nat.zero_add, Nat.reduceAdd, e0, e1, e2, e3, e4, e5, e6, e7, e8, e9]
    simp only [Act.put, List.setIfInBounds_toArray, List.set_cons_zero, List.set_cons_succ]
    clear e0 e1 e2 e3 e4 e5 e6 e7 e8 e9
    have HU2 := Lib.hid (HU1.out.below hb2)
    have HB2 := Lib.hid (HB1.out.trans (hb2.mono HB1.out.size))
    clear hb2 a0 a1 a2 a3 a4 a5 a6 a7 al p0 p1 pl pf x0 xl xf
    go_wp2_with (go_at_call 111; refine (HDI.out _ _ v0 v3 5 2 _ (by decide) (by decide) HU2.out.k0 HU2.out.k3).mono ?_; rintro r w3 ⟨rfl, h3⟩; refine Hid.out ?_)
    unfold Hid
    have HB3 := Lib.hid (HB2.out.trans (h3.mono HB2.out.size))
    clear h3
    go_wp2
    go_ret
    exact ⟨by first | rfl | (simp [diffV, mx]; done), HB3.out⟩
  · show Calls Try.prog 110 #[.agg #[(.int .i64 1), (.int .i64 2)], .pointer (some ⟨bx, 0, none⟩)] w fun r w' => r = .returned (.int .i64 3) ∧ Below w.heap.size w w'
    go_enter Try.func110, Try.ntmps110
    go_wp2
    refine name_world ?_
    intro w1 e1
    have h1 : Below w.heap.size w w1 := by rw [e1]; exact bel
    have K2 : Blk w1 w.heap.size #[(.int .i64 1), (.int .i64 2)] := by rw [e1]; (repeat (first | ((with_reducible refine Blk.at_ ?_); focus (first | rfl | (simp; done) | (simp; omega))) | (with_reducible refine Blk.alloc ?_ _) | (with_reducible refine Blk.below ?_ (by with_reducible assumption)) | (with_reducible refine Blk.drew ?_)))
    have HB1 := Lib.hid h1
    have hus := HU.out.below h1
    have kx := HX.out.below h1
    have HU1 := Lib.hid hus
    obtain ⟨a0, a1, a2, a3, a4, a5, a6, a7, al⟩ := hus.cells
    obtain ⟨p0, p1, pl, pf⟩ := K2.o2
    obtain ⟨x0, xl, xf⟩ := kx.o1
    clear e1 h1 hus kx K2
    refine Rel.region3 10 (by kernel_rfl) (by kernel_rfl) (by kernel_rfl) ?_
    simp only [List.take_succ_cons, List.take_zero, List.drop_succ_cons, List.drop_zero, List.filterMap_cons, List.filterMap_nil]
    repeat (apply Rel.op3; (focus (first | exact Rel.gno rfl | exact Rel.gyes _ true _ rfl rfl rfl | exact Rel.gyes _ false _ rfl rfl rfl)); (focus (intro a W hb hd hbase; obtain ⟨hc, hf⟩ := bcell hb; clear hb hf; simp [Rel.deps, Rel.dep1, Rel.ons, Region.binds, Act.eval] at hd; simp only [Act.eval, List.mem_cons, List.not_mem_nil, not_or, and_imp, or_false, Array.getD_eq_getD_getElem?] at hbase; go_simp; (try go_bits); (try rfl); done)); (try simp only [List.nil_append, List.cons_append]))
    refine Rel.done3 ?_
    intro x w2 hb2 hx
    simp only [Rel.facts, Nat.zero_add, Nat.reduceAdd] at hx
    obtain ⟨e0, e1, e2, e3, e4, e5, e6, e7, e8, e9, _⟩ := hx
    simp only [Rel.fill, Nat.zero_add, Nat.reduceAdd, e0, e1, e2, e3, e4, e5, e6, e7, e8, e9]
    simp only [Act.put, List.setIfInBounds_toArray, List.set_cons_zero, List.set_cons_succ]
    clear e0 e1 e2 e3 e4 e5 e6 e7 e8 e9
    have HU2 := Lib.hid (HU1.out.below hb2)
    have HB2 := Lib.hid (HB1.out.trans (hb2.mono HB1.out.size))
    clear hb2 a0 a1 a2 a3 a4 a5 a6 a7 al p0 p1 pl pf x0 xl xf
    go_wp2_with (go_at_call 111; refine (HDI.out _ _ v1 v2 1 4 _ (by decide) (by decide) HU2.out.k1 HU2.out.k2).mono ?_; rintro r w3 ⟨rfl, h3⟩; refine Hid.out ?_)
    unfold Hid
    have HB3 := Lib.hid (HB2.out.trans (h3.mono HB2.out.size))
    clear h3
    go_wp2
    go_ret
    exact ⟨by first | rfl | (simp [diffV, mx]; done), HB3.out⟩
end Go.Proofs.Ytamldoidalnloaa
