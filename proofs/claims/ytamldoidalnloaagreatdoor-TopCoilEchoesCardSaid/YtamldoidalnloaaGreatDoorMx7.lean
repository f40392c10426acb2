/- Part 7 of the texts of the claim: Ti4, Ti5, Ti6, Ti7, Ti8. -/
import Derived.Test.YtamldoidalnloaaGreatDoorMx6
import Derived.Laws.RangeAny

/- signal: Append. -/
namespace Go.Proofs.YtamldoidalnloaaGreatDoor
open Go.RowKit
open Calm (bcell Blk)
set_option maxRecDepth 100000 in
set_option maxHeartbeats 4000000 in
theorem append_ok (nm : ByteArray) (rate : Int) (l m : List Int) (A B : Option Addr) (c cb N M : Nat) (w : World) (hnm : NmOk nm) (hr : 1 ≤ rate ∧ rate ≤ 192000) (hN : N = l.length) (hM : M = m.length) (hn5 : N + M ≤ 4096) (hl : okR l) (hm : okR m) (hC : EC encR w A l) (hD : EC encR w B m) :
    Calls Tryz.prog 9 #[.agg #[.string nm, (.int .i64 rate), .slice A N c], .agg #[.string nm, (.int .i64 rate), .slice B M cb]] w fun r w' => (∃ B d, r = .returned (.tuple #[.agg #[.string nm, (.int .i64 rate), .slice B (N + M) d], (.int .i64 0)]) ∧ EC encF w' B (l.map vzR ++ m.map vzR) ∧ ∀ p, B = some p → w.heap.size ≤ p.block) ∧ Below w.heap.size w w' := by
  have HCA : Hid (∀ W, EC encR W A l → Calls Tryz.prog 25 #[.agg #[.string nm, (.int .i64 rate), .slice A N c]] W fun r w' => r = .returned (.int .i64 0) ∧ Below W.heap.size W w') := Lib.hid (fun W q => checkRecord_raw xbR vzR nm rate l A c N W hnm hr hN (by omega) hl.raw q)
  have HCB : Hid (∀ W, EC encR W B m → Calls Tryz.prog 25 #[.agg #[.string nm, (.int .i64 rate), .slice B M cb]] W fun r w' => r = .returned (.int .i64 0) ∧ Below W.heap.size W w') := Lib.hid (fun W q => checkRecord_raw xbR vzR nm rate m B cb M W hnm hr hM (by omega) hm.raw q)
  have HWH := Lib.hid gWhen_no
  have HF4 : Hid (∀ (W : World), Calls Tryz.prog 24 #[.slice (some ⟨W.heap.size, 0, none⟩) 4 4] (W.alloc (.cells #[(.int .i64 0), (.int .i64 0), (.int .i64 0), (.int .i64 0)] 31)) fun r w' => r = .returned (.int .i64 0) ∧ (W.alloc (.cells #[(.int .i64 0), (.int .i64 0), (.int .i64 0), (.int .i64 0)] 31)) = w') := Lib.hid (fun W => gFirst_cells [0, 0, 0, 0] W (by simp))
  have HJ : Hid (∀ W, EC encR W A l → EC encR W B m → Calls Tryz.prog 29 #[.slice A N c, .slice B M cb] W fun r w' => ∃ v, r = .returned v ∧ SlE W.heap.size (N + M) encR (l ++ m) v w' ∧ Below W.heap.size W w') := Lib.hid (fun W q1 q2 => joined_R _ _ A B c cb N M W hN hM (by omega) (by omega) q1 q2)
  obtain ⟨L, hL⟩ : ∃ L, L = N + M := ⟨_, rfl⟩
  have HW : Hid (∀ W B d, EC encR W B (l ++ m) → Calls Tryz.prog 28 #[.agg #[.string nm, (.int .i64 rate), .slice A N c], .slice B L d] W fun r w' => (∃ B d, r = .returned (.agg #[.string nm, (.int .i64 rate), .slice B L d]) ∧ EC encF w' B (l.map vzR ++ m.map vzR) ∧ ∀ p, B = some p → W.heap.size ≤ p.block) ∧ Below W.heap.size W w') := Lib.hid (fun W B d q => by
    have := with_raw xbR vzR nm rate (l ++ m) B A d L N c W (by rw [hL, hN, hM]; simp) (by omega) (hl.app hm).raw q
    rwa [List.map_append] at this)
  rw [← hL] at HJ ⊢
  have HC := Lib.hid (And.intro hC hD)
  have hNn : (N : Int) + (M : Int) = (L : Int) := by omega
  have hgt : decide ((4096 : Int) < (L : Int)) = false := decide_eq_false (by omega)
  have hLL : (L : Int) ≤ 4096 := by omega
  clear hnm hN hl hC hr hL hn5 hM hm hD
  go_enter Tryz.func9, Tryz.ntmps9
  go_wp2
  refine name_world ?_
  intro w1 e1
  have K0 : Blk w1 w.heap.size #[.string nm, (.int .i64 rate), .slice A N c] := by rw [e1]; (repeat (first | ((with_reducible refine Blk.at_ ?_); focus (first | rfl | (simp; done) | (simp; omega))) | (with_reducible refine Blk.alloc ?_ _) | (with_reducible refine Blk.below ?_ (by with_reducible assumption)) | (with_reducible refine Blk.drew ?_)))
  have K2 : Blk w1 (w.heap.size + 1) #[.string nm, (.int .i64 rate), .slice B M cb] := by rw [e1]; (repeat (first | ((with_reducible refine Blk.at_ ?_); focus (first | rfl | (simp; done) | (simp; omega))) | (with_reducible refine Blk.alloc ?_ _) | (with_reducible refine Blk.below ?_ (by with_reducible assumption)) | (with_reducible refine Blk.drew ?_)))
  have K1 : Blk w1 (w.heap.size + 2) #[.string ⟨#[]⟩, (.int .i64 0), .slice none 0 0] := by rw [e1]; (repeat (first | ((with_reducible refine Blk.at_ ?_); focus (first | rfl | (simp; done) | (simp; omega))) | (with_reducible refine Blk.alloc ?_ _) | (with_reducible refine Blk.below ?_ (by with_reducible assumption)) | (with_reducible refine Blk.drew ?_)))
  have HB1 := Lib.hid (show Below w.heap.size w w1 by rw [e1]; exact bel)
  have HK0 := Lib.hid K0
  have HK1 := Lib.hid K1
  have HK2 := Lib.hid K2
  obtain ⟨a0, a1, a2, al, af⟩ := K0.o3
  obtain ⟨c0, c1, c2, cl, cf⟩ := K2.o3
  clear e1 K0 K1 K2
  refine Rel.region3 15 (by kernel_rfl) (by kernel_rfl) (by kernel_rfl) ?_
  simp only [List.take_succ_cons, List.take_zero, List.drop_succ_cons, List.drop_zero, List.filterMap_cons, List.filterMap_nil]
  iterate 1 (apply Rel.op3; (focus (first | exact Rel.gno rfl | exact Rel.gyes _ true _ rfl rfl rfl | exact Rel.gyes _ false _ rfl rfl rfl)); (focus (intro a W hb hd hbase; obtain ⟨hc, hf⟩ := bcell hb; clear hb hf; simp [Rel.deps, Rel.dep1, Rel.ons, Region.binds, Act.eval] at hd; simp only [Act.eval, List.mem_cons, List.not_mem_nil, not_or, and_imp, or_false, Array.getD_eq_getD_getElem?] at hbase; go_simp; (try go_bits); (try rfl); done)); (try simp only [List.nil_append, List.cons_append]))
  (apply Rel.call3; (focus (first | exact Rel.gno rfl | exact Rel.gyes _ true _ rfl rfl rfl | exact Rel.gyes _ false _ rfl rfl rfl)); (focus (intro a W hb hd hbase; obtain ⟨hc, hf⟩ := bcell hb; clear hb hf; simp [Rel.deps, Rel.dep1, Rel.ons, Region.binds, Act.eval] at hd; simp only [Act.eval, List.mem_cons, List.not_mem_nil, not_or, and_imp, or_false, Array.getD_eq_getD_getElem?] at hbase; go_simp; refine ⟨?_, ?_⟩; rfl; rfl)); (focus (intro W hb; go_at_call 25; exact HCA.out W ((HC.out.1.below HB1.out).below hb))); (try simp only [List.nil_append, List.cons_append]))
  iterate 1 (apply Rel.op3; (focus (first | exact Rel.gno rfl | exact Rel.gyes _ true _ rfl rfl rfl | exact Rel.gyes _ false _ rfl rfl rfl)); (focus (intro a W hb hd hbase; obtain ⟨hc, hf⟩ := bcell hb; clear hb hf; simp [Rel.deps, Rel.dep1, Rel.ons, Region.binds, Act.eval] at hd; simp only [Act.eval, List.mem_cons, List.not_mem_nil, not_or, and_imp, or_false, Array.getD_eq_getD_getElem?] at hbase; go_simp; (try go_bits); (try rfl); done)); (try simp only [List.nil_append, List.cons_append]))
  (apply Rel.call3; (focus (first | exact Rel.gno rfl | exact Rel.gyes _ true _ rfl rfl rfl | exact Rel.gyes _ false _ rfl rfl rfl)); (focus (intro a W hb hd hbase; obtain ⟨hc, hf⟩ := bcell hb; clear hb hf; simp [Rel.deps, Rel.dep1, Rel.ons, Region.binds, Act.eval] at hd; simp only [Act.eval, List.mem_cons, List.not_mem_nil, not_or, and_imp, or_false, Array.getD_eq_getD_getElem?] at hbase; go_simp; refine ⟨?_, ?_⟩; rfl; rfl)); (focus (intro W hb; go_at_call 25; exact HCB.out W ((HC.out.2.below HB1.out).below hb))); (try simp only [List.nil_append, List.cons_append]))
  iterate 1 (apply Rel.op3; (focus (first | exact Rel.gno rfl | exact Rel.gyes _ true _ rfl rfl rfl | exact Rel.gyes _ false _ rfl rfl rfl)); (focus (intro a W hb hd hbase; obtain ⟨hc, hf⟩ := bcell hb; clear hb hf; simp [Rel.deps, Rel.dep1, Rel.ons, Region.binds, Act.eval] at hd; simp only [Act.eval, List.mem_cons, List.not_mem_nil, not_or, and_imp, or_false, Array.getD_eq_getD_getElem?] at hbase; go_simp; (try go_bits); (try rfl); done)); (try simp only [List.nil_append, List.cons_append]))
  (apply Rel.call3; (focus (first | exact Rel.gno rfl | exact Rel.gyes _ true _ rfl rfl rfl | exact Rel.gyes _ false _ rfl rfl rfl)); (focus (intro a W hb hd hbase; obtain ⟨hc, hf⟩ := bcell hb; clear hb hf; simp [Rel.deps, Rel.dep1, Rel.ons, Region.binds, Act.eval] at hd; simp only [Act.eval, List.mem_cons, List.not_mem_nil, not_or, and_imp, or_false, Array.getD_eq_getD_getElem?] at hbase; go_simp; refine ⟨?_, ?_⟩; rfl; rfl)); (focus (intro W hb; go_at_call 27; exact HWH.out 30 W)); (try simp only [List.nil_append, List.cons_append]))
  iterate 7 (apply Rel.op3; (focus (first | exact Rel.gno rfl | exact Rel.gyes _ true _ rfl rfl rfl | exact Rel.gyes _ false _ rfl rfl rfl)); (focus (intro a W hb hd hbase; obtain ⟨hc, hf⟩ := bcell hb; clear hb hf; simp [Rel.deps, Rel.dep1, Rel.ons, Region.binds, Act.eval] at hd; simp only [Act.eval, List.mem_cons, List.not_mem_nil, not_or, and_imp, or_false, Array.getD_eq_getD_getElem?] at hbase; go_simp; (try go_bits); (try rfl); done)); (try simp only [List.nil_append, List.cons_append]))
  (apply Rel.op3 (.bool false); (focus (first | exact Rel.gno rfl | exact Rel.gyes _ true _ rfl rfl rfl | exact Rel.gyes _ false _ rfl rfl rfl)); (focus (intro a W hb hd hbase; obtain ⟨hc, hf⟩ := bcell hb; clear hb hf; simp [Rel.deps, Rel.dep1, Rel.ons, Region.binds, Act.eval] at hd; simp only [Act.eval, List.mem_cons, List.not_mem_nil, not_or, and_imp, or_false, Array.getD_eq_getD_getElem?] at hbase; go_simp; (try go_bits); (try rfl); done)); (try simp only [List.nil_append, List.cons_append]))
  (apply Rel.call3; (focus (first | exact Rel.gno rfl | exact Rel.gyes _ true _ rfl rfl rfl | exact Rel.gyes _ false _ rfl rfl rfl)); (focus (intro a W hb hd hbase; obtain ⟨hc, hf⟩ := bcell hb; clear hb hf; simp [Rel.deps, Rel.dep1, Rel.ons, Region.binds, Act.eval] at hd; simp only [Act.eval, List.mem_cons, List.not_mem_nil, not_or, and_imp, or_false, Array.getD_eq_getD_getElem?] at hbase; go_simp; refine ⟨?_, ?_⟩; rfl; rfl)); (focus (intro W hb; go_at_call 27; exact HWH.out 5 W)); (try simp only [List.nil_append, List.cons_append]))
  refine Rel.done3 ?_
  intro x w2 hb2 hx
  simp only [Rel.facts, Nat.zero_add, Nat.reduceAdd] at hx
  obtain ⟨e0, e1, e2, e3, e4, e5, e6, e7, e8, e9, e10, e11, e12, e13, e14, _⟩ := hx
  simp only [Rel.fill, Nat.zero_add, Nat.reduceAdd, e0, e1, e2, e3, e4, e5, e6, e7, e8, e9, e10, e11, e12, e13, e14]
  simp only [Act.put, List.setIfInBounds_toArray, List.set_cons_zero, List.set_cons_succ]
  clear e0 e1 e2 e3 e4 e5 e6 e7 e8 e9 e10 e11 e12 e13 e14
  have HB2 := Lib.hid (HB1.out.trans (hb2.mono HB1.out.size))
  have HK02 := Lib.hid (HK0.out.below hb2)
  have HK12 := Lib.hid (HK1.out.below hb2)
  have HK22 := Lib.hid (HK2.out.below hb2)
  clear hb2 a0 a1 a2 al af c0 c1 c2 cl cf
  go_wp2_with (go_at_call 24; refine (HF4.out _).mono ?_; rintro r wx ⟨rfl, rfl⟩)
  refine name_world ?_
  intro w3 e3
  have h3 : Below w2.heap.size w2 w3 := by rw [e3]; exact bel
  have HB3 := Lib.hid (HB2.out.trans (h3.mono HB2.out.size))
  have HK03 := Lib.hid (HK02.out.below h3)
  have HK13 := Lib.hid (HK12.out.below h3)
  have HK23 := Lib.hid (HK22.out.below h3)
  clear e3 h3
  obtain ⟨a0, a1, a2, al, af⟩ := HK03.out.o3
  obtain ⟨c0, c1, c2, cl, cf⟩ := HK23.out.o3
  refine Rel.region3 6 (by kernel_rfl) (by kernel_rfl) (by kernel_rfl) ?_
  simp only [List.take_succ_cons, List.take_zero, List.drop_succ_cons, List.drop_zero, List.filterMap_cons, List.filterMap_nil]
  iterate 5 (apply Rel.op3; (focus (first | exact Rel.gno rfl | exact Rel.gyes _ true _ rfl rfl rfl | exact Rel.gyes _ false _ rfl rfl rfl)); (focus (intro a W hb hd hbase; obtain ⟨hc, hf⟩ := bcell hb; clear hb hf; simp [Rel.deps, Rel.dep1, Rel.ons, Region.binds, Act.eval] at hd; simp only [Act.eval, List.mem_cons, List.not_mem_nil, not_or, and_imp, or_false, Array.getD_eq_getD_getElem?] at hbase; go_simp; (try go_bits); (try rfl); done)); (try simp only [List.nil_append, List.cons_append]))
  refine Rel.callR3 (SlE w.heap.size L encR (l ++ m)) (SlE.stable _ _ _ _) (Rel.gno rfl) ?_ ?_
  · intro a W hb hd hbase
    simp [Rel.deps, Rel.dep1, Rel.ons, Region.binds] at hd
    obtain ⟨h8, h9⟩ := hd
    have hWB : Below w.heap.size w W := HB3.out.trans (hb.mono HB3.out.size)
    refine ⟨29, #[.slice A N c, .slice B M cb], ?_, (HJ.out W (HC.out.1.below hWB) (HC.out.2.below hWB)).mono (fun e W' ⟨v, h1, ⟨D, d, h2, h4, h5⟩, h3⟩ => ⟨v, h1, ⟨D, d, h2, h4, fun p hp => Nat.le_trans hWB.size (h5 p hp)⟩, h3⟩)⟩
    simp only [Act.eval, Array.getD_eq_getD_getElem?] at h8 h9
    go_simp
    (first | done | rfl | (refine ⟨?_, ?_⟩ <;> rfl))
  (try simp only [List.nil_append, List.cons_append])
  refine Rel.done3 ?_
  intro x w4 h4 hx
  simp only [Rel.facts, Nat.zero_add, Nat.reduceAdd] at hx
  obtain ⟨e0, e1, e2, e3, e4, ⟨E, d, e5, hB, hF⟩, _⟩ := hx
  simp only [Rel.fill, Nat.zero_add, Nat.reduceAdd, e0, e1, e2, e3, e4, e5]
  simp only [Act.put, List.setIfInBounds_toArray, List.set_cons_zero, List.set_cons_succ]
  have HB4 := Lib.hid (HB3.out.trans (h4.mono HB3.out.size))
  have HK14 := Lib.hid (HK13.out.below h4)
  have HBB := Lib.hid hB
  clear e0 e1 e2 e3 e4 e5 hB h4 a0 a1 a2 al af c0 c1 c2 cl cf
  go_wp2_with (go_at_call 28; refine (HW.out w4 E d HBB.out).mono ?_; rintro r w5 ⟨⟨B5, d5, rfl, hb5, hf5⟩, h5⟩; refine Hid.out ?_)
  unfold Hid
  have HB5 := Lib.hid (HB4.out.trans (h5.mono HB4.out.size))
  have HK15 := Lib.hid (HK14.out.below h5)
  have HBF := Lib.hid hb5
  have hz5 : w.heap.size + 2 < w4.heap.size := HK14.out.lt
  have HF := Lib.hid hf5
  obtain ⟨b0, b1, b2, bl, bf⟩ := HK15.out.o3
  clear hb5 hf5 h5
  go_wp2
  refine name_post ?_
  intro wz ez
  have KZ : Blk wz (w.heap.size + 2) #[.string nm, (.int .i64 rate), .slice B5 L d5] := by
    rw [ez]
    exact ((HK15.out.set (i := 0) (by simp) _).set (i := 1) (by simp) _).set (i := 2) (by simp) _
  have HCZ : EC encF wz B5 (l.map vzR ++ m.map vzR) := by
    rw [ez]
    exact ((HBF.out.far (p := ⟨w.heap.size + 2, 0, none⟩) (fun q hq => by have := HF.out q hq; simp only; omega) _).far (p := ⟨w.heap.size + 2, 1, none⟩) (fun q hq => by have := HF.out q hq; simp only; omega) _).far (p := ⟨w.heap.size + 2, 2, none⟩) (fun q hq => by have := HF.out q hq; simp only; omega) _
  have HBZ : Below w.heap.size w wz := by
    rw [ez]
    exact ((HB5.out.setCell (p := ⟨w.heap.size + 2, 0, none⟩) (by simp) _).setCell (p := ⟨w.heap.size + 2, 1, none⟩) (by simp) _).setCell (p := ⟨w.heap.size + 2, 2, none⟩) (by simp) _
  obtain ⟨k0, k1, k2, -, -⟩ := KZ.o3
  clear ez
  refine bodyPost_ret (v := .tuple #[.agg #[.string nm, (.int .i64 rate), .slice B5 L d5], (.int .i64 0)]) (by simp [results, Tryz.results9, go_sem, k0, k1, k2]) rfl ⟨⟨B5, d5, rfl, HCZ, fun p hp => by have := HF.out p hp; omega⟩, HBZ⟩
end Go.Proofs.YtamldoidalnloaaGreatDoor

/- signal: Mix. -/
namespace Go.Proofs.YtamldoidalnloaaGreatDoor
open Go.RowKit
open Calm (bcell Blk)
/-- the first k are summed. -/
def mixF (a b : List Int) (k : Nat) : List Int := List.zipWith (· + ·) (a.take k) (b.take k) ++ a.drop k
theorem mixF_zero (a b : List Int) : mixF a b 0 = a := by simp [mixF]
theorem mixF_all (a b : List Int) {n : Nat} (ha : n = a.length) (hb : n = b.length) : mixF a b n = List.zipWith (· + ·) a b := by
  unfold mixF
  rw [List.take_of_length_le (by omega), List.take_of_length_le (by omega), List.drop_eq_nil_of_le (by omega), List.append_nil]
theorem mixF_len (a b : List Int) (k : Nat) (h : a.length = b.length) : (mixF a b k).length = a.length := by
  simp [mixF]; omega
theorem mixF_zl {a b : List Int} {k : Nat} (h : a.length = b.length) (hk : k < a.length) : (List.zipWith (· + ·) (a.take k) (b.take k)).length = k := by
  simp; omega
theorem mixF_get {a b : List Int} {k : Nat} (h : a.length = b.length) (hk : k < a.length) : (mixF a b k)[k]? = some (a.getD k 0) := by
  unfold mixF
  rw [List.getElem?_append_right (by rw [mixF_zl h hk]; omega), mixF_zl h hk, Nat.sub_self, List.getElem?_drop, Nat.add_zero, List.getD_eq_getElem?_getD, List.getElem?_eq_getElem hk]
  rfl
theorem mixF_set {a b : List Int} {k : Nat} (h : a.length = b.length) (hk : k < a.length) : (mixF a b k).set k (a.getD k 0 + b.getD k 0) = mixF a b (k + 1) := by
  have hkb : k < b.length := by omega
  unfold mixF
  rw [List.set_append_right _ _ (by rw [mixF_zl h hk]; omega), mixF_zl h hk, Nat.sub_self, List.drop_eq_getElem_cons hk, List.set_cons_zero, List.take_succ_eq_append_getElem hk, List.take_succ_eq_append_getElem hkb, List.zipWith_append (by simp; omega), List.append_assoc, List.getD_eq_getElem?_getD, List.getElem?_eq_getElem hk, List.getD_eq_getElem?_getD, List.getElem?_eq_getElem hkb]
  rfl
theorem mixA_set {a b : List Int} {k : Nat} (h : a.length = b.length) (hk : k < a.length) : (((mixF a b k).map encF).toArray).setIfInBounds k (encF (a.getD k 0 + b.getD k 0)) = ((mixF a b (k + 1)).map encF).toArray := by
  rw [List.setIfInBounds_toArray, ← mixF_set h hk, List.map_set]
theorem mixA_get {a b : List Int} {k : Nat} (h : a.length = b.length) (hk : k < a.length) : (((mixF a b k).map encF).toArray)[k]? = some (encF (a.getD k 0)) := by
  simp [mixF_get h hk]
/-- small codes. -/
def quL (l : List Int) : Prop := ∀ z ∈ l, -16384 ≤ z ∧ z ≤ 16384
theorem quL.get {l : List Int} (h : quL l) (k : Nat) : -16384 ≤ l.getD k 0 ∧ l.getD k 0 ≤ 16384 := by
  rw [List.getD_eq_getElem?_getD]
  rcases Nat.lt_or_ge k l.length with hk | hk
  · rw [List.getElem?_eq_getElem hk]
    exact h _ (List.getElem_mem hk)
  · rw [List.getElem?_eq_none hk]
    simp
theorem quL.ok {l : List Int} (h : quL l) : okR l := fun c hc => .inr (by have := h c hc; omega)
theorem quL.fl {l : List Int} (h : quL l) : flL l := fun c hc => flOk (by have := h c hc; omega)
theorem quL.rng {l : List Int} (h : quL l) : ∀ c ∈ l, -32768 ≤ c ∧ c ≤ 32768 := fun c hc => by have := h c hc; omega
theorem map_encR {l : List Int} (h : quL l) : l.map encR = l.map encF := List.map_congr_left fun c hc => encR_eq (by have := h c hc; omega)
theorem flL.sum {a b : List Int} (ha : quL a) (hb : quL b) : flL (List.zipWith (· + ·) a b) := fun c hc => by
  obtain ⟨k, hk, rfl⟩ := List.mem_iff_getElem.1 hc
  rw [List.getElem_zipWith]
  have h1 := ha _ (List.getElem_mem (l := a) (n := k) (by rw [List.length_zipWith] at hk; omega))
  have h2 := hb _ (List.getElem_mem (l := b) (n := k) (by rw [List.length_zipWith] at hk; omega))
  exact flOk (by omega)
theorem blk_row {w : World} {g : Nat} {cs : Array Value} {t : TypeId} (h : w.heap[g]? = some (.cells cs t (0, 0))) : Blk w g cs :=
  ⟨(Array.getElem?_eq_some_iff.1 h).1, fun i => cell_of_row _ _ i cs t (0, 0) h, fun i => by unfold World.frozen?; rw [h]; simp⟩
set_option maxRecDepth 100000 in
set_option maxHeartbeats 4000000 in
theorem mix_ok (nm : ByteArray) (rate : Int) (l m : List Int) (A B : Option Addr) (c cb N : Nat) (w : World) (hnm : NmOk nm) (hr : 1 ≤ rate ∧ rate ≤ 192000) (hN : N = l.length) (hM : N = m.length) (hn5 : N ≤ 4096) (hl : quL l) (hm : quL m) (hC : EC encF w A l) (hD : EC encF w B m) :
    Calls Tryz.prog 10 #[.agg #[.string nm, (.int .i64 rate), .slice A N c], .agg #[.string nm, (.int .i64 rate), .slice B N cb]] w fun r w' => (∃ B d, r = .returned (.tuple #[.agg #[.string nm, (.int .i64 rate), .slice B N d], (.int .i64 0)]) ∧ EC encF w' B (List.zipWith (· + ·) l m) ∧ ∀ p, B = some p → w.heap.size ≤ p.block) ∧ Below w.heap.size w w' := by
  have HCA : Hid (∀ W, EC encF W A l → Calls Tryz.prog 25 #[.agg #[.string nm, (.int .i64 rate), .slice A N c]] W fun r w' => r = .returned (.int .i64 0) ∧ Below W.heap.size W w') := Lib.hid (fun W q => checkRecord_ok nm rate l A c N W hnm hr hN (by omega) hl.fl q)
  have HCB : Hid (∀ W, EC encF W B m → Calls Tryz.prog 25 #[.agg #[.string nm, (.int .i64 rate), .slice B N cb]] W fun r w' => r = .returned (.int .i64 0) ∧ Below W.heap.size W w') := Lib.hid (fun W q => checkRecord_ok nm rate m B cb N W hnm hr hM (by omega) hm.fl q)
  have HWH := Lib.hid gWhen_no
  have HF4 : Hid (∀ (W : World), Calls Tryz.prog 24 #[.slice (some ⟨W.heap.size, 0, none⟩) 4 4] (W.alloc (.cells #[(.int .i64 0), (.int .i64 0), (.int .i64 0), (.int .i64 0)] 31)) fun r w' => r = .returned (.int .i64 0) ∧ (W.alloc (.cells #[(.int .i64 0), (.int .i64 0), (.int .i64 0), (.int .i64 0)] 31)) = w') := Lib.hid (fun W => gFirst_cells [0, 0, 0, 0] W (by simp))
  have HJ : Hid (∀ W, EC encF W A l → Calls Tryz.prog 29 #[.slice A N c, .slice none 0 0] W fun r w' => (∃ D, r = .returned (.slice (some ⟨D, 0, none⟩) N N) ∧ W.heap.size ≤ D ∧ Blk w' D ((mixF l m 0).map encF).toArray) ∧ Below W.heap.size W w') := Lib.hid (fun W q => by
    refine (joined_any l [] A none c 0 N 0 W hN rfl (by omega) (by omega) (q.rawF hl.rng) (EC.nil _ _ _)).mono ?_
    rintro r w' ⟨⟨D, rfl, h2, h3⟩, h4⟩
    rw [List.append_nil, map_encR hl] at h3
    exact ⟨⟨D, rfl, h2, by rw [mixF_zero]; exact blk_row h3⟩, h4⟩)
  have HCK : Hid (∀ W D, Blk W D ((mixF l m N).map encF).toArray → Calls Tryz.prog 30 #[.agg #[.string nm, (.int .i64 rate), .slice (some ⟨D, 0, none⟩) N N]] W fun r w' => (∃ B d, r = .returned (.tuple #[.agg #[.string nm, (.int .i64 rate), .slice B N d], (.int .i64 0)]) ∧ EC encF w' B (List.zipWith (· + ·) l m) ∧ ∀ p, B = some p → W.heap.size ≤ p.block) ∧ Below W.heap.size W w') := Lib.hid (fun W D q => by
    rw [mixF_all l m hN hM] at q
    exact checked_any nm rate (List.zipWith (· + ·) l m) (some ⟨D, 0, none⟩) N N W (by rw [List.length_zipWith]; omega) (by omega) (flL.sum hl hm) (EC.blk q rfl))
  have HST : Hid (∀ k, k < N → (((mixF l m k).map encF).toArray).setIfInBounds k (encF (l.getD k 0 + m.getD k 0)) = ((mixF l m (k + 1)).map encF).toArray ∧ (((mixF l m k).map encF).toArray)[k]? = some (encF (l.getD k 0)) ∧ k < (((mixF l m k).map encF).toArray).size) := Lib.hid (fun k hk => ⟨mixA_set (by omega) (by omega), mixA_get (by omega) (by omega), by simp [mixF_len _ _ _ (show l.length = m.length by omega)]; omega⟩)
  have HLM := Lib.hid (And.intro hl hm)
  have HN := Lib.hid hM
  have HC := Lib.hid (And.intro hC hD)
  clear hnm hN hl hC hr hM hm hD
  go_enter Tryz.func10, Tryz.ntmps10
  go_wp2
  refine name_world ?_
  intro w1 e1
  have K0 : Blk w1 w.heap.size #[.string nm, (.int .i64 rate), .slice A N c] := by rw [e1]; (repeat (first | ((with_reducible refine Blk.at_ ?_); focus (first | rfl | (simp; done) | (simp; omega))) | (with_reducible refine Blk.alloc ?_ _) | (with_reducible refine Blk.below ?_ (by with_reducible assumption)) | (with_reducible refine Blk.drew ?_)))
  have K2 : Blk w1 (w.heap.size + 1) #[.string nm, (.int .i64 rate), .slice B N cb] := by rw [e1]; (repeat (first | ((with_reducible refine Blk.at_ ?_); focus (first | rfl | (simp; done) | (simp; omega))) | (with_reducible refine Blk.alloc ?_ _) | (with_reducible refine Blk.below ?_ (by with_reducible assumption)) | (with_reducible refine Blk.drew ?_)))
  have K1 : Blk w1 (w.heap.size + 2) #[.string ⟨#[]⟩, (.int .i64 0), .slice none 0 0] := by rw [e1]; (repeat (first | ((with_reducible refine Blk.at_ ?_); focus (first | rfl | (simp; done) | (simp; omega))) | (with_reducible refine Blk.alloc ?_ _) | (with_reducible refine Blk.below ?_ (by with_reducible assumption)) | (with_reducible refine Blk.drew ?_)))
  have HB1 := Lib.hid (show Below w.heap.size w w1 by rw [e1]; exact bel)
  have HK0 := Lib.hid K0
  have HK1 := Lib.hid K1
  have HK2 := Lib.hid K2
  obtain ⟨a0, a1, a2, al, af⟩ := K0.o3
  obtain ⟨c0, c1, c2, cl, cf⟩ := K2.o3
  clear e1 K0 K1 K2
  refine Rel.region3 18 (by kernel_rfl) (by kernel_rfl) (by kernel_rfl) ?_
  simp only [List.take_succ_cons, List.take_zero, List.drop_succ_cons, List.drop_zero, List.filterMap_cons, List.filterMap_nil]
  iterate 1 (apply Rel.op3; (focus (first | exact Rel.gno rfl | exact Rel.gyes _ true _ rfl rfl rfl | exact Rel.gyes _ false _ rfl rfl rfl)); (focus (intro a W hb hd hbase; obtain ⟨hc, hf⟩ := bcell hb; clear hb hf; simp [Rel.deps, Rel.dep1, Rel.ons, Region.binds, Act.eval] at hd; simp only [Act.eval, List.mem_cons, List.not_mem_nil, not_or, and_imp, or_false, Array.getD_eq_getD_getElem?] at hbase; go_simp; (try go_bits); (try rfl); done)); (try simp only [List.nil_append, List.cons_append]))
  (apply Rel.call3; (focus (first | exact Rel.gno rfl | exact Rel.gyes _ true _ rfl rfl rfl | exact Rel.gyes _ false _ rfl rfl rfl)); (focus (intro a W hb hd hbase; obtain ⟨hc, hf⟩ := bcell hb; clear hb hf; simp [Rel.deps, Rel.dep1, Rel.ons, Region.binds, Act.eval] at hd; simp only [Act.eval, List.mem_cons, List.not_mem_nil, not_or, and_imp, or_false, Array.getD_eq_getD_getElem?] at hbase; go_simp; refine ⟨?_, ?_⟩; rfl; rfl)); (focus (intro W hb; go_at_call 25; exact HCA.out W ((HC.out.1.below HB1.out).below hb))); (try simp only [List.nil_append, List.cons_append]))
  iterate 1 (apply Rel.op3; (focus (first | exact Rel.gno rfl | exact Rel.gyes _ true _ rfl rfl rfl | exact Rel.gyes _ false _ rfl rfl rfl)); (focus (intro a W hb hd hbase; obtain ⟨hc, hf⟩ := bcell hb; clear hb hf; simp [Rel.deps, Rel.dep1, Rel.ons, Region.binds, Act.eval] at hd; simp only [Act.eval, List.mem_cons, List.not_mem_nil, not_or, and_imp, or_false, Array.getD_eq_getD_getElem?] at hbase; go_simp; (try go_bits); (try rfl); done)); (try simp only [List.nil_append, List.cons_append]))
  (apply Rel.call3; (focus (first | exact Rel.gno rfl | exact Rel.gyes _ true _ rfl rfl rfl | exact Rel.gyes _ false _ rfl rfl rfl)); (focus (intro a W hb hd hbase; obtain ⟨hc, hf⟩ := bcell hb; clear hb hf; simp [Rel.deps, Rel.dep1, Rel.ons, Region.binds, Act.eval] at hd; simp only [Act.eval, List.mem_cons, List.not_mem_nil, not_or, and_imp, or_false, Array.getD_eq_getD_getElem?] at hbase; go_simp; refine ⟨?_, ?_⟩; rfl; rfl)); (focus (intro W hb; go_at_call 25; exact HCB.out W ((HC.out.2.below HB1.out).below hb))); (try simp only [List.nil_append, List.cons_append]))
  iterate 4 (apply Rel.op3; (focus (first | exact Rel.gno rfl | exact Rel.gyes _ true _ rfl rfl rfl | exact Rel.gyes _ false _ rfl rfl rfl)); (focus (intro a W hb hd hbase; obtain ⟨hc, hf⟩ := bcell hb; clear hb hf; simp [Rel.deps, Rel.dep1, Rel.ons, Region.binds, Act.eval] at hd; simp only [Act.eval, List.mem_cons, List.not_mem_nil, not_or, and_imp, or_false, Array.getD_eq_getD_getElem?] at hbase; go_simp; (try go_bits); (try rfl); done)); (try simp only [List.nil_append, List.cons_append]))
  (apply Rel.op3 (.bool false); (focus (first | exact Rel.gno rfl | exact Rel.gyes _ true _ rfl rfl rfl | exact Rel.gyes _ false _ rfl rfl rfl)); (focus (intro a W hb hd hbase; obtain ⟨hc, hf⟩ := bcell hb; clear hb hf; simp [Rel.deps, Rel.dep1, Rel.ons, Region.binds, Act.eval] at hd; simp only [Act.eval, List.mem_cons, List.not_mem_nil, not_or, and_imp, or_false, Array.getD_eq_getD_getElem?] at hbase; go_simp; (try go_bits); (try rfl); done)); (try simp only [List.nil_append, List.cons_append]))
  (apply Rel.call3; (focus (first | exact Rel.gno rfl | exact Rel.gyes _ true _ rfl rfl rfl | exact Rel.gyes _ false _ rfl rfl rfl)); (focus (intro a W hb hd hbase; obtain ⟨hc, hf⟩ := bcell hb; clear hb hf; simp [Rel.deps, Rel.dep1, Rel.ons, Region.binds, Act.eval] at hd; simp only [Act.eval, List.mem_cons, List.not_mem_nil, not_or, and_imp, or_false, Array.getD_eq_getD_getElem?] at hbase; go_simp; refine ⟨?_, ?_⟩; rfl; rfl)); (focus (intro W hb; go_at_call 27; exact HWH.out 30 W)); (try simp only [List.nil_append, List.cons_append]))
  iterate 6 (apply Rel.op3; (focus (first | exact Rel.gno rfl | exact Rel.gyes _ true _ rfl rfl rfl | exact Rel.gyes _ false _ rfl rfl rfl)); (focus (intro a W hb hd hbase; obtain ⟨hc, hf⟩ := bcell hb; clear hb hf; simp [Rel.deps, Rel.dep1, Rel.ons, Region.binds, Act.eval] at hd; simp only [Act.eval, List.mem_cons, List.not_mem_nil, not_or, and_imp, or_false, Array.getD_eq_getD_getElem?] at hbase; go_simp; (try go_bits); (try rfl); done)); (try simp only [List.nil_append, List.cons_append]))
  (apply Rel.op3 (.bool false); (focus (first | exact Rel.gno rfl | exact Rel.gyes _ true _ rfl rfl rfl | exact Rel.gyes _ false _ rfl rfl rfl)); (focus (intro a W hb hd hbase; obtain ⟨hc, hf⟩ := bcell hb; clear hb hf; simp [Rel.deps, Rel.dep1, Rel.ons, Region.binds, Act.eval] at hd; simp only [Act.eval, List.mem_cons, List.not_mem_nil, not_or, and_imp, or_false, Array.getD_eq_getD_getElem?] at hbase; go_simp; (try go_bits); (try rfl); done)); (try simp only [List.nil_append, List.cons_append]))
  (apply Rel.call3; (focus (first | exact Rel.gno rfl | exact Rel.gyes _ true _ rfl rfl rfl | exact Rel.gyes _ false _ rfl rfl rfl)); (focus (intro a W hb hd hbase; obtain ⟨hc, hf⟩ := bcell hb; clear hb hf; simp [Rel.deps, Rel.dep1, Rel.ons, Region.binds, Act.eval] at hd; simp only [Act.eval, List.mem_cons, List.not_mem_nil, not_or, and_imp, or_false, Array.getD_eq_getD_getElem?] at hbase; go_simp; refine ⟨?_, ?_⟩; rfl; rfl)); (focus (intro W hb; go_at_call 27; exact HWH.out 2 W)); (try simp only [List.nil_append, List.cons_append]))
  refine Rel.done3 ?_
  intro x w2 hb2 hx
  simp only [Rel.facts, Nat.zero_add, Nat.reduceAdd] at hx
  obtain ⟨e0, e1, e2, e3, e4, e5, e6, e7, e8, e9, e10, e11, e12, e13, e14, e15, e16, e17, _⟩ := hx
  simp only [Rel.fill, Nat.zero_add, Nat.reduceAdd, e0, e1, e2, e3, e4, e5, e6, e7, e8, e9, e10, e11, e12, e13, e14, e15, e16, e17]
  simp only [Act.put, List.setIfInBounds_toArray, List.set_cons_zero, List.set_cons_succ]
  clear e0 e1 e2 e3 e4 e5 e6 e7 e8 e9 e10 e11 e12 e13 e14 e15 e16 e17
  have HB2 := Lib.hid (HB1.out.trans (hb2.mono HB1.out.size))
  have HK02 := Lib.hid (HK0.out.below hb2)
  have HK12 := Lib.hid (HK1.out.below hb2)
  have HK22 := Lib.hid (HK2.out.below hb2)
  clear hb2 a0 a1 a2 al af c0 c1 c2 cl cf
  go_wp2_with (go_at_call 24; refine (HF4.out _).mono ?_; rintro r wx ⟨rfl, rfl⟩; refine Hid.out ?_)
  unfold Hid
  obtain ⟨a0, a1, a2, al, af⟩ := (HK02.out.alloc (.cells #[(.int .i64 0), (.int .i64 0), (.int .i64 0), (.int .i64 0)] 31)).o3
  go_wp2_with (go_at_call 29; refine name_calls ?_; intro w3 e3; refine Hid.out ?_)
  unfold Hid
  have h3 : Below w2.heap.size w2 w3 := by rw [e3]; exact bel
  have HB3 := Lib.hid (HB2.out.trans (h3.mono HB2.out.size))
  have HK03 := Lib.hid (HK02.out.below h3)
  have HK13 := Lib.hid (HK12.out.below h3)
  have HK23 := Lib.hid (HK22.out.below h3)
  clear e3 h3 a0 a1 a2 al af
  refine (HJ.out w3 (HC.out.1.below HB3.out)).mono ?_
  rintro r w4 ⟨⟨D, rfl, hD, hK⟩, h4⟩
  have HB4 := Lib.hid (HB3.out.trans (h4.mono HB3.out.size))
  have HK04 := Lib.hid (HK03.out.below h4)
  have HK14 := Lib.hid (HK13.out.below h4)
  have HK24 := Lib.hid (HK23.out.below h4)
  have HKD := Lib.hid hK
  have hDl : w.heap.size + 2 < D := Nat.lt_of_lt_of_le HK13.out.lt hD
  clear h4 hK hD
  go_wp2
  go_loopw [38] (fun i wr => ∃ k : Nat, k ≤ N ∧ i = (.int .i64 ((k : Int))) ∧ Blk wr D ((mixF l m k).map encF).toArray ∧ Below D w4 wr) (fun i _ => N - (intOf i).toNat)
  case atStart => exact ⟨0, Nat.zero_le _, rfl, HKD.out, Below.refl _ _⟩
  case round =>
    obtain ⟨k, hk, rfl, hkd, hb⟩ := hrel
    have HD := Lib.hid hkd
    have HBR := Lib.hid hb
    have HBW := Lib.hid (HB4.out.trans (hb.mono (by omega)))
    have HK0r := Lib.hid (HK04.out.of_block (hb.block _ (by omega)))
    have HK1r := Lib.hid (HK14.out.of_block (hb.block _ (by omega)))
    have HK2r := Lib.hid (HK24.out.of_block (hb.block _ (by omega)))
    clear hkd hb
    by_cases hlt : k < N
    · obtain ⟨hset, hget, hsiz⟩ := HST.out k hlt
      obtain ⟨b2, o2, rfl, l2, q2⟩ := (HC.out.2.below HBW.out) (by have := HN.out; omega)
      have x2 := q2 k (by have := HN.out; omega)
      have x1 : wr.cell? ⟨D, k, none⟩ = some (encF (l.getD k 0)) := by rw [HD.out.c]; exact hget
      have hadd := fl_add (a := l.getD k 0) (b := m.getD k 0) (by have := HLM.out.1.get k; omega) (by have := HLM.out.2.get k; omega)
      have HSET : Hid (∀ W, Blk W D ((mixF l m k).map encF).toArray → Blk (W.setCell ⟨D, k, none⟩ (.float .f32 (fl (l.getD k 0 + m.getD k 0)))) D ((mixF l m (k + 1)).map encF).toArray) := Lib.hid (fun W q => by
        have := q.set hsiz (encF (l.getD k 0 + m.getD k 0))
        rwa [hset] at this)
      obtain ⟨F, hF⟩ : ∃ F, F = fl (l.getD k 0) := ⟨_, rfl⟩
      obtain ⟨G, hG⟩ : ∃ G, G = fl (m.getD k 0) := ⟨_, rfl⟩
      obtain ⟨S, hS⟩ : ∃ S, S = fl (l.getD k 0 + m.getD k 0) := ⟨_, rfl⟩
      unfold encF at x1 x2
      rw [← hF] at hadd x1
      rw [← hG] at hadd x2
      rw [← hS] at hadd HSET
      have lD := HD.out.lt
      have fD := HD.out.f
      have hkN : (k : Int) < (N : Int) := by omega
      clear q2 hget hset hsiz hF hG hS
      obtain ⟨c0, c1, c2, cl, cf⟩ := HK2r.out.o3
      have radd := fun W => run_float_arith (P := Tryz.prog) W .add 29 .f32 F G S hadd
      clear hadd
      go_wp2
      refine Rel.region3 10 (by kernel_rfl) (by kernel_rfl) (by kernel_rfl) ?_
      simp only [List.take_succ_cons, List.take_zero, List.drop_succ_cons, List.drop_zero, List.filterMap_cons, List.filterMap_nil]
      iterate 9 (apply Rel.op3; (focus (first | exact Rel.gno rfl | exact Rel.gyes _ true _ rfl rfl rfl | exact Rel.gyes _ false _ rfl rfl rfl)); (focus (intro a W hb hd hbase; obtain ⟨hc, hf⟩ := bcell hb; clear hb hf; simp [Rel.deps, Rel.dep1, Rel.ons, Region.binds, Act.eval] at hd; simp only [Act.eval, List.mem_cons, List.not_mem_nil, not_or, and_imp, or_false, Array.getD_eq_getD_getElem?] at hbase; go_simp; (try go_bits); (try rfl); done)); (try simp only [List.nil_append, List.cons_append]))
      iterate 1 (apply Rel.op3; (focus (first | exact Rel.gno rfl | exact Rel.gyes _ true _ rfl rfl rfl | exact Rel.gyes _ false _ rfl rfl rfl)); (focus (intro a W hb hd hbase; obtain ⟨hc, hf⟩ := bcell hb; clear hb hf; simp [Rel.deps, Rel.dep1, Rel.ons, Region.binds, Act.eval] at hd; simp only [Act.eval, List.mem_cons, List.not_mem_nil, not_or, and_imp, or_false, Array.getD_eq_getD_getElem?] at hbase; go_simp; (try go_bits); (try rfl); done)); (try simp only [List.nil_append, List.cons_append]))
      refine Rel.done3 ?_
      intro x w5 hb5 hx
      simp only [Rel.facts, Nat.zero_add, Nat.reduceAdd] at hx
      obtain ⟨e0, e1, e2, e3, e4, e5, e6, e7, e8, e9, _⟩ := hx
      simp only [Rel.fill, Nat.zero_add, Nat.reduceAdd, e0, e1, e2, e3, e4, e5, e6, e7, e8, e9]
      simp only [Act.put, List.setIfInBounds_toArray, List.set_cons_zero, List.set_cons_succ]
      clear e0 e1 e2 e3 e4 e5 e6 e7 e8 e9
      have h5 : Below D wr w5 := hb5.mono (by omega)
      have HKS := Lib.hid (HSET.out w5 (HD.out.below hb5))
      have HBS : Hid (Below D w4 (w5.setCell ⟨D, k, none⟩ (.float .f32 S))) := Lib.hid ((HBR.out.trans h5).setCell (p := ⟨D, k, none⟩) (Nat.le_refl _) _)
      obtain ⟨f1, f2, f3⟩ := HD.out.below hb5
      have lD5 : D < w5.heap.size := f1
      have x5 : w5.cell? ⟨D, k, none⟩ = some (.float .f32 F) := (hb5.cell (p := ⟨D, k, none⟩) lD).trans x1
      have hstF := fun (W : World) (a : Addr) (m : Mode) => run_store Tryz.prog W a (Value.float .f32 S) m rfl
      clear hb5 h5 x1 x2 radd c0 c1 c2 cl cf lD fD f2 f1
      go_wp2
      go_roundw
      case rel => exact ⟨k + 1, by omega, by go_num, HKS.out, HBS.out⟩
      case measure => simp [intOf]; omega
    · obtain rfl : k = N := by omega
      obtain ⟨a0, a1, a2, al, af⟩ := HK0r.out.o3
      go_wp2_with (go_at_call 30; refine (HCK.out wr D HD.out).mono ?_; rintro r w5 ⟨⟨B5, d5, rfl, hb5, hf5⟩, h5⟩; refine Hid.out ?_)
      unfold Hid
      have HB5 := Lib.hid (HBW.out.trans (h5.mono HBW.out.size))
      have HK15 := Lib.hid (HK1r.out.below h5)
      have HBF := Lib.hid hb5
      have hz5 : w.heap.size + 2 < wr.heap.size := HK1r.out.lt
      have HF := Lib.hid hf5
      obtain ⟨b0, b1, b2, bl, bf⟩ := HK15.out.o3
      clear hb5 hf5 h5 a0 a1 a2 al af
      go_wp2
      refine name_post ?_
      intro wz ez
      have KZ : Blk wz (w.heap.size + 2) #[.string nm, (.int .i64 rate), .slice B5 k d5] := by
        rw [ez]
        exact ((HK15.out.set (i := 0) (by simp) _).set (i := 1) (by simp) _).set (i := 2) (by simp) _
      have HCZ : EC encF wz B5 (List.zipWith (· + ·) l m) := by
        rw [ez]
        exact ((HBF.out.far (p := ⟨w.heap.size + 2, 0, none⟩) (fun q hq => by have := HF.out q hq; simp only; omega) _).far (p := ⟨w.heap.size + 2, 1, none⟩) (fun q hq => by have := HF.out q hq; simp only; omega) _).far (p := ⟨w.heap.size + 2, 2, none⟩) (fun q hq => by have := HF.out q hq; simp only; omega) _
      have HBZ : Below w.heap.size w wz := by
        rw [ez]
        exact ((HB5.out.setCell (p := ⟨w.heap.size + 2, 0, none⟩) (by simp) _).setCell (p := ⟨w.heap.size + 2, 1, none⟩) (by simp) _).setCell (p := ⟨w.heap.size + 2, 2, none⟩) (by simp) _
      obtain ⟨k0, k1, k2, -, -⟩ := KZ.o3
      clear ez
      refine bodyPost_ret (v := .tuple #[.agg #[.string nm, (.int .i64 rate), .slice B5 k d5], (.int .i64 0)]) (by simp [results, Tryz.results10, go_sem, k0, k1, k2]) rfl ⟨⟨B5, d5, rfl, HCZ, fun p hp => by have := HF.out p hp; omega⟩, HBZ⟩
end Go.Proofs.YtamldoidalnloaaGreatDoor

/- woofertop: coilRecord. -/
namespace Go.Proofs.YtamldoidalnloaaGreatDoor
open Go.RowKit
open Calm (bcell Blk)
set_option maxRecDepth 100000 in
set_option maxHeartbeats 4000000 in
theorem coilRecord_any (nm : ByteArray) (rate : Int) (l : List Int) (A : Option Addr) (c N : Nat) (w : World) (hN : N = l.length) (hN5 : N ≤ 5000) (hC : EC encR w A l) :
    Calls Tryz.prog 8 #[.agg #[.string nm, (.int .i64 rate), .slice A N c]] w fun r w' => (∃ B d, r = .returned (.agg #[.string nm, (.int .i64 rate), .slice B N d]) ∧ EC encR w' B l ∧ ∀ p, B = some p → w.heap.size ≤ p.block) ∧ Below w.heap.size w w' := by
  have HLL : Hid ((l.map encR).length = N * 1) := Lib.hid (by rw [List.length_map, Nat.mul_one]; exact hN.symm)
  have HN := Lib.hid hN
  have HC := Lib.hid hC
  clear hN hC
  go_enter Tryz.func8, Tryz.ntmps8
  go_wp2
  refine name_world ?_
  intro w1 e1
  have K0 : Blk w1 w.heap.size #[.string nm, (.int .i64 rate), .slice A N c] := by rw [e1]; (repeat (first | ((with_reducible refine Blk.at_ ?_); focus (first | rfl | (simp; done) | (simp; omega))) | (with_reducible refine Blk.alloc ?_ _) | (with_reducible refine Blk.below ?_ (by with_reducible assumption)) | (with_reducible refine Blk.drew ?_)))
  have K1 : Blk w1 (w.heap.size + 1) #[.string ⟨#[]⟩, (.int .i64 0), .slice none 0 0] := by rw [e1]; (repeat (first | ((with_reducible refine Blk.at_ ?_); focus (first | rfl | (simp; done) | (simp; omega))) | (with_reducible refine Blk.alloc ?_ _) | (with_reducible refine Blk.below ?_ (by with_reducible assumption)) | (with_reducible refine Blk.drew ?_)))
  have HB1 := Lib.hid (show Below w.heap.size w w1 by rw [e1]; exact bel)
  have HK1 := Lib.hid K1
  have HK0 := Lib.hid K0
  have HC1 := Lib.hid (HC.out.below HB1.out)
  have hz1 : w.heap.size + 1 < w1.heap.size := K1.lt
  obtain ⟨a0, a1, a2, al, af⟩ := K0.o3
  obtain ⟨i0, hi0, hz0, hzz, hz2⟩ := info_parts eF.i
  clear e1 K0 K1
  refine Rel.region3 8 (by kernel_rfl) (by kernel_rfl) (by kernel_rfl) ?_
  simp only [List.take_succ_cons, List.take_zero, List.drop_succ_cons, List.drop_zero, List.filterMap_cons, List.filterMap_nil]
  iterate 4 (apply Rel.op3; (focus (first | exact Rel.gno rfl | exact Rel.gyes _ true _ rfl rfl rfl | exact Rel.gyes _ false _ rfl rfl rfl)); (focus (intro a W hb hd hbase; obtain ⟨hc, hf⟩ := bcell hb; clear hb hf; simp [Rel.deps, Rel.dep1, Rel.ons, Region.binds, Act.eval] at hd; simp only [Act.eval, List.mem_cons, List.not_mem_nil, not_or, and_imp, or_false, Array.getD_eq_getD_getElem?] at hbase; go_simp; (try go_bits); (try rfl); done)); (try simp only [List.nil_append, List.cons_append]))
  (apply Rel.empty3 29 1; (focus (exact Rel.gno rfl)); (focus (intro a W; go_simp; (first | done | rfl | (refine ⟨?_, ?_⟩ <;> rfl)))); (try simp only [List.nil_append, List.cons_append]))
  iterate 2 (apply Rel.op3; (focus (first | exact Rel.gno rfl | exact Rel.gyes _ true _ rfl rfl rfl | exact Rel.gyes _ false _ rfl rfl rfl)); (focus (intro a W hb hd hbase; obtain ⟨hc, hf⟩ := bcell hb; clear hb hf; simp [Rel.deps, Rel.dep1, Rel.ons, Region.binds, Act.eval] at hd; simp only [Act.eval, List.mem_cons, List.not_mem_nil, not_or, and_imp, or_false, Array.getD_eq_getD_getElem?] at hbase; go_simp; (try go_bits); (try rfl); done)); (try simp only [List.nil_append, List.cons_append]))
  refine Rel.app3 (.tmp 7) (.tmp 9) 22 rfl 29 i0 _ 1 4 eF.u hi0 hz0 hzz hz2 rfl (by decide) N (l.map encR) HLL.out (fun u hu => by obtain ⟨z, _, rfl⟩ := List.mem_map.1 hu; rfl) (by unfold maxLen; omega) (by omega) (Rel.gno rfl) ?_ ?_
  · intro a W hb hd hbase
    simp [Rel.deps, Rel.dep1, Rel.ons, Region.binds] at hd
    obtain ⟨h7, h9⟩ := hd
    refine ⟨⟨_, rfl, by simpa using h7⟩, _, _, h9, fun h0 => ?_⟩
    obtain ⟨b9, o9, e9, -, c9⟩ := (HC1.out.below hb) (by rw [← HN.out]; exact h0)
    exact ⟨_, e9, fun j u hj => EC.src c9 j u hj⟩
  (try simp only [List.nil_append, List.cons_append])
  refine Rel.done3 ?_
  intro x w2 hb2 hx
  simp only [Rel.facts, Nat.zero_add, Nat.reduceAdd] at hx
  obtain ⟨e0, e1, e2, e3, _, e5, e6, e7, _⟩ := hx
  obtain ⟨B, d, e7, hB, hE⟩ := own_ec e7 HN.out
  simp only [Rel.fill, Nat.zero_add, Nat.reduceAdd, e0, e1, e2, e3, e5, e6, e7]
  simp only [Act.put, List.setIfInBounds_toArray, List.set_cons_zero, List.set_cons_succ]
  have HB2 := Lib.hid (HB1.out.trans (hb2.mono HB1.out.size))
  have HK12 := Lib.hid (HK1.out.below hb2)
  have HE := Lib.hid hE
  have HF : Hid (∀ p, B = some p → w.heap.size + 2 ≤ p.block) := Lib.hid (fun p hp => by have := hB p hp; omega)
  clear e0 e1 e2 e3 e5 e6 e7 hB hE hb2 a0 a1 a2 al af
  obtain ⟨a0, a1, a2, al, af⟩ := HK12.out.o3
  go_wp2
  refine name_post ?_
  intro wz ez
  have KZ : Blk wz (w.heap.size + 1) #[.string nm, (.int .i64 rate), .slice B N d] := by
    rw [ez]
    exact ((HK12.out.set (i := 0) (by simp) _).set (i := 1) (by simp) _).set (i := 2) (by simp) _
  have HCZ : EC encR wz B l := by
    rw [ez]
    exact ((HE.out.far (p := ⟨w.heap.size + 1, 0, none⟩) (fun q hq => by have := HF.out q hq; simp only; omega) _).far (p := ⟨w.heap.size + 1, 1, none⟩) (fun q hq => by have := HF.out q hq; simp only; omega) _).far (p := ⟨w.heap.size + 1, 2, none⟩) (fun q hq => by have := HF.out q hq; simp only; omega) _
  have HBZ : Below w.heap.size w wz := by
    rw [ez]
    exact ((HB2.out.setCell (p := ⟨w.heap.size + 1, 0, none⟩) (by simp) _).setCell (p := ⟨w.heap.size + 1, 1, none⟩) (by simp) _).setCell (p := ⟨w.heap.size + 1, 2, none⟩) (by simp) _
  obtain ⟨k0, k1, k2, -, -⟩ := KZ.o3
  clear ez
  refine bodyPost_ret (v := .agg #[.string nm, (.int .i64 rate), .slice B N d]) (by simp [results, Tryz.results8, go_sem, k0, k1, k2]) rfl ⟨⟨B, d, rfl, HCZ, fun p hp => by have := HF.out p hp; omega⟩, HBZ⟩
end Go.Proofs.YtamldoidalnloaaGreatDoor

/- names: what the reference takes for one, the program takes too. -/
namespace Go.Proofs.YtamldoidalnloaaGreatDoor
open Go.RowKit
open Calm (bcell Blk)
def letN (c : Nat) : Prop := (65 ≤ c ∧ c ≤ 90) ∨ (97 ≤ c ∧ c ≤ 122)
def othN (c : Nat) : Prop := (48 ≤ c ∧ c ≤ 57) ∨ c = 95
/-- a name. -/
structure NmGood (nm : ByteArray) : Prop where
  pos : 1 ≤ nm.size
  len : nm.size ≤ 24
  all : ∀ k (h : k < nm.size), letN nm[k].toNat ∨ (k ≠ 0 ∧ othN nm[k].toNat)
set_option maxHeartbeats 8000000 in
set_option maxRecDepth 100000 in
theorem isName_good (nm : ByteArray) (w : World) (h : NmGood nm) : Calls Tryz.prog 61 #[.string nm] w fun r w' => r = .returned (.bool true) ∧ Below w.heap.size w w' := by
  have hp := h.pos
  have hl := h.len
  have HA := Lib.hid h.all
  clear h
  go_enter Tryz.func61, Tryz.ntmps61
  go_wp2
  go_loopw [3] (fun _ w' => ∃ k : Nat, k ≤ nm.size ∧ w' = w.iter nm k) (fun _ w' => nm.size - w'.iterPos w.heap.size)
  case atStart => exact ⟨0, by omega, rfl⟩
  case round =>
    obtain ⟨k, hk, rfl⟩ := hrel
    by_cases hlt : k < nm.size
    · have hall := HA.out k hlt
      have hasc : (nm[k]'hlt).toNat < 128 := by unfold letN othN at hall; omega
      have hnx : ∀ ty, (Instr.next (.pointer (some ⟨w.heap.size, 0, none⟩)) true ty).run Tryz.prog (w.iter nm k) = _ := fun ty => run_next_ascii w nm k ty hlt hasc
      generalize hc : nm[k].toNat = c at *
      have HK := Lib.hid (show k + 1 ≤ nm.size by omega)
      clear hc HA hasc
      have hcase : (65 ≤ c ∧ c ≤ 90) ∨ (97 ≤ c ∧ c ≤ 122) ∨ (k ≠ 0 ∧ 48 ≤ c ∧ c ≤ 57) ∨ (k ≠ 0 ∧ c = 95) := by unfold letN othN at hall; omega
      clear hall
      rcases hcase with ⟨h1, h2⟩ | ⟨h1, h2⟩ | ⟨h0, h1, h2⟩ | ⟨h0, h1⟩
      · have a1 : (65 : Int) ≤ (c : Int) := by omega
        have a2 : (c : Int) ≤ 90 := by omega
        have a3 : (48 : Int) ≤ (c : Int) := by omega
        have a4 : ¬ (c : Int) ≤ 57 := by omega
        have a5 : ((c : Int) == 95) = false := beq_eq_false_iff_ne.2 (by omega)
        clear h1 h2
        go_wp2
        go_roundw
        case rel => exact ⟨k + 1, HK.out, rfl⟩
        case measure => simp; omega
      · have a1 : (65 : Int) ≤ (c : Int) := by omega
        have a2 : ¬ (c : Int) ≤ 90 := by omega
        have a6 : (97 : Int) ≤ (c : Int) := by omega
        have a7 : (c : Int) ≤ 122 := by omega
        have a3 : (48 : Int) ≤ (c : Int) := by omega
        have a4 : ¬ (c : Int) ≤ 57 := by omega
        have a5 : ((c : Int) == 95) = false := beq_eq_false_iff_ne.2 (by omega)
        clear h1 h2
        go_wp2
        go_roundw
        case rel => exact ⟨k + 1, HK.out, rfl⟩
        case measure => simp; omega
      · have a1 : ¬ (65 : Int) ≤ (c : Int) := by omega
        have a6 : ¬ (97 : Int) ≤ (c : Int) := by omega
        have a3 : (48 : Int) ≤ (c : Int) := by omega
        have a4 : (c : Int) ≤ 57 := by omega
        have a8 : ((k : Int) == 0) = false := beq_eq_false_iff_ne.2 (by omega)
        clear h1 h2 h0
        go_wp2
        go_roundw
        case rel => exact ⟨k + 1, HK.out, rfl⟩
        case measure => simp; omega
      · have a1 : (65 : Int) ≤ (c : Int) := by omega
        have a2 : ¬ (c : Int) ≤ 90 := by omega
        have a6 : ¬ (97 : Int) ≤ (c : Int) := by omega
        have a3 : (48 : Int) ≤ (c : Int) := by omega
        have a4 : ¬ (c : Int) ≤ 57 := by omega
        have a5 : ((c : Int) == 95) = true := by rw [beq_iff_eq]; omega
        have a8 : ((k : Int) == 0) = false := beq_eq_false_iff_ne.2 (by omega)
        clear h1 h0
        go_wp2
        go_roundw
        case rel => exact ⟨k + 1, HK.out, rfl⟩
        case measure => simp; omega
    · obtain rfl : k = nm.size := by omega
      have hnx : ∀ ty, (Instr.next (.pointer (some ⟨w.heap.size, 0, none⟩)) true ty).run Tryz.prog (w.iter nm nm.size) = _ := fun ty => run_next_end w nm nm.size ty (by omega)
      have hnil : (nm.toList == []) = false := beq_eq_false_iff_ne.2 (by rw [Go.ByteArray.toList_eq]; intro e; have e2 : nm.data.toList.length = nm.size := by simp
                                                                         rw [e] at e2; simp at e2; omega)
      have hli : (nm.size : Int) ≤ 24 := by omega
      clear hp hk hlt HA
      go_wp2
      go_ret
      exact ⟨rfl, (Below.refl _ _).alloc (Nat.le_refl _) _⟩
end Go.Proofs.YtamldoidalnloaaGreatDoor

/- names: the reference's IsName, CheckName. -/
namespace Go.Proofs.YtamldoidalnloaaGreatDoor
open Go.RowKit
open Calm (bcell Blk)
theorem NmGood.ok {nm : ByteArray} (h : NmGood nm) : NmOk nm := by
  refine ⟨fun W => ?_, h.len⟩
  have HIS := Lib.hid (isName_good nm W h)
  clear h
  go_enter Tryz.func42, Tryz.ntmps42
  go_wp2_with (go_at_call 61; refine HIS.out.mono ?_; rintro r w1 ⟨rfl, h1⟩; refine Hid.out ?_)
  unfold Hid
  have HB := Lib.hid h1
  clear h1
  go_wp2_with (go_at_call 27; refine (gWhen_any _ _ _).mono ?_; rintro r w' ⟨rfl, rfl⟩)
  go_ret
  exact ⟨rfl, HB.out⟩
theorem idxS (nm : ByteArray) (k : Nat) (h : k < nm.size) (W : World) : Sem.run Tryz.prog (Instr.index 9 (.string nm) (.int .i64 ((k : Int)))) W = .ok (.int .u8 ((nm[k]'h).toNat : Int)) W := by
  have hu := Tryz.underlying9
  simp [Instr.index, run_underlying hu, asIntOf, go_sem, h]
/-- what the reference says of a name. -/
def NmRes (nm : ByteArray) (w : World) (r : Ending) (w' : World) : Prop := ∃ b, r = .returned (.bool b) ∧ (b = true → NmGood nm) ∧ w = w'
theorem NmRes.no (nm : ByteArray) (w : World) : NmRes nm w (.returned (.bool false)) w := ⟨_, rfl, fun h => absurd h (by decide), rfl⟩
theorem NmRes.yes {nm : ByteArray} (h : NmGood nm) (w : World) : NmRes nm w (.returned (.bool true)) w := ⟨_, rfl, fun _ => h, rfl⟩
set_option maxHeartbeats 8000000 in
set_option maxRecDepth 100000 in
theorem refIsName_any (nm : ByteArray) (w : World) (hs : nm.size ≤ 100) : Calls Tryz.prog 49 #[.string nm] w fun r w' => NmRes nm w r w' := by
  by_cases h0 : nm.size = 0
  · have hc : ((nm.size : Int) == 0) = true := by simpa using h0
    clear h0
    go_enter Tryz.func49, Tryz.ntmps49
    go_wp2
    go_ret
    exact NmRes.no _ _
  by_cases h24 : 24 < nm.size
  · have hc : ((nm.size : Int) == 0) = false := by simpa using h0
    have hd : (24 : Int) < (nm.size : Int) := by omega
    clear h0
    go_enter Tryz.func49, Tryz.ntmps49
    go_wp2
    go_ret
    exact NmRes.no _ _
  have hc : ((nm.size : Int) == 0) = false := by simpa using h0
  have hd : ¬ (24 : Int) < (nm.size : Int) := by omega
  have HP := Lib.hid (show 1 ≤ nm.size ∧ nm.size ≤ 24 by omega)
  clear h0 h24
  go_enter Tryz.func49, Tryz.ntmps49
  go_wp2
  go_loop [3] (fun i => ∃ k : Nat, k ≤ nm.size ∧ i = (.int .i64 ((k : Int))) ∧ ∀ j (h : j < nm.size), j < k → letN nm[j].toNat ∨ (j ≠ 0 ∧ othN nm[j].toNat)) (fun i => nm.size - (intOf i).toNat)
  case atStart => exact ⟨0, by omega, rfl, fun j h hj => absurd hj (by omega)⟩
  case round =>
    obtain ⟨k, hk, rfl, hgd⟩ := hrel
    have HG := Lib.hid hgd
    clear hgd
    by_cases hlt : k < nm.size
    · have hix := fun W => idxS nm k hlt W
      have hbd : (nm[k]'hlt).toNat < 256 := UInt8.toNat_lt _
      have HNX : Hid ((letN nm[k].toNat ∨ (k ≠ 0 ∧ othN nm[k].toNat)) → ∀ j (h : j < nm.size), j < k + 1 → letN nm[j].toNat ∨ (j ≠ 0 ∧ othN nm[j].toNat)) := Lib.hid (fun q j h hj => by
        by_cases e : j = k
        · subst e; exact q
        · exact HG.out j h (by omega))
      have HKL := Lib.hid (show k + 1 ≤ nm.size by omega)
      obtain ⟨c, hc⟩ : ∃ c : Nat, c = (nm[k]'hlt).toNat := ⟨_, rfl⟩
      rw [← hc] at hbd HNX
      simp only [← hc] at hix
      have hcase : (65 ≤ c ∧ c ≤ 90) ∨ (97 ≤ c ∧ c ≤ 122) ∨ (48 ≤ c ∧ c ≤ 57) ∨ c = 95 ∨ c < 48 ∨ (58 ≤ c ∧ c ≤ 64) ∨ (91 ≤ c ∧ c ≤ 96 ∧ c ≠ 95) ∨ 123 ≤ c := by omega
      clear hc
      rcases hcase with h | h | h | h | h | h | h | h
      · have e0 : (65 : Int) ≤ (c : Int) := by omega
        have e1 : (c : Int) ≤ 90 := by omega
        have e4 : (48 : Int) ≤ (c : Int) := by omega
        have e5 : ¬ (c : Int) ≤ 57 := by omega
        have e6 : ((c : Int) == 95) = false := beq_eq_false_iff_ne.2 (by omega)
        have HL := Lib.hid (HNX.out (.inl (.inl h)))
        clear h
        go_wp2
        go_round
        case rel => exact ⟨k + 1, HKL.out, rfl, HL.out⟩
        case measure => simp [intOf]; omega
      · have e0 : (65 : Int) ≤ (c : Int) := by omega
        have e1 : ¬ (c : Int) ≤ 90 := by omega
        have e2 : (97 : Int) ≤ (c : Int) := by omega
        have e3 : (c : Int) ≤ 122 := by omega
        have e4 : (48 : Int) ≤ (c : Int) := by omega
        have e5 : ¬ (c : Int) ≤ 57 := by omega
        have e6 : ((c : Int) == 95) = false := beq_eq_false_iff_ne.2 (by omega)
        have HL := Lib.hid (HNX.out (.inl (.inr h)))
        clear h
        go_wp2
        go_round
        case rel => exact ⟨k + 1, HKL.out, rfl, HL.out⟩
        case measure => simp [intOf]; omega
      · have e0 : ¬ (65 : Int) ≤ (c : Int) := by omega
        have e2 : ¬ (97 : Int) ≤ (c : Int) := by omega
        have e4 : (48 : Int) ≤ (c : Int) := by omega
        have e5 : (c : Int) ≤ 57 := by omega
        by_cases hk0 : k = 0
        · have e8 : ((k : Int) == 0) = true := by rw [beq_iff_eq]; omega
          clear h hk0
          go_wp2
          go_ret
          exact NmRes.no _ _
        · have e8 : ((k : Int) == 0) = false := beq_eq_false_iff_ne.2 (by omega)
          have HL := Lib.hid (HNX.out (.inr ⟨hk0, (.inl h)⟩))
          clear h hk0
          go_wp2
          go_round
          case rel => exact ⟨k + 1, HKL.out, rfl, HL.out⟩
          case measure => simp [intOf]; omega
      · have e0 : (65 : Int) ≤ (c : Int) := by omega
        have e1 : ¬ (c : Int) ≤ 90 := by omega
        have e2 : ¬ (97 : Int) ≤ (c : Int) := by omega
        have e4 : (48 : Int) ≤ (c : Int) := by omega
        have e5 : ¬ (c : Int) ≤ 57 := by omega
        have e6 : ((c : Int) == 95) = true := by rw [beq_iff_eq]; omega
        by_cases hk0 : k = 0
        · have e8 : ((k : Int) == 0) = true := by rw [beq_iff_eq]; omega
          clear h hk0
          go_wp2
          go_ret
          exact NmRes.no _ _
        · have e8 : ((k : Int) == 0) = false := beq_eq_false_iff_ne.2 (by omega)
          have HL := Lib.hid (HNX.out (.inr ⟨hk0, (.inr h)⟩))
          clear h hk0
          go_wp2
          go_round
          case rel => exact ⟨k + 1, HKL.out, rfl, HL.out⟩
          case measure => simp [intOf]; omega
      · have e0 : ¬ (65 : Int) ≤ (c : Int) := by omega
        have e2 : ¬ (97 : Int) ≤ (c : Int) := by omega
        have e4 : ¬ (48 : Int) ≤ (c : Int) := by omega
        have e6 : ((c : Int) == 95) = false := beq_eq_false_iff_ne.2 (by omega)
        by_cases hk0 : k = 0
        · have e8 : ((k : Int) == 0) = true := by rw [beq_iff_eq]; omega
          clear h hk0
          go_wp2
          go_ret
          exact NmRes.no _ _
        · have e8 : ((k : Int) == 0) = false := beq_eq_false_iff_ne.2 (by omega)
          clear h hk0
          go_wp2
          go_ret
          exact NmRes.no _ _
      · have e0 : ¬ (65 : Int) ≤ (c : Int) := by omega
        have e2 : ¬ (97 : Int) ≤ (c : Int) := by omega
        have e4 : (48 : Int) ≤ (c : Int) := by omega
        have e5 : ¬ (c : Int) ≤ 57 := by omega
        have e6 : ((c : Int) == 95) = false := beq_eq_false_iff_ne.2 (by omega)
        by_cases hk0 : k = 0
        · have e8 : ((k : Int) == 0) = true := by rw [beq_iff_eq]; omega
          clear h hk0
          go_wp2
          go_ret
          exact NmRes.no _ _
        · have e8 : ((k : Int) == 0) = false := beq_eq_false_iff_ne.2 (by omega)
          clear h hk0
          go_wp2
          go_ret
          exact NmRes.no _ _
      · have e0 : (65 : Int) ≤ (c : Int) := by omega
        have e1 : ¬ (c : Int) ≤ 90 := by omega
        have e2 : ¬ (97 : Int) ≤ (c : Int) := by omega
        have e4 : (48 : Int) ≤ (c : Int) := by omega
        have e5 : ¬ (c : Int) ≤ 57 := by omega
        have e6 : ((c : Int) == 95) = false := beq_eq_false_iff_ne.2 (by omega)
        by_cases hk0 : k = 0
        · have e8 : ((k : Int) == 0) = true := by rw [beq_iff_eq]; omega
          clear h hk0
          go_wp2
          go_ret
          exact NmRes.no _ _
        · have e8 : ((k : Int) == 0) = false := beq_eq_false_iff_ne.2 (by omega)
          clear h hk0
          go_wp2
          go_ret
          exact NmRes.no _ _
      · have e0 : (65 : Int) ≤ (c : Int) := by omega
        have e1 : ¬ (c : Int) ≤ 90 := by omega
        have e2 : (97 : Int) ≤ (c : Int) := by omega
        have e3 : ¬ (c : Int) ≤ 122 := by omega
        have e4 : (48 : Int) ≤ (c : Int) := by omega
        have e5 : ¬ (c : Int) ≤ 57 := by omega
        have e6 : ((c : Int) == 95) = false := beq_eq_false_iff_ne.2 (by omega)
        by_cases hk0 : k = 0
        · have e8 : ((k : Int) == 0) = true := by rw [beq_iff_eq]; omega
          clear h hk0
          go_wp2
          go_ret
          exact NmRes.no _ _
        · have e8 : ((k : Int) == 0) = false := beq_eq_false_iff_ne.2 (by omega)
          clear h hk0
          go_wp2
          go_ret
          exact NmRes.no _ _
    · obtain rfl : k = nm.size := by omega
      have HL : Hid (NmGood nm) := Lib.hid ⟨HP.out.1, HP.out.2, fun j h => HG.out j h h⟩
      clear hk hlt
      go_wp2
      go_ret
      exact NmRes.yes HL.out _
set_option maxHeartbeats 8000000 in
set_option maxRecDepth 100000 in
theorem refCheckName_any (nm : ByteArray) (w : World) (hs : nm.size ≤ 100) : Calls Tryz.prog 21 #[.string nm] w fun r w' => ∃ e : Int, r = .returned (.int .i64 e) ∧ (e = 0 → NmGood nm) ∧ w = w' := by
  have HIN := Lib.hid (refIsName_any nm w hs)
  clear hs
  go_enter Tryz.func21, Tryz.ntmps21
  go_wp2_with (go_at_call 49; refine HIN.out.mono ?_; rintro r w1 ⟨b, rfl, hb, rfl⟩; have HB := Lib.hid hb; clear hb; refine Hid.out ?_)
  unfold Hid
  cases b with
  | true =>
    go_wp2
    go_ret
    exact ⟨_, rfl, fun _ => HB.out trivial, rfl⟩
  | false =>
    go_wp2
    go_ret
    exact ⟨_, rfl, fun h => absurd h (by decide), rfl⟩
end Go.Proofs.YtamldoidalnloaaGreatDoor
