/- Part 12 of the texts of the claim: T8, T9, T10. -/
import Derived.Test.YtadcmjnebjgijaaGreatDoorMb11
import Derived.Test.YtadcmjnebjgijaaGreatDoorMb4

/- The program's Parse: six words behind the first. -/
namespace Go.Proofs.YtadcmjnebjgijaaGreatDoor
open Go.RowKit
open Go.Lib
open Calm (bcell Blk)

def cells6 (ms : List Int) : Array Value := ((ms ++ List.replicate (6 - ms.length) 0).map fun z => ((.int .i64 (z)) : Value)).toArray
theorem cells6_zero : cells6 [] = #[(.int .i64 (0)), (.int .i64 (0)), (.int .i64 (0)), (.int .i64 (0)), (.int .i64 (0)), (.int .i64 (0))] := rfl
theorem cells6_size {ms : List Int} (h : ms.length ≤ 6) : (cells6 ms).size = 6 := by simp [cells6]; omega
theorem cells6_set {ms : List Int} (h : ms.length < 6) (m : Int) : (cells6 ms).setIfInBounds ms.length (.int .i64 (m)) = cells6 (ms ++ [m]) := by
  apply Array.ext_getElem?
  intro j
  simp only [cells6, List.setIfInBounds_toArray, List.getElem?_toArray, List.length_append, List.length_singleton, List.map_append, List.map_replicate, List.map_cons, List.map_nil]
  rw [List.getElem?_set]
  by_cases hj : ms.length = j
  · subst hj
    rw [if_pos rfl, if_pos (by simp; omega), List.append_assoc, List.getElem?_append_right (by simp)]
    simp
  · rw [if_neg hj]
    by_cases hl : j < ms.length
    · rw [List.getElem?_append_left (by simpa using hl), List.append_assoc, List.getElem?_append_left (by simpa using hl)]
    · rw [List.getElem?_append_right (by simp; omega), List.append_assoc, List.getElem?_append_right (by simp; omega)]
      obtain ⟨t, rfl⟩ : ∃ t, j = ms.length + 1 + t := ⟨j - ms.length - 1, by omega⟩
      simp only [List.length_map]
      rw [show ms.length + 1 + t - ms.length = t + 1 by omega, List.singleton_append, List.getElem?_cons_succ, List.getElem?_replicate, List.getElem?_replicate]
      by_cases h6 : t + 1 < 6 - ms.length
      · rw [if_pos h6, if_pos (by omega)]
      · rw [if_neg h6, if_neg (by omega)]
/-- the numbers read so far. -/
def NumRel (ws : List (List UInt8)) (k : Nat) (ms : List Int) (q : Bool) : Prop :=
  ms.length = k ∧ (∀ i, i < k → ∀ x, numL (ws.getD i []) = some x → ms.getD i 0 = x) ∧ (q = true ↔ ∃ i, i < k ∧ numL (ws.getD i []) = none)
theorem NumRel.zero (ws : List (List UInt8)) : NumRel ws 0 [] false := ⟨rfl, (fun i h => by omega), ⟨(fun h => by cases h), (fun ⟨i, h, _⟩ => by omega)⟩⟩
theorem NumRel.next {ws : List (List UInt8)} {k : Nat} {ms : List Int} {q : Bool} (h : NumRel ws k ms q) {m : Int} (hm : ∀ x, numL (ws.getD k []) = some x → m = x) : NumRel ws (k + 1) (ms ++ [m]) (q || !(numL (ws.getD k [])).isSome) := by
  obtain ⟨h1, h2, h3⟩ := h
  refine ⟨by simp [h1], fun i hi x hx => ?_, ?_⟩
  · by_cases hik : i = k
    · subst hik
      rw [List.getD_eq_getElem?_getD, List.getElem?_append_right (by omega), h1, Nat.sub_self]
      exact hm x hx
    · rw [List.getD_eq_getElem?_getD, List.getElem?_append_left (by omega), ← List.getD_eq_getElem?_getD]
      exact h2 i (by omega) x hx
  · rw [Bool.or_eq_true, h3]
    constructor
    · rintro (⟨i, hi, e⟩ | e)
      · exact ⟨i, by omega, e⟩
      · exact ⟨k, by omega, by simpa using e⟩
    · rintro ⟨i, hi, e⟩
      by_cases hik : i = k
      · subst hik; exact .inr (by rw [e]; rfl)
      · exact .inl ⟨i, by omega, e⟩
theorem Calm.Blk.grown {w w' : World} {g h : Nat} {cs : Array Value} (K : Blk w h cs) (hg : w.grownBy w' (some g)) (hne : h ≠ g) : Blk w' h cs :=
  K.of_block (hg.block h K.lt (fun e => hne (Option.some.inj e)))
theorem name_w {C : Code} {P : Program} {Q : Exit → Act → World → Prop} {a : Act} {W : World} (h : ∀ W', W' = W → C.wp P Q a W') : C.wp P Q a W := h W rfl
theorem neq141 (a b c d e f : Int) (W : World) : Sem.run Tryz.prog (binOp BinOp.neq 83 (.agg #[(.int .i64 (a)), (.int .i64 (b)), (.int .i64 (c)), (.int .i64 (d)), (.int .i64 (e)), (.int .i64 (f))]) (.agg #[(.int .i64 (a)), (.int .i64 (b)), (.int .i64 (c)), (.int .i64 (d)), (.int .i64 (e)), (.int .i64 (f))])) W = .ok (.bool false) W := by
  obtain ⟨i, hi, _⟩ := info_parts Tryz.infoI
  have hc : Tryz.prog.cellsOf 3 = 1 := by kernel_rfl
  rw [run_neq_struct]
  rw [run_equalIn_array W 9999 _ _ Tryz.underlying83 hi, hc]
  simp [go_sem, Op.eqItems, List.range_succ]
set_option maxRecDepth 100000 in
set_option maxHeartbeats 8000000 in
theorem parse_words (s : ByteArray) (w : World) (hT : Tab w) (h : s.size ≤ 4096) {ws : List (List UInt8)} (hw : cutL 32 s.data.toList = drvW :: ws) (h6 : ws.length = 6)
    (a b' c d e f E : Int) (HRES : Hid (∀ (m1 m2 m3 m4 m5 m6 : Int) (q : Bool), NumRel ws 6 [m1, m2, m3, m4, m5, m6] q →
      (q = true ∧ (a = 0 ∧ b' = 0 ∧ c = 0 ∧ d = 0 ∧ e = 0 ∧ f = 0) ∧ E = 26) ∨ (q = false ∧ drvErr m1 m2 m3 m4 m5 m6 ≠ 0 ∧ (a = 0 ∧ b' = 0 ∧ c = 0 ∧ d = 0 ∧ e = 0 ∧ f = 0) ∧ E = drvErr m1 m2 m3 m4 m5 m6) ∨
      (q = false ∧ drvErr m1 m2 m3 m4 m5 m6 = 0 ∧ (a = m1 ∧ b' = m2 ∧ c = m3 ∧ d = m4 ∧ e = m5 ∧ f = m6) ∧ E = 0))) :
    Calls Tryz.prog 7 #[.string s] w fun r w' => r = .returned (.tuple #[.agg #[(.int .i64 (a)), (.int .i64 (b')), (.int .i64 (c)), (.int .i64 (d)), (.int .i64 (e)), (.int .i64 (f))], (.int .i64 (E))]) ∧ Below w.heap.size w w' := by
  have HWL := Lib.hid (fun x (hx : x ∈ drvW :: ws) => word_len (c := 32) (l := s.data.toList) (x := x) (by rw [hw]; exact hx))
  have HW := Lib.hid hw
  have H6 := Lib.hid h6
  have H7 := Lib.hid (show (drvW :: ws).length = 7 by rw [List.length_cons, h6])
  clear hw h6
  go_enter Tryz.func7, Tryz.ntmps7
  go_wp2_with (go_at_call 34; refine (split_blk s _ (hT.below (by (repeat (first | (with_reducible exact Below.refl _ _) | ((with_reducible refine Below.setCell ?_ ?_ _); rotate_left 1; focus (first | (simp; done) | (simp; omega) | (simp at *; omega))) | ((with_reducible refine Below.alloc ?_ ?_ _); rotate_left 1; focus (first | (simp; done) | (simp; omega) | (simp at *; omega))) | (with_reducible refine Below.drew ?_) | ((with_reducible refine Calm.step (by assumption) ?_ ?_); rotate_left 1; focus (first | (simp; done) | (simp; omega) | (simp at *; omega))))))) h HW.out).mono ?_; rw [H7.out]; rintro r w1 ⟨b, rfl, hb, K, h1⟩; refine Hid.out ?_)
  unfold Hid
  have hB : Below w.heap.size w w1 := ((Below.refl _ _).alloc (Nat.le_refl _) _).trans (h1.mono (by simp))
  have K2 := Lib.hid ((Calm.Blk.new w _ _).below h1)
  have HB := Lib.hid hB
  have hc0 := words_cell K (i := 0) (by rw [H7.out]; decide)
  have KB := Lib.hid K
  have hc : w1.cell? ⟨b, 0, none⟩ = some (.string ⟨#[100, 114, 105, 118, 101, 114]⟩) := hc0
  clear hc0
  have hbl := K.lt
  have hsz := K2.out.lt
  clear h1 K hB
  have HK0 := Lib.hid (Nat.le_refl w.heap.size)
  go_wp2
  refine name_w ?_
  intro w2 e2
  have HB2 := Lib.hid (show Below w.heap.size w w2 from e2.symm ▸ (HB.out.alloc HB.out.size _).alloc (Nat.le_trans HB.out.size (by simp)) _)
  have KB2 := Lib.hid (show Blk w2 b (words (drvW :: ws)).toArray from e2.symm ▸ (KB.out.alloc _).alloc _)
  have KR2 := Lib.hid (show Blk w2 w.heap.size #[(.int .i64 (0)), (.int .i64 (0)), (.int .i64 (0)), (.int .i64 (0)), (.int .i64 (0)), (.int .i64 (0))] from e2.symm ▸ (K2.out.alloc _).alloc _)
  have KG2 := Lib.hid (show Blk w2 w1.heap.size #[.slice (some ⟨b, 1, none⟩) 6 6, .bool false] from e2.symm ▸ (Calm.Blk.new _ _ _).alloc _)
  have KH2 := Lib.hid (show Blk w2 (w1.heap.size + 1) (cells6 []) from e2.symm ▸ Calm.Blk.at_ (by simp))
  clear e2 hc HB KB K2
  go_loopw [33] (fun v wr => ∃ (k : Nat) (ms : List Int) (q : Bool) (A : Option Addr), k ≤ 6 ∧ v = (.int .i64 ((k : Int))) ∧ NumRel ws k ms q ∧ Blk wr w1.heap.size #[.slice A (6 - k) (6 - k), .bool q] ∧ (k < 6 → A = some ⟨b, 1 + k, none⟩) ∧ Blk wr (w1.heap.size + 1) (cells6 ms) ∧ Blk wr b (words (drvW :: ws)).toArray ∧ Blk wr w.heap.size #[(.int .i64 (0)), (.int .i64 (0)), (.int .i64 (0)), (.int .i64 (0)), (.int .i64 (0)), (.int .i64 (0))] ∧ Below w.heap.size w wr) (fun v _ => 6 - (RowKit.intOf v).toNat)
  case atStart => exact ⟨0, [], false, some ⟨b, 1, none⟩, by omega, rfl, NumRel.zero ws, KG2.out, fun _ => rfl, KH2.out, KB2.out, KR2.out, HB2.out⟩
  case round =>
    obtain ⟨k, ms, q, A, hk, rfl, hN, hG, hA, hH, hWd, hR, hBr⟩ := hrel
    clear HB2 KB2 KR2 KG2 KH2
    have HBR := Lib.hid hBr
    have HNR := Lib.hid hN
    have KWD := Lib.hid hWd
    have KR := Lib.hid hR
    have KH := Lib.hid hH
    have hszr := hBr.size
    have hgl := hG.lt
    have hbl2 := hWd.lt
    by_cases hlt : k < 6
    · obtain rfl := hA hlt
      obtain ⟨n, hn⟩ : ∃ n, 6 - k = n + 1 := ⟨5 - k, by omega⟩
      rw [hn] at hG
      have hn6 : n = 5 - k := by omega
      have HN6 := Lib.hid hn6
      have hnle : n ≤ 5 := by omega
      have KG := Lib.hid hG
      have hwc := words_cell hWd (i := k + 1) (by rw [H7.out]; omega)
      rw [List.getD_cons_succ, Nat.add_comm k 1] at hwc
      have hml := HNR.out.1
      obtain ⟨x, hx⟩ : ∃ x, x = ws.getD k [] := ⟨_, rfl⟩
      rw [← hx] at hwc
      have hxl : x.length ≤ 4096 := by
        have hm : x ∈ drvW :: ws := by
          rw [hx, List.getD_eq_getElem?_getD, List.getElem?_eq_getElem (by rw [H6.out]; exact hlt)]
          exact List.mem_cons_of_mem _ (List.getElem_mem _)
        have := HWL.out x hm
        rw [size_list] at this
        omega
      have HX := Lib.hid hx
      have HWC := Lib.hid hwc
      clear hn hn6 hG hwc hx hA hH hWd hR hBr hN
      go_wp2_with (go_at_call 35; refine (taker_any w1.heap.size b (1 + k) n q ⟨x.toArray⟩ wr (hT.below HBR.out) KG HWC.out hbl2 hxl (by omega)).mono ?_; rintro r w3 ⟨m, A', rfl, hm, K3, hA', hg⟩; refine Hid.out ?_)
      unfold Hid
      have hBr3 : Below w.heap.size w w3 := HBR.out.grown hg hszr (fun j hj => by cases hj; omega)
      have KH3 := KH.out.grown hg (by omega)
      have KR3 := Lib.hid (KR.out.grown hg (by omega))
      have KW3 := Lib.hid (KWD.out.grown hg (by omega))
      have HN3 := Lib.hid (HNR.out.next (m := m) (by rw [← HX.out]; exact hm))
      rw [← HX.out] at HN3
      have HA3 := Lib.hid hA'
      have KG3 := Lib.hid K3
      have HB3 := Lib.hid hBr3
      have hck : w3.cell? ⟨w1.heap.size + 1, k, none⟩ = some (.int .i64 (0)) := by
        rw [KH3.c k]
        simp only [cells6, List.getElem?_toArray, List.map_append, List.map_replicate]
        rw [List.getElem?_append_right (by simp; omega), List.getElem?_replicate]
        simp
        omega
      have hcf := KH3.f
      have hgl3 := KH3.lt
      have KH3' := Lib.hid KH3
      clear hm K3 hA' hg hBr3 KH3 HBR HNR KWD KR KH KG HWC HX
      go_wp2
      go_roundw
      case rel =>
        have hne : w1.heap.size + 1 ≠ w1.heap.size := by omega
        refine ⟨k + 1, ms ++ [m], _, A', by omega, by go_num, HN3.out, ?_, fun hk6 => ?_, ?_, KW3.out.far (p := ⟨w1.heap.size + 1, k, none⟩) (show w1.heap.size + 1 ≠ b by omega) _, KR3.out.far (p := ⟨w1.heap.size + 1, k, none⟩) (show w1.heap.size + 1 ≠ w.heap.size by omega) _, HB3.out.setCell (p := ⟨w1.heap.size + 1, k, none⟩) (show w.heap.size ≤ w1.heap.size + 1 by omega) _⟩
        · rw [show 6 - (k + 1) = n by have := HN6.out; omega]
          exact KG3.out.far (p := ⟨w1.heap.size + 1, k, none⟩) hne _
        · have := HA3.out (by have := HN6.out; omega)
          rw [this, Nat.add_assoc]
        · have := KH3'.out.set (i := k) (by rw [cells6_size (by omega)]; exact hlt) (.int .i64 (m))
          have e := cells6_set (ms := ms) (by omega) m
          rw [hml] at e
          rw [e] at this
          exact this
      case measure => simp [RowKit.intOf]; omega
    · obtain rfl : k = 6 := by omega
      have hml := HNR.out.1
      obtain ⟨m1, m2, m3, m4, m5, m6, rfl⟩ : ∃ m1 m2 m3 m4 m5 m6, ms = [m1, m2, m3, m4, m5, m6] := by
        match ms, hml with
        | [m1, m2, m3, m4, m5, m6], _ => exact ⟨m1, m2, m3, m4, m5, m6, rfl⟩
      have hH6 : Blk wr (w1.heap.size + 1) #[(.int .i64 (m1)), (.int .i64 (m2)), (.int .i64 (m3)), (.int .i64 (m4)), (.int .i64 (m5)), (.int .i64 (m6))] := hH
      obtain ⟨d0, d1, d2, d3, d4, d5, dl, df⟩ := hH6.o6
      obtain ⟨g0, g1, gl, gf⟩ := hG.o2
      have hne := neq141 m1 m2 m3 m4 m5 m6
      have e6 : ((6 : Nat) : Int) = 6 := rfl
      rw [e6]
      clear hN hA hH hWd hBr hml KH KWD HWL
      go_wp2
      refine name_w ?_
      intro w4 e4
      have HB4 := Lib.hid (show Below w.heap.size w w4 from e4.symm ▸ HBR.out.alloc HBR.out.size _)
      have KR4 := Lib.hid (show Blk w4 w.heap.size #[(.int .i64 (0)), (.int .i64 (0)), (.int .i64 (0)), (.int .i64 (0)), (.int .i64 (0)), (.int .i64 (0))] from e4.symm ▸ KR.out.alloc _)
      have KG4 := (show Blk w4 w1.heap.size #[.slice A (6 - 6) (6 - 6), .bool q] from e4.symm ▸ hG.alloc _)
      have KH4 := (show Blk w4 (w1.heap.size + 1) #[(.int .i64 (m1)), (.int .i64 (m2)), (.int .i64 (m3)), (.int .i64 (m4)), (.int .i64 (m5)), (.int .i64 (m6))] from e4.symm ▸ hH6.alloc _)
      have KD4 := (show Blk w4 wr.heap.size #[(.int .i64 (m1)), (.int .i64 (m2)), (.int .i64 (m3)), (.int .i64 (m4)), (.int .i64 (m5)), (.int .i64 (m6))] from e4.symm ▸ Calm.Blk.new _ _ _)
      have KD := Lib.hid KD4
      clear e4 d0 d1 d2 d3 d4 d5 dl df g0 g1 gl gf hG hH6
      obtain ⟨d0, d1, d2, d3, d4, d5, dl, df⟩ := KH4.o6
      obtain ⟨c0, c1, c2, c3, c4, c5, cl, cf⟩ := KD4.o6
      obtain ⟨g0, g1, gl, gf⟩ := KG4.o2
      clear KH4 KD4 KG4
      rcases HRES.out _ _ _ _ _ _ _ HNR.out with ⟨rfl, ⟨rfl, rfl, rfl, rfl, rfl, rfl⟩, rfl⟩ | ⟨rfl, h0, ⟨rfl, rfl, rfl, rfl, rfl, rfl⟩, rfl⟩ | ⟨rfl, h0, ⟨rfl, rfl, rfl, rfl, rfl, rfl⟩, rfl⟩
      · obtain ⟨r0, r1, r2, r3, r4, r5, rl, rf⟩ := KR4.out.o6
        go_region
        go_wp2
        refine name_post ?_
        intro W eW
        have KF : Blk W w.heap.size #[(.int .i64 (0)), (.int .i64 (0)), (.int .i64 (0)), (.int .i64 (0)), (.int .i64 (0)), (.int .i64 (0))] := eW.symm ▸ (zeros_blk KR4.out 0 0 0 0 0 0).drew
        have HF : Below w.heap.size w W := eW.symm ▸ (zeros_below HB4.out (Nat.le_refl _) 0 0 0 0 0 0).drew
        clear eW
        exact bodyPost_ret (parse_res rfl rfl KF) rfl ⟨rfl, HF⟩
      · obtain ⟨r0, r1, r2, r3, r4, r5, rl, rf⟩ := KR4.out.o6
        refine Rel.region3 9 (by kernel_rfl) (by kernel_rfl) (by kernel_rfl) ?_
        simp only [List.take_succ_cons, List.take_zero, List.drop_succ_cons, List.drop_zero, List.filterMap_cons, List.filterMap_nil]
        iterate 4 (apply Rel.op3; (focus (first | exact Rel.gno rfl | exact Rel.gyes _ true _ rfl rfl rfl | exact Rel.gyes _ false _ rfl rfl rfl)); (focus (intro a W hb hd hbase; obtain ⟨hc, hf⟩ := bcell hb; clear hb hf; simp [Rel.deps, Rel.dep1, Rel.ons, Region.binds, Act.eval] at hd; simp only [Act.eval, List.mem_cons, List.not_mem_nil, not_or, and_imp, or_false, Array.getD_eq_getD_getElem?] at hbase; go_simp; (try go_bits); (try rfl); done)); (try simp only [List.nil_append, List.cons_append]))
        (apply Rel.op3 (.bool false); (focus (first | exact Rel.gno rfl | exact Rel.gyes _ true _ rfl rfl rfl | exact Rel.gyes _ false _ rfl rfl rfl)); (focus (intro a W hb hd hbase; obtain ⟨hc, hf⟩ := bcell hb; clear hb hf; simp [Rel.deps, Rel.dep1, Rel.ons, Region.binds, Act.eval] at hd; simp only [Act.eval, List.mem_cons, List.not_mem_nil, not_or, and_imp, or_false, Array.getD_eq_getD_getElem?] at hbase; go_simp; (try go_bits); (try rfl); done)); (try simp only [List.nil_append, List.cons_append]))
        iterate 1 (apply Rel.op3; (focus (first | exact Rel.gno rfl | exact Rel.gyes _ true _ rfl rfl rfl | exact Rel.gyes _ false _ rfl rfl rfl)); (focus (intro a W hb hd hbase; obtain ⟨hc, hf⟩ := bcell hb; clear hb hf; simp [Rel.deps, Rel.dep1, Rel.ons, Region.binds, Act.eval] at hd; simp only [Act.eval, List.mem_cons, List.not_mem_nil, not_or, and_imp, or_false, Array.getD_eq_getD_getElem?] at hbase; go_simp; (try go_bits); (try rfl); done)); (try simp only [List.nil_append, List.cons_append]))
        (apply Rel.call3; (focus (first | exact Rel.gno rfl | exact Rel.gyes _ true _ rfl rfl rfl | exact Rel.gyes _ false _ rfl rfl rfl)); (focus (intro a W hb hd hbase; obtain ⟨hc, hf⟩ := bcell hb; clear hb hf; simp [Rel.deps, Rel.dep1, Rel.ons, Region.binds, Act.eval] at hd; simp only [Act.eval, List.mem_cons, List.not_mem_nil, not_or, and_imp, or_false, Array.getD_eq_getD_getElem?] at hbase; go_simp; refine ⟨?_, ?_⟩; rfl; rfl)); (focus (intro W hb; go_at_call 32; exact numbers_any _ _ _ _ _ _ _)); (try simp only [List.nil_append, List.cons_append]))
        iterate 1 (apply Rel.op3; (focus (first | exact Rel.gno rfl | exact Rel.gyes _ true _ rfl rfl rfl | exact Rel.gyes _ false _ rfl rfl rfl)); (focus (intro a W hb hd hbase; obtain ⟨hc, hf⟩ := bcell hb; clear hb hf; simp [Rel.deps, Rel.dep1, Rel.ons, Region.binds, Act.eval] at hd; simp only [Act.eval, List.mem_cons, List.not_mem_nil, not_or, and_imp, or_false, Array.getD_eq_getD_getElem?] at hbase; go_simp; (try go_bits); (try rfl); done)); (try simp only [List.nil_append, List.cons_append]))
        (apply Rel.op3 (.bool false); (focus (first | exact Rel.gno rfl | exact Rel.gyes _ true _ rfl rfl rfl | exact Rel.gyes _ false _ rfl rfl rfl)); (focus (intro a W hb hd hbase; obtain ⟨hc, hf⟩ := bcell hb; clear hb hf; simp [Rel.deps, Rel.dep1, Rel.ons, Region.binds, Act.eval] at hd; simp only [Act.eval, List.mem_cons, List.not_mem_nil, not_or, and_imp, or_false, Array.getD_eq_getD_getElem?] at hbase; go_simp; (try go_bits); (try rfl); done)); (try simp only [List.nil_append, List.cons_append]))
        refine Rel.done3 ?_
        intro x w5 h5 hx
        simp only [Rel.facts, Nat.zero_add, Nat.reduceAdd] at hx
        obtain ⟨e0, e1, e2, e3, e4, e5, e6, e7, e8, _⟩ := hx
        simp only [Rel.fill, Nat.zero_add, Nat.reduceAdd, e0, e1, e2, e3, e4, e5, e6, e7, e8]
        simp only [Act.put, List.setIfInBounds_toArray, List.set_cons_zero, List.set_cons_succ]
        clear e0 e1 e2 e3 e4 e5 e6 e7 e8
        have KR5 := Lib.hid (KR4.out.below h5)
        have KD5 := KD.out.below h5
        have HB5 := Lib.hid (HB4.out.trans (h5.mono HB4.out.size))
        clear c0 c1 c2 c3 c4 c5 cl cf d0 d1 d2 d3 d4 d5 dl df g0 g1 gl gf r0 r1 r2 r3 r4 r5 rl rf hne x h5
        obtain ⟨c0, c1, c2, c3, c4, c5, cl, cf⟩ := KD5.o6
        have he0 : (drvErr m1 m2 m3 m4 m5 m6 == 0) = false := by simpa using h0
        have HL := Lib.hid (hT.below HB5.out).lim
        obtain ⟨D, hD⟩ : ∃ D, D = drvErr m1 m2 m3 m4 m5 m6 := ⟨_, rfl⟩
        rw [← hD] at he0 h0
        have HDE := Lib.hid hD
        clear hD KD5
        go_wp2_with (go_at_call 31; refine (checkDriver_any m1 m2 m3 m4 m5 m6 _ HL.out).mono ?_; rw [← HDE.out]; rintro r w6 ⟨rfl, h6⟩; refine Hid.out ?_)
        unfold Hid
        have KR6 := Lib.hid (KR5.out.below h6)
        have HB6 := Lib.hid (HB5.out.trans (h6.mono HB5.out.size))
        obtain ⟨r0, r1, r2, r3, r4, r5, rl, rf⟩ := KR6.out.o6
        go_wp2
        refine name_post ?_
        intro W eW
        have KF : Blk W w.heap.size #[(.int .i64 (0)), (.int .i64 (0)), (.int .i64 (0)), (.int .i64 (0)), (.int .i64 (0)), (.int .i64 (0))] := eW.symm ▸ zeros_blk KR6.out 0 0 0 0 0 0
        have HF : Below w.heap.size w W := eW.symm ▸ zeros_below HB6.out (Nat.le_refl _) 0 0 0 0 0 0
        clear eW
        rw [← HDE.out]
        exact bodyPost_ret (parse_res rfl rfl KF) rfl ⟨rfl, HF⟩
      · obtain ⟨r0, r1, r2, r3, r4, r5, rl, rf⟩ := KR4.out.o6
        refine Rel.region3 9 (by kernel_rfl) (by kernel_rfl) (by kernel_rfl) ?_
        simp only [List.take_succ_cons, List.take_zero, List.drop_succ_cons, List.drop_zero, List.filterMap_cons, List.filterMap_nil]
        iterate 4 (apply Rel.op3; (focus (first | exact Rel.gno rfl | exact Rel.gyes _ true _ rfl rfl rfl | exact Rel.gyes _ false _ rfl rfl rfl)); (focus (intro a W hb hd hbase; obtain ⟨hc, hf⟩ := bcell hb; clear hb hf; simp [Rel.deps, Rel.dep1, Rel.ons, Region.binds, Act.eval] at hd; simp only [Act.eval, List.mem_cons, List.not_mem_nil, not_or, and_imp, or_false, Array.getD_eq_getD_getElem?] at hbase; go_simp; (try go_bits); (try rfl); done)); (try simp only [List.nil_append, List.cons_append]))
        (apply Rel.op3 (.bool false); (focus (first | exact Rel.gno rfl | exact Rel.gyes _ true _ rfl rfl rfl | exact Rel.gyes _ false _ rfl rfl rfl)); (focus (intro a W hb hd hbase; obtain ⟨hc, hf⟩ := bcell hb; clear hb hf; simp [Rel.deps, Rel.dep1, Rel.ons, Region.binds, Act.eval] at hd; simp only [Act.eval, List.mem_cons, List.not_mem_nil, not_or, and_imp, or_false, Array.getD_eq_getD_getElem?] at hbase; go_simp; (try go_bits); (try rfl); done)); (try simp only [List.nil_append, List.cons_append]))
        iterate 1 (apply Rel.op3; (focus (first | exact Rel.gno rfl | exact Rel.gyes _ true _ rfl rfl rfl | exact Rel.gyes _ false _ rfl rfl rfl)); (focus (intro a W hb hd hbase; obtain ⟨hc, hf⟩ := bcell hb; clear hb hf; simp [Rel.deps, Rel.dep1, Rel.ons, Region.binds, Act.eval] at hd; simp only [Act.eval, List.mem_cons, List.not_mem_nil, not_or, and_imp, or_false, Array.getD_eq_getD_getElem?] at hbase; go_simp; (try go_bits); (try rfl); done)); (try simp only [List.nil_append, List.cons_append]))
        (apply Rel.call3; (focus (first | exact Rel.gno rfl | exact Rel.gyes _ true _ rfl rfl rfl | exact Rel.gyes _ false _ rfl rfl rfl)); (focus (intro a W hb hd hbase; obtain ⟨hc, hf⟩ := bcell hb; clear hb hf; simp [Rel.deps, Rel.dep1, Rel.ons, Region.binds, Act.eval] at hd; simp only [Act.eval, List.mem_cons, List.not_mem_nil, not_or, and_imp, or_false, Array.getD_eq_getD_getElem?] at hbase; go_simp; refine ⟨?_, ?_⟩; rfl; rfl)); (focus (intro W hb; go_at_call 32; exact numbers_any _ _ _ _ _ _ _)); (try simp only [List.nil_append, List.cons_append]))
        iterate 1 (apply Rel.op3; (focus (first | exact Rel.gno rfl | exact Rel.gyes _ true _ rfl rfl rfl | exact Rel.gyes _ false _ rfl rfl rfl)); (focus (intro a W hb hd hbase; obtain ⟨hc, hf⟩ := bcell hb; clear hb hf; simp [Rel.deps, Rel.dep1, Rel.ons, Region.binds, Act.eval] at hd; simp only [Act.eval, List.mem_cons, List.not_mem_nil, not_or, and_imp, or_false, Array.getD_eq_getD_getElem?] at hbase; go_simp; (try go_bits); (try rfl); done)); (try simp only [List.nil_append, List.cons_append]))
        (apply Rel.op3 (.bool false); (focus (first | exact Rel.gno rfl | exact Rel.gyes _ true _ rfl rfl rfl | exact Rel.gyes _ false _ rfl rfl rfl)); (focus (intro a W hb hd hbase; obtain ⟨hc, hf⟩ := bcell hb; clear hb hf; simp [Rel.deps, Rel.dep1, Rel.ons, Region.binds, Act.eval] at hd; simp only [Act.eval, List.mem_cons, List.not_mem_nil, not_or, and_imp, or_false, Array.getD_eq_getD_getElem?] at hbase; go_simp; (try go_bits); (try rfl); done)); (try simp only [List.nil_append, List.cons_append]))
        refine Rel.done3 ?_
        intro x w5 h5 hx
        simp only [Rel.facts, Nat.zero_add, Nat.reduceAdd] at hx
        obtain ⟨e0, e1, e2, e3, e4, e5, e6, e7, e8, _⟩ := hx
        simp only [Rel.fill, Nat.zero_add, Nat.reduceAdd, e0, e1, e2, e3, e4, e5, e6, e7, e8]
        simp only [Act.put, List.setIfInBounds_toArray, List.set_cons_zero, List.set_cons_succ]
        clear e0 e1 e2 e3 e4 e5 e6 e7 e8
        have KR5 := Lib.hid (KR4.out.below h5)
        have KD5 := KD.out.below h5
        have HB5 := Lib.hid (HB4.out.trans (h5.mono HB4.out.size))
        clear c0 c1 c2 c3 c4 c5 cl cf d0 d1 d2 d3 d4 d5 dl df g0 g1 gl gf r0 r1 r2 r3 r4 r5 rl rf hne x h5
        obtain ⟨c0, c1, c2, c3, c4, c5, cl, cf⟩ := KD5.o6
        have HL := Lib.hid (hT.below HB5.out).lim
        have HDE := Lib.hid h0
        have KD5' := Lib.hid KD5
        clear KD5 h0
        go_wp2_with (go_at_call 31; refine (checkDriver_any a b' c d e f _ HL.out).mono ?_; rw [HDE.out]; rintro r w6 ⟨rfl, h6⟩; refine Hid.out ?_)
        unfold Hid
        have KR6 := Lib.hid (KR5.out.below h6)
        have HB6 := Lib.hid (HB5.out.trans (h6.mono HB5.out.size))
        obtain ⟨r0, r1, r2, r3, r4, r5, rl, rf⟩ := KR6.out.o6
        clear c0 c1 c2 c3 c4 c5 cl cf
        obtain ⟨c0, c1, c2, c3, c4, c5, cl, cf⟩ := (KD5'.out.below h6).o6
        go_wp2
        refine name_post ?_
        intro W eW
        have KF : Blk W w.heap.size #[(.int .i64 (a)), (.int .i64 (b')), (.int .i64 (c)), (.int .i64 (d)), (.int .i64 (e)), (.int .i64 (f))] := eW.symm ▸ zeros_blk KR6.out a b' c d e f
        have HF : Below w.heap.size w W := eW.symm ▸ zeros_below HB6.out (Nat.le_refl _) a b' c d e f
        clear eW
        exact bodyPost_ret (parse_res rfl rfl KF) rfl ⟨rfl, HF⟩

/-- Parse answers as the plain law says. -/
theorem parse_any {l : List UInt8} {a b c d e f E : Int} (hP : PRes l a b c d e f E) (s : ByteArray) (hs : s.data.toList = l) (w : World) (hT : Tab w) :
    Calls Tryz.prog 7 #[.string s] w fun r w' => r = .returned (.tuple #[.agg #[(.int .i64 (a)), (.int .i64 (b)), (.int .i64 (c)), (.int .i64 (d)), (.int .i64 (e)), (.int .i64 (f))], (.int .i64 (E))]) ∧ Below w.heap.size w w' := by
  have hlen : l.length = s.size := by rw [← hs, size_list]
  rcases hP with ⟨h1, ⟨rfl, rfl, rfl, rfl, rfl, rfl⟩, rfl⟩ | ⟨h1, h2, ⟨rfl, rfl, rfl, rfl, rfl, rfl⟩, rfl⟩ | ⟨h1, w1, w2, w3, w4, w5, w6, hw, h2⟩
  · exact parse_long s w (by omega)
  · by_cases h7 : (cutL 32 l).length = 7
    · exact parse_head s w hT (by omega) (ws := cutL 32 l) (by rw [hs]) h7 (h2.resolve_left (fun h => h h7))
    · exact parse_len s w hT (by omega) (ws := cutL 32 l) (by rw [hs]) h7
  · refine parse_words s w hT (by omega) (ws := [w1, w2, w3, w4, w5, w6]) (by rw [hs]; exact hw) rfl a b c d e f E (Lib.hid fun m1 m2 m3 m4 m5 m6 q hN => ?_)
    obtain ⟨_, hv, hq⟩ := hN
    rcases h2 with ⟨h3, hz, hE⟩ | ⟨n1, n2, n3, n4, n5, n6, ⟨e1, e2, e3, e4, e5, e6⟩, h4⟩
    · refine .inl ⟨hq.2 ?_, hz, hE⟩
      rcases h3 with h | h | h | h | h | h
      · exact ⟨0, by omega, h⟩
      · exact ⟨1, by omega, h⟩
      · exact ⟨2, by omega, h⟩
      · exact ⟨3, by omega, h⟩
      · exact ⟨4, by omega, h⟩
      · exact ⟨5, by omega, h⟩
    · have hq0 : q = false := by
        cases q with
        | false => rfl
        | true =>
          obtain ⟨i, hi, hn⟩ := hq.1 rfl
          have : i = 0 ∨ i = 1 ∨ i = 2 ∨ i = 3 ∨ i = 4 ∨ i = 5 := by omega
          rcases this with rfl | rfl | rfl | rfl | rfl | rfl
          · exact absurd (e1.symm.trans hn) (by simp)
          · exact absurd (e2.symm.trans hn) (by simp)
          · exact absurd (e3.symm.trans hn) (by simp)
          · exact absurd (e4.symm.trans hn) (by simp)
          · exact absurd (e5.symm.trans hn) (by simp)
          · exact absurd (e6.symm.trans hn) (by simp)
      have v1 : m1 = n1 := hv 0 (by omega) n1 e1
      have v2 : m2 = n2 := hv 1 (by omega) n2 e2
      have v3 : m3 = n3 := hv 2 (by omega) n3 e3
      have v4 : m4 = n4 := hv 3 (by omega) n4 e4
      have v5 : m5 = n5 := hv 4 (by omega) n5 e5
      have v6 : m6 = n6 := hv 5 (by omega) n6 e6
      subst v1 v2 v3 v4 v5 v6
      rcases h4 with ⟨h5, hz, hE⟩ | ⟨h5, hz, hE⟩
      · exact .inr (.inl ⟨hq0, h5, hz, hE⟩)
      · exact .inr (.inr ⟨hq0, h5, hz, hE⟩)
end Go.Proofs.YtadcmjnebjgijaaGreatDoor

/- The reference's Parse. -/
namespace Go.Proofs.YtadcmjnebjgijaaGreatDoor
open Go.RowKit
open Go.Lib
open Calm (bcell Blk)
/-- the words at an address. -/
def WCells (w : World) (g : Nat) (ws : List (List UInt8)) : Prop := g < w.heap.size ∧ ∀ i, i < ws.length → w.cell? ⟨g, i, none⟩ = some (.string ⟨(ws.getD i []).toArray⟩)
theorem WCells.below {w w' : World} {g : Nat} {ws : List (List UInt8)} (h : WCells w g ws) (hb : Below w.heap.size w w') : WCells w' g ws :=
  ⟨Nat.lt_of_lt_of_le h.1 hb.size, fun i hi => (hb.cell (p := ⟨g, i, none⟩) h.1).trans (h.2 i hi)⟩
theorem own_words {W : World} {base : Nat} {e : TypeId} {v : Value} {ws : List (List UInt8)} (h : W.ownsRow base e 1 v ws.length (words ws)) (h0 : 0 < ws.length) : ∃ g c, v = .slice (some ⟨g, 0, none⟩) ws.length c ∧ WCells W g ws := by
  rcases h.2 with ⟨h1, h2⟩ | ⟨g, cap, cur, h1, h2, h3, h4, h5, h6, h7⟩
  · exfalso
    omega
  · refine ⟨g, cap, h1, (Array.getElem?_eq_some_iff.1 h3).1, fun i hi => ?_⟩
    rw [cell_of_row W g i cur _ _ h3]
    have hj : (words ws)[i]? = some (.string ⟨(ws.getD i []).toArray⟩) := by
      unfold words
      rw [List.getElem?_map, List.getElem?_eq_getElem hi, List.getD_eq_getElem?_getD, List.getElem?_eq_getElem hi]; rfl
    rw [← h7, List.getElem?_take] at hj
    split at hj
    · simpa using hj
    · cases hj
theorem rparse_res {tmps : Array Value} {g : Nat} {W : World} {a b c d e f E : Int} (h2 : tmps[2]?.getD undef = .pointer (some ⟨g, 0, none⟩)) (h3 : tmps[3]?.getD undef = (.int .i64 (E))) (K : Blk W g #[(.int .i64 (a)), (.int .i64 (b)), (.int .i64 (c)), (.int .i64 (d)), (.int .i64 (e)), (.int .i64 (f))]) :
    (results Tryz.f10 tmps).run Tryz.prog W = .ok (.tuple #[.agg #[(.int .i64 (a)), (.int .i64 (b)), (.int .i64 (c)), (.int .i64 (d)), (.int .i64 (e)), (.int .i64 (f))], (.int .i64 (E))]) W := by
  obtain ⟨f0, f1, f2, f3, f4, f5, fl, ff⟩ := K.o6
  simp [results, Tryz.results10, go_sem, h2, h3, f0, f1, f2, f3, f4, f5]
set_option maxRecDepth 100000 in
theorem rparse_long (s : ByteArray) (w : World) (h : 4096 < s.size) : Calls Tryz.prog 10 #[.string s] w fun r w' => r = .returned (.tuple #[zer, (.int .i64 (27))]) ∧ Below w.heap.size w w' := by
  go_enter Tryz.func10, Tryz.ntmps10
  go_wp2
  refine bodyPost_ret (v := .tuple #[zer, (.int .i64 (27))]) (by simp [results, Tryz.results10, go_sem, zer, *]) rfl ⟨rfl, ?_⟩
  repeat (first | (with_reducible exact Below.refl _ _) | ((with_reducible refine Below.setCell ?_ ?_ _); rotate_left 1; focus (first | (simp; done) | (simp; omega) | (simp at *; omega))) | ((with_reducible refine Below.alloc ?_ ?_ _); rotate_left 1; focus (first | (simp; done) | (simp; omega) | (simp at *; omega))) | (with_reducible refine Below.drew ?_) | ((with_reducible refine Calm.step (by assumption) ?_ ?_); rotate_left 1; focus (first | (simp; done) | (simp; omega) | (simp at *; omega))))
theorem rsplit (s : ByteArray) (w : World) (hs : s.size ≤ 4096) {ws : List (List UInt8)} (hw : cutL 32 s.data.toList = ws) :
    Calls Tryz.prog 39 #[.string s, .int .u8 32] w fun r w' => ∃ g c, r = .returned (.slice (some ⟨g, 0, none⟩) ws.length c) ∧ WCells w' g ws ∧ Below w.heap.size w w' := by
  subst hw
  refine (refSplit_any s w (by omega)).mono ?_
  rintro r w' ⟨v, rfl, ho, hb⟩
  obtain ⟨g, c, rfl, hc⟩ := own_words ho (List.length_pos_iff.2 (cutL_ne _ _))
  exact ⟨g, c, rfl, hc, hb⟩
set_option maxRecDepth 100000 in
set_option maxHeartbeats 2000000 in
theorem rparse_len (s : ByteArray) (w : World) (h : s.size ≤ 4096) {ws : List (List UInt8)} (hw : cutL 32 s.data.toList = ws) (h7 : ws.length ≠ 7) : Calls Tryz.prog 10 #[.string s] w fun r w' => r = .returned (.tuple #[zer, (.int .i64 (26))]) ∧ Below w.heap.size w w' := by
  have hn : ((ws.length : Int) == 7) = false := beq_eq_false_iff_ne.2 (by omega)
  have hn2 : ¬ (ws.length : Int) = 7 := by omega
  have HW := Lib.hid hw
  obtain ⟨n, hN⟩ : ∃ n, n = ws.length := ⟨_, rfl⟩
  have HN := Lib.hid hN
  rw [← hN] at hn hn2 h7
  have hn3 : ¬ n = 7 := h7
  clear hw h7 hN
  go_enter Tryz.func10, Tryz.ntmps10
  go_wp2_with (go_at_call 39; refine (rsplit s _ h HW.out).mono ?_; rw [← HN.out]; rintro r w1 ⟨b, c, rfl, K, h1⟩; refine Hid.out ?_)
  unfold Hid
  have hB : Below w.heap.size w w1 := ((Below.refl _ _).alloc (Nat.le_refl _) _).trans (h1.mono (by simp))
  have K2 := Lib.hid ((Calm.Blk.new w _ _).below h1)
  have HB := Lib.hid hB
  clear h1 K hB
  obtain ⟨f0, f1, f2, f3, f4, f5, fl, ff⟩ := K2.out.o6
  go_wp2
  refine name_post ?_
  intro W eW
  have KF : Blk W w.heap.size #[(.int .i64 (0)), (.int .i64 (0)), (.int .i64 (0)), (.int .i64 (0)), (.int .i64 (0)), (.int .i64 (0))] := eW.symm ▸ zeros_blk K2.out 0 0 0 0 0 0
  have HF : Below w.heap.size w W := eW.symm ▸ zeros_below HB.out (Nat.le_refl _) 0 0 0 0 0 0
  clear eW f0 f1 f2 f3 f4 f5 fl ff
  exact bodyPost_ret (rparse_res rfl rfl KF) rfl ⟨rfl, HF⟩
set_option maxRecDepth 100000 in
set_option maxHeartbeats 2000000 in
theorem rparse_head (s : ByteArray) (w : World) (h : s.size ≤ 4096) {ws : List (List UInt8)} (hw : cutL 32 s.data.toList = ws) (h7 : ws.length = 7) (hd : ws.head? ≠ some drvW) : Calls Tryz.prog 10 #[.string s] w fun r w' => r = .returned (.tuple #[zer, (.int .i64 (26))]) ∧ Below w.heap.size w w' := by
  obtain ⟨x, hx⟩ : ∃ x, x = ws.getD 0 [] := ⟨_, rfl⟩
  have hxd : (x == [100, 114, 105, 118, 101, 114]) = false := beq_eq_false_iff_ne.2 (fun e => hd (by
    rw [List.head?_eq_getElem?, List.getElem?_eq_getElem (by omega)]
    rw [List.getD_eq_getElem?_getD, List.getElem?_eq_getElem (by omega)] at hx
    rw [← show x = ws[0] from hx, e]; rfl))
  have HX := Lib.hid hx
  have HW := Lib.hid hw
  have H7 := Lib.hid h7
  clear hw h7 hx hd
  go_enter Tryz.func10, Tryz.ntmps10
  go_wp2_with (go_at_call 39; refine (rsplit s _ h HW.out).mono ?_; rw [H7.out]; rintro r w1 ⟨b, c, rfl, K, h1⟩; refine Hid.out ?_)
  unfold Hid
  have hB : Below w.heap.size w w1 := ((Below.refl _ _).alloc (Nat.le_refl _) _).trans (h1.mono (by simp))
  have K2 := Lib.hid ((Calm.Blk.new w _ _).below h1)
  have HB := Lib.hid hB
  have hc := K.2 0 (by rw [H7.out]; decide)
  rw [← HX.out] at hc
  clear h1 K hB
  obtain ⟨f0, f1, f2, f3, f4, f5, fl, ff⟩ := K2.out.o6
  go_wp2
  refine name_post ?_
  intro W eW
  have KF : Blk W w.heap.size #[(.int .i64 (0)), (.int .i64 (0)), (.int .i64 (0)), (.int .i64 (0)), (.int .i64 (0)), (.int .i64 (0))] := eW.symm ▸ zeros_blk K2.out 0 0 0 0 0 0
  have HF : Below w.heap.size w W := eW.symm ▸ zeros_below HB.out (Nat.le_refl _) 0 0 0 0 0 0
  clear eW f0 f1 f2 f3 f4 f5 fl ff
  exact bodyPost_ret (rparse_res rfl rfl KF) rfl ⟨rfl, HF⟩
set_option maxRecDepth 100000 in
set_option maxHeartbeats 8000000 in
theorem rparse_words (s : ByteArray) (w : World) (h : s.size ≤ 4096) {ws : List (List UInt8)} (hw : cutL 32 s.data.toList = drvW :: ws) (h6 : ws.length = 6)
    (a b' c d e f E : Int) (HNO : Hid ((∃ i, i < 6 ∧ numL (ws.getD i []) = none) → (a = 0 ∧ b' = 0 ∧ c = 0 ∧ d = 0 ∧ e = 0 ∧ f = 0) ∧ E = 26))
    (HRES : Hid (∀ (m1 m2 m3 m4 m5 m6 : Int), NumRel ws 6 [m1, m2, m3, m4, m5, m6] false →
      (drvErr m1 m2 m3 m4 m5 m6 ≠ 0 ∧ (a = 0 ∧ b' = 0 ∧ c = 0 ∧ d = 0 ∧ e = 0 ∧ f = 0) ∧ E = drvErr m1 m2 m3 m4 m5 m6) ∨
      (drvErr m1 m2 m3 m4 m5 m6 = 0 ∧ (a = m1 ∧ b' = m2 ∧ c = m3 ∧ d = m4 ∧ e = m5 ∧ f = m6) ∧ E = 0))) :
    Calls Tryz.prog 10 #[.string s] w fun r w' => r = .returned (.tuple #[.agg #[(.int .i64 (a)), (.int .i64 (b')), (.int .i64 (c)), (.int .i64 (d)), (.int .i64 (e)), (.int .i64 (f))], (.int .i64 (E))]) ∧ Below w.heap.size w w' := by
  have HWL := Lib.hid (fun x (hx : x ∈ drvW :: ws) => word_len (c := 32) (l := s.data.toList) (x := x) (by rw [hw]; exact hx))
  have HW := Lib.hid hw
  have H6 := Lib.hid h6
  have H7 := Lib.hid (show (drvW :: ws).length = 7 by rw [List.length_cons, h6])
  clear hw h6
  go_enter Tryz.func10, Tryz.ntmps10
  go_wp2_with (go_at_call 39; refine (rsplit s _ h HW.out).mono ?_; rw [H7.out]; rintro r w1 ⟨b, cc, rfl, K, h1⟩; refine Hid.out ?_)
  unfold Hid
  have hB : Below w.heap.size w w1 := ((Below.refl _ _).alloc (Nat.le_refl _) _).trans (h1.mono (by simp))
  have K2 := Lib.hid ((Calm.Blk.new w _ _).below h1)
  have HB := Lib.hid hB
  have hc0 := K.2 0 (by rw [H7.out]; decide)
  have KB := Lib.hid K
  have hc : w1.cell? ⟨b, 0, none⟩ = some (.string ⟨#[100, 114, 105, 118, 101, 114]⟩) := hc0
  clear hc0
  have hbl := K.1
  have hsz := K2.out.lt
  clear h1 K hB
  go_wp2
  refine name_w ?_
  intro w2 e2
  have HB2 := Lib.hid (show Below w1.heap.size w1 w2 from e2.symm ▸ (Below.refl _ _).alloc (Nat.le_refl _) _)
  have KH2 := Lib.hid (show Blk w2 w1.heap.size (cells6 []) from e2.symm ▸ Calm.Blk.new _ _ _)
  clear e2 hc
  go_loopw [6] (fun v wr => ∃ (k : Nat) (ms : List Int), k ≤ 6 ∧ v = (.int .i64 ((k : Int))) ∧ NumRel ws k ms false ∧ Blk wr w1.heap.size (cells6 ms) ∧ Below w1.heap.size w1 wr) (fun v _ => 6 - (RowKit.intOf v).toNat)
  case atStart => exact ⟨0, [], by omega, rfl, NumRel.zero ws, KH2.out, HB2.out⟩
  case round =>
    obtain ⟨k, ms, hk, rfl, hN, hH, hBr⟩ := hrel
    clear HB2 KH2
    have HBR := Lib.hid hBr
    have HNR := Lib.hid hN
    have KH := Lib.hid hH
    have hszr := hBr.size
    have hgl := hH.lt
    have KR := Lib.hid (K2.out.below hBr)
    have HBW := Lib.hid (HB.out.trans (hBr.mono HB.out.size))
    have hbl2 : b < wr.heap.size := by omega
    by_cases hlt : k < 6
    · have hwc := (KB.out.below hBr).2 (k + 1) (by rw [H7.out]; omega)
      rw [List.getD_cons_succ] at hwc
      have hml := HNR.out.1
      obtain ⟨x, hx⟩ : ∃ x, x = ws.getD k [] := ⟨_, rfl⟩
      rw [← hx] at hwc
      have hxl : x.length ≤ 4096 := by
        have hm : x ∈ drvW :: ws := by
          rw [hx, List.getD_eq_getElem?_getD, List.getElem?_eq_getElem (by rw [H6.out]; exact hlt)]
          exact List.mem_cons_of_mem _ (List.getElem_mem _)
        have := HWL.out x hm
        rw [size_list] at this
        omega
      have HX := Lib.hid hx
      have hck : wr.cell? ⟨w1.heap.size, k, none⟩ = some (.int .i64 (0)) := by
        rw [hH.c k]
        simp only [cells6, List.getElem?_toArray, List.map_append, List.map_replicate]
        rw [List.getElem?_append_right (by simp; omega), List.getElem?_replicate]
        simp
        omega
      have hcf := hH.f
      clear hx hH hBr hN
      cases hnum : numL x with
      | none =>
        have HNU := Lib.hid hnum
        obtain ⟨⟨rfl, rfl, rfl, rfl, rfl, rfl⟩, rfl⟩ := HNO.out ⟨k, hlt, by rw [← HX.out]; exact hnum⟩
        clear hnum
        go_wp2_with (go_at_call 40; refine (refNumber_any ⟨x.toArray⟩ _ (by show x.length ≤ _; omega)).mono ?_; rw [show numL (⟨x.toArray⟩ : ByteArray).data.toList = none from HNU.out]; rintro r w3 ⟨rfl, rfl⟩; dsimp only [Option.getD_none, Option.isSome_none]; refine Hid.out ?_)
        unfold Hid
        obtain ⟨r0, r1, r2, r3, r4, r5, rl, rf⟩ := KR.out.o6
        go_wp2
        refine name_post ?_
        intro W eW
        have KF : Blk W w.heap.size #[(.int .i64 (0)), (.int .i64 (0)), (.int .i64 (0)), (.int .i64 (0)), (.int .i64 (0)), (.int .i64 (0))] := eW.symm ▸ zeros_blk KR.out 0 0 0 0 0 0
        have HF : Below w.heap.size w W := eW.symm ▸ zeros_below HBW.out (Nat.le_refl _) 0 0 0 0 0 0
        clear eW
        exact bodyPost_ret (rparse_res rfl rfl KF) rfl ⟨rfl, HF⟩
      | some m =>
        have HNU := Lib.hid hnum
        have HN3 := Lib.hid (HNR.out.next (m := (m : Int)) (by rw [← HX.out, hnum]; intro y hy; injection hy with hy; omega))
        rw [← HX.out, hnum] at HN3
        clear hnum
        go_wp2_with (go_at_call 40; refine (refNumber_any ⟨x.toArray⟩ _ (by show x.length ≤ _; omega)).mono ?_; rw [show numL (⟨x.toArray⟩ : ByteArray).data.toList = some m from HNU.out]; rintro r w3 ⟨rfl, rfl⟩; dsimp only [Option.getD_some, Option.isSome_some]; refine Hid.out ?_)
        unfold Hid
        go_wp2
        go_roundw
        case rel =>
          refine ⟨k + 1, ms ++ [(m : Int)], by omega, by go_num, HN3.out, ?_, HBR.out.setCell (p := ⟨w1.heap.size, k, none⟩) (Nat.le_refl _) _⟩
          have := KH.out.set (i := k) (by rw [cells6_size (by omega)]; exact hlt) (.int .i64 ((m : Int)))
          have e := cells6_set (ms := ms) (by omega) (m : Int)
          rw [hml] at e
          rw [e] at this
          exact this
        case measure => simp [RowKit.intOf]; omega
    · obtain rfl : k = 6 := by omega
      have hml := HNR.out.1
      obtain ⟨m1, m2, m3, m4, m5, m6, rfl⟩ : ∃ m1 m2 m3 m4 m5 m6, ms = [m1, m2, m3, m4, m5, m6] := by
        match ms, hml with
        | [m1, m2, m3, m4, m5, m6], _ => exact ⟨m1, m2, m3, m4, m5, m6, rfl⟩
      have hH6 : Blk wr w1.heap.size #[(.int .i64 (m1)), (.int .i64 (m2)), (.int .i64 (m3)), (.int .i64 (m4)), (.int .i64 (m5)), (.int .i64 (m6))] := hH
      obtain ⟨d0, d1, d2, d3, d4, d5, dl, df⟩ := hH6.o6
      have e6 : ((6 : Nat) : Int) = 6 := rfl
      rw [e6]
      clear hN hH hBr hml hH6 KH HWL
      rcases HRES.out _ _ _ _ _ _ HNR.out with ⟨h0, ⟨rfl, rfl, rfl, rfl, rfl, rfl⟩, rfl⟩ | ⟨h0, ⟨rfl, rfl, rfl, rfl, rfl, rfl⟩, rfl⟩
      · have he0 : (drvErr m1 m2 m3 m4 m5 m6 == 0) = false := by simpa using h0
        obtain ⟨D, hD⟩ : ∃ D, D = drvErr m1 m2 m3 m4 m5 m6 := ⟨_, rfl⟩
        rw [← hD] at he0 h0
        have HDE := Lib.hid hD
        clear hD
        go_wp2_with (go_at_call 8; refine (refCheckDriver_any m1 m2 m3 m4 m5 m6 _).mono ?_; rw [← HDE.out]; rintro r w6 ⟨rfl, h6⟩; refine Hid.out ?_)
        unfold Hid
        have HB6 := Lib.hid ((HBW.out.alloc HBW.out.size _).trans (h6.mono (Nat.le_trans HBW.out.size (by simp))))
        have KR6 := Lib.hid ((KR.out.alloc _).below h6)
        obtain ⟨r0, r1, r2, r3, r4, r5, rl, rf⟩ := KR6.out.o6
        clear h6 d0 d1 d2 d3 d4 d5 dl df
        go_wp2
        refine name_post ?_
        intro W eW
        have KF : Blk W w.heap.size #[(.int .i64 (0)), (.int .i64 (0)), (.int .i64 (0)), (.int .i64 (0)), (.int .i64 (0)), (.int .i64 (0))] := eW.symm ▸ zeros_blk KR6.out 0 0 0 0 0 0
        have HF : Below w.heap.size w W := eW.symm ▸ zeros_below HB6.out (Nat.le_refl _) 0 0 0 0 0 0
        clear eW
        rw [← HDE.out]
        exact bodyPost_ret (rparse_res rfl rfl KF) rfl ⟨rfl, HF⟩
      · have HDE := Lib.hid h0
        clear h0
        go_wp2_with (go_at_call 8; refine (refCheckDriver_any a b' c d e f _).mono ?_; rw [HDE.out]; rintro r w6 ⟨rfl, h6⟩; refine Hid.out ?_)
        unfold Hid
        have HB6 := Lib.hid ((HBW.out.alloc HBW.out.size _).trans (h6.mono (Nat.le_trans HBW.out.size (by simp))))
        have KR6 := Lib.hid ((KR.out.alloc _).below h6)
        have KD6 := Lib.hid ((Calm.Blk.new wr 23 #[(.int .i64 (a)), (.int .i64 (b')), (.int .i64 (c)), (.int .i64 (d)), (.int .i64 (e)), (.int .i64 (f))]).below h6)
        obtain ⟨r0, r1, r2, r3, r4, r5, rl, rf⟩ := KR6.out.o6
        obtain ⟨c0, c1, c2, c3, c4, c5, cl, cf⟩ := KD6.out.o6
        clear h6 d0 d1 d2 d3 d4 d5 dl df
        go_wp2
        refine name_post ?_
        intro W eW
        have KF : Blk W w.heap.size #[(.int .i64 (a)), (.int .i64 (b')), (.int .i64 (c)), (.int .i64 (d)), (.int .i64 (e)), (.int .i64 (f))] := eW.symm ▸ zeros_blk KR6.out a b' c d e f
        have HF : Below w.heap.size w W := eW.symm ▸ zeros_below HB6.out (Nat.le_refl _) a b' c d e f
        clear eW
        exact bodyPost_ret (rparse_res rfl rfl KF) rfl ⟨rfl, HF⟩
end Go.Proofs.YtadcmjnebjgijaaGreatDoor

/- The program's Print; both Parses. -/
namespace Go.Proofs.YtadcmjnebjgijaaGreatDoor
open Go.RowKit
open Go.Lib
open Calm (bcell Blk)
/-- Parse of the reference answers as the plain law says. -/
theorem rparse_any {l : List UInt8} {a b c d e f E : Int} (hP : PRes l a b c d e f E) (s : ByteArray) (hs : s.data.toList = l) (w : World) :
    Calls Tryz.prog 10 #[.string s] w fun r w' => r = .returned (.tuple #[.agg #[(.int .i64 (a)), (.int .i64 (b)), (.int .i64 (c)), (.int .i64 (d)), (.int .i64 (e)), (.int .i64 (f))], (.int .i64 (E))]) ∧ Below w.heap.size w w' := by
  have hlen : l.length = s.size := by rw [← hs, size_list]
  rcases hP with ⟨h1, ⟨rfl, rfl, rfl, rfl, rfl, rfl⟩, rfl⟩ | ⟨h1, h2, ⟨rfl, rfl, rfl, rfl, rfl, rfl⟩, rfl⟩ | ⟨h1, w1, w2, w3, w4, w5, w6, hw, h2⟩
  · exact rparse_long s w (by omega)
  · by_cases h7 : (cutL 32 l).length = 7
    · exact rparse_head s w (by omega) (ws := cutL 32 l) (by rw [hs]) h7 (h2.resolve_left (fun h => h h7))
    · exact rparse_len s w (by omega) (ws := cutL 32 l) (by rw [hs]) h7
  · refine rparse_words s w (by omega) (ws := [w1, w2, w3, w4, w5, w6]) (by rw [hs]; exact hw) rfl a b c d e f E (Lib.hid fun hno => ?_) (Lib.hid fun m1 m2 m3 m4 m5 m6 hN => ?_)
    · rcases h2 with ⟨_, hz, hE⟩ | ⟨n1, n2, n3, n4, n5, n6, ⟨e1, e2, e3, e4, e5, e6⟩, _⟩
      · exact ⟨hz, hE⟩
      · exfalso
        obtain ⟨i, hi, hn⟩ := hno
        have : i = 0 ∨ i = 1 ∨ i = 2 ∨ i = 3 ∨ i = 4 ∨ i = 5 := by omega
        rcases this with rfl | rfl | rfl | rfl | rfl | rfl
        · exact absurd (e1.symm.trans hn) (by simp)
        · exact absurd (e2.symm.trans hn) (by simp)
        · exact absurd (e3.symm.trans hn) (by simp)
        · exact absurd (e4.symm.trans hn) (by simp)
        · exact absurd (e5.symm.trans hn) (by simp)
        · exact absurd (e6.symm.trans hn) (by simp)
    · obtain ⟨_, hv, hq⟩ := hN
      rcases h2 with ⟨h3, hz, hE⟩ | ⟨n1, n2, n3, n4, n5, n6, ⟨e1, e2, e3, e4, e5, e6⟩, h4⟩
      · exfalso
        have : (false : Bool) = true := hq.2 (by
          rcases h3 with h | h | h | h | h | h
          · exact ⟨0, by omega, h⟩
          · exact ⟨1, by omega, h⟩
          · exact ⟨2, by omega, h⟩
          · exact ⟨3, by omega, h⟩
          · exact ⟨4, by omega, h⟩
          · exact ⟨5, by omega, h⟩)
        cases this
      · have v1 : m1 = n1 := hv 0 (by omega) n1 e1
        have v2 : m2 = n2 := hv 1 (by omega) n2 e2
        have v3 : m3 = n3 := hv 2 (by omega) n3 e3
        have v4 : m4 = n4 := hv 3 (by omega) n4 e4
        have v5 : m5 = n5 := hv 4 (by omega) n5 e5
        have v6 : m6 = n6 := hv 5 (by omega) n6 e6
        subst v1 v2 v3 v4 v5 v6
        exact h4
/-- the text of the first k numbers. -/
def txtP (xs : List Int) : Nat → List UInt8
  | 0 => drvW
  | k + 1 => txtP xs k ++ (32 :: itoa (xs.getD k 0))
theorem itoa_len {n : Int} (h : 0 ≤ n ∧ n ≤ 5000) : (itoa n).length ≤ 9 := by
  obtain ⟨k, rfl⟩ : ∃ k : Nat, n = k := ⟨n.toNat, by omega⟩
  rw [itoa_nat]
  exact dec_len (by omega)
theorem txtP_len {xs : List Int} (h : ∀ k, k < 6 → 0 ≤ xs.getD k 0 ∧ xs.getD k 0 ≤ 5000) : ∀ k, k ≤ 6 → (txtP xs k).length ≤ 6 + 10 * k
  | 0, _ => by show drvW.length ≤ 6; decide
  | k + 1, hk => by
    have ih := txtP_len h k (by omega)
    have := itoa_len (h k (by omega))
    simp only [txtP, List.length_append, List.length_cons]
    omega
theorem gidx0 (re le bl ma st lo : Int) : ∀ w : World, (Instr.index 83 (.agg #[(.int .i64 (re)), (.int .i64 (le)), (.int .i64 (bl)), (.int .i64 (ma)), (.int .i64 (st)), (.int .i64 (lo))]) (.int .i64 0)).run Tryz.prog w = .ok (.int .i64 (re)) w := fun _ => by kernel_rfl
theorem gidx1 (re le bl ma st lo : Int) : ∀ w : World, (Instr.index 83 (.agg #[(.int .i64 (re)), (.int .i64 (le)), (.int .i64 (bl)), (.int .i64 (ma)), (.int .i64 (st)), (.int .i64 (lo))]) (.int .i64 1)).run Tryz.prog w = .ok (.int .i64 (le)) w := fun _ => by kernel_rfl
theorem gidx2 (re le bl ma st lo : Int) : ∀ w : World, (Instr.index 83 (.agg #[(.int .i64 (re)), (.int .i64 (le)), (.int .i64 (bl)), (.int .i64 (ma)), (.int .i64 (st)), (.int .i64 (lo))]) (.int .i64 2)).run Tryz.prog w = .ok (.int .i64 (bl)) w := fun _ => by kernel_rfl
theorem gidx3 (re le bl ma st lo : Int) : ∀ w : World, (Instr.index 83 (.agg #[(.int .i64 (re)), (.int .i64 (le)), (.int .i64 (bl)), (.int .i64 (ma)), (.int .i64 (st)), (.int .i64 (lo))]) (.int .i64 3)).run Tryz.prog w = .ok (.int .i64 (ma)) w := fun _ => by kernel_rfl
theorem gidx4 (re le bl ma st lo : Int) : ∀ w : World, (Instr.index 83 (.agg #[(.int .i64 (re)), (.int .i64 (le)), (.int .i64 (bl)), (.int .i64 (ma)), (.int .i64 (st)), (.int .i64 (lo))]) (.int .i64 4)).run Tryz.prog w = .ok (.int .i64 (st)) w := fun _ => by kernel_rfl
theorem gidx5 (re le bl ma st lo : Int) : ∀ w : World, (Instr.index 83 (.agg #[(.int .i64 (re)), (.int .i64 (le)), (.int .i64 (bl)), (.int .i64 (ma)), (.int .i64 (st)), (.int .i64 (lo))]) (.int .i64 5)).run Tryz.prog w = .ok (.int .i64 (lo)) w := fun _ => by kernel_rfl
set_option maxRecDepth 100000 in
set_option maxHeartbeats 4000000 in
theorem print_ok (re le bl ma st lo : Int) (w : World) (hT : Tab w) (h : drvErr re le bl ma st lo = 0) :
    Calls Tryz.prog 6 #[.agg #[(.int .i64 (re)), (.int .i64 (le)), (.int .i64 (bl)), (.int .i64 (ma)), (.int .i64 (st)), (.int .i64 (lo))]] w fun r w' => r = .returned (.tuple #[.string ⟨(txtP [re, le, bl, ma, st, lo] 6).toArray⟩, (.int .i64 (0))]) ∧ Below w.heap.size w w' := by
  obtain ⟨⟨p1, q1⟩, ⟨p2, q2⟩, ⟨p3, q3⟩, ⟨p4, q4⟩, ⟨p5, q5⟩, ⟨p6, q6⟩⟩ := drvErr_zero h
  have hx : ∀ k, k < 6 → 0 ≤ [re, le, bl, ma, st, lo].getD k 0 ∧ [re, le, bl, ma, st, lo].getD k 0 ≤ 5000 := by
    intro k hk
    have : k = 0 ∨ k = 1 ∨ k = 2 ∨ k = 3 ∨ k = 4 ∨ k = 5 := by omega
    rcases this with rfl | rfl | rfl | rfl | rfl | rfl <;> simp <;> omega
  have HLEN := Lib.hid (txtP_len hx)
  have HX := Lib.hid hx
  have HT := Lib.hid hT
  have hL := hT.lim
  clear hx
  go_enter Tryz.func6, Tryz.ntmps6
  go_wp2_with (first | (go_at_call 31; refine (checkDriver_any _ _ _ _ _ _ _ (hL.below (by repeat (first | (with_reducible exact Below.refl _ _) | ((with_reducible refine Below.setCell ?_ ?_ _); rotate_left 1; focus (first | (simp; done) | (simp; omega) | (simp at *; omega))) | ((with_reducible refine Below.alloc ?_ ?_ _); rotate_left 1; focus (first | (simp; done) | (simp; omega) | (simp at *; omega))) | (with_reducible refine Below.drew ?_) | ((with_reducible refine Calm.step (by assumption) ?_ ?_); rotate_left 1; focus (first | (simp; done) | (simp; omega) | (simp at *; omega))))))).mono ?_; rintro r w1 ⟨rfl, hb⟩; obtain ⟨hc, hf⟩ := bcell hb; have hz := hb.size; (try simp at hz); (try have hz0 : w.heap.size < w1.heap.size := by omega); (try have hz1 : w.heap.size + 1 < w1.heap.size := by omega); (try have hz2 : w.heap.size + 1 + 1 < w1.heap.size := by omega); (try have hz3 : w.heap.size + 1 + 1 + 1 < w1.heap.size := by omega); (try have hz4 : w.heap.size + 1 + 1 + 1 + 1 < w1.heap.size := by omega); (try have hz5 : w.heap.size + 1 + 1 + 1 + 1 + 1 < w1.heap.size := by omega); (try have hz6 : w.heap.size + 1 + 1 + 1 + 1 + 1 + 1 < w1.heap.size := by omega)) | (go_at_call 32; refine (numbers_any _ _ _ _ _ _ _).mono ?_; rintro r w1 ⟨rfl, hb⟩; obtain ⟨hc, hf⟩ := bcell hb; have hz := hb.size; (try simp at hz); (try have hz0 : w.heap.size < w1.heap.size := by omega); (try have hz1 : w.heap.size + 1 < w1.heap.size := by omega); (try have hz2 : w.heap.size + 1 + 1 < w1.heap.size := by omega); (try have hz3 : w.heap.size + 1 + 1 + 1 < w1.heap.size := by omega); (try have hz4 : w.heap.size + 1 + 1 + 1 + 1 < w1.heap.size := by omega); (try have hz5 : w.heap.size + 1 + 1 + 1 + 1 + 1 < w1.heap.size := by omega); (try have hz6 : w.heap.size + 1 + 1 + 1 + 1 + 1 + 1 < w1.heap.size := by omega)))
  clear h
  have kb : Below w.heap.size w w1 := by (repeat (first | (with_reducible exact Below.refl _ _) | ((with_reducible refine Below.setCell ?_ ?_ _); rotate_left 1; focus (first | (simp; done) | (simp; omega) | (simp at *; omega))) | ((with_reducible refine Below.alloc ?_ ?_ _); rotate_left 1; focus (first | (simp; done) | (simp; omega) | (simp at *; omega))) | (with_reducible refine Below.drew ?_) | ((with_reducible refine Calm.step (by assumption) ?_ ?_); rotate_left 1; focus (first | (simp; done) | (simp; omega) | (simp at *; omega)))))
  clear hc hf hz hb
  go_loopw [5, 15] (fun t i wr => ∃ k : Nat, k ≤ 6 ∧ i = (.int .i64 ((k : Int))) ∧ t = .string ⟨(txtP [re, le, bl, ma, st, lo] k).toArray⟩ ∧ Below w.heap.size w wr) (fun _ i _ => 6 - (RowKit.intOf i).toNat)
  case atStart => exact ⟨0, by omega, rfl, rfl, kb⟩
  case round =>
    obtain ⟨k, hk, rfl, rfl, hBr⟩ := hrel
    have HBR := Lib.hid hBr
    have hpl := HLEN.out k hk
    clear hBr kb
    have hkk : k = 0 ∨ k = 1 ∨ k = 2 ∨ k = 3 ∨ k = 4 ∨ k = 5 ∨ k = 6 := by omega
    rcases hkk with rfl | rfl | rfl | rfl | rfl | rfl | rfl
    · have ix := gidx0 re le bl ma st lo
      have hil := itoa_len (HX.out 0 (by omega))
      have HP := Lib.hid (show txtP [re, le, bl, ma, st, lo] (0 + 1) = txtP [re, le, bl, ma, st, lo] 0 ++ (32 :: itoa re) from rfl)
      have hil : (itoa re).length ≤ 9 := hil
      obtain ⟨P, hP⟩ : ∃ P, P = txtP [re, le, bl, ma, st, lo] 0 := ⟨_, rfl⟩
      rw [← hP] at hpl HP ⊢
      obtain ⟨I, hI⟩ : ∃ I, I = itoa re := ⟨_, rfl⟩
      rw [← hI] at hil HP
      have HI := Lib.hid hI
      clear hP hI
      have b1 : ¬ 9223372036854775807 < 1 + I.length := by omega
      have b2 : ¬ 9223372036854775807 < P.length + (1 + I.length) := by omega
      have ek : ((0 : Nat) : Int) = 0 := rfl
      rw [ek]
      go_wp2_with (go_at_call 33; refine (itoa_any re _ (HT.out.below HBR.out) (by omega) (by omega)).mono ?_; rw [← HI.out]; rintro r w2 ⟨rfl, h2⟩; refine Hid.out ?_)
      unfold Hid
      have HB2 := Lib.hid (HBR.out.trans (h2.mono HBR.out.size))
      clear h2
      go_wp2
      go_roundw
      case rel =>
        refine ⟨0 + 1, by omega, rfl, ?_, HB2.out⟩
        rw [HP.out]
        first | rfl | (congr 1; done) | (congr 1; apply ByteArray.ext; simp)
      case measure => simp [RowKit.intOf]
    · have ix := gidx1 re le bl ma st lo
      have hil := itoa_len (HX.out 1 (by omega))
      have HP := Lib.hid (show txtP [re, le, bl, ma, st, lo] (1 + 1) = txtP [re, le, bl, ma, st, lo] 1 ++ (32 :: itoa le) from rfl)
      have hil : (itoa le).length ≤ 9 := hil
      obtain ⟨P, hP⟩ : ∃ P, P = txtP [re, le, bl, ma, st, lo] 1 := ⟨_, rfl⟩
      rw [← hP] at hpl HP ⊢
      obtain ⟨I, hI⟩ : ∃ I, I = itoa le := ⟨_, rfl⟩
      rw [← hI] at hil HP
      have HI := Lib.hid hI
      clear hP hI
      have b1 : ¬ 9223372036854775807 < 1 + I.length := by omega
      have b2 : ¬ 9223372036854775807 < P.length + (1 + I.length) := by omega
      have ek : ((1 : Nat) : Int) = 1 := rfl
      rw [ek]
      go_wp2_with (go_at_call 33; refine (itoa_any le _ (HT.out.below HBR.out) (by omega) (by omega)).mono ?_; rw [← HI.out]; rintro r w2 ⟨rfl, h2⟩; refine Hid.out ?_)
      unfold Hid
      have HB2 := Lib.hid (HBR.out.trans (h2.mono HBR.out.size))
      clear h2
      go_wp2
      go_roundw
      case rel =>
        refine ⟨1 + 1, by omega, rfl, ?_, HB2.out⟩
        rw [HP.out]
        first | rfl | (congr 1; done) | (congr 1; apply ByteArray.ext; simp)
      case measure => simp [RowKit.intOf]
    · have ix := gidx2 re le bl ma st lo
      have hil := itoa_len (HX.out 2 (by omega))
      have HP := Lib.hid (show txtP [re, le, bl, ma, st, lo] (2 + 1) = txtP [re, le, bl, ma, st, lo] 2 ++ (32 :: itoa bl) from rfl)
      have hil : (itoa bl).length ≤ 9 := hil
      obtain ⟨P, hP⟩ : ∃ P, P = txtP [re, le, bl, ma, st, lo] 2 := ⟨_, rfl⟩
      rw [← hP] at hpl HP ⊢
      obtain ⟨I, hI⟩ : ∃ I, I = itoa bl := ⟨_, rfl⟩
      rw [← hI] at hil HP
      have HI := Lib.hid hI
      clear hP hI
      have b1 : ¬ 9223372036854775807 < 1 + I.length := by omega
      have b2 : ¬ 9223372036854775807 < P.length + (1 + I.length) := by omega
      have ek : ((2 : Nat) : Int) = 2 := rfl
      rw [ek]
      go_wp2_with (go_at_call 33; refine (itoa_any bl _ (HT.out.below HBR.out) (by omega) (by omega)).mono ?_; rw [← HI.out]; rintro r w2 ⟨rfl, h2⟩; refine Hid.out ?_)
      unfold Hid
      have HB2 := Lib.hid (HBR.out.trans (h2.mono HBR.out.size))
      clear h2
      go_wp2
      go_roundw
      case rel =>
        refine ⟨2 + 1, by omega, rfl, ?_, HB2.out⟩
        rw [HP.out]
        first | rfl | (congr 1; done) | (congr 1; apply ByteArray.ext; simp)
      case measure => simp [RowKit.intOf]
    · have ix := gidx3 re le bl ma st lo
      have hil := itoa_len (HX.out 3 (by omega))
      have HP := Lib.hid (show txtP [re, le, bl, ma, st, lo] (3 + 1) = txtP [re, le, bl, ma, st, lo] 3 ++ (32 :: itoa ma) from rfl)
      have hil : (itoa ma).length ≤ 9 := hil
      obtain ⟨P, hP⟩ : ∃ P, P = txtP [re, le, bl, ma, st, lo] 3 := ⟨_, rfl⟩
      rw [← hP] at hpl HP ⊢
      obtain ⟨I, hI⟩ : ∃ I, I = itoa ma := ⟨_, rfl⟩
      rw [← hI] at hil HP
      have HI := Lib.hid hI
      clear hP hI
      have b1 : ¬ 9223372036854775807 < 1 + I.length := by omega
      have b2 : ¬ 9223372036854775807 < P.length + (1 + I.length) := by omega
      have ek : ((3 : Nat) : Int) = 3 := rfl
      rw [ek]
      go_wp2_with (go_at_call 33; refine (itoa_any ma _ (HT.out.below HBR.out) (by omega) (by omega)).mono ?_; rw [← HI.out]; rintro r w2 ⟨rfl, h2⟩; refine Hid.out ?_)
      unfold Hid
      have HB2 := Lib.hid (HBR.out.trans (h2.mono HBR.out.size))
      clear h2
      go_wp2
      go_roundw
      case rel =>
        refine ⟨3 + 1, by omega, rfl, ?_, HB2.out⟩
        rw [HP.out]
        first | rfl | (congr 1; done) | (congr 1; apply ByteArray.ext; simp)
      case measure => simp [RowKit.intOf]
    · have ix := gidx4 re le bl ma st lo
      have hil := itoa_len (HX.out 4 (by omega))
      have HP := Lib.hid (show txtP [re, le, bl, ma, st, lo] (4 + 1) = txtP [re, le, bl, ma, st, lo] 4 ++ (32 :: itoa st) from rfl)
      have hil : (itoa st).length ≤ 9 := hil
      obtain ⟨P, hP⟩ : ∃ P, P = txtP [re, le, bl, ma, st, lo] 4 := ⟨_, rfl⟩
      rw [← hP] at hpl HP ⊢
      obtain ⟨I, hI⟩ : ∃ I, I = itoa st := ⟨_, rfl⟩
      rw [← hI] at hil HP
      have HI := Lib.hid hI
      clear hP hI
      have b1 : ¬ 9223372036854775807 < 1 + I.length := by omega
      have b2 : ¬ 9223372036854775807 < P.length + (1 + I.length) := by omega
      have ek : ((4 : Nat) : Int) = 4 := rfl
      rw [ek]
      go_wp2_with (go_at_call 33; refine (itoa_any st _ (HT.out.below HBR.out) (by omega) (by omega)).mono ?_; rw [← HI.out]; rintro r w2 ⟨rfl, h2⟩; refine Hid.out ?_)
      unfold Hid
      have HB2 := Lib.hid (HBR.out.trans (h2.mono HBR.out.size))
      clear h2
      go_wp2
      go_roundw
      case rel =>
        refine ⟨4 + 1, by omega, rfl, ?_, HB2.out⟩
        rw [HP.out]
        first | rfl | (congr 1; done) | (congr 1; apply ByteArray.ext; simp)
      case measure => simp [RowKit.intOf]
    · have ix := gidx5 re le bl ma st lo
      have hil := itoa_len (HX.out 5 (by omega))
      have HP := Lib.hid (show txtP [re, le, bl, ma, st, lo] (5 + 1) = txtP [re, le, bl, ma, st, lo] 5 ++ (32 :: itoa lo) from rfl)
      have hil : (itoa lo).length ≤ 9 := hil
      obtain ⟨P, hP⟩ : ∃ P, P = txtP [re, le, bl, ma, st, lo] 5 := ⟨_, rfl⟩
      rw [← hP] at hpl HP ⊢
      obtain ⟨I, hI⟩ : ∃ I, I = itoa lo := ⟨_, rfl⟩
      rw [← hI] at hil HP
      have HI := Lib.hid hI
      clear hP hI
      have b1 : ¬ 9223372036854775807 < 1 + I.length := by omega
      have b2 : ¬ 9223372036854775807 < P.length + (1 + I.length) := by omega
      have ek : ((5 : Nat) : Int) = 5 := rfl
      rw [ek]
      go_wp2_with (go_at_call 33; refine (itoa_any lo _ (HT.out.below HBR.out) (by omega) (by omega)).mono ?_; rw [← HI.out]; rintro r w2 ⟨rfl, h2⟩; refine Hid.out ?_)
      unfold Hid
      have HB2 := Lib.hid (HBR.out.trans (h2.mono HBR.out.size))
      clear h2
      go_wp2
      go_roundw
      case rel =>
        refine ⟨5 + 1, by omega, rfl, ?_, HB2.out⟩
        rw [HP.out]
        first | rfl | (congr 1; done) | (congr 1; apply ByteArray.ext; simp)
      case measure => simp [RowKit.intOf]
    · have ek : ((6 : Nat) : Int) = 6 := rfl
      rw [ek]
      obtain ⟨P, hP⟩ : ∃ P, P = txtP [re, le, bl, ma, st, lo] 6 := ⟨_, rfl⟩
      rw [← hP]
      have HP := Lib.hid hP
      clear hP hpl
      go_wp2
      go_ret2
      exact ⟨by rw [← HP.out]; rfl, HBR.out⟩
end Go.Proofs.YtadcmjnebjgijaaGreatDoor
