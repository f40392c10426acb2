/- Part 10 of the texts of the claim: Td8, Td9, Te0, Te1, Tc11. -/
import Derived.Test.YtamldoidalnloaaMm9
import Derived.Test.YtamldoidalnloaaMm6

/- The matcher: what visit does where it turns back or where nothing is left. -/
namespace Go.Proofs.Ytamldoidalnloaa
open Go.RowKit
open Calm (bcell Blk)
/-- the pairs, the worst and whether found. -/
abbrev MSt := List (Nat × Nat) × Int × Bool
def restL (left : List Nat) (k : Nat) : List Nat := (left.drop 1).take (k - 1) ++ left.drop (k + 1)
def visM : Nat → List Nat → List (Nat × Nat) → MSt → MSt
  | 0, _, ps, s => if s.2.2 = true ∧ s.2.1 ≤ wV ps then s else (ps, wV ps, true)
  | m + 1, left, ps, s => if s.2.2 = true ∧ s.2.1 ≤ wV ps then s else (List.range (left.length - 1)).foldl (fun s j => visM m (restL left (j + 1)) (ps ++ [(left.getD 0 0, left.getD (j + 1) 0)]) s) s
/-- the matcher in its block. -/
def MB (mb ub : Nat) (s : MSt) (W : World) : Prop := ∃ A c, Blk W mb #[.slice (some ⟨ub, 0, none⟩) 4 4, .slice A s.1.length c, (.int .i64 (s.2.1)), .bool s.2.2] ∧ Cells W A (flatP s.1) ∧ Off mb A
theorem MB.below {mb ub : Nat} {s : MSt} {W W' : World} (h : MB mb ub s W) (hb : Below W.heap.size W W') : MB mb ub s W' := by
  obtain ⟨A, c, h1, h2, h3⟩ := h
  exact ⟨A, c, h1.below hb, h2.below hb, h3⟩
theorem US.but {W W' : World} {mb ub v0 v1 v2 v3 : Nat} (h : US W ub v0 v1 v2 v3) (hn : ub ≠ mb ∧ v0 ≠ mb ∧ v1 ≠ mb ∧ v2 ≠ mb ∧ v3 ≠ mb) (hb : But mb W W') : US W' ub v0 v1 v2 v3 :=
  ⟨blk_but h.u hn.1 hb, blk_but h.k0 hn.2.1 hb, blk_but h.k1 hn.2.2.1 hb, blk_but h.k2 hn.2.2.2.1 hb, blk_but h.k3 hn.2.2.2.2 hb⟩
def VisC (mb ub v0 v1 v2 v3 m : Nat) : Prop := ∀ (left : List Nat) (ps : List (Nat × Nat)) (A B : Option Addr) (n c q d : Nat) (s : MSt) (W : World), n = left.length → n = 2 * m → n ≤ c → left.Pairwise (· < ·) → (∀ x ∈ left, x < 4) → q = ps.length → q + m ≤ 10 → (∀ p ∈ ps, okP p) →
  Cells W A (left.map fun (x : Nat) => (x : Int)) → Cells W B (flatP ps) → Off mb A → Off mb B → US W ub v0 v1 v2 v3 → MB mb ub s W →
  Calls Try.prog 72 #[.pointer (some ⟨mb, 0, none⟩), .slice A n c, .slice B q d] W fun r w' => r = .returned (.tuple #[]) ∧ MB mb ub (visM m left ps s) w' ∧ But mb W w'
set_option maxRecDepth 100000 in
set_option maxHeartbeats 4000000 in
theorem visit_skip (mb ub v0 v1 v2 v3 : Nat) (ps : List (Nat × Nat)) (A B : Option Addr) (n c q d : Nat) (s : MSt) (W : World) (hq : q = ps.length) (hq1 : q ≤ 10) (hp : ∀ p ∈ ps, okP p) (hC : Cells W B (flatP ps)) (hU : US W ub v0 v1 v2 v3) (hM : MB mb ub s W) (h1 : s.2.2 = true) (h2 : s.2.1 ≤ wV ps) :
    Calls Try.prog 72 #[.pointer (some ⟨mb, 0, none⟩), .slice A n c, .slice B q d] W fun r w' => r = .returned (.tuple #[]) ∧ MB mb ub s w' ∧ But mb W w' := by
  have HW : Hid (∀ W', Cells W' B (flatP ps) → US W' ub v0 v1 v2 v3 → Calls Try.prog 94 #[.slice (some ⟨ub, 0, none⟩) 4 4, .slice B q d] W' fun r w' => r = .returned (.int .i64 (wV ps)) ∧ Below W'.heap.size W' w') := Lib.hid (fun W' q1 q2 => worst_any ps B d q ub v0 v1 v2 v3 W' hq (by omega) hp q1 q2)
  have HM := Lib.hid hM
  have HC := Lib.hid hC
  have HU := Lib.hid hU
  obtain ⟨X, xc, K0, -, -⟩ := hM
  obtain ⟨V, hV⟩ : ∃ V, V = wV ps := ⟨_, rfl⟩
  rw [← hV] at HW h2
  have HK0 := Lib.hid K0
  obtain ⟨c0, c1, c2, c3, cl, cf⟩ := K0.o4
  rw [h1] at HK0 c3
  obtain ⟨wo, hwo⟩ : ∃ wo, wo = s.2.1 := ⟨_, rfl⟩
  rw [← hwo] at HK0 c2 h2
  clear hq hp hC hU hV h1 hwo K0
  go_enter Try.func72, Try.ntmps72
  go_wp2_with (go_at_call 94; refine (HW.out _ HC.out HU.out).mono ?_; rintro r w2 ⟨rfl, hb2⟩; refine Hid.out ?_)
  unfold Hid
  have HB2 := Lib.hid hb2
  have K2 := HK0.out.below hb2
  clear hb2 c0 c1 c2 c3 cl cf
  obtain ⟨c0, c1, c2, c3, cl, cf⟩ := K2.o4
  clear K2
  go_wp2
  refine bodyPost_ret (v := .tuple #[]) (by simp [results, Try.results72, go_sem]) rfl ⟨rfl, HM.out.below HB2.out, But.of HB2.out⟩
set_option maxRecDepth 100000 in
set_option maxHeartbeats 4000000 in
theorem visit_leaf (mb ub v0 v1 v2 v3 : Nat) (ps : List (Nat × Nat)) (A B : Option Addr) (c q d : Nat) (s : MSt) (W : World) (hq : q = ps.length) (hq1 : q ≤ 10) (hp : ∀ p ∈ ps, okP p) (hC : Cells W B (flatP ps)) (hU : US W ub v0 v1 v2 v3) (hM : MB mb ub s W) (h1 : s.2.2 = false ∨ (s.2.2 = true ∧ ¬ s.2.1 ≤ wV ps)) :
    Calls Try.prog 72 #[.pointer (some ⟨mb, 0, none⟩), .slice A 0 c, .slice B q d] W fun r w' => r = .returned (.tuple #[]) ∧ MB mb ub (ps, wV ps, true) w' ∧ But mb W w' := by
  have HW : Hid (∀ W', Cells W' B (flatP ps) → US W' ub v0 v1 v2 v3 → Calls Try.prog 94 #[.slice (some ⟨ub, 0, none⟩) 4 4, .slice B q d] W' fun r w' => r = .returned (.int .i64 (wV ps)) ∧ Below W'.heap.size W' w') := Lib.hid (fun W' q1 q2 => worst_any ps B d q ub v0 v1 v2 v3 W' hq (by omega) hp q1 q2)
  have HCL : Hid (∀ W', Cells W' B (flatP ps) → Calls Try.prog 95 #[.slice B q d] W' fun r w' => (∃ v, r = .returned v ∧ w'.ownsRow W'.heap.size 66 2 v q ((flatP ps).map (Value.int .i64))) ∧ Below W'.heap.size W' w') := Lib.hid (fun W' q1 => clone2_any ps B q d W' hq q1 (by omega))
  have HQ := Lib.hid hq
  have HC := Lib.hid hC
  have HU := Lib.hid hU
  obtain ⟨X, xc, K0, -, -⟩ := hM
  obtain ⟨V, hV⟩ : ∃ V, V = wV ps := ⟨_, rfl⟩
  rw [← hV] at HW h1 ⊢
  have HK0 := Lib.hid K0
  obtain ⟨c0, c1, c2, c3, cl, cf⟩ := K0.o4
  obtain ⟨wo, hwo⟩ : ∃ wo, wo = s.2.1 := ⟨_, rfl⟩
  obtain ⟨fo, hfo⟩ : ∃ fo, fo = s.2.2 := ⟨_, rfl⟩
  rw [← hwo] at HK0 c2 h1
  rw [← hfo] at HK0 c3 h1
  clear hq hp hC hU hV hwo hfo K0
  rcases h1 with rfl | ⟨rfl, hlt⟩
  all_goals (
    go_enter Try.func72, Try.ntmps72
    go_wp2_with (go_at_call 94; refine (HW.out _ HC.out HU.out).mono ?_; rintro r w2 ⟨rfl, hb2⟩; refine Hid.out ?_)
    unfold Hid
    have HB2 := Lib.hid hb2
    have K2 := HK0.out.below hb2
    have HC2 := Lib.hid (HC.out.below hb2)
    have HK2 := Lib.hid K2
    clear hb2 c0 c1 c2 c3 cl cf
    obtain ⟨c0, c1, c2, c3, cl, cf⟩ := K2.o4
    clear K2
    go_wp2_with (go_at_call 95; refine (HCL.out _ HC2.out).mono ?_; rintro r w3 ⟨⟨v, rfl, ho⟩, hb3⟩; refine Hid.out ?_)
    unfold Hid
    obtain ⟨Y, y, rfl, hY, hCY, -⟩ := own_pairs ho
    have HCY := Lib.hid hCY
    have HB3 := Lib.hid (HB2.out.trans (hb3.mono HB2.out.size))
    have K3 := HK2.out.below hb3
    have hm2 := HK2.out.lt
    have HOY : Hid (Off mb (Y : Option Addr)) := Lib.hid (fun p hp => by have := hY p hp; omega)
    have HK3 := Lib.hid K3
    clear hb3 c0 c1 c2 c3 cl cf ho hY hCY
    obtain ⟨c0, c1, c2, c3, cl, cf⟩ := K3.o4
    clear K3
    go_wp2
    refine name_post ?_
    intro wz ez
    have KZ : Blk wz mb #[.slice (some ⟨ub, 0, none⟩) 4 4, .slice Y q y, (.int .i64 V), .bool true] := by rw [ez]; exact ((HK3.out.set (i := 1) (by simp) _).set (i := 2) (by simp) _).set (i := 3) (by simp) _
    have hbz : But mb w3 wz := by rw [ez]; exact ((But.put _ 1 _).trans (But.put _ 2 _)).trans (But.put _ 3 _)
    clear ez
    refine bodyPost_ret (v := .tuple #[]) (by simp [results, Try.results72, go_sem]) rfl ⟨rfl, ⟨Y, y, by rw [← HQ.out]; exact KZ, HCY.out.but HOY.out hbz, HOY.out⟩, (But.of HB3.out).trans hbz⟩)
end Go.Proofs.Ytamldoidalnloaa

/- The matcher: visit, and Pairs. -/
namespace Go.Proofs.Ytamldoidalnloaa
open Go.RowKit
open Calm (bcell Blk)
theorem Cells.dropI {W : World} {b o : Nat} {zs : List Int} (h : Cells W (some ⟨b, o, none⟩) zs) (i : Nat) : Cells W (some ⟨b, o + i, none⟩) (zs.drop i) := fun h0 => by
  rw [List.length_drop] at h0
  obtain ⟨b', o', he, hl, hc⟩ := h (by omega)
  cases he
  refine ⟨b, o + i, rfl, hl, fun k hk => ?_⟩
  rw [List.length_drop] at hk
  rw [Nat.add_assoc, hc (i + k) (by omega)]
  simp [List.getD_eq_getElem?_getD]
theorem Cells.takeI {W : World} {A : Option Addr} {zs : List Int} (h : Cells W A zs) (i : Nat) : Cells W A (zs.take i) := fun h0 => by
  rw [List.length_take] at h0
  obtain ⟨b', o', he, hl, hc⟩ := h (by omega)
  refine ⟨b', o', he, hl, fun k hk => ?_⟩
  rw [List.length_take] at hk
  rw [hc k (by omega)]
  simp [List.getD_eq_getElem?_getD, List.getElem?_take, show k < i by omega]
theorem Try.elemI : Try.prog.elem 22 = 3 := by kernel_rfl
theorem sizeOfI (W : World) : (Go.sizeOf (Try.prog.elem 22)).run Try.prog W = .ok 1 W := by
  obtain ⟨i0, hi, hz0, hz1, hz2⟩ := info_parts Try.infoI
  rw [Try.elemI]
  simp [Go.sizeOf, typeInfo, hi, hz1]
theorem slice_mid (b o n c j : Nat) (hj : j + 1 ≤ c) (hc : 2 ≤ c) (W : World) : (Instr.slice 22 (.slice (some ⟨b, o, none⟩) n c) (some (.int .i64 1)) (some (.int .i64 ((j : Int) + 1))) none).run Try.prog W = .ok (.slice (some ⟨b, o + 1, none⟩) j (c - 1)) W := by
  rw [run_slice_lh W 22 _ n c (by rw [Try.elemI]; exact Try.underlying22) .i64 .i64 1 ((j : Int) + 1) (by decide) (by omega) (by omega), sizeOfI]
  have e1 : ((j : Int) + 1).toNat = j + 1 := by omega
  simp only [Result.andThen, sliced, e1]
  rw [if_neg (show ¬ c = (1 : Int).toNat from fun h => by simp at h; omega)]
  simp [Addr.add]
theorem slice_end (b o n c j : Nat) (hj : j + 2 ≤ n) (hc : n ≤ c) (W : World) (zs : List Int) (hz : n = zs.length) (hC : Cells W (some ⟨b, o, none⟩) zs) : ∃ P2 c2, (∀ W', (Instr.slice 22 (.slice (some ⟨b, o, none⟩) n c) (some (.int .i64 ((j : Int) + 1 + 1))) none none).run Try.prog W' = .ok (.slice P2 (n - (j + 2)) c2) W') ∧ Cells W P2 (zs.drop (j + 2)) := by
  refine ⟨if c = j + 2 then some ⟨b, o, none⟩ else some ⟨b, o + (j + 2), none⟩, c - (j + 2), fun W' => ?_, ?_⟩
  · rw [run_slice_l W' 22 _ n c (by rw [Try.elemI]; exact Try.underlying22) .i64 ((j : Int) + 1 + 1) (by omega) (by omega), sizeOfI]
    have e1 : ((j : Int) + 1 + 1).toNat = j + 2 := by omega
    simp only [Result.andThen, sliced, e1]
    by_cases h : c = j + 2 <;> simp [h, Addr.add]
  · by_cases h : c = j + 2
    · rw [if_pos h]
      intro h0
      rw [List.length_drop] at h0
      omega
    · rw [if_neg h]
      exact hC.dropI (j + 2)
theorem okP_of {a x : Nat} (h : a < x) (h2 : x < 4) : okP (a, x) := by
  unfold okP
  rcases (by omega : (a = 0 ∧ x = 1) ∨ (a = 0 ∧ x = 2) ∨ (a = 0 ∧ x = 3) ∨ (a = 1 ∧ x = 2) ∨ (a = 1 ∧ x = 3) ∨ (a = 2 ∧ x = 3)) with ⟨rfl, rfl⟩ | ⟨rfl, rfl⟩ | ⟨rfl, rfl⟩ | ⟨rfl, rfl⟩ | ⟨rfl, rfl⟩ | ⟨rfl, rfl⟩ <;> simp
theorem restL_sub (left : List Nat) (j : Nat) : (restL left (j + 1)).Sublist left := by
  have e : left.drop (j + 1 + 1) = ((left.drop 1).drop j).drop 1 := by rw [List.drop_drop, List.drop_drop]; congr 1; omega
  have h : (restL left (j + 1)).Sublist (left.drop 1) := by
    unfold restL
    rw [e, Nat.add_sub_cancel]
    have := List.Sublist.append (List.Sublist.refl ((left.drop 1).take j)) (List.drop_sublist 1 ((left.drop 1).drop j))
    rwa [List.take_append_drop] at this
  exact h.trans (List.drop_sublist 1 left)
theorem restL_len (left : List Nat) (j : Nat) (h : j + 2 ≤ left.length) : (restL left (j + 1)).length = j + (left.length - (j + 2)) := by
  simp only [restL, List.length_append, List.length_take, List.length_drop]; omega
theorem restL_map (left : List Nat) (j : Nat) : (restL left (j + 1)).map (fun (x : Nat) => (x : Int)) = (((left.map fun (x : Nat) => (x : Int)).drop 1).take j) ++ (left.map fun (x : Nat) => (x : Int)).drop (j + 2) := by
  simp only [restL, List.map_append, List.map_take, List.map_drop, Nat.add_sub_cancel]
set_option maxRecDepth 100000 in
set_option maxHeartbeats 8000000 in
theorem visit_node (mb ub v0 v1 v2 v3 m : Nat) (hne : ub ≠ mb ∧ v0 ≠ mb ∧ v1 ≠ mb ∧ v2 ≠ mb ∧ v3 ≠ mb) (IH : VisC mb ub v0 v1 v2 v3 m) (hm1 : m ≤ 1) : VisC mb ub v0 v1 v2 v3 (m + 1) := by
  intro left ps A B n c q d s W hn hn2 hnc hpw hlt4 hq hqm hp hA hB oA oB hU hM
  by_cases hs : s.2.2 = true ∧ s.2.1 ≤ wV ps
  · rw [show visM (m + 1) left ps s = s from if_pos hs]
    exact visit_skip mb ub v0 v1 v2 v3 ps A B n c q d s W hq (by omega) hp hB hU hM hs.1 hs.2
  have h1 : s.2.2 = false ∨ (s.2.2 = true ∧ ¬ s.2.1 ≤ wV ps) := by
    cases h : s.2.2
    · exact .inl rfl
    · exact .inr ⟨rfl, fun h2 => hs ⟨h, h2⟩⟩
  obtain ⟨F, hF⟩ : ∃ F : Nat → MSt, F = fun j => (List.range j).foldl (fun s j => visM m (restL left (j + 1)) (ps ++ [(left.getD 0 0, left.getD (j + 1) 0)]) s) s := ⟨_, rfl⟩
  have hFn : visM (m + 1) left ps s = F (n - 1) := by rw [hF, hn]; exact if_neg hs
  have HF0 : Hid (F 0 = s) := Lib.hid (by rw [hF]; rfl)
  have HF1 : Hid (∀ j, F (j + 1) = visM m (restL left (j + 1)) (ps ++ [(left.getD 0 0, left.getD (j + 1) 0)]) (F j)) := Lib.hid (fun j => by rw [hF]; simp only [List.range_succ, List.foldl_append]; rfl)
  rw [hFn]
  have HW : Hid (∀ W', Cells W' B (flatP ps) → US W' ub v0 v1 v2 v3 → Calls Try.prog 94 #[.slice (some ⟨ub, 0, none⟩) 4 4, .slice B q d] W' fun r w' => r = .returned (.int .i64 (wV ps)) ∧ Below W'.heap.size W' w') := Lib.hid (fun W' q1 q2 => worst_any ps B d q ub v0 v1 v2 v3 W' hq (by omega) hp q1 q2)
  obtain ⟨b, o, rfl, hbl, hcc⟩ := hA (by rw [List.length_map]; omega)
  have x0 := hcc 0 (by rw [List.length_map]; omega)
  rw [show ((left.map fun (x : Nat) => (x : Int)).getD 0 0) = ((left.getD 0 0 : Nat) : Int) by
    rw [List.getD_eq_getElem?_getD, List.getD_eq_getElem?_getD, List.getElem?_map]; cases left[0]? <;> rfl, Nat.add_zero] at x0
  obtain ⟨a0, ha0⟩ : ∃ a0, a0 = left.getD 0 0 := ⟨_, rfl⟩
  rw [← ha0] at x0 HF1
  have HA0 := Lib.hid ha0
  have HP := Lib.hid hp
  have HN := Lib.hid hn
  have HQ := Lib.hid hq
  have HPW := Lib.hid hpw
  have HL4 := Lib.hid hlt4
  have HA := Lib.hid hA
  have HB := Lib.hid hB
  have HU := Lib.hid hU
  have HM := Lib.hid hM
  have HIH := Lib.hid IH
  have HOA := Lib.hid oA
  have HOB := Lib.hid oB
  have HNE := Lib.hid hne
  have HN2 := Lib.hid hn2
  have HQM := Lib.hid hqm
  obtain ⟨X, xc, K0, -, -⟩ := hM
  obtain ⟨V, hV⟩ : ∃ V, V = wV ps := ⟨_, rfl⟩
  rw [← hV] at HW h1
  have HK0 := Lib.hid K0
  obtain ⟨c0, c1, c2, c3, cl, cf⟩ := K0.o4
  obtain ⟨wo, hwo⟩ : ∃ wo, wo = s.2.1 := ⟨_, rfl⟩
  obtain ⟨fo, hfo⟩ : ∃ fo, fo = s.2.2 := ⟨_, rfl⟩
  rw [← hwo] at HK0 c2 h1
  rw [← hfo] at HK0 c3 h1
  have hn0 : 0 < n := by omega
  have hn00 : ((n : Int) == 0) = false := beq_eq_false_iff_ne.2 (by omega)
  have hn4 : n ≤ 4 := by omega
  have HX0 := Lib.hid x0
  clear hn hn2 hpw hlt4 hq hqm hp hA hB oA oB hU hs hF hFn hV hwo hfo hcc IH ha0 hne K0 x0
  rcases h1 with rfl | ⟨rfl, hlt⟩
  all_goals (
    go_enter Try.func72, Try.ntmps72
    go_wp2_with (go_at_call 94; refine (HW.out _ HB.out HU.out).mono ?_; rintro r w2 ⟨rfl, hb2⟩; refine Hid.out ?_)
    unfold Hid
    have HB2 := Lib.hid hb2
    have K2 := HK0.out.below hb2
    have hbl2 := hb2.size
    have x0 := (show w2.cell? ⟨b, o, none⟩ = some (.int .i64 ((a0 : Int))) from (hb2.cell (p := ⟨b, o, none⟩) hbl).trans HX0.out)
    clear c0 c1 c2 c3 cl cf
    obtain ⟨c0, c1, c2, c3, cl, cf⟩ := K2.o4
    have hxl : b < w2.heap.size := by omega
    clear K2 hb2 hbl2
    go_wp2
    clear c0 c1 c2 c3 cl cf x0
    go_loopw [8] (fun z wr => ∃ j : Nat, j + 1 ≤ n ∧ z = (.int .i64 (((j + 1 : Nat) : Int))) ∧ MB mb ub (F j) wr ∧ But mb W wr) (fun z _ => n - (intOf z).toNat)
    case atStart => exact ⟨0, by omega, rfl, by rw [HF0.out]; exact HM.out.below HB2.out, But.of HB2.out⟩
    case round =>
      obtain ⟨j, hj, rfl, hM2, hbut⟩ := hrel
      have HMR := Lib.hid hM2
      have HBT := Lib.hid hbut
      have ej : ((j + 1 : Nat) : Int) = (j : Int) + 1 := by omega
      rw [ej]
      by_cases hjn : j + 1 < n
      · have hjn1 : (j : Int) + 1 < (n : Int) := by omega
        have hAr := HA.out.but HOA.out hbut
        obtain ⟨b', o', he, hbl', hcr⟩ := hAr (by rw [List.length_map, ← HN.out]; omega)
        cases he
        have y0 := hcr (j + 1) (by rw [List.length_map, ← HN.out]; exact hjn)
        have HAR := Lib.hid hAr
        have hsl1 := slice_mid b o n c j (by omega) (by omega)
        obtain ⟨P2, c2, hsl2, hP2⟩ := slice_end b o n c j (by omega) hnc wr _ (by rw [List.length_map]; exact HN.out) hAr
        have HP2 := Lib.hid hP2
        have HP1 := Lib.hid ((hAr.dropI 1).takeI j)
        have HY0 := Lib.hid y0
        clear hM2 hbut hAr hcr y0 hP2
        go_wp2
        refine Rel.region3 7 (by kernel_rfl) (by kernel_rfl) (by kernel_rfl) ?_
        simp only [List.take_succ_cons, List.take_zero, List.drop_succ_cons, List.drop_zero, List.filterMap_cons, List.filterMap_nil]
        repeat (apply Rel.op3; (focus (first | exact Rel.gno rfl | exact Rel.gyes _ true _ rfl rfl rfl | exact Rel.gyes _ false _ rfl rfl rfl)); (focus (intro a W hb hd hbase; obtain ⟨hc, hf⟩ := bcell hb; clear hb hf; simp [Rel.deps, Rel.dep1, Rel.ons, Region.binds, Act.eval] at hd; simp only [Act.eval, List.mem_cons, List.not_mem_nil, not_or, and_imp, or_false, Array.getD_eq_getD_getElem?] at hbase; go_simp; (try go_bits); (try rfl); done)); (try simp only [List.nil_append, List.cons_append]))
        refine Rel.done3 ?_
        intro x w4 hb4 hx
        simp only [Rel.facts, Nat.zero_add, Nat.reduceAdd] at hx
        obtain ⟨e0, e1, e2, e3, e4, e5, e6, _⟩ := hx
        simp only [Rel.fill, Nat.zero_add, Nat.reduceAdd, e0, e1, e2, e3, e4, e5, e6]
        simp only [Act.put, List.setIfInBounds_toArray, List.set_cons_zero, List.set_cons_succ]
        clear e0 e1 e2 e3 e4 e5 e6
        have HB4 := Lib.hid hb4
        have HBT4 := Lib.hid (HBT.out.trans (But.of hb4))
        clear hb4 hsl1 hsl2
        go_wp2_with (go_at_call 44; refine name_calls ?_; intro w5 e5; refine Hid.out ?_)
        unfold Hid
        have h5 : Below w4.heap.size w4 w5 := by rw [e5]; (repeat (first | (with_reducible exact Below.refl _ _) | ((with_reducible refine Below.setCell ?_ ?_ _); rotate_left 1; focus (first | (simp; done) | (simp; omega) | (simp at *; omega))) | ((with_reducible refine Below.alloc ?_ ?_ _); rotate_left 1; focus (first | (simp; done) | (simp; omega) | (simp at *; omega))) | (with_reducible refine Below.drew ?_) | ((with_reducible refine Calm.step (by assumption) ?_ ?_); rotate_left 1; focus (first | (simp; done) | (simp; omega) | (simp at *; omega)))))
        have K5 : Blk w5 w4.heap.size #[.slice (some ⟨b, o + 1, none⟩) j (c - 1), .slice P2 (n - (j + 2)) c2] := by rw [e5]; (repeat (first | ((with_reducible refine Blk.at_ ?_); focus (first | rfl | (simp; done) | (simp; omega))) | (with_reducible refine Blk.alloc ?_ _) | (with_reducible refine Blk.below ?_ (by with_reducible assumption)) | (with_reducible refine Blk.drew ?_)))
        have HB5 := Lib.hid (HB4.out.trans (h5.mono HB4.out.size))
        clear e5 h5
        refine (concat_cap _ _ _ _ j (n - (j + 2)) (c - 1) c2 w4.heap.size w5 (by rw [List.length_take, List.length_drop, List.length_map, ← HN.out]; omega) (by rw [List.length_drop, List.length_map, ← HN.out]) K5 (HP1.out.below HB5.out) (HP2.out.below HB5.out) (by omega) (by omega)).mono ?_
        rintro r w6 ⟨⟨X, xc', rfl, hX, hfX, hxc⟩, h6⟩
        have HX := Lib.hid hX
        have HFX : Hid (∀ p, X = some p → wr.heap.size ≤ p.block) := Lib.hid (fun p hp => by have := hfX p hp; have := HB5.out.size; omega)
        have HXC := Lib.hid hxc
        have HB6 := Lib.hid (HB5.out.trans (h6.mono HB5.out.size))
        have hbl6 : b < w6.heap.size := by have := HB6.out.size; omega
        have y6 : w6.cell? ⟨b, o + (j + 1), none⟩ = some (.int .i64 (((left.map fun (x : Nat) => (x : Int)).getD (j + 1) 0))) := (HB6.out.cell (p := ⟨b, o + (j + 1), none⟩) hbl').trans HY0.out
        have e3 : ((left.map fun (x : Nat) => (x : Int)).getD (j + 1) 0) = ((left.getD (j + 1) 0 : Nat) : Int) := by
          rw [List.getD_eq_getElem?_getD, List.getD_eq_getElem?_getD, List.getElem?_map]; cases left[j + 1]? <;> rfl
        rw [e3] at y6
        have hy6 : left.getD (j + 1) 0 < 4 ∧ a0 < left.getD (j + 1) 0 := by
          have h1 : j + 1 < left.length := by rw [← HN.out]; exact hjn
          rw [HA0.out, List.getD_eq_getElem?_getD, List.getD_eq_getElem?_getD, List.getElem?_eq_getElem h1, List.getElem?_eq_getElem (show 0 < left.length by omega)]
          exact ⟨HL4.out _ (List.getElem_mem h1), (List.pairwise_iff_getElem.1 HPW.out) 0 (j + 1) (by omega) h1 (by omega)⟩
        have HF1j := Lib.hid (HF1.out j)
        obtain ⟨y, hy⟩ : ∃ y, y = left.getD (j + 1) 0 := ⟨_, rfl⟩
        rw [← hy] at y6 hy6 HF1j
        have HY6 := Lib.hid hy6
        have HB6B := Lib.hid (HB.out.but HOB.out (HBT.out.trans (But.of HB6.out)))
        have HU6 := Lib.hid (HU.out.but HNE.out (HBT.out.trans (But.of HB6.out)))
        have hTC := Lib.hid (fun (W' : World) (hS : Set2 (q * 2) (.int .i64 ((a0 : Int))) (.int .i64 ((y : Int))) w6.heap.size w6 W') => bcell hS.below)
        obtain ⟨i1, hi1, jz0, jz1, jz2⟩ := info_parts Try.infoP2
        clear hX hfX hxc h6 K5 e3 hy hy6
        go_wp2
        refine RelH.region3 (S := Set2 (q * 2) (.int .i64 ((a0 : Int))) (.int .i64 ((y : Int))) w6.heap.size) Set2.trans Set2.drawn 12 (by kernel_rfl) (by kernel_rfl) (by kernel_rfl) ?_
        simp only [List.take_succ_cons, List.take_zero, List.drop_succ_cons, List.drop_zero, List.filterMap_cons, List.filterMap_nil]
        iterate 3 (apply RelH.op3 Set2.refl; (focus (first | exact RelH.gno rfl | exact RelH.gyes _ true _ rfl rfl rfl | exact RelH.gyes _ false _ rfl rfl rfl)); (focus (intro a W x hb hd hbase; obtain ⟨hc, hf⟩ := hTC.out W hb; clear hb hf; simp [RelH.deps, RelH.dep1, Rel.ons, Region.binds, Act.eval] at hd; simp only [Act.eval, List.mem_cons, List.not_mem_nil, not_or, and_imp, or_false, Array.getD_eq_getD_getElem?] at hbase; go_simp; (try go_bits); (try rfl); done)); (try simp only [List.nil_append, List.cons_append]))
        refine RelH.callR3 (fun _ u W' => W'.ownsRow w6.heap.size 66 2 u q ((flatP ps).map (Value.int .i64))) (fun x v W W' h hS => ownsRow_set2 h hS (by
          have hl : ((flatP ps).map (Value.int .i64)).length = q * 2 := by rw [List.length_map, flatP_len, HQ.out]; omega
          rw [List.set_eq_of_length_le (by simp [hl]), List.set_eq_of_length_le (by omega)])) RelH.loc_const (fun W W' hS h => Set2.ofGe hS h) (RelH.gno rfl) ?_ ?_
        · intro a W' x hb hd hbase
          refine ⟨95, #[.slice B q d], ?_, (clone2_any ps B q d W' HQ.out (HB6B.out.below hb.below) (by have := HQM.out; omega)).mono ?_⟩
          · clear hb
            simp [RelH.deps, RelH.dep1, Rel.ons, Region.binds, Act.eval] at hd
            go_simp
            (first | done | rfl | (refine ⟨?_, ?_⟩ <;> rfl))
          · rintro e W2 ⟨⟨v, rfl, ho⟩, hbb⟩
            exact ⟨_, rfl, ownsRow_base ho hb.below.size, hbb⟩
        (try simp only [List.nil_append, List.cons_append])
        iterate 6 (apply RelH.op3 Set2.refl; (focus (first | exact RelH.gno rfl | exact RelH.gyes _ true _ rfl rfl rfl | exact RelH.gyes _ false _ rfl rfl rfl)); (focus (intro a W x hb hd hbase; obtain ⟨hc, hf⟩ := hTC.out W hb; clear hb hf; simp [RelH.deps, RelH.dep1, Rel.ons, Region.binds, Act.eval] at hd; simp only [Act.eval, List.mem_cons, List.not_mem_nil, not_or, and_imp, or_false, Array.getD_eq_getD_getElem?] at hbase; go_simp; (try go_bits); (try rfl); done)); (try simp only [List.nil_append, List.cons_append]))
        refine RelH.opW3 (fun _ => Rel.NewS w6.heap.size 1 1 #[(.int .i64 ((a0 : Int))), (.int .i64 ((y : Int)))]) (fun x v W W' h hS => by
          obtain ⟨g, h1, h2, h3⟩ := h
          refine ⟨g, h1, h2, Blk.set2 h3 hS h2 ?_⟩
          cases q with
          | zero => rfl
          | succ q =>
            apply Array.ext_getElem?
            intro i
            rw [put2_get]
            by_cases hi : i < 2
            · rw [if_pos (by simpa using hi), if_neg (by omega), if_neg (by omega)]
            · rw [if_neg (by simpa using hi)]
              simp; omega) RelH.loc_const (RelH.gno rfl) ?_ ?_
        · intro a W' x hb hd hbase
          simp [RelH.deps, RelH.dep1, Rel.ons, Region.binds, Act.eval] at hd
          refine ⟨.slice (some ⟨W'.heap.size, 0, none⟩) 1 1, W'.alloc (.cells #[(.int .i64 ((a0 : Int))), (.int .i64 ((y : Int)))] 66), ?_, ⟨_, rfl, hb.below.size, Calm.Blk.new W' _ _⟩, Set2.of ((Below.refl _ _).alloc (Nat.le_refl _) _) hb.below.size⟩
          go_simp
          (first | done | rfl | (refine ⟨?_, ?_⟩ <;> rfl))
        (try simp only [List.nil_append, List.cons_append])
        refine RelH.app3 (fun _ u W' => W'.ownsRow w6.heap.size 66 2 u (q + 1) ((flatP ps).map (Value.int .i64) ++ [(.int .i64 ((a0 : Int))), (.int .i64 ((y : Int)))])) (fun x v W W' h hS => ownsRow_set2 h hS (by
          have hl : ((flatP ps).map (Value.int .i64)).length = q * 2 := by rw [List.length_map, flatP_len, HQ.out]; omega
          rw [← hl]
          simp [List.set_append])) RelH.loc_const (.tmp 64) (.tmp 71) 59 rfl (RelH.gno rfl) ?_ ?_
        · intro a W' x hb hd hbase
          simp [RelH.deps, RelH.dep1, Rel.ons, Region.binds] at hd
          obtain ⟨⟨_, ho⟩, ⟨_, hx⟩, _⟩ := hd
          obtain ⟨g, hxv, _, hxk⟩ := hx
          rw [hxv]
          exact append_set2 (P := Try.prog) w6.heap.size 59 59 66 i1 _ 16 Try.underlying59 hi1 jz0 jz1 jz2 rfl _ q _ (.int .i64 ((a0 : Int))) (.int .i64 ((y : Int))) rfl rfl W' ho hb.below.size (by unfold maxLen; have := HQM.out; omega) (by have := HQM.out; omega) g 1 (hxk.cell 0 _ rfl) (hxk.cell 1 _ rfl)
        (try simp only [List.nil_append, List.cons_append])
        refine RelH.done3 ?_
        intro x w7 hS hx
        simp only [RelH.facts, Nat.zero_add, Nat.reduceAdd] at hx
        obtain ⟨e0, e1, e2, e3, e4, e5, e6, e7, e8, e9, -, e11, _⟩ := hx
        obtain ⟨Y7, y7, v7, hY7, hC7, -⟩ := own_pairs (zs := flatP ps ++ [(a0 : Int), (y : Int)]) (by simpa using e11)
        simp only [RelH.fill, Nat.zero_add, Nat.reduceAdd, e0, e1, e2, e4, e5, e6, e7, e8, e9, v7]
        simp only [Act.put, List.setIfInBounds_toArray, List.set_cons_zero, List.set_cons_succ]
        have hb7 := hS.below
        have hmb6 : mb < w6.heap.size := by
          obtain ⟨_, _, k, _⟩ := HMR.out
          have := k.lt
          have := HB6.out.size
          omega
        have HB7 := Lib.hid (HB6.out.trans (hb7.mono HB6.out.size))
        have HIV := Lib.hid (HIH.out (restL left (j + 1)) (ps ++ [(a0, y)]) X Y7 (j + (n - (j + 2))) xc' (q + 1) y7 (F j) w7 (by rw [restL_len left j (by rw [← HN.out]; omega), ← HN.out]) (by have := HN2.out; omega) HXC.out (HPW.out.sublist (restL_sub left j)) (fun z hz => HL4.out z ((restL_sub left j).subset hz)) (by rw [List.length_append, HQ.out]; rfl) (by have := HQM.out; omega)
          (fun p hp => by
            rcases List.mem_append.1 hp with hp | hp
            · exact HP.out p hp
            · obtain rfl := List.mem_singleton.1 hp
              exact okP_of HY6.out.2 HY6.out.1)
          (by rw [restL_map]; exact HX.out.below hb7) (by rw [show flatP (ps ++ [(a0, y)]) = flatP ps ++ [(a0 : Int), (y : Int)] by simp [flatP]]; exact hC7) (fun p hp => by have := HFX.out p hp; obtain ⟨_, _, k, _⟩ := HMR.out; have := k.lt; omega) (fun p hp => by have := hY7 p hp; omega) (HU6.out.below hb7) (HMR.out.below HB7.out))
        clear e0 e1 e2 e3 e4 e5 e6 e7 e8 e9 e11 v7 hS hTC hY7 hC7 y6 hb7
        go_wp2_with (go_at_call 72; refine HIV.out.mono ?_; rintro e w9 ⟨rfl, hs9, hb9⟩; refine Hid.out ?_)
        unfold Hid
        have HS9 := Lib.hid hs9
        have HB9 := Lib.hid ((HBT.out.trans (But.of HB7.out)).trans hb9)
        clear hs9 hb9
        go_wp2
        go_roundw
        case rel => exact ⟨j + 1, by omega, by go_num, by rw [HF1j.out]; exact HS9.out, HB9.out⟩
        case measure => simp [intOf]; omega
      · obtain rfl : n = j + 1 := by omega
        clear hM2 hbut
        go_wp2
        exact bodyPost_end (v := .tuple #[]) (by simp [results, Try.results72, go_sem]) rfl ⟨rfl, HMR.out, HBT.out⟩)
theorem visit_any (mb ub v0 v1 v2 v3 : Nat) (hne : ub ≠ mb ∧ v0 ≠ mb ∧ v1 ≠ mb ∧ v2 ≠ mb ∧ v3 ≠ mb) : VisC mb ub v0 v1 v2 v3 2 := by
  refine visit_node mb ub v0 v1 v2 v3 1 hne (visit_node mb ub v0 v1 v2 v3 0 hne ?_ (by omega)) (by omega)
  intro left ps A B n c q d s W hn hn2 hnc hpw hlt4 hq hqm hp hA hB oA oB hU hM
  obtain rfl : n = 0 := by omega
  by_cases hs : s.2.2 = true ∧ s.2.1 ≤ wV ps
  · rw [show visM 0 left ps s = s from if_pos hs]
    exact visit_skip mb ub v0 v1 v2 v3 ps A B 0 c q d s W hq (by omega) hp hB hU hM hs.1 hs.2
  · rw [show visM 0 left ps s = (ps, wV ps, true) from if_neg hs]
    refine visit_leaf mb ub v0 v1 v2 v3 ps A B c q d s W hq (by omega) hp hB hU hM ?_
    cases h : s.2.2
    · exact .inl rfl
    · exact .inr ⟨rfl, fun h2 => hs ⟨h, h2⟩⟩
theorem visM_all : visM 2 [0, 1, 2, 3] [] ([], 0, false) = ([(0, 2), (1, 3)], 1, true) := by decide
end Go.Proofs.Ytamldoidalnloaa

/- SamePairs of two pairs. -/
namespace Go.Proofs.Ytamldoidalnloaa
open Go.RowKit
open Calm (bcell Blk)
set_option maxRecDepth 100000 in
set_option maxHeartbeats 4000000 in
theorem samePairs_two (x0 y0 x1 y1 : Int) (A B : Option Addr) (c d : Nat) (w : World) (hA : Cells w A [x0, y0, x1, y1]) (hB : Cells w B [x0, y0, x1, y1]) :
    Calls Try.prog 25 #[.slice A 2 c, .slice B 2 d] w fun r w' => r = .returned (.bool true) ∧ Below w.heap.size w w' := by
  obtain ⟨g, o, rfl, q1, k1⟩ := hA (by simp)
  obtain ⟨g', o', rfl, q2, k2⟩ := hB (by simp)
  have HA := Lib.hid hA
  have HB := Lib.hid hB
  have hne : ∀ (a b : Int) (W : World), Sem.run Try.prog (binOp BinOp.neq 66 (.agg #[(.int .i64 a), (.int .i64 b)]) (.agg #[(.int .i64 a), (.int .i64 b)])) W = .ok (.bool false) W := fun a b W => by rw [neq2]; simp
  clear hA hB k1 k2
  go_enter Try.func25, Try.ntmps25
  go_wp2
  go_loopw [5] (fun z wr => ∃ k : Nat, k ≤ 2 ∧ z = (.int .i64 ((k : Int))) ∧ Below w.heap.size w wr) (fun z _ => 2 - (intOf z).toNat)
  case atStart => exact ⟨0, by omega, rfl, Below.refl _ _⟩
  case round =>
    obtain ⟨k, hk, rfl, hb⟩ := hrel
    have HBR := Lib.hid hb
    obtain ⟨g, o, e0, q1, k1⟩ := (HA.out.below hb) (by simp)
    cases e0
    obtain ⟨g', o', e0, q2, k2⟩ := (HB.out.below hb) (by simp)
    cases e0
    have a0 := k1 0 (by simp)
    have a1 := k1 1 (by simp)
    have a2 := k1 2 (by simp)
    have a3 := k1 3 (by simp)
    have b0 := k2 0 (by simp)
    have b1 := k2 1 (by simp)
    have b2 := k2 2 (by simp)
    have b3 := k2 3 (by simp)
    simp only [Nat.add_zero, List.getD_cons_zero, List.getD_cons_succ] at a0 a1 a2 a3 b0 b1 b2 b3
    clear hb k1 k2
    rcases (by omega : k = 0 ∨ k = 1 ∨ k = 2) with rfl | rfl | rfl
    · have ek : ((0 : Nat) : Int) = 0 := rfl
      rw [ek]
      go_wp2
      refine Rel.region3 8 (by kernel_rfl) (by kernel_rfl) (by kernel_rfl) ?_
      simp only [List.take_succ_cons, List.take_zero, List.drop_succ_cons, List.drop_zero, List.filterMap_cons, List.filterMap_nil]
      repeat (apply Rel.op3; (focus (first | exact Rel.gno rfl | exact Rel.gyes _ true _ rfl rfl rfl | exact Rel.gyes _ false _ rfl rfl rfl)); (focus (intro a W hb hd hbase; obtain ⟨hc, hf⟩ := bcell hb; clear hb hf; simp [Rel.deps, Rel.dep1, Rel.ons, Region.binds, Act.eval] at hd; simp only [Act.eval, List.mem_cons, List.not_mem_nil, not_or, and_imp, or_false, Array.getD_eq_getD_getElem?] at hbase; go_simp; (try go_bits); (try rfl); done)); (try simp only [List.nil_append, List.cons_append]))
      refine Rel.done3 ?_
      intro x w2 hb2 hx
      simp only [Rel.facts, Nat.zero_add, Nat.reduceAdd] at hx
      obtain ⟨e0, e1, e2, e3, e4, e5, e6, e7, _⟩ := hx
      simp only [Rel.fill, Nat.zero_add, Nat.reduceAdd, e0, e1, e2, e3, e4, e5, e6, e7]
      simp only [Act.put, List.setIfInBounds_toArray, List.set_cons_zero, List.set_cons_succ]
      clear e0 e1 e2 e3 e4 e5 e6 e7
      have HB2 := Lib.hid (HBR.out.trans (hb2.mono HBR.out.size))
      clear hb2 a0 a1 a2 a3 b0 b1 b2 b3 q1 q2
      go_wp2
      go_roundw
      case rel => exact ⟨1, by omega, by go_num, HB2.out⟩
      case measure => simp [intOf]
    · have ek : ((1 : Nat) : Int) = 1 := rfl
      rw [ek]
      go_wp2
      refine Rel.region3 8 (by kernel_rfl) (by kernel_rfl) (by kernel_rfl) ?_
      simp only [List.take_succ_cons, List.take_zero, List.drop_succ_cons, List.drop_zero, List.filterMap_cons, List.filterMap_nil]
      repeat (apply Rel.op3; (focus (first | exact Rel.gno rfl | exact Rel.gyes _ true _ rfl rfl rfl | exact Rel.gyes _ false _ rfl rfl rfl)); (focus (intro a W hb hd hbase; obtain ⟨hc, hf⟩ := bcell hb; clear hb hf; simp [Rel.deps, Rel.dep1, Rel.ons, Region.binds, Act.eval] at hd; simp only [Act.eval, List.mem_cons, List.not_mem_nil, not_or, and_imp, or_false, Array.getD_eq_getD_getElem?] at hbase; go_simp; (try go_bits); (try rfl); done)); (try simp only [List.nil_append, List.cons_append]))
      refine Rel.done3 ?_
      intro x w2 hb2 hx
      simp only [Rel.facts, Nat.zero_add, Nat.reduceAdd] at hx
      obtain ⟨e0, e1, e2, e3, e4, e5, e6, e7, _⟩ := hx
      simp only [Rel.fill, Nat.zero_add, Nat.reduceAdd, e0, e1, e2, e3, e4, e5, e6, e7]
      simp only [Act.put, List.setIfInBounds_toArray, List.set_cons_zero, List.set_cons_succ]
      clear e0 e1 e2 e3 e4 e5 e6 e7
      have HB2 := Lib.hid (HBR.out.trans (hb2.mono HBR.out.size))
      clear hb2 a0 a1 a2 a3 b0 b1 b2 b3 q1 q2
      go_wp2
      go_roundw
      case rel => exact ⟨2, by omega, by go_num, HB2.out⟩
      case measure => simp [intOf]
    · have ek : ((2 : Nat) : Int) = 2 := rfl
      rw [ek]
      go_wp2
      go_ret
      exact ⟨rfl, HBR.out⟩
end Go.Proofs.Ytamldoidalnloaa

/- Pairs of the four units. -/
namespace Go.Proofs.Ytamldoidalnloaa
open Go.RowKit
open Calm (bcell Blk)
set_option maxRecDepth 100000 in
set_option maxHeartbeats 8000000 in
theorem pairs_ok (ub v0 v1 v2 v3 : Nat) (w : World) (hU : US w ub v0 v1 v2 v3) :
    Calls Try.prog 24 #[.slice (some ⟨ub, 0, none⟩) 4 4] w fun r w' => (∃ Y y, r = .returned (.tuple #[.slice Y 2 y, (.int .i64 1), (.int .i64 0)]) ∧ Cells w' Y [0, 2, 1, 3]) ∧ Below w.heap.size w w' := by
  have HCU : Hid (∀ W, US W ub v0 v1 v2 v3 → Calls Try.prog 70 #[.slice (some ⟨ub, 0, none⟩) 4 4] W fun r w' => r = .returned (.int .i64 0) ∧ Below W.heap.size W w') := Lib.hid (fun W h => checkUnits_ok ub v0 v1 v2 v3 W h)
  have HWH2 : Hid (∀ (e : Int) W, Calls Try.prog 71 #[.bool false, (.int .i64 e)] W fun r w' => r = .returned (.int .i64 0) ∧ W = w') := Lib.hid (fun e W => lnWhen_any false e W)
  have HF3 : Hid (∀ (W : World), Calls Try.prog 69 #[.slice (some ⟨W.heap.size, 0, none⟩) 3 3] (W.alloc (.cells #[(.int .i64 0), (.int .i64 0), (.int .i64 0)] 24)) fun r w' => r = .returned (.int .i64 0) ∧ (W.alloc (.cells #[(.int .i64 0), (.int .i64 0), (.int .i64 0)] 24)) = w') := Lib.hid (fun W => lnFirst_cells [0, 0, 0] W (by simp))
  have HU := Lib.hid hU
  clear hU
  go_enter Try.func24, Try.ntmps24
  go_wp2_with (first
    | (go_at_call 70; refine (HCU.out _ HU.out).mono ?_; rintro r w1 ⟨rfl, hb1⟩; have HB1 := Lib.hid hb1; clear hb1)
    | (go_at_call 71; refine (HWH2.out _ _).mono ?_; rintro r wx ⟨rfl, rfl⟩)
    | (go_at_call 69; refine (HF3.out _).mono ?_; rintro r wx ⟨rfl, rfl⟩)
    | (go_at_call 73; refine name_calls ?_; intro w3 e3; refine Hid.out ?_))
  unfold Hid
  have h3 : Below w1.heap.size w1 w3 := by rw [e3]; (repeat (first | (with_reducible exact Below.refl _ _) | ((with_reducible refine Below.setCell ?_ ?_ _); rotate_left 1; focus (first | (simp; done) | (simp; omega) | (simp at *; omega))) | ((with_reducible refine Below.alloc ?_ ?_ _); rotate_left 1; focus (first | (simp; done) | (simp; omega) | (simp at *; omega))) | (with_reducible refine Below.drew ?_) | ((with_reducible refine Calm.step (by assumption) ?_ ?_); rotate_left 1; focus (first | (simp; done) | (simp; omega) | (simp at *; omega)))))
  have K3 : Blk w3 (w1.heap.size + 1) #[.slice (some ⟨ub, 0, none⟩) 4 4, .slice none 0 0, (.int .i64 0), .bool false] := by rw [e3]; (repeat (first | ((with_reducible refine Blk.at_ ?_); focus (first | rfl | (simp; done) | (simp; omega))) | (with_reducible refine Blk.alloc ?_ _) | (with_reducible refine Blk.below ?_ (by with_reducible assumption)) | (with_reducible refine Blk.drew ?_)))
  have HB3 := Lib.hid (HB1.out.trans (h3.mono HB1.out.size))
  have HU3 := Lib.hid (HU.out.below HB3.out)
  have HK3 := Lib.hid K3
  have hw1 : w.heap.size ≤ w1.heap.size := HB1.out.size
  obtain ⟨mb, hmb⟩ : ∃ mb, mb = w1.heap.size + 1 := ⟨_, rfl⟩
  have hwm : w.heap.size < mb := by omega
  have HNE : Hid (ub ≠ mb ∧ v0 ≠ mb ∧ v1 ≠ mb ∧ v2 ≠ mb ∧ v3 ≠ mb) := Lib.hid (by
    have := HU.out.u.lt
    have := HU.out.k0.lt
    have := HU.out.k1.lt
    have := HU.out.k2.lt
    have := HU.out.k3.lt
    omega)
  rw [← hmb] at HK3 ⊢
  clear e3 h3 K3
  refine (indices_any _ 4 4 w3 (by omega)).mono ?_
  rintro r w4 ⟨⟨B, d, rfl, hI, hIf, hId⟩, h4⟩
  have hm3 : mb < w3.heap.size := HK3.out.lt
  have hb4 := HB3.out.trans (h4.mono HB3.out.size)
  have HB4 := Lib.hid hb4
  have HV := Lib.hid (visit_any mb ub v0 v1 v2 v3 HNE.out [0, 1, 2, 3] [] B none 4 d 0 0 ([], 0, false) w4 rfl rfl hId (by decide) (by decide) rfl (by omega) (fun p hp => by cases hp) hI (fun h => by cases h) (fun p hp => by have := hIf p hp; omega) (fun p hp => by cases hp) (HU3.out.below h4) ⟨none, 0, HK3.out.below h4, (fun h => by cases h), (fun p hp => by cases hp)⟩)
  have hs4 : w.heap.size ≤ w4.heap.size := hb4.size
  clear hI hIf hId h4 hb4 hmb
  go_wp2_with (go_at_call 72; refine HV.out.mono ?_; rw [visM_all]; rintro r w5 ⟨rfl, hM, hbt⟩; refine Hid.out ?_)
  unfold Hid
  have HB5 := Lib.hid (HB4.out.trans (hbt.below (Nat.le_of_lt hwm) hs4))
  obtain ⟨Y, y, K5, hY, -⟩ := hM
  have K5 : Blk w5 mb #[.slice (some ⟨ub, 0, none⟩) 4 4, .slice Y 2 y, (.int .i64 1), .bool true] := K5
  have HY : Hid (Cells w5 Y [0, 2, 1, 3]) := Lib.hid hY
  obtain ⟨c0, c1, c2, c3, cl, cf⟩ := K5.o4
  clear hbt hY K5
  go_wp2
  refine Rel.region3 9 (by kernel_rfl) (by kernel_rfl) (by kernel_rfl) ?_
  simp only [List.take_succ_cons, List.take_zero, List.drop_succ_cons, List.drop_zero, List.filterMap_cons, List.filterMap_nil]
  repeat (apply Rel.op3; (focus (first | exact Rel.gno rfl | exact Rel.gyes _ true _ rfl rfl rfl | exact Rel.gyes _ false _ rfl rfl rfl)); (focus (intro a W hb hd hbase; obtain ⟨hc, hf⟩ := bcell hb; clear hb hf; simp [Rel.deps, Rel.dep1, Rel.ons, Region.binds, Act.eval] at hd; simp only [Act.eval, List.mem_cons, List.not_mem_nil, not_or, and_imp, or_false, Array.getD_eq_getD_getElem?] at hbase; go_simp; (try go_bits); (try rfl); done)); (try simp only [List.nil_append, List.cons_append]))
  refine Rel.done3 ?_
  intro x w6 hb6 hx
  simp only [Rel.facts, Nat.zero_add, Nat.reduceAdd] at hx
  obtain ⟨e0, e1, e2, e3, e4, e5, e6, e7, e8, _⟩ := hx
  simp only [Rel.fill, Nat.zero_add, Nat.reduceAdd, e0, e1, e2, e3, e4, e5, e6, e7, e8]
  simp only [Act.put, List.setIfInBounds_toArray, List.set_cons_zero, List.set_cons_succ]
  clear e0 e1 e2 e3 e4 e5 e6 e7 e8
  have HB6 := Lib.hid (HB5.out.trans (hb6.mono HB5.out.size))
  have HY6 := Lib.hid (HY.out.below hb6)
  clear hb6 c0 c1 c2 c3 cl cf
  go_wp2
  refine bodyPost_ret (v := .tuple #[.slice Y 2 y, (.int .i64 1), (.int .i64 0)]) (by simp [results, Try.results24, go_sem]) rfl ⟨⟨Y, y, rfl, HY6.out⟩, HB6.out⟩
end Go.Proofs.Ytamldoidalnloaa

/- The law of complementary pairs, plain: what is deconvolved is the response. -/
namespace Go.Proofs.Ytamldoidalnloaa
/-- a sum. -/
def sig : Nat → (Nat → Int) → Int
  | 0, _ => 0
  | n + 1, f => sig n f + f n
theorem sig_congr {f g : Nat → Int} : ∀ {n : Nat}, (∀ i, i < n → f i = g i) → sig n f = sig n g
  | 0, _ => rfl
  | n + 1, h => by
    simp only [sig]
    rw [sig_congr (fun i hi => h i (by omega)), h n (by omega)]
theorem sig_zero : ∀ n : Nat, sig n (fun _ => 0) = 0
  | 0 => rfl
  | n + 1 => by simp only [sig]; rw [sig_zero n]; rfl
theorem sig_add (f g : Nat → Int) : ∀ n : Nat, sig n (fun i => f i + g i) = sig n f + sig n g
  | 0 => rfl
  | n + 1 => by simp only [sig]; rw [sig_add f g n]; omega
theorem sig_mul (c : Int) (f : Nat → Int) : ∀ n : Nat, c * sig n f = sig n (fun i => c * f i)
  | 0 => by simp [sig]
  | n + 1 => by simp only [sig]; rw [← sig_mul c f n, Int.mul_add]
theorem sig_comm (f : Nat → Nat → Int) (m : Nat) : ∀ n : Nat, sig n (fun i => sig m (fun j => f i j)) = sig m (fun j => sig n (fun i => f i j))
  | 0 => by simp only [sig]; exact (sig_zero m).symm
  | n + 1 => by
    simp only [sig]
    rw [sig_comm f m n, ← sig_add]
theorem sig_one (c : Nat → Int) (j : Nat) : ∀ n : Nat, sig n (fun i => if i = j then c i else 0) = if j < n then c j else 0
  | 0 => by simp [sig]
  | n + 1 => by
    simp only [sig]
    rw [sig_one c j n]
    by_cases h : n = j
    · subst h; rw [if_neg (by omega), if_pos rfl, if_pos (by omega)]; omega
    · rw [if_neg h]
      by_cases h2 : j < n
      · rw [if_pos h2, if_pos (by omega)]; omega
      · rw [if_neg h2, if_neg (by omega)]; omega
theorem smAt_sig (p0 p1 a b : List Int) (j : Nat) : ∀ i, smAt p0 p1 a b j i = sig i (fun k => p0.getD k 0 * a.getD (k + j) 0 + p1.getD k 0 * b.getD (k + j) 0)
  | 0 => rfl
  | i + 1 => by simp only [smAt, sig]; rw [smAt_sig p0 p1 a b j i]
/-- an element of a sequence that begins m later. -/
def pz (p : List Int) (t m : Nat) : Int := if m ≤ t then p.getD (t - m) 0 else 0
theorem cvAt_sig (h p : List Int) (t : Nat) : ∀ i, cvAt h p t i = sig i (fun m => h.getD m 0 * pz p t m)
  | 0 => rfl
  | i + 1 => by
    simp only [cvAt, sig]
    rw [cvAt_sig h p t i]
    unfold pz
    congr 1
    split <;> simp
theorem conv_get {h p : List Int} {t : Nat} (ht : t < h.length + p.length - 1) (h0 : 0 < h.length) (p0 : 0 < p.length) : (conv h p).getD t 0 = cvAt h p t h.length := by
  unfold conv
  rw [if_neg (by omega), List.getD_eq_getElem?_getD]
  simp [ht]
def autoA (P Q : List Int) (n d : Nat) : Int := sig n (fun i => P.getD i 0 * P.getD (i + d) 0 + Q.getD i 0 * Q.getD (i + d) 0)
def autoB (P Q : List Int) (n d : Nat) : Int := sig n (fun i => P.getD i 0 * (if d ≤ i then P.getD (i - d) 0 else 0) + Q.getD i 0 * (if d ≤ i then Q.getD (i - d) 0 else 0))
def golOk (e : Nat) : Bool := (List.range (2 ^ e)).all fun d => (autoA (gol e).1 (gol e).2 (2 ^ e) d == if d = 0 then 2 * ((2 ^ e : Nat) : Int) else 0) && (d == 0 || autoB (gol e).1 (gol e).2 (2 ^ e) d == 0)
set_option maxRecDepth 100000 in
theorem gol_ok : ∀ e, e < 6 → golOk e = true := by decide +kernel
theorem autoA_val {e : Nat} (he : e < 6) (d : Nat) : autoA (gol e).1 (gol e).2 (2 ^ e) d = if d = 0 then 2 * ((2 ^ e : Nat) : Int) else 0 := by
  rcases Nat.lt_or_ge d (2 ^ e) with hd | hd
  · have := gol_ok e he
    unfold golOk at this
    rw [List.all_eq_true] at this
    have := this d (List.mem_range.2 hd)
    simp only [Bool.and_eq_true, beq_iff_eq] at this
    exact this.1
  · have hp := pow_le_64 (show e ≤ 6 by omega)
    rw [if_neg (by omega)]
    unfold autoA
    refine Eq.trans ?_ (sig_zero (2 ^ e))
    obtain ⟨g1, g2⟩ := gol_len e
    refine sig_congr fun i _ => ?_
    rw [List.getD_eq_getElem?_getD (l := (gol e).1) (i := i + d), List.getElem?_eq_none (by omega), List.getD_eq_getElem?_getD (l := (gol e).2) (i := i + d), List.getElem?_eq_none (by omega)]
    simp
theorem autoB_val {e : Nat} (he : e < 6) (d : Nat) (h0 : d ≠ 0) : autoB (gol e).1 (gol e).2 (2 ^ e) d = 0 := by
  rcases Nat.lt_or_ge d (2 ^ e) with hd | hd
  · have := gol_ok e he
    unfold golOk at this
    rw [List.all_eq_true] at this
    have := this d (List.mem_range.2 hd)
    simp only [Bool.and_eq_true, Bool.or_eq_true, beq_iff_eq] at this
    exact this.2.resolve_left h0
  · unfold autoB
    refine Eq.trans ?_ (sig_zero (2 ^ e))
    refine sig_congr fun i hi => ?_
    rw [if_neg (by omega), if_neg (by omega)]
    simp
theorem corr_val {e : Nat} (he : e < 6) (j m : Nat) : sig (2 ^ e) (fun i => (gol e).1.getD i 0 * pz (gol e).1 (i + j) m + (gol e).2.getD i 0 * pz (gol e).2 (i + j) m) = if m = j then 2 * ((2 ^ e : Nat) : Int) else 0 := by
  rcases Nat.lt_or_ge j m with h | h
  · rw [if_neg (by omega)]
    refine Eq.trans ?_ (autoB_val he (m - j) (by omega))
    unfold autoB
    refine sig_congr fun i _ => ?_
    unfold pz
    by_cases hc : m - j ≤ i
    · rw [if_pos (by omega), if_pos (by omega), if_pos hc, if_pos hc, show i + j - m = i - (m - j) by omega]
    · rw [if_neg (by omega), if_neg (by omega), if_neg hc, if_neg hc]
  · have : sig (2 ^ e) (fun i => (gol e).1.getD i 0 * pz (gol e).1 (i + j) m + (gol e).2.getD i 0 * pz (gol e).2 (i + j) m) = autoA (gol e).1 (gol e).2 (2 ^ e) (j - m) := by
      unfold autoA
      refine sig_congr fun i _ => ?_
      unfold pz
      rw [if_pos (by omega), if_pos (by omega), show i + j - m = i + (j - m) by omega]
    rw [this, autoA_val he]
    by_cases hm : m = j
    · rw [if_pos (by omega), if_pos hm]
    · rw [if_neg (by omega), if_neg hm]
theorem golay {e : Nat} (he : e < 6) (h : List Int) (h0 : 0 < h.length) : smL (gol e).1 (gol e).2 (conv h (gol e).1) (conv h (gol e).2) (2 ^ e) h.length = h.map fun x => x * (2 * ((2 ^ e : Nat) : Int)) := by
  obtain ⟨g1, g2⟩ := gol_len e
  have hp := pow_le_64 (show e ≤ 6 by omega)
  apply List.ext_getElem?
  intro j
  unfold smL
  rcases Nat.lt_or_ge j h.length with hj | hj
  · rw [List.getElem?_map, List.getElem?_range hj, List.getElem?_map, List.getElem?_eq_getElem hj]
    simp only [Option.map_some]
    congr 1
    rw [smAt_sig]
    have e1 : sig (2 ^ e) (fun k => (gol e).1.getD k 0 * (conv h (gol e).1).getD (k + j) 0 + (gol e).2.getD k 0 * (conv h (gol e).2).getD (k + j) 0) =
        sig (2 ^ e) (fun k => sig h.length (fun m => h.getD m 0 * ((gol e).1.getD k 0 * pz (gol e).1 (k + j) m + (gol e).2.getD k 0 * pz (gol e).2 (k + j) m))) := by
      refine sig_congr fun k hk => ?_
      rw [conv_get (by omega) h0 (by omega), conv_get (by omega) h0 (by omega), cvAt_sig, cvAt_sig, sig_mul, sig_mul, ← sig_add]
      refine sig_congr fun m _ => ?_
      rw [Int.mul_add, Int.mul_left_comm, Int.mul_left_comm ((gol e).2.getD k 0)]
    rw [e1, sig_comm]
    have e2 : ∀ m, sig (2 ^ e) (fun k => h.getD m 0 * ((gol e).1.getD k 0 * pz (gol e).1 (k + j) m + (gol e).2.getD k 0 * pz (gol e).2 (k + j) m)) = if m = j then h.getD m 0 * (2 * ((2 ^ e : Nat) : Int)) else 0 := fun m => by
      rw [← sig_mul, corr_val he]
      split <;> simp
    rw [sig_congr (g := fun m => if m = j then h.getD m 0 * (2 * ((2 ^ e : Nat) : Int)) else 0) (fun m _ => e2 m), sig_one, if_pos hj, List.getD_eq_getElem?_getD, List.getElem?_eq_getElem hj]
    rfl
  · rw [List.getElem?_eq_none (by simp; omega), List.getElem?_eq_none (by simp; omega)]
end Go.Proofs.Ytamldoidalnloaa
