/- Part 3 of the texts of the claim: P3, P4, P13. -/
import Derived.Test.YtdeapbihbhoefaaGreatDoorMr2
import Derived.Laws.AppendOwn

/- Contract of (Guard).behind: the state behind an output, and the excursion at it. -/
namespace Go.Proofs.YtdeapbihbhoefaaGreatDoor
open Go.RowKit
open Calm (bcell Blk)

/-- the excursion at an output: the sum of the first taps. -/
def exK (ts ps : List Int) (y : Int) : Nat → Int
  | 0 => ts.getD 0 0 * y
  | k + 1 => exK ts ps y k + ts.getD (k + 1) 0 * ps.getD k 0
def exF (ts ps : List Int) (y : Int) : Int := exK ts ps y ps.length
/-- the last outputs behind one. -/
def pushL (ps : List Int) (y : Int) : List Int := (y :: ps).take ps.length
theorem pushL_len (ps : List Int) (y : Int) : (pushL ps y).length = ps.length := by simp [pushL]
def inB (b : Int) (l : List Int) : Prop := ∀ x ∈ l, -b ≤ x ∧ x ≤ b
theorem inB_get {b : Int} {l : List Int} (h : inB b l) (hb : 0 ≤ b) (k : Nat) : -b ≤ l.getD k 0 ∧ l.getD k 0 ≤ b := by
  rw [List.getD_eq_getElem?_getD]
  rcases Nat.lt_or_ge k l.length with hk | hk
  · rw [List.getElem?_eq_getElem hk]; exact h _ (List.getElem_mem hk)
  · rw [List.getElem?_eq_none hk]; simp only [Option.getD_none]; omega
theorem inB_push {b y : Int} {l : List Int} (h : inB b l) (hy : -b ≤ y ∧ y ≤ b) : inB b (pushL l y) := by
  intro x hx
  have := List.mem_of_mem_take hx
  simp only [List.mem_cons] at this
  rcases this with rfl | h1
  · exact hy
  · exact h x h1
theorem mul_bd {a b A B : Int} (ha : -A ≤ a ∧ a ≤ A) (hb : -B ≤ b ∧ b ≤ B) : -(A * B) ≤ a * b ∧ a * b ≤ A * B := by
  have hA : 0 ≤ A := by omega
  have h1 : (A - a) * (B + b) ≥ 0 := Int.mul_nonneg (by omega) (by omega)
  have h2 : (A + a) * (B - b) ≥ 0 := Int.mul_nonneg (by omega) (by omega)
  have h3 : (A - a) * (B - b) ≥ 0 := Int.mul_nonneg (by omega) (by omega)
  have h4 : (A + a) * (B + b) ≥ 0 := Int.mul_nonneg (by omega) (by omega)
  simp only [Int.sub_mul, Int.add_mul, Int.mul_add, Int.mul_sub] at h1 h2 h3 h4
  omega
theorem exK_bd {ts ps : List Int} {y : Int} (h1 : inB 64 ts) (h2 : inB 2048 ps) (h3 : -2048 ≤ y ∧ y ≤ 2048) : ∀ k : Nat, -(131072 * ((k : Int) + 1)) ≤ exK ts ps y k ∧ exK ts ps y k ≤ 131072 * ((k : Int) + 1)
  | 0 => by
    have := mul_bd (inB_get h1 (by omega) 0) h3
    simp only [exK]; omega
  | k + 1 => by
    have h4 := exK_bd h1 h2 h3 k
    have := mul_bd (inB_get h1 (by omega) (k + 1)) (inB_get h2 (by omega) k)
    simp only [exK]; omega

theorem Tryz.infoI : (Tryz.prog.info? 3).map (fun i => (i.zero, i.size, i.bytes)) = some (some (.int .i64 0), 1, 8) := by kernel_rfl
theorem Tryz.sizeI : (Tryz.prog.info? 3).map (·.size) = some 1 := by kernel_rfl
/-- n zeros. -/
def zerosA (n : Nat) : List Value := List.replicate n (.int .i64 0)
theorem mk_ints (n : Nat) (hn : n ≤ 1000000) (W : World) : Sem.run Tryz.prog (Instr.makeSlice 22 (.int .i64 n) (.int .i64 n)) W = .ok (.slice (some ⟨W.heap.size, 0, none⟩) n n) (W.alloc (.cells (zerosA n).toArray 3)) := by
  have e : (zerosA n).toArray = madeCells #[.int .i64 0] n := by
    apply Array.toList_inj.1
    rw [toList_madeCells_one]
    simp [zerosA]
  rw [e]
  exact run_make_row' 22 3 _ 8 Tryz.underlying22 Tryz.infoI rfl .i64 .i64 n (by omega) (by omega) W

/-- a struct of three cells, stored. -/
theorem Calm.Blk.set3 {w : World} {g : Nat} {u0 u1 u2 : Value} (h : Blk w g #[u0, u1, u2]) (a b c : Value) : Blk (((w.setCell ⟨g, 0, none⟩ a).setCell ⟨g, 1, none⟩ b).setCell ⟨g, 2, none⟩ c) g #[a, b, c] := by
  refine ⟨by simpa using h.lt, fun i => ?_, fun i => by rw [World.frozen?_setCell, World.frozen?_setCell, World.frozen?_setCell]; exact h.f i⟩
  have e0 := h.c 0
  have e1 := h.c 1
  have e2 := h.c 2
  simp at e0 e1 e2
  match i with
  | 0 => rw [World.cell?_setCell_other _ _ _ _ (by simp), World.cell?_setCell_other _ _ _ _ (by simp), World.cell?_setCell_same' _ _ _ (by rw [e0]; simp)]; simp
  | 1 => rw [World.cell?_setCell_other _ _ _ _ (by simp), World.cell?_setCell_same' _ _ _ (by rw [World.cell?_setCell_other _ _ _ _ (by simp), e1]; simp)]; simp
  | 2 => rw [World.cell?_setCell_same' _ _ _ (by rw [World.cell?_setCell_other _ _ _ _ (by simp), World.cell?_setCell_other _ _ _ _ (by simp), e2]; simp)]; simp
  | i + 3 =>
    have e3 := h.c (i + 3)
    rw [World.cell?_setCell_other _ _ _ _ (by simp), World.cell?_setCell_other _ _ _ _ (by simp), World.cell?_setCell_other _ _ _ _ (by simp), e3]
    simp
theorem Turns.put3 {g : Nat} {B : Nat} {W0 W : World} {a b c u0 u1 u2 : Value} (hK : Blk W0 g #[u0, u1, u2]) (hT : Turns g #[a, b, c] B W0 W) :
    Turns g #[a, b, c] B W (((W.setCell ⟨g, 0, none⟩ a).setCell ⟨g, 1, none⟩ b).setCell ⟨g, 2, none⟩ c) := by
  obtain ⟨v0, h0⟩ := hT.has hK rfl (i := 0) (by simp)
  obtain ⟨v1, h1⟩ := hT.has hK rfl (i := 1) (by simp)
  obtain ⟨v2, h2⟩ := hT.has hK rfl (i := 2) (by simp)
  refine Turns.trans _ _ _ (Turns.trans _ _ _ (Turns.put h0 rfl) (Turns.put ((World.cell?_setCell_other W ⟨g, 0, none⟩ ⟨g, 1, none⟩ _ (by simp)).trans h1) rfl)) (Turns.put (((World.cell?_setCell_other _ ⟨g, 1, none⟩ ⟨g, 2, none⟩ _ (by simp)).trans (World.cell?_setCell_other W ⟨g, 0, none⟩ ⟨g, 2, none⟩ _ (by simp))).trans h2) rfl)
/-- the three cells are what they will be. -/
def Is3 (g : Nat) (a b c : Value) (W : World) : Prop := W.cell? ⟨g, 0, none⟩ = some a ∧ W.cell? ⟨g, 1, none⟩ = some b ∧ W.cell? ⟨g, 2, none⟩ = some c
theorem Is3.stays {g B : Nat} {a b c : Value} (W W' : World) (h : Is3 g a b c W) (hS : Turns g #[a, b, c] B W W') : Is3 g a b c W' :=
  ⟨Turns.stays rfl W W' h.1 hS, Turns.stays rfl W W' h.2.1 hS, Turns.stays rfl W W' h.2.2 hS⟩
theorem Is3.of_put {g : Nat} {B : Nat} {W0 W : World} {a b c u0 u1 u2 : Value} (hK : Blk W0 g #[u0, u1, u2]) (hT : Turns g #[a, b, c] B W0 W) : Is3 g a b c (((W.setCell ⟨g, 0, none⟩ a).setCell ⟨g, 1, none⟩ b).setCell ⟨g, 2, none⟩ c) := by
  obtain ⟨v0, h0⟩ := hT.has hK rfl (i := 0) (by simp)
  obtain ⟨v1, h1⟩ := hT.has hK rfl (i := 1) (by simp)
  obtain ⟨v2, h2⟩ := hT.has hK rfl (i := 2) (by simp)
  refine ⟨?_, ?_, ?_⟩
  · rw [World.cell?_setCell_other _ _ _ _ (by simp), World.cell?_setCell_other _ _ _ _ (by simp), World.cell?_setCell_same _ _ _ h0]
  · rw [World.cell?_setCell_other _ _ _ _ (by simp), World.cell?_setCell_same _ _ _ ((World.cell?_setCell_other W ⟨g, 0, none⟩ ⟨g, 1, none⟩ _ (by simp)).trans h1)]
  · exact World.cell?_setCell_same _ _ _ (((World.cell?_setCell_other _ ⟨g, 1, none⟩ ⟨g, 2, none⟩ _ (by simp)).trans (World.cell?_setCell_other W ⟨g, 0, none⟩ ⟨g, 2, none⟩ _ (by simp))).trans h2)
theorem cells_src {w : World} {b o : Nat} {zs : List Int} (hc : ∀ k, k < zs.length → w.cell? ⟨b, o + k, none⟩ = some (.int .i64 (zs.getD k 0))) (j : Nat) (v : Value) (h : (zs.map (Value.int .i64))[j]? = some v) : w.cell? ((⟨b, o, none⟩ : Addr).add j) = some v := by
  have hadd : (⟨b, o, none⟩ : Addr).add j = ⟨b, o + j, none⟩ := by unfold Addr.add; split <;> simp_all
  rw [List.getElem?_map] at h
  rcases Nat.lt_or_ge j zs.length with hj | hj
  · rw [List.getElem?_eq_getElem hj] at h
    rw [hadd, hc j hj, ← h, List.getD_eq_getElem?_getD, List.getElem?_eq_getElem hj]
    rfl
  · rw [List.getElem?_eq_none hj] at h; cases h
theorem Cells.row {w : World} {g : Nat} {zs : List Int} {t : TypeId} (h : w.heap[g]? = some (.cells (zs.map (Value.int .i64)).toArray t (0, 0))) : Cells w (some ⟨g, 0, none⟩) zs := by
  intro h0
  refine ⟨g, 0, rfl, (Array.getElem?_eq_some_iff.1 h).1, fun k hk => ?_⟩
  simp [World.cell?, h, hk, List.getD_eq_getElem?_getD, List.getElem?_eq_getElem hk]
theorem cell_alloc4 {w : World} (o1 o2 o3 o4 : Obj) (p : Addr) (h : p.block < w.heap.size) : ((((w.alloc o1).alloc o2).alloc o3).alloc o4).cell? p = w.cell? p :=
  Below.cell (B := w.heap.size) (((((Below.refl _ w).alloc (Nat.le_refl _) o1).alloc (by simp) o2).alloc (by simp; omega) o3).alloc (by simp; omega) o4) h
theorem splice_push (ps : List Int) (y : Int) (k : Nat) (hk : k = ps.length) (h0 : 0 < k) : splice ((zerosA k).set 0 (.int .i64 y)) 1 ((ps.take (k - 1)).map (Value.int .i64)) = (pushL ps y).map (Value.int .i64) := by
  obtain ⟨m, rfl⟩ : ∃ m, k = m + 1 := ⟨k - 1, by omega⟩
  have e : (ps.take m).length = m := by simp; omega
  simp only [splice, zerosA, List.replicate_succ, List.set_cons_zero, Nat.add_sub_cancel, List.length_map, e]
  simp [pushL, ← hk, Nat.add_comm 1 m]
set_option maxHeartbeats 1000000 in
set_option maxRecDepth 100000 in
theorem behind_typed (lk ht rc h lv y : Int) (ts ps : List Int) (A1 A2 A3 : Option Addr) (c1 n2 c2 c3 : Nat) (w : World) (hlk : 1 ≤ lk ∧ lk ≤ 8) (hh : 0 ≤ h ∧ h ≤ 1099511627776) (hT : Cells w A1 ts) (hP : Cells w A3 ps)
    (hn : ts.length = ps.length + 1) (hn2 : ps.length ≤ 7) (bT : inB 64 ts) (bP : inB 2048 ps) (hy : -2048 ≤ y ∧ y ≤ 2048) :
    Calls Tryz.prog 52 #[.agg #[(.int .i64 lk), (.int .i64 ht), .slice A1 ts.length c1, (.int .i64 rc), .slice A2 n2 c2], .agg #[(.int .i64 h), (.int .i64 lv), .slice A3 ps.length c3], (.int .i64 y)] w fun r w' => (∃ B, w.heap.size ≤ B.block ∧ r = .returned (.tuple #[.agg #[(.int .i64 (coolF lk h + y * y)), (.int .i64 lv), .slice (some B) ps.length ps.length], (.int .i64 (exF ts ps y))]) ∧ Cells w' (some B) (pushL ps y) ∧ IntRow w' B) ∧ Below w.heap.size w w' := by
  obtain ⟨b1, o1, rfl, l1, k1⟩ := hT (by omega)
  have x0 := k1 0 (by omega)
  rw [Nat.add_zero] at x0
  have t0 := inB_get bT (by omega) 0
  have m0 := mul_bd t0 hy
  have m1 := mul_bd hy hy
  have q0 := coolF_bd lk hh.1
  have HB := Lib.hid (exK_bd bT bP hy)
  have HG1 := Lib.hid (fun k => inB_get bT (by omega) k)
  have HG2 := Lib.hid (fun k => inB_get bP (by omega) k)
  have HT := Lib.hid k1
  have HP := Lib.hid hP
  have HL := Lib.hid (pushL_len ps y)
  obtain ⟨N, hN⟩ : ∃ N, N = ps.length := ⟨_, rfl⟩
  have HE : exF ts ps y = exK ts ps y N := by rw [hN]; rfl
  have HE' := Lib.hid HE
  have HN := Lib.hid hN
  have HTL : Hid (ts.length = N + 1) := Lib.hid (by rw [hN]; exact hn)
  have HE0 : Hid (exK ts ps y 0 = ts.getD 0 0 * y) := Lib.hid rfl
  obtain ⟨t, ht⟩ : ∃ t, t = ts.getD 0 0 := ⟨_, rfl⟩
  rw [← ht] at x0 t0 m0 HE0
  obtain ⟨a1, a2⟩ := hlk
  obtain ⟨a3, a4⟩ := hh
  obtain ⟨a5, a6⟩ := hy
  obtain ⟨a7, a8⟩ := t0
  obtain ⟨a9, a10⟩ := m0
  obtain ⟨a11, a12⟩ := m1
  obtain ⟨a13, a14⟩ := q0
  have hx : exF ts ps y = exK ts ps y N := HE
  rw [hn, hx, ← hN]
  rw [← hN] at hn2
  clear k1 hP hT ht HE hx hN hn bT bP
  have g1 : b1 < w.heap.size + 1 := by omega
  have g2 : b1 < w.heap.size + 1 + 1 := by omega
  go_enter Tryz.func52, Tryz.ntmps52
  go_wp2
  go_loop [8, 21] (fun e i => ∃ k : Nat, k ≤ N ∧ i = (.int .i64 k) ∧ e = (.int .i64 (exK ts ps y k))) (fun _ i => N - (intOf i).toNat)
  case atStart => exact ⟨0, Nat.zero_le _, rfl, by rw [HE0.out]⟩
  case round =>
    obtain ⟨k, hk, rfl, rfl⟩ := hrel
    by_cases hlt : k < N
    · have hlt2 : k < ps.length := by rw [← HN.out]; exact hlt
      obtain ⟨b3, o3, rfl, l3, k3⟩ := HP.out (by omega)
      have x3 := k3 k hlt2
      have x1 := HT.out (k + 1) (by rw [HTL.out]; omega)
      have g4 : b3 < w.heap.size + 1 := by omega
      have g5 : b3 < w.heap.size + 1 + 1 := by omega
      have HX : Hid (exK ts ps y (k + 1) = exK ts ps y k + ts.getD (k + 1) 0 * ps.getD k 0) := Lib.hid rfl
      obtain ⟨d1, d2⟩ := HB.out k
      obtain ⟨d3, d4⟩ := mul_bd (HG1.out (k + 1)) (HG2.out k)
      obtain ⟨E, hE⟩ : ∃ E, E = exK ts ps y k := ⟨_, rfl⟩
      obtain ⟨u, hu⟩ : ∃ u, u = ts.getD (k + 1) 0 := ⟨_, rfl⟩
      obtain ⟨v, hv⟩ : ∃ v, v = ps.getD k 0 := ⟨_, rfl⟩
      rw [← hu] at x1
      rw [← hv] at x3
      rw [← hE, ← hu, ← hv] at HX
      rw [← hE] at d1 d2
      rw [← hu, ← hv] at d3 d4
      rw [← hE]
      clear k3 hlt2 hE hu hv
      go_wp2
      go_round
      case rel => exact ⟨k + 1, by omega, by go_num, by rw [HX.out]⟩
      case measure => simp [intOf]; omega
    · obtain rfl : k = N := by omega
      have hmk := mk_ints k (by omega)
      obtain ⟨E, hE⟩ : ∃ E, E = exK ts ps y k := ⟨_, rfl⟩
      rw [← hE]
      have HEE := Lib.hid hE
      clear hE
      rcases Nat.eq_zero_or_pos k with h0 | h0
      · obtain rfl : k = 0 := h0
        clear hmk
        have hmk : ∀ W : World, Sem.run Tryz.prog (Instr.makeSlice 22 (.int .i64 0) (.int .i64 0)) W = .ok (.slice (some ⟨W.heap.size, 0, none⟩) 0 0) (W.alloc (.cells #[] 3)) := fun W => mk_ints 0 (by omega) W
        go_wp2
        refine name_world ?_
        intro w2 hw2
        have K0 : Blk w2 w.heap.size #[(.int .i64 lk), (.int .i64 ht), .slice (some ⟨b1, o1, none⟩) 1 c1, (.int .i64 rc), .slice A2 n2 c2] := by rw [hw2]; (repeat (first | ((with_reducible refine Blk.at_ ?_); focus (first | rfl | (simp; done) | (simp; omega))) | (with_reducible refine Blk.alloc ?_ _) | (with_reducible refine Blk.below ?_ (by with_reducible assumption)) | (with_reducible refine Blk.drew ?_)))
        have K1 : Blk w2 (w.heap.size + 1) #[(.int .i64 h), (.int .i64 lv), .slice A3 0 c3] := by rw [hw2]; (repeat (first | ((with_reducible refine Blk.at_ ?_); focus (first | rfl | (simp; done) | (simp; omega))) | (with_reducible refine Blk.alloc ?_ _) | (with_reducible refine Blk.below ?_ (by with_reducible assumption)) | (with_reducible refine Blk.drew ?_)))
        have K2 : Blk w2 (w.heap.size + 1 + 1) #[(.int .i64 0), (.int .i64 0), .slice none 0 0] := by rw [hw2]; (repeat (first | ((with_reducible refine Blk.at_ ?_); focus (first | rfl | (simp; done) | (simp; omega))) | (with_reducible refine Blk.alloc ?_ _) | (with_reducible refine Blk.below ?_ (by with_reducible assumption)) | (with_reducible refine Blk.drew ?_)))
        have HR : Hid (Cells w2 (some ⟨w.heap.size + 1 + 1 + 1, 0, none⟩) (pushL ps y)) := Lib.hid (by intro h6; rw [pushL_len, ← HN.out] at h6; omega)
        have HBW : Hid (Below w.heap.size w w2) := Lib.hid (by rw [hw2]; (repeat (first | (with_reducible exact Below.refl _ _) | ((with_reducible refine Below.setCell ?_ ?_ _); rotate_left 1; focus (first | (simp; done) | (simp; omega) | (simp at *; omega))) | ((with_reducible refine Below.alloc ?_ ?_ _); rotate_left 1; focus (first | (simp; done) | (simp; omega) | (simp at *; omega))) | (with_reducible refine Below.drew ?_) | ((with_reducible refine Calm.step (by assumption) ?_ ?_); rotate_left 1; focus (first | (simp; done) | (simp; omega) | (simp at *; omega))))))
        have HIR : Hid (IntRow w2 ⟨w.heap.size + 1 + 1 + 1, 0, none⟩) := Lib.hid ⟨#[], by rw [hw2]; exact heap_new (by simp)⟩
        have hs2 : w.heap.size + 1 + 1 + 1 + 1 ≤ w2.heap.size := by rw [hw2]; simp
        clear hw2 hmk
        obtain ⟨c00, c01, c02, c03, c04, l0, f0⟩ := K0.o5
        obtain ⟨c10, c11, c12, l10, f1⟩ := K1.o3
        obtain ⟨c20, c21, c22, l20, f2⟩ := K2.o3
        have hgS : w.heap.size + 1 + 1 < w2.heap.size := by omega
        have HK2 := Lib.hid K2
        have ne0 : ¬ w.heap.size = w.heap.size + 1 + 1 := by omega
        have ne1 : ¬ w.heap.size + 1 = w.heap.size + 1 + 1 := by omega
        clear K2
        (try simp only [Act.put, List.setIfInBounds_toArray, List.set_cons_zero, List.set_cons_succ])
        refine RelG.region3 (S := Turns (w.heap.size + 1 + 1) #[(.int .i64 (coolF lk h + y * y)), (.int .i64 lv), .slice (some ⟨w.heap.size + 1 + 1 + 1, 0, none⟩) 0 0] w2.heap.size) Turns.trans Turns.drawn 14 (by kernel_rfl) (by kernel_rfl) (by kernel_rfl) ?_
        simp only [List.take_succ_cons, List.take_zero, List.drop_succ_cons, List.drop_zero, List.filterMap_cons, List.filterMap_nil]
        iterate 3 (apply RelG.op3 (Turns.refl _ _ _); (focus (first | exact Rel.gno rfl | exact Rel.gyes _ true _ rfl rfl rfl | exact Rel.gyes _ false _ rfl rfl rfl)); (focus (intro a W hb hd hbase; obtain ⟨hc, hf⟩ := hb.old; clear hb hf; simp [Rel.deps, Rel.dep1, Rel.ons, Region.binds, Act.eval] at hd; simp only [Act.eval, List.mem_cons, List.not_mem_nil, not_or, and_imp, or_false, Array.getD_eq_getD_getElem?] at hbase; go_simp; (try go_bits); (try rfl); done)); (try simp only [List.nil_append, List.cons_append]))
        (apply RelG.call3 (fun W W' hb h2 => Turns.of h2 (Nat.lt_of_lt_of_le hgS hb.size) hb.size); (focus (first | exact Rel.gno rfl | exact Rel.gyes _ true _ rfl rfl rfl | exact Rel.gyes _ false _ rfl rfl rfl)); (focus (intro a W hb hd hbase; obtain ⟨hc, hf⟩ := hb.old; clear hb hf; simp [Rel.deps, Rel.dep1, Rel.ons, Region.binds, Act.eval] at hd; simp only [Act.eval, List.mem_cons, List.not_mem_nil, not_or, and_imp, or_false, Array.getD_eq_getD_getElem?] at hbase; go_simp; refine ⟨?_, ?_⟩; rfl; rfl)); (focus (intro W hb; go_at_call 63; exact cooled_any _ _ _ _ _ _ _ _ _ _ _ ⟨a1, a2⟩ ⟨a3, a4⟩)); (try simp only [List.nil_append, List.cons_append]))
        iterate 9 (apply RelG.op3 (Turns.refl _ _ _); (focus (first | exact Rel.gno rfl | exact Rel.gyes _ true _ rfl rfl rfl | exact Rel.gyes _ false _ rfl rfl rfl)); (focus (intro a W hb hd hbase; obtain ⟨hc, hf⟩ := hb.old; clear hb hf; simp [Rel.deps, Rel.dep1, Rel.ons, Region.binds, Act.eval] at hd; simp only [Act.eval, List.mem_cons, List.not_mem_nil, not_or, and_imp, or_false, Array.getD_eq_getD_getElem?] at hbase; go_simp; (try go_bits); (try rfl); done)); (try simp only [List.nil_append, List.cons_append]))
        refine RelG.store3 (Is3 (w.heap.size + 1 + 1) (.int .i64 (coolF lk h + y * y)) (.int .i64 lv) (.slice (some ⟨w.heap.size + 1 + 1 + 1, 0, none⟩) 0 0)) Is3.stays (Rel.gno rfl) ?_ ?_
        · intro a W hb hd hbase
          refine ⟨_, ?_, Is3.of_put HK2.out hb, Turns.put3 HK2.out hb⟩
          obtain ⟨u0, hu0⟩ := hb.has HK2.out rfl (i := 0) (by simp)
          obtain ⟨u1, hu1⟩ := hb.has HK2.out rfl (i := 1) (by simp)
          obtain ⟨u2, hu2⟩ := hb.has HK2.out rfl (i := 2) (by simp)
          have hf0 := (hb.frozen 0).trans (HK2.out.f 0)
          have hf1 := (hb.frozen 1).trans (HK2.out.f 1)
          have hf2 := (hb.frozen 2).trans (HK2.out.f 2)
          clear hb
          simp [Rel.deps, Rel.dep1, Rel.ons, Region.binds, Act.eval] at hd; simp only [Act.eval, List.mem_cons, List.not_mem_nil, not_or, and_imp, or_false, Array.getD_eq_getD_getElem?] at hbase
          go_simp
        (try simp only [List.nil_append, List.cons_append])
        refine RelG.done3 ?_
        intro x w4 hS hx
        simp only [Rel.facts, Nat.zero_add, Nat.reduceAdd] at hx
        obtain ⟨e0, e1, e2, e3, e4, e5, e6, e7, e8, e9, e10, e11, e12, s13, _⟩ := hx
        simp only [RelG.fill, Nat.zero_add, Nat.reduceAdd, e0, e1, e2, e3, e4, e5, e6, e7, e8, e9, e10, e11, e12]
        simp only [Act.put, List.setIfInBounds_toArray, List.set_cons_zero, List.set_cons_succ]
        clear e0 e1 e2 e3 e4 e5 e6 e7 e8 e9 e10 e11 e12
        obtain ⟨z0, z1, z2⟩ := s13
        have HF := Lib.hid (show Below w.heap.size w w4 from HBW.out.trans (hS.below (by omega) (by omega)))
        have HC := Lib.hid (show Cells w4 (some ⟨w.heap.size + 1 + 1 + 1, 0, none⟩) (pushL ps y) by
          have h5 := HR.out
          intro h6
          obtain ⟨b, off, hA, hl, hc⟩ := h5 h6
          cases hA
          exact ⟨_, _, rfl, Nat.lt_of_lt_of_le hl hS.size, fun j hj => (hS.old.1 _ _ hl (by omega)).trans (hc j hj)⟩)
        have HIS : Hid (IntRow w4 ⟨w.heap.size + 1 + 1 + 1, 0, none⟩) := Lib.hid (by
          obtain ⟨cur, h5⟩ := HIR.out
          exact ⟨cur, (hS.block _ (by show w.heap.size + 1 + 1 + 1 < _; omega) (by show w.heap.size + 1 + 1 + 1 ≠ _; omega)).trans h5⟩)
        clear hS HR HBW HK2 HIR
        go_wp2
        exact bodyPost_ret (v := .tuple #[.agg #[(.int .i64 (coolF lk h + y * y)), (.int .i64 lv), .slice (some ⟨w.heap.size + 1 + 1 + 1, 0, none⟩) 0 0], (.int .i64 E)]) (by simp [results, Tryz.results52, go_sem, *]) rfl ⟨⟨_, by show w.heap.size ≤ w.heap.size + 1 + 1 + 1; omega, by rw [HEE.out], HC.out, HIS.out⟩, HF.out⟩
      · have hz0 : (zerosA k)[0]? = some (.int .i64 0) := by simp [zerosA, h0]
        have h1k : (1 : Int) ≤ (k : Int) := by omega
        go_wp2
        obtain ⟨X, hX⟩ : ∃ X : Option Addr, X = (if k = 1 then some ⟨w.heap.size + 1 + 1 + 1, 0, none⟩ else some ⟨w.heap.size + 1 + 1 + 1, 1, none⟩) := ⟨_, rfl⟩
        refine Calm.tail_below 4 (by kernel_rfl) (by kernel_rfl) ?_
        simp only [List.take_succ_cons, List.take_zero, List.drop_succ_cons, List.drop_zero]
        (first | (apply Calm.op_move; (focus rfl); (focus (first | exact .inl rfl | exact .inr rfl)); (focus ((try simp only [Act.eval, Array.getD_eq_getD_getElem?, List.getElem?_toArray, List.getElem?_cons_succ, List.getElem?_cons_zero, Option.getD_some]); rfl)); (try simp only [Act.put, List.setIfInBounds_toArray, List.set_cons_zero, List.set_cons_succ])) | (apply Calm.op_not; (focus rfl); (try simp only [Act.put, List.setIfInBounds_toArray, List.set_cons_zero, List.set_cons_succ])) | (apply Calm.op; (focus rfl); (focus (intro W hb; obtain ⟨hc, hf⟩ := bcell hb; clear hb hf; go_simp; (try go_bits); (try rfl); done)); (try simp only [Act.put, List.setIfInBounds_toArray, List.set_cons_zero, List.set_cons_succ])))
        apply Calm.op (.slice X (k - 1) (k - 1))
        focus rfl
        focus (intro W hb; obtain ⟨hc, hf⟩ := bcell hb; clear hb hf; go_simp)
        simp only [Act.put, List.setIfInBounds_toArray, List.set_cons_zero, List.set_cons_succ]
        repeat (first | (apply Calm.op_move; (focus rfl); (focus (first | exact .inl rfl | exact .inr rfl)); (focus ((try simp only [Act.eval, Array.getD_eq_getD_getElem?, List.getElem?_toArray, List.getElem?_cons_succ, List.getElem?_cons_zero, Option.getD_some]); rfl)); (try simp only [Act.put, List.setIfInBounds_toArray, List.set_cons_zero, List.set_cons_succ])) | (apply Calm.op_not; (focus rfl); (try simp only [Act.put, List.setIfInBounds_toArray, List.set_cons_zero, List.set_cons_succ])) | (apply Calm.op; (focus rfl); (focus (intro W hb; obtain ⟨hc, hf⟩ := bcell hb; clear hb hf; go_simp; (try go_bits); (try rfl); done)); (try simp only [Act.put, List.setIfInBounds_toArray, List.set_cons_zero, List.set_cons_succ])))
        refine wpQuiet_nil ?_
        intro w1 hb
        obtain ⟨hbc, hbf⟩ := bcell hb
        have hbz := hb.size
        (try simp at hbz)
        (try have hbz0 : w.heap.size < w1.heap.size := by omega)
        (try have hbz1 : w.heap.size + 1 < w1.heap.size := by omega)
        (try have hbz2 : w.heap.size + 1 + 1 < w1.heap.size := by omega)
        (try have hbz3 : w.heap.size + 1 + 1 + 1 < w1.heap.size := by omega)
        (try have hbz4 : w.heap.size + 1 + 1 + 1 + 1 < w1.heap.size := by omega)
        (try have hbz5 : w.heap.size + 1 + 1 + 1 + 1 + 1 < w1.heap.size := by omega)
        refine wpList_copy_splice rfl (.tmp 48) (.tmp 50) 22 22 rfl 3 Tryz.underlying22 Tryz.sizeI X A3 (k - 1) (k - 1) k c3 rfl rfl (w.heap.size + 1 + 1 + 1) 1 ((zerosA k).set 0 (.int .i64 y)) 3 ?g0 ((ps.take (k - 1)).map (Value.int .i64)) ?g1 ?g2 ?g3 ?g4 (w.heap.size + 1 + 1 + 1) w1 (Below.refl _ _) (Nat.le_refl _) ?g5
        case g0 => exact (hb.block _ (by simp)).trans (heap_new (by simp))
        case g1 => simp [← HN.out, Nat.min_def]; (try omega)
        case g2 =>
          intro h5
          have h6 : 1 < k := by simp at h5; omega
          refine ⟨by rw [hX, if_neg (by omega)], ?_⟩
          obtain ⟨b3, o3, rfl, l3, k3⟩ := HP.out (by have := HN.out; omega)
          refine ⟨_, rfl, fun j v hv => ?_⟩
          refine cells_src (zs := ps) (fun j hj => (hbc _ _ (by simp; omega)).trans ?_) j v ?_
          · exact (cell_alloc4 _ _ _ _ _ l3).trans (k3 j hj)
          · rw [List.getElem?_map] at hv ⊢
            rw [List.getElem?_take] at hv
            split at hv
            · exact hv
            · cases hv
        case g3 => simp [zerosA, ← HN.out]; (try omega)
        case g4 => intro v hv; obtain ⟨_, _, rfl⟩ := List.mem_map.1 hv; rfl
        case g5 =>
          intro w2 HG2 hB2
          have HB2 := Lib.hid hB2
          have K0 : Blk w1 w.heap.size #[(.int .i64 lk), (.int .i64 ht), .slice (some ⟨b1, o1, none⟩) (k + 1) c1, (.int .i64 rc), .slice A2 n2 c2] := by (repeat (first | ((with_reducible refine Blk.at_ ?_); focus (first | rfl | (simp; done) | (simp; omega))) | (with_reducible refine Blk.alloc ?_ _) | (with_reducible refine Blk.below ?_ (by with_reducible assumption)) | (with_reducible refine Blk.drew ?_)))
          have K1 : Blk w1 (w.heap.size + 1) #[(.int .i64 h), (.int .i64 lv), .slice A3 k c3] := by (repeat (first | ((with_reducible refine Blk.at_ ?_); focus (first | rfl | (simp; done) | (simp; omega))) | (with_reducible refine Blk.alloc ?_ _) | (with_reducible refine Blk.below ?_ (by with_reducible assumption)) | (with_reducible refine Blk.drew ?_)))
          have K2 : Blk w1 (w.heap.size + 1 + 1) #[(.int .i64 0), (.int .i64 0), .slice none 0 0] := by (repeat (first | ((with_reducible refine Blk.at_ ?_); focus (first | rfl | (simp; done) | (simp; omega))) | (with_reducible refine Blk.alloc ?_ _) | (with_reducible refine Blk.below ?_ (by with_reducible assumption)) | (with_reducible refine Blk.drew ?_)))
          have K0 := K0.upto hB2 (by omega)
          have K1 := K1.upto hB2 (by omega)
          have K2 := K2.upto hB2 (by omega)
          have HR := Lib.hid (Cells.row (by rw [← splice_push ps y k HN.out h0]; exact HG2.out))
          have HIR : Hid (IntRow w2 ⟨w.heap.size + 1 + 1 + 1, 0, none⟩) := Lib.hid ⟨_, HG2.out⟩
          have HBW : Hid (Below w.heap.size w w2) := Lib.hid (Below.trans (by (repeat (first | (with_reducible exact Below.refl _ _) | ((with_reducible refine Below.setCell ?_ ?_ _); rotate_left 1; focus (first | (simp; done) | (simp; omega) | (simp at *; omega))) | ((with_reducible refine Below.alloc ?_ ?_ _); rotate_left 1; focus (first | (simp; done) | (simp; omega) | (simp at *; omega))) | (with_reducible refine Below.drew ?_) | ((with_reducible refine Calm.step (by assumption) ?_ ?_); rotate_left 1; focus (first | (simp; done) | (simp; omega) | (simp at *; omega)))))) (Below.mono hB2 (by omega)))
          have hs2 := hB2.size
          clear hB2 hb hbc hbf HG2 hX hmk hz0
          obtain ⟨c00, c01, c02, c03, c04, l0, f0⟩ := K0.o5
          obtain ⟨c10, c11, c12, l10, f1⟩ := K1.o3
          obtain ⟨c20, c21, c22, l20, f2⟩ := K2.o3
          go_wp2
          have hgS : w.heap.size + 1 + 1 < w2.heap.size := by omega
          have HK2 := Lib.hid K2
          have ne0 : ¬ w.heap.size = w.heap.size + 1 + 1 := by omega
          have ne1 : ¬ w.heap.size + 1 = w.heap.size + 1 + 1 := by omega
          clear K2
          (try simp only [Act.put, List.setIfInBounds_toArray, List.set_cons_zero, List.set_cons_succ])
          refine RelG.region3 (S := Turns (w.heap.size + 1 + 1) #[(.int .i64 (coolF lk h + y * y)), (.int .i64 lv), .slice (some ⟨w.heap.size + 1 + 1 + 1, 0, none⟩) k k] w2.heap.size) Turns.trans Turns.drawn 14 (by kernel_rfl) (by kernel_rfl) (by kernel_rfl) ?_
          simp only [List.take_succ_cons, List.take_zero, List.drop_succ_cons, List.drop_zero, List.filterMap_cons, List.filterMap_nil]
          iterate 3 (apply RelG.op3 (Turns.refl _ _ _); (focus (first | exact Rel.gno rfl | exact Rel.gyes _ true _ rfl rfl rfl | exact Rel.gyes _ false _ rfl rfl rfl)); (focus (intro a W hb hd hbase; obtain ⟨hc, hf⟩ := hb.old; clear hb hf; simp [Rel.deps, Rel.dep1, Rel.ons, Region.binds, Act.eval] at hd; simp only [Act.eval, List.mem_cons, List.not_mem_nil, not_or, and_imp, or_false, Array.getD_eq_getD_getElem?] at hbase; go_simp; (try go_bits); (try rfl); done)); (try simp only [List.nil_append, List.cons_append]))
          (apply RelG.call3 (fun W W' hb h2 => Turns.of h2 (Nat.lt_of_lt_of_le hgS hb.size) hb.size); (focus (first | exact Rel.gno rfl | exact Rel.gyes _ true _ rfl rfl rfl | exact Rel.gyes _ false _ rfl rfl rfl)); (focus (intro a W hb hd hbase; obtain ⟨hc, hf⟩ := hb.old; clear hb hf; simp [Rel.deps, Rel.dep1, Rel.ons, Region.binds, Act.eval] at hd; simp only [Act.eval, List.mem_cons, List.not_mem_nil, not_or, and_imp, or_false, Array.getD_eq_getD_getElem?] at hbase; go_simp; refine ⟨?_, ?_⟩; rfl; rfl)); (focus (intro W hb; go_at_call 63; exact cooled_any _ _ _ _ _ _ _ _ _ _ _ ⟨a1, a2⟩ ⟨a3, a4⟩)); (try simp only [List.nil_append, List.cons_append]))
          iterate 9 (apply RelG.op3 (Turns.refl _ _ _); (focus (first | exact Rel.gno rfl | exact Rel.gyes _ true _ rfl rfl rfl | exact Rel.gyes _ false _ rfl rfl rfl)); (focus (intro a W hb hd hbase; obtain ⟨hc, hf⟩ := hb.old; clear hb hf; simp [Rel.deps, Rel.dep1, Rel.ons, Region.binds, Act.eval] at hd; simp only [Act.eval, List.mem_cons, List.not_mem_nil, not_or, and_imp, or_false, Array.getD_eq_getD_getElem?] at hbase; go_simp; (try go_bits); (try rfl); done)); (try simp only [List.nil_append, List.cons_append]))
          refine RelG.store3 (Is3 (w.heap.size + 1 + 1) (.int .i64 (coolF lk h + y * y)) (.int .i64 lv) (.slice (some ⟨w.heap.size + 1 + 1 + 1, 0, none⟩) k k)) Is3.stays (Rel.gno rfl) ?_ ?_
          · intro a W hb hd hbase
            refine ⟨_, ?_, Is3.of_put HK2.out hb, Turns.put3 HK2.out hb⟩
            obtain ⟨u0, hu0⟩ := hb.has HK2.out rfl (i := 0) (by simp)
            obtain ⟨u1, hu1⟩ := hb.has HK2.out rfl (i := 1) (by simp)
            obtain ⟨u2, hu2⟩ := hb.has HK2.out rfl (i := 2) (by simp)
            have hf0 := (hb.frozen 0).trans (HK2.out.f 0)
            have hf1 := (hb.frozen 1).trans (HK2.out.f 1)
            have hf2 := (hb.frozen 2).trans (HK2.out.f 2)
            clear hb
            simp [Rel.deps, Rel.dep1, Rel.ons, Region.binds, Act.eval] at hd; simp only [Act.eval, List.mem_cons, List.not_mem_nil, not_or, and_imp, or_false, Array.getD_eq_getD_getElem?] at hbase
            go_simp
          (try simp only [List.nil_append, List.cons_append])
          refine RelG.done3 ?_
          intro x w4 hS hx
          simp only [Rel.facts, Nat.zero_add, Nat.reduceAdd] at hx
          obtain ⟨e0, e1, e2, e3, e4, e5, e6, e7, e8, e9, e10, e11, e12, s13, _⟩ := hx
          simp only [RelG.fill, Nat.zero_add, Nat.reduceAdd, e0, e1, e2, e3, e4, e5, e6, e7, e8, e9, e10, e11, e12]
          simp only [Act.put, List.setIfInBounds_toArray, List.set_cons_zero, List.set_cons_succ]
          clear e0 e1 e2 e3 e4 e5 e6 e7 e8 e9 e10 e11 e12
          obtain ⟨z0, z1, z2⟩ := s13
          have HF := Lib.hid (show Below w.heap.size w w4 from HBW.out.trans (hS.below (by omega) (by omega)))
          have HC := Lib.hid (show Cells w4 (some ⟨w.heap.size + 1 + 1 + 1, 0, none⟩) (pushL ps y) by
            have h5 := HR.out
            intro h6
            obtain ⟨b, off, hA, hl, hc⟩ := h5 h6
            cases hA
            exact ⟨_, _, rfl, Nat.lt_of_lt_of_le hl hS.size, fun j hj => (hS.old.1 _ _ hl (by omega)).trans (hc j hj)⟩)
          have HIS : Hid (IntRow w4 ⟨w.heap.size + 1 + 1 + 1, 0, none⟩) := Lib.hid (by
            obtain ⟨cur, h5⟩ := HIR.out
            exact ⟨cur, (hS.block _ (by show w.heap.size + 1 + 1 + 1 < _; omega) (by show w.heap.size + 1 + 1 + 1 ≠ _; omega)).trans h5⟩)
          clear hS HR HBW HK2 HB2 HIR
          go_wp2
          exact bodyPost_ret (v := .tuple #[.agg #[(.int .i64 (coolF lk h + y * y)), (.int .i64 lv), .slice (some ⟨w.heap.size + 1 + 1 + 1, 0, none⟩) k k], (.int .i64 E)]) (by simp [results, Tryz.results52, go_sem, *]) rfl ⟨⟨_, by show w.heap.size ≤ w.heap.size + 1 + 1 + 1; omega, by rw [HEE.out], HC.out, HIS.out⟩, HF.out⟩
theorem behind_any (lk ht rc h lv y : Int) (ts ps : List Int) (A1 A2 A3 : Option Addr) (c1 n2 c2 c3 : Nat) (w : World) (hlk : 1 ≤ lk ∧ lk ≤ 8) (hh : 0 ≤ h ∧ h ≤ 1099511627776) (hT : Cells w A1 ts) (hP : Cells w A3 ps)
    (hn : ts.length = ps.length + 1) (hn2 : ps.length ≤ 7) (bT : inB 64 ts) (bP : inB 2048 ps) (hy : -2048 ≤ y ∧ y ≤ 2048) :
    Calls Tryz.prog 52 #[.agg #[(.int .i64 lk), (.int .i64 ht), .slice A1 ts.length c1, (.int .i64 rc), .slice A2 n2 c2], .agg #[(.int .i64 h), (.int .i64 lv), .slice A3 ps.length c3], (.int .i64 y)] w fun r w' => (∃ B, w.heap.size ≤ B.block ∧ r = .returned (.tuple #[.agg #[(.int .i64 (coolF lk h + y * y)), (.int .i64 lv), .slice (some B) ps.length ps.length], (.int .i64 (exF ts ps y))]) ∧ Cells w' (some B) (pushL ps y)) ∧ Below w.heap.size w w' :=
  (behind_typed lk ht rc h lv y ts ps A1 A2 A3 c1 n2 c2 c3 w hlk hh hT hP hn hn2 bT bP hy).mono fun _ _ ⟨⟨B, h1, h2, h3, _⟩, h4⟩ => ⟨⟨B, h1, h2, h3⟩, h4⟩
end Go.Proofs.YtdeapbihbhoefaaGreatDoor

/- Contract of (Guard).tails: the excursions that come without further outputs. -/
namespace Go.Proofs.YtdeapbihbhoefaaGreatDoor
open Go.RowKit
open Calm (bcell Blk)

/-- the last outputs behind k outputs 0. -/
def psK (ps : List Int) : Nat → List Int
  | 0 => ps
  | k + 1 => pushL (psK ps k) 0
theorem psK_len (ps : List Int) : ∀ k, (psK ps k).length = ps.length
  | 0 => rfl
  | k + 1 => (pushL_len _ _).trans (psK_len ps k)
theorem psK_in {b : Int} {ps : List Int} (h : inB b ps) (hb : 0 ≤ b) : ∀ k, inB b (psK ps k)
  | 0 => h
  | k + 1 => inB_push (psK_in h hb k) ⟨by omega, hb⟩
/-- the tails of a state. -/
def tailsL (ts ps : List Int) (n : Nat) : List Int := (List.range n).map fun k => exF ts (psK ps k) 0
def tailsF (ts ps : List Int) : List Int := tailsL ts ps ps.length
theorem tailsL_len (ts ps : List Int) (n : Nat) : (tailsL ts ps n).length = n := by simp [tailsL]
theorem tailsL_succ (ts ps : List Int) (n : Nat) : tailsL ts ps (n + 1) = tailsL ts ps n ++ [exF ts (psK ps n) 0] := by simp [tailsL, List.range_succ]
theorem Cells.sets {w : World} {A : Option Addr} {zs : List Int} (h : Cells w A zs) {g : Nat} (hg : 0 < zs.length → ∀ p, A = some p → p.block ≠ g) (i : Nat) (v : Value) : Cells (w.setCell ⟨g, i, none⟩ v) A zs := by
  intro h0
  obtain ⟨b, off, hA, hl, hc⟩ := h h0
  have hne : b ≠ g := hg h0 _ hA
  exact ⟨b, off, hA, by simpa using hl, fun k hk => (World.cell?_setCell_other _ _ _ _ (by intro e; cases e; exact hne rfl)).trans (hc k hk)⟩
theorem own_ints {W : World} {base n : Nat} {e : TypeId} {v : Value} {zs : List Int} (h : W.ownsRow base e 1 v n (zs.map (Value.int .i64))) (hn : n = zs.length) : ∃ A c, v = .slice A n c ∧ (∀ p, A = some p → base ≤ p.block) ∧ Cells W A zs := by
  rcases h.2 with ⟨h1, h2⟩ | ⟨g, cap, cur, h1, h2, h3, h4, h5, h6, h7⟩
  · exact ⟨none, 0, by rw [h1, h2], by simp, fun h0 => by omega⟩
  · refine ⟨some ⟨g, 0, none⟩, cap, h1, by rintro p ⟨⟩; exact h2, fun h0 => ⟨g, 0, rfl, (Array.getElem?_eq_some_iff.1 h3).1, fun k hk => ?_⟩⟩
    have hj : (zs.map (Value.int .i64))[k]? = some (.int .i64 (zs.getD k 0)) := by simp [hk, List.getD_eq_getElem?_getD]
    rw [Nat.zero_add, cell_of_row W g k cur _ _ h3]
    rw [← h7, List.getElem?_take] at hj
    split at hj
    · rw [← hj]; simp
    · cases hj

set_option maxHeartbeats 2000000 in
set_option maxRecDepth 100000 in
theorem tails_any (lk ht rc h lv : Int) (ts ps : List Int) (A1 A2 A3 : Option Addr) (c1 n2 c2 c3 : Nat) (w : World) (hlk : 1 ≤ lk ∧ lk ≤ 8) (hh : 0 ≤ h ∧ h ≤ 1099511627776) (hT : Cells w A1 ts) (hP : Cells w A3 ps)
    (hn : ts.length = ps.length + 1) (hn2 : ps.length ≤ 7) (bT : inB 64 ts) (bP : inB 2048 ps) :
    Calls Tryz.prog 54 #[.agg #[(.int .i64 lk), (.int .i64 ht), .slice A1 ts.length c1, (.int .i64 rc), .slice A2 n2 c2], .agg #[(.int .i64 h), (.int .i64 lv), .slice A3 ps.length c3]] w fun r w' => (∃ B c, r = .returned (.slice B ps.length c) ∧ (∀ p, B = some p → w.heap.size ≤ p.block) ∧ Cells w' B (tailsF ts ps)) ∧ Below w.heap.size w w' := by
  obtain ⟨i0, hi, hz0, hz1, hz2⟩ := info_parts Tryz.infoI
  have HT := Lib.hid hT
  have HBT := Lib.hid bT
  have HBP := Lib.hid (psK_in bP (by omega))
  have HH := Lib.hid hn
  obtain ⟨M, hM⟩ : ∃ M, M = ts.length := ⟨_, rfl⟩
  obtain ⟨N, hN⟩ : ∃ N, N = ps.length := ⟨_, rfl⟩
  have HM := Lib.hid hM
  have HN := Lib.hid hN
  have HX : ∀ (W : World) (A : Option Addr) (c : Nat) (k : Nat) (h' : Int), Cells W A1 ts → Cells W A (psK ps k) → 0 ≤ h' → h' ≤ 1099511627776 → Calls Tryz.prog 52 #[.agg #[(.int .i64 lk), (.int .i64 ht), .slice A1 M c1, (.int .i64 rc), .slice A2 n2 c2], .agg #[(.int .i64 h'), (.int .i64 lv), .slice A N c], (.int .i64 0)] W fun r w' => (∃ B, W.heap.size ≤ B.block ∧ r = .returned (.tuple #[.agg #[(.int .i64 (coolF lk h' + 0 * 0)), (.int .i64 lv), .slice (some B) N N], (.int .i64 (exF ts (psK ps k) 0))]) ∧ Cells w' (some B) (psK ps (k + 1))) ∧ Below W.heap.size W w' := by
    intro W A c k h' q1 q2 q3 q4
    have e := psK_len ps k
    have := behind_any lk ht rc h' lv 0 ts (psK ps k) A1 A2 A c1 n2 c2 c W hlk ⟨q3, q4⟩ q1 q2 (by omega) (by omega) bT (HBP.out k) (by omega)
    rw [e, ← hM, ← hN] at this
    exact this
  have HXX := Lib.hid HX
  have HPP := Lib.hid hP
  rw [← hN] at hn2 ⊢
  rw [← hM]
  obtain ⟨a1, a2⟩ := hlk
  obtain ⟨a3, a4⟩ := hh
  clear HX hM hN hn hT hP bT bP
  go_enter Tryz.func54, Tryz.ntmps54
  go_wp2
  go_loopw [5, 11] (fun v i wr => ∃ (k : Nat) (A : Option Addr) (c : Nat) (h' : Int), k ≤ N ∧ i = (.int .i64 k) ∧ 0 ≤ h' ∧ h' ≤ 1099511627776 ∧ (0 < N → ∀ p, A = some p → p.block ≠ w.heap.size + 1) ∧ Cells wr A (psK ps k) ∧
      wr.ownsRow (w.heap.size + 1 + 1) 3 1 v (tailsL ts ps k).length ((tailsL ts ps k).map (Value.int .i64)) ∧ Blk wr w.heap.size #[(.int .i64 lk), (.int .i64 ht), .slice A1 M c1, (.int .i64 rc), .slice A2 n2 c2] ∧ Blk wr (w.heap.size + 1) #[(.int .i64 h'), (.int .i64 lv), .slice A N c] ∧ Below w.heap.size w wr) (fun _ i _ => N - (intOf i).toNat)
  case atStart =>
    refine ⟨0, A3, c3, h, Nat.zero_le _, rfl, a3, a4, fun h0 p hp => ?_, HPP.out.below (by (repeat (first | (with_reducible exact Below.refl _ _) | ((with_reducible refine Below.setCell ?_ ?_ _); rotate_left 1; focus (first | (simp; done) | (simp; omega) | (simp at *; omega))) | ((with_reducible refine Below.alloc ?_ ?_ _); rotate_left 1; focus (first | (simp; done) | (simp; omega) | (simp at *; omega))) | (with_reducible refine Below.drew ?_) | ((with_reducible refine Calm.step (by assumption) ?_ ?_); rotate_left 1; focus (first | (simp; done) | (simp; omega) | (simp at *; omega)))))), World.ownsRow_nil _ _ _ _, by (repeat (first | ((with_reducible refine Blk.at_ ?_); focus (first | rfl | (simp; done) | (simp; omega))) | (with_reducible refine Blk.alloc ?_ _) | (with_reducible refine Blk.below ?_ (by with_reducible assumption)) | (with_reducible refine Blk.drew ?_))), by (repeat (first | ((with_reducible refine Blk.at_ ?_); focus (first | rfl | (simp; done) | (simp; omega))) | (with_reducible refine Blk.alloc ?_ _) | (with_reducible refine Blk.below ?_ (by with_reducible assumption)) | (with_reducible refine Blk.drew ?_))), by (repeat (first | (with_reducible exact Below.refl _ _) | ((with_reducible refine Below.setCell ?_ ?_ _); rotate_left 1; focus (first | (simp; done) | (simp; omega) | (simp at *; omega))) | ((with_reducible refine Below.alloc ?_ ?_ _); rotate_left 1; focus (first | (simp; done) | (simp; omega) | (simp at *; omega))) | (with_reducible refine Below.drew ?_) | ((with_reducible refine Calm.step (by assumption) ?_ ?_); rotate_left 1; focus (first | (simp; done) | (simp; omega) | (simp at *; omega)))))⟩
    obtain ⟨b, off, rfl, hl, _⟩ := HPP.out (by rw [← HN.out]; exact h0)
    cases hp
    show b ≠ _
    omega
  case round =>
    obtain ⟨k, A, c, h', hk, rfl, q1, q2, q3, q4, hown, K0, K1, hB⟩ := hrel
    have HO := Lib.hid hown
    have HA := Lib.hid q4
    have HB := Lib.hid hB
    have hTL := tailsL_len ts ps k
    have HTL := Lib.hid hTL
    clear hown q4 hTL
    by_cases hlt : k < N
    · have hTr := Lib.hid (HT.out.below HB.out)
      have q5 := coolF_bd lk q1
      have HS := Lib.hid (tailsL_succ ts ps k)
      obtain ⟨X, hX⟩ : ∃ X, X = exF ts (psK ps k) 0 := ⟨_, rfl⟩
      have HXE := Lib.hid hX
      have hsz := hB.size
      obtain ⟨c00, c01, c02, c03, c04, l0, f0⟩ := K0.o5
      obtain ⟨c10, c11, c12, l10, f1⟩ := K1.o3
      have hw1 := Lib.hid l10
      have HK0 := Lib.hid K0
      have HK1 := Lib.hid K1
      clear hX hB K0 K1
      go_wp2_with (first
        | (go_at_call 52; refine (HXX.out _ A c k h' hTr.out HA.out q1 q2).mono ?_; rw [← HXE.out]; rintro r w1 ⟨⟨B, hBb, rfl, hC1⟩, hb1⟩; have hO1 := Lib.hid (ownsRow_below HO.out hb1); have hs1 := hb1.size; have HC1 := Lib.hid hC1; have HB1 := Lib.hid hb1; clear hC1 hb1)
        | (at_builtin; refine wpList_append_own _ rfl _ _ 22 rfl (w.heap.size + 1 + 1) 3 i0 (.int .i64 0) 1 8 Tryz.underlying22 hi hz0 hz1 hz2 rfl (by decide) _ _ _ rfl ((hO1.out.alloc _).alloc _) ⟨w1.heap.size + 1, 0, none⟩ 1 1 [.int .i64 X] rfl rfl ?c1 ?c2 ?c3 ?c4 ?c5 ?_))
      case c1 =>
        intro j u hj
        match j, hj with
        | 0, hj => simp at hj; subst hj; simp [Addr.add]
      case c2 => intro u hu; simp at hu; subst hu; rfl
      case c3 => have := HTL.out; unfold maxLen; omega
      case c4 => have := HTL.out; omega
      case c5 => simp; omega
      intro v' w2 hown' hgrow _
      have hrow : ∀ j, Value.ownBlock _ = some j → w.heap.size + 1 + 1 ≤ j ∧ j < wr.heap.size := HO.out.lt
      have HO2 := Lib.hid hown'
      have K0 : Blk w2 w.heap.size #[(.int .i64 lk), (.int .i64 ht), .slice A1 M c1, (.int .i64 rc), .slice A2 n2 c2] := grown_blk (((HK0.out.below HB1.out).alloc _).alloc _) hgrow (fun j hj => by have := hrow j hj; omega)
      have K1 : Blk w2 (w.heap.size + 1) #[(.int .i64 h'), (.int .i64 lv), .slice A N c] := grown_blk (((HK1.out.below HB1.out).alloc _).alloc _) hgrow (fun j hj => by have := hrow j hj; omega)
      have KN : Blk w2 w1.heap.size #[(.int .i64 (coolF lk h')), (.int .i64 lv), .slice (some B) N N] := grown_blk ((Blk.new w1 _ _).alloc _) hgrow (fun j hj => by have := hrow j hj; omega)
      have HC2 := Lib.hid (grown_cells (HC1.out.below (((Below.refl _ _).alloc (Nat.le_refl _) _).alloc (by simp) _)) hgrow (fun j hj p hp => by cases hp; have := hrow j hj; omega))
      have HB2 : Hid (Below w.heap.size w w2) := Lib.hid ((((HB.out.trans (HB1.out.mono hsz)).alloc (by omega) _).alloc (by simp; omega) _).grown hgrow (by simp; omega) (fun j hj => by have := hrow j hj; omega))
      have hs2 := hgrow.size
      simp only [World.size_alloc] at hs2
      clear hown' hgrow hrow HB1 HB HO hO1 HC1 HK0
      obtain ⟨d00, d01, d02, d03, d04, m0, g0⟩ := K0.o5
      obtain ⟨d10, d11, d12, m1, g1⟩ := K1.o3
      obtain ⟨d20, d21, d22, m2, g2⟩ := KN.o3
      have HK0 := Lib.hid K0
      have HK1 := Lib.hid K1
      clear K0 K1 KN c00 c01 c02 c03 c04 l0 f0 c10 c11 c12 l10 f1
      go_wp2
      go_roundw
      case rel =>
        have hBw : ∀ p : Addr, some B = some p → p.block ≠ w.heap.size + 1 := fun p hp => by cases hp; have := hw1.out; omega
        have e1 : (tailsL ts ps (k + 1)).length = (tailsL ts ps k).length + 1 := by rw [tailsL_len, tailsL_len]
        have e2 : (tailsL ts ps (k + 1)).map (Value.int .i64) = (tailsL ts ps k).map (Value.int .i64) ++ [(.int .i64 X)] := by rw [HS.out, List.map_append, HXE.out]; rfl
        exact ⟨k + 1, some B, N, coolF lk h', by omega, by go_num, q5.1, by omega, fun _ => hBw, ((HC2.out.sets (fun _ => hBw) _ _).sets (fun _ => hBw) _ _).sets (fun _ => hBw) _ _,
          by rw [e1, e2]; exact ownsRow_setCell_below (ownsRow_setCell_below (ownsRow_setCell_below HO2.out (by simp) _) (by simp) _) (by simp) _,
          ((HK0.out.far (by simp) _).far (by simp) _).far (by simp) _, HK1.out.set3 _ _ _, ((HB2.out.setCell (by simp) _).setCell (by simp) _).setCell (by simp) _⟩
      case measure => simp [intOf]; omega
    · obtain rfl : k = N := by omega
      obtain ⟨B, cc, rfl, hbb, hr⟩ := own_ints HO.out rfl
      have e3 : (tailsL ts ps k).length = k := HTL.out
      have HR : Hid (Cells wr B (tailsF ts ps)) := Lib.hid (by unfold tailsF; rw [← HN.out]; exact hr)
      have HBB := Lib.hid hbb
      rw [e3]
      clear hr hbb e3
      go_wp2
      go_ret
      exact ⟨⟨B, cc, rfl, fun p hp => by have := HBB.out p hp; omega, HR.out⟩, HB.out⟩
end Go.Proofs.YtdeapbihbhoefaaGreatDoor

/- Contracts of mapped at each's function, of each and of some. -/
namespace Go.Proofs.YtdeapbihbhoefaaGreatDoor
open Go.RowKit
open Calm (bcell Blk)

theorem Tryz.infoE : (Tryz.prog.info? 27).map (fun i => (i.zero, i.size, i.bytes)) = some (some (.int .i64 0), 1, 8) := by kernel_rfl
theorem each1_any (n lo hi : Int) (b1 b2 : Nat) (w : World) (h1 : w.cell? ⟨b1, 0, none⟩ = some (.int .i64 lo)) (h2 : w.cell? ⟨b2, 0, none⟩ = some (.int .i64 hi)) :
    Calls Tryz.prog 84 #[(.int .i64 n), .pointer (some ⟨b1, 0, none⟩), .pointer (some ⟨b2, 0, none⟩)] w fun r w' => r = .returned (.int .i64 (rangeErr n lo hi)) ∧ w = w' := by
  go_enter Tryz.func84, Tryz.ntmps84
  go_wp2_with (go_at_call 66; refine (within_any _ _ _ _).mono ?_; rintro r w1 ⟨rfl, rfl⟩)
  go_ret
  exact ⟨rfl, rfl⟩
def errsK (l : List Int) (lo hi : Int) (k : Nat) : List Int := (l.take k).map fun n => rangeErr n lo hi
theorem errsK_len {l : List Int} {lo hi : Int} {k : Nat} (hk : k ≤ l.length) : (errsK l lo hi k).length = k := by simp [errsK]; omega
theorem errsK_succ {l : List Int} {lo hi : Int} {k : Nat} (hk : k < l.length) : errsK l lo hi (k + 1) = errsK l lo hi k ++ [rangeErr (l.getD k 0) lo hi] := by
  unfold errsK
  rw [List.take_succ_eq_append_getElem hk, List.map_append, List.getD_eq_getElem?_getD, List.getElem?_eq_getElem hk]
  rfl
theorem errsK_all (l : List Int) (lo hi : Int) : errsK l lo hi l.length = l.map fun n => rangeErr n lo hi := by simp [errsK]
set_option maxHeartbeats 1000000 in
theorem mappedE_any (A : Option Addr) (l : List Int) (c : Nat) (lo hi : Int) (b1 b2 : Nat) (w : World) (hC : Cells w A l) (hn : l.length ≤ 5000) (g1 : b1 < w.heap.size) (g2 : b2 < w.heap.size) (h1 : w.cell? ⟨b1, 0, none⟩ = some (.int .i64 lo)) (h2 : w.cell? ⟨b2, 0, none⟩ = some (.int .i64 hi)) :
    Calls Tryz.prog 83 #[.slice A l.length c, .func (.func 84) #[] #[.pointer (some ⟨b1, 0, none⟩), .pointer (some ⟨b2, 0, none⟩)]] w fun r w' =>
      (∃ B d, r = .returned (.slice B l.length d) ∧ Cells w' B (l.map fun n => rangeErr n lo hi)) ∧ Below w.heap.size w w' := by
  obtain ⟨i0, hii, hz0, hz1, hz2⟩ := info_parts Tryz.infoE
  have HC := Lib.hid hC
  obtain ⟨N, hN⟩ : ∃ N, N = l.length := ⟨_, rfl⟩
  have HN := Lib.hid hN
  have HL : Hid (∀ k, k ≤ N → (errsK l lo hi k).length = k) := Lib.hid (fun k hk => errsK_len (by rw [← hN]; exact hk))
  rw [← hN] at hn ⊢
  clear hN hC
  go_enter Tryz.func83, Tryz.ntmps83
  go_wp2
  go_loopw [5, 10] (fun v i wr => ∃ k : Nat, k ≤ N ∧ i = (.int .i64 ((k : Int))) ∧ wr.ownsRow w.heap.size 27 1 v (errsK l lo hi k).length ((errsK l lo hi k).map (Value.int .i64)) ∧ Below w.heap.size w wr) (fun _ i _ => N - (intOf i).toNat)
  case atStart => exact ⟨0, Nat.zero_le _, rfl, World.ownsRow_nil _ _ _ _, Below.refl _ _⟩
  case round =>
    obtain ⟨k, hk, rfl, hown, hB⟩ := hrel
    have HO := Lib.hid hown
    have hle := Lib.hid (HL.out k hk)
    have hsz := hB.size
    clear hown
    by_cases hlt : k < N
    · obtain ⟨b, o, rfl, l1, k1⟩ := HC.out (by rw [← HN.out]; omega)
      have x1 := (hB.cell (p := ⟨b, o + k, none⟩) l1).trans (k1 k (by rw [← HN.out]; exact hlt))
      have y1 := (hB.cell (p := ⟨b1, 0, none⟩) g1).trans h1
      have y2 := (hB.cell (p := ⟨b2, 0, none⟩) g2).trans h2
      have HS := Lib.hid (errsK_succ (lo := lo) (hi := hi) (show k < l.length by rw [← HN.out]; exact hlt))
      obtain ⟨x, hx⟩ : ∃ x, x = l.getD k 0 := ⟨_, rfl⟩
      rw [← hx] at x1 HS
      clear k1 hx
      go_wp2_with (first
        | (go_at_call 84; refine (each1_any x lo hi b1 b2 _ y1 y2).mono ?_; rintro r w2 ⟨rfl, rfl⟩)
        | (at_builtin; refine wpList_append_own _ rfl _ _ 127 rfl w.heap.size 27 i0 (.int .i64 0) 1 8 Tryz.underlying127 hii hz0 hz1 hz2 rfl (by decide) _ _ _ rfl (HO.out.alloc _) ⟨wr.heap.size, 0, none⟩ 1 1 [.int .i64 (rangeErr x lo hi)] rfl rfl ?c1 ?c2 ?c3 ?c4 ?c5 ?_))
      case c1 =>
        intro j u hj
        match j, hj with
        | 0, hj => simp at hj; subst hj; simp [Addr.add]
      case c2 => intro u hu; simp at hu; subst hu; rfl
      case c3 => have := hle.out; unfold maxLen; omega
      case c4 => have := hle.out; omega
      case c5 => simp; omega
      intro v' w1 hown' hgrow _
      have hB' : Below w.heap.size w w1 := (hB.alloc hsz _).grown hgrow (by simp; omega) (fun j hj => (HO.out.lt j hj).1)
      have HO' := Lib.hid hown'
      clear hgrow hown'
      go_wp2
      go_roundw
      case rel => exact ⟨k + 1, by omega, by go_num, by rw [HS.out]; simpa using HO'.out, hB'⟩
      case measure => simp [intOf]; omega
    · obtain rfl : k = N := by omega
      have hown := HO.out
      have e : errsK l lo hi k = l.map fun n => rangeErr n lo hi := by rw [HN.out]; exact errsK_all _ _ _
      rw [hle.out, e] at hown
      obtain ⟨B, d, rfl, _, hr⟩ := own_ints hown (by simp [← HN.out])
      have HR := Lib.hid hr
      clear hown e hr
      go_wp2
      go_ret
      exact ⟨⟨B, d, rfl, HR.out⟩, hB⟩
/-- the error of a list's numbers. -/
def eachErr (l : List Int) (lo hi : Int) : Int := firstOf (l.map fun n => rangeErr n lo hi)
theorem each_any (A : Option Addr) (l : List Int) (c : Nat) (lo hi : Int) (w : World) (hC : Cells w A l) (hn : l.length ≤ 5000) :
    Calls Tryz.prog 71 #[.slice A l.length c, (.int .i64 lo), (.int .i64 hi)] w fun r w' => r = .returned (.int .i64 (eachErr l lo hi)) ∧ Below w.heap.size w w' := by
  have HC := Lib.hid hC
  have HM : Hid (∀ W b1 b2, Cells W A l → b1 < W.heap.size → b2 < W.heap.size → W.cell? ⟨b1, 0, none⟩ = some (.int .i64 lo) → W.cell? ⟨b2, 0, none⟩ = some (.int .i64 hi) → Calls Tryz.prog 83 #[.slice A l.length c, .func (.func 84) #[] #[.pointer (some ⟨b1, 0, none⟩), .pointer (some ⟨b2, 0, none⟩)]] W fun r w' =>
      (∃ B d, r = .returned (.slice B l.length d) ∧ Cells w' B (l.map fun n => rangeErr n lo hi)) ∧ Below W.heap.size W w') := Lib.hid (fun W b1 b2 q1 q2 q3 q4 q5 => mappedE_any A l c lo hi b1 b2 W q1 hn q2 q3 q4 q5)
  have HF : Hid (∀ W B d, Cells W B (l.map fun n => rangeErr n lo hi) → Calls Tryz.prog 49 #[.slice B l.length d] W fun r w' => r = .returned (.int .i64 (eachErr l lo hi)) ∧ W = w') := Lib.hid (fun W B d q => by
    have e : l.length = (l.map fun n => rangeErr n lo hi).length := by simp
    rw [e]; exact first_any _ B d W (by simpa using hn) q)
  generalize l.length = N at *
  clear hC hn
  go_enter Tryz.func71, Tryz.ntmps71
  go_wp2_with (first
    | (go_at_call 83; refine (HM.out _ _ _ (HC.out.below (by (repeat (first | (with_reducible exact Below.refl _ _) | ((with_reducible refine Below.setCell ?_ ?_ _); rotate_left 1; focus (first | (simp; done) | (simp; omega) | (simp at *; omega))) | ((with_reducible refine Below.alloc ?_ ?_ _); rotate_left 1; focus (first | (simp; done) | (simp; omega) | (simp at *; omega))) | (with_reducible refine Below.drew ?_) | ((with_reducible refine Calm.step (by assumption) ?_ ?_); rotate_left 1; focus (first | (simp; done) | (simp; omega) | (simp at *; omega))))))) (by simp; omega) (by simp) (by simp) (by simp)).mono ?_; rintro r w1 ⟨⟨B, d, rfl, hC1⟩, hb1⟩; have HC1 := Lib.hid hC1; have HB1 := Lib.hid hb1; clear hC1 hb1)
    | (go_at_call 49; refine (HF.out _ _ _ HC1.out).mono ?_; rintro r w2 ⟨rfl, rfl⟩))
  go_ret
  exact ⟨rfl, Below.trans (by (repeat (first | (with_reducible exact Below.refl _ _) | ((with_reducible refine Below.setCell ?_ ?_ _); rotate_left 1; focus (first | (simp; done) | (simp; omega) | (simp at *; omega))) | ((with_reducible refine Below.alloc ?_ ?_ _); rotate_left 1; focus (first | (simp; done) | (simp; omega) | (simp at *; omega))) | (with_reducible refine Below.drew ?_) | ((with_reducible refine Calm.step (by assumption) ?_ ?_); rotate_left 1; focus (first | (simp; done) | (simp; omega) | (simp at *; omega)))))) (HB1.out.mono (by simp; omega))⟩
/-- the error of a number of elements. -/
def someErr (n most : Int) : Int := firstOf [if n = 0 then 12 else 0, if most < n then 5 else 0]
theorem some_any (A : Option Addr) (n c : Nat) (most : Int) (w : World) (hn : n ≤ 5000) :
    Calls Tryz.prog 64 #[.slice A n c, (.int .i64 most)] w fun r w' => r = .returned (.int .i64 (someErr n most)) ∧ Below w.heap.size w w' := by
  have HF : Hid (∀ (W : World) (a b : Int), Calls Tryz.prog 49 #[.slice (some ⟨W.heap.size, 0, none⟩) 2 2] (W.alloc (.cells #[(.int .i64 a), (.int .i64 b)] 27)) fun r w' => r = .returned (.int .i64 (firstOf [a, b])) ∧ (W.alloc (.cells #[(.int .i64 a), (.int .i64 b)] 27)) = w') := Lib.hid (fun W a b => first_any [a, b] _ _ _ (by simp) (fun _ => ⟨_, _, rfl, by simp, fun k hk => by
    have : k = 0 ∨ k = 1 := by simp at hk; omega
    rcases this with rfl | rfl <;> simp⟩))
  by_cases h0 : n = 0 <;> by_cases h1 : most < (n : Int)
  all_goals (
    go_enter Tryz.func64, Tryz.ntmps64
    go_wp2_with (first
      | (go_at_call 68; refine (when_any _ _ _).mono ?_; rintro r w' ⟨rfl, rfl⟩)
      | (go_at_call 49; refine (HF.out _ _ _).mono ?_; rintro r w1 ⟨rfl, rfl⟩))
    go_ret
    refine ⟨ret_i ?_, by (repeat (first | (with_reducible exact Below.refl _ _) | ((with_reducible refine Below.setCell ?_ ?_ _); rotate_left 1; focus (first | (simp; done) | (simp; omega) | (simp at *; omega))) | ((with_reducible refine Below.alloc ?_ ?_ _); rotate_left 1; focus (first | (simp; done) | (simp; omega) | (simp at *; omega))) | (with_reducible refine Below.drew ?_) | ((with_reducible refine Calm.step (by assumption) ?_ ?_); rotate_left 1; focus (first | (simp; done) | (simp; omega) | (simp at *; omega)))))⟩
    unfold someErr
    congr 1
    simp only [List.cons.injEq, and_true]
    refine ⟨?_, ?_⟩ <;> (split <;> first | omega | rfl | simp_all))
end Go.Proofs.YtdeapbihbhoefaaGreatDoor
