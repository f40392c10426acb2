/- Part 20 of the texts of the claim: N4, N5, N6, QK, QO, QL, QR. -/
import Derived.Test.YtdeapbihbhoefaaDoorSe19
import Derived.Test.YtdeapbihbhoefaaDoorSe13
import Derived.Test.YtdeapbihbhoefaaDoorSe16

/- The reference's Behind. -/
namespace Go.Proofs.YtdeapbihbhoefaaDoor
open Go.RowKit
open Calm (bcell Blk)

theorem run_append_none (W : World) (b : Addr) (A : Option Addr) (c : Nat) (ty : TypeId) : (Builtin.append_ #[22, 22] ty #[.slice (some b) 1 1, .slice A 0 c]).run Tryd.prog W = .ok (.slice (some b) 1 1) W := by
  obtain ⟨i0, hi, hz0, hz1, hz2⟩ := info_parts Tryd.infoI
  have hl : ∀ (x : Addr), (loadCells x 0).run Tryd.prog W = .ok #[] W := fun x => by simpa using run_loadCells_list (P := Tryd.prog) W x [] (by simp)
  cases A <;> simp [Builtin.append_, run_underlying Tryd.underlying22, sizeOf, typeInfo, zeroValue, hi, hz0, hz1, Builtin.lenOf, Builtin.firstCells, storeCells, hl]
/-- append([]int{y}, l...). -/
theorem wpList_appY {w : World} {ops : Array Oper} {rest : List Oper} {o : Oper} {a : Act} {Q : Exit → Act → World → Prop} (hgd : o.guard = none) (s x : Operand)
    (ho : o.op = .call { callee := .builtin .append, args := #[s, x], argTypes := #[22, 22] }) (g n c : Nat) (A : Option Addr) (y : Int) (xs : List Int) (hn : n = xs.length)
    (hs : a.eval s = .slice (some ⟨g, 0, none⟩) 1 1) (hx : a.eval x = .slice A n c) (hg : w.heap[g]? = some (.cells #[(.int .i64 y)] 3 (0, 0))) (h5 : n ≤ 100000) (hC : Cells w A xs)
    (h : ∀ B d w', Below w.heap.size w w' → KSI (n + 1) (y :: xs) (.slice B (n + 1) d) w' → n + 1 ≤ d → d ≤ maxLen → (∀ p, B = some p → g ≤ p.block) → wpList Tryd.prog ops Q rest (a.put o.dst (.slice B (n + 1) d)) w') : wpList Tryd.prog ops Q (o :: rest) a w := by
  obtain ⟨i0, hi, hz0, hz1, hz2⟩ := info_parts Tryd.infoI
  have hK0 := Calm.Blk.row hg
  refine wpList_plain hgd fun K hK => ?_
  rcases Nat.eq_zero_or_pos n with h0 | h0
  · subst h0
    obtain rfl : xs = [] := List.eq_nil_of_length_eq_zero hn.symm
    have hrun := run_append_none w ⟨g, 0, none⟩ A c o.type
    unfold Oper.wp
    simp [execOp, ho, resolve, invoke, builtin, hs, hx, hrun, Result.andThen]
    refine hK _ _ (h (some ⟨g, 0, none⟩) 1 w (Below.refl _ _) ⟨_, _, rfl, ?_, fun p hp => by cases hp; exact ⟨_, hg⟩⟩ (by omega) (by unfold maxLen; omega) (fun p hp => by cases hp; exact Nat.le_refl _))
    exact Cells.row hg
  · obtain ⟨b, off, rfl, hb, hc⟩ := hC (by omega)
    obtain ⟨v', w', hrun, r1, r2⟩ := run_append_arg_grows (P := Tryd.prog) w 22 o.type 3 i0 _ 1 8 Tryd.underlying22 hi hz0 hz1 hz2 rfl (by decide) ⟨g, 0, none⟩ 1 1 [(.int .i64 y)] (by simp) (by intro j u hj; match j, hj with | 0, hj => (simp at hj; subst hj; exact hK0.cell 0 _ rfl)) ⟨b, off, none⟩ n c (xs.map (Value.int .i64)) (by simp; omega) (fun j v hj => cells_src hc j v hj) (by omega) (by unfold maxLen; omega) (by omega)
    unfold Oper.wp
    simp [execOp, ho, resolve, invoke, builtin, hs, hx, hrun, Result.andThen]
    have r1' : w'.ownsRow w.heap.size 3 1 v' (n + 1) ((y :: xs).map (Value.int .i64)) := by simpa [Nat.add_comm] using r1
    obtain ⟨B, d, rfl⟩ := own_slice r1'
    have hd : n + 1 ≤ d ∧ d ≤ maxLen := by
      rcases r1'.2 with ⟨e, _⟩ | ⟨g', cap, cur, e, _, _, h3, h4, _⟩
      · cases e
      · cases e
        exact ⟨h3, h4⟩
    have hfr : ∀ p, B = some p → g ≤ p.block := fun p hp => by
      have hlt := hK0.lt
      subst hp
      rcases r1'.2 with ⟨e, _⟩ | ⟨g', cap, cur, e, h2, _⟩
      · cases e
      · cases e
        show g ≤ g'
        omega
    exact hK _ _ (h B d w' ((Below.refl w.heap.size w).grown r2 (Nat.le_refl _) (fun k hk => by cases hk)) (own_ksi (by simp [hn]) r1') hd.1 hd.2 hfr)
/-- the excursion, tap by tap. -/
def exS (ts al : List Int) : Nat → Int
  | 0 => 0
  | k + 1 => exS ts al k + ts.getD k 0 * al.getD k 0
theorem exS_exK (ts ps : List Int) (y : Int) : ∀ k, exS ts (y :: ps) (k + 1) = exK ts ps y k
  | 0 => by simp [exS, exK]
  | k + 1 => by
    show exS ts (y :: ps) (k + 1) + ts.getD (k + 1) 0 * (y :: ps).getD (k + 1) 0 = _
    rw [exS_exK ts ps y k]
    simp [exK]
theorem exS_bd {ts al : List Int} (h1 : inB 64 ts) (h2 : inB 2048 al) : ∀ k : Nat, -(131072 * (k : Int)) ≤ exS ts al k ∧ exS ts al k ≤ 131072 * (k : Int)
  | 0 => by simp [exS]
  | k + 1 => by
    have h3 := exS_bd h1 h2 k
    have h4 := mul_bd (inB_get h1 (by omega) k) (inB_get h2 (by omega) k)
    simp only [exS]
    omega

theorem bcellB {B : Nat} {W w1 : World} (hb : Below B W w1) : (∀ b o, b < B → w1.cell? ⟨b, o, none⟩ = W.cell? ⟨b, o, none⟩) ∧ (∀ b o, b < B → w1.frozen? ⟨b, o, none⟩ = W.frozen? ⟨b, o, none⟩) :=
  ⟨fun b o h => hb.cell (p := ⟨b, o, none⟩) h, fun b o h => hb.frozen (p := ⟨b, o, none⟩) h⟩
theorem Cells.takeN {w : World} {A : Option Addr} {zs : List Int} (h : Cells w A zs) (n : Nat) : Cells w A (zs.take n) := by
  intro h0
  obtain ⟨b, o, hA, hl, hc⟩ := h (by simp at h0; omega)
  refine ⟨b, o, hA, hl, fun k hk => ?_⟩
  have hk2 : k < n ∧ k < zs.length := by simp at hk; omega
  rw [hc k hk2.2]
  simp [List.getD, hk2.1]
set_option maxRecDepth 100000 in
theorem run_storeR {W : World} {g : Nat} {u0 u1 u2 : Value} {h lv : Int} {B : Option Addr} {n c : Nat} (hg : W.heap[g]? = some (.cells #[u0, u1, u2] 26 (0, 0))) {o : Oper} {ρ : Operand → Value} {p v : Tmp} (hop : o.op = .store 26 (.tmp p) (.tmp v))
    (hp : ρ (.tmp p) = .pointer (some ⟨g, 0, none⟩)) (hv : ρ (.tmp v) = .agg #[(.int .i64 h), (.int .i64 lv), .slice B n c]) : (execOp ρ o).run Tryd.prog W = .ok .skip (((W.setCell ⟨g, 0, none⟩ (.int .i64 h)).setCell ⟨g, 1, none⟩ (.int .i64 lv)).setCell ⟨g, 2, none⟩ (.slice B n c)) := by
  have K := Calm.Blk.row hg
  obtain ⟨c0, c1, c2, l, f⟩ := K.o3
  have f0 := K.f 0
  have f1 := K.f 1
  have f2 := K.f 2
  clear K
  obtain ⟨dst, op, type, pos, after, guard⟩ := o
  simp only at hop
  subst hop
  go_simp
/-- a state whose last outputs lie in a row of integers, in no block below b. -/
def KTN (b : Nat) (h lv : Int) (n : Nat) (l : List Int) : Rel.Know := fun u W => ∃ B c, u = .agg #[(.int .i64 h), (.int .i64 lv), .slice B n c] ∧ Cells W B l ∧ (∀ p, B = some p → IntRow W p) ∧ ∀ p, B = some p → b ≤ p.block
theorem KTN.ik (b : Nat) (h lv : Int) (n : Nat) (l : List Int) : IStable (KTN b h lv n l) := fun _ _ _ ⟨B, c, h1, h2, h3, h4⟩ hk => ⟨B, c, h1, h2.keep h3 hk, fun p hp => (h3 p hp).keep hk, h4⟩
theorem KTN.kti {b : Nat} {h lv : Int} {n : Nat} {l : List Int} {u : Value} {W : World} (q : KTN b h lv n l u W) : KTI h lv n l u W := by
  obtain ⟨B, c, h1, h2, h3, _⟩ := q
  exact ⟨B, c, h1, h2, h3⟩
namespace RelH
open Rel (ons Know)
/-- the given block is what it will be. -/
def DoneG (T : TypeId) (K : Know) (g : Nat) : DK := fun _ _ W => ∃ cs, W.heap[g]? = some (.cells cs T (0, 0)) ∧ K (.agg cs) W
theorem DoneG.st {Ty : TypeId} {K : Know} {g B : Nat} (hK : IStable K) : Stable (Sty Ty K B) (DoneG Ty K g) := by
  rintro x u W W' ⟨cs, h3, h4⟩ hS
  rcases hS.block g (Array.getElem?_eq_some_iff.1 h3).1 with e | ⟨_, _, cs', e, hk⟩
  · exact ⟨cs, e.trans h3, hK _ _ _ h4 hS.keep⟩
  · exact ⟨cs', e, hk⟩
variable {DS : List Tmp} {w0 : World} {a0 : Act} {T : Ctx → Prop} {Γ : Ctx} {o : Oper} {rest : List Oper}
/-- a state stored into a block that lay there. -/
theorem storeB {B g b : Nat} {h lv : Int} {n c : Nat} {l : List Int} {Bp : Option Addr} {cs0 : Array Value} (p v : Tmp) (jv : Nat) (hcell : Cells w0 Bp l) (hrow : ∀ q, Bp = some q → IntRow w0 q) (hbb : ∀ q, Bp = some q → b ≤ q.block) (hp : p ∉ DS) (hpe : a0.eval (.tmp p) = .pointer (some ⟨g, 0, none⟩)) (hB : B ≤ g) (hg0 : w0.heap[g]? = some (.cells cs0 26 (0, 0))) (hcs : cs0.size = 3)
    (hop : o.op = .store 26 (.tmp p) (.tmp v)) (hv : (ons o).contains jv = true)
    (hΓv : Γ[jv]? = some (some v, fun _ u _ => u = .agg #[(.int .i64 h), (.int .i64 lv), .slice Bp n c])) (hg : GOK3 Γ o)
    (hn : walk3 (Sty 26 (KTN b h lv n l) B) Tryd.prog DS w0 a0 T (Γ ++ [(o.dst, DoneG 26 (KTN b h lv n l) g)]) rest) : walk3 (Sty 26 (KTN b h lv n l) B) Tryd.prog DS w0 a0 T Γ (o :: rest) :=
  ⟨_, DoneG.st (KTN.ik b h lv n l), fun x y he v W h1 => h1, hg, fun a W x hb hd hbase K Q hK => by
    have e1 : a.eval (.tmp v) = .agg #[(.int .i64 h), (.int .i64 lv), .slice Bp n c] := (dep_at hd jv hv hΓv).2
    obtain ⟨cs, h3, h4⟩ : ∃ cs, W.heap[g]? = some (.cells cs 26 (0, 0)) ∧ cs.size = 3 := by
      rcases hb.block g (Array.getElem?_eq_some_iff.1 hg0).1 with e | ⟨_, _, cs, e, hk⟩
      · exact ⟨cs0, e.trans hg0, hcs⟩
      · obtain ⟨_, _, e2, _⟩ := hk
        cases e2
        exact ⟨_, e, rfl⟩
    obtain ⟨cl⟩ := cs
    match cl, h4 with
    | [u0, u1, u2], _ =>
    have hc := hcell.keep hrow hb.keep
    have hr : ∀ q, Bp = some q → IntRow W q := fun q hq => (hrow q hq).keep hb.keep
    have hrun := run_storeR h3 hop ((hbase p hp).trans hpe) e1
    have hne : ∀ p, Bp = some p → p.block ≠ g := fun p hp => (hr p hp).ne h3 (by decide)
    have hg' := set3_heap (.int .i64 h) (.int .i64 lv) (.slice Bp n c) h3
    have hkt : KTN b h lv n l (.agg #[(.int .i64 h), (.int .i64 lv), .slice Bp n c]) (((W.setCell ⟨g, 0, none⟩ (.int .i64 h)).setCell ⟨g, 1, none⟩ (.int .i64 lv)).setCell ⟨g, 2, none⟩ (.slice Bp n c)) :=
      ⟨Bp, c, rfl, ((hc.sets (fun _ => hne) 0 _).sets (fun _ => hne) 1 _).sets (fun _ => hne) 2 _, fun p hp => (((hr p hp).sets (hne p hp) 0 _).sets (hne p hp) 1 _).sets (hne p hp) 2 _, hbb⟩
    unfold Oper.wp
    rw [hrun]
    refine hK undef _ ⟨_, hg', hkt⟩ ⟨rfl, rfl, rfl, by simp [World.setCell], by decide, fun k hk => ?_⟩
    rcases Nat.decEq k g with hkg | rfl
    · exact .inl (by rw [Below.heap_setCell _ _ _ _ hkg, Below.heap_setCell _ _ _ _ hkg, Below.heap_setCell _ _ _ _ hkg])
    · exact .inr ⟨hB, ⟨_, h3⟩, _, hg', hkt⟩, hn⟩
end RelH

set_option maxRecDepth 100000 in
set_option maxHeartbeats 4000000 in
theorem rBehind_walk {lk ht rc h lv y : Int} {ts gs ps : List Int} {M L N : Nat} {A1 A2 A3 : Option Addr} {c1 c2 c3 : Nat} {w : World} (hlk : 1 ≤ lk ∧ lk ≤ 8) (hh : 0 ≤ h ∧ h ≤ 1099511627776) (hM : M = ts.length) (hN : N = ps.length) (hMN : M = N + 1) (hM8 : M ≤ 1000) (htb : inB 64 ts) (hpb : inB 2048 ps) (hy : -2048 ≤ y ∧ y ≤ 2048)
    (hT : Cells w A1 ts) (hG : Cells w A2 gs) (hP : Cells w A3 ps) :
    Calls Tryd.prog 36 #[.agg #[(.int .i64 lk), (.int .i64 ht), .slice A1 M c1, (.int .i64 rc), .slice A2 L c2], .agg #[(.int .i64 h), (.int .i64 lv), .slice A3 N c3], (.int .i64 y)] w (KP (K2 (KTN w.heap.size (coolF lk h + y * y) lv N (pushL ps y)) (KV (.int .i64 (exF ts ps y)))) w) := by
  have HU := Lib.hid (show KG lk ht rc M ts L gs (.agg #[(.int .i64 lk), (.int .i64 ht), .slice A1 M c1, (.int .i64 rc), .slice A2 L c2]) w from ⟨_, _, _, _, rfl, hT, hG⟩)
  have HCO : Hid (∀ {v : Value} W, KG lk ht rc M ts L gs v W → Calls Tryd.prog 83 #[v, (.int .i64 h)] W (KP (KV (.int .i64 (coolF lk h))) W)) := Lib.hid (fun W q => rCooled_K hlk hh q)
  have HT := Lib.hid hT
  have HP := Lib.hid hP
  have HM := Lib.hid hM
  have HN := Lib.hid hN
  obtain ⟨y1, y2⟩ := hy
  have hal : inB 2048 (y :: ps) := by
    intro x hx
    rcases List.mem_cons.1 hx with e | hx
    · subst e; exact ⟨y1, y2⟩
    · exact hpb x hx
  have HEB := Lib.hid (exS_bd htb hal)
  have HTB : Hid (∀ k : Nat, -64 ≤ ts.getD k 0 ∧ ts.getD k 0 ≤ 64) := Lib.hid (fun k => inB_get htb (by omega) k)
  have HAB : Hid (∀ k : Nat, -2048 ≤ (y :: ps).getD k 0 ∧ (y :: ps).getD k 0 ≤ 2048) := Lib.hid (fun k => inB_get hal (by omega) k)
  have hEX : exS ts (y :: ps) M = exF ts ps y := by rw [hMN, exS_exK, hN]; rfl
  have HEX := Lib.hid hEX
  have HMN := Lib.hid hMN
  have hN1 : N ≤ 1000 := by omega
  clear hT hG hP hM hN hal htb hpb hEX hlk hMN
  go_enter Tryd.func36, Tryd.ntmps36
  go_wp2_with (at_builtin; refine wpList_appY rfl _ _ rfl (w.heap.size + 3) N c3 A3 y ps HN.out rfl rfl ?hrow (by omega) ?hcl ?_)
  case hrow => (first | exact heap_new (by simp) | simp)
  case hcl => exact HP.out.below (by (repeat (first | (with_reducible exact Below.refl _ _) | ((with_reducible refine Below.setCell ?_ ?_ _); rotate_left 1; focus (first | (simp; done) | (simp; omega) | (simp at *; omega))) | ((with_reducible refine Below.alloc ?_ ?_ _); rotate_left 1; focus (first | (simp; done) | (simp; omega) | (simp at *; omega))) | (with_reducible refine Below.drew ?_) | ((with_reducible refine Calm.step (by assumption) ?_ ?_); rotate_left 1; focus (first | (simp; done) | (simp; omega) | (simp at *; omega))))))
  intro B d w1 hb1 hk1 hd1 hd2 hfr
  have hfr2 : ∀ p, B = some p → w.heap.size ≤ p.block := fun p hp => by have := hfr p hp; omega
  have HFR0 := Lib.hid hfr2
  clear hfr hfr2
  have bg := Lib.hid (show Blk w1 w.heap.size #[(.int .i64 lk), (.int .i64 ht), .slice A1 M c1, (.int .i64 rc), .slice A2 L c2] from Blk.below (by (repeat (first | ((with_reducible refine Blk.at_ ?_); focus (first | rfl | (simp; done) | (simp; omega))) | (with_reducible refine Blk.alloc ?_ _) | (with_reducible refine Blk.below ?_ (by with_reducible assumption)) | (with_reducible refine Blk.drew ?_)))) (hb1.mono (by simp)))
  have bs := Lib.hid (show Blk w1 (w.heap.size + 1) #[(.int .i64 h), (.int .i64 lv), .slice A3 N c3] from Blk.below (by (repeat (first | ((with_reducible refine Blk.at_ ?_); focus (first | rfl | (simp; done) | (simp; omega))) | (with_reducible refine Blk.alloc ?_ _) | (with_reducible refine Blk.below ?_ (by with_reducible assumption)) | (with_reducible refine Blk.drew ?_)))) (hb1.mono (by simp)))
  have br := Lib.hid (show w1.heap[w.heap.size + 2]? = some (.cells #[(.int .i64 0), (.int .i64 0), .slice none 0 0] 26 (0, 0)) from by
    exact (hb1.block _ (by omega)).trans ((((Below.refl _ _).alloc (Nat.le_refl _) _).block _ (by simp)).trans (heap_new (by simp))))
  have HB1 := Lib.hid (show Below w.heap.size w w1 from Below.trans (by (repeat (first | (with_reducible exact Below.refl _ _) | ((with_reducible refine Below.setCell ?_ ?_ _); rotate_left 1; focus (first | (simp; done) | (simp; omega) | (simp at *; omega))) | ((with_reducible refine Below.alloc ?_ ?_ _); rotate_left 1; focus (first | (simp; done) | (simp; omega) | (simp at *; omega))) | (with_reducible refine Below.drew ?_) | ((with_reducible refine Calm.step (by assumption) ?_ ?_); rotate_left 1; focus (first | (simp; done) | (simp; omega) | (simp at *; omega)))))) (hb1.mono (by omega)))
  have hz1 : w.heap.size + 4 ≤ w1.heap.size := by have h1 := hb1.size; simp only [World.alloc, Array.size_push] at h1; omega
  have HK1 := Lib.hid hk1
  have T1 := Lib.hid (HT.out.below HB1.out)
  have U1 := Lib.hid (KG.st _ _ _ _ _ _ _ _ _ _ HU.out HB1.out)
  clear hb1 hk1 HT HP

  go_wp2
  obtain ⟨f0, f1, f2, f3, f4, fl, -⟩ := bg.out.o5
  go_loopw [9, 10] (fun s i wr => ∃ k : Nat, k ≤ M ∧ i = (.int .i64 ((k : Int))) ∧ s = (.int .i64 (exS ts (y :: ps) k)) ∧ Below w1.heap.size w1 wr) (fun _ i _ => M - (intOf i).toNat)
  case atStart => exact ⟨0, Nat.zero_le _, rfl, rfl, by (repeat (first | (with_reducible exact Below.refl _ _) | ((with_reducible refine Below.setCell ?_ ?_ _); rotate_left 1; focus (first | (simp; done) | (simp; omega) | (simp at *; omega))) | ((with_reducible refine Below.alloc ?_ ?_ _); rotate_left 1; focus (first | (simp; done) | (simp; omega) | (simp at *; omega))) | (with_reducible refine Below.drew ?_) | ((with_reducible refine Calm.step (by assumption) ?_ ?_); rotate_left 1; focus (first | (simp; done) | (simp; omega) | (simp at *; omega)))))⟩
  case round =>
    obtain ⟨k, hk, rfl, rfl, hbr⟩ := hrel
    have HBr := Lib.hid hbr
    have bgr := Lib.hid (bg.out.below hbr)
    obtain ⟨e1, e2⟩ := HEB.out k
    have HS2 := Lib.hid (show exS ts (y :: ps) (k + 1) = exS ts (y :: ps) k + ts.getD k 0 * (y :: ps).getD k 0 from rfl)
    obtain ⟨s, hs⟩ : ∃ s, s = exS ts (y :: ps) k := ⟨_, rfl⟩
    rw [← hs] at e1 e2 HS2 ⊢
    have HSK := Lib.hid hs
    clear hs f0 f1 f2 f3 f4 fl hbr
    obtain ⟨f0, f1, f2, f3, f4, fl, -⟩ := bgr.out.o5
    by_cases hlt : k < M
    · obtain ⟨b1, o1, hA, hbl, hcell⟩ := (T1.out.below HBr.out) (by rw [← HM.out]; omega)
      subst hA
      have hck := hcell k (by rw [← HM.out]; exact hlt)
      obtain ⟨B', d', hB', hKC⟩ := ((KSI.ik _ _).st _ _ _ HK1.out HBr.out).cells
      cases hB'
      obtain ⟨b2, o2, hA, hbl2, hcell2⟩ := hKC (by simp)
      subst hA
      have hck2 := hcell2 k (by have h1 := HN.out; have h2 := HMN.out; simp only [List.length_cons]; omega)
      obtain ⟨t1, t2⟩ := HTB.out k
      obtain ⟨u1, u2⟩ := HAB.out k
      have m := mul_bd (a := ts.getD k 0) (b := (y :: ps).getD k 0) (A := 64) (B := 2048) ⟨t1, t2⟩ ⟨u1, u2⟩
      obtain ⟨p, hp⟩ : ∃ p, p = ts.getD k 0 * (y :: ps).getD k 0 := ⟨_, rfl⟩
      rw [← hp] at m HS2
      have hp' := hp.symm
      obtain ⟨xt, hxt⟩ : ∃ xt, xt = ts.getD k 0 := ⟨_, rfl⟩
      obtain ⟨xa, hxa⟩ : ∃ xa, xa = (y :: ps).getD k 0 := ⟨_, rfl⟩
      rw [← hxt] at hck t1 t2 hp'
      rw [← hxa] at hck2 u1 u2 hp'
      obtain ⟨m1, m2⟩ := m
      have hlt2 : (k : Int) < (N : Int) + 1 := by have := HMN.out; omega
      clear hcell hcell2 hKC hp hxt hxa
      go_wp2
      refine Rel.region3 12 (by kernel_rfl) (by kernel_rfl) (by kernel_rfl) ?_
      simp only [List.take_succ_cons, List.take_zero, List.drop_succ_cons, List.drop_zero, List.filterMap_cons, List.filterMap_nil]
      iterate 12 (apply Rel.op3; (focus (first | exact Rel.gno rfl | exact Rel.gyes _ true _ rfl rfl rfl | exact Rel.gyes _ false _ rfl rfl rfl)); (focus (intro a W hb hd hbase; obtain ⟨hc, hf⟩ := bcell hb; clear hb hf; simp [Rel.deps, Rel.dep1, Rel.ons, Region.binds, Act.eval, KV] at hd; simp only [Act.eval, List.mem_cons, List.not_mem_nil, not_or, and_imp, or_false, Array.getD_eq_getD_getElem?] at hbase; go_simp; (try go_bits); (try rfl); done)); (try simp only [List.nil_append, List.cons_append]))
      refine Rel.done3 ?_
      intro x w21 h21 hx
      simp only [Rel.facts, Nat.zero_add, Nat.reduceAdd] at hx
      obtain ⟨e0, e1, e2, e3, e4, e5, e6, e7, e8, e9, e10, e11, _⟩ := hx
      simp only [Rel.fill, Nat.zero_add, Nat.reduceAdd, e0, e1, e2, e3, e4, e5, e6, e7, e8, e9, e10, e11]
      simp only [Act.put, List.setIfInBounds_toArray, List.set_cons_zero, List.set_cons_succ]
      clear e0 e1 e2 e3 e4 e5 e6 e7 e8 e9 e10 e11
      have HB21 := Lib.hid (HBr.out.trans (h21.mono HBr.out.size))
      go_wp2
      go_roundw
      case rel => exact ⟨k + 1, by omega, by go_num, by rw [HS2.out], HB21.out⟩
      case measure => simp [intOf]; omega
    · obtain rfl : k = M := by omega
      obtain ⟨B', d', hB', hKC, hKR⟩ := (KSI.ik _ _).st _ _ _ HK1.out HBr.out
      cases hB'
      have HKC := Lib.hid hKC
      obtain ⟨b2, o2, hA, hbl2, hcell2⟩ := hKC (by simp)
      subst hA
      have HCW := Lib.hid (show Cells wr (some ⟨b2, o2, none⟩) (pushL ps y) from Cells.takeN HKC.out _)
      have HIW := Lib.hid hKR
      have HFR := Lib.hid HFR0.out
      clear HFR0
      have HGW := Lib.hid ((HBr.out.block _ (by omega)).trans br.out)
      have HBW := Lib.hid (HB1.out.trans (HBr.out.mono (by omega)))
      have bsr := Lib.hid (bs.out.below HBr.out)
      obtain ⟨s0, s1, s2, sl, -⟩ := bsr.out.o3
      have hB2 : w.heap.size + 2 ≤ wr.heap.size := by have := HBr.out.size; omega
      obtain ⟨H0, hH0⟩ : ∃ H0, H0 = coolF lk h := ⟨_, rfl⟩
      obtain ⟨Y, hY⟩ : ∃ Y, Y = y * y := ⟨_, rfl⟩
      have hY' := hY.symm
      have hY2 : 0 ≤ Y ∧ Y ≤ 4194304 := by
        have h1 := mul_bd (a := y) (b := y) (A := 2048) (B := 2048) ⟨y1, y2⟩ ⟨y1, y2⟩
        have h2 : 0 ≤ y * y := by
          rcases Int.le_total 0 y with q | q
          · exact Int.mul_nonneg q q
          · exact Int.mul_nonneg_of_nonpos_of_nonpos q q
        rw [← hY] at h1 h2
        omega
      have hH2 : 0 ≤ H0 ∧ H0 ≤ h := by rw [hH0]; exact coolF_bd lk hh.1
      rw [← hH0] at HCO ⊢
      rw [← hY]
      rw [HSK.out, HEX.out] at *
      have HH0 := Lib.hid hH0
      have HYY := Lib.hid hY
      obtain ⟨z1, z2⟩ := hY2
      obtain ⟨z3, z4⟩ := hH2
      obtain ⟨z5, z6⟩ := hh
      have z7 : N ≤ d := by omega
      have z8 : (N : Int) ≤ (d : Int) := by omega
      clear hKC hKR hcell2 hH0 hY HS2
      go_wp2
      refine RelH.region3 (S := Sty 26 (KTN w.heap.size (H0 + Y) lv N (pushL ps y)) (w.heap.size + 2)) (Sty.trans (KTN.ik _ _ _ _ _)) (Sty.drawn (by decide)) 18 (by kernel_rfl) (by kernel_rfl) (by kernel_rfl) ?_
      simp only [List.take_succ_cons, List.take_zero, List.drop_succ_cons, List.drop_zero, List.filterMap_cons, List.filterMap_nil]
      iterate 3 (apply RelH.op3 (Sty.refl (by decide)); (focus (first | exact RelH.gno rfl | exact RelH.gyes _ true _ rfl rfl rfl | exact RelH.gyes _ false _ rfl rfl rfl)); (focus (intro a W x hS hd hbase; have hb := hS.below hB2; clear hS; obtain ⟨hc, hf⟩ := bcellB hb; clear hb hf; simp [RelH.deps, RelH.dep1, Rel.ons, Region.binds, Act.eval, KV] at hd; simp only [Act.eval, List.mem_cons, List.not_mem_nil, not_or, and_imp, or_false, Array.getD_eq_getD_getElem?] at hbase; go_simp; (try go_bits); (try rfl); done)); (try simp only [List.nil_append, List.cons_append]))
      refine RelH.callH (fun _ _ h => h.keep) (fun _ _ h => Sty.of (by decide) h) 83 (KV (.int .i64 H0)) ((KV.ik _)) (RelH.gno rfl) ?_ ?_
      · intro a W x hS hd hbase
        have hb := hS.below hB2
        have q1 : a.eval (.tmp 35) = _ := (RelH.dep_k hd 0 rfl rfl)
        have q2 : a.eval (.tmp 37) = _ := (RelH.dep_k hd 2 rfl rfl)
        refine ⟨#[a.eval (.tmp 35), a.eval (.tmp 37)], ?_, by rw [q1, q2]; exact HCO.out _ (KG.st _ _ _ _ _ _ _ _ _ _ HU.out (HBW.out.trans (hb.mono (by omega))))⟩
        clear hd hbase hb hS
        go_simp
        (first | done | rfl | (refine ⟨?_, ?_⟩ <;> rfl))
      (try simp only [List.nil_append, List.cons_append])
      iterate 13 (apply RelH.op3 (Sty.refl (by decide)); (focus (first | exact RelH.gno rfl | exact RelH.gyes _ true _ rfl rfl rfl | exact RelH.gyes _ false _ rfl rfl rfl)); (focus (intro a W x hS hd hbase; have hb := hS.below hB2; clear hS; obtain ⟨hc, hf⟩ := bcellB hb; clear hb hf; simp [RelH.deps, RelH.dep1, Rel.ons, Region.binds, Act.eval, KV] at hd; simp only [Act.eval, List.mem_cons, List.not_mem_nil, not_or, and_imp, or_false, Array.getD_eq_getD_getElem?] at hbase; go_simp; (try go_bits); (try rfl); done)); (try simp only [List.nil_append, List.cons_append]))
      refine RelH.storeB 6 50 15 (hcell := HCW.out) (hrow := HIW.out) (hbb := HFR.out) (by simp) rfl (Nat.le_refl _) HGW.out rfl rfl rfl rfl (RelH.gno rfl) ?_
      (try simp only [List.nil_append, List.cons_append])
      refine RelH.done3 ?_
      intro x w41 hS41 hx
      have h41 := hS41.below hB2
      clear hS41
      simp only [RelH.facts, Nat.zero_add, Nat.reduceAdd] at hx
      obtain ⟨e0, e1, e2, e3, e4, e5, e6, e7, e8, e9, e10, e11, e12, e13, e14, e15, e16, ⟨cs41, hG41, B41, c41, ec41, hc41, hi41⟩, _⟩ := hx
      have e3 : x 3 = _ := e3
      cases ec41
      simp only [RelH.fill, Nat.zero_add, Nat.reduceAdd, e0, e1, e2, e3, e4, e5, e6, e7, e8, e9, e10, e11, e12, e13, e14, e15, e16]
      simp only [Act.put, List.setIfInBounds_toArray, List.set_cons_zero, List.set_cons_succ]
      clear e0 e1 e2 e3 e4 e5 e6 e7 e8 e9 e10 e11 e12 e13 e14 e15 e16
      have K3 := Calm.Blk.row hG41
      obtain ⟨r0, r1, r2, rl, -⟩ := K3.o3
      have HBZ := Lib.hid (HBW.out.trans (h41.mono (by omega)))
      go_wp2
      exact bodyPost_ret (v := .tuple #[.agg #[(.int .i64 (H0 + Y)), (.int .i64 lv), .slice B41 N c41], (.int .i64 (exF ts ps y))]) (by simp [results, Tryd.results36, go_sem, r0, r1, r2]) rfl ⟨_, rfl, ⟨_, _, rfl, ⟨_, _, by rw [HH0.out, HYY.out], hc41, hi41⟩, rfl⟩, HBZ.out⟩
theorem rBehind_N {lk ht rc h lv y : Int} {ts gs ps : List Int} {M L N : Nat} {u v : Value} {W : World} (hlk : 1 ≤ lk ∧ lk ≤ 8) (hh : 0 ≤ h ∧ h ≤ 1099511627776) (hM : M = ts.length) (hN : N = ps.length) (hMN : M = N + 1) (hM8 : M ≤ 1000) (htb : inB 64 ts) (hpb : inB 2048 ps) (hy : -2048 ≤ y ∧ y ≤ 2048) (hu : KG lk ht rc M ts L gs u W) (hv : KT h lv N ps v W) :
    Calls Tryd.prog 36 #[u, v, (.int .i64 y)] W (KP (K2 (KTN W.heap.size (coolF lk h + y * y) lv N (pushL ps y)) (KV (.int .i64 (exF ts ps y)))) W) := by
  obtain ⟨A1, c1, A2, c2, rfl, hT, hG⟩ := hu
  obtain ⟨A3, c3, rfl, hP⟩ := hv
  exact rBehind_walk hlk hh hM hN hMN hM8 htb hpb hy hT hG hP
theorem rBehind_K {lk ht rc h lv y : Int} {ts gs ps : List Int} {M L N : Nat} {u v : Value} {W : World} (hlk : 1 ≤ lk ∧ lk ≤ 8) (hh : 0 ≤ h ∧ h ≤ 1099511627776) (hM : M = ts.length) (hN : N = ps.length) (hMN : M = N + 1) (hM8 : M ≤ 1000) (htb : inB 64 ts) (hpb : inB 2048 ps) (hy : -2048 ≤ y ∧ y ≤ 2048) (hu : KG lk ht rc M ts L gs u W) (hv : KT h lv N ps v W) :
    Calls Tryd.prog 36 #[u, v, (.int .i64 y)] W (KP (K2 (KTI (coolF lk h + y * y) lv N (pushL ps y)) (KV (.int .i64 (exF ts ps y)))) W) :=
  (rBehind_N hlk hh hM hN hMN hM8 htb hpb hy hu hv).mono fun e W' ⟨v, h1, ⟨u1, u2, h2, h3, h4⟩, hb⟩ => ⟨v, h1, ⟨u1, u2, h2, h3.kti, h4⟩, hb⟩
end Go.Proofs.YtdeapbihbhoefaaDoor

/- The reference's Tails. -/
namespace Go.Proofs.YtdeapbihbhoefaaDoor
open Go.RowKit
open Calm (bcell Blk)
def lenS : Value → Nat
  | .slice _ n _ => n
  | _ => 0

set_option maxRecDepth 100000 in
set_option maxHeartbeats 4000000 in
theorem rTails_walk {lk ht rc h lv : Int} {ts gs ps : List Int} {M L N : Nat} {A1 A2 A3 : Option Addr} {c1 c2 c3 : Nat} {w : World} (hlk : 1 ≤ lk ∧ lk ≤ 8) (hh : 0 ≤ h ∧ h ≤ 1099511627776) (hM : M = ts.length) (hN : N = ps.length) (hMN : M = N + 1) (hM8 : M ≤ 1000) (htb : inB 64 ts) (hpb : inB 2048 ps)
    (hT : Cells w A1 ts) (hG : Cells w A2 gs) (hP : Cells w A3 ps) :
    Calls Tryd.prog 33 #[.agg #[(.int .i64 lk), (.int .i64 ht), .slice A1 M c1, (.int .i64 rc), .slice A2 L c2], .agg #[(.int .i64 h), (.int .i64 lv), .slice A3 N c3]] w (KP (KSI N (tailsF ts ps)) w) := by
  have HU := Lib.hid (show KG lk ht rc M ts L gs (.agg #[(.int .i64 lk), (.int .i64 ht), .slice A1 M c1, (.int .i64 rc), .slice A2 L c2]) w from ⟨_, _, _, _, rfl, hT, hG⟩)
  have HBE : Hid (∀ {u v : Value} (k : Nat) (W : World), k ≤ N → KG lk ht rc M ts L gs u W → KT (coolK lk h k) lv N (psK ps k) v W → Calls Tryd.prog 36 #[u, v, (.int .i64 0)] W (KP (K2 (KTN W.heap.size (coolK lk h (k + 1)) lv N (psK ps (k + 1))) (KV (.int .i64 (exF ts (psK ps k) 0)))) W)) := Lib.hid (fun k W hk q1 q2 => by
    have h1 := coolK_bd lk hh.1 k
    rw [show coolK lk h (k + 1) = coolF lk (coolK lk h k) + 0 * 0 by simp [coolK]]
    exact rBehind_N (y := 0) hlk ⟨h1.1, by omega⟩ hM (by rw [psK_len]; exact hN) hMN hM8 htb (psK_in hpb (by omega) k) (by omega) q1 q2)
  have HP := Lib.hid hP
  have HN := Lib.hid hN
  have HMN := Lib.hid hMN
  have hN1 : N ≤ 1000 := by omega
  obtain ⟨i0, hii, hz0, hz1, hz2⟩ := info_parts Tryd.infoI
  clear hT hG hP hM hN hMN htb hpb hlk
  have h3lt : ∀ p, A3 = some p → 0 < N → p.block < w.heap.size := fun p hp h0 => by
    obtain ⟨b, o, e, hl, _⟩ := HP.out (by rw [← HN.out]; exact h0)
    rw [hp] at e
    cases e
    exact hl
  go_enter Tryd.func33, Tryd.ntmps33
  go_wp2
  refine name_world ?_
  intro w1 e1
  have bg := Lib.hid (show Blk w1 w.heap.size #[(.int .i64 lk), (.int .i64 ht), .slice A1 M c1, (.int .i64 rc), .slice A2 L c2] by rw [e1]; (repeat (first | ((with_reducible refine Blk.at_ ?_); focus (first | rfl | (simp; done) | (simp; omega))) | (with_reducible refine Blk.alloc ?_ _) | (with_reducible refine Blk.below ?_ (by with_reducible assumption)) | (with_reducible refine Blk.drew ?_))))
  have bs := Lib.hid (show Blk w1 (w.heap.size + 1) #[(.int .i64 h), (.int .i64 lv), .slice A3 N c3] by rw [e1]; (repeat (first | ((with_reducible refine Blk.at_ ?_); focus (first | rfl | (simp; done) | (simp; omega))) | (with_reducible refine Blk.alloc ?_ _) | (with_reducible refine Blk.below ?_ (by with_reducible assumption)) | (with_reducible refine Blk.drew ?_))))
  have ty := Lib.hid (show IsTy w1 (w.heap.size + 1) 26 by rw [e1]; exact ⟨_, heap_new (by simp)⟩)
  have HB1 := Lib.hid (show Below w.heap.size w w1 by rw [e1]; (repeat (first | (with_reducible exact Below.refl _ _) | ((with_reducible refine Below.setCell ?_ ?_ _); rotate_left 1; focus (first | (simp; done) | (simp; omega) | (simp at *; omega))) | ((with_reducible refine Below.alloc ?_ ?_ _); rotate_left 1; focus (first | (simp; done) | (simp; omega) | (simp at *; omega))) | (with_reducible refine Below.drew ?_) | ((with_reducible refine Calm.step (by assumption) ?_ ?_); rotate_left 1; focus (first | (simp; done) | (simp; omega) | (simp at *; omega))))))
  have P1 := Lib.hid (HP.out.below HB1.out)
  clear e1
  go_loopw [5] (fun o wr => ∃ (k : Nat) (B : Option Addr) (c : Nat), k ≤ N ∧ wr.ownsRow (w.heap.size + 2) 3 1 o k ((tailsL ts ps k).map (Value.int .i64)) ∧ Blk wr w.heap.size #[(.int .i64 lk), (.int .i64 ht), .slice A1 M c1, (.int .i64 rc), .slice A2 L c2] ∧ Blk wr (w.heap.size + 1) #[(.int .i64 (coolK lk h k)), (.int .i64 lv), .slice B N c] ∧ Cells wr B (psK ps k) ∧ (∀ p, B = some p → 0 < N → p.block ≠ w.heap.size + 1) ∧ IsTy wr (w.heap.size + 1) 26 ∧ Below w.heap.size w wr ∧ w.heap.size + 2 ≤ wr.heap.size) (fun o _ => N - lenS o)
  case atStart => exact ⟨0, A3, c3, Nat.zero_le _, World.ownsRow_nil _ _ _ _, bg.out, bs.out, P1.out, fun p hp h0 => by have := h3lt p hp h0; omega, ty.out, HB1.out, by have := bs.out.lt; omega⟩
  case round =>
    obtain ⟨k, B, c, hk, ho, kg, ks, kc, kne, kt, kb, kz⟩ := hrel
    obtain ⟨C, d, rfl⟩ := own_slice ho
    have HO := Lib.hid ho
    have KGB := Lib.hid kg
    have KSB := Lib.hid ks
    have KC := Lib.hid kc
    have KNE := Lib.hid kne
    have KTY := Lib.hid kt
    have KB := Lib.hid kb
    have HUW := Lib.hid (KG.st _ _ _ _ _ _ _ _ _ _ HU.out kb)
    obtain ⟨g0, g1, g2, g3, g4, gl, -⟩ := kg.o5
    obtain ⟨s0, s1, s2, sl, -⟩ := ks.o3
    clear ho kg ks kc kne kt kb
    have hM1 : (M : Int) = (N : Int) + 1 := by have := HMN.out; omega
    by_cases hlt : k < N
    · go_wp2_with (go_at_call 36; refine (HBE.out k _ hk HUW.out ⟨_, _, rfl, KC.out⟩).mono ?_; rintro r w2 ⟨v2, rfl, ⟨_, _, rfl, ⟨B2, d2, rfl, hc2, hi2, hf2⟩, rfl⟩, hb2⟩; refine Hid.out ?_)
      have KG2 := Lib.hid (KGB.out.below hb2)
      have KS2 := Lib.hid (KSB.out.below hb2)
      have TY2 := Lib.hid (KTY.out.below hb2)
      have HO2 := Lib.hid (ownsRow_below HO.out hb2)
      have KB2 := Lib.hid (KB.out.trans (hb2.mono KB.out.size))
      have hz2w := hb2.size
      have HF2 := Lib.hid hf2
      have HC2 := Lib.hid hc2
      have HI2 := Lib.hid hi2
      obtain ⟨H1, hH1⟩ : ∃ H1, H1 = coolK lk h (k + 1) := ⟨_, rfl⟩
      obtain ⟨X, hX⟩ : ∃ X, X = exF ts (psK ps k) 0 := ⟨_, rfl⟩
      have HTS := Lib.hid (show tailsL ts ps (k + 1) = tailsL ts ps k ++ [X] by rw [hX]; exact tailsL_succ ts ps k)
      have HH1 := Lib.hid hH1
      rw [← hH1, ← hX]
      clear hc2 hi2 hf2 hb2 g0 g1 g2 g3 g4 gl s0 s1 s2 sl HBE hH1 hX
      unfold Hid
      go_wp2_with (at_builtin; refine name_list ?_; intro w3 e3; refine Hid.out ?_)
      have hb3 : Below w2.heap.size w2 w3 := by rw [e3]; exact ((Below.refl _ _).alloc (Nat.le_refl _) _).alloc (by simp) _
      have KN3 := Lib.hid (show Blk w3 w2.heap.size #[(.int .i64 H1), (.int .i64 lv), .slice B2 N d2] by rw [e3]; exact (Calm.Blk.new _ _ _).alloc _)
      have KR3 := Lib.hid (show Blk w3 (w2.heap.size + 1) #[(.int .i64 X)] by rw [e3]; exact Calm.Blk.at_ (by simp))
      have hz3 : w3.heap.size = w2.heap.size + 2 := by rw [e3]; simp
      have KG3 := Lib.hid (KG2.out.below hb3)
      have KS3 := Lib.hid (KS2.out.below hb3)
      have TY3 := Lib.hid (TY2.out.below hb3)
      have HO3 := Lib.hid (ownsRow_below HO2.out hb3)
      have KB3 := Lib.hid (KB2.out.trans (hb3.mono KB2.out.size))
      have HC3 := Lib.hid (HC2.out.below hb3)
      have hlt0 := HO.out.lt
      have hzw := KB.out.size
      clear hb3
      unfold Hid
      refine wpList_append_own _ rfl _ _ 22 rfl (w.heap.size + 2) 3 i0 _ 1 8 Tryd.underlying22 hii hz0 hz1 hz2 rfl (by decide) _ _ _ rfl HO3.out ⟨w2.heap.size + 1, 0, none⟩ 1 1 [(.int .i64 X)] rfl rfl ?c1 ?c2 ?c3 ?c4 ?c5 ?_
      case c1 =>
        intro j u hj
        match j, hj with
        | 0, hj => simp at hj; subst hj; exact KR3.out.cell 0 _ rfl
      case c2 => intro u hu; simp at hu; subst hu; rfl
      case c3 => unfold maxLen; omega
      case c4 => omega
      case c5 => omega
      intro v4 w4 hown' hgrow _
      obtain ⟨C4, d4, rfl⟩ := own_slice hown'
      have hne : ∀ j, (Value.slice C k d).ownBlock = some j → w.heap.size + 2 ≤ j ∧ j < w2.heap.size := fun j hj => ⟨(hlt0 j hj).1, by have := (hlt0 j hj).2; omega⟩
      have bg4 := Lib.hid (grown_blk KG3.out hgrow (fun j hj => by have := hne j hj; omega))
      have bs4 := Lib.hid (grown_blk KS3.out hgrow (fun j hj => by have := hne j hj; omega))
      have bn4 := Lib.hid (grown_blk KN3.out hgrow (fun j hj => by have := hne j hj; omega))
      have HB4 := Lib.hid (KB3.out.grown hgrow KB3.out.size (fun j hj => by have := hne j hj; omega))
      have HO4 := Lib.hid hown'
      have hz4 : w3.heap.size ≤ w4.heap.size := hgrow.size
      have HC4 := Lib.hid (show Cells w4 B2 (psK ps (k + 1)) by
        intro h0
        obtain ⟨b, off, hB, hl, hc⟩ := HC3.out h0
        have hfb := HF2.out _ hB
        have e : w4.heap[b]? = w3.heap[b]? := hgrow.block b hl (fun e => by have h1 := hlt0 b e.symm; have h2 : wr.heap.size ≤ b := hfb; omega)
        exact ⟨b, off, hB, by omega, fun i hi => (World.cell?_of_block (w := w3) (a := ⟨b, off + i, none⟩) e).trans (hc i hi)⟩)
      have TY4 := Lib.hid (show IsTy w4 (w.heap.size + 1) 26 by
        obtain ⟨cs, hcs⟩ := TY3.out
        exact ⟨cs, (hgrow.block _ (by omega) (fun e => by have := hne _ e.symm; omega)).trans hcs⟩)
      clear hown' hgrow e3 hlt0 hne
      obtain ⟨n0, n1, n2, nl, -⟩ := bn4.out.o3
      obtain ⟨s0, s1, s2, sl, sf⟩ := bs4.out.o3
      go_wp2
      go_roundw
      case rel =>
        have q : ∀ p : Addr, B2 = some p → p.block ≠ w.heap.size + 1 := fun p hp => by have h1 : wr.heap.size ≤ p.block := HF2.out p hp; omega
        refine ⟨k + 1, B2, d2, by omega, ?_, ?_, ?_, ?_, fun p hp _ => q p hp, ((TY4.out.put 0 _).put 1 _).put 2 _, ((HB4.out.setCell (by simp) _).setCell (by simp) _).setCell (by simp) _, by simp; omega⟩
        · rw [HTS.out, List.map_append]
          exact ownsRow_setCell_below (ownsRow_setCell_below (ownsRow_setCell_below HO4.out (by simp) _) (by simp) _) (by simp) _
        · exact ((bg4.out.far (by simp) _).far (by simp) _).far (by simp) _
        · rw [← HH1.out]; exact bs4.out.set3 (.int .i64 H1) (.int .i64 lv) (.slice B2 N d2)
        · exact ((HC4.out.sets (fun _ => q) 0 _).sets (fun _ => q) 1 _).sets (fun _ => q) 2 _
      case measure => simp [lenS]; omega
    · obtain rfl : k = N := by omega
      go_wp2
      go_ret
      exact ⟨_, by first | rfl | (simp; done), own_ksi (by unfold tailsF; rw [tailsL_len]; exact HN.out) (by rw [show tailsF ts ps = tailsL ts ps k by rw [HN.out]; rfl]; exact HO.out), KB.out⟩
theorem rTails_K {lk ht rc h lv : Int} {ts gs ps : List Int} {M L N : Nat} {u v : Value} {W : World} (hlk : 1 ≤ lk ∧ lk ≤ 8) (hh : 0 ≤ h ∧ h ≤ 1099511627776) (hM : M = ts.length) (hN : N = ps.length) (hMN : M = N + 1) (hM8 : M ≤ 1000) (htb : inB 64 ts) (hpb : inB 2048 ps) (hu : KG lk ht rc M ts L gs u W) (hv : KT h lv N ps v W) :
    Calls Tryd.prog 33 #[u, v] W (KP (KSI N (tailsF ts ps)) W) := by
  obtain ⟨A1, c1, A2, c2, rfl, hT, hG⟩ := hu
  obtain ⟨A3, c3, rfl, hP⟩ := hv
  exact rTails_walk hlk hh hM hN hMN hM8 htb hpb hT hG hP
end Go.Proofs.YtdeapbihbhoefaaDoor

/- The reference's Safe. -/
namespace Go.Proofs.YtdeapbihbhoefaaDoor
open Go.RowKit
open Calm (bcell Blk)
def safeB (ht rc h : Int) (ts ps : List Int) : Bool := decide (h ≤ ht) && !farAny rc (tailsF ts ps)

set_option maxRecDepth 100000 in
set_option maxHeartbeats 4000000 in
theorem rSafe_walk {lk ht rc h lv : Int} {ts gs ps : List Int} {M L N : Nat} {A1 A2 A3 : Option Addr} {c1 c2 c3 : Nat} {w : World} (hlk : 1 ≤ lk ∧ lk ≤ 8) (hh : 0 ≤ h ∧ h ≤ 1099511627776) (hM : M = ts.length) (hN : N = ps.length) (hMN : M = N + 1) (hM8 : M ≤ 8) (htb : inB 64 ts) (hpb : inB 2048 ps)
    (hT : Cells w A1 ts) (hG : Cells w A2 gs) (hP : Cells w A3 ps) :
    Calls Tryd.prog 34 #[.agg #[(.int .i64 lk), (.int .i64 ht), .slice A1 M c1, (.int .i64 rc), .slice A2 L c2], .agg #[(.int .i64 h), (.int .i64 lv), .slice A3 N c3]] w (KP (KV (.bool (safeB ht rc h ts ps))) w) := by
  have HU := Lib.hid (show KG lk ht rc M ts L gs (.agg #[(.int .i64 lk), (.int .i64 ht), .slice A1 M c1, (.int .i64 rc), .slice A2 L c2]) w from ⟨_, _, _, _, rfl, hT, hG⟩)
  have HV := Lib.hid (show KT h lv N ps (.agg #[(.int .i64 h), (.int .i64 lv), .slice A3 N c3]) w from ⟨_, _, rfl, hP⟩)
  have HTL : Hid (∀ {u v : Value} (W : World), KG lk ht rc M ts L gs u W → KT h lv N ps v W → Calls Tryd.prog 33 #[u, v] W (KP (KSI N (tailsF ts ps)) W)) := Lib.hid (fun W q1 q2 => rTails_K hlk hh hM hN hMN (by omega) htb hpb q1 q2)
  have HLN := Lib.hid (show N = (tailsF ts ps).length by unfold tailsF; rw [tailsL_len]; exact hN)
  have HXB : Hid (∀ k, k < N → -1099511627776 ≤ (tailsF ts ps).getD k 0 ∧ (tailsF ts ps).getD k 0 ≤ 1099511627776) := Lib.hid (fun k hk => by
    have e : (tailsF ts ps).getD k 0 = exF ts (psK ps k) 0 := by
      unfold tailsF tailsL
      rw [List.getD_eq_getElem?_getD, List.getElem?_map, List.getElem?_range (by omega)]
      rfl
    rw [e]
    exact exF_bd htb (psK_in hpb (by omega) k) (by omega) (by rw [psK_len]; omega))
  obtain ⟨R, hR⟩ : ∃ R, R = safeB ht rc h ts ps := ⟨_, rfl⟩
  have HR1 : Hid ((∀ k, k < N → absI ((tailsF ts ps).getD k 0) ≤ rc) → R = decide (h ≤ ht)) := Lib.hid (fun q => by
    rw [hR]
    unfold safeB
    rw [farAny_false.2 (fun x hx => by
      obtain ⟨j, hj, e⟩ := List.mem_iff_getElem.1 hx
      have := q j (by rw [HLN.out]; exact hj)
      rwa [List.getD_eq_getElem?_getD, List.getElem?_eq_getElem hj, Option.getD_some, e] at this)]
    simp)
  have HR2 : Hid (∀ k, k < N → rc < absI ((tailsF ts ps).getD k 0) → R = false) := Lib.hid (fun k hk q => by
    rw [hR]
    unfold safeB
    have : farAny rc (tailsF ts ps) = true := by
      rcases Bool.eq_false_or_eq_true (farAny rc (tailsF ts ps)) with e | e
      · exact e
      · have h1 := farAny_false.1 e ((tailsF ts ps).getD k 0) (by
          rw [List.getD_eq_getElem?_getD, List.getElem?_eq_getElem (by rw [← HLN.out]; exact hk), Option.getD_some]
          exact List.getElem_mem _)
        omega
    rw [this]
    simp)
  rw [← hR]
  have hN1 : N ≤ 8 := by omega
  clear hT hG hP hM hN hMN htb hpb hlk hR
  go_enter Tryd.func34, Tryd.ntmps34
  go_wp2_with (go_at_call 33; refine name_calls ?_; intro w1 e1; refine Hid.out ?_)
  unfold Hid
  have hb1 : Below w.heap.size w w1 := by rw [e1]; (repeat (first | (with_reducible exact Below.refl _ _) | ((with_reducible refine Below.setCell ?_ ?_ _); rotate_left 1; focus (first | (simp; done) | (simp; omega) | (simp at *; omega))) | ((with_reducible refine Below.alloc ?_ ?_ _); rotate_left 1; focus (first | (simp; done) | (simp; omega) | (simp at *; omega))) | (with_reducible refine Below.drew ?_) | ((with_reducible refine Calm.step (by assumption) ?_ ?_); rotate_left 1; focus (first | (simp; done) | (simp; omega) | (simp at *; omega)))))
  have bg := Lib.hid (show Blk w1 w.heap.size #[(.int .i64 lk), (.int .i64 ht), .slice A1 M c1, (.int .i64 rc), .slice A2 L c2] by rw [e1]; (repeat (first | ((with_reducible refine Blk.at_ ?_); focus (first | rfl | (simp; done) | (simp; omega))) | (with_reducible refine Blk.alloc ?_ _) | (with_reducible refine Blk.below ?_ (by with_reducible assumption)) | (with_reducible refine Blk.drew ?_))))
  have bs := Lib.hid (show Blk w1 (w.heap.size + 1) #[(.int .i64 h), (.int .i64 lv), .slice A3 N c3] by rw [e1]; (repeat (first | ((with_reducible refine Blk.at_ ?_); focus (first | rfl | (simp; done) | (simp; omega))) | (with_reducible refine Blk.alloc ?_ _) | (with_reducible refine Blk.below ?_ (by with_reducible assumption)) | (with_reducible refine Blk.drew ?_))))
  refine (HTL.out _ (KG.st _ _ _ _ _ _ _ _ _ _ HU.out hb1) (KT.st _ _ _ _ _ _ _ HV.out hb1)).mono ?_
  rintro r w2 ⟨v2, rfl, hk2, hb2⟩
  obtain ⟨B, d, rfl, hc2, hi2⟩ := hk2
  have HK1 := Lib.hid (show KSI N (tailsF ts ps) (.slice B N d) w2 from ⟨_, _, rfl, hc2, hi2⟩)
  have bg2 := Lib.hid (bg.out.below hb2)
  have bs2 := Lib.hid (bs.out.below hb2)
  have HB2 := Lib.hid (hb1.trans (hb2.mono hb1.size))
  clear e1 hb1 hb2 hc2 hi2 HU HV HTL
  go_wp2
  go_loopw [6] (fun i wr => ∃ k : Nat, k ≤ N ∧ i = (.int .i64 ((k : Int))) ∧ (∀ j, j < k → absI ((tailsF ts ps).getD j 0) ≤ rc) ∧ Below w2.heap.size w2 wr) (fun i _ => N - (intOf i).toNat)
  case atStart => exact ⟨0, Nat.zero_le _, rfl, fun j hj => by omega, by (repeat (first | (with_reducible exact Below.refl _ _) | ((with_reducible refine Below.setCell ?_ ?_ _); rotate_left 1; focus (first | (simp; done) | (simp; omega) | (simp at *; omega))) | ((with_reducible refine Below.alloc ?_ ?_ _); rotate_left 1; focus (first | (simp; done) | (simp; omega) | (simp at *; omega))) | (with_reducible refine Below.drew ?_) | ((with_reducible refine Calm.step (by assumption) ?_ ?_); rotate_left 1; focus (first | (simp; done) | (simp; omega) | (simp at *; omega)))))⟩
  case round =>
    obtain ⟨k, hk, rfl, hfar, hbr⟩ := hrel
    have HBr := Lib.hid hbr
    have HFA := Lib.hid hfar
    have bgr := Lib.hid (bg2.out.below hbr)
    have bsr := Lib.hid (bs2.out.below hbr)
    clear hfar hbr
    obtain ⟨g0, g1, g2, g3, g4, gl, -⟩ := bgr.out.o5
    obtain ⟨s0, s1, s2, sl, -⟩ := bsr.out.o3
    by_cases hlt : k < N
    · skip
      obtain ⟨B', d', hB', hKC, hKR⟩ := (KSI.ik _ _).st _ _ _ HK1.out HBr.out
      cases hB'
      obtain ⟨b2, o2, hA, hbl2, hcell2⟩ := hKC (by rw [← HLN.out]; omega)
      subst hA
      have hck := hcell2 k (by rw [← HLN.out]; exact hlt)
      obtain ⟨x1, x2⟩ := HXB.out k hlt
      obtain ⟨x, hx⟩ : ∃ x, x = (tailsF ts ps).getD k 0 := ⟨_, rfl⟩
      rw [← hx] at hck x1 x2
      obtain ⟨X, hX⟩ : ∃ X, X = absI x := ⟨_, rfl⟩
      have HAX : Hid (∀ W, Calls Tryd.prog 82 #[(.int .i64 x)] W (KP (KV (.int .i64 X)) W)) := Lib.hid (fun W => by rw [hX]; exact (rAbs_any x W ⟨by omega, by omega⟩).mono fun e W' ⟨k1, k2⟩ => ⟨_, k1, rfl, k2 ▸ Below.refl _ _⟩)
      have HXX := Lib.hid (show X = absI ((tailsF ts ps).getD k 0) by rw [hX, hx])
      clear hcell2 hKC hKR hx hX
      by_cases hfx : X ≤ rc
      · go_wp2
        refine Rel.region3 7 (by kernel_rfl) (by kernel_rfl) (by kernel_rfl) ?_
        simp only [List.take_succ_cons, List.take_zero, List.drop_succ_cons, List.drop_zero, List.filterMap_cons, List.filterMap_nil]
        iterate 4 (apply Rel.op3; (focus (first | exact Rel.gno rfl | exact Rel.gyes _ true _ rfl rfl rfl | exact Rel.gyes _ false _ rfl rfl rfl)); (focus (intro a W hb hd hbase; obtain ⟨hc, hf⟩ := bcell hb; clear hb hf; simp [Rel.deps, Rel.dep1, Rel.ons, Region.binds, Act.eval, KV] at hd; simp only [Act.eval, List.mem_cons, List.not_mem_nil, not_or, and_imp, or_false, Array.getD_eq_getD_getElem?] at hbase; go_simp; (try go_bits); (try rfl); done)); (try simp only [List.nil_append, List.cons_append]))
        refine Rel.callK 82 (KV (.int .i64 X)) (KV.st _) (Rel.gno rfl) ?_ ?_
        · intro a W hb hd hbase
          have q1 : a.eval (.tmp 19) = _ := (Rel.dep_at hd 3 rfl rfl)
          refine ⟨#[a.eval (.tmp 19)], ?_, by rw [q1]; exact HAX.out _⟩
          clear hd hbase hb
          go_simp
          (first | done | rfl | (refine ⟨?_, ?_⟩ <;> rfl))
        (try simp only [List.nil_append, List.cons_append])
        iterate 2 (apply Rel.op3; (focus (first | exact Rel.gno rfl | exact Rel.gyes _ true _ rfl rfl rfl | exact Rel.gyes _ false _ rfl rfl rfl)); (focus (intro a W hb hd hbase; obtain ⟨hc, hf⟩ := bcell hb; clear hb hf; simp [Rel.deps, Rel.dep1, Rel.ons, Region.binds, Act.eval, KV] at hd; simp only [Act.eval, List.mem_cons, List.not_mem_nil, not_or, and_imp, or_false, Array.getD_eq_getD_getElem?] at hbase; go_simp; (try go_bits); (try rfl); done)); (try simp only [List.nil_append, List.cons_append]))
        refine Rel.done3 ?_
        intro x w21 h21 hx
        simp only [Rel.facts, Nat.zero_add, Nat.reduceAdd] at hx
        obtain ⟨e0, e1, e2, e3, e4, e5, e6, _⟩ := hx
        have e4 : x 4 = _ := e4
        simp only [Rel.fill, Nat.zero_add, Nat.reduceAdd, e0, e1, e2, e3, e4, e5, e6]
        simp only [Act.put, List.setIfInBounds_toArray, List.set_cons_zero, List.set_cons_succ]
        clear e0 e1 e2 e3 e4 e5 e6
        have HB21 := Lib.hid (HBr.out.trans (h21.mono HBr.out.size))
        go_wp2
        go_roundw
        case rel => exact ⟨k + 1, by omega, by go_num, fun j hj => by
          rcases Nat.lt_or_ge j k with q | q
          · exact HFA.out j q
          · obtain rfl : j = k := by omega
            rw [← HXX.out]; exact hfx, HB21.out⟩
        case measure => simp [intOf]; omega
      · have hRf := HR2.out k hlt (by rw [← HXX.out]; omega)
        subst hRf
        go_wp2
        refine Rel.region3 7 (by kernel_rfl) (by kernel_rfl) (by kernel_rfl) ?_
        simp only [List.take_succ_cons, List.take_zero, List.drop_succ_cons, List.drop_zero, List.filterMap_cons, List.filterMap_nil]
        iterate 4 (apply Rel.op3; (focus (first | exact Rel.gno rfl | exact Rel.gyes _ true _ rfl rfl rfl | exact Rel.gyes _ false _ rfl rfl rfl)); (focus (intro a W hb hd hbase; obtain ⟨hc, hf⟩ := bcell hb; clear hb hf; simp [Rel.deps, Rel.dep1, Rel.ons, Region.binds, Act.eval, KV] at hd; simp only [Act.eval, List.mem_cons, List.not_mem_nil, not_or, and_imp, or_false, Array.getD_eq_getD_getElem?] at hbase; go_simp; (try go_bits); (try rfl); done)); (try simp only [List.nil_append, List.cons_append]))
        refine Rel.callK 82 (KV (.int .i64 X)) (KV.st _) (Rel.gno rfl) ?_ ?_
        · intro a W hb hd hbase
          have q1 : a.eval (.tmp 19) = _ := (Rel.dep_at hd 3 rfl rfl)
          refine ⟨#[a.eval (.tmp 19)], ?_, by rw [q1]; exact HAX.out _⟩
          clear hd hbase hb
          go_simp
          (first | done | rfl | (refine ⟨?_, ?_⟩ <;> rfl))
        (try simp only [List.nil_append, List.cons_append])
        iterate 2 (apply Rel.op3; (focus (first | exact Rel.gno rfl | exact Rel.gyes _ true _ rfl rfl rfl | exact Rel.gyes _ false _ rfl rfl rfl)); (focus (intro a W hb hd hbase; obtain ⟨hc, hf⟩ := bcell hb; clear hb hf; simp [Rel.deps, Rel.dep1, Rel.ons, Region.binds, Act.eval, KV] at hd; simp only [Act.eval, List.mem_cons, List.not_mem_nil, not_or, and_imp, or_false, Array.getD_eq_getD_getElem?] at hbase; go_simp; (try go_bits); (try rfl); done)); (try simp only [List.nil_append, List.cons_append]))
        refine Rel.done3 ?_
        intro x w21 h21 hx
        simp only [Rel.facts, Nat.zero_add, Nat.reduceAdd] at hx
        obtain ⟨e0, e1, e2, e3, e4, e5, e6, _⟩ := hx
        have e4 : x 4 = _ := e4
        simp only [Rel.fill, Nat.zero_add, Nat.reduceAdd, e0, e1, e2, e3, e4, e5, e6]
        simp only [Act.put, List.setIfInBounds_toArray, List.set_cons_zero, List.set_cons_succ]
        clear e0 e1 e2 e3 e4 e5 e6
        have HB21 := Lib.hid (HBr.out.trans (h21.mono HBr.out.size))
        go_wp2
        go_ret
        exact ⟨_, by first | rfl | (simp; done), rfl, HB2.out.trans (HB21.out.mono HB2.out.size)⟩
    · obtain rfl : k = N := by omega
      have hRt := Lib.hid (HR1.out HFA.out)
      go_wp2
      go_ret
      exact ⟨_, by rw [hRt.out] <;> rfl, rfl, HB2.out.trans (HBr.out.mono HB2.out.size)⟩
theorem rSafe_K {lk ht rc h lv : Int} {ts gs ps : List Int} {M L N : Nat} {u v : Value} {W : World} (hlk : 1 ≤ lk ∧ lk ≤ 8) (hh : 0 ≤ h ∧ h ≤ 1099511627776) (hM : M = ts.length) (hN : N = ps.length) (hMN : M = N + 1) (hM8 : M ≤ 8) (htb : inB 64 ts) (hpb : inB 2048 ps) (hu : KG lk ht rc M ts L gs u W) (hv : KT h lv N ps v W) :
    Calls Tryd.prog 34 #[u, v] W (KP (KV (.bool (safeB ht rc h ts ps))) W) := by
  obtain ⟨A1, c1, A2, c2, rfl, hT, hG⟩ := hu
  obtain ⟨A3, c3, rfl, hP⟩ := hv
  exact rSafe_walk hlk hh hM hN hMN hM8 htb hpb hT hG hP
end Go.Proofs.YtdeapbihbhoefaaDoor

/- Plain laws of ProtectKeeps: the limits as sums of the taps. -/
namespace Go.Proofs.YtdeapbihbhoefaaDoor
open Go.RowKit

end Go.Proofs.YtdeapbihbhoefaaDoor

/- Plain laws of ProtectOpposite. -/
namespace Go.Proofs.YtdeapbihbhoefaaDoor
open Go.RowKit

theorem sigErr_ok {xs : List Int} (h : inB 2048 xs) (hn : xs.length ≤ 4096) : sigErr xs = 0 := by
  unfold sigErr
  rw [if_neg (by omega), eachErr_zero.2 h]
  rfl
end Go.Proofs.YtdeapbihbhoefaaDoor

/- Plain laws of ProtectLoudest: the search goes through all lists in their order. -/
namespace Go.Proofs.YtdeapbihbhoefaaDoor
open Go.RowKit

/-- whether outputs from a state on keep all conditions. -/
def pathB (lk ht rc : Int) (ts : List Int) : Int → List Int → List Int → Bool
  | _, _, [] => true
  | h, ps, y :: ys => fineF ht rc (coolF lk h + y * y) (exF ts ps y) ts (pushL ps y) && pathB lk ht rc ts (coolF lk h + y * y) (pushL ps y) ys
/-- all lists of so many levels, in their order. -/
def allL (ls : List Int) : Nat → List (List Int)
  | 0 => [[]]
  | n + 1 => ls.flatMap fun y => (allL ls n).map (y :: ·)
theorem keptK_filter (lk ht rc : Int) (ts : List Int) (s : St) (ls : List Int) : ∀ k, k ≤ ls.length → keptK lk ht rc ts s ls k = ((ls.take k).filter (keepB lk ht rc ts s)).map fun y => (y, nextF lk s y)
  | 0, _ => by simp [keptK]
  | k + 1, h => by
    have e : ls.getD k 0 = ls[k] := by rw [List.getD_eq_getElem?_getD, List.getElem?_eq_getElem (by omega)]; rfl
    rw [List.take_succ_eq_append_getElem (by omega), List.filter_append, List.map_append, ← keptK_filter lk ht rc ts s ls k (by omega)]
    simp only [keptK]
    rw [e]
    congr 1
    by_cases hk : keepB lk ht rc ts s ls[k] = true
    · rw [if_pos hk]; simp [hk]
    · rw [if_neg hk]; simp [hk]
theorem foldl_if {α β : Type} (p : α → Bool) (f : β → α → β) : ∀ (l : List α) (b : β), (l.filter p).foldl f b = l.foldl (fun b x => if p x then f b x else b) b
  | [], _ => rfl
  | x :: l, b => by
    rw [List.filter_cons, List.foldl_cons]
    by_cases h : p x = true
    · rw [if_pos h, if_pos h, List.foldl_cons, foldl_if p f l]
    · rw [if_neg h, if_neg h, foldl_if p f l]
theorem foldl_flat {α β γ : Type} (g : α → List β) (f : γ → β → γ) : ∀ (l : List α) (b : γ), (l.flatMap g).foldl f b = l.foldl (fun b x => (g x).foldl f b) b
  | [], _ => rfl
  | x :: l, b => by rw [List.flatMap_cons, List.foldl_append, List.foldl_cons, foldl_flat g f l]
theorem vis_all (lk ht rc : Int) (ts ls : List Int) : ∀ (n : Nat) (l : List Int) (s : St) (b : Option (List Int)), visF lk ht rc ts ls n l s b = (allL ls n).foldl (fun b x => if pathB lk ht rc ts s.h s.ps x then updB b (l ++ x) else b) b
  | 0, l, s, b => by simp [visF, allL, pathB]
  | n + 1, l, s, b => by
    show (keptK lk ht rc ts s ls ls.length).foldl (fun b x => visF lk ht rc ts ls n (l ++ [x.1]) x.2 b) b = _
    rw [keptK_filter _ _ _ _ _ _ _ (Nat.le_refl _), List.take_length, List.foldl_map, foldl_if]
    show _ = (ls.flatMap fun y => (allL ls n).map (y :: ·)).foldl _ b
    rw [foldl_flat]
    congr 1
    funext b y
    rw [List.foldl_map]
    by_cases hk : keepB lk ht rc ts s y = true
    · rw [if_pos hk, vis_all lk ht rc ts ls n]
      congr 1
      funext b x
      have e : pathB lk ht rc ts s.h s.ps (y :: x) = pathB lk ht rc ts (nextF lk s y).h (nextF lk s y).ps x := by
        show (keepB lk ht rc ts s y && _) = _
        rw [hk]; rfl
      rw [e, List.append_assoc]
      rfl
    · rw [if_neg hk]
      have e : ∀ x, pathB lk ht rc ts s.h s.ps (y :: x) = false := by
        intro x
        show (keepB lk ht rc ts s y && _) = _
        rw [Bool.not_eq_true] at hk
        rw [hk]; rfl
      simp only [e, Bool.false_eq_true, if_false]
      have : ∀ (L : List (List Int)) (b : Option (List Int)), L.foldl (fun b _ => b) b = b := by
        intro L
        induction L with
        | nil => intro b; rfl
        | cons a L ih => intro b; rw [List.foldl_cons, ih]
      rw [this]
end Go.Proofs.YtdeapbihbhoefaaDoor

/- Plain laws: what the reference computes is what the program computes. -/
namespace Go.Proofs.YtdeapbihbhoefaaDoor
open Go.RowKit

theorem enK_cons (y : Int) (l : List Int) : ∀ k, enK (y :: l) (k + 1) = y * y + enK l k
  | 0 => by simp [enK]
  | k + 1 => by
    show enK (y :: l) (k + 1) + (y :: l).getD (k + 1) 0 * (y :: l).getD (k + 1) 0 = _
    rw [enK_cons y l k, List.getD_cons_succ]
    simp only [enK]
    omega
theorem enF_cons (y : Int) (l : List Int) : enF (y :: l) = y * y + enF l := enK_cons y l l.length
/-- the better one of two lists, the first one where both are as good. -/
def updO (b o : Option (List Int)) : Option (List Int) := match o with
  | none => b
  | some x => updB b x
theorem updO_none (o : Option (List Int)) : updO none o = o := by cases o <;> rfl
theorem updB_if (a b : List Int) : updB (some a) b = if enF a < enF b then some b else some a := rfl
theorem updO_assoc (a b c : Option (List Int)) : updO (updO a b) c = updO a (updO b c) := by
  cases c with
  | none => rfl
  | some z =>
    cases b with
    | none => rfl
    | some y =>
      cases a with
      | none => rw [updO_none, updO_none]
      | some x =>
        show updB (updB (some x) y) z = updO (some x) (updB (some y) z)
        rw [updB_if, updB_if]
        by_cases h1 : enF x < enF y
        · rw [if_pos h1, updB_if]
          by_cases h2 : enF y < enF z
          · rw [if_pos h2]; show _ = updB (some x) z; rw [updB_if, if_pos (by omega)]
          · rw [if_neg h2]; show _ = updB (some x) y; rw [updB_if, if_pos h1]
        · rw [if_neg h1, updB_if]
          by_cases h2 : enF y < enF z
          · rw [if_pos h2]; rfl
          · rw [if_neg h2]
            show _ = updB (some x) y
            rw [updB_if, if_neg h1, if_neg (by omega)]
/-- the best of some lists. -/
def bestL (p : List Int → Bool) (L : List (List Int)) (b : Option (List Int)) : Option (List Int) := L.foldl (fun b x => if p x then updB b x else b) b
theorem best_from (p : List Int → Bool) : ∀ (L : List (List Int)) (b : Option (List Int)), bestL p L b = updO b (bestL p L none)
  | [], _ => rfl
  | a :: L, b => by
    show bestL p L (if p a then updB b a else b) = updO b (bestL p L (if p a then updB none a else none))
    by_cases h : p a = true
    · rw [if_pos h, if_pos h, best_from p L (updB b a), best_from p L (updB none a)]
      exact updO_assoc b (some a) _
    · rw [if_neg h, if_neg h, best_from p L b]
theorem updB_cons (y : Int) (b : Option (List Int)) (x : List Int) : updB (b.map (y :: ·)) (y :: x) = (updB b x).map (y :: ·) := by
  cases b with
  | none => rfl
  | some b =>
    show updB (some (y :: b)) (y :: x) = (updB (some b) x).map _
    rw [updB_if, updB_if, enF_cons, enF_cons]
    by_cases h : enF b < enF x
    · rw [if_pos h, if_pos (by omega)]; rfl
    · rw [if_neg h, if_neg (by omega)]; rfl
theorem best_cons (p q : List Int → Bool) (y : Int) (h : ∀ x, p (y :: x) = q x) : ∀ (L : List (List Int)) (b : Option (List Int)), bestL p (L.map (y :: ·)) (b.map (y :: ·)) = (bestL q L b).map (y :: ·)
  | [], _ => rfl
  | a :: L, b => by
    show bestL p (L.map (y :: ·)) (if p (y :: a) then updB (b.map (y :: ·)) (y :: a) else b.map (y :: ·)) = (bestL q L (if q a then updB b a else b)).map (y :: ·)
    rw [h, ← best_cons p q y h L]
    congr 1
    by_cases hq : q a = true
    · rw [if_pos hq, if_pos hq, updB_cons]
    · rw [if_neg hq, if_neg hq]
/-- the search of the reference: n further outputs from a heat and last outputs on. -/
def refK (lk ht rc : Int) (ts ls : List Int) (rec : Int → List Int → Option (List Int)) (h : Int) (ps : List Int) : Nat → Option (List Int)
  | 0 => none
  | k + 1 => if fineF ht rc (coolF lk h + ls.getD k 0 * ls.getD k 0) (exF ts ps (ls.getD k 0)) ts (pushL ps (ls.getD k 0))
      then updO (refK lk ht rc ts ls rec h ps k) ((rec (coolF lk h + ls.getD k 0 * ls.getD k 0) (pushL ps (ls.getD k 0))).map (ls.getD k 0 :: ·)) else refK lk ht rc ts ls rec h ps k
def refL (lk ht rc : Int) (ts ls : List Int) : Nat → Int → List Int → Option (List Int)
  | 0, _, _ => some []
  | n + 1, h, ps => refK lk ht rc ts ls (refL lk ht rc ts ls n) h ps ls.length
theorem refL_best (lk ht rc : Int) (ts ls : List Int) : ∀ (n : Nat) (h : Int) (ps : List Int), refL lk ht rc ts ls n h ps = bestL (pathB lk ht rc ts h ps) (allL ls n) none
  | 0, h, ps => rfl
  | n + 1, h, ps => by
    have key : ∀ k, k ≤ ls.length → refK lk ht rc ts ls (refL lk ht rc ts ls n) h ps k = bestL (pathB lk ht rc ts h ps) ((ls.take k).flatMap fun y => (allL ls n).map (y :: ·)) none := by
      intro k
      induction k with
      | zero => intro _; rfl
      | succ k ih =>
        intro hk
        have e : ls.getD k 0 = ls[k] := by rw [List.getD_eq_getElem?_getD, List.getElem?_eq_getElem (by omega)]; rfl
        obtain ⟨y, hy⟩ : ∃ y, y = ls.getD k 0 := ⟨_, rfl⟩
        rw [List.take_succ_eq_append_getElem (by omega), List.flatMap_append, ← e]
        simp only [refK]
        rw [ih (by omega), ← hy]
        show _ = bestL _ (_ ++ List.flatMap _ [y]) none
        rw [List.flatMap_cons, List.flatMap_nil, List.append_nil]
        unfold bestL
        rw [List.foldl_append]
        show _ = bestL (pathB lk ht rc ts h ps) ((allL ls n).map (y :: ·)) _
        by_cases hf : fineF ht rc (coolF lk h + y * y) (exF ts ps y) ts (pushL ps y) = true
        · rw [if_pos hf, refL_best lk ht rc ts ls n, best_from (pathB lk ht rc ts h ps) ((allL ls n).map (y :: ·))]
          congr 1
          have := best_cons (pathB lk ht rc ts h ps) (pathB lk ht rc ts (coolF lk h + y * y) (pushL ps y)) y (fun x => by show (_ && _) = _; rw [hf]; rfl) (allL ls n) none
          exact this.symm
        · rw [if_neg hf]
          have e2 : ∀ x, pathB lk ht rc ts h ps (y :: x) = false := fun x => by
            show (_ && _) = _
            rw [Bool.not_eq_true] at hf
            rw [hf]; rfl
          have : ∀ (L : List (List Int)) (b : Option (List Int)), bestL (pathB lk ht rc ts h ps) (L.map (y :: ·)) b = b := by
            intro L
            induction L with
            | nil => intro b; rfl
            | cons a L ih2 =>
              intro b
              show bestL _ (L.map (y :: ·)) (if pathB lk ht rc ts h ps (y :: a) then _ else b) = b
              rw [e2]
              exact ih2 b
          rw [this]
    show refK lk ht rc ts ls (refL lk ht rc ts ls n) h ps ls.length = _
    rw [key _ (Nat.le_refl _), List.take_length]
    rfl
theorem refL_loud (lk ht rc : Int) (ts gs ls : List Int) (n : Nat) : refL lk ht rc ts ls n 0 (List.replicate (ts.length - 1) 0) = loudF lk ht rc ts gs ls n := by
  rw [refL_best]
  unfold loudF
  rw [vis_all]
  rfl
end Go.Proofs.YtdeapbihbhoefaaDoor
